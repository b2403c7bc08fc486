/-
  The seat's closed facts for its cards; a reply as an argument. No condition.
-/
import Derived.Test.YtakbejphbnbepaaDoorLay
import Derived.Test.YtakbejphbnbepaaDoorPost
import Derived.Test.YtakbejphbnbepaaDoorTie
import Derived.Test.YtakbejphbnbepaaDoorEnv
import Derived.Deep.DeepHandedRow
import Derived.Lib.LaidTab
import Derived.Lib.SmallJoins
import Derived.Stop.LaidErr
import Derived.SizedLaws
import Derived.ChangeMaps5
namespace Go.Proofs.YtakbejphbnbepaaDoor
open Go Go.ChangeShapes Go.WideShapes Go.ChangeAt Go.RowKit

theorem own : ownKnob Tryd.prog.godebug = none := by kernel_rfl
theorem laidOut : laidOutB Tryd.prog = true := by kernel_rfl
theorem gPow : Tryd.prog.globalNamed "internal/strconv.uint64pow10" = some 0 := by kernel_rfl
theorem gPowType : (Tryd.prog.globals[0]?).map (·.type) = some 99 := by kernel_rfl
theorem cellsPow : Tryd.prog.cellsOf 99 = 20 := by kernel_rfl
theorem cellsU64 : Tryd.prog.cellsOf 79 = 1 := by kernel_rfl
/-- What the rows' list gives: the library's table of powers of ten. -/
theorem tab_of_laid {W : World} (h : laidMetH Tryd.prog Rows.responseNamesRow.laid W) : Tab W :=
  Lib.tabIs_of_head gPow gPowType Tryd.underlying99 Tryd.underlying79 cellsU64 cellsPow (laidMet.tail (laidMet.tail h))

section
variable {H : Type} {enc : TypeId × Value → H} {w : World} {base : Nat} {spare : Nat → Bool} {held : Bool}
set_option maxRecDepth 100000 in
/-- A reply as an argument: three fields of one cell each. -/
theorem open_rep {r : Reach} {b0 : Nat} {v : Value} {d : DataW H} {p : List MemPlace} (hv : Value.okWide Tryd.prog w r b0 25 v) (h : DataW.Trod enc Tryd.prog w base spare held 25 v d p) :
    ∃ (st : Int) (b : ByteArray) (c : Bool), v = .agg #[.int .i64 st, .string b, .bool c] ∧ d = .agg [.lit (.int .i64 st), .lit (.string b.data.toList), .lit (.bool c)] ∧ p = [] ∧
      -9223372036854775808 ≤ st ∧ st ≤ 9223372036854775807 ∧ b.size ≤ maxLen := by
  obtain ⟨v0, v1, v2, y0, y1, y2, n, rfl, rfl, rfl, t0, t1, t2⟩ := Joins.open_agg3 Tryd.underlying25 (by kernel_rfl) (by kernel_rfl) hv h
  obtain ⟨st, e0, rfl, wf⟩ := DataW.trod_int Tryd.underlying3 t0
  obtain ⟨b, e1, rfl, hb⟩ := DataW.trod_string Tryd.underlying9 t1
  obtain ⟨c, e2, rfl⟩ := DataW.trod_bool Tryd.underlying4 t2
  simp only [List.cons.injEq, and_true] at e0 e1 e2
  subst e0 e1 e2
  have : IntKind.i64.min ≤ st ∧ st ≤ IntKind.i64.max := by simpa [Lit.wf] using wf
  refine ⟨st, b, c, rfl, rfl, rfl, ?_, ?_, hb⟩
  · have := this.1; rw [show IntKind.i64.min = -9223372036854775808 by decide] at this; exact this
  · have := this.2; rw [show IntKind.i64.max = 9223372036854775807 by decide] at this; exact this
end
end Go.Proofs.YtakbejphbnbepaaDoor
