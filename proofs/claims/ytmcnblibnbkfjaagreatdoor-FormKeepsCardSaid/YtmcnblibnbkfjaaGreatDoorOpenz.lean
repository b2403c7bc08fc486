/-
  The seat's closed facts for its cards; a list of fields, a field, as arguments. No condition.
-/
import Derived.Test.YtmcnblibnbkfjaaGreatDoorLay
import Derived.Test.YtmcnblibnbkfjaaGreatDoorPost
import Derived.Test.YtmcnblibnbkfjaaGreatDoorTie
import Derived.Test.YtmcnblibnbkfjaaGreatDoorWalkE
import Derived.Test.YtmcnblibnbkfjaaGreatDoorWalkJ
import Derived.Deep.DeepHandedRow
import Derived.Deep.Slices
import Derived.Deep.Strs
import Derived.Lib.LaidTab
import Derived.Lib.SmallJoins
import Derived.Stop.LaidErr
import Derived.SizedLaws
import Derived.ChangeMaps5
namespace Go.Proofs.YtmcnblibnbkfjaaGreatDoor
open Go Go.ChangeShapes Go.WideShapes Go.ChangeAt Go.RowKit

theorem own : ownKnob Tryz.prog.godebug = none := by kernel_rfl
theorem laidOut : laidOutB Tryz.prog = true := by kernel_rfl
theorem gPow : Tryz.prog.globalNamed "internal/strconv.uint64pow10" = some 3 := by kernel_rfl
theorem gPowType : (Tryz.prog.globals[3]?).map (·.type) = some 136 := by kernel_rfl
theorem cellsPow : Tryz.prog.cellsOf 136 = 20 := by kernel_rfl
theorem cellsU64 : Tryz.prog.cellsOf 63 = 1 := by kernel_rfl
theorem gRng : Tryz.prog.globalNamed "strconv.ErrRange" = some 2 := by kernel_rfl
theorem gRngType : (Tryz.prog.globals[2]?).map (·.type) = some 61 := by kernel_rfl
theorem gSyn : Tryz.prog.globalNamed "strconv.ErrSyntax" = some 1 := by kernel_rfl
theorem gSynType : (Tryz.prog.globals[1]?).map (·.type) = some 61 := by kernel_rfl
theorem cellsES : Tryz.prog.cellsOf 134 = 1 := by kernel_rfl
theorem cellsStr : Tryz.prog.cellsOf 9 = 1 := by kernel_rfl
theorem star : "*" ++ "errors.errorString" = "*errors.errorString" := by decide
theorem rowES (u : TypeId) (h : Tryz.prog.typeName? 3 u = some "*errors.errorString") : u = 132 :=
  typeName_ptr_named (nm := "errors.errorString") (by rw [star]; kernel_rfl) (by kernel_rfl) (by decide) u (by rw [star]; exact h)
/-- What the rows' list gives: the library's table of powers of ten, and its two error values. -/
theorem env_of_laid {W : World} (h : laidMetH Tryz.prog Rows.formReadsRow.laid W) : W12.Env W := by
  have h3 := laidMet.tail (laidMet.tail h)
  refine ⟨Lib.tabIs_of_head gPow gPowType Tryz.underlying136 Tryz.underlying63 cellsU64 cellsPow h3, ?_, ?_⟩
  · obtain ⟨a, s, hv, _⟩ := laid_sentinel (laidMet.tail (laidMet.tail h3)) gSyn gSynType Tryz.underlying61 rowES Tryz.underlying132 Tryz.underlying134 rfl rfl Tryz.underlying9 cellsES cellsStr
    exact ⟨_, World.var?_cell gSyn hv 0, .inr ⟨_, _, rfl⟩⟩
  · obtain ⟨a, s, hv, _⟩ := laid_sentinel (laidMet.tail h3) gRng gRngType Tryz.underlying61 rowES Tryz.underlying132 Tryz.underlying134 rfl rfl Tryz.underlying9 cellsES cellsStr
    exact ⟨_, World.var?_cell gRng hv 0, .inr ⟨_, _, rfl⟩⟩
end Go.Proofs.YtmcnblibnbkfjaaGreatDoor
