/-
  A list of fields, and a field, as arguments, opened: with the capacity. No condition.
-/
import Derived.Test.YtmcnblibnbkfjaaGreatDoorOpenS
import Derived.Test.YtmcnblibnbkfjaaGreatDoorWalkW
namespace Go.Proofs.YtmcnblibnbkfjaaGreatDoor.W12
open Go Go.ChangeShapes Go.WideShapes Go.ChangeAt Go.RowKit Go.Deep P12

set_option maxRecDepth 100000 in
theorem rowsC_of {r : Reach} {b0 : Nat} {v : Value} {l : List Fld} {w : World} (h : Rows v l w) (hval : Value.okWide Tryz.prog w r b0 23 v) : RowsC v l w := by
  obtain ⟨o, c, rfl, h⟩ := h
  simp only [Value.okWide, Tryz.underlying23, Cell.okWide, Cell.ok] at hval
  cases o with
  | none =>
    rcases hl : l.length with _ | m
    · rw [hl] at hval
      rcases c with _ | c
      · exact .inl ⟨rfl, List.length_eq_zero_iff.1 hl⟩
      · simp at hval
    · rw [hl] at hval
      simp at hval
  | some ad =>
    obtain ⟨h1, h2, h3⟩ := hval
    obtain ⟨g, off, spot⟩ := ad
    obtain rfl : spot = none := h3.2.1
    refine .inr ⟨g, off, c, rfl, h1, ?_⟩
    rcases h with rfl | ⟨g', off', he, hc⟩
    · intro j f hj; simp at hj
    · injection he with he
      injection he with e1 e2
      subst e1 e2
      exact hc
section
variable {H : Type} {enc : TypeId × Value → H} {w : World} {spare : Nat → Bool} {held : Bool}
set_option maxRecDepth 100000 in
theorem open_fld {r : Reach} {b0 : Nat} {v : Value} {d : DataW H} {p : List MemPlace} (hval : Value.okWide Tryz.prog w r b0 33 v) (h : DataW.Trod enc Tryz.prog w 0 spare held 33 v d p) :
    ∃ (a s : ByteArray) (t : Bool) (n : Int), v = .agg #[.string a, .bool t, .int .i64 n, .string s] ∧ rangeF ⟨a.data.toList, t, n, s.data.toList⟩ := by
  obtain ⟨v0, v1, v2, v3, y0, y1, y2, y3, k, rfl, rfl, rfl, u0, u1, u2, u3⟩ := Joins.open_agg4 Tryz.underlying33 (by kernel_rfl) cellsFl hval h
  obtain ⟨b, e0, d0, hbm⟩ := DataW.trod_string Tryz.underlying9 u0
  obtain ⟨c, e1, d1⟩ := DataW.trod_bool Tryz.underlying4 u1
  obtain ⟨st, e2, d2, wf⟩ := DataW.trod_int Tryz.underlying3 u2
  obtain ⟨b', e3, d3, hbm'⟩ := DataW.trod_string Tryz.underlying9 u3
  simp only [List.cons.injEq, and_true] at e0 e1 e2 e3
  subst e0 e1 e2 e3
  have hr : IntKind.i64.min ≤ st ∧ st ≤ IntKind.i64.max := by simpa [Lit.wf] using wf
  refine ⟨b, b', c, st, rfl, ?_, ?_⟩
  · have := hr.1; rw [show IntKind.i64.min = -9223372036854775808 by decide] at this; exact this
  · have := hr.2; rw [show IntKind.i64.max = 9223372036854775807 by decide] at this; exact this
end
end Go.Proofs.YtmcnblibnbkfjaaGreatDoor.W12
