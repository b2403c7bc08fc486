/-
  A list of fields as an argument, opened. No condition.
-/
import Derived.Test.YtmcnblibnbkfjaaGreatDoorWalkJ
import Derived.Test.YtmcnblibnbkfjaaGreatDoorPlainB
import Derived.Deep.DeepHandedRow
import Derived.Deep.Slices
import Derived.Deep.Strs
import Derived.Lib.SmallJoins
import Derived.SizedLaws
import Derived.ChangeMaps5
namespace Go.Proofs.YtmcnblibnbkfjaaGreatDoor.W12
open Go Go.ChangeShapes Go.WideShapes Go.ChangeAt Go.RowKit Go.Deep P12

theorem cellsFl : Tryz.prog.cellsOf 33 = 4 := by kernel_rfl
theorem cellsIn : Tryz.prog.cellsOf 3 = 1 := by kernel_rfl
theorem cellsSt : Tryz.prog.cellsOf 9 = 1 := by kernel_rfl
theorem cellsBo : Tryz.prog.cellsOf 4 = 1 := by kernel_rfl
theorem bytesF : Tryz.prog.bytesOf 33 = 48 := by kernel_rfl
instance : Inhabited Fld := ⟨⟨[], false, 0, []⟩⟩

section
variable {H : Type} {enc : TypeId × Value → H} {w : World} {spare : Nat → Bool} {held : Bool}
set_option maxRecDepth 100000 in
theorem open_flds {r : Reach} {b0 : Nat} {v : Value} {d : DataW H} {p : List MemPlace} (hval : Value.okWide Tryz.prog w r b0 23 v) (h : DataW.Trod enc Tryz.prog w 0 spare held 23 v d p) :
    ∃ (l : List Fld), Rows v l w ∧ (∀ f ∈ l, rangeF f ∧ f.name.length ≤ maxLen ∧ f.s.length ≤ maxLen) ∧
      ((d = .nil ∧ l.length = 0) ∨ ∃ es sp, d = .slice es sp ∧ es.length = l.length) := by
  obtain ⟨a', l', c', rfl⟩ := okWide_slice Tryz.underlying23 hval
  obtain ⟨fuel, h⟩ := h
  rcases open_slice Tryz.underlying23 h with ⟨hv, hd⟩ | ⟨a, len, cap, m, k, D, Pl, hv, hb, hl, hm, hmm, hd, hx⟩
  · have hv' : Value.slice a' l' c' = .slice none 0 0 := by simpa [Value.cells] using hv
    injection hd with hd hp
    exact ⟨[], ⟨none, 0, hv', .inl rfl⟩, by simp, .inl ⟨hd, rfl⟩⟩
  · have hv' : Value.slice a' l' c' = .slice (some a) len cap := by simpa [Value.cells] using hv
    injection hd with hd hp
    have hlm : len ≤ m := by rw [hmm]; split <;> omega
    have each : ∀ i, i < len → ∃ q : Fld, (w.cell? (a.add (i * 4)) = some (bs q.name) ∧ w.cell? (a.add (i * 4 + 1)) = some (.bool q.text) ∧ w.cell? (a.add (i * 4 + 2)) = some (.int .i64 q.n) ∧ w.cell? (a.add (i * 4 + 3)) = some (bs q.s)) ∧ (rangeF q ∧ q.name.length ≤ maxLen ∧ q.s.length ≤ maxLen) := by
      intro i hi
      obtain ⟨cs', h1, h2⟩ := hx i (by omega)
      rw [cellsFl] at h1
      obtain ⟨_, hlen, hcell⟩ := World.cells?_some h1
      obtain ⟨y0, y1, y2, y3, k', hxy, _, u0, u1, u2, u3⟩ := Joins.trod_struct4 Tryz.underlying33 h2
      match cs', hlen with
      | [v0, v1, v2, v3], _ =>
        simp only [cellsIn, cellsSt, cellsBo, List.drop, List.take] at u0 u1 u2 u3
        obtain ⟨b, e0, d0, hbm⟩ := DataW.trod_string Tryz.underlying9 u0
        obtain ⟨c, e1, d1⟩ := DataW.trod_bool Tryz.underlying4 u1
        obtain ⟨st, e2, d2, wf⟩ := DataW.trod_int Tryz.underlying3 u2
        obtain ⟨b', e3, d3, hbm'⟩ := DataW.trod_string Tryz.underlying9 u3
        simp only [List.cons.injEq, and_true] at e0 e1 e2 e3
        subst e0 e1 e2 e3
        have c0 := hcell 0 (by omega)
        have c1 := hcell 1 (by omega)
        have c2 := hcell 2 (by omega)
        have c3 := hcell 3 (by omega)
        rw [add_add] at c0 c1 c2 c3
        have hr : IntKind.i64.min ≤ st ∧ st ≤ IntKind.i64.max := by simpa [Lit.wf] using wf
        refine ⟨⟨b.data.toList, c, st, b'.data.toList⟩, ⟨by rw [bs_data]; simpa using c0, by simpa using c1, by simpa using c2, by rw [bs_data]; simpa using c3⟩, ⟨?_, ?_⟩, ?_, ?_⟩
        · have := hr.1; rw [show IntKind.i64.min = -9223372036854775808 by decide] at this; exact this
        · have := hr.2; rw [show IntKind.i64.max = 9223372036854775807 by decide] at this; exact this
        · rw [size_data]; exact hbm
        · rw [size_data]; exact hbm'
    obtain ⟨q, hq⟩ := choose_lt each
    have hlq : ((List.range len).map q).length = len := by simp
    refine ⟨(List.range len).map q, ⟨some a, cap, by rw [hlq]; exact hv', ?_⟩, ?_, .inr ⟨_, _, hd, by simp⟩⟩
    · by_cases h0 : len = 0
      · subst h0; exact .inl rfl
      · right
        obtain ⟨g, off, spot⟩ := a
        have hsp : spot = none := by
          have := World.cell?_spot (hq 0 (by omega)).1.1
          simpa [Addr.add] using this
        subst hsp
        refine ⟨g, off, rfl, fun j r hj => ?_⟩
        have hjl : j < len := by
          have := (List.getElem?_eq_some_iff.1 hj).1
          simpa using this
        have hr : r = q j := by
          rw [List.getElem?_map, List.getElem?_range hjl] at hj
          simpa using hj.symm
        subst hr
        have hc := (hq j hjl).1
        rw [Lib.add_plain, Lib.add_plain, Lib.add_plain, Lib.add_plain] at hc
        exact ⟨hc.1, hc.2.1, hc.2.2.1, hc.2.2.2⟩
    · intro r hr
      obtain ⟨i, hi, rfl⟩ := List.mem_map.1 hr
      exact (hq i (List.mem_range.1 hi)).2
end
end Go.Proofs.YtmcnblibnbkfjaaGreatDoor.W12
