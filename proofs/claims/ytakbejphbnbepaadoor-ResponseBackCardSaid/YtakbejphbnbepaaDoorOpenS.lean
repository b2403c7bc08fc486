/-
  A list of replies as an argument, opened. No condition.
-/
import Derived.Test.YtakbejphbnbepaaDoorOpen
import Derived.Deep.Slices
import Derived.Deep.Strs
import Derived.Test.YtakbejphbnbepaaDoorPlainA
namespace Go.Proofs.YtakbejphbnbepaaDoor
open Go Go.ChangeShapes Go.WideShapes Go.ChangeAt Go.RowKit Go.Deep P19

theorem cellsRep : Tryd.prog.cellsOf 25 = 3 := by kernel_rfl
theorem cellsInt : Tryd.prog.cellsOf 3 = 1 := by kernel_rfl
theorem cellsStr : Tryd.prog.cellsOf 9 = 1 := by kernel_rfl
theorem cellsBool : Tryd.prog.cellsOf 4 = 1 := by kernel_rfl
theorem bytesRep : Tryd.prog.bytesOf 25 = 32 := by kernel_rfl
instance : Inhabited Rep := ⟨⟨0, [], false⟩⟩

section
variable {H : Type} {enc : TypeId × Value → H} {w : World} {spare : Nat → Bool} {held : Bool}
set_option maxRecDepth 100000 in
theorem open_reps {r : Reach} {b0 : Nat} {v : Value} {d : DataW H} {p : List MemPlace} (hval : Value.okWide Tryd.prog w r b0 33 v) (h : DataW.Trod enc Tryd.prog w 0 spare held 33 v d p) :
    ∃ (o : Option Addr) (n c0 : Nat) (l : List Rep), v = .slice o n c0 ∧ l.length = n ∧ (∀ r ∈ l, -9223372036854775808 ≤ r.status ∧ r.status ≤ 9223372036854775807 ∧ r.body.length ≤ maxLen) ∧
      (n = 0 ∨ ∃ g off, o = some ⟨g, off, none⟩ ∧ ∀ (j : Nat) (r : Rep), l[j]? = some r → w.cell? ⟨g, off + j * 3, none⟩ = some (.int .i64 r.status) ∧ w.cell? ⟨g, off + j * 3 + 1, none⟩ = some (bs r.body) ∧ w.cell? ⟨g, off + j * 3 + 2, none⟩ = some (.bool r.close)) ∧
      ((d = .nil ∧ n = 0) ∨ ∃ es sp, d = .slice es sp ∧ es.length = n) := by
  obtain ⟨a', l', c', rfl⟩ := okWide_slice Tryd.underlying33 hval
  obtain ⟨fuel, h⟩ := h
  rcases open_slice Tryd.underlying33 h with ⟨hv, hd⟩ | ⟨a, len, cap, m, k, D, Pl, hv, hb, hl, hm, hmm, hd, hx⟩
  · have hv' : Value.slice a' l' c' = .slice none 0 0 := by simpa [Value.cells] using hv
    injection hd with hd hp
    exact ⟨none, 0, 0, [], hv', rfl, by simp, .inl rfl, .inl ⟨hd, rfl⟩⟩
  · have hv' : Value.slice a' l' c' = .slice (some a) len cap := by simpa [Value.cells] using hv
    injection hd with hd hp
    have hlm : len ≤ m := by rw [hmm]; split <;> omega
    have each : ∀ i, i < len → ∃ q : Rep, (w.cell? (a.add (i * 3)) = some (.int .i64 q.status) ∧ w.cell? (a.add (i * 3 + 1)) = some (bs q.body) ∧ w.cell? (a.add (i * 3 + 2)) = some (.bool q.close)) ∧ (-9223372036854775808 ≤ q.status ∧ q.status ≤ 9223372036854775807 ∧ q.body.length ≤ maxLen) := by
      intro i hi
      obtain ⟨cs', h1, h2⟩ := hx i (by omega)
      rw [cellsRep] at h1
      obtain ⟨_, hlen, hcell⟩ := World.cells?_some h1
      obtain ⟨y0, y1, y2, k', hxy, _, u0, u1, u2⟩ := trod_struct3 Tryd.underlying25 h2
      match cs', hlen with
      | [v0, v1, v2], _ =>
        simp only [cellsInt, cellsStr, cellsBool, List.drop, List.take] at u0 u1 u2
        obtain ⟨st, e0, d0, wf⟩ := DataW.trod_int Tryd.underlying3 u0
        obtain ⟨b, e1, d1, hbm⟩ := DataW.trod_string Tryd.underlying9 u1
        obtain ⟨c, e2, d2⟩ := DataW.trod_bool Tryd.underlying4 u2
        simp only [List.cons.injEq, and_true] at e0 e1 e2
        subst e0 e1 e2
        have c0 := hcell 0 (by omega)
        have c1 := hcell 1 (by omega)
        have c2 := hcell 2 (by omega)
        rw [add_add] at c0 c1 c2
        have hr : IntKind.i64.min ≤ st ∧ st ≤ IntKind.i64.max := by simpa [Lit.wf] using wf
        refine ⟨⟨st, b.data.toList, c⟩, ⟨by simpa using c0, by rw [bs_data]; simpa using c1, by simpa using c2⟩, ?_, ?_, ?_⟩
        · have := hr.1; rw [show IntKind.i64.min = -9223372036854775808 by decide] at this; exact this
        · have := hr.2; rw [show IntKind.i64.max = 9223372036854775807 by decide] at this; exact this
        · rw [size_data]; exact hbm
    obtain ⟨q, hq⟩ := choose_lt each
    refine ⟨some a, len, cap, (List.range len).map q, hv', by simp, ?_, ?_, .inr ⟨_, _, hd, by simp⟩⟩
    · intro r hr
      obtain ⟨i, hi, rfl⟩ := List.mem_map.1 hr
      exact (hq i (List.mem_range.1 hi)).2
    · by_cases h0 : len = 0
      · exact .inl h0
      · right
        obtain ⟨g, off, spot⟩ := a
        have hsp : spot = none := by
          have := World.cell?_spot (hq 0 (by omega)).1.1
          simpa [Addr.add] using this
        subst hsp
        refine ⟨g, off, rfl, fun j r hj => ?_⟩
        have hjl : j < len := by
          have := (List.getElem?_eq_some_iff.1 hj).1
          simpa using this
        have hr : r = q j := by
          rw [List.getElem?_map, List.getElem?_range hjl] at hj
          simpa using hj.symm
        subst hr
        have hc := (hq j hjl).1
        rw [Lib.add_plain, Lib.add_plain, Lib.add_plain] at hc
        exact ⟨hc.1, hc.2.1, hc.2.2⟩
end
end Go.Proofs.YtakbejphbnbepaaDoor
