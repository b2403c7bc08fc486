/-
  Walks of layer 19: the four steps of Read (closures over five variables), Read itself. Conditions: the library's table; the text's own bound.
-/
import Derived.Test.YtakbejphbnbepaaDoorWalkH
namespace Go.Proofs.YtakbejphbnbepaaDoor.W19
open Go Go.RowKit P19

theorem heap_set {w : World} {b o : Nat} {v : Value} {cs : Array Value} {T : TypeId} {fr : Nat × Nat} (h : w.heap[b]? = some (.cells cs T fr)) : (w.setCell ⟨b, o, none⟩ v).heap[b]? = some (.cells (cs.setIfInBounds o v) T fr) := by
  simp [World.setCell, Array.getElem?_modify, h]
theorem heap_set_ne {w : World} {b o k : Nat} {v : Value} (h : k ≠ b) : (w.setCell ⟨b, o, none⟩ v).heap[k]? = w.heap[k]? := Below.heap_setCell _ _ _ _ h
theorem frozen_of_heap {w : World} {b : Nat} {cs : Array Value} {T : TypeId} (h : w.heap[b]? = some (.cells cs T (0, 0))) (j : Nat) : w.frozen? ⟨b, j, none⟩ = false := by
  simp [World.frozen?, h]

/-- The variables of Read: the result's box, out, n, e, rest, the steps. -/
structure Bx (B : Nat) (fs : Array Value) (st : Int) (b : ByteArray) (c : Bool) (n e : Int) (r : ByteArray) (w : World) : Prop where
  zero : w.heap[B]? = some (.cells #[.int .i64 0, .string ⟨#[]⟩, .bool false] 25 (0, 0))
  out : w.heap[B + 1]? = some (.cells #[.int .i64 st, .string b, .bool c] 25 (0, 0))
  num : w.heap[B + 2]? = some (.cells #[.int .i64 n] 3 (0, 0))
  err : w.heap[B + 3]? = some (.cells #[.int .i64 e] 26 (0, 0))
  rest : w.heap[B + 4]? = some (.cells #[.string r] 9 (0, 0))
  fns : w.heap[B + 5]? = some (.cells fs 45 (0, 0))
variable {B : Nat} {fs : Array Value} {st : Int} {b : ByteArray} {c : Bool} {n e : Int} {r : ByteArray} {w w1 : World}
theorem Bx.lt (h : Bx B fs st b c n e r w) : B + 5 < w.heap.size := lt_of_some h.fns
theorem Bx.keep (h : Bx B fs st b c n e r w) (hb : Below w.heap.size w w1) : Bx B fs st b c n e r w1 := by
  have hl := h.lt
  exact ⟨(hb.block _ (by omega)).trans h.zero, (hb.block _ (by omega)).trans h.out, (hb.block _ (by omega)).trans h.num, (hb.block _ (by omega)).trans h.err, (hb.block _ (by omega)).trans h.rest, (hb.block _ (by omega)).trans h.fns⟩
theorem Bx.setSt (h : Bx B fs st b c n e r w) (x : Int) : Bx B fs x b c n e r (w.setCell ⟨B + 1, 0, none⟩ (.int .i64 x)) :=
  ⟨(heap_set_ne (by omega)).trans h.zero, heap_set h.out, (heap_set_ne (by omega)).trans h.num, (heap_set_ne (by omega)).trans h.err, (heap_set_ne (by omega)).trans h.rest, (heap_set_ne (by omega)).trans h.fns⟩
theorem Bx.setB (h : Bx B fs st b c n e r w) (x : ByteArray) : Bx B fs st x c n e r (w.setCell ⟨B + 1, 1, none⟩ (.string x)) :=
  ⟨(heap_set_ne (by omega)).trans h.zero, heap_set h.out, (heap_set_ne (by omega)).trans h.num, (heap_set_ne (by omega)).trans h.err, (heap_set_ne (by omega)).trans h.rest, (heap_set_ne (by omega)).trans h.fns⟩
theorem Bx.setC (h : Bx B fs st b c n e r w) (x : Bool) : Bx B fs st b x n e r (w.setCell ⟨B + 1, 2, none⟩ (.bool x)) :=
  ⟨(heap_set_ne (by omega)).trans h.zero, heap_set h.out, (heap_set_ne (by omega)).trans h.num, (heap_set_ne (by omega)).trans h.err, (heap_set_ne (by omega)).trans h.rest, (heap_set_ne (by omega)).trans h.fns⟩
theorem Bx.setN (h : Bx B fs st b c n e r w) (x : Int) : Bx B fs st b c x e r (w.setCell ⟨B + 2, 0, none⟩ (.int .i64 x)) :=
  ⟨(heap_set_ne (by omega)).trans h.zero, (heap_set_ne (by omega)).trans h.out, heap_set h.num, (heap_set_ne (by omega)).trans h.err, (heap_set_ne (by omega)).trans h.rest, (heap_set_ne (by omega)).trans h.fns⟩
theorem Bx.setE (h : Bx B fs st b c n e r w) (x : Int) : Bx B fs st b c n x r (w.setCell ⟨B + 3, 0, none⟩ (.int .i64 x)) :=
  ⟨(heap_set_ne (by omega)).trans h.zero, (heap_set_ne (by omega)).trans h.out, (heap_set_ne (by omega)).trans h.num, heap_set h.err, (heap_set_ne (by omega)).trans h.rest, (heap_set_ne (by omega)).trans h.fns⟩
theorem Bx.setR (h : Bx B fs st b c n e r w) (x : ByteArray) : Bx B fs st b c n e x (w.setCell ⟨B + 4, 0, none⟩ (.string x)) :=
  ⟨(heap_set_ne (by omega)).trans h.zero, (heap_set_ne (by omega)).trans h.out, (heap_set_ne (by omega)).trans h.num, (heap_set_ne (by omega)).trans h.err, heap_set h.rest, (heap_set_ne (by omega)).trans h.fns⟩
/-- What a walk reads of them. -/
theorem Bx.cells (h : Bx B fs st b c n e r w) : w.cell? ⟨B + 1, 0, none⟩ = some (.int .i64 st) ∧ w.cell? ⟨B + 1, 1, none⟩ = some (.string b) ∧ w.cell? ⟨B + 1, 2, none⟩ = some (.bool c) ∧ w.cell? ⟨B + 2, 0, none⟩ = some (.int .i64 n) ∧
    w.cell? ⟨B + 3, 0, none⟩ = some (.int .i64 e) ∧ w.cell? ⟨B + 4, 0, none⟩ = some (.string r) ∧
    w.frozen? ⟨B + 1, 0, none⟩ = false ∧ w.frozen? ⟨B + 1, 1, none⟩ = false ∧ w.frozen? ⟨B + 1, 2, none⟩ = false ∧ w.frozen? ⟨B + 2, 0, none⟩ = false ∧ w.frozen? ⟨B + 3, 0, none⟩ = false ∧ w.frozen? ⟨B + 4, 0, none⟩ = false :=
  ⟨Lib.cell_of_heap h.out 0, Lib.cell_of_heap h.out 1, Lib.cell_of_heap h.out 2, Lib.cell_of_heap h.num 0, Lib.cell_of_heap h.err 0, Lib.cell_of_heap h.rest 0,
    frozen_of_heap h.out 0, frozen_of_heap h.out 1, frozen_of_heap h.out 2, frozen_of_heap h.num 0, frozen_of_heap h.err 0, frozen_of_heap h.rest 0⟩

theorem status_as (s : ByteArray) (n : Int) (R : ByteArray) (E : Int) (h : statusL s.data.toList = (n, R.data.toList, E)) (w : World) (hT : Tab w) :
    Calls Tryd.prog 24 #[.string s] w fun e w' => e = .returned (.tuple #[.int .i64 n, .string R, .int .i64 E]) ∧ Below w.heap.size w w' := by
  have := status_any s w hT
  rw [h] at this
  exact this.mono fun _ _ ⟨he, hw⟩ => ⟨he.trans (ret3 rfl (bs_data R) rfl), hw⟩

set_option maxHeartbeats 1000000 in
theorem step1 (hb : Bx B fs st b c n e r w) (hT : Tab w) (m : Int) (R : ByteArray) (E : Int) (h : statusL r.data.toList = (m, R.data.toList, E)) :
    Calls Tryd.prog 23 #[.pointer (some ⟨B + 4, 0, none⟩), .pointer (some ⟨B + 1, 0, none⟩), .pointer (some ⟨B + 3, 0, none⟩)] w fun en w' => en = .returned (.int .i64 E) ∧ Bx B fs m b c n E R w' ∧ Below B w w' := by
  have HB := Lib.hid hb
  have hl := hb.lt
  obtain ⟨-, -, -, -, -, c6, -⟩ := hb.cells
  have H := Lib.hid h
  clear h hb
  go_enter Tryd.func23, Tryd.ntmps23
  go_wp2_with (go_at_call 24; refine (status_as r m R E H.out _ hT).mono ?_; rintro en w1 ⟨rfl, hb1⟩; have HK := Lib.hid (HB.out.keep hb1); obtain ⟨d1, d2, d3, d4, d5, d6, f1, f2, f3, f4, f5, f6⟩ := HK.out.cells)
  go_ret
  exact ⟨rfl, ((HK.out.setSt _).setR _).setE _, (((hb1.mono (by omega)).setCell (by simp) _).setCell (by simp) _).setCell (by simp) _⟩

set_option maxHeartbeats 1000000 in
theorem step2 (hb : Bx B fs st b c n e r w) (R : ByteArray) (E : Int) (h : wordL r.data.toList lenB = (R.data.toList, E)) :
    Calls Tryd.prog 25 #[.pointer (some ⟨B + 4, 0, none⟩), .pointer (some ⟨B + 3, 0, none⟩)] w fun en w' => en = .returned (.int .i64 E) ∧ Bx B fs st b c n E R w' ∧ Below B w w' := by
  have HB := Lib.hid hb
  have hl := hb.lt
  obtain ⟨-, -, -, -, d5, d6, -, -, -, -, f5, f6⟩ := hb.cells
  have H := Lib.hid h
  clear h hb
  go_enter Tryd.func25, Tryd.ntmps25
  go_wp2_with (go_at_call 26; refine (word_as r ⟨lenB.toArray⟩ R E H.out _).mono ?_; rintro en w1 ⟨rfl, rfl⟩)
  go_ret
  exact ⟨rfl, (HB.out.setR _).setE _, ((Below.refl _ _).setCell (by simp) _).setCell (by simp) _⟩

theorem number_as (s : ByteArray) (m : Nat) (R : ByteArray) (E : Int) (h : numberL s.data.toList = (m, R.data.toList, E)) (w : World) (hm : s.size ≤ 9223372036854775806) :
    Calls Tryd.prog 28 #[.string s] w fun e w' => e = .returned (.tuple #[.int .i64 m, .string R, .int .i64 E]) ∧ Below w.heap.size w w' := by
  have := number_any s w hm
  rw [h] at this
  exact this.mono fun _ _ ⟨he, hw⟩ => ⟨he.trans (ret3 rfl (bs_data R) rfl), hw⟩

set_option maxHeartbeats 1000000 in
theorem step3 (hb : Bx B fs st b c n e r w) (hm : r.size ≤ 9223372036854775806) (m : Nat) (R : ByteArray) (E : Int) (h : numberL r.data.toList = (m, R.data.toList, E)) :
    Calls Tryd.prog 27 #[.pointer (some ⟨B + 4, 0, none⟩), .pointer (some ⟨B + 2, 0, none⟩), .pointer (some ⟨B + 3, 0, none⟩)] w fun en w' => en = .returned (.int .i64 E) ∧ Bx B fs st b c m E R w' ∧ Below B w w' := by
  have HB := Lib.hid hb
  have hl := hb.lt
  obtain ⟨-, -, -, -, -, c6, -⟩ := hb.cells
  have H := Lib.hid h
  clear h hb
  go_enter Tryd.func27, Tryd.ntmps27
  go_wp2_with (go_at_call 28; refine (number_as r m R E H.out _ hm).mono ?_; rintro en w1 ⟨rfl, hb1⟩; have HK := Lib.hid (HB.out.keep hb1); obtain ⟨d1, d2, d3, d4, d5, d6, f1, f2, f3, f4, f5, f6⟩ := HK.out.cells)
  go_ret
  exact ⟨rfl, ((HK.out.setN _).setR _).setE _, (((hb1.mono (by omega)).setCell (by simp) _).setCell (by simp) _).setCell (by simp) _⟩

/-- The fourth step: its answer, whether the reply closes, the rest. -/
theorem tailL_cases (l : By) : (∃ A, wordL l closeB = (A, 0) ∧ tailL l = (true, wordL A crlf)) ∨ ((wordL l closeB).2 = 192 ∧ tailL l = (false, [], 192)) ∨ ((wordL l closeB).2 = 193 ∧ tailL l = (false, wordL l crlf)) := by
  rcases wordL_cases l closeB with h | h | h
  · exact .inl ⟨(wordL l closeB).1, by rw [← h], by unfold tailL; rw [if_pos h]⟩
  · exact .inr (.inl ⟨by rw [h], by unfold tailL; rw [h]; rfl⟩)
  · exact .inr (.inr ⟨by rw [h], by unfold tailL; rw [h]; rfl⟩)

set_option maxHeartbeats 1600000 in
theorem step4 (hb : Bx B fs st b false n e r w) :
    Calls Tryd.prog 29 #[.pointer (some ⟨B + 4, 0, none⟩), .pointer (some ⟨B + 1, 0, none⟩), .pointer (some ⟨B + 3, 0, none⟩)] w fun en w' => en = .returned (.int .i64 (tailL r.data.toList).2.2) ∧
      ((tailL r.data.toList).2.2 = 0 → ∃ (R : ByteArray) (e' : Int), R.data.toList = (tailL r.data.toList).2.1 ∧ Bx B fs st b (tailL r.data.toList).1 n e' R w') ∧ (∃ (c' : Bool) (R : ByteArray) (e' : Int), Bx B fs st b c' n e' R w') ∧ Below B w w' := by
  have HB := Lib.hid hb
  have hl := hb.lt
  obtain ⟨-, -, d3, -, d5, d6, -, -, f3, -, f5, f6⟩ := hb.cells
  clear hb
  rcases tailL_cases r.data.toList with ⟨A, hA, ht⟩ | ⟨hA, ht⟩ | ⟨hA, ht⟩
  · obtain ⟨A', hA'⟩ : ∃ A' : ByteArray, A'.data.toList = A := ⟨⟨A.toArray⟩, by simp⟩
    obtain ⟨R, E, hRE⟩ := word_named A crlf
    have H1 := Lib.hid (show wordL r.data.toList closeB = (A'.data.toList, 0) by rw [hA, hA'])
    have H2 := Lib.hid (show wordL A'.data.toList crlf = (R.data.toList, E) by rw [hA', hRE])
    have HT := Lib.hid (show tailL r.data.toList = (true, R.data.toList, E) by rw [ht, hRE])
    clear hA ht hA' hRE
    go_enter Tryd.func29, Tryd.ntmps29
    go_wp2_with fail
    refine (word_as r ⟨closeB.toArray⟩ A' 0 H1.out _).mono ?_
    rintro en w1 ⟨rfl, rfl⟩
    go_wp2_with fail
    refine (word_as A' ⟨crlf.toArray⟩ R E H2.out _).mono ?_
    rintro en w1 ⟨rfl, rfl⟩
    go_wp2_with fail
    go_ret
    have hB2 := (((HB.out.setC true).setR A').setR R).setE E
    rw [HT.out]
    exact ⟨rfl, fun _ => ⟨R, E, rfl, hB2⟩, ⟨_, _, _, hB2⟩, ((((Below.refl _ _).setCell (by simp) _).setCell (by simp) _).setCell (by simp) _).setCell (by simp) _⟩
  · obtain ⟨A, E0, hAE⟩ := word_named r.data.toList closeB
    obtain rfl : E0 = 192 := by rw [hAE] at hA; exact hA
    have H1 := Lib.hid hAE
    have HT := Lib.hid ht
    clear hA ht hAE
    go_enter Tryd.func29, Tryd.ntmps29
    go_wp2_with fail
    refine (word_as r ⟨closeB.toArray⟩ A 192 H1.out _).mono ?_
    rintro en w1 ⟨rfl, rfl⟩
    go_wp2_with fail
    go_ret
    rw [HT.out]
    exact ⟨rfl, fun h => absurd h (by decide), ⟨_, _, _, HB.out⟩, Below.refl _ _⟩
  · obtain ⟨A, E0, hAE⟩ := word_named r.data.toList closeB
    obtain rfl : E0 = 193 := by rw [hAE] at hA; exact hA
    obtain ⟨R, E, hRE⟩ := word_named r.data.toList crlf
    have H1 := Lib.hid hAE
    have H2 := Lib.hid hRE
    have HT := Lib.hid (show tailL r.data.toList = (false, R.data.toList, E) by rw [ht, hRE])
    clear hA ht hAE hRE
    go_enter Tryd.func29, Tryd.ntmps29
    go_wp2_with fail
    refine (word_as r ⟨closeB.toArray⟩ A 193 H1.out _).mono ?_
    rintro en w1 ⟨rfl, rfl⟩
    go_wp2_with fail
    refine (word_as r ⟨crlf.toArray⟩ R E H2.out _).mono ?_
    rintro en w1 ⟨rfl, rfl⟩
    go_wp2_with fail
    go_ret
    have hB2 := (HB.out.setR R).setE E
    rw [HT.out]
    exact ⟨rfl, fun _ => ⟨R, E, rfl, hB2⟩, ⟨_, _, _, hB2⟩, ((Below.refl _ _).setCell (by simp) _).setCell (by simp) _⟩
end Go.Proofs.YtakbejphbnbepaaDoor.W19
