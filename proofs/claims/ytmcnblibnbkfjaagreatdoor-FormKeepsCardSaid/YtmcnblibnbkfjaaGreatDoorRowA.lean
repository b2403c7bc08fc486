/-
  Rows of fields of the call's own: a field stored, cells copied, cells cleared. No condition.
-/
import Derived.Test.YtmcnblibnbkfjaaGreatDoorWalkX
import Derived.Laws.CopyRow
import Derived.Laws.Tables
namespace Go.Proofs.YtmcnblibnbkfjaaGreatDoor.W12
open Go Go.RowKit P12

abbrev tF : TypeId := 33
abbrev OwnF (w : World) (B : Nat) (v : Value) (l : List Fld) : Prop := w.ownsRow B 33 4 v l.length (cellsF l)
theorem size_setRow (w : World) (g : Nat) (cs : Array Value) : (w.setRow g cs).heap.size = w.heap.size := by simp [World.setRow]
theorem below_setRow {B : Nat} {w0 w : World} (h : Below B w0 w) {g : Nat} (hg : B ≤ g) (cs : Array Value) : Below B w0 (w.setRow g cs) :=
  ⟨h.os, h.tape, h.output, by rw [size_setRow]; exact h.size, fun k hk => (setRow_other w g k cs (by omega)).trans (h.block k hk)⟩
theorem cellsF_app (a b : List Fld) : cellsF (a ++ b) = cellsF a ++ cellsF b := by simp [cellsF]
theorem cellsF_take (l : List Fld) (i : Nat) : (cellsF l).take (i * 4) = cellsF (l.take i) := by
  rcases Nat.lt_or_ge i l.length with h | h
  · have e : cellsF l = cellsF (l.take i) ++ cellsF (l.drop i) := by rw [← cellsF_app, List.take_append_drop]
    have hl : (cellsF (l.take i)).length = i * 4 := by rw [cellsF_len, List.length_take, Nat.min_eq_left (by omega)]
    rw [e, ← hl, List.take_left]
  · rw [List.take_of_length_le (by rw [cellsF_len]; omega), List.take_of_length_le h]
theorem cellsF_drop (l : List Fld) (i : Nat) : (cellsF l).drop (i * 4) = cellsF (l.drop i) := by
  rcases Nat.lt_or_ge i l.length with h | h
  · have e : cellsF l = cellsF (l.take i) ++ cellsF (l.drop i) := by rw [← cellsF_app, List.take_append_drop]
    have hl : (cellsF (l.take i)).length = i * 4 := by rw [cellsF_len, List.length_take, Nat.min_eq_left (by omega)]
    conv => lhs; rw [e, ← hl, List.drop_left]
  · rw [List.drop_eq_nil_of_le (by rw [cellsF_len]; omega), List.drop_eq_nil_of_le h]
    rfl

/-- What a row holds behind 'news' stored from o on. -/
def splice (cur : Array Value) (o : Nat) (news : List Value) : Array Value := (cur.toList.take o ++ news ++ cur.toList.drop (o + news.length)).toArray
theorem run_copyF (w : World) (ty : TypeId) (g o dLen dCap : Nat) (cur : Array Value) (hg : w.heap[g]? = some (.cells cur 33 (0, 0))) (a : Addr) (sLen sCap m : Nat) (news : List Value) (hm : Nat.min sLen dLen = m) (hl : news.length = m * 4)
    (hsrc : ∀ (j : Nat) (u : Value), news[j]? = some u → w.cell? (a.add j) = some u) (h1 : ∀ u ∈ news, u.oneCell' = true) (hfit : o + news.length ≤ cur.size) :
    (Builtin.copy_ #[23, 23] ty #[.slice (some ⟨g, o, none⟩) dLen dCap, .slice (some a) sLen sCap]).run Tryz.prog w = .ok (goInt m) (w.setRow g (splice cur o news)) := by
  obtain ⟨i0, hi, hz0, hz1, hz2⟩ := info_parts infoF
  have hf := run_firstCells_some (P := Tryz.prog) w i0.size m a sLen sCap news (by rw [hz1]; exact hl) hsrc
  have hst := run_storeCells_at Tryz.prog g o 33 news 0 cur w hg (by simpa using hfit) h1
  simp only [Nat.add_zero] at hst
  simp [Builtin.copy_, run_underlying Tryz.underlying23, sizeOf, typeInfo, hi, Builtin.lenOf, hm, hf, hst]
  unfold splice
  rw [List.append_assoc]

/-- One cell of an own row is stored. -/
theorem own_setCell {w : World} {B g n cap : Nat} {xs : List Value} (h : w.ownsRow B 33 4 (.slice (some ⟨g, 0, none⟩) n cap) n xs) (k : Nat) (_hk : k < n * 4) (u : Value) :
    (w.setCell ⟨g, k, none⟩ u).ownsRow B 33 4 (.slice (some ⟨g, 0, none⟩) n cap) n (xs.set k u) := by
  obtain ⟨h1, h2⟩ := h
  rcases h2 with ⟨h2, _⟩ | ⟨g', cap', cur, hv, hb, hg, hnc, hcm, hcs, htk⟩
  · cases h2
  · injection hv with e1 e2 e3
    injection e1 with e1
    injection e1 with e1
    subst e1 e3
    refine ⟨by rw [List.length_set]; exact h1, .inr ⟨g, cap, cur.setIfInBounds k u, rfl, hb, ?_, hnc, hcm, by rw [Array.size_setIfInBounds]; exact hcs, ?_⟩⟩
    · show (w.heap.modify g _)[g]? = _
      have hlt : g < w.heap.size := (Array.getElem?_eq_some_iff.1 hg).1
      have hgv : w.heap[g] = .cells cur 33 (0, 0) := (Array.getElem?_eq_some_iff.1 hg).2
      rw [Array.getElem?_eq_getElem (by simpa using hlt), Array.getElem_modify]
      simp [hgv]
    · rw [Array.toList_setIfInBounds, List.take_set, htk]
theorem cellsF_set (l : List Fld) (j : Nat) (f : Fld) (hj : j < l.length) : ((((cellsF l).set (j * 4) (bs f.name)).set (j * 4 + 1) (.bool f.text)).set (j * 4 + 2) (.int .i64 f.n)).set (j * 4 + 3) (bs f.s) = cellsF (l.set j f) := by
  have e : cellsF l = cellsF (l.take j) ++ (cellsF1 (l[j]'hj) ++ cellsF (l.drop (j + 1))) := by
    have h1 : cellsF (l.drop j) = cellsF1 (l[j]'hj) ++ cellsF (l.drop (j + 1)) := by rw [List.drop_eq_getElem_cons hj]; rfl
    rw [← h1, ← cellsF_app, List.take_append_drop]
  have e2 : cellsF (l.set j f) = cellsF (l.take j) ++ (cellsF1 f ++ cellsF (l.drop (j + 1))) := by
    have : l.set j f = l.take j ++ f :: l.drop (j + 1) := by rw [List.set_eq_take_append_cons_drop, if_pos hj]
    rw [this, cellsF_app]
    simp [cellsF]
  have hl : (cellsF (l.take j)).length = j * 4 := by rw [cellsF_len, List.length_take, Nat.min_eq_left (by omega)]
  rw [e, e2]
  generalize cellsF (l.take j) = A at hl
  generalize cellsF (l.drop (j + 1)) = C
  subst_vars
  rw [← hl]
  simp [cellsF1]
/-- A field is stored into an own row. -/
theorem own_setF {w : World} {B g n cap : Nat} {l : List Fld} (hn : l.length = n) (h : w.ownsRow B 33 4 (.slice (some ⟨g, 0, none⟩) n cap) n (cellsF l)) (j : Nat) (hj : j < n) (a s : ByteArray) (t : Bool) (m : Int) :
    ((((w.setCell ⟨g, j * 4, none⟩ (.string a)).setCell ⟨g, j * 4 + 1, none⟩ (.bool t)).setCell ⟨g, j * 4 + 2, none⟩ (.int .i64 m)).setCell ⟨g, j * 4 + 3, none⟩ (.string s)).ownsRow B 33 4 (.slice (some ⟨g, 0, none⟩) n cap) n (cellsF (l.set j ⟨a.data.toList, t, m, s.data.toList⟩)) := by
  have := own_setCell (own_setCell (own_setCell (own_setCell h (j * 4) (by omega) (.string a)) (j * 4 + 1) (by omega) (.bool t)) (j * 4 + 2) (by omega) (.int .i64 m)) (j * 4 + 3) (by omega) (.string s)
  have e := cellsF_set l j ⟨a.data.toList, t, m, s.data.toList⟩ (by omega)
  simp only [bs_data] at e
  rw [e] at this
  exact this
theorem own_frozen {w : World} {B g n cap : Nat} {xs : List Value} (h : w.ownsRow B 33 4 (.slice (some ⟨g, 0, none⟩) n cap) n xs) (k : Nat) : w.frozen? ⟨g, k, none⟩ = false := by
  rcases h.2 with ⟨h2, _⟩ | ⟨g', cap', cur, hv, hb, hg, _⟩
  · cases h2
  · injection hv with e1 e2 e3
    injection e1 with e1
    injection e1 with e1
    subst e1
    exact Lib.frozen_of_heap hg k
/-- An own row that holds something, laid open. -/
theorem own_open {w : World} {B n : Nat} {v : Value} {xs : List Value} (h : w.ownsRow B 33 4 v n xs) (hn : 0 < n) : ∃ g cap, v = .slice (some ⟨g, 0, none⟩) n cap ∧ B ≤ g ∧ g < w.heap.size ∧ n ≤ cap ∧ cap ≤ maxLen := by
  rcases h.2 with ⟨_, h0⟩ | ⟨g, cap, cur, hv, hb, hg, h1, h2, _⟩
  · omega
  · exact ⟨g, cap, hv, hb, (Array.getElem?_eq_some_iff.1 hg).1, h1, h2⟩

theorem splice_len {cur : Array Value} {o : Nat} {news : List Value} (h : o + news.length ≤ cur.size) : (splice cur o news).size = cur.size := by
  unfold splice
  simp
  omega
theorem splice_take {cur : Array Value} {o : Nat} {news : List Value} {k : Nat} (hk : k ≤ o) (ho : o ≤ cur.size) : (splice cur o news).toList.take k = cur.toList.take k := by
  unfold splice
  simp only [List.append_assoc]
  rw [List.take_append_of_le_length (by simp; omega), List.take_take, Nat.min_eq_left hk]
theorem splice_drop {cur : Array Value} {o : Nat} {news : List Value} (ho : o ≤ cur.size) : (splice cur o news).toList.drop o = news ++ cur.toList.drop (o + news.length) := by
  unfold splice
  have hl : (cur.toList.take o).length = o := by simp; omega
  simp only [List.append_assoc]
  conv => lhs; arg 1; rw [← hl]
  rw [List.drop_left]
theorem splice_front {cur : Array Value} {o : Nat} {news : List Value} (ho : o ≤ cur.size) : (splice cur o news).toList.take (o + news.length) = cur.toList.take o ++ news := by
  unfold splice
  have hl : (cur.toList.take o ++ news).length = o + news.length := by simp; omega
  conv => lhs; arg 1; rw [← hl]
  rw [List.take_left]
/-- The rest is moved on, then the new cells are stored. -/
theorem splice_shift {cur : Array Value} {A C D : List Value} {p q : Nat} (h : cur.toList.take p = A) (hA : A.length = p) (hC : C.length = q) (hK : p + q + D.length ≤ cur.size) :
    (splice (splice cur (p + q) D) p C).toList.take (p + q + D.length) = A ++ C ++ D ∧ (splice (splice cur (p + q) D) p C).size = cur.size := by
  have h1 := splice_len (cur := cur) (o := p + q) (news := D) (by omega)
  refine ⟨?_, by rw [splice_len (by omega), h1]⟩
  have e : (splice (splice cur (p + q) D) p C).toList = A ++ C ++ (D ++ cur.toList.drop (p + q + D.length)) := by
    unfold splice at *
    have hl : (cur.toList.take (p + q)).length = p + q := by simp; omega
    simp only [List.append_assoc]
    rw [List.take_append_of_le_length (by omega), List.take_take, Nat.min_eq_left (by omega), h, hC]
    congr 2
    conv => lhs; arg 1; rw [← hl]
    rw [List.drop_left]
  rw [e, ← List.append_assoc]
  have hl : (A ++ C ++ D).length = p + q + D.length := by simp [hA, hC]; omega
  rw [← hl, List.take_left]
/-- The new cells are stored, then the rest. -/
theorem splice_grow {cur : Array Value} {A C D : List Value} {p q : Nat} (h : cur.toList.take p = A) (_hA : A.length = p) (hC : C.length = q) (hK : p + q + D.length ≤ cur.size) :
    (splice (splice cur p C) (p + q) D).toList.take (p + q + D.length) = A ++ C ++ D ∧ (splice (splice cur p C) (p + q) D).size = cur.size := by
  have h1 := splice_len (cur := cur) (o := p) (news := C) (by omega)
  refine ⟨?_, by rw [splice_len (by omega), h1]⟩
  rw [splice_front (by omega)]
  have := splice_front (cur := cur) (o := p) (news := C) (by omega)
  rw [hC, h] at this
  rw [this]
end Go.Proofs.YtmcnblibnbkfjaaGreatDoor.W12
