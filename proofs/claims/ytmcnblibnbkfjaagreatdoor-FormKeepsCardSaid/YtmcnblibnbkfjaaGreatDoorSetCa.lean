/-
  Walks of layer 12: slices.Insert of one field into a row of the call's own: there is room. Conditions: the row is within Go's own limit.
-/
import Derived.Test.YtmcnblibnbkfjaaGreatDoorSetC
namespace Go.Proofs.YtmcnblibnbkfjaaGreatDoor.W12
open Go Go.RowKit P12

set_option maxHeartbeats 3200000 in
set_option maxRecDepth 100000 in
/-- There is room: in place. -/
theorem Insert_shift (g cap : Nat) (cur : Array Value) (l : List Fld) (wb : World) (i : Nat) (a s : ByteArray) (t : Bool) (n : Int) (vb N : Nat) (w : World) (hN : l.length = N) (hB : Below wb.heap.size wb w) (hgB : wb.heap.size ≤ g)
    (hg : w.heap[g]? = some (.cells cur 33 (0, 0))) (hcs : cur.size = cap * 4) (hcm : cap ≤ maxLen) (htk : cur.toList.take (N * 4) = cellsF l) (hi : i < N) (hroom : N + 1 ≤ cap) (hne : vb ≠ g)
    (hvb : w.heap[vb]? = some (.cells #[.string a, .bool t, .int .i64 n, .string s] 33 (0, 0))) :
    Calls Tryz.prog 47 #[.slice (some ⟨g, 0, none⟩) N cap, .int .i64 (i : Int), .slice (some ⟨vb, 0, none⟩) 1 1] w fun e w' => ∃ v', e = .returned v' ∧ w'.ownsRow wb.heap.size 33 4 v' (l.take i ++ ⟨a.data.toList, t, n, s.data.toList⟩ :: l.drop i).length (cellsF (l.take i ++ ⟨a.data.toList, t, n, s.data.toList⟩ :: l.drop i)) ∧ Below wb.heap.size wb w' := by
  have hov : ∀ lb cb, (callFunc 65 #[.slice (some ⟨vb, 0, none⟩) 1 1, .slice (some ⟨g, (i + 1) * 4, none⟩) lb cb]).run Tryz.prog w = .ok (.value (.bool false)) w := fun lb cb => by
    rw [run_callFunc_extern Tryz.func65 (by kernel_rfl) (by kernel_rfl) (by kernel_rfl) (e := Extern.SlicesOverlaps.overlaps #[23, 23] #[4]) (by kernel_rfl),
      Lib.run_overlaps_apart w 23 4 33 Tryz.underlying23 4 sizeF ⟨vb, 0, none⟩ ⟨g, (i + 1) * 4, none⟩ 1 1 lb cb hne _ _ _ _ (shape_of_heap hvb) (shape_of_heap hg) (by rw [hcs]; omega) (Lib.frozen_of_heap hvb 0) (Lib.frozen_of_heap hvb _)]
    rfl
  obtain ⟨F, hF⟩ : ∃ F : Fld, F = ⟨a.data.toList, t, n, s.data.toList⟩ := ⟨_, rfl⟩
  rw [← hF]
  have hFc : cellsF [F] = [.string a, .bool t, .int .i64 n, .string s] := by rw [hF]; simp [cellsF, cellsF1, bs_data]
  -- what lies in the row ahead: the elements, and the rest
  have hLl : (cellsF l).length = N * 4 := by rw [cellsF_len, hN]
  have hcl : cur.toList.length = cap * 4 := by rw [Array.length_toList]; exact hcs
  have hA : cur.toList.take (i * 4) = cellsF (l.take i) := by
    rw [← cellsF_take, ← htk, List.take_take, Nat.min_eq_left (by omega)]
  have hAl : (cellsF (l.take i)).length = i * 4 := by rw [cellsF_len, List.length_take, Nat.min_eq_left (by omega)]
  have hDl : (cellsF (l.drop i)).length = (N - i) * 4 := by rw [cellsF_len, List.length_drop, hN]
  have hbl : g < w.heap.size := (Array.getElem?_eq_some_iff.1 hg).1
  have hsrc : ∀ (j : Nat) (u : Value), (cellsF (l.drop i))[j]? = some u → w.cell? ((⟨g, i * 4, none⟩ : Addr).add j) = some u := by
    intro j u hj
    rw [Lib.add_plain]
    have hlt := (List.getElem?_eq_some_iff.1 hj).1
    rw [← cellsF_drop, List.getElem?_drop, ← htk, List.getElem?_take] at hj
    split at hj
    · unfold World.cell?
      rw [hg]
      simpa using hj
    · cases hj
  obtain ⟨D, hD⟩ : ∃ D, D = cellsF (l.drop i) := ⟨_, rfl⟩
  obtain ⟨C, hC⟩ : ∃ C, C = cellsF [F] := ⟨_, rfl⟩
  have hCl : C.length = 4 := by rw [hC, hFc]; rfl
  rw [← hD] at hDl hsrc
  obtain ⟨s1, s2⟩ := splice_shift (cur := cur) (C := C) (D := D) (q := 4) hA hAl hCl (by rw [hDl, hcs]; omega)
  -- the first copy, and the second
  have hcp1 : ∀ ty dc sc, (Builtin.copy_ #[23, 23] ty #[.slice (some ⟨g, (i + 1) * 4, none⟩) (N - i) dc, .slice (some ⟨g, i * 4, none⟩) (N + 1 - i) sc]).run Tryz.prog w.drew = .ok (goInt (N - i : Nat)) (w.drew.setRow g (splice cur (i * 4 + 4) D)) := fun ty dc sc => by
    have := run_copyF w.drew ty g ((i + 1) * 4) (N + 1 - (i + 1)) dc cur hg ⟨g, i * 4, none⟩ (N + 1 - i) sc (N - i) D (by simp only [Nat.min_def]; split <;> omega) hDl (fun j u hj => by rw [World.cell?_drew]; exact hsrc j u hj) (by rw [hD]; exact cellsF_one _) (by rw [hDl, hcs]; omega)
    rw [show (i + 1) * 4 = i * 4 + 4 by omega, show N + 1 - (i + 1) = N - i by omega] at this
    rw [show (i + 1) * 4 = i * 4 + 4 by omega]
    exact this
  have hg1 := setRow_heap w.drew g cur (splice cur (i * 4 + 4) D) 33 (0, 0) hg
  obtain ⟨W1, hW1⟩ : ∃ W1, W1 = w.drew.setRow g (splice cur (i * 4 + 4) D) := ⟨_, rfl⟩
  rw [← hW1] at hcp1 hg1
  have hB1 : Below wb.heap.size wb W1 := by rw [hW1]; exact below_setRow (hB.trans ((below_drewN w 1).mono hB.size)) hgB _
  have hcp2 : ∀ ty dc, (Builtin.copy_ #[23, 23] ty #[.slice (some ⟨g, i * 4, none⟩) (N + 1 - i) dc, .slice (some ⟨vb, 0, none⟩) 1 1]).run Tryz.prog W1 = .ok (goInt (1 : Nat)) (W1.setRow g (splice (splice cur (i * 4 + 4) D) (i * 4) C)) := fun ty dc => by
    have hvb1 : W1.heap[vb]? = some (.cells #[.string a, .bool t, .int .i64 n, .string s] 33 (0, 0)) := by rw [hW1, setRow_other _ _ _ _ hne]; exact hvb
    refine run_copyF W1 ty g (i * 4) (N + 1 - i) dc _ hg1 ⟨vb, 0, none⟩ 1 1 1 C (by simp only [Nat.min_def]; split <;> omega) (by rw [hCl]) (fun j u hj => ?_) (by rw [hC]; exact cellsF_one _) (by rw [splice_len (by rw [hDl, hcs]; omega), hCl, hcs]; omega)
    rw [Lib.add_plain, Nat.zero_add]
    unfold World.cell?
    rw [hvb1]
    rw [hC, hFc] at hj
    simpa using hj
  have hg2 := setRow_heap W1 g _ (splice (splice cur (i * 4 + 4) D) (i * 4) C) 33 (0, 0) hg1
  have hfin : (W1.setRow g (splice (splice cur (i * 4 + 4) D) (i * 4) C)).ownsRow wb.heap.size 33 4 (.slice (some ⟨g, 0, none⟩) (l.take i ++ F :: l.drop i).length cap) (l.take i ++ F :: l.drop i).length (cellsF (l.take i ++ F :: l.drop i)) := by
    refine own_row hg2 hgB (by rw [ins_len F (by omega)]; omega) hcm (by rw [s2]; exact hcs) ?_
    rw [ins_cells, ins_len F (by omega), ← hC, ← hD, ← s1, hN, hDl]
    congr 1
    omega
  rw [ins_len F (by omega), hN] at hfin
  have hB2 : Below wb.heap.size wb (W1.setRow g (splice (splice cur (i * 4 + 4) D) (i * 4) C)) := below_setRow hB1 hgB _
  have HF := Lib.hid hfin
  have HL := Lib.hid (show (l.take i ++ F :: l.drop i).length = N + 1 by rw [ins_len F (by omega), hN])
  have i0 : (0 : Int) ≤ (i : Int) := by omega
  have i1 : (i : Int) ≤ (N : Int) := by omega
  have i2 : ((i : Int) == (N : Int)) = false := by rw [beq_eq_false_iff_ne]; omega
  have i3 : ¬ ((cap : Int) < (N : Int) + 1) := by omega
  have i4 : (N : Int) + 1 ≤ (cap : Int) := by omega
  have i5 : (i : Int) + 1 ≤ (N : Int) + 1 := by omega
  have hm2 : (N : Int) + 1 ≤ 9223372036854775807 := by unfold maxLen at hcm; omega
  have hm3 : (cap : Int) ≤ 9223372036854775807 := by unfold maxLen at hcm; omega
  have i6 : (0 : Int) ≤ (i : Int) + 1 := by omega
  have i7 : ((i : Int) + 1).toNat = i + 1 := by omega
  have i8 : IntKind.i64.wrap ((i : Int) + 1) = (i : Int) + 1 := by rw [IntKind.wrap_i64]; omega
  have i9 : (i : Int) ≤ (N : Int) + 1 := by omega
  have n1 : ¬ (cap = i) := by omega
  have n2 : ¬ (cap = i + 1) := by omega
  rw [HL.out]
  clear hfin hF hFc hLl hcl hA hAl hDl hsrc hD hC hCl s1 s2 hW1 hg1 hg2 hB1 htk hcs hg hvb hN
  go_enter Tryz.func47, Tryz.ntmps47
  go_wp2_with fail
  go_region_held3 (fun _ => True) (trivial)
    (first
      | (refine step_copy_runI (by rfl) (.tmp 73) (.tmp 76) 23 23 (by rfl) _ _ (by rfl) (by rfl) (hcp1 _ _ _) ?_))
  all_goals
    go_wp2_with (at_builtin; refine wpList_copy_runI _ rfl _ _ 23 23 rfl _ _ rfl rfl (hcp2 _ _) ?_)
    go_ret
    exact ⟨_, rfl, HF.out, hB2⟩
end Go.Proofs.YtmcnblibnbkfjaaGreatDoor.W12
