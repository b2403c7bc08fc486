/-
  Walks of layer 12: slices.Insert of one field into a row of the call's own: there is no room. Conditions: the row is within Go's own limit.
-/
import Derived.Test.YtmcnblibnbkfjaaGreatDoorSetC
namespace Go.Proofs.YtmcnblibnbkfjaaGreatDoor.W12
open Go Go.RowKit P12

set_option maxHeartbeats 3200000 in
set_option maxRecDepth 100000 in
/-- There is no room: a new row. -/
theorem Insert_grow (g cap : Nat) (cur : Array Value) (l : List Fld) (wb : World) (i : Nat) (a s : ByteArray) (t : Bool) (n : Int) (vb N : Nat) (w : World) (hN : l.length = N) (hB : Below wb.heap.size wb w)
    (hg : w.heap[g]? = some (.cells cur 33 (0, 0))) (hcs : cur.size = cap * 4) (htk : cur.toList.take (N * 4) = cellsF l) (hi : i < N) (hnc : N ≤ cap) (hroom : cap < N + 1) (hbd : (N + 1) * 48 ≤ 140737488355328)
    (hvb : w.heap[vb]? = some (.cells #[.string a, .bool t, .int .i64 n, .string s] 33 (0, 0))) :
    Calls Tryz.prog 47 #[.slice (some ⟨g, 0, none⟩) N cap, .int .i64 (i : Int), .slice (some ⟨vb, 0, none⟩) 1 1] w fun e w' => ∃ v', e = .returned v' ∧ w'.ownsRow wb.heap.size 33 4 v' (l.take i ++ ⟨a.data.toList, t, n, s.data.toList⟩ :: l.drop i).length (cellsF (l.take i ++ ⟨a.data.toList, t, n, s.data.toList⟩ :: l.drop i)) ∧ Below wb.heap.size wb w' := by
  obtain rfl : cap = N := by omega
  obtain ⟨i0, hi0, hz0, hz1, hz2⟩ := info_parts infoF
  obtain ⟨F, hF⟩ : ∃ F : Fld, F = ⟨a.data.toList, t, n, s.data.toList⟩ := ⟨_, rfl⟩
  rw [← hF]
  have hFc : cellsF [F] = [.string a, .bool t, .int .i64 n, .string s] := by rw [hF]; simp [cellsF, cellsF1, bs_data]
  have hbl : g < w.heap.size := (Array.getElem?_eq_some_iff.1 hg).1
  have hvl : vb < w.heap.size := (Array.getElem?_eq_some_iff.1 hvb).1
  have hA : cur.toList.take (i * 4) = cellsF (l.take i) := by
    rw [← cellsF_take, ← htk, List.take_take, Nat.min_eq_left (by omega)]
  have hAl : (cellsF (l.take i)).length = i * 4 := by rw [cellsF_len, List.length_take, Nat.min_eq_left (by omega)]
  have hDl : (cellsF (l.drop i)).length = (cap - i) * 4 := by rw [cellsF_len, List.length_drop, hN]
  have hsrc : ∀ (j : Nat) (u : Value), (cellsF (l.drop i))[j]? = some u → w.cell? ((⟨g, i * 4, none⟩ : Addr).add j) = some u := by
    intro j u hj
    rw [Lib.add_plain]
    rw [← cellsF_drop, List.getElem?_drop, ← htk, List.getElem?_take] at hj
    split at hj
    · unfold World.cell?
      rw [hg]
      simpa using hj
    · cases hj
  have hsrc0 : ∀ (j : Nat) (u : Value), (cellsF (l.take i))[j]? = some u → w.drew.cell? ((⟨g, 0, none⟩ : Addr).add j) = some u := by
    intro j u hj
    rw [Lib.add_plain, Nat.zero_add, World.cell?_drew]
    rw [← hA, List.getElem?_take] at hj
    split at hj
    · unfold World.cell?
      rw [hg]
      simpa using hj
    · cases hj
  have hold : (Builtin.firstCells i0.size i (.slice (some ⟨g, 0, none⟩) i cap)).run Tryz.prog w.drew = .ok (cellsF (l.take i)).toArray w.drew :=
    run_firstCells_some w.drew i0.size i ⟨g, 0, none⟩ i cap (cellsF (l.take i)) (by rw [hz1]; exact hAl) hsrc0
  obtain ⟨D, hD⟩ : ∃ D, D = cellsF (l.drop i) := ⟨_, rfl⟩
  obtain ⟨C, hC⟩ : ∃ C, C = cellsF [F] := ⟨_, rfl⟩
  obtain ⟨A, hAe⟩ : ∃ A, A = cellsF (l.take i) := ⟨_, rfl⟩
  have hCl : C.length = 4 := by rw [hC, hFc]; rfl
  rw [← hAe] at hold hAl
  rw [← hD] at hDl hsrc
  obtain ⟨z, hz⟩ : ∃ z, z = (.agg #[.string ⟨#[]⟩, .bool false, .int .i64 0, .string ⟨#[]⟩] : Value) := ⟨_, rfl⟩
  rw [← hz] at hz0
  have hzc : z.cells.size = 4 := by rw [hz]; rfl
  obtain ⟨G, hG⟩ : ∃ G, G = grownCap w (cap + 1) cap 33 := ⟨_, rfl⟩
  have hGn : cap + 1 ≤ G := by rw [hG]; exact grownCap_ge w _ _ _
  have hGm : G ≤ maxLen := by rw [hG]; exact grownCap_le_maxLen w _ _ _ (by unfold maxLen; omega)
  obtain ⟨ROW, hROW⟩ : ∃ ROW : Array Value, ROW = A.toArray ++ Builtin.zeroCells z.cells (cap + 1 - i) ++ Builtin.zeroCells z.cells (G - (cap + 1)) := ⟨_, rfl⟩
  have hRs : ROW.size = G * 4 := by
    rw [hROW]
    simp only [Array.size_append, List.size_toArray, size_zeroCells, hzc, hAl]
    omega
  have hRt : ROW.toList.take (i * 4) = A := by
    rw [hROW]
    simp only [Array.toList_append, List.append_assoc]
    rw [← hAl]
    exact List.take_left
  have hrz : ∀ ty, (Builtin.append_ #[23, 3] ty #[.slice (some ⟨g, 0, none⟩) i cap, .int .i64 ((cap : Int) + 1 - (i : Int))]).run Tryz.prog w = .ok (.slice (some ⟨w.heap.size, 0, none⟩) (cap + 1) G) (w.drew.alloc (.cells ROW 33)) := fun ty => by
    have h := Lib.run_append_grow_zeros w 23 3 ty 33 i0 z .i64 .i64 Tryz.underlying23 Tryz.underlying3 hi0 hz0 (some ⟨g, 0, none⟩) i cap A hold (cap + 1 - i) (by omega) (by rw [hz1]; omega) (by omega) (by omega) (by rw [hz2]; omega) (by rw [hz2, show i + (cap + 1 - i) = cap + 1 by omega]; exact growslice_fits hroom hbd)
    rw [show i + (cap + 1 - i) = cap + 1 by omega, ← hG, ← hROW] at h
    rw [show (cap : Int) + 1 - (i : Int) = ((cap + 1 - i : Nat) : Int) by omega]
    exact h
  obtain ⟨s1, s2⟩ := splice_grow (cur := ROW) (C := C) (D := D) (q := 4) hRt hAl hCl (by rw [hDl, hRs]; omega)
  obtain ⟨W0, hW0⟩ : ∃ W0, W0 = w.drew.alloc (.cells ROW 33) := ⟨_, rfl⟩
  rw [← hW0] at hrz
  have hg0 : W0.heap[w.heap.size]? = some (.cells ROW 33 (0, 0)) := by rw [hW0]; exact heap_new w.drew _
  have hb0 : Below w.heap.size w W0 := by rw [hW0]; exact below_then (below_drewN w 1) (below_alloc _ _)
  have hcpA : ∀ ty dc, (Builtin.copy_ #[23, 23] ty #[.slice (some ⟨w.heap.size, i * 4, none⟩) (cap + 1 - i) dc, .slice (some ⟨vb, 0, none⟩) 1 1]).run Tryz.prog W0 = .ok (goInt (1 : Nat)) (W0.setRow w.heap.size (splice ROW (i * 4) C)) := fun ty dc => by
    refine run_copyF W0 ty w.heap.size (i * 4) (cap + 1 - i) dc _ hg0 ⟨vb, 0, none⟩ 1 1 1 C (by simp only [Nat.min_def]; split <;> omega) (by rw [hCl]) (fun j u hj => ?_) (by rw [hC]; exact cellsF_one _) (by rw [hCl, hRs]; omega)
    rw [Lib.add_plain, Nat.zero_add]
    refine keep_cell hb0 ?_
    unfold World.cell?
    rw [hvb]
    rw [hC, hFc] at hj
    simpa using hj
  have hg1 := setRow_heap W0 w.heap.size _ (splice ROW (i * 4) C) 33 (0, 0) hg0
  obtain ⟨W1, hW1⟩ : ∃ W1, W1 = W0.setRow w.heap.size (splice ROW (i * 4) C) := ⟨_, rfl⟩
  rw [← hW1] at hcpA hg1
  have hb1 : Below w.heap.size w W1 := by rw [hW1]; exact below_setRow hb0 (Nat.le_refl _) _
  have hcpB : ∀ ty dc sc, (Builtin.copy_ #[23, 23] ty #[.slice (some ⟨w.heap.size, (i + 1) * 4, none⟩) (cap - i) dc, .slice (some ⟨g, i * 4, none⟩) (cap - i) sc]).run Tryz.prog W1.drew = .ok (goInt (cap - i : Nat)) (W1.drew.setRow w.heap.size (splice (splice ROW (i * 4) C) (i * 4 + 4) D)) := fun ty dc sc => by
    have := run_copyF W1.drew ty w.heap.size ((i + 1) * 4) (cap + 1 - (i + 1)) dc _ hg1 ⟨g, i * 4, none⟩ (cap - i) sc (cap - i) D (by simp only [Nat.min_def]; split <;> omega) hDl (fun j u hj => by rw [World.cell?_drew]; exact keep_cell hb1 (hsrc j u hj)) (by rw [hD]; exact cellsF_one _) (by rw [splice_len (by rw [hCl, hRs]; omega), hDl, hRs]; omega)
    rw [show (i + 1) * 4 = i * 4 + 4 by omega, show cap + 1 - (i + 1) = cap - i by omega] at this
    rw [show (i + 1) * 4 = i * 4 + 4 by omega]
    exact this
  have hg2 := setRow_heap W1.drew w.heap.size _ (splice (splice ROW (i * 4) C) (i * 4 + 4) D) 33 (0, 0) hg1
  have hfin : (W1.drew.setRow w.heap.size (splice (splice ROW (i * 4) C) (i * 4 + 4) D)).ownsRow wb.heap.size 33 4 (.slice (some ⟨w.heap.size, 0, none⟩) (l.take i ++ F :: l.drop i).length G) (l.take i ++ F :: l.drop i).length (cellsF (l.take i ++ F :: l.drop i)) := by
    refine own_row hg2 hB.size (by rw [ins_len F (by omega)]; omega) hGm (by rw [s2]; exact hRs) ?_
    rw [ins_cells, ins_len F (by omega), ← hC, ← hD, ← hAe, ← s1, hN, hDl]
    congr 1
    omega
  have HL := Lib.hid (show (l.take i ++ F :: l.drop i).length = cap + 1 by rw [ins_len F (by omega), hN])
  rw [HL.out] at hfin
  have hB2 : Below wb.heap.size wb (W1.drew.setRow w.heap.size (splice (splice ROW (i * 4) C) (i * 4 + 4) D)) := below_setRow ((hB.trans (hb1.mono hB.size)).trans ((below_drewN W1 1).mono (by have := hb1.size; have := hB.size; omega))) hB.size _
  have HF := Lib.hid hfin
  have i00 : (0 : Int) ≤ (i : Int) := by omega
  have i1 : (i : Int) ≤ (cap : Int) := by omega
  have i2 : ((i : Int) == (cap : Int)) = false := by rw [beq_eq_false_iff_ne]; omega
  have i5 : (i : Int) + 1 ≤ (cap : Int) + 1 := by omega
  have i6 : (0 : Int) ≤ (i : Int) + 1 := by omega
  have i7 : ((i : Int) + 1).toNat = i + 1 := by omega
  have i8 : IntKind.i64.wrap ((i : Int) + 1) = (i : Int) + 1 := by rw [IntKind.wrap_i64]; omega
  have i9 : (i : Int) ≤ (cap : Int) + 1 := by omega
  have n1 : ¬ (cap = i) := by omega
  have n3 : ¬ (G = i) := by omega
  have n4 : ¬ (G = i + 1) := by omega
  rw [HL.out]
  clear hfin hF hFc hA hAl hDl hsrc hsrc0 hD hC hCl hAe s1 s2 hW1 hW0 hg1 hg2 hg0 hb1 hb0 htk hcs hg hvb hN hold hROW hRs hRt hG hz hz0 hzc hGm hz1 hz2 hi0
  go_enter Tryz.func47, Tryz.ntmps47
  go_wp2_with (first
    | (at_builtin; refine Lib.wpList_append_run _ rfl _ _ _ _ rfl _ _ rfl rfl _ _ (hrz _) ?_)
    | (at_builtin; refine wpList_copy_runI _ rfl _ _ 23 23 rfl _ _ rfl rfl (hcpA _ _) ?_))
  go_region_held3 (fun _ => True) (trivial)
    (first
      | (refine step_copy_runI (by rfl) (.tmp 50) (.tmp 53) 23 23 (by rfl) _ _ (by rfl) (by rfl) (hcpB _ _ _) ?_))
  all_goals
    go_wp2_with fail
    go_ret
    exact ⟨_, rfl, HF.out, hB2⟩
end Go.Proofs.YtmcnblibnbkfjaaGreatDoor.W12
