/-
  Walks of layer 12: slices.Delete of one field out of a row of the call's own. Conditions: none beside the row's.
-/
import Derived.Test.YtmcnblibnbkfjaaGreatDoorSetCc
namespace Go.Proofs.YtmcnblibnbkfjaaGreatDoor.W12
open Go Go.RowKit P12

/-- Fields appended where there is room: in place. -/
theorem run_appIn (w : World) (ty : TypeId) (g n cap : Nat) (cur : Array Value) (hg : w.heap[g]? = some (.cells cur 33 (0, 0))) (a : Addr) (m c : Nat) (news : List Value) (hl : news.length = m * 4)
    (hsrc : ∀ (j : Nat) (u : Value), news[j]? = some u → w.cell? (a.add j) = some u) (h1 : ∀ u ∈ news, u.oneCell' = true) (hroom : n + m ≤ cap) (hfit : n * 4 + news.length ≤ cur.size) :
    (Builtin.append_ #[23, 23] ty #[.slice (some ⟨g, 0, none⟩) n cap, .slice (some a) m c]).run Tryz.prog w = .ok (.slice (some ⟨g, 0, none⟩) (n + m) cap) (w.setRow g (splice cur (n * 4) news)) := by
  obtain ⟨i0, hi, hz0, hz1, hz2⟩ := info_parts infoF
  have hf := run_firstCells_some (P := Tryz.prog) w i0.size m a m c news (by rw [hz1]; exact hl) hsrc
  have hst := run_storeCells_at Tryz.prog g (n * 4) 33 news 0 cur w hg (by simpa using hfit) h1
  simp only [Nat.add_zero] at hst
  rw [hz1] at hf
  have hadd : (⟨g, 0, none⟩ : Addr).add (n * 4) = ⟨g, n * 4, none⟩ := by rw [Lib.add_plain, Nat.zero_add]
  simp [Builtin.append_, run_underlying Tryz.underlying23, sizeOf, typeInfo, hi, Builtin.lenOf, hroom, hf, hz1, hadd, hst]
  unfold splice
  rw [List.append_assoc]
def zeros4 : List Value := [.string ⟨#[]⟩, .bool false, .int .i64 0, .string ⟨#[]⟩]
theorem zeroF_run (w : World) : (zeroValue 33).run Tryz.prog w = .ok (.agg #[.string ⟨#[]⟩, .bool false, .int .i64 0, .string ⟨#[]⟩]) w := by
  obtain ⟨i0, hi, hz0, hz1, hz2⟩ := info_parts infoF
  simp [zeroValue, typeInfo, hi, hz0]
theorem run_clearOne (w : World) (ty : TypeId) (g o c : Nat) (cur : Array Value) (hg : w.heap[g]? = some (.cells cur 33 (0, 0))) (hfit : o + 4 ≤ cur.size) :
    (Builtin.clear_ #[23] ty #[.slice (some ⟨g, o, none⟩) 1 c]).run Tryz.prog w = .ok (.tuple #[]) (w.setRow g (splice cur o zeros4)) := by
  have hst := run_storeCells_at Tryz.prog g o 33 zeros4 0 cur w hg (by simpa [zeros4] using hfit) (by intro v hv; simp only [zeros4, List.mem_cons, List.not_mem_nil, or_false] at hv; rcases hv with rfl | rfl | rfl | rfl <;> rfl)
  simp only [Nat.add_zero] at hst
  have hz : (Builtin.zeroCells (Value.agg #[.string ⟨#[]⟩, .bool false, .int .i64 0, .string ⟨#[]⟩]).cells 1).toList = zeros4 := by kernel_rfl
  simp [Builtin.clear_, run_underlying Tryz.underlying23, hz, hst]
  unfold splice
  rw [List.append_assoc]
theorem wpList_clear_runI {w : World} {ops : Array Oper} {rest : List Oper} {o : Oper} {a : Act} {Q : Exit → Act → World → Prop} (hgd : o.guard = none) (s : Operand) (t : TypeId)
    (ho : o.op = .call { callee := .builtin .clear, args := #[s], argTypes := #[t] }) (u : Value) (hs : a.eval s = u) {v' : Value} {w' : World}
    (hr : (Builtin.clear_ #[t] o.type #[u]).run Tryz.prog w = .ok v' w') (h : wpList Tryz.prog ops Q rest (a.put o.dst v') w') : wpList Tryz.prog ops Q (o :: rest) a w := by
  refine wpList_plain hgd fun K hK => ?_
  unfold Oper.wp execOp
  simp only [ho, resolve, invoke, builtin, Sem.run_bind, Sem.run_pure, Result.andThen_ok, List.map_toArray, List.map_cons, List.map_nil, hs, hr]
  exact hK _ _ h
theorem step_append_runI {ops : Array Oper} {o : Oper} {a : Act} {w : World} {K : Act → World → Prop} {Q : Exit → Act → World → Prop} {E : Prop}
    (hg : o.guard = none) (d x : Operand) (dT sT : TypeId) (hop : o.op = Op.call { callee := Callee.builtin Builtin.append, args := #[d, x], argTypes := #[dT, sT] })
    (v u : Value) (hd : a.eval d = v) (hx : a.eval x = u) {v' : Value} {w' : World} (hr : (Builtin.append_ #[dT, sT] o.type #[v, u]).run Tryz.prog w = .ok v' w') (hK : K (a.put o.dst v') w') :
    if Region.wanted o (yielded ops a.tmps) = true then Oper.wp Tryz.prog o a w K Q else E := by
  have hw : Region.wanted o (yielded ops a.tmps) = true := by simp [Region.wanted, hg]
  rw [if_pos hw]
  unfold Oper.wp
  simp [execOp, hop, resolve, invoke, builtin, hd, hx, hr, Result.andThen]
  exact hK

set_option maxHeartbeats 3200000 in
set_option maxRecDepth 100000 in
theorem Delete_any (g cap : Nat) (l : List Fld) (wb : World) (i N : Nat) (w : World) (hN : l.length = N) (hB : Below wb.heap.size wb w) (hown : w.ownsRow wb.heap.size 33 4 (.slice (some ⟨g, 0, none⟩) N cap) N (cellsF l)) (hi : i < N) :
    Calls Tryz.prog 48 #[.slice (some ⟨g, 0, none⟩) N cap, .int .i64 (i : Int), .int .i64 ((i : Int) + 1)] w fun e w' => ∃ v', e = .returned v' ∧ w'.ownsRow wb.heap.size 33 4 v' (l.take i ++ l.drop (i + 1)).length (cellsF (l.take i ++ l.drop (i + 1))) ∧ Below wb.heap.size wb w' := by
  rcases hown.2 with ⟨hv, h0⟩ | ⟨g', cap', cur, hv, hgB, hg, hnc, hcm, hcs, htk⟩
  · omega
  injection hv with e1 e2 e3
  injection e1 with e1
  injection e1 with e1
  subst e1 e3
  clear e2 hown
  by_cases hci : cap = i + 1
  · have hNi : N = i + 1 := by omega
    have hA : cur.toList.take (i * 4) = cellsF (l.take i) := by
      rw [← cellsF_take, ← htk, List.take_take, Nat.min_eq_left (by omega)]
    have hlen : (l.take i ++ l.drop (i + 1)).length = i := by simp; omega
    have hD0 : l.drop (i + 1) = [] := List.drop_eq_nil_of_le (by omega)
    have hclr : ∀ ty c, (Builtin.clear_ #[23] ty #[.slice (some ⟨g, i * 4, none⟩) (N - i) c]).run Tryz.prog w.drew = .ok (.tuple #[]) (w.drew.setRow g (splice cur (i * 4) zeros4)) := fun ty c => by
      rw [show N - i = 1 by omega]
      exact run_clearOne w.drew ty g (i * 4) c _ hg (by omega)
    have hg2 := setRow_heap w.drew g _ (splice cur (i * 4) zeros4) 33 (0, 0) hg
    have hfin : (w.drew.setRow g (splice cur (i * 4) zeros4)).ownsRow wb.heap.size 33 4 (.slice (some ⟨g, 0, none⟩) (l.take i ++ l.drop (i + 1)).length (i + 1)) (l.take i ++ l.drop (i + 1)).length (cellsF (l.take i ++ l.drop (i + 1))) := by
      refine own_row hg2 hgB (by omega) (by omega) (by rw [splice_len (by simp [zeros4]; omega), hcs, hci]) ?_
      rw [hlen, splice_take (Nat.le_refl _) (by omega), hA, hD0, List.append_nil]
    rw [hlen] at hfin
    have hB2 : Below wb.heap.size wb (w.drew.setRow g (splice cur (i * 4) zeros4)) := below_setRow (hB.trans ((below_drewN w 1).mono hB.size)) hgB _
    rw [hlen]
    have HF := Lib.hid hfin
    have HC := Lib.hid hclr
    have i0 : (0 : Int) ≤ (i : Int) := by omega
    have i1 : (i : Int) < (N : Int) := by omega
    have i2 : ((i : Int) == (i : Int) + 1) = false := by rw [beq_eq_false_iff_ne]; omega
    have i3 : (i : Int) + 1 ≤ (N : Int) := by omega
    have i4 : (N : Int) ≤ (cap : Int) := by omega
    have i5 : (i : Int) ≤ (cap : Int) := by omega
    have i6 : (i : Int) ≤ (i : Int) + 1 := by omega
    have i7 : ((i : Int) + 1).toNat = i + 1 := by omega
    have n1 : ¬ (cap = i) := by omega
    have i9 : (0 : Int) ≤ (i : Int) + 1 := by omega
    have hm2 : (N : Int) ≤ 9223372036854775807 := by have : cap ≤ maxLen := hcm; unfold maxLen at this; omega
    have h00 : N - (i + 1) = 0 := by omega
    clear hfin hlen hclr hA hD0 hg2 htk hcs hg hN hNi
    go_enter Tryz.func48, Tryz.ntmps48
    go_wp2_with fail
    go_region_held3 (fun _ => True) (trivial) (fail)
    all_goals
      go_wp2_with (refine wpList_clear_runI rfl _ 23 rfl _ rfl (HC.out _ _) ?_)
      go_ret
      exact ⟨_, rfl, HF.out, hB2⟩
  have hLl : (cellsF l).length = N * 4 := by rw [cellsF_len, hN]
  have hcl : cur.toList.length = cap * 4 := by rw [Array.length_toList]; exact hcs
  have hA : cur.toList.take (i * 4) = cellsF (l.take i) := by
    rw [← cellsF_take, ← htk, List.take_take, Nat.min_eq_left (by omega)]
  have hAl : (cellsF (l.take i)).length = i * 4 := by rw [cellsF_len, List.length_take, Nat.min_eq_left (by omega)]
  have hDl : (cellsF (l.drop (i + 1))).length = (N - (i + 1)) * 4 := by rw [cellsF_len, List.length_drop, hN]
  have hsrc : ∀ (j : Nat) (u : Value), (cellsF (l.drop (i + 1)))[j]? = some u → w.drew.cell? ((⟨g, (i + 1) * 4, none⟩ : Addr).add j) = some u := by
    intro j u hj
    rw [Lib.add_plain, World.cell?_drew]
    rw [← cellsF_drop, List.getElem?_drop, ← htk, List.getElem?_take] at hj
    split at hj
    · unfold World.cell?
      rw [hg]
      simpa using hj
    · cases hj
  obtain ⟨D, hD⟩ : ∃ D, D = cellsF (l.drop (i + 1)) := ⟨_, rfl⟩
  rw [← hD] at hDl hsrc
  have hap : ∀ ty c, (Builtin.append_ #[23, 23] ty #[.slice (some ⟨g, 0, none⟩) i cap, .slice (some ⟨g, (i + 1) * 4, none⟩) (N - (i + 1)) c]).run Tryz.prog w.drew = .ok (.slice (some ⟨g, 0, none⟩) (N - 1) cap) (w.drew.setRow g (splice cur (i * 4) D)) := fun ty c => by
    have := run_appIn w.drew ty g i cap cur hg ⟨g, (i + 1) * 4, none⟩ (N - (i + 1)) c D hDl hsrc (by rw [hD]; exact cellsF_one _) (by omega) (by rw [hDl, hcs]; omega)
    rw [show i + (N - (i + 1)) = N - 1 by omega] at this
    exact this
  have hg1 := setRow_heap w.drew g cur (splice cur (i * 4) D) 33 (0, 0) hg
  have hs1 : (splice cur (i * 4) D).size = cap * 4 := by rw [splice_len (by rw [hDl, hcs]; omega), hcs]
  have hfr := splice_front (cur := cur) (o := i * 4) (news := D) (by omega)
  obtain ⟨W1, hW1⟩ : ∃ W1, W1 = w.drew.setRow g (splice cur (i * 4) D) := ⟨_, rfl⟩
  rw [← hW1] at hap hg1
  have hB1 : Below wb.heap.size wb W1 := by rw [hW1]; exact below_setRow (hB.trans ((below_drewN w 1).mono hB.size)) hgB _
  have hclr : ∀ ty c, (Builtin.clear_ #[23] ty #[.slice (some ⟨g, (N - 1) * 4, none⟩) 1 c]).run Tryz.prog W1 = .ok (.tuple #[]) (W1.setRow g (splice (splice cur (i * 4) D) ((N - 1) * 4) zeros4)) := fun ty c =>
    run_clearOne W1 ty g ((N - 1) * 4) c _ hg1 (by rw [hs1]; omega)
  have hg2 := setRow_heap W1 g _ (splice (splice cur (i * 4) D) ((N - 1) * 4) zeros4) 33 (0, 0) hg1
  have hlen : (l.take i ++ l.drop (i + 1)).length = N - 1 := by simp; omega
  have hfin : (W1.setRow g (splice (splice cur (i * 4) D) ((N - 1) * 4) zeros4)).ownsRow wb.heap.size 33 4 (.slice (some ⟨g, 0, none⟩) (l.take i ++ l.drop (i + 1)).length cap) (l.take i ++ l.drop (i + 1)).length (cellsF (l.take i ++ l.drop (i + 1))) := by
    refine own_row hg2 hgB (by rw [hlen]; omega) hcm (by rw [splice_len (by rw [hs1]; simp [zeros4]; omega), hs1]) ?_
    rw [hlen, splice_take (Nat.le_refl _) (by rw [hs1]; omega), cellsF_app, ← hD, ← hA, ← hfr, hDl]
    congr 1
    omega
  rw [hlen] at hfin
  have hB2 : Below wb.heap.size wb (W1.setRow g (splice (splice cur (i * 4) D) ((N - 1) * 4) zeros4)) := below_setRow hB1 hgB _
  have HF := Lib.hid hfin
  have HL := Lib.hid hlen
  rw [hlen]
  have HA := Lib.hid hap
  have HC := Lib.hid hclr
  have i0 : (0 : Int) ≤ (i : Int) := by omega
  have i1 : (i : Int) < (N : Int) := by omega
  have i2 : ((i : Int) == (i : Int) + 1) = false := by rw [beq_eq_false_iff_ne]; omega
  have i3 : (i : Int) + 1 ≤ (N : Int) := by omega
  have i4 : (N : Int) ≤ (cap : Int) := by omega
  have i5 : (i : Int) ≤ (cap : Int) := by omega
  have i6 : (i : Int) ≤ (i : Int) + 1 := by omega
  have i7 : ((i : Int) + 1).toNat = i + 1 := by omega
  have n1 : ¬ (cap = i) := by omega
  have n2 : ¬ (cap = N - 1) := by omega
  have i9 : (0 : Int) ≤ (i : Int) + 1 := by omega
  have hd1 : N - (N - 1) = 1 := by omega
  have hd2 : ((N - 1 : Nat) : Int) ≤ (N : Int) := by omega
  have hm2 : (N : Int) ≤ 9223372036854775807 := by have : cap ≤ maxLen := hcm; unfold maxLen at this; omega
  clear hfin hlen hap hclr hLl hcl hA hAl hDl hsrc hD hW1 hg1 hg2 hs1 hfr hB1 htk hcs hg hN
  go_enter Tryz.func48, Tryz.ntmps48
  go_wp2_with fail
  go_region_held3 (fun _ => True) (trivial)
    (first
      | (refine step_append_runI (by rfl) (.tmp 22) (.tmp 25) 23 23 (by rfl) _ _ (by rfl) (by rfl) (HA.out _ _) ?_))
  all_goals
    go_wp2_with (refine wpList_clear_runI rfl _ 23 rfl _ rfl (HC.out _ _) ?_)
    go_ret
    exact ⟨_, rfl, HF.out, hB2⟩
end Go.Proofs.YtmcnblibnbkfjaaGreatDoor.W12
