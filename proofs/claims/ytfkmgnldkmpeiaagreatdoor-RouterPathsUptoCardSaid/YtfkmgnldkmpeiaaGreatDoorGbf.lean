/-
  Walks of layer 20: the reference's commands. Conditions: the request's cells hold it; its texts are within Go's own limit. Printed by wip/tools/refcommand20.py.
-/
import Derived.Test.YtfkmgnldkmpeiaaGreatDoorGau
import Derived.Test.YtfkmgnldkmpeiaaGreatDoorGbe

namespace Go.Proofs.YtfkmgnldkmpeiaaGreatDoor.W20
open Go Go.RowKit P12 P18 P20 W12

theorem rows_two {P N : Nat} {v : Value} {l : List Fld} {c : Cl} {w w' : World} (h : W12.Rows v l w) (hc : StAt tCl P (clC c (.slice none 0 0)) w) (hz : StAt tCl N (clC zeroC (.slice none 0 0)) w) (hk : ∀ k, k ≠ P → k ≠ N → w'.heap[k]? = w.heap[k]?) : W12.Rows v l w' := by
  obtain ⟨o, cp, rfl, h0⟩ := h
  refine ⟨o, cp, rfl, ?_⟩
  rcases h0 with h0 | ⟨g, off, rfl, h1⟩
  · exact .inl h0
  · cases l with
    | nil => exact .inl rfl
    | cons f l =>
      have h2 := (h1 0 f rfl).2.1
      have g1 : g ≠ P := rows_apart (l := f :: l) (k := 0) rfl h2 hc
      have g2 : g ≠ N := rows_apart (l := f :: l) (k := 0) rfl h2 hz
      have hcl : ∀ i, w'.cell? ⟨g, i, none⟩ = w.cell? ⟨g, i, none⟩ := fun i => by simp only [World.cell?, hk g g1 g2]
      refine .inr ⟨g, off, rfl, fun j f hj => ?_⟩
      obtain ⟨a, b, c, d⟩ := h1 j f hj
      exact ⟨(hcl _).trans a, (hcl _).trans b, (hcl _).trans c, (hcl _).trans d⟩
/-- What the reference's commands comes to. -/
def RComPost (C : Cl) (hs : List Hdr) (body : By) (w : World) (e : Ending) (w' : World) : Prop :=
  ∃ (C' : Cl) (fv : Value) (st : Int), e = .returned (.tuple #[.agg (clC C' fv), .int .i64 st]) ∧ commandL hs body (0, C) = (st, C') ∧ W12.Rows fv C'.cfields w' ∧ fv.oneCell' = true ∧ Below w.heap.size w w'
theorem rc_bad {C : Cl} {hs : List Hdr} {body : By} {w w' : World} (st : Int) (h : commandL hs body (0, C) = (st, zeroC)) (hb : Below w.heap.size w w') : RComPost C hs body w (.returned (.tuple #[.agg zeroCl, .int .i64 st])) w' :=
  ⟨zeroC, .slice none 0 0, st, rfl, h, W12.rows_nil _, by simp [Value.oneCell'], hb⟩
theorem rc_good {C C' : Cl} {hs : List Hdr} {body : By} {fv : Value} {w w' : World} (h : commandL hs body (0, C) = (200, C')) (hr : W12.Rows fv C'.cfields w') (h1 : fv.oneCell' = true) (hb : Below w.heap.size w w') : RComPost C hs body w (.returned (.tuple #[.agg (clC C' fv), .int .i64 200])) w' :=
  ⟨C', fv, 200, rfl, h, hr, h1, hb⟩
theorem one_clr {c : Cl} {fv : Value} (h : fv.oneCell' = true) : (clC c fv).all (·.oneCell') = true := by
  rw [Array.all_eq_true_iff_forall_mem]
  intro v hv
  simp only [List.mem_toArray, List.mem_cons, List.not_mem_nil, or_false] at hv
  rcases hv with rfl | rfl | rfl | rfl | rfl | rfl | rfl | rfl | rfl | rfl | rfl
  all_goals first | exact h | simp [Value.oneCell']
set_option maxHeartbeats 12000000 in
set_option maxRecDepth 100000 in
theorem refCommands_any (C : Cl) (M Pa Q Y : ByteArray) (v : Value) (cl : Bool) (hs : List Hdr) (w : World) (hY : Y.size ≤ 1000000000000) (hn : hs.length ≤ 4611686018427387904) (hv : RowsH v hs w) :
    Calls Tryz.prog 34 #[.agg (clC C (.slice none 0 0)), reqV M Pa Q v Y cl] w (RComPost C hs Y.data.toList w) := by
  obtain ⟨o, cp, rfl, hcl⟩ := id hv
  obtain ⟨w1, hw1⟩ : ∃ w1, w1 = ((w.alloc (.cells (clC C (.slice none 0 0)) tCl)).alloc (.cells #[.string M, .string Pa, .string Q, .slice o hs.length cp, .string Y, .bool cl] 25)).alloc (.cells zeroCl tCl) := ⟨_, rfl⟩
  have hb1 : Below w.heap.size w w1 := by rw [hw1]; exact below_then (below_then (below_alloc _ _) (below_alloc _ _)) (below_alloc _ _)
  have hc1 : StAt tCl w.heap.size (clC C (.slice none 0 0)) w1 := by rw [hw1]; exact keep_at (keep_at (new_at w _ _) (below_alloc _ _)) (below_alloc _ _)
  have hq1 : StAt 25 (w.heap.size + 1) #[.string M, .string Pa, .string Q, .slice o hs.length cp, .string Y, .bool cl] w1 := by
    have := new_at (w.alloc (.cells (clC C (.slice none 0 0)) tCl)) #[.string M, .string Pa, .string Q, .slice o hs.length cp, .string Y, .bool cl] 25
    rw [World.size_alloc] at this
    rw [hw1]
    exact keep_at this (below_alloc _ _)
  have hx1 : StAt tCl (w.heap.size + 1 + 1) zeroCl w1 := by
    have := new_at ((w.alloc (.cells (clC C (.slice none 0 0)) tCl)).alloc (.cells #[.string M, .string Pa, .string Q, .slice o hs.length cp, .string Y, .bool cl] 25)) zeroCl tCl
    rw [World.size_alloc, World.size_alloc] at this
    rw [hw1]
    exact this
  have hv1 := hv.keep hb1
  obtain ⟨K, hK⟩ : ∃ K : ByteArray, bs (getV hs keyN) = .string K ∧ K.data.toList = getV hs keyN := ⟨⟨(getV hs keyN).toArray⟩, rfl, rfl⟩
  obtain ⟨X, hX⟩ : ∃ K : ByteArray, bs (getV hs expN) = .string K ∧ K.data.toList = getV hs expN := ⟨⟨(getV hs expN).toArray⟩, rfl, rfl⟩
  obtain ⟨nk, hnk⟩ : ∃ nk, nk = getN hs keyN := ⟨_, rfl⟩
  obtain ⟨nx, hnx⟩ : ∃ nx, nx = getN hs expN := ⟨_, rfl⟩
  have hg1 : ∀ W, Below w1.heap.size w1 W → Calls Tryz.prog 72 #[reqV M Pa Q (.slice o hs.length cp) Y cl, .string keyB] W fun e w' => e = .returned (.tuple #[.string K, .int .i64 nk]) ∧ Below W.heap.size W w' := fun W hW => by
    have := refGet_any M Pa Q _ Y cl hs keyB W (hv1.keep hW) hn
    rw [show keyB.data.toList = keyN from rfl, hK.1, ← hnk] at this
    exact this
  have hg2 : ∀ W, Below w1.heap.size w1 W → Calls Tryz.prog 72 #[reqV M Pa Q (.slice o hs.length cp) Y cl, .string expB] W fun e w' => e = .returned (.tuple #[.string X, .int .i64 nx]) ∧ Below W.heap.size W w' := fun W hW => by
    have := refGet_any M Pa Q _ Y cl hs expB W (hv1.keep hW) hn
    rw [show expB.data.toList = expN from rfl, hX.1, ← hnx] at this
    exact this
  have hnkl : nk ≤ 4611686018427387904 := by rw [hnk]; exact Nat.le_trans (getN_le _ _) hn
  have hnxl : nx ≤ 4611686018427387904 := by rw [hnx]; exact Nat.le_trans (getN_le _ _) hn
  have hrd := fun W => refRead_any Y W hY
  rw [show refReadL Y.data.toList = readL Y.data.toList from refRead_eq _] at hrd
  obtain ⟨l, hl⟩ : ∃ l, l = (readL Y.data.toList).1 := ⟨_, rfl⟩
  obtain ⟨er, her⟩ : ∃ er, er = (readL Y.data.toList).2 := ⟨_, rfl⟩
  rw [← hl, ← her] at hrd
  have hdg := fun W => refDigits_any X W
  unfold DigPost at hdg
  have HG1 := Lib.hid (hg1 w1 (Below.refl _ _))
  rw [hw1] at HG1
  have HG2 := Lib.hid hg2
  have HRD := Lib.hid hrd
  have HK := Lib.hid hK
  have HX := Lib.hid hX
  have HNK := Lib.hid hnk
  have HNX := Lib.hid hnx
  have HL := Lib.hid hl
  have HER := Lib.hid her
  have HW := Lib.hid hw1
  clear hg1 hg2 hrd hK hX hnk hnx hl her hcl hv hv1
  by_cases hk2 : 2 ≤ nk
  · have zk : (1 : Int) < (nk : Int) := by omega
    have HB := Lib.hid (com_400k (body := Y.data.toList) (C := C) (.inl (by rw [← HNK.out]; omega)))
    clear hdg
    go_enter Tryz.func34, Tryz.ntmps34
    go_wp2_with (go_at_call 72; (refine HG1.out.mono ?_); rintro e w2 ⟨rfl, hb2⟩; refine Hid.out ?_)
    refine Lib.hid ?_
    rw [← HW.out] at hb2
    have hq2 := keep_at hq1 hb2
    obtain ⟨q0, q1, q2, q3, q4, q5⟩ := rq_cells hq2
    go_wp2_with (go_at_call 72; (refine (HG2.out _ hb2).mono ?_); rintro e w3 ⟨rfl, hb3⟩; refine Hid.out ?_)
    refine Lib.hid ?_
    have r4 := keep_cell hb3 q4
    have bA := below_then hb1 (below_then hb2 hb3)
    have cA := keep_at (keep_at hc1 hb2) hb3
    have xA := keep_at (keep_at hx1 hb2) hb3
    go_wp2_with (first
      | (refine put_st rfl _ _ _ rfl (w.heap.size + 1 + 1) zeroCl rfl rfl xA infoCl rfl (by simp [Value.oneCell']) ?_; intro w9 h1 h2 h3))
    exact bodyPost_ret (v := .tuple #[.agg zeroCl, .int .i64 400]) (ret_st2 Tryz.results34 _ _ _ _ rfl (load_cl h1 rfl)) rfl (rc_bad 400 HB.out (bA.trans (h2.mono (by omega))))
  · by_cases hk1 : nk = 1
    · have hk1' : getN hs keyN = 1 := by rw [← HNK.out]; exact hk1
      subst hk1
      have hfit := fun V => refFits_any K V
      cases hf : fitsL K.data.toList with
      | false =>
        rw [hf] at hfit
        have HF := Lib.hid hfit
        have HB := Lib.hid (com_400k (body := Y.data.toList) (C := C) (.inr (.inl ⟨hk1', by rw [← HK.out.2]; exact hf⟩)))
        clear hf hk1' hfit hk2 hdg
        go_enter Tryz.func34, Tryz.ntmps34
        go_wp2_with (go_at_call 72; (refine HG1.out.mono ?_); rintro e w2 ⟨rfl, hb2⟩; refine Hid.out ?_)
        refine Lib.hid ?_
        rw [← HW.out] at hb2
        have hq2 := keep_at hq1 hb2
        obtain ⟨q0, q1, q2, q3, q4, q5⟩ := rq_cells hq2
        go_wp2_with (go_at_call 72; (refine (HG2.out _ hb2).mono ?_); rintro e w3 ⟨rfl, hb3⟩; refine Hid.out ?_)
        refine Lib.hid ?_
        have r4 := keep_cell hb3 q4
        have bA := below_then hb1 (below_then hb2 hb3)
        have cA := keep_at (keep_at hc1 hb2) hb3
        have xA := keep_at (keep_at hx1 hb2) hb3
        go_wp2_with (first
          | (go_at_call 69; refine (HF.out _).mono ?_; rintro e w' ⟨rfl, rfl⟩)
          | (refine put_st rfl _ _ _ rfl (w.heap.size + 1 + 1) zeroCl rfl rfl xA infoCl rfl (by simp [Value.oneCell']) ?_; intro w9 h1 h2 h3))
        exact bodyPost_ret (v := .tuple #[.agg zeroCl, .int .i64 400]) (ret_st2 Tryz.results34 _ _ _ _ rfl (load_cl h1 rfl)) rfl (rc_bad 400 HB.out (bA.trans (h2.mono (by omega))))
      | true =>
        rw [hf] at hfit
        have HF := Lib.hid hfit
        have HKEY : Hid (¬ (1 < getN hs keyN ∨ (getN hs keyN = 1 ∧ fitsL (getV hs keyN) = false))) := Lib.hid (by rintro (h | ⟨_, h⟩); omega; rw [← HK.out.2, hf] at h; cases h)
        clear hf hk1' hfit hk2
        cases hd : digitsL X.data.toList with
          | none =>
            have HD : Hid (∀ W, Calls Tryz.prog 73 #[.string X] W fun e w' => e = .returned (.tuple #[.int .i64 0, .bool false]) ∧ W = w') := Lib.hid (fun W => by have := hdg W; rw [hd] at this; exact this)
            have hd2 : digitsL (getV hs expN) = none := by rw [← HX.out.2]; exact hd
            have HDD := Lib.hid hd2
            clear hd2 hd hdg
            by_cases hx2 : 2 ≤ nx
            · have zx : (1 : Int) < (nx : Int) := by omega
              have HB := Lib.hid (com_400k (body := Y.data.toList) (C := C) (.inr (.inr (by rw [← HNX.out]; omega))))
              go_enter Tryz.func34, Tryz.ntmps34
              go_wp2_with (go_at_call 72; (refine HG1.out.mono ?_); rintro e w2 ⟨rfl, hb2⟩; refine Hid.out ?_)
              refine Lib.hid ?_
              rw [← HW.out] at hb2
              have hq2 := keep_at hq1 hb2
              obtain ⟨q0, q1, q2, q3, q4, q5⟩ := rq_cells hq2
              go_wp2_with (go_at_call 72; (refine (HG2.out _ hb2).mono ?_); rintro e w3 ⟨rfl, hb3⟩; refine Hid.out ?_)
              refine Lib.hid ?_
              have r4 := keep_cell hb3 q4
              have bA := below_then hb1 (below_then hb2 hb3)
              have cA := keep_at (keep_at hc1 hb2) hb3
              have xA := keep_at (keep_at hx1 hb2) hb3
              go_wp2_with (first
                | (go_at_call 69; refine (HF.out _).mono ?_; rintro e w' ⟨rfl, rfl⟩)
                | (go_at_call 73; refine (HD.out _).mono ?_; rintro e w' ⟨rfl, rfl⟩)
                | (refine put_st rfl _ _ _ rfl (w.heap.size + 1 + 1) zeroCl rfl rfl xA infoCl rfl (by simp [Value.oneCell']) ?_; intro w9 h1 h2 h3))
              exact bodyPost_ret (v := .tuple #[.agg zeroCl, .int .i64 400]) (ret_st2 Tryz.results34 _ _ _ _ rfl (load_cl h1 rfl)) rfl (rc_bad 400 HB.out (bA.trans (h2.mono (by omega))))
            · by_cases hx1 : nx = 1
              · have HX1 : Hid (getN hs expN = 1) := Lib.hid (by rw [← HNX.out]; exact hx1)
                subst hx1
                clear hx2
                have HB := Lib.hid (com_400e (body := Y.data.toList) (C := C) HX1.out HDD.out)
                go_enter Tryz.func34, Tryz.ntmps34
                go_wp2_with (go_at_call 72; (refine HG1.out.mono ?_); rintro e w2 ⟨rfl, hb2⟩; refine Hid.out ?_)
                refine Lib.hid ?_
                rw [← HW.out] at hb2
                have hq2 := keep_at hq1 hb2
                obtain ⟨q0, q1, q2, q3, q4, q5⟩ := rq_cells hq2
                go_wp2_with (go_at_call 72; (refine (HG2.out _ hb2).mono ?_); rintro e w3 ⟨rfl, hb3⟩; refine Hid.out ?_)
                refine Lib.hid ?_
                have r4 := keep_cell hb3 q4
                have bA := below_then hb1 (below_then hb2 hb3)
                have cA := keep_at (keep_at hc1 hb2) hb3
                have xA := keep_at (keep_at hx1 hb2) hb3
                go_wp2_with (first
                  | (go_at_call 69; refine (HF.out _).mono ?_; rintro e w' ⟨rfl, rfl⟩)
                  | (go_at_call 73; refine (HD.out _).mono ?_; rintro e w' ⟨rfl, rfl⟩)
                  | (refine put_st rfl _ _ _ rfl (w.heap.size + 1 + 1) zeroCl rfl rfl xA infoCl rfl (by simp [Value.oneCell']) ?_; intro w9 h1 h2 h3))
                exact bodyPost_ret (v := .tuple #[.agg zeroCl, .int .i64 400]) (ret_st2 Tryz.results34 _ _ _ _ rfl (load_cl h1 rfl)) rfl (rc_bad 400 HB.out (bA.trans (h2.mono (by omega))))
              · have hx0 : nx = 0 := by omega
                have HV0 : Hid (getN hs expN = 0) := Lib.hid (by rw [← HNX.out]; exact hx0)
                subst hx0
                have HOK : Hid (HeadOk hs) := Lib.hid ⟨HKEY.out, by have := HV0.out; rintro (h | ⟨h, _⟩) <;> omega⟩
                clear hx1 hx2
                go_enter Tryz.func34, Tryz.ntmps34
                go_wp2_with (go_at_call 72; (refine HG1.out.mono ?_); rintro e w2 ⟨rfl, hb2⟩; refine Hid.out ?_)
                refine Lib.hid ?_
                rw [← HW.out] at hb2
                have hq2 := keep_at hq1 hb2
                obtain ⟨q0, q1, q2, q3, q4, q5⟩ := rq_cells hq2
                go_wp2_with (go_at_call 72; (refine (HG2.out _ hb2).mono ?_); rintro e w3 ⟨rfl, hb3⟩; refine Hid.out ?_)
                refine Lib.hid ?_
                have r4 := keep_cell hb3 q4
                have bA := below_then hb1 (below_then hb2 hb3)
                have cA := keep_at (keep_at hc1 hb2) hb3
                have xA := keep_at (keep_at hx1 hb2) hb3
                go_wp2_with (first
                  | (go_at_call 69; refine (HF.out _).mono ?_; rintro e w' ⟨rfl, rfl⟩)
                  | (go_at_call 73; refine (HD.out _).mono ?_; rintro e w' ⟨rfl, rfl⟩)
                  | (go_at_call 71; (refine (HRD.out _).mono ?_); rintro e w4 ⟨fv, rfl, hrw, hb4⟩; refine Hid.out ?_))
                refine Lib.hid ?_
                have c4 := keep_at cA hb4
                have x4 := keep_at xA hb4
                have b4 := below_then bA hb4
                by_cases he : er = 0
                · have HB := Lib.hid (com_200 (C := C) HOK.out (HER.out.symm.trans he))
                  subst he
                  obtain ⟨fo, fc, rfl, hfl⟩ := id hrw
                  have hone := one_slice hrw
                  have k3 : w4.cell? ⟨w.heap.size, 3, none⟩ = some (bs C.ckey) := Lib.cell_of_heap c4 3
                  have k4 : w4.cell? ⟨w.heap.size, 4, none⟩ = some (.int .i64 C.cexp) := Lib.cell_of_heap c4 4
                  have k5 : w4.cell? ⟨w.heap.size, 5, none⟩ = some (.slice none 0 0) := Lib.cell_of_heap c4 5
                  have z3 := Lib.frozen_of_heap c4 3
                  have z4 := Lib.frozen_of_heap c4 4
                  have z5 := Lib.frozen_of_heap c4 5
                  have cS := set_two (k := getV hs keyN) (l := l) (gv := .slice fo l.length fc) c4
                  rw [HK.out.1] at cS
                  have hoth : ∀ j, j ≠ w.heap.size → ((w4.setCell ⟨w.heap.size, 3, none⟩ (.string K)).setCell ⟨w.heap.size, 5, none⟩ (.slice fo l.length fc)).heap[j]? = w4.heap[j]? := fun j hj => by
                    rw [heap_setCell_other _ ⟨w.heap.size, 5, none⟩ j _ hj, heap_setCell_other _ ⟨w.heap.size, 3, none⟩ j _ hj]
                  have xS : StAt tCl (w.heap.size + 1 + 1) zeroCl ((w4.setCell ⟨w.heap.size, 3, none⟩ (.string K)).setCell ⟨w.heap.size, 5, none⟩ (.slice fo l.length fc)) := (hoth _ (by omega)).trans x4
                  have bS : Below w.heap.size w ((w4.setCell ⟨w.heap.size, 3, none⟩ (.string K)).setCell ⟨w.heap.size, 5, none⟩ (.slice fo l.length fc)) := (b4.setCell (p := ⟨w.heap.size, 3, none⟩) (Nat.le_refl _) _).setCell (p := ⟨w.heap.size, 5, none⟩) (Nat.le_refl _) _
                  have HCM : Hid (commandL hs Y.data.toList (0, C) = (200, (Fc C (getV hs keyN) l))) := Lib.hid (by rw [HB.out]; rw [if_neg (by rw [HV0.out]; decide), ← HL.out])
                  have HRW := Lib.hid hrw
                  have HC4 := Lib.hid c4
                  have HX4 := Lib.hid x4
                  have HCS := Lib.hid cS
                  have HXS := Lib.hid xS
                  have HOT := Lib.hid hoth
                  clear hfl hrw c4 x4 cA xA cS xS hoth HB
                  go_upto_region 15 with (fail)
                  have cS := HCS.out
                  have xS := HXS.out
                  have hoth := HOT.out
                  generalize ((w4.setCell ⟨w.heap.size, 3, none⟩ (.string K)).setCell ⟨w.heap.size, 5, none⟩ (.slice fo l.length fc)) = w8 at cS xS hoth bS ⊢
                  clear HCS HXS HOT k3 k4 k5 z3 z4 z5
                  go_wp2_with (first
                    | (refine wpList_load_row rfl _ _ rfl w.heap.size rfl _ _ _ _ cS Tryz.underlying30 rfl infoCl ?_)
                    | (refine put_st rfl _ _ _ rfl (w.heap.size + 1 + 1) (clC (Fc C (getV hs keyN) l) (.slice fo l.length fc)) rfl rfl xS infoCl rfl (one_clr hone) ?_; intro w9 h1 h2 h3))
                  exact bodyPost_ret (v := .tuple #[.agg (clC (Fc C (getV hs keyN) l) (.slice fo l.length fc)), .int .i64 200]) (ret_st2 Tryz.results34 _ _ _ _ rfl (load_cl h1 rfl)) rfl (rc_good HCM.out (rows_two HRW.out HC4.out HX4.out (fun j h5 h6 => (h3 j h6).trans (hoth j h5))) hone (bS.trans (h2.mono (by omega))))
                · have hez : (er == 0) = false := by rw [beq_eq_false_iff_ne]; exact he
                  have hez2 : (er != 0) = true := by rw [bne, hez]; rfl
                  have HB := Lib.hid (com_422 (C := C) HOK.out (by rw [← HER.out]; exact he))
                  clear he
                  go_wp2_with (first
                    | (refine put_st rfl _ _ _ rfl (w.heap.size + 1 + 1) zeroCl rfl rfl x4 infoCl rfl (by simp [Value.oneCell']) ?_; intro w9 h1 h2 h3))
                  exact bodyPost_ret (v := .tuple #[.agg zeroCl, .int .i64 422]) (ret_st2 Tryz.results34 _ _ _ _ rfl (load_cl h1 rfl)) rfl (rc_bad 422 HB.out (b4.trans (h2.mono (by omega))))
          | some vn =>
            have HD : Hid (∀ W, Calls Tryz.prog 73 #[.string X] W fun e w' => e = .returned (.tuple #[.int .i64 (vn : Int), .bool true]) ∧ W = w') := Lib.hid (fun W => by have := hdg W; rw [hd] at this; exact this)
            have hd2 : digitsL (getV hs expN) = some vn := by rw [← HX.out.2]; exact hd
            have HDD := Lib.hid hd2
            clear hd2 hd hdg
            by_cases hx2 : 2 ≤ nx
            · have zx : (1 : Int) < (nx : Int) := by omega
              have HB := Lib.hid (com_400k (body := Y.data.toList) (C := C) (.inr (.inr (by rw [← HNX.out]; omega))))
              go_enter Tryz.func34, Tryz.ntmps34
              go_wp2_with (go_at_call 72; (refine HG1.out.mono ?_); rintro e w2 ⟨rfl, hb2⟩; refine Hid.out ?_)
              refine Lib.hid ?_
              rw [← HW.out] at hb2
              have hq2 := keep_at hq1 hb2
              obtain ⟨q0, q1, q2, q3, q4, q5⟩ := rq_cells hq2
              go_wp2_with (go_at_call 72; (refine (HG2.out _ hb2).mono ?_); rintro e w3 ⟨rfl, hb3⟩; refine Hid.out ?_)
              refine Lib.hid ?_
              have r4 := keep_cell hb3 q4
              have bA := below_then hb1 (below_then hb2 hb3)
              have cA := keep_at (keep_at hc1 hb2) hb3
              have xA := keep_at (keep_at hx1 hb2) hb3
              go_wp2_with (first
                | (go_at_call 69; refine (HF.out _).mono ?_; rintro e w' ⟨rfl, rfl⟩)
                | (go_at_call 73; refine (HD.out _).mono ?_; rintro e w' ⟨rfl, rfl⟩)
                | (refine put_st rfl _ _ _ rfl (w.heap.size + 1 + 1) zeroCl rfl rfl xA infoCl rfl (by simp [Value.oneCell']) ?_; intro w9 h1 h2 h3))
              exact bodyPost_ret (v := .tuple #[.agg zeroCl, .int .i64 400]) (ret_st2 Tryz.results34 _ _ _ _ rfl (load_cl h1 rfl)) rfl (rc_bad 400 HB.out (bA.trans (h2.mono (by omega))))
            · by_cases hx1 : nx = 1
              · have HX1 : Hid (getN hs expN = 1) := Lib.hid (by rw [← HNX.out]; exact hx1)
                subst hx1
                clear hx2
                have HOK : Hid (HeadOk hs) := Lib.hid ⟨HKEY.out, by rintro (h | ⟨_, h⟩); exact absurd h (by have := HX1.out; omega); rw [HDD.out] at h; cases h⟩
                go_enter Tryz.func34, Tryz.ntmps34
                go_wp2_with (go_at_call 72; (refine HG1.out.mono ?_); rintro e w2 ⟨rfl, hb2⟩; refine Hid.out ?_)
                refine Lib.hid ?_
                rw [← HW.out] at hb2
                have hq2 := keep_at hq1 hb2
                obtain ⟨q0, q1, q2, q3, q4, q5⟩ := rq_cells hq2
                go_wp2_with (go_at_call 72; (refine (HG2.out _ hb2).mono ?_); rintro e w3 ⟨rfl, hb3⟩; refine Hid.out ?_)
                refine Lib.hid ?_
                have r4 := keep_cell hb3 q4
                have bA := below_then hb1 (below_then hb2 hb3)
                have cA := keep_at (keep_at hc1 hb2) hb3
                have xA := keep_at (keep_at hx1 hb2) hb3
                go_wp2_with (first
                  | (go_at_call 69; refine (HF.out _).mono ?_; rintro e w' ⟨rfl, rfl⟩)
                  | (go_at_call 73; refine (HD.out _).mono ?_; rintro e w' ⟨rfl, rfl⟩)
                  | (go_at_call 71; (refine (HRD.out _).mono ?_); rintro e w4 ⟨fv, rfl, hrw, hb4⟩; refine Hid.out ?_))
                refine Lib.hid ?_
                have c4 := keep_at cA hb4
                have x4 := keep_at xA hb4
                have b4 := below_then bA hb4
                by_cases he : er = 0
                · have HB := Lib.hid (com_200 (C := C) HOK.out (HER.out.symm.trans he))
                  subst he
                  obtain ⟨fo, fc, rfl, hfl⟩ := id hrw
                  have hone := one_slice hrw
                  have k3 : w4.cell? ⟨w.heap.size, 3, none⟩ = some (bs C.ckey) := Lib.cell_of_heap c4 3
                  have k4 : w4.cell? ⟨w.heap.size, 4, none⟩ = some (.int .i64 C.cexp) := Lib.cell_of_heap c4 4
                  have k5 : w4.cell? ⟨w.heap.size, 5, none⟩ = some (.slice none 0 0) := Lib.cell_of_heap c4 5
                  have z3 := Lib.frozen_of_heap c4 3
                  have z4 := Lib.frozen_of_heap c4 4
                  have z5 := Lib.frozen_of_heap c4 5
                  have cS := set_exp (n := (vn : Int)) (set_two (k := getV hs keyN) (l := l) (gv := .slice fo l.length fc) c4)
                  rw [HK.out.1] at cS
                  have hoth : ∀ j, j ≠ w.heap.size → (((w4.setCell ⟨w.heap.size, 3, none⟩ (.string K)).setCell ⟨w.heap.size, 5, none⟩ (.slice fo l.length fc)).setCell ⟨w.heap.size, 4, none⟩ (.int .i64 (vn : Int))).heap[j]? = w4.heap[j]? := fun j hj => by
                    rw [heap_setCell_other _ ⟨w.heap.size, 4, none⟩ j _ hj, heap_setCell_other _ ⟨w.heap.size, 5, none⟩ j _ hj, heap_setCell_other _ ⟨w.heap.size, 3, none⟩ j _ hj]
                  have xS : StAt tCl (w.heap.size + 1 + 1) zeroCl (((w4.setCell ⟨w.heap.size, 3, none⟩ (.string K)).setCell ⟨w.heap.size, 5, none⟩ (.slice fo l.length fc)).setCell ⟨w.heap.size, 4, none⟩ (.int .i64 (vn : Int))) := (hoth _ (by omega)).trans x4
                  have bS : Below w.heap.size w (((w4.setCell ⟨w.heap.size, 3, none⟩ (.string K)).setCell ⟨w.heap.size, 5, none⟩ (.slice fo l.length fc)).setCell ⟨w.heap.size, 4, none⟩ (.int .i64 (vn : Int))) := ((b4.setCell (p := ⟨w.heap.size, 3, none⟩) (Nat.le_refl _) _).setCell (p := ⟨w.heap.size, 5, none⟩) (Nat.le_refl _) _).setCell (p := ⟨w.heap.size, 4, none⟩) (Nat.le_refl _) _
                  have HCM : Hid (commandL hs Y.data.toList (0, C) = (200, (Ec (Fc C (getV hs keyN) l) (vn : Int)))) := Lib.hid (by rw [HB.out]; rw [if_pos HX1.out, HDD.out, ← HL.out]; rfl)
                  have HRW := Lib.hid hrw
                  have HC4 := Lib.hid c4
                  have HX4 := Lib.hid x4
                  have HCS := Lib.hid cS
                  have HXS := Lib.hid xS
                  have HOT := Lib.hid hoth
                  clear hfl hrw c4 x4 cA xA cS xS hoth HB
                  go_upto_region 15 with (fail)
                  have cS := HCS.out
                  have xS := HXS.out
                  have hoth := HOT.out
                  generalize (((w4.setCell ⟨w.heap.size, 3, none⟩ (.string K)).setCell ⟨w.heap.size, 5, none⟩ (.slice fo l.length fc)).setCell ⟨w.heap.size, 4, none⟩ (.int .i64 (vn : Int))) = w8 at cS xS hoth bS ⊢
                  clear HCS HXS HOT k3 k4 k5 z3 z4 z5
                  go_wp2_with (first
                    | (refine wpList_load_row rfl _ _ rfl w.heap.size rfl _ _ _ _ cS Tryz.underlying30 rfl infoCl ?_)
                    | (refine put_st rfl _ _ _ rfl (w.heap.size + 1 + 1) (clC (Ec (Fc C (getV hs keyN) l) (vn : Int)) (.slice fo l.length fc)) rfl rfl xS infoCl rfl (one_clr hone) ?_; intro w9 h1 h2 h3))
                  exact bodyPost_ret (v := .tuple #[.agg (clC (Ec (Fc C (getV hs keyN) l) (vn : Int)) (.slice fo l.length fc)), .int .i64 200]) (ret_st2 Tryz.results34 _ _ _ _ rfl (load_cl h1 rfl)) rfl (rc_good HCM.out (rows_two HRW.out HC4.out HX4.out (fun j h5 h6 => (h3 j h6).trans (hoth j h5))) hone (bS.trans (h2.mono (by omega))))
                · have hez : (er == 0) = false := by rw [beq_eq_false_iff_ne]; exact he
                  have hez2 : (er != 0) = true := by rw [bne, hez]; rfl
                  have HB := Lib.hid (com_422 (C := C) HOK.out (by rw [← HER.out]; exact he))
                  clear he
                  go_wp2_with (first
                    | (refine put_st rfl _ _ _ rfl (w.heap.size + 1 + 1) zeroCl rfl rfl x4 infoCl rfl (by simp [Value.oneCell']) ?_; intro w9 h1 h2 h3))
                  exact bodyPost_ret (v := .tuple #[.agg zeroCl, .int .i64 422]) (ret_st2 Tryz.results34 _ _ _ _ rfl (load_cl h1 rfl)) rfl (rc_bad 422 HB.out (b4.trans (h2.mono (by omega))))
              · have hx0 : nx = 0 := by omega
                have HV0 : Hid (getN hs expN = 0) := Lib.hid (by rw [← HNX.out]; exact hx0)
                subst hx0
                have HOK : Hid (HeadOk hs) := Lib.hid ⟨HKEY.out, by have := HV0.out; rintro (h | ⟨h, _⟩) <;> omega⟩
                clear hx1 hx2
                go_enter Tryz.func34, Tryz.ntmps34
                go_wp2_with (go_at_call 72; (refine HG1.out.mono ?_); rintro e w2 ⟨rfl, hb2⟩; refine Hid.out ?_)
                refine Lib.hid ?_
                rw [← HW.out] at hb2
                have hq2 := keep_at hq1 hb2
                obtain ⟨q0, q1, q2, q3, q4, q5⟩ := rq_cells hq2
                go_wp2_with (go_at_call 72; (refine (HG2.out _ hb2).mono ?_); rintro e w3 ⟨rfl, hb3⟩; refine Hid.out ?_)
                refine Lib.hid ?_
                have r4 := keep_cell hb3 q4
                have bA := below_then hb1 (below_then hb2 hb3)
                have cA := keep_at (keep_at hc1 hb2) hb3
                have xA := keep_at (keep_at hx1 hb2) hb3
                go_wp2_with (first
                  | (go_at_call 69; refine (HF.out _).mono ?_; rintro e w' ⟨rfl, rfl⟩)
                  | (go_at_call 73; refine (HD.out _).mono ?_; rintro e w' ⟨rfl, rfl⟩)
                  | (go_at_call 71; (refine (HRD.out _).mono ?_); rintro e w4 ⟨fv, rfl, hrw, hb4⟩; refine Hid.out ?_))
                refine Lib.hid ?_
                have c4 := keep_at cA hb4
                have x4 := keep_at xA hb4
                have b4 := below_then bA hb4
                by_cases he : er = 0
                · have HB := Lib.hid (com_200 (C := C) HOK.out (HER.out.symm.trans he))
                  subst he
                  obtain ⟨fo, fc, rfl, hfl⟩ := id hrw
                  have hone := one_slice hrw
                  have k3 : w4.cell? ⟨w.heap.size, 3, none⟩ = some (bs C.ckey) := Lib.cell_of_heap c4 3
                  have k4 : w4.cell? ⟨w.heap.size, 4, none⟩ = some (.int .i64 C.cexp) := Lib.cell_of_heap c4 4
                  have k5 : w4.cell? ⟨w.heap.size, 5, none⟩ = some (.slice none 0 0) := Lib.cell_of_heap c4 5
                  have z3 := Lib.frozen_of_heap c4 3
                  have z4 := Lib.frozen_of_heap c4 4
                  have z5 := Lib.frozen_of_heap c4 5
                  have cS := set_two (k := getV hs keyN) (l := l) (gv := .slice fo l.length fc) c4
                  rw [HK.out.1] at cS
                  have hoth : ∀ j, j ≠ w.heap.size → ((w4.setCell ⟨w.heap.size, 3, none⟩ (.string K)).setCell ⟨w.heap.size, 5, none⟩ (.slice fo l.length fc)).heap[j]? = w4.heap[j]? := fun j hj => by
                    rw [heap_setCell_other _ ⟨w.heap.size, 5, none⟩ j _ hj, heap_setCell_other _ ⟨w.heap.size, 3, none⟩ j _ hj]
                  have xS : StAt tCl (w.heap.size + 1 + 1) zeroCl ((w4.setCell ⟨w.heap.size, 3, none⟩ (.string K)).setCell ⟨w.heap.size, 5, none⟩ (.slice fo l.length fc)) := (hoth _ (by omega)).trans x4
                  have bS : Below w.heap.size w ((w4.setCell ⟨w.heap.size, 3, none⟩ (.string K)).setCell ⟨w.heap.size, 5, none⟩ (.slice fo l.length fc)) := (b4.setCell (p := ⟨w.heap.size, 3, none⟩) (Nat.le_refl _) _).setCell (p := ⟨w.heap.size, 5, none⟩) (Nat.le_refl _) _
                  have HCM : Hid (commandL hs Y.data.toList (0, C) = (200, (Fc C (getV hs keyN) l))) := Lib.hid (by rw [HB.out]; rw [if_neg (by rw [HV0.out]; decide), ← HL.out])
                  have HRW := Lib.hid hrw
                  have HC4 := Lib.hid c4
                  have HX4 := Lib.hid x4
                  have HCS := Lib.hid cS
                  have HXS := Lib.hid xS
                  have HOT := Lib.hid hoth
                  clear hfl hrw c4 x4 cA xA cS xS hoth HB
                  go_upto_region 15 with (fail)
                  have cS := HCS.out
                  have xS := HXS.out
                  have hoth := HOT.out
                  generalize ((w4.setCell ⟨w.heap.size, 3, none⟩ (.string K)).setCell ⟨w.heap.size, 5, none⟩ (.slice fo l.length fc)) = w8 at cS xS hoth bS ⊢
                  clear HCS HXS HOT k3 k4 k5 z3 z4 z5
                  go_wp2_with (first
                    | (refine wpList_load_row rfl _ _ rfl w.heap.size rfl _ _ _ _ cS Tryz.underlying30 rfl infoCl ?_)
                    | (refine put_st rfl _ _ _ rfl (w.heap.size + 1 + 1) (clC (Fc C (getV hs keyN) l) (.slice fo l.length fc)) rfl rfl xS infoCl rfl (one_clr hone) ?_; intro w9 h1 h2 h3))
                  exact bodyPost_ret (v := .tuple #[.agg (clC (Fc C (getV hs keyN) l) (.slice fo l.length fc)), .int .i64 200]) (ret_st2 Tryz.results34 _ _ _ _ rfl (load_cl h1 rfl)) rfl (rc_good HCM.out (rows_two HRW.out HC4.out HX4.out (fun j h5 h6 => (h3 j h6).trans (hoth j h5))) hone (bS.trans (h2.mono (by omega))))
                · have hez : (er == 0) = false := by rw [beq_eq_false_iff_ne]; exact he
                  have hez2 : (er != 0) = true := by rw [bne, hez]; rfl
                  have HB := Lib.hid (com_422 (C := C) HOK.out (by rw [← HER.out]; exact he))
                  clear he
                  go_wp2_with (first
                    | (refine put_st rfl _ _ _ rfl (w.heap.size + 1 + 1) zeroCl rfl rfl x4 infoCl rfl (by simp [Value.oneCell']) ?_; intro w9 h1 h2 h3))
                  exact bodyPost_ret (v := .tuple #[.agg zeroCl, .int .i64 422]) (ret_st2 Tryz.results34 _ _ _ _ rfl (load_cl h1 rfl)) rfl (rc_bad 422 HB.out (b4.trans (h2.mono (by omega))))
    · have hk0 : nk = 0 := by omega
      have hk0' : getN hs keyN = 0 := by rw [← HNK.out]; exact hk0
      subst hk0
      have HF := Lib.hid (fun V => refFits_any K V)
      have HKEY : Hid (¬ (1 < getN hs keyN ∨ (getN hs keyN = 1 ∧ fitsL (getV hs keyN) = false))) := Lib.hid (by rintro (h | ⟨h, _⟩) <;> omega)
      clear hk0' hk1 hk2
      cases hd : digitsL X.data.toList with
        | none =>
          have HD : Hid (∀ W, Calls Tryz.prog 73 #[.string X] W fun e w' => e = .returned (.tuple #[.int .i64 0, .bool false]) ∧ W = w') := Lib.hid (fun W => by have := hdg W; rw [hd] at this; exact this)
          have hd2 : digitsL (getV hs expN) = none := by rw [← HX.out.2]; exact hd
          have HDD := Lib.hid hd2
          clear hd2 hd hdg
          by_cases hx2 : 2 ≤ nx
          · have zx : (1 : Int) < (nx : Int) := by omega
            have HB := Lib.hid (com_400k (body := Y.data.toList) (C := C) (.inr (.inr (by rw [← HNX.out]; omega))))
            go_enter Tryz.func34, Tryz.ntmps34
            go_wp2_with (go_at_call 72; (refine HG1.out.mono ?_); rintro e w2 ⟨rfl, hb2⟩; refine Hid.out ?_)
            refine Lib.hid ?_
            rw [← HW.out] at hb2
            have hq2 := keep_at hq1 hb2
            obtain ⟨q0, q1, q2, q3, q4, q5⟩ := rq_cells hq2
            go_wp2_with (go_at_call 72; (refine (HG2.out _ hb2).mono ?_); rintro e w3 ⟨rfl, hb3⟩; refine Hid.out ?_)
            refine Lib.hid ?_
            have r4 := keep_cell hb3 q4
            have bA := below_then hb1 (below_then hb2 hb3)
            have cA := keep_at (keep_at hc1 hb2) hb3
            have xA := keep_at (keep_at hx1 hb2) hb3
            go_wp2_with (first
              | (go_at_call 69; refine (HF.out _).mono ?_; rintro e w' ⟨rfl, rfl⟩)
              | (go_at_call 73; refine (HD.out _).mono ?_; rintro e w' ⟨rfl, rfl⟩)
              | (refine put_st rfl _ _ _ rfl (w.heap.size + 1 + 1) zeroCl rfl rfl xA infoCl rfl (by simp [Value.oneCell']) ?_; intro w9 h1 h2 h3))
            exact bodyPost_ret (v := .tuple #[.agg zeroCl, .int .i64 400]) (ret_st2 Tryz.results34 _ _ _ _ rfl (load_cl h1 rfl)) rfl (rc_bad 400 HB.out (bA.trans (h2.mono (by omega))))
          · by_cases hx1 : nx = 1
            · have HX1 : Hid (getN hs expN = 1) := Lib.hid (by rw [← HNX.out]; exact hx1)
              subst hx1
              clear hx2
              have HB := Lib.hid (com_400e (body := Y.data.toList) (C := C) HX1.out HDD.out)
              go_enter Tryz.func34, Tryz.ntmps34
              go_wp2_with (go_at_call 72; (refine HG1.out.mono ?_); rintro e w2 ⟨rfl, hb2⟩; refine Hid.out ?_)
              refine Lib.hid ?_
              rw [← HW.out] at hb2
              have hq2 := keep_at hq1 hb2
              obtain ⟨q0, q1, q2, q3, q4, q5⟩ := rq_cells hq2
              go_wp2_with (go_at_call 72; (refine (HG2.out _ hb2).mono ?_); rintro e w3 ⟨rfl, hb3⟩; refine Hid.out ?_)
              refine Lib.hid ?_
              have r4 := keep_cell hb3 q4
              have bA := below_then hb1 (below_then hb2 hb3)
              have cA := keep_at (keep_at hc1 hb2) hb3
              have xA := keep_at (keep_at hx1 hb2) hb3
              go_wp2_with (first
                | (go_at_call 69; refine (HF.out _).mono ?_; rintro e w' ⟨rfl, rfl⟩)
                | (go_at_call 73; refine (HD.out _).mono ?_; rintro e w' ⟨rfl, rfl⟩)
                | (refine put_st rfl _ _ _ rfl (w.heap.size + 1 + 1) zeroCl rfl rfl xA infoCl rfl (by simp [Value.oneCell']) ?_; intro w9 h1 h2 h3))
              exact bodyPost_ret (v := .tuple #[.agg zeroCl, .int .i64 400]) (ret_st2 Tryz.results34 _ _ _ _ rfl (load_cl h1 rfl)) rfl (rc_bad 400 HB.out (bA.trans (h2.mono (by omega))))
            · have hx0 : nx = 0 := by omega
              have HV0 : Hid (getN hs expN = 0) := Lib.hid (by rw [← HNX.out]; exact hx0)
              subst hx0
              have HOK : Hid (HeadOk hs) := Lib.hid ⟨HKEY.out, by have := HV0.out; rintro (h | ⟨h, _⟩) <;> omega⟩
              clear hx1 hx2
              go_enter Tryz.func34, Tryz.ntmps34
              go_wp2_with (go_at_call 72; (refine HG1.out.mono ?_); rintro e w2 ⟨rfl, hb2⟩; refine Hid.out ?_)
              refine Lib.hid ?_
              rw [← HW.out] at hb2
              have hq2 := keep_at hq1 hb2
              obtain ⟨q0, q1, q2, q3, q4, q5⟩ := rq_cells hq2
              go_wp2_with (go_at_call 72; (refine (HG2.out _ hb2).mono ?_); rintro e w3 ⟨rfl, hb3⟩; refine Hid.out ?_)
              refine Lib.hid ?_
              have r4 := keep_cell hb3 q4
              have bA := below_then hb1 (below_then hb2 hb3)
              have cA := keep_at (keep_at hc1 hb2) hb3
              have xA := keep_at (keep_at hx1 hb2) hb3
              go_wp2_with (first
                | (go_at_call 69; refine (HF.out _).mono ?_; rintro e w' ⟨rfl, rfl⟩)
                | (go_at_call 73; refine (HD.out _).mono ?_; rintro e w' ⟨rfl, rfl⟩)
                | (go_at_call 71; (refine (HRD.out _).mono ?_); rintro e w4 ⟨fv, rfl, hrw, hb4⟩; refine Hid.out ?_))
              refine Lib.hid ?_
              have c4 := keep_at cA hb4
              have x4 := keep_at xA hb4
              have b4 := below_then bA hb4
              by_cases he : er = 0
              · have HB := Lib.hid (com_200 (C := C) HOK.out (HER.out.symm.trans he))
                subst he
                obtain ⟨fo, fc, rfl, hfl⟩ := id hrw
                have hone := one_slice hrw
                have k3 : w4.cell? ⟨w.heap.size, 3, none⟩ = some (bs C.ckey) := Lib.cell_of_heap c4 3
                have k4 : w4.cell? ⟨w.heap.size, 4, none⟩ = some (.int .i64 C.cexp) := Lib.cell_of_heap c4 4
                have k5 : w4.cell? ⟨w.heap.size, 5, none⟩ = some (.slice none 0 0) := Lib.cell_of_heap c4 5
                have z3 := Lib.frozen_of_heap c4 3
                have z4 := Lib.frozen_of_heap c4 4
                have z5 := Lib.frozen_of_heap c4 5
                have cS := set_two (k := getV hs keyN) (l := l) (gv := .slice fo l.length fc) c4
                rw [HK.out.1] at cS
                have hoth : ∀ j, j ≠ w.heap.size → ((w4.setCell ⟨w.heap.size, 3, none⟩ (.string K)).setCell ⟨w.heap.size, 5, none⟩ (.slice fo l.length fc)).heap[j]? = w4.heap[j]? := fun j hj => by
                  rw [heap_setCell_other _ ⟨w.heap.size, 5, none⟩ j _ hj, heap_setCell_other _ ⟨w.heap.size, 3, none⟩ j _ hj]
                have xS : StAt tCl (w.heap.size + 1 + 1) zeroCl ((w4.setCell ⟨w.heap.size, 3, none⟩ (.string K)).setCell ⟨w.heap.size, 5, none⟩ (.slice fo l.length fc)) := (hoth _ (by omega)).trans x4
                have bS : Below w.heap.size w ((w4.setCell ⟨w.heap.size, 3, none⟩ (.string K)).setCell ⟨w.heap.size, 5, none⟩ (.slice fo l.length fc)) := (b4.setCell (p := ⟨w.heap.size, 3, none⟩) (Nat.le_refl _) _).setCell (p := ⟨w.heap.size, 5, none⟩) (Nat.le_refl _) _
                have HCM : Hid (commandL hs Y.data.toList (0, C) = (200, (Fc C (getV hs keyN) l))) := Lib.hid (by rw [HB.out]; rw [if_neg (by rw [HV0.out]; decide), ← HL.out])
                have HRW := Lib.hid hrw
                have HC4 := Lib.hid c4
                have HX4 := Lib.hid x4
                have HCS := Lib.hid cS
                have HXS := Lib.hid xS
                have HOT := Lib.hid hoth
                clear hfl hrw c4 x4 cA xA cS xS hoth HB
                go_upto_region 15 with (fail)
                have cS := HCS.out
                have xS := HXS.out
                have hoth := HOT.out
                generalize ((w4.setCell ⟨w.heap.size, 3, none⟩ (.string K)).setCell ⟨w.heap.size, 5, none⟩ (.slice fo l.length fc)) = w8 at cS xS hoth bS ⊢
                clear HCS HXS HOT k3 k4 k5 z3 z4 z5
                go_wp2_with (first
                  | (refine wpList_load_row rfl _ _ rfl w.heap.size rfl _ _ _ _ cS Tryz.underlying30 rfl infoCl ?_)
                  | (refine put_st rfl _ _ _ rfl (w.heap.size + 1 + 1) (clC (Fc C (getV hs keyN) l) (.slice fo l.length fc)) rfl rfl xS infoCl rfl (one_clr hone) ?_; intro w9 h1 h2 h3))
                exact bodyPost_ret (v := .tuple #[.agg (clC (Fc C (getV hs keyN) l) (.slice fo l.length fc)), .int .i64 200]) (ret_st2 Tryz.results34 _ _ _ _ rfl (load_cl h1 rfl)) rfl (rc_good HCM.out (rows_two HRW.out HC4.out HX4.out (fun j h5 h6 => (h3 j h6).trans (hoth j h5))) hone (bS.trans (h2.mono (by omega))))
              · have hez : (er == 0) = false := by rw [beq_eq_false_iff_ne]; exact he
                have hez2 : (er != 0) = true := by rw [bne, hez]; rfl
                have HB := Lib.hid (com_422 (C := C) HOK.out (by rw [← HER.out]; exact he))
                clear he
                go_wp2_with (first
                  | (refine put_st rfl _ _ _ rfl (w.heap.size + 1 + 1) zeroCl rfl rfl x4 infoCl rfl (by simp [Value.oneCell']) ?_; intro w9 h1 h2 h3))
                exact bodyPost_ret (v := .tuple #[.agg zeroCl, .int .i64 422]) (ret_st2 Tryz.results34 _ _ _ _ rfl (load_cl h1 rfl)) rfl (rc_bad 422 HB.out (b4.trans (h2.mono (by omega))))
        | some vn =>
          have HD : Hid (∀ W, Calls Tryz.prog 73 #[.string X] W fun e w' => e = .returned (.tuple #[.int .i64 (vn : Int), .bool true]) ∧ W = w') := Lib.hid (fun W => by have := hdg W; rw [hd] at this; exact this)
          have hd2 : digitsL (getV hs expN) = some vn := by rw [← HX.out.2]; exact hd
          have HDD := Lib.hid hd2
          clear hd2 hd hdg
          by_cases hx2 : 2 ≤ nx
          · have zx : (1 : Int) < (nx : Int) := by omega
            have HB := Lib.hid (com_400k (body := Y.data.toList) (C := C) (.inr (.inr (by rw [← HNX.out]; omega))))
            go_enter Tryz.func34, Tryz.ntmps34
            go_wp2_with (go_at_call 72; (refine HG1.out.mono ?_); rintro e w2 ⟨rfl, hb2⟩; refine Hid.out ?_)
            refine Lib.hid ?_
            rw [← HW.out] at hb2
            have hq2 := keep_at hq1 hb2
            obtain ⟨q0, q1, q2, q3, q4, q5⟩ := rq_cells hq2
            go_wp2_with (go_at_call 72; (refine (HG2.out _ hb2).mono ?_); rintro e w3 ⟨rfl, hb3⟩; refine Hid.out ?_)
            refine Lib.hid ?_
            have r4 := keep_cell hb3 q4
            have bA := below_then hb1 (below_then hb2 hb3)
            have cA := keep_at (keep_at hc1 hb2) hb3
            have xA := keep_at (keep_at hx1 hb2) hb3
            go_wp2_with (first
              | (go_at_call 69; refine (HF.out _).mono ?_; rintro e w' ⟨rfl, rfl⟩)
              | (go_at_call 73; refine (HD.out _).mono ?_; rintro e w' ⟨rfl, rfl⟩)
              | (refine put_st rfl _ _ _ rfl (w.heap.size + 1 + 1) zeroCl rfl rfl xA infoCl rfl (by simp [Value.oneCell']) ?_; intro w9 h1 h2 h3))
            exact bodyPost_ret (v := .tuple #[.agg zeroCl, .int .i64 400]) (ret_st2 Tryz.results34 _ _ _ _ rfl (load_cl h1 rfl)) rfl (rc_bad 400 HB.out (bA.trans (h2.mono (by omega))))
          · by_cases hx1 : nx = 1
            · have HX1 : Hid (getN hs expN = 1) := Lib.hid (by rw [← HNX.out]; exact hx1)
              subst hx1
              clear hx2
              have HOK : Hid (HeadOk hs) := Lib.hid ⟨HKEY.out, by rintro (h | ⟨_, h⟩); exact absurd h (by have := HX1.out; omega); rw [HDD.out] at h; cases h⟩
              go_enter Tryz.func34, Tryz.ntmps34
              go_wp2_with (go_at_call 72; (refine HG1.out.mono ?_); rintro e w2 ⟨rfl, hb2⟩; refine Hid.out ?_)
              refine Lib.hid ?_
              rw [← HW.out] at hb2
              have hq2 := keep_at hq1 hb2
              obtain ⟨q0, q1, q2, q3, q4, q5⟩ := rq_cells hq2
              go_wp2_with (go_at_call 72; (refine (HG2.out _ hb2).mono ?_); rintro e w3 ⟨rfl, hb3⟩; refine Hid.out ?_)
              refine Lib.hid ?_
              have r4 := keep_cell hb3 q4
              have bA := below_then hb1 (below_then hb2 hb3)
              have cA := keep_at (keep_at hc1 hb2) hb3
              have xA := keep_at (keep_at hx1 hb2) hb3
              go_wp2_with (first
                | (go_at_call 69; refine (HF.out _).mono ?_; rintro e w' ⟨rfl, rfl⟩)
                | (go_at_call 73; refine (HD.out _).mono ?_; rintro e w' ⟨rfl, rfl⟩)
                | (go_at_call 71; (refine (HRD.out _).mono ?_); rintro e w4 ⟨fv, rfl, hrw, hb4⟩; refine Hid.out ?_))
              refine Lib.hid ?_
              have c4 := keep_at cA hb4
              have x4 := keep_at xA hb4
              have b4 := below_then bA hb4
              by_cases he : er = 0
              · have HB := Lib.hid (com_200 (C := C) HOK.out (HER.out.symm.trans he))
                subst he
                obtain ⟨fo, fc, rfl, hfl⟩ := id hrw
                have hone := one_slice hrw
                have k3 : w4.cell? ⟨w.heap.size, 3, none⟩ = some (bs C.ckey) := Lib.cell_of_heap c4 3
                have k4 : w4.cell? ⟨w.heap.size, 4, none⟩ = some (.int .i64 C.cexp) := Lib.cell_of_heap c4 4
                have k5 : w4.cell? ⟨w.heap.size, 5, none⟩ = some (.slice none 0 0) := Lib.cell_of_heap c4 5
                have z3 := Lib.frozen_of_heap c4 3
                have z4 := Lib.frozen_of_heap c4 4
                have z5 := Lib.frozen_of_heap c4 5
                have cS := set_exp (n := (vn : Int)) (set_two (k := getV hs keyN) (l := l) (gv := .slice fo l.length fc) c4)
                rw [HK.out.1] at cS
                have hoth : ∀ j, j ≠ w.heap.size → (((w4.setCell ⟨w.heap.size, 3, none⟩ (.string K)).setCell ⟨w.heap.size, 5, none⟩ (.slice fo l.length fc)).setCell ⟨w.heap.size, 4, none⟩ (.int .i64 (vn : Int))).heap[j]? = w4.heap[j]? := fun j hj => by
                  rw [heap_setCell_other _ ⟨w.heap.size, 4, none⟩ j _ hj, heap_setCell_other _ ⟨w.heap.size, 5, none⟩ j _ hj, heap_setCell_other _ ⟨w.heap.size, 3, none⟩ j _ hj]
                have xS : StAt tCl (w.heap.size + 1 + 1) zeroCl (((w4.setCell ⟨w.heap.size, 3, none⟩ (.string K)).setCell ⟨w.heap.size, 5, none⟩ (.slice fo l.length fc)).setCell ⟨w.heap.size, 4, none⟩ (.int .i64 (vn : Int))) := (hoth _ (by omega)).trans x4
                have bS : Below w.heap.size w (((w4.setCell ⟨w.heap.size, 3, none⟩ (.string K)).setCell ⟨w.heap.size, 5, none⟩ (.slice fo l.length fc)).setCell ⟨w.heap.size, 4, none⟩ (.int .i64 (vn : Int))) := ((b4.setCell (p := ⟨w.heap.size, 3, none⟩) (Nat.le_refl _) _).setCell (p := ⟨w.heap.size, 5, none⟩) (Nat.le_refl _) _).setCell (p := ⟨w.heap.size, 4, none⟩) (Nat.le_refl _) _
                have HCM : Hid (commandL hs Y.data.toList (0, C) = (200, (Ec (Fc C (getV hs keyN) l) (vn : Int)))) := Lib.hid (by rw [HB.out]; rw [if_pos HX1.out, HDD.out, ← HL.out]; rfl)
                have HRW := Lib.hid hrw
                have HC4 := Lib.hid c4
                have HX4 := Lib.hid x4
                have HCS := Lib.hid cS
                have HXS := Lib.hid xS
                have HOT := Lib.hid hoth
                clear hfl hrw c4 x4 cA xA cS xS hoth HB
                go_upto_region 15 with (fail)
                have cS := HCS.out
                have xS := HXS.out
                have hoth := HOT.out
                generalize (((w4.setCell ⟨w.heap.size, 3, none⟩ (.string K)).setCell ⟨w.heap.size, 5, none⟩ (.slice fo l.length fc)).setCell ⟨w.heap.size, 4, none⟩ (.int .i64 (vn : Int))) = w8 at cS xS hoth bS ⊢
                clear HCS HXS HOT k3 k4 k5 z3 z4 z5
                go_wp2_with (first
                  | (refine wpList_load_row rfl _ _ rfl w.heap.size rfl _ _ _ _ cS Tryz.underlying30 rfl infoCl ?_)
                  | (refine put_st rfl _ _ _ rfl (w.heap.size + 1 + 1) (clC (Ec (Fc C (getV hs keyN) l) (vn : Int)) (.slice fo l.length fc)) rfl rfl xS infoCl rfl (one_clr hone) ?_; intro w9 h1 h2 h3))
                exact bodyPost_ret (v := .tuple #[.agg (clC (Ec (Fc C (getV hs keyN) l) (vn : Int)) (.slice fo l.length fc)), .int .i64 200]) (ret_st2 Tryz.results34 _ _ _ _ rfl (load_cl h1 rfl)) rfl (rc_good HCM.out (rows_two HRW.out HC4.out HX4.out (fun j h5 h6 => (h3 j h6).trans (hoth j h5))) hone (bS.trans (h2.mono (by omega))))
              · have hez : (er == 0) = false := by rw [beq_eq_false_iff_ne]; exact he
                have hez2 : (er != 0) = true := by rw [bne, hez]; rfl
                have HB := Lib.hid (com_422 (C := C) HOK.out (by rw [← HER.out]; exact he))
                clear he
                go_wp2_with (first
                  | (refine put_st rfl _ _ _ rfl (w.heap.size + 1 + 1) zeroCl rfl rfl x4 infoCl rfl (by simp [Value.oneCell']) ?_; intro w9 h1 h2 h3))
                exact bodyPost_ret (v := .tuple #[.agg zeroCl, .int .i64 422]) (ret_st2 Tryz.results34 _ _ _ _ rfl (load_cl h1 rfl)) rfl (rc_bad 422 HB.out (b4.trans (h2.mono (by omega))))
            · have hx0 : nx = 0 := by omega
              have HV0 : Hid (getN hs expN = 0) := Lib.hid (by rw [← HNX.out]; exact hx0)
              subst hx0
              have HOK : Hid (HeadOk hs) := Lib.hid ⟨HKEY.out, by have := HV0.out; rintro (h | ⟨h, _⟩) <;> omega⟩
              clear hx1 hx2
              go_enter Tryz.func34, Tryz.ntmps34
              go_wp2_with (go_at_call 72; (refine HG1.out.mono ?_); rintro e w2 ⟨rfl, hb2⟩; refine Hid.out ?_)
              refine Lib.hid ?_
              rw [← HW.out] at hb2
              have hq2 := keep_at hq1 hb2
              obtain ⟨q0, q1, q2, q3, q4, q5⟩ := rq_cells hq2
              go_wp2_with (go_at_call 72; (refine (HG2.out _ hb2).mono ?_); rintro e w3 ⟨rfl, hb3⟩; refine Hid.out ?_)
              refine Lib.hid ?_
              have r4 := keep_cell hb3 q4
              have bA := below_then hb1 (below_then hb2 hb3)
              have cA := keep_at (keep_at hc1 hb2) hb3
              have xA := keep_at (keep_at hx1 hb2) hb3
              go_wp2_with (first
                | (go_at_call 69; refine (HF.out _).mono ?_; rintro e w' ⟨rfl, rfl⟩)
                | (go_at_call 73; refine (HD.out _).mono ?_; rintro e w' ⟨rfl, rfl⟩)
                | (go_at_call 71; (refine (HRD.out _).mono ?_); rintro e w4 ⟨fv, rfl, hrw, hb4⟩; refine Hid.out ?_))
              refine Lib.hid ?_
              have c4 := keep_at cA hb4
              have x4 := keep_at xA hb4
              have b4 := below_then bA hb4
              by_cases he : er = 0
              · have HB := Lib.hid (com_200 (C := C) HOK.out (HER.out.symm.trans he))
                subst he
                obtain ⟨fo, fc, rfl, hfl⟩ := id hrw
                have hone := one_slice hrw
                have k3 : w4.cell? ⟨w.heap.size, 3, none⟩ = some (bs C.ckey) := Lib.cell_of_heap c4 3
                have k4 : w4.cell? ⟨w.heap.size, 4, none⟩ = some (.int .i64 C.cexp) := Lib.cell_of_heap c4 4
                have k5 : w4.cell? ⟨w.heap.size, 5, none⟩ = some (.slice none 0 0) := Lib.cell_of_heap c4 5
                have z3 := Lib.frozen_of_heap c4 3
                have z4 := Lib.frozen_of_heap c4 4
                have z5 := Lib.frozen_of_heap c4 5
                have cS := set_two (k := getV hs keyN) (l := l) (gv := .slice fo l.length fc) c4
                rw [HK.out.1] at cS
                have hoth : ∀ j, j ≠ w.heap.size → ((w4.setCell ⟨w.heap.size, 3, none⟩ (.string K)).setCell ⟨w.heap.size, 5, none⟩ (.slice fo l.length fc)).heap[j]? = w4.heap[j]? := fun j hj => by
                  rw [heap_setCell_other _ ⟨w.heap.size, 5, none⟩ j _ hj, heap_setCell_other _ ⟨w.heap.size, 3, none⟩ j _ hj]
                have xS : StAt tCl (w.heap.size + 1 + 1) zeroCl ((w4.setCell ⟨w.heap.size, 3, none⟩ (.string K)).setCell ⟨w.heap.size, 5, none⟩ (.slice fo l.length fc)) := (hoth _ (by omega)).trans x4
                have bS : Below w.heap.size w ((w4.setCell ⟨w.heap.size, 3, none⟩ (.string K)).setCell ⟨w.heap.size, 5, none⟩ (.slice fo l.length fc)) := (b4.setCell (p := ⟨w.heap.size, 3, none⟩) (Nat.le_refl _) _).setCell (p := ⟨w.heap.size, 5, none⟩) (Nat.le_refl _) _
                have HCM : Hid (commandL hs Y.data.toList (0, C) = (200, (Fc C (getV hs keyN) l))) := Lib.hid (by rw [HB.out]; rw [if_neg (by rw [HV0.out]; decide), ← HL.out])
                have HRW := Lib.hid hrw
                have HC4 := Lib.hid c4
                have HX4 := Lib.hid x4
                have HCS := Lib.hid cS
                have HXS := Lib.hid xS
                have HOT := Lib.hid hoth
                clear hfl hrw c4 x4 cA xA cS xS hoth HB
                go_upto_region 15 with (fail)
                have cS := HCS.out
                have xS := HXS.out
                have hoth := HOT.out
                generalize ((w4.setCell ⟨w.heap.size, 3, none⟩ (.string K)).setCell ⟨w.heap.size, 5, none⟩ (.slice fo l.length fc)) = w8 at cS xS hoth bS ⊢
                clear HCS HXS HOT k3 k4 k5 z3 z4 z5
                go_wp2_with (first
                  | (refine wpList_load_row rfl _ _ rfl w.heap.size rfl _ _ _ _ cS Tryz.underlying30 rfl infoCl ?_)
                  | (refine put_st rfl _ _ _ rfl (w.heap.size + 1 + 1) (clC (Fc C (getV hs keyN) l) (.slice fo l.length fc)) rfl rfl xS infoCl rfl (one_clr hone) ?_; intro w9 h1 h2 h3))
                exact bodyPost_ret (v := .tuple #[.agg (clC (Fc C (getV hs keyN) l) (.slice fo l.length fc)), .int .i64 200]) (ret_st2 Tryz.results34 _ _ _ _ rfl (load_cl h1 rfl)) rfl (rc_good HCM.out (rows_two HRW.out HC4.out HX4.out (fun j h5 h6 => (h3 j h6).trans (hoth j h5))) hone (bS.trans (h2.mono (by omega))))
              · have hez : (er == 0) = false := by rw [beq_eq_false_iff_ne]; exact he
                have hez2 : (er != 0) = true := by rw [bne, hez]; rfl
                have HB := Lib.hid (com_422 (C := C) HOK.out (by rw [← HER.out]; exact he))
                clear he
                go_wp2_with (first
                  | (refine put_st rfl _ _ _ rfl (w.heap.size + 1 + 1) zeroCl rfl rfl x4 infoCl rfl (by simp [Value.oneCell']) ?_; intro w9 h1 h2 h3))
                exact bodyPost_ret (v := .tuple #[.agg zeroCl, .int .i64 422]) (ret_st2 Tryz.results34 _ _ _ _ rfl (load_cl h1 rfl)) rfl (rc_bad 422 HB.out (b4.trans (h2.mono (by omega))))
end Go.Proofs.YtfkmgnldkmpeiaaGreatDoor.W20
