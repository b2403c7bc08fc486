/-
  Walks of layer 20: RouterTells. Conditions: the library's error values and its variable MaxLen; the events' cells hold them; their numbers are ints. Printed by wip/tools/tells20.py.
-/
import Derived.Test.YtfkmgnldkmpeiaaGreatDoorGaw
import Derived.Test.YtfkmgnldkmpeiaaGreatDoorGaz
import Derived.Test.YtfkmgnldkmpeiaaGreatDoorGbc
import Derived.Test.YtfkmgnldkmpeiaaGreatDoorGaj
import Derived.Deep.QuietTactic
import Derived.BigQuiet

namespace Go.Proofs.YtfkmgnldkmpeiaaGreatDoor.W20
open Go Go.RowKit P12 P18 P20 W12

theorem body_len {x : En} (h : rangeE x) : (bodyE x).length ≤ 1000000 := by
  have := lineE_len h
  rw [lineE_body, List.length_append] at this
  omega
/-- The cells of a list's first five fields. -/
theorem rows_five {v : Value} {f0 f1 f2 f3 f4 : Fld} {w : World} (h : W12.Rows v [f0, f1, f2, f3, f4] w) : ∃ g off c, v = .slice (some ⟨g, off, none⟩) 5 c ∧ w.cell? ⟨g, off + 2, none⟩ = some (.int .i64 f0.n) ∧ w.cell? ⟨g, off + 1 * 4 + 2, none⟩ = some (.int .i64 f1.n) ∧ w.cell? ⟨g, off + 2 * 4 + 3, none⟩ = some (bs f2.s) ∧ w.cell? ⟨g, off + 3 * 4 + 3, none⟩ = some (bs f3.s) ∧ w.cell? ⟨g, off + 4 * 4 + 2, none⟩ = some (.int .i64 f4.n) := by
  obtain ⟨o, c, rfl, h0⟩ := h
  rcases h0 with h0 | ⟨g, off, rfl, hc⟩
  · cases h0
  · refine ⟨g, off, c, rfl, ?_, (hc 1 f1 rfl).2.2.1, (hc 2 f2 rfl).2.2.2, (hc 3 f3 rfl).2.2.2, (hc 4 f4 rfl).2.2.1⟩
    have := (hc 0 f0 rfl).2.2.1
    rwa [Nat.zero_mul, Nat.add_zero] at this
theorem strs_pair {v : Value} {a b : By} {w : World} (h : W12.Strs v [a, b] w) : ∃ g off c, v = .slice (some ⟨g, off, none⟩) 2 c ∧ w.cell? ⟨g, off, none⟩ = some (bs a) ∧ w.cell? ⟨g, off + 1, none⟩ = some (bs b) := by
  obtain ⟨o, c, rfl, h0⟩ := h
  rcases h0 with h0 | ⟨g, off, rfl, hc⟩
  · cases h0
  · exact ⟨g, off, c, rfl, hc 0 a rfl, hc 1 b rfl⟩
theorem cut_ten (s : ByteArray) (w : World) (hs : s.size ≤ 1000000000000) : Calls Tryz.prog 16 #[.string s, .int .u8 10] w fun e w' => ∃ v, e = .returned v ∧ W12.OwnS w.heap.size v (partsL 10 s.data.toList) w' ∧ Below w.heap.size w w' := W12.refCut_own s 10 w hs
theorem cut_bar (s : ByteArray) (w : World) (hs : s.size ≤ 1000000000000) : Calls Tryz.prog 16 #[.string s, .int .u8 124] w fun e w' => ∃ v, e = .returned v ∧ W12.OwnS w.heap.size v (partsL 124 s.data.toList) w' ∧ Below w.heap.size w w' := W12.refCut_own s 124 w hs
set_option maxHeartbeats 12000000 in
set_option maxRecDepth 100000 in
theorem tells_law (v : Value) (l : List En) (w : World) (hE : Env w) (hM : MaxL w) (hr : RowsE v l w) (hlen : l.length ≤ 4611686018427387904) (hrange : ∀ x ∈ l, rangeE x ∧ x.fields.length ≤ 4611686018427387904) :
    Calls Tryz.prog 6 #[v] w fun e w' => e = .returned (.bool true) ∧ Below w.heap.size w w' := by
  obtain ⟨m, hm, hL, hX6⟩ := entries_lines l
  obtain ⟨X, hX⟩ : ∃ X : ByteArray, X.data.toList = entriesL l := ⟨⟨(entriesL l).toArray⟩, rfl⟩
  rw [← hX] at hL hX6
  rw [size_data] at hX6
  have H0 := Lib.hid (awake_any w hE hM)
  have H1 := Lib.hid (fun W hE hr => Entries_any v l W hE hr hlen hrange X hX)
  have H2 := Lib.hid (fun W => cut_ten X W (by omega))
  have HE := Lib.hid hE
  have HR := Lib.hid hr
  have HRG := Lib.hid hrange
  have HL := Lib.hid hL
  obtain ⟨o, c, rfl, -⟩ := hr
  clear hX hL hE hM hrange
  go_enter Tryz.func6, Tryz.ntmps6
  go_wp2_with (go_at_call 9; refine H0.out.mono ?_; rintro e w1 ⟨rfl, hb1⟩; refine Hid.out ?_)
  refine Lib.hid ?_
  have HC1 := Lib.hid (H1.out w1 (HE.out.keep hb1) (HR.out.keep hb1))
  go_wp2_with (go_at_call 15; refine HC1.out.mono ?_; rintro e w2 ⟨rfl, hb2⟩; refine Hid.out ?_)
  refine Lib.hid ?_
  have hx2 := new_at w2 #[.int .i64 200, .string X, .bool false] 40
  have hbA := below_then (below_then hb1 hb2) (below_alloc w2 (.cells #[.int .i64 200, .string X, .bool false] 40))
  have HC2 := Lib.hid (H2.out (w2.alloc (.cells #[.int .i64 200, .string X, .bool false] 40)))
  have z1 : (w2.alloc (.cells #[.int .i64 200, .string X, .bool false] 40)).cell? ⟨w2.heap.size, 1, none⟩ = some (.string X) := Lib.cell_of_heap hx2 1
  clear H0 H1 H2 HC1 hb1 hb2
  go_wp2_with (go_at_call 16; refine HC2.out.mono ?_; rintro e w3 ⟨u, rfl, hu, hb3⟩; refine Hid.out ?_)
  refine Lib.hid ?_
  have hx3 := keep_at hx2 hb3
  have hbB := below_then hbA hb3
  rw [HL.out] at hu
  obtain ⟨o1, c1, rfl, hu1⟩ := W12.strs_own hu
  have hn1 : (((l.take m).map bodyE) ++ [[]]).length = m + 1 := by simp; omega
  rw [hn1]
  have hu2 : ∃ g1 off1, o1 = some ⟨g1, off1, none⟩ ∧ ∀ (j : Nat) (p : By), ((l.take m).map bodyE ++ [[]])[j]? = some p → w3.cell? ⟨g1, off1 + j, none⟩ = some (bs p) := by
    rcases hu1 with h | h
    · simp at h
    · exact h
  obtain ⟨g1, off1, rfl, hln⟩ := hu2
  have hlm : ((l.take m).map bodyE).length = m := by rw [List.length_map, List.length_take]; omega
  have hlast := hln m [] (by rw [List.getElem?_append_right (by omega), hlm, Nat.sub_self]; rfl)
  have z0 : w3.cell? ⟨w2.heap.size, 0, none⟩ = some (.int .i64 200) := Lib.cell_of_heap hx3 0
  have z1 : w3.cell? ⟨w2.heap.size, 1, none⟩ = some (.string X) := Lib.cell_of_heap hx3 1
  have z2 : w3.cell? ⟨w2.heap.size, 2, none⟩ = some (.bool false) := Lib.cell_of_heap hx3 2
  have hX6' : ¬ (X.size : Int) > 60000 := by omega
  have hm' : ¬ (m : Int) > (l.length : Int) := by omega
  have hm9 : (m : Int) ≤ 4611686018427387904 := by omega
  have HLN := Lib.hid hln
  have HX3 := Lib.hid hx3
  clear hu hu1 hn1 hlm hln hx2 hbA hb3 HC2 hx3
  go_wp2_with fail
  clear z0 z1 z2 hlast hX6' hm'
  go_loopw [6] (fun i wr => ∃ (k : Nat), k ≤ m ∧ i = .int .i64 k ∧ Below w3.heap.size w3 wr) (fun i _ => m - (intOf i).toNat)
  case atStart => exact ⟨0, Nat.zero_le _, rfl, Below.refl _ _⟩
  case round =>
    obtain ⟨k, hk, rfl, hwr⟩ := hrel
    by_cases hlt : k < m
    · have hlt' : (k : Int) < (m : Int) := by omega
      have hltl : (k : Int) < (l.length : Int) := by omega
      have hltm : (k : Int) < (m : Int) + 1 := by omega
      obtain ⟨o', c', hv', h0⟩ := HR.out.keep (below_then hbB hwr)
      injection hv' with ho hl hc
      subst ho hc
      rcases h0 with h0 | ⟨g, off, rfl, hcell⟩
      · rw [h0] at hltl; exact absurd hltl (by simp)
      have hkl : k < l.length := by omega
      obtain ⟨x, hx⟩ : ∃ x, l[k]? = some x := ⟨_, List.getElem?_eq_getElem hkl⟩
      obtain ⟨fv, ⟨e0, e1, e2, e3, e4, e5⟩, hfr⟩ := hcell k x hx
      obtain ⟨fo, fc, rfl, -⟩ := id hfr
      have hrx := HRG.out x (List.mem_of_getElem? hx)
      obtain ⟨St, hSt⟩ : ∃ St : ByteArray, St.data.toList = x.stream := ⟨⟨x.stream.toArray⟩, rfl⟩
      obtain ⟨Ty, hTy⟩ : ∃ Ty : ByteArray, Ty.data.toList = x.type := ⟨⟨x.type.toArray⟩, rfl⟩
      obtain ⟨nu, hnu⟩ : ∃ n : Int, n = x.number := ⟨_, rfl⟩
      obtain ⟨po, hpo⟩ : ∃ n : Int, n = x.pos := ⟨_, rfl⟩
      obtain ⟨ve, hve⟩ : ∃ n : Int, n = x.version := ⟨_, rfl⟩
      rw [← hpo] at e0
      rw [← hSt, bs_data] at e1
      rw [← hnu] at e2
      rw [← hTy, bs_data] at e3
      rw [← hve] at e4
      have hlk := keep_cell hwr (HLN.out k (bodyE x) (by rw [List.getElem?_append_left (by simp; omega), List.getElem?_map, List.getElem?_take, if_pos hlt, hx]; rfl))
      obtain ⟨Y, hY⟩ : ∃ Y : ByteArray, Y.data.toList = bodyE x := ⟨⟨(bodyE x).toArray⟩, rfl⟩
      have hYs : Y.size ≤ 1000000 := by rw [← size_data, hY]; exact body_len hrx.1
      rw [← hY, bs_data] at hlk
      have HP := Lib.hid (show partsL 124 Y.data.toList = [recordL (headF x), recordL x.fields] by rw [hY]; exact body_parts x)
      have hSs : St.size = x.stream.length := by rw [← hSt, size_data]
      have hTs : Ty.size = x.type.length := by rw [← hTy, size_data]
      have hx7 := new_at wr #[.int .i64 po, .string St, .int .i64 nu, .string Ty, .int .i64 ve, .slice fo x.fields.length fc] tEn
      have hbw := below_alloc wr (.cells #[.int .i64 po, .string St, .int .i64 nu, .string Ty, .int .i64 ve, .slice fo x.fields.length fc] tEn)
      have HCU := Lib.hid (cut_bar Y (wr.alloc (.cells #[.int .i64 po, .string St, .int .i64 nu, .string Ty, .int .i64 ve, .slice fo x.fields.length fc] tEn)) (by omega))
      have hlk7 := keep_cell hbw hlk
      have HFR := Lib.hid (hfr.keep hbw)
      have hbC := below_then hwr hbw
      have HNM := Lib.hid (show headF x = [numF nNumber nu, numF nPos po, textFl nStream St.data.toList, textFl nType Ty.data.toList, numF nVersion ve] by rw [hnu, hpo, hSt, hTy, hve]; rfl)
      have HRX := Lib.hid hrx
      have HSZ := Lib.hid (And.intro hSs hTs)
      clear hcell hx hnu hpo hve hSt hTy hY hlk hfr hwr hrx hkl
      go_wp2_with (go_at_call 16; refine HCU.out.mono ?_; rintro e w8 ⟨u2, rfl, hu2, hb8⟩; refine Hid.out ?_)
      refine Lib.hid ?_
      rw [HP.out] at hu2
      obtain ⟨g2, off2, c2, rfl, y0, y1⟩ := strs_pair (W12.strs_own hu2)
      have hx8 := keep_at hx7 hb8
      have hbD := below_then hbC hb8
      have HFR8 := Lib.hid (HFR.out.keep hb8)
      have HX8 := Lib.hid hx8
      have d1 : w8.cell? ⟨wr.heap.size, 1, none⟩ = some (.string St) := Lib.cell_of_heap hx8 1
      have d3 : w8.cell? ⟨wr.heap.size, 3, none⟩ = some (.string Ty) := Lib.cell_of_heap hx8 3
      have d5 : w8.cell? ⟨wr.heap.size, 5, none⟩ = some (.slice fo x.fields.length fc) := Lib.cell_of_heap hx8 5
      clear hu2 hb8 hx7 hbC hbw HFR hlk7 e0 e1 e2 e3 e4 e5 HCU HP
      by_cases hS : 200 < x.stream.length
      · have hS' : (St.size : Int) > 200 := by omega
        clear HFR8 HX8 y0 y1 hSs hTs hYs d3 d5
        go_wp2_with fail
        go_roundw
        case rel => exact ⟨k + 1, by omega, by go_num, hbD⟩
        case measure => simp [intOf]; omega
      have hS' : ¬ (St.size : Int) > 200 := by omega
      by_cases hT : 200 < x.type.length
      · have hT' : (Ty.size : Int) > 200 := by omega
        clear HFR8 HX8 y0 y1 hSs hTs hYs d5
        go_wp2_with fail
        go_roundw
        case rel => exact ⟨k + 1, by omega, by go_num, hbD⟩
        case measure => simp [intOf]; omega
      have hT' : ¬ (Ty.size : Int) > 200 := by omega
      have hCK := W12.refCheck_any _ x.fields w8 HFR8.out HRX.out.2
      by_cases hC : checkL x.fields = 0
      · rw [hC] at hCK
        have HCK := Lib.hid hCK
        obtain ⟨R1, hR1⟩ : ∃ R : ByteArray, R.data.toList = recordL (headF x) := ⟨⟨(recordL (headF x)).toArray⟩, rfl⟩
        obtain ⟨R2, hR2⟩ : ∃ R : ByteArray, R.data.toList = recordL x.fields := ⟨⟨(recordL x.fields).toArray⟩, rfl⟩
        rw [← hR1, bs_data] at y0
        rw [← hR2, bs_data] at y1
        have hb1 := head_back HRX.out.1 (by omega) (by omega)
        have hb2 := fields_back HRX.out.1 hC
        rw [← hR1, HNM.out] at hb1
        rw [← hR2] at hb2
        have hs1 : R1.size ≤ 20000 := by rw [← size_data, hR1]; exact W12.write_size (head_range HRX.out.1)
        have hs2 : R2.size ≤ 20000 := by rw [← size_data, hR2]; exact W12.write_size HRX.out.1.2.2.2
        have hRD1 := fun W hW => W12.Read_any R1 W hW (by omega)
        have hRD2 := fun W hW => W12.Read_any R2 W hW (by omega)
        rw [hb1] at hRD1
        rw [hb2] at hRD2
        have HD1 := Lib.hid hRD1
        have HD2 := Lib.hid hRD2
        have HE8 := Lib.hid (HE.out.keep (below_then hbB hbD))
        clear hCK hC hR1 hR2 hb1 hb2 hs1 hs2 hRD1 hRD2 hSs hTs hYs hS hT
        go_wp2_with (go_at_call 17; refine HCK.out.mono ?_; rintro e w9 ⟨rfl, hb9⟩; refine Hid.out ?_)
        refine Lib.hid ?_
        have y0 := keep_cell hb9 y0
        have y1 := keep_cell hb9 y1
        clear HCK
        go_wp2_with (go_at_call 18; refine (HD1.out w9 (HE8.out.keep hb9)).mono ?_; rintro e wa ⟨v1, rfl, hr1, hba⟩; refine Hid.out ?_)
        refine Lib.hid ?_
        have y1 := keep_cell hba y1
        have hbE := below_then hb9 hba
        have HV1 := Lib.hid hr1
        clear y0 HD1 hr1 hb9 hba
        go_wp2_with (go_at_call 18; refine (HD2.out wa (HE8.out.keep hbE)).mono ?_; rintro e wb ⟨v2, rfl, hr2, hbb⟩; refine Hid.out ?_)
        refine Lib.hid ?_
        have hbF := below_then hbE hbb
        have hxb := keep_at HX8.out hbF
        have d5 : wb.cell? ⟨wr.heap.size, 5, none⟩ = some (.slice fo x.fields.length fc) := Lib.cell_of_heap hxb 5
        have HSM := Lib.hid (W12.Same_any v2 _ x.fields wb HRX.out.2 hr2 (HFR8.out.keep hbF))
        have HV1b := Lib.hid (HV1.out.keep hbb)
        clear y1 hr2 hbE hbb HD2 HV1
        go_wp2_with (go_at_call 19; refine HSM.out.mono ?_; rintro e wc ⟨rfl, hbc⟩; refine Hid.out ?_)
        refine Lib.hid ?_
        obtain ⟨g3, off3, c3, rfl, q0, q1, q2, q3, q4⟩ := rows_five (HV1b.out.keep hbc)
        have hxc := keep_at hxb hbc
        have t0 : wc.cell? ⟨wr.heap.size, 0, none⟩ = some (.int .i64 po) := Lib.cell_of_heap hxc 0
        have t1 : wc.cell? ⟨wr.heap.size, 1, none⟩ = some (.string St) := Lib.cell_of_heap hxc 1
        have t2 : wc.cell? ⟨wr.heap.size, 2, none⟩ = some (.int .i64 nu) := Lib.cell_of_heap hxc 2
        have t3 : wc.cell? ⟨wr.heap.size, 3, none⟩ = some (.string Ty) := Lib.cell_of_heap hxc 3
        have t4 : wc.cell? ⟨wr.heap.size, 4, none⟩ = some (.int .i64 ve) := Lib.cell_of_heap hxc 4
        simp only [numF, textFl] at q0 q1 q2 q3 q4
        rw [bs_data] at q2 q3
        have hbG := below_then (below_then hbD hbF) hbc
        clear hxb hxc HV1b HSM hbF hbc d1 d3 d5 hbD HX8 HFR8
        go_wp2_with fail
        go_quiet (fail)
        go_wp2_with fail
        go_roundw
        case rel => exact ⟨k + 1, by omega, by go_num, by first | exact hbG | exact below_then hbG (below_drewN _ _) | exact below_then hbG (below_drewN _ 1)⟩
        case measure => simp [intOf]; omega
      · have hz : ((checkL x.fields) == 0) = false := beq_eq_false_iff_ne.2 hC
        have hz2 : ((checkL x.fields) != 0) = true := by rw [bne, hz]; rfl
        have HCK := Lib.hid hCK
        clear hCK hC hSs hTs hYs hS hT y0 y1 HX8
        go_wp2_with (go_at_call 17; refine HCK.out.mono ?_; rintro e w9 ⟨rfl, hb9⟩; refine Hid.out ?_)
        refine Lib.hid ?_
        go_wp2_with fail
        go_roundw
        case rel => exact ⟨k + 1, by omega, by go_num, below_then hbD hb9⟩
        case measure => simp [intOf]; omega
    · obtain rfl : k = m := by omega
      go_wp2_with fail
      go_ret
      exact ⟨rfl, below_then hbB hwr⟩
end Go.Proofs.YtfkmgnldkmpeiaaGreatDoor.W20
