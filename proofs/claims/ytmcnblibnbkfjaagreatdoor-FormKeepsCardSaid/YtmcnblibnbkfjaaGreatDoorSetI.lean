/-
  Walks of layer 12: the law FormKeeps. Conditions: the library's error values and its table; the list's cells hold the fields; it is within Go's own limit.
-/
import Derived.Test.YtmcnblibnbkfjaaGreatDoorSetH
namespace Go.Proofs.YtmcnblibnbkfjaaGreatDoor.W12
open Go Go.RowKit P12
open Dig hiding By

theorem fldV_data (a s : ByteArray) (t : Bool) (n : Int) : fldV ⟨a.data.toList, t, n, s.data.toList⟩ = .agg #[.string a, .bool t, .int .i64 n, .string s] := by
  unfold fldV
  rw [bs_data, bs_data]
theorem get_is {v : Value} {l : List Fld} {k : ByteArray} {f : FuncId} {w : World} {a s : ByteArray} {t : Bool} {n : Int} {b : Bool} (hG : getF k.data.toList l = ⟨a.data.toList, t, n, s.data.toList⟩) (hb : has l k.data.toList = b)
    (h : Calls Tryz.prog f #[v, .string k] w fun e w' => e = .returned (.tuple #[fldV (getF k.data.toList l), .bool (has l k.data.toList)]) ∧ Below w.heap.size w w') :
    Calls Tryz.prog f #[v, .string k] w fun e w' => e = .returned (.tuple #[.agg #[.string a, .bool t, .int .i64 n, .string s], .bool b]) ∧ Below w.heap.size w w' := by
  rw [hG, hb, fldV_data] at h; exact h
/-- What stands behind the loop of FormKeeps tells the truth. -/
theorem keeps_end (A B : Nat) (x : Bool) (h : B + (if x = true then 1 else 0) = A) : (x = true → ((B : Int) == (A : Int) - 1) = true ∧ (A : Int) - 1 = (B : Int)) ∧ (x = false → ((B : Int) == (A : Int)) = true ∧ A = B) := by
  constructor
  · intro hx
    rw [if_pos hx] at h
    exact ⟨by rw [beq_iff_eq]; omega, by omega⟩
  · intro hx
    rw [if_neg (by rw [hx]; decide)] at h
    exact ⟨by rw [beq_iff_eq]; omega, by omega⟩

set_option maxHeartbeats 6400000 in
set_option maxRecDepth 100000 in
theorem keeps_law (v : Value) (l : List Fld) (a s : ByteArray) (t : Bool) (n : Int) (nm : ByteArray) (w : World) (hE : Env w) (hr : RowsC v l w) (hm : l.length ≤ 4611686018427387904) :
    Calls Tryz.prog 5 #[v, .agg #[.string a, .bool t, .int .i64 n, .string s], .string nm] w fun e w' => e = .returned (.bool true) ∧ Below w.heap.size w w' := by
  have hb0 := below_alloc w (.cells #[.string a, .bool t, .int .i64 n, .string s] 33)
  have HV0 := Lib.hid (varF_new w a s t n)
  have hE0 := hE.keep hb0
  have hr0 := hr.keep hb0
  obtain ⟨N, hN⟩ : ∃ N, N = l.length := ⟨_, rfl⟩
  obtain ⟨ov, cv, rfl⟩ : ∃ o c, v = .slice o N c := by
    obtain ⟨o, c, h, -⟩ := hr.rows
    exact ⟨o, c, by rw [h, hN]⟩
  have HR0 := Lib.hid hr0
  have HN := Lib.hid hN
  obtain ⟨C, hC⟩ : ∃ C, C = checkL l := ⟨_, rfl⟩
  have h1 := fun v W h => Check_any v l W h hm
  rw [← hC] at h1
  obtain ⟨D, hD⟩ : ∃ D, D = checkL [(⟨a.data.toList, t, n, s.data.toList⟩ : Fld)] := ⟨_, rfl⟩
  have h2 := fun v W h => Check_any v [(⟨a.data.toList, t, n, s.data.toList⟩ : Fld)] W h (by simp)
  rw [← hD] at h2
  have H1 := Lib.hid h1
  have H2 := Lib.hid h2
  clear h1 h2 hr hr0
  by_cases hC0 : C = 0
  · by_cases hD0 : D = 0
    · subst hC0 hD0
      obtain ⟨hl16, hlf, hls⟩ := (check_iff l).1 hC.symm
      have hfld := one_field hD.symm
      obtain ⟨SL, hSL⟩ : ∃ SL, SL = setL ⟨a.data.toList, t, n, s.data.toList⟩ l := ⟨_, rfl⟩
      have hSs : Srt SL := by rw [hSL]; exact set_srt hls
      have hSn : SL.length ≤ 17 := by rw [hSL]; have := set_length ⟨a.data.toList, t, n, s.data.toList⟩ l; omega
      obtain ⟨hg1, hg2⟩ := set_get (f := ⟨a.data.toList, t, n, s.data.toList⟩) hls
      rw [← hSL] at hg1 hg2
      have hoth := fun g hg => set_other (f := ⟨a.data.toList, t, n, s.data.toList⟩) (g := g) hls hg
      rw [← hSL] at hoth
      have hchk : SL.length ≤ 16 → checkL SL = 0 := fun h => by
        have := set_check (f := ⟨a.data.toList, t, n, s.data.toList⟩) hC.symm hfld (by rw [← hSL]; exact h)
        rw [← hSL] at this; exact this
      obtain ⟨DL, hDL⟩ : ∃ DL, DL = dropL nm.data.toList SL := ⟨_, rfl⟩
      have hgone : has DL nm.data.toList = false := by rw [hDL]; exact drop_gone (srt_dst hSs)
      have hdlen := drop_length nm.data.toList SL
      rw [← hDL] at hdlen
      have h3 := fun v W h => Set_any v l a s t n W h (by omega)
      rw [← hSL] at h3
      have h4 := fun v W h => get_is hg2 hg1 (Get_any v SL a W (by omega) h)
      obtain ⟨K, hK⟩ : ∃ K, K = checkL SL := ⟨_, rfl⟩
      have h5 := fun v W h => Check_any v SL W h (by omega)
      rw [← hK] at h5 hchk
      have h6 := fun v W h => Drop_any v SL nm W h (by omega)
      rw [← hDL] at h6
      have h7 := fun v W h => get_form (v := v) (w := W) (l := DL) rfl (Get_any v DL nm W (by omega) h)
      rw [hgone] at h7
      have h8 := fun v W h => get_form (v := v) (w := W) (l := SL) rfl (Get_any v SL nm W (by omega) h)
      obtain ⟨X, hX⟩ : ∃ X, X = has SL nm.data.toList := ⟨_, rfl⟩
      rw [← hX] at h8 hdlen
      obtain ⟨p1, hp1⟩ : ∃ x : ByteArray, x = ⟨(getF nm.data.toList DL).name.toArray⟩ := ⟨_, rfl⟩
      obtain ⟨p2, hp2⟩ : ∃ x : ByteArray, x = ⟨(getF nm.data.toList DL).s.toArray⟩ := ⟨_, rfl⟩
      obtain ⟨p3, hp3⟩ : ∃ x, x = (getF nm.data.toList DL).n := ⟨_, rfl⟩
      obtain ⟨p4, hp4⟩ : ∃ x, x = (getF nm.data.toList DL).text := ⟨_, rfl⟩
      rw [← hp1, ← hp2, ← hp3, ← hp4] at h7
      obtain ⟨q1, hq1⟩ : ∃ x : ByteArray, x = ⟨(getF nm.data.toList SL).name.toArray⟩ := ⟨_, rfl⟩
      obtain ⟨q2, hq2⟩ : ∃ x : ByteArray, x = ⟨(getF nm.data.toList SL).s.toArray⟩ := ⟨_, rfl⟩
      obtain ⟨q3, hq3⟩ : ∃ x, x = (getF nm.data.toList SL).n := ⟨_, rfl⟩
      obtain ⟨q4, hq4⟩ : ∃ x, x = (getF nm.data.toList SL).text := ⟨_, rfl⟩
      rw [← hq1, ← hq2, ← hq3, ← hq4] at h8
      obtain ⟨SN, hSN⟩ : ∃ SN, SN = SL.length := ⟨_, rfl⟩
      obtain ⟨DN, hDN⟩ : ∃ DN, DN = DL.length := ⟨_, rfl⟩
      rw [← hSN, ← hDN] at hdlen
      rw [← hSN] at hSn hchk
      have hN16 : N ≤ 16 := by rw [hN]; exact hl16
      have HOTH := Lib.hid hoth
      have HCHK := Lib.hid hchk
      have HEND := Lib.hid (keeps_end SN DN X hdlen)
      have HDL := Lib.hid hdlen
      have H3 := Lib.hid h3
      have H4 := Lib.hid h4
      have H5 := Lib.hid h5
      have H6 := Lib.hid h6
      have H7 := Lib.hid h7
      have H8 := Lib.hid h8
      have HSN := Lib.hid hSN
      have HDN := Lib.hid hDN
      have HG := Lib.hid (fun r W va (hr : r ∈ l) (hR : Rows va SL W) => Get_any va SL ⟨r.name.toArray⟩ W (by omega) hR)
      have HGS := Lib.hid hg2
      clear hC hD hN hl16 hlf hls hfld hSL hSs hg1 hg2 hoth hchk hDL hgone hdlen h3 h4 h5 h6 h7 h8 hK hX hp1 hp2 hp3 hp4 hq1 hq2 hq3 hq4 hSN hDN hm
      go_enter Tryz.func5, Tryz.ntmps5
      go_wp2_with fail
      refine (awake_any _ hE0).mono ?_
      rintro e w1 ⟨rfl, hb1⟩
      have hB1 := below_then hb0 hb1
      have HR1 := Lib.hid (HR0.out.keep hb1)
      have HV1 := Lib.hid (HV0.out.keep hb1)
      clear HR0 HV0
      go_wp2_with fail
      refine (H1.out _ _ HR1.out.rows).mono ?_
      rintro e w2 ⟨rfl, hb2⟩
      have hB2 := below_then hB1 hb2
      have HR2 := Lib.hid (HR1.out.keep hb2)
      have HV2 := Lib.hid (HV1.out.keep hb2)
      obtain ⟨z0, z1, z2, z3⟩ := HV2.out
      clear HR1 HV1
      go_wp2_with fail
      refine (H2.out _ _ (rows_one w2 a s t n _ rfl)).mono ?_
      rintro e w3 ⟨rfl, hb3⟩
      have hb23 := below_then (below_alloc w2 (.cells #[.string a, .bool t, .int .i64 n, .string s] 33)) hb3
      have hB3 := below_then hB2 hb23
      have HR3 := Lib.hid (HR2.out.keep hb23)
      have HV3 := Lib.hid (HV2.out.keep hb23)
      clear HR2 HV2 z0 z1 z2 z3 hb2 hb3
      obtain ⟨z0, z1, z2, z3⟩ := HV3.out
      go_wp2_with fail
      refine (H3.out _ _ HR3.out).mono ?_
      rintro e w4 ⟨va, rfl, howa, hb4⟩
      have hB4 := below_then hB3 hb4
      have HR4 := Lib.hid (HR3.out.keep hb4)
      have HV4 := Lib.hid (HV3.out.keep hb4)
      have HA4 := Lib.hid (rowsC_own howa)
      obtain ⟨oa, ca, rfl⟩ : ∃ o c, va = .slice o SN c := by
        rcases howa.2 with ⟨h, h0⟩ | ⟨g, cap, cur, h, _⟩
        · exact ⟨_, _, by rw [h, HSN.out, h0]⟩
        · exact ⟨_, _, by rw [h, HSN.out]⟩
      clear HR3 HV3 z0 z1 z2 z3 howa
      obtain ⟨z0, z1, z2, z3⟩ := HV4.out
      go_wp2_with fail
      refine (H4.out _ _ HA4.out.rows).mono ?_
      rintro e w5 ⟨rfl, hb5⟩
      have hb5a := below_then hb5 (below_alloc w5 (.cells #[.string a, .bool t, .int .i64 n, .string s] 33))
      have HG5 := Lib.hid (varF_new w5 a s t n)
      have HR5 := Lib.hid (HR4.out.keep hb5a)
      have HV5 := Lib.hid (HV4.out.keep hb5a)
      have HA5 := Lib.hid (HA4.out.keep hb5a)
      have hB5 := below_then hB4 hb5a
      clear HR4 HV4 HA4 z0 z1 z2 z3
      obtain ⟨z0, z1, z2, z3⟩ := HV5.out
      obtain ⟨y0, y1, y2, y3⟩ := HG5.out
      have hcase : K = 0 ∨ ((K != 0) = true ∧ ¬ ((SN : Int) ≤ 16)) := by
        by_cases h16 : SN ≤ 16
        · exact .inl (HCHK.out h16)
        · by_cases hK : K = 0
          · exact .inl hK
          · exact .inr ⟨by rw [bne_iff_ne]; exact hK, by omega⟩
      rcases hcase with rfl | ⟨k1, k2⟩
      all_goals
        go_wp2_with fail
        refine (H5.out _ _ HA5.out.rows).mono ?_
        rintro e w6 ⟨rfl, hb6⟩
        have HR6 := Lib.hid (HR5.out.keep hb6)
        have HV6 := Lib.hid (HV5.out.keep hb6)
        have HA6 := Lib.hid (HA5.out.keep hb6)
        have hB6 := below_then hB5 hb6
        clear HR5 HV5 HA5 HG5 z0 z1 z2 z3 y0 y1 y2 y3 H1 H2 H3 H4 H5 HCHK hB1 hB2 hB3 hB4 hB5 hb0 hb1 hb23 hb4 hb5 hb5a hb6 hE hE0
        go_wp2_with fail
        go_loopw [11] (fun i wr => ∃ k : Nat, k ≤ N ∧ i = .int .i64 k ∧ Below w6.heap.size w6 wr) (fun i _ => N - (intOf i).toNat)
        case atStart => exact ⟨0, by omega, rfl, Below.refl _ _⟩
        case round =>
          obtain ⟨k, hk, rfl, hBr⟩ := hrel
          have HVr := Lib.hid (HV6.out.keep hBr)
          have HAr := Lib.hid (HA6.out.keep hBr)
          have HRr := Lib.hid (HR6.out.keep hBr)
          have hrs := hBr.size
          by_cases hlt : k < N
          · obtain ⟨r, hrk⟩ : ∃ r, l[k]? = some r := ⟨l[k]'(by rw [← HN.out]; exact hlt), List.getElem?_eq_getElem _⟩
            rcases HRr.out with ⟨h, h0⟩ | ⟨g, off, c, he, hlc, hc⟩
            · rw [h0] at hrk; simp at hrk
            injection he with e1 e2 e3
            subst e1 e3
            obtain ⟨a0, a1, a2, a3⟩ := hc k r hrk
            obtain ⟨ra, hra⟩ : ∃ b : ByteArray, b = ⟨r.name.toArray⟩ := ⟨_, rfl⟩
            obtain ⟨rs, hrs'⟩ : ∃ b : ByteArray, b = ⟨r.s.toArray⟩ := ⟨_, rfl⟩
            have hrd : ra.data.toList = r.name := by rw [hra]
            have hrsd : rs.data.toList = r.s := by rw [hrs']
            rw [show bs r.name = .string ra by rw [hra]] at a0
            rw [show bs r.s = .string rs by rw [hrs']] at a3
            have hget := HG.out r wr (.slice oa SN ca) (List.mem_of_getElem? hrk) HAr.out.rows
            rw [← hra, ← hrd] at hget
            have hp0 : (0 : Int) ≤ (k : Int) := by omega
            have hp1 : (k : Int) < (N : Int) := by omega
            obtain ⟨o1, o2⟩ := HOTH.out r (List.mem_of_getElem? hrk)
            obtain ⟨z0, z1, z2, z3⟩ := HVr.out
            by_cases hna : r.name = a.data.toList
            · obtain rfl : ra = a := by rw [hra, hna]
              have hget := get_is (b := true) HGS.out (by rw [hrd]; exact o1) hget
              clear hc hrk hra hrs' hrd hrsd hna o1 o2 e2 hlc
              go_wp2_with fail
              refine hget.mono ?_
              rintro e w7 ⟨rfl, hb7⟩
              have hb7a := below_then hb7 (below_alloc w7 (.cells #[.string ra, .bool t, .int .i64 n, .string s] 33))
              have x0 := keep_cell hb7a a0
              have x1 := keep_cell hb7a a1
              have x2 := keep_cell hb7a a2
              have x3 := keep_cell hb7a a3
              have u0 := keep_cell hb7a z0
              have u1 := keep_cell hb7a z1
              have u2 := keep_cell hb7a z2
              have u3 := keep_cell hb7a z3
              obtain ⟨y0, y1, y2, y3⟩ := varF_new w7 ra s t n
              go_wp2_with fail
              go_quiet (fail)
              go_wp2_with fail
              go_roundw
              case rel => exact ⟨k + 1, by omega, by go_num, below_then (below_then hBr hb7a) (below_drewN _ _)⟩
              case measure => simp [intOf]; omega
            · have hget := get_is (b := true) (a := ra) (s := rs) (t := r.text) (n := r.n) (by rw [hrd, o2 hna, hrsd]) (by rw [hrd]; exact o1) hget
              have k1' : ra.toList = r.name := by rw [Lib.toList_data]; exact hrd
              have hz : (ra.toList == a.toList) = false := by rw [k1', Lib.toList_data, beq_eq_false_iff_ne]; exact hna
              have hz' : (ra.toList != a.toList) = true := by rw [k1', Lib.toList_data, bne_iff_ne]; exact hna
              clear hc hrk hra hrs' hrd hrsd hna o1 o2 e2 hlc k1'
              go_wp2_with fail
              refine hget.mono ?_
              rintro e w7 ⟨rfl, hb7⟩
              have hb7a := below_then hb7 (below_alloc w7 (.cells #[.string ra, .bool r.text, .int .i64 r.n, .string rs] 33))
              have x0 := keep_cell hb7a a0
              have x1 := keep_cell hb7a a1
              have x2 := keep_cell hb7a a2
              have x3 := keep_cell hb7a a3
              have u0 := keep_cell hb7a z0
              have u1 := keep_cell hb7a z1
              have u2 := keep_cell hb7a z2
              have u3 := keep_cell hb7a z3
              obtain ⟨y0, y1, y2, y3⟩ := varF_new w7 ra rs r.text r.n
              go_wp2_with fail
              go_quiet (fail)
              go_wp2_with fail
              go_roundw
              case rel => exact ⟨k + 1, by omega, by go_num, below_then (below_then hBr hb7a) (below_drewN _ _)⟩
              case measure => simp [intOf]; omega
          · obtain rfl : k = N := by omega
            clear HG HGS HOTH hlt hk HVr HRr
            go_wp2_with fail
            refine (H6.out _ _ HAr.out).mono ?_
            rintro e w8 ⟨vb, rfl, howb, hb8⟩
            have HA8 := Lib.hid (HAr.out.keep hb8)
            have HB8 := Lib.hid (rowsC_own howb)
            obtain ⟨ob, cb, rfl⟩ : ∃ o c, vb = .slice o DN c := by
              rcases howb.2 with ⟨h, h0⟩ | ⟨g, cap, cur, h, _⟩
              · exact ⟨_, _, by rw [h, HDN.out, h0]⟩
              · exact ⟨_, _, by rw [h, HDN.out]⟩
            have hB8 := below_then (below_then hB6 hBr) hb8
            clear howb HAr
            go_wp2_with fail
            refine (H7.out _ _ HB8.out.rows).mono ?_
            rintro e w9 ⟨rfl, hb9⟩
            have hb9a := below_then hb9 (below_alloc w9 (.cells #[.string p1, .bool p4, .int .i64 p3, .string p2] 33))
            go_wp2_with fail
            refine (H8.out _ _ (HA8.out.keep hb9a).rows).mono ?_
            rintro e w10 ⟨rfl, hb10⟩
            have hB10 := below_then (below_then hB8 hb9a) hb10
            cases X with
            | true =>
              obtain ⟨e1, _⟩ := HEND.out.1 rfl
              have e2 := HDL.out
              rw [if_pos rfl] at e2
              have e3 : (1 : Int) ≤ (SN : Int) := by omega
              have e4 : (SN : Int) ≤ 17 := by omega
              clear e2 hN16 hSn
              go_wp2_with fail
              go_ret
              exact ⟨rfl, below_then hB10 (below_alloc _ _)⟩
            | false =>
              obtain ⟨e1, _⟩ := HEND.out.2 rfl
              clear hN16 hSn
              go_wp2_with fail
              go_ret
              exact ⟨rfl, below_then hB10 (below_alloc _ _)⟩
    · have e2 : (D != 0) = true := by rw [bne_iff_ne]; exact hD0
      have e1 : C = 0 := hC0
      subst e1
      clear hC hD hD0 hN
      go_enter Tryz.func5, Tryz.ntmps5
      go_wp2_with fail
      refine (awake_any _ hE0).mono ?_
      rintro e w1 ⟨rfl, hb1⟩
      have hB1 := below_then hb0 hb1
      have HR1 := Lib.hid (HR0.out.keep hb1)
      obtain ⟨z0, z1, z2, z3⟩ := HV0.out.keep hb1
      go_wp2_with fail
      refine (H1.out _ _ HR1.out.rows).mono ?_
      rintro e w2 ⟨rfl, hb2⟩
      have hB2 := below_then hB1 hb2
      clear z0 z1 z2 z3
      obtain ⟨z0, z1, z2, z3⟩ := (HV0.out.keep hb1).keep hb2
      go_wp2_with fail
      refine (H2.out _ _ (rows_one w2 a s t n _ rfl)).mono ?_
      rintro e w3 ⟨rfl, hb3⟩
      have hB3 := below_then (below_then hB2 (below_alloc _ _)) hb3
      go_wp2_with fail
      go_ret
      exact ⟨rfl, hB3⟩
  · have e2 : (C != 0) = true := by rw [bne_iff_ne]; exact hC0
    clear hC hD hN hC0
    go_enter Tryz.func5, Tryz.ntmps5
    go_wp2_with fail
    refine (awake_any _ hE0).mono ?_
    rintro e w1 ⟨rfl, hb1⟩
    have hB1 := below_then hb0 hb1
    have HR1 := Lib.hid (HR0.out.keep hb1)
    obtain ⟨z0, z1, z2, z3⟩ := HV0.out.keep hb1
    go_wp2_with fail
    refine (H1.out _ _ HR1.out.rows).mono ?_
    rintro e w2 ⟨rfl, hb2⟩
    have hB2 := below_then hB1 hb2
    go_wp2_with fail
    go_ret
    exact ⟨rfl, hB2⟩
end Go.Proofs.YtmcnblibnbkfjaaGreatDoor.W12
