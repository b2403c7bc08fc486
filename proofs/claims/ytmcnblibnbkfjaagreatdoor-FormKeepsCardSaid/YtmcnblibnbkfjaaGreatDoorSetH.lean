/-
  Walks of layer 12: the law FormSets. Conditions: the library's error values and its table; the list's cells hold the fields; it is within Go's own limit.
-/
import Derived.Test.YtmcnblibnbkfjaaGreatDoorSetF
import Derived.Test.YtmcnblibnbkfjaaGreatDoorSetG
import Derived.Test.YtmcnblibnbkfjaaGreatDoorWalkNz
import Derived.Test.YtmcnblibnbkfjaaGreatDoorWalkP
namespace Go.Proofs.YtmcnblibnbkfjaaGreatDoor.W12
open Go Go.RowKit P12
open Dig hiding By

def roomF : Fld := ⟨[114, 111, 111, 109], false, 0, []⟩
theorem own_setOther {w : World} {B g n k : Nat} {v u : Value} {e : TypeId} {size : Nat} {xs : List Value} (h : w.ownsRow B e size v n xs) (hg : g < B) : (w.setCell ⟨g, k, none⟩ u).ownsRow B e size v n xs := by
  refine ⟨h.1, ?_⟩
  rcases h.2 with h | ⟨g', cap, cur, h1, h2, h3, h4⟩
  · exact .inl h
  · refine .inr ⟨g', cap, cur, h1, h2, ?_, h4⟩
    show (w.heap.modify g _)[g']? = _
    rw [← h3, Array.getElem?_modify]
    rw [if_neg (by omega)]
theorem own_set4 {w : World} {B g n k : Nat} {v x0 x1 x2 x3 : Value} {e : TypeId} {size : Nat} {xs : List Value} (h : w.ownsRow B e size v n xs) (hg : g < B) : ((((w.setCell ⟨g, k, none⟩ x0).setCell ⟨g, k + 1, none⟩ x1).setCell ⟨g, k + 2, none⟩ x2).setCell ⟨g, k + 3, none⟩ x3).ownsRow B e size v n xs :=
  own_setOther (own_setOther (own_setOther (own_setOther h hg) hg) hg) hg
/-- A variable that holds a field. -/
def VarF (p : Nat) (a s : ByteArray) (t : Bool) (n : Int) (w : World) : Prop :=
  w.cell? ⟨p, 0, none⟩ = some (.string a) ∧ w.cell? ⟨p, 1, none⟩ = some (.bool t) ∧ w.cell? ⟨p, 2, none⟩ = some (.int .i64 n) ∧ w.cell? ⟨p, 3, none⟩ = some (.string s)
theorem varF_new (w : World) (a s : ByteArray) (t : Bool) (n : Int) : VarF w.heap.size a s t n (w.alloc (.cells #[.string a, .bool t, .int .i64 n, .string s] 33)) := by
  have hz := heap_new w (.cells #[.string a, .bool t, .int .i64 n, .string s] 33)
  exact ⟨Lib.cell_of_heap hz 0, Lib.cell_of_heap hz 1, Lib.cell_of_heap hz 2, Lib.cell_of_heap hz 3⟩
theorem VarF.keep {p : Nat} {a s : ByteArray} {t : Bool} {n : Int} {w w' : World} (h : VarF p a s t n w) (hb : Below w.heap.size w w') : VarF p a s t n w' :=
  ⟨keep_cell hb h.1, keep_cell hb h.2.1, keep_cell hb h.2.2.1, keep_cell hb h.2.2.2⟩
theorem get_form {v : Value} {l : List Fld} {k : ByteArray} {f : FuncId} {w : World} {G : Fld} (hG : G = getF k.data.toList l)
    (h : Calls Tryz.prog f #[v, .string k] w fun e w' => e = .returned (.tuple #[fldV (getF k.data.toList l), .bool (has l k.data.toList)]) ∧ Below w.heap.size w w') :
    Calls Tryz.prog f #[v, .string k] w fun e w' => e = .returned (.tuple #[.agg #[.string ⟨G.name.toArray⟩, .bool G.text, .int .i64 G.n, .string ⟨G.s.toArray⟩], .bool (has l k.data.toList)]) ∧ Below w.heap.size w w' := by
  rw [hG]; exact h

set_option maxHeartbeats 6400000 in
set_option maxRecDepth 100000 in
theorem sets_law (v : Value) (l : List Fld) (a s : ByteArray) (t : Bool) (n : Int) (w : World) (hE : Env w) (hr : RowsC v l w) (hm : (l.length + 1) * 48 ≤ 140737488355328) :
    Calls Tryz.prog 4 #[v, .agg #[.string a, .bool t, .int .i64 n, .string s]] w fun e w' => e = .returned (.bool true) ∧ Below w.heap.size w w' := by
  have hb0 := below_alloc w (.cells #[.string a, .bool t, .int .i64 n, .string s] 33)
  have HV0 := Lib.hid (varF_new w a s t n)
  have hE0 := hE.keep hb0
  have hr0 := hr.keep hb0
  obtain ⟨N, hN⟩ : ∃ N, N = l.length := ⟨_, rfl⟩
  obtain ⟨ov, cv, rfl⟩ : ∃ o c, v = .slice o N c := by
    obtain ⟨o, c, h, -⟩ := hr.rows
    exact ⟨o, c, by rw [h, hN]⟩
  have HR0 := Lib.hid hr0
  obtain ⟨G, hG⟩ : ∃ G, G = getF a.data.toList l := ⟨_, rfl⟩
  have h1 := fun v W h => get_form hG (Get_any v l a W (by omega) h)
  have h2 := fun v W h => get_form hG (refGet_any v l a W (by omega) h)
  obtain ⟨ga, hga⟩ : ∃ x : ByteArray, x = ⟨G.name.toArray⟩ := ⟨_, rfl⟩
  obtain ⟨gs, hgs⟩ : ∃ x : ByteArray, x = ⟨G.s.toArray⟩ := ⟨_, rfl⟩
  obtain ⟨gh, hgh⟩ : ∃ x, x = has l a.data.toList := ⟨_, rfl⟩
  rw [← hga, ← hgs, ← hgh] at h1 h2
  have h3 := fun v W h => Set_any v l a s t n W h hm
  have h4 := fun v W h => refSet_any v l a s t n W h hm
  have h5 := fun v W h => Drop_any v l a W h hm
  have h6 := fun v W h => refDrop_any v l a W h hm
  obtain ⟨SL, hSL⟩ : ∃ SL, SL = setL ⟨a.data.toList, t, n, s.data.toList⟩ l := ⟨_, rfl⟩
  obtain ⟨DL, hDL⟩ : ∃ DL, DL = dropL a.data.toList l := ⟨_, rfl⟩
  have hSn : SL.length ≤ l.length + 1 := by rw [hSL]; exact set_length _ _
  have hDn : DL.length ≤ l.length := by rw [hDL]; have := drop_length a.data.toList l; split at this <;> omega
  rw [← hSL] at h3 h4
  rw [← hDL] at h5 h6
  have h7 := fun va vb W ha hb => Same_any va vb SL W (by omega) ha hb
  have h8 := fun va vb W ha hb => Same_any va vb DL W (by omega) ha hb
  have h9 := fun va vb W ha hb => Same_any va vb l W (by omega) ha hb
  obtain ⟨SN, hSN⟩ : ∃ SN, SN = SL.length := ⟨_, rfl⟩
  obtain ⟨DN, hDN⟩ : ∃ DN, DN = DL.length := ⟨_, rfl⟩
  have H1 := Lib.hid h1
  have H2 := Lib.hid h2
  have H3 := Lib.hid h3
  have H4 := Lib.hid h4
  have H5 := Lib.hid h5
  have H6 := Lib.hid h6
  have H7 := Lib.hid h7
  have H8 := Lib.hid h8
  have H9 := Lib.hid h9
  have HN := Lib.hid hN
  have HSN := Lib.hid hSN
  have HDN := Lib.hid hDN
  have HM0 := Lib.hid (show (([] : List Fld).length + l.length) * 48 ≤ 140737488355328 by rw [List.length_nil]; omega)
  have HM1 := Lib.hid (show ((([] : List Fld) ++ l).length + [roomF].length) * 48 ≤ 140737488355328 by rw [List.nil_append]; exact hm)
  have hN0 : (0 : Int) ≤ (N : Int) := by omega
  have HNM := Lib.hid (show N + 1 ≤ 9223372036854775807 by omega)
  have HSM := Lib.hid (show SN ≤ 9223372036854775807 by omega)
  have HDM := Lib.hid (show DN ≤ 9223372036854775807 by omega)
  clear h1 h2 h3 h4 h5 h6 h7 h8 h9 hN hSN hDN hG hga hgs hgh hSL hDL hSn hDn hr hr0 hm
  go_enter Tryz.func4, Tryz.ntmps4
  go_wp2_with fail
  refine (awake_any _ hE0).mono ?_
  rintro e w1 ⟨rfl, hb1⟩
  have hB1 := below_then hb0 hb1
  have HR1 := Lib.hid (HR0.out.keep hb1)
  have HV1 := Lib.hid (HV0.out.keep hb1)
  clear HR0 HV0
  go_wp2_with (first
    | (at_builtin; refine wpList_app rfl (.tmp 20) (.tmp 21) rfl w1 (below_alloc _ _) _ [] l rfl _ (Below.refl _ _) (own_made _ _ _ rfl (Nat.le_refl _)) _ rfl w1 (below_alloc _ _) HR1.out.rows HM0.out ?_; intro v2 w2 hown2 hb2 hgr2)
    | (at_builtin; refine wpList_app rfl (.tmp 22) (.tmp 24) rfl w1 (below_then hb2 (below_alloc _ _)) v2 _ [roomF] rfl w2 (below_alloc _ _) hown2 _ rfl _ (Below.refl _ _) (rows_one _ ⟨#[114, 111, 111, 109]⟩ ⟨#[]⟩ false 0 _ rfl) HM1.out ?_; intro v3 w3 hown3 hb3 hgr3; refine Hid.out ?_))
  refine Lib.hid ?_
  have hB3 := below_then hB1 hb3
  have HR3 := Lib.hid (HR1.out.keep hb3)
  have HV3 := Lib.hid (HV1.out.keep hb3)
  have hown : w3.ownsRow w1.heap.size 33 4 v3 (N + 1) (cellsF (l ++ [roomF])) := by
    have := hown3
    simp only [List.nil_append, List.length_append, List.length_cons, List.length_nil, ← HN.out, Nat.zero_add] at this
    exact this
  obtain ⟨g, cap, rfl, hgB, hgl, hnc, hcm⟩ := own_open hown (by omega)
  have hroom : w3.cell? ⟨g, N * 4, none⟩ = some (.string ⟨#[114, 111, 111, 109]⟩) := (own_at hown (j := N) (f := roomF) (by rw [HN.out, List.getElem?_append_right (Nat.le_refl _)]; simp)).1
  have hlent : RowsC (.slice (some ⟨g, 0, none⟩) N cap) l w3 := by
    refine .inr ⟨g, 0, cap, by rw [← HN.out], by rw [← HN.out]; omega, fun j f hj => ?_⟩
    have := own_at hown (j := j) (f := f) (by rw [List.getElem?_append_left (List.getElem?_eq_some_iff.1 hj).1]; exact hj)
    simpa using this
  have HLent := Lib.hid hlent
  have hNc : (N : Int) ≤ (cap : Int) := by omega
  have hcap : ¬ (cap = N) := by omega
  obtain ⟨z0, z1, z2, z3⟩ := HV3.out
  clear hown hown3 hlent hgr2 hgr3 hown2 hb2 HR1 HV1 HM0 HM1 hgB hnc hcm
  go_wp2_with fail
  refine (H1.out _ _ HLent.out.rows).mono ?_
  rintro e w4 ⟨rfl, hb4⟩
  have hB4 := below_then hB3 hb4
  have HR4 := Lib.hid (HR3.out.keep hb4)
  have HV4 := Lib.hid (HV3.out.keep hb4)
  have HLent4 := Lib.hid (HLent.out.keep hb4)
  replace hroom := keep_cell hb4 hroom
  clear HR3 HV3 HLent z0 z1 z2 z3
  obtain ⟨z0, z1, z2, z3⟩ := HV4.out
  have hb4a := below_alloc w4 (.cells #[.string ga, .bool G.text, .int .i64 G.n, .string gs] 33)
  have HG4 := Lib.hid (varF_new w4 ga gs G.text G.n)
  obtain ⟨y0, y1, y2, y3⟩ := HV4.out.keep hb4a
  go_wp2_with fail
  refine (H2.out _ _ (HR4.out.keep hb4a).rows).mono ?_
  rintro e w5 ⟨rfl, hb5⟩
  have hb45 := below_then hb4a hb5
  have hB5 := below_then hB4 hb45
  have HR5 := Lib.hid (HR4.out.keep hb45)
  have HV5 := Lib.hid (HV4.out.keep hb45)
  have HLent5 := Lib.hid (HLent4.out.keep hb45)
  have HG5 := Lib.hid (HG4.out.keep hb5)
  replace hroom := keep_cell hb45 hroom
  clear HR4 HV4 HLent4 HG4 z0 z1 z2 z3 hb4a y0 y1 y2 y3
  obtain ⟨z0, z1, z2, z3⟩ := HV5.out
  have hb5a := below_alloc w5 (.cells #[.string ga, .bool G.text, .int .i64 G.n, .string gs] 33)
  have HQ5 := Lib.hid (varF_new w5 ga gs G.text G.n)
  have HR6 := Lib.hid (HR5.out.keep hb5a)
  have HV6 := Lib.hid (HV5.out.keep hb5a)
  have HLent6 := Lib.hid (HLent5.out.keep hb5a)
  have HG6 := Lib.hid (HG5.out.keep hb5a)
  have hB6 := below_then hB5 hb5a
  replace hroom := keep_cell hb5a hroom
  clear HR5 HV5 HLent5 HG5
  -- the world in which Set is called
  obtain ⟨y0, y1, y2, y3⟩ := HV6.out
  go_wp2_with fail
  obtain ⟨w6, hw6⟩ : ∃ w6, w6 = w5.alloc (.cells #[.string ga, .bool G.text, .int .i64 G.n, .string gs] 33) := ⟨_, rfl⟩
  rw [← hw6] at HR6 HV6 HLent6 HG6 hB6 hroom HQ5 hb5a
  rw [← hw6]
  have h6sz : w5.heap.size < w6.heap.size := by rw [hw6]; simp
  clear hw6 z0 z1 z2 z3 y0 y1 y2 y3
  refine (H3.out _ _ HLent6.out).mono ?_
  rintro e w7 ⟨va, rfl, howa, hb7⟩
  obtain ⟨z0, z1, z2, z3⟩ := (HV6.out.keep hb7)
  go_wp2_with fail
  refine (H5.out _ _ (HLent6.out.keep hb7)).mono ?_
  rintro e w8 ⟨vb, rfl, howb, hb8⟩
  have hB68 := below_then hb7 hb8
  clear z0 z1 z2 z3
  obtain ⟨z0, z1, z2, z3⟩ := (HV6.out.keep hB68)
  go_wp2_with fail
  refine (H4.out _ _ (HR6.out.keep hB68)).mono ?_
  rintro e w9 ⟨vc, rfl, howc, hb9⟩
  have hB69 := below_then hB68 hb9
  clear z0 z1 z2 z3
  obtain ⟨z0, z1, z2, z3⟩ := (HV6.out.keep hB69)
  go_wp2_with fail
  refine (H7.out _ _ _ (rowsC_own (own_keep howa (below_then hb8 hb9))).rows (rowsC_own howc).rows).mono ?_
  rintro e w10 ⟨rfl, hb10⟩
  have hB610 := below_then hB69 hb10
  clear z0 z1 z2 z3 howc
  obtain ⟨z0, z1, z2, z3⟩ := (HV6.out.keep hB610)
  go_wp2_with fail
  refine (H6.out _ _ (HR6.out.keep hB610)).mono ?_
  rintro e w11 ⟨vd, rfl, howd, hb11⟩
  have hB611 := below_then hB610 hb11
  clear z0 z1 z2 z3
  go_wp2_with fail
  refine (H8.out _ _ _ (rowsC_own (own_keep howb (below_then (below_then hb9 hb10) hb11))).rows (rowsC_own howd).rows).mono ?_
  rintro e w12 ⟨rfl, hb12⟩
  have hB612 := below_then hB611 hb12
  have HOA := Lib.hid (own_keep howa (below_then (below_then (below_then (below_then hb8 hb9) hb10) hb11) hb12))
  have HOB := Lib.hid (own_keep howb (below_then (below_then (below_then hb9 hb10) hb11) hb12))
  have HFA : Hid (∀ gg nn cc, va = .slice (some ⟨gg, 0, none⟩) nn cc → gg < w7.heap.size) := Lib.hid fun gg nn cc e => (howa.lt gg (by rw [e]; rfl)).2
  have h67 : w6.heap.size ≤ w7.heap.size := hb7.size
  obtain ⟨oa, ca, rfl⟩ : ∃ o c, va = .slice o SN c := by
    rcases howa.2 with ⟨h, h0⟩ | ⟨g, cap, cur, h, _⟩
    · exact ⟨_, _, by rw [h, HSN.out, h0]⟩
    · exact ⟨_, _, by rw [h, HSN.out]⟩
  obtain ⟨ob, cb, rfl⟩ : ∃ o c, vb = .slice o DN c := by
    rcases howb.2 with ⟨h, h0⟩ | ⟨g, cap, cur, h, _⟩
    · exact ⟨_, _, by rw [h, HDN.out, h0]⟩
    · exact ⟨_, _, by rw [h, HDN.out]⟩
  clear howa howb howd hb8 hb9 hb10 hb11 hb12 hB68 hB69 hB610 hB611 H1 H2 H3 H4 H5 H6 H7 H8
  go_wp2_with fail
  have HSL0 : Hid (SL.length = SN) := Lib.hid HSN.out.symm
  have HDL0 : Hid (DL.length = DN) := Lib.hid HDN.out.symm
  go_loopw [16] (fun i wr => ∃ (k : Nat) (L' : List Fld), k ≤ SN ∧ i = .int .i64 k ∧ Hid (L'.length = SN) ∧ Hid (wr.ownsRow w6.heap.size 33 4 (.slice oa SN ca) SN (cellsF L')) ∧ Hid (wr.ownsRow w7.heap.size 33 4 (.slice ob DN cb) DN (cellsF DL)) ∧ Below w6.heap.size w6 wr) (fun i _ => SN - (intOf i).toNat)
  case atStart => exact ⟨0, SL, by omega, rfl, HSL0, Lib.hid (by have := HOA.out; rw [← HSN.out] at this; exact this), Lib.hid (by have := HOB.out; rw [← HDN.out] at this; exact this), hB612⟩
  case round =>
    obtain ⟨k, L', hk, rfl, HL', HO1, HO2, hBr⟩ := hrel
    clear HOA HOB hB612 HSL0
    by_cases hlt : k < SN
    · obtain ⟨gg, cap', he, hgB, hgl, hnc, hcm⟩ := own_open HO1.out (by omega)
      injection he with e1 e2 e3
      subst e1 e3
      obtain ⟨R, hR⟩ : ∃ R, L'[k]? = some R := ⟨L'[k]'(by rw [HL'.out]; exact hlt), List.getElem?_eq_getElem _⟩
      obtain ⟨c0, c1, c2, c3⟩ := own_at HO1.out hR
      obtain ⟨ra, hra⟩ : ∃ b : ByteArray, bs R.name = .string b := ⟨_, rfl⟩
      obtain ⟨rs, hrs⟩ : ∃ b : ByteArray, bs R.s = .string b := ⟨_, rfl⟩
      rw [hra] at c0
      rw [hrs] at c3
      have g0 := own_frozen HO1.out (k * 4)
      have g1 := own_frozen HO1.out (k * 4 + 1)
      have g2 := own_frozen HO1.out (k * 4 + 2)
      have g3 := own_frozen HO1.out (k * 4 + 3)
      have HX1 := Lib.hid (own_setF HL'.out HO1.out k hlt ⟨#[109, 105, 110, 101]⟩ ⟨#[]⟩ false 0)
      have HX2 := Lib.hid (own_set4 (k := k * 4) (x0 := .string ⟨#[109, 105, 110, 101]⟩) (x1 := .bool false) (x2 := .int .i64 0) (x3 := .string ⟨#[]⟩) HO2.out (HFA.out _ _ _ rfl))
      have HX3 := Lib.hid (show (L'.set k ⟨[109, 105, 110, 101], false, 0, []⟩).length = SN by rw [List.length_set]; exact HL'.out)
      have hp0 : (0 : Int) ≤ (k : Int) := by omega
      have hp1 : (k : Int) < (SN : Int) := by omega
      have hkm := HSM.out
      clear hR hra hrs e2 hnc hcm HSM
      go_wp2_with fail
      go_roundw
      case rel => exact ⟨k + 1, _, by omega, by go_num, HX3, HX1, HX2, below_set4 hBr hgB _ _ _ _⟩
      case measure => simp [intOf]; omega
    · obtain rfl : k = SN := by omega
      clear HO1 HL' HFA HSM hlt hk
      go_wp2_with fail
      obtain ⟨wo, hwo⟩ : ∃ wo, wo = wr := ⟨_, rfl⟩
      rw [← hwo] at HO2 hBr ⊢
      clear hwo
      go_loopw [17] (fun i wr => ∃ (j : Nat) (L' : List Fld), j ≤ DN ∧ i = .int .i64 j ∧ Hid (L'.length = DN) ∧ Hid (wr.ownsRow w7.heap.size 33 4 (.slice ob DN cb) DN (cellsF L')) ∧ Below w6.heap.size w6 wr) (fun i _ => DN - (intOf i).toNat)
      case atStart => exact ⟨0, DL, by omega, rfl, HDL0, HO2, hBr⟩
      case round =>
        clear hBr HO2
        obtain ⟨j, L', hj, rfl, HL', HO2, hBr⟩ := hrel
        by_cases hlt : j < DN
        · obtain ⟨gg, cap', he, hgB, hgl, hnc, hcm⟩ := own_open HO2.out (by omega)
          injection he with e1 e2 e3
          subst e1 e3
          obtain ⟨R, hR⟩ : ∃ R, L'[j]? = some R := ⟨L'[j]'(by rw [HL'.out]; exact hlt), List.getElem?_eq_getElem _⟩
          obtain ⟨c0, c1, c2, c3⟩ := own_at HO2.out hR
          obtain ⟨ra, hra⟩ : ∃ b : ByteArray, bs R.name = .string b := ⟨_, rfl⟩
          obtain ⟨rs, hrs⟩ : ∃ b : ByteArray, bs R.s = .string b := ⟨_, rfl⟩
          rw [hra] at c0
          rw [hrs] at c3
          have g0 := own_frozen HO2.out (j * 4)
          have g1 := own_frozen HO2.out (j * 4 + 1)
          have g2 := own_frozen HO2.out (j * 4 + 2)
          have g3 := own_frozen HO2.out (j * 4 + 3)
          have HX1 := Lib.hid (own_setF HL'.out HO2.out j hlt ⟨#[109, 105, 110, 101]⟩ ⟨#[]⟩ false 0)
          have HX3 := Lib.hid (show (L'.set j ⟨[109, 105, 110, 101], false, 0, []⟩).length = DN by rw [List.length_set]; exact HL'.out)
          have hp0 : (0 : Int) ≤ (j : Int) := by omega
          have hp1 : (j : Int) < (DN : Int) := by omega
          have hkm := HDM.out
          have hgB' : w6.heap.size ≤ gg := by omega
          clear hR hra hrs e2 hnc hcm HDM
          go_wp2_with fail
          go_roundw
          case rel => exact ⟨j + 1, _, by omega, by go_num, HX3, HX1, below_set4 hBr hgB' _ _ _ _⟩
          case measure => simp [intOf]; omega
        · obtain rfl : j = DN := by omega
          clear HO2 HL' HDM hlt hj
          go_wp2_with fail
          refine (H9.out _ _ _ (HLent6.out.keep hBr).rows (HR6.out.keep hBr).rows).mono ?_
          rintro e w13 ⟨rfl, hb13⟩
          have hBf := below_then hBr hb13
          obtain ⟨x0, x1, x2, x3⟩ := HG6.out.keep hBf
          obtain ⟨y0, y1, y2, y3⟩ := HQ5.out.keep hBf
          replace hroom := keep_cell hBf hroom
          have hq0 : (N : Int) < ((N + 1 : Nat) : Int) := by omega
          have hBe := below_then hB6 hBf
          clear hBf hBr
          go_wp2_with fail
          go_ret
          exact ⟨rfl, hBe⟩
end Go.Proofs.YtmcnblibnbkfjaaGreatDoor.W12
