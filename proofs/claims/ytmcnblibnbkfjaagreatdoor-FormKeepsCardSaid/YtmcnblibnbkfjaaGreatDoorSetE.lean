/-
  Walks of layer 12: Set and Drop, of the program and of the reference. Conditions: the list's cells hold the fields; it is within Go's own limit.
-/
import Derived.Test.YtmcnblibnbkfjaaGreatDoorSetB
import Derived.Test.YtmcnblibnbkfjaaGreatDoorSetD
import Derived.Test.YtmcnblibnbkfjaaGreatDoorSetL
namespace Go.Proofs.YtmcnblibnbkfjaaGreatDoor.W12
open Go Go.RowKit P12

theorem own_at {w : World} {B g n cap : Nat} {l : List Fld} (h : w.ownsRow B 33 4 (.slice (some ⟨g, 0, none⟩) n cap) n (cellsF l)) {j : Nat} {f : Fld} (hj : l[j]? = some f) :
    w.cell? ⟨g, j * 4, none⟩ = some (bs f.name) ∧ w.cell? ⟨g, j * 4 + 1, none⟩ = some (.bool f.text) ∧ w.cell? ⟨g, j * 4 + 2, none⟩ = some (.int .i64 f.n) ∧ w.cell? ⟨g, j * 4 + 3, none⟩ = some (bs f.s) := by
  obtain ⟨a, b, c, d⟩ := cellsF_at l j f hj
  have hc := h.cells (g := g) rfl
  have ha := hc _ _ a
  have hb := hc _ _ b
  have hcc := hc _ _ c
  have hd := hc _ _ d
  rw [Lib.add_plain, Nat.zero_add] at ha hb hcc hd
  exact ⟨ha, hb, hcc, hd⟩
theorem below_set4 {B : Nat} {w0 w : World} {g k : Nat} (h : Below B w0 w) (hg : B ≤ g) (x0 x1 x2 x3 : Value) : Below B w0 ((((w.setCell ⟨g, k, none⟩ x0).setCell ⟨g, k + 1, none⟩ x1).setCell ⟨g, k + 2, none⟩ x2).setCell ⟨g, k + 3, none⟩ x3) :=
  (((h.setCell (p := ⟨g, k, none⟩) hg _).setCell (p := ⟨g, k + 1, none⟩) hg _).setCell (p := ⟨g, k + 2, none⟩) hg _).setCell (p := ⟨g, k + 3, none⟩) hg _

set_option maxHeartbeats 3200000 in
set_option maxRecDepth 100000 in
theorem Set_hit (v : Value) (l : List Fld) (a s : ByteArray) (t : Bool) (n : Int) (w : World) (hr : RowsC v l w) (hm : (l.length + 1) * 48 ≤ 140737488355328) (hh : has l a.data.toList = true) :
    Calls Tryz.prog 18 #[v, .agg #[.string a, .bool t, .int .i64 n, .string s]] w fun e w' => ∃ v', e = .returned v' ∧ w'.ownsRow w.heap.size 33 4 v' (setL ⟨a.data.toList, t, n, s.data.toList⟩ l).length (cellsF (setL ⟨a.data.toList, t, n, s.data.toList⟩ l)) ∧ Below w.heap.size w w' := by
  have hb0 := below_alloc w (.cells #[.string a, .bool t, .int .i64 n, .string s] 33)
  have hz := heap_new w (.cells #[.string a, .bool t, .int .i64 n, .string s] 33)
  have z0 := Lib.cell_of_heap hz 0
  have z1 := Lib.cell_of_heap hz 1
  have z2 := Lib.cell_of_heap hz 2
  have z3 := Lib.cell_of_heap hz 3
  have hr1 := hr.keep hb0
  have hat := fun W h => at_any v l a W (by omega) h
  obtain ⟨F, hF⟩ : ∃ F : Fld, F = ⟨a.data.toList, t, n, s.data.toList⟩ := ⟨_, rfl⟩
  have hFn : F.name = a.data.toList := by rw [hF]
  obtain ⟨j, hj, hjl, hgj, -⟩ := find_place hh
  rw [hj] at hat
  rw [← hF, set_hit (f := F) (by rw [hFn]; exact hh) (by rw [hFn]; exact hj), List.length_set]
  have HF := Lib.hid hF
  obtain ⟨R, hR⟩ : ∃ R, R = getF a.data.toList l := ⟨_, rfl⟩
  rw [← hR] at hgj
  obtain ⟨ra, hra⟩ : ∃ b : ByteArray, bs R.name = .string b := ⟨_, rfl⟩
  obtain ⟨rs, hrs⟩ : ∃ b : ByteArray, bs R.s = .string b := ⟨_, rfl⟩
  have hcl := Clone_any v l _ hr1 (by omega)
  obtain ⟨N, hN⟩ : ∃ N, N = l.length := ⟨_, rfl⟩
  rw [← hN] at hjl hcl hm ⊢
  have HN := Lib.hid hN
  have HR := Lib.hid hr1.rows
  obtain ⟨ov, cv, rfl⟩ : ∃ o c, v = .slice o N c := by
    obtain ⟨o, c, h, -⟩ := hr1.rows
    exact ⟨o, c, by rw [h, hN]⟩
  clear hz hh hF hFn hj hr hr1 hR hN
  go_enter Tryz.func18, Tryz.ntmps18
  go_wp2_with (go_at_call 44; refine hcl.mono ?_; rintro e w2 ⟨vo, rfl, hown, hb2⟩; refine Hid.out ?_)
  refine Lib.hid ?_
  replace z0 := keep_cell hb2 z0
  replace z1 := keep_cell hb2 z1
  replace z2 := keep_cell hb2 z2
  replace z3 := keep_cell hb2 z3
  go_wp2_with fail
  refine (hat _ (HR.out.keep hb2)).mono ?_
  rintro e w3 ⟨rfl, hb3⟩
  replace z0 := keep_cell hb3 z0
  replace z1 := keep_cell hb3 z1
  replace z2 := keep_cell hb3 z2
  replace z3 := keep_cell hb3 z3
  have hown3 := own_keep hown hb3
  have hB : Below w.heap.size w w3 := below_then hb0 (below_then hb2 hb3)
  have hbx := hb2
  obtain ⟨g, cap, rfl, hgB, hgl, hnc, hcm⟩ := own_open hown (by omega)
  obtain ⟨c0, c1, c2, c3⟩ := own_at hown3 hgj
  rw [hra] at c0
  rw [hrs] at c3
  have g0 := own_frozen hown3 (j * 4)
  have g1 := own_frozen hown3 (j * 4 + 1)
  have g2 := own_frozen hown3 (j * 4 + 2)
  have g3 := own_frozen hown3 (j * 4 + 3)
  have ho := own_setF HN.out.symm hown3 j hjl a s t n
  rw [← HF.out] at ho
  have HO := Lib.hid ho
  have hgB' : w.heap.size ≤ g := by have := hb0.size; have := hbx.size; omega
  have hp0 : (0 : Int) ≤ (j : Int) := by omega
  have hp1 : (j : Int) < (N : Int) := by omega
  have hNm : (N : Int) ≤ 9223372036854775807 := by omega
  clear hown hown3 hgj ho hra hrs
  go_wp2_with fail
  go_ret
  exact ⟨_, rfl, own_base HO.out (by first | omega | (have := hbx.size; have := hb0.size; omega)), below_set4 hB hgB' _ _ _ _⟩

set_option maxHeartbeats 3200000 in
set_option maxRecDepth 100000 in
theorem Set_miss (v : Value) (l : List Fld) (a s : ByteArray) (t : Bool) (n : Int) (w : World) (hr : RowsC v l w) (hm : (l.length + 1) * 48 ≤ 140737488355328) (hh : has l a.data.toList = false) :
    Calls Tryz.prog 18 #[v, .agg #[.string a, .bool t, .int .i64 n, .string s]] w fun e w' => ∃ v', e = .returned v' ∧ w'.ownsRow w.heap.size 33 4 v' (setL ⟨a.data.toList, t, n, s.data.toList⟩ l).length (cellsF (setL ⟨a.data.toList, t, n, s.data.toList⟩ l)) ∧ Below w.heap.size w w' := by
  have hb0 := below_alloc w (.cells #[.string a, .bool t, .int .i64 n, .string s] 33)
  have hz := heap_new w (.cells #[.string a, .bool t, .int .i64 n, .string s] 33)
  have z0 := Lib.cell_of_heap hz 0
  have z1 := Lib.cell_of_heap hz 1
  have z2 := Lib.cell_of_heap hz 2
  have z3 := Lib.cell_of_heap hz 3
  have hr1 := hr.keep hb0
  have hat := fun W h => at_any v l a W (by omega) h
  rw [findI_none.2 hh] at hat
  have hix := fun (W : World) (h : Rows v l W) (hk : W.cell? ⟨w.heap.size, 0, none⟩ = some (.string a)) => indexFunc_any v l 46 #[.pointer (some ⟨w.heap.size, 0, none⟩)] eg_set (fun f => decide (a.data.toList < f.name)) W (by omega) h
    (fun W' f hB _ => setC_any ⟨f.name.toArray⟩ ⟨f.s.toArray⟩ f.text f.n a w.heap.size W' (keep_cell hB hk))
  obtain ⟨F, hF⟩ : ∃ F : Fld, F = ⟨a.data.toList, t, n, s.data.toList⟩ := ⟨_, rfl⟩
  have hFn : F.name = a.data.toList := by rw [hF]
  rw [← hF, set_miss (f := F) (by rw [hFn]; exact hh)]
  obtain ⟨hi1, hi2⟩ := insL_idx F l
  rw [hFn] at hi1 hi2
  have hge := idxL_ge (fun x => decide (a.data.toList < x.name)) l
  have hlt := idxL_lt (fun x => decide (a.data.toList < x.name)) l
  obtain ⟨I, hI⟩ : ∃ I, I = idxL (fun x => decide (a.data.toList < x.name)) l := ⟨_, rfl⟩
  rw [← hI] at hix hi1 hi2 hge hlt
  have HF := Lib.hid hF
  have hcl := Clone_any v l _ hr1 (by omega)
  obtain ⟨N, hN⟩ : ∃ N, N = l.length := ⟨_, rfl⟩
  rw [← hN] at hcl hm hlt
  have HN := Lib.hid hN
  have HR := Lib.hid hr1.rows
  obtain ⟨ov, cv, rfl⟩ : ∃ o c, v = .slice o N c := by
    obtain ⟨o, c, h, -⟩ := hr1.rows
    exact ⟨o, c, by rw [h, hN]⟩
  -- the place
  obtain ⟨i, hiN, hins, hplace⟩ : ∃ i : Nat, i ≤ N ∧ insL F l = l.take i ++ F :: l.drop i ∧ ((I = -1 ∧ i = N) ∨ I = (i : Int)) := by
    by_cases e : I = -1
    · refine ⟨N, Nat.le_refl _, ?_, .inl ⟨e, rfl⟩⟩
      rw [hi2 e, hN, List.take_length, List.drop_length]
    · exact ⟨I.toNat, by omega, hi1 I.toNat (by omega), .inr (by omega)⟩
  rw [hins]
  have HBD := Lib.hid (show (l.length + 1) * 48 ≤ 140737488355328 by rw [← hN]; omega)
  have HIL := Lib.hid (show i ≤ l.length by rw [← hN]; omega)
  have hi0 : (0 : Int) ≤ (i : Int) := by omega
  have hiN' : (i : Int) ≤ (N : Int) := by omega
  clear hz hh hF hFn hr hr1 hN hi1 hi2 hins hge hlt hI
  rcases hplace with ⟨rfl, hiN2⟩ | rfl
  · obtain rfl : i = N := hiN2
    go_enter Tryz.func18, Tryz.ntmps18
    go_wp2_with (go_at_call 44; refine hcl.mono ?_; rintro e w2 ⟨vo, rfl, hown, hb2⟩; refine Hid.out ?_)
    refine Lib.hid ?_
    replace z0 := keep_cell hb2 z0
    replace z1 := keep_cell hb2 z1
    replace z2 := keep_cell hb2 z2
    replace z3 := keep_cell hb2 z3
    have HR2 := Lib.hid (HR.out.keep hb2)
    go_wp2_with fail
    refine (hat _ HR2.out).mono ?_
    rintro e w3 ⟨rfl, hb3⟩
    replace z0 := keep_cell hb3 z0
    replace z1 := keep_cell hb3 z1
    replace z2 := keep_cell hb3 z2
    replace z3 := keep_cell hb3 z3
    have HR3 := Lib.hid (HR2.out.keep hb3)
    go_wp2_with fail
    refine (hix _ HR3.out z0).mono ?_
    rintro e w4 ⟨rfl, hb4⟩
    replace z0 := keep_cell hb4 z0
    replace z1 := keep_cell hb4 z1
    replace z2 := keep_cell hb4 z2
    replace z3 := keep_cell hb4 z3
    have hb24 := below_then hb3 hb4
    have HO := Lib.hid (own_keep hown hb24)
    have hne : vo.ownBlock ≠ some w4.heap.size := fun e => by
      have h1 := (hown.lt _ e).2
      have h2 := hb24.size
      omega
    have HNE := Lib.hid hne
    obtain ⟨go, gn, gc, rfl⟩ : ∃ o c d, vo = .slice o c d := by
      rcases hown.2 with ⟨h, _⟩ | ⟨g, cap, cur, h, _⟩
      · exact ⟨_, _, _, h⟩
      · exact ⟨_, _, _, h⟩
    clear hown hne HR HR2 HR3 hat hix hcl
    go_wp2_with fail
    refine (Insert_any _ l (w.alloc (.cells #[.string a, .bool t, .int .i64 n, .string s] 33)) i a s t n w4.heap.size _ (below_then (below_then hb2 hb24) (below_alloc _ _)) (own_keep (by have := HO.out; rw [HN.out] at this; exact this) (below_alloc _ _)) HIL.out (heap_new w4 _) HNE.out HBD.out).mono ?_
    rintro e w5 ⟨v5, rfl, hown5, hb5⟩
    go_wp2_with fail
    go_ret
    exact ⟨_, rfl, by rw [HF.out]; exact own_base hown5 hb0.size, below_then hb0 hb5⟩
  · go_enter Tryz.func18, Tryz.ntmps18
    go_wp2_with (go_at_call 44; refine hcl.mono ?_; rintro e w2 ⟨vo, rfl, hown, hb2⟩; refine Hid.out ?_)
    refine Lib.hid ?_
    replace z0 := keep_cell hb2 z0
    replace z1 := keep_cell hb2 z1
    replace z2 := keep_cell hb2 z2
    replace z3 := keep_cell hb2 z3
    have HR2 := Lib.hid (HR.out.keep hb2)
    go_wp2_with fail
    refine (hat _ HR2.out).mono ?_
    rintro e w3 ⟨rfl, hb3⟩
    replace z0 := keep_cell hb3 z0
    replace z1 := keep_cell hb3 z1
    replace z2 := keep_cell hb3 z2
    replace z3 := keep_cell hb3 z3
    have HR3 := Lib.hid (HR2.out.keep hb3)
    go_wp2_with fail
    refine (hix _ HR3.out z0).mono ?_
    rintro e w4 ⟨rfl, hb4⟩
    replace z0 := keep_cell hb4 z0
    replace z1 := keep_cell hb4 z1
    replace z2 := keep_cell hb4 z2
    replace z3 := keep_cell hb4 z3
    have hb24 := below_then hb3 hb4
    have HO := Lib.hid (own_keep hown hb24)
    have hne : vo.ownBlock ≠ some w4.heap.size := fun e => by
      have h1 := (hown.lt _ e).2
      have h2 := hb24.size
      omega
    have HNE := Lib.hid hne
    obtain ⟨go, gn, gc, rfl⟩ : ∃ o c d, vo = .slice o c d := by
      rcases hown.2 with ⟨h, _⟩ | ⟨g, cap, cur, h, _⟩
      · exact ⟨_, _, _, h⟩
      · exact ⟨_, _, _, h⟩
    clear hown hne HR HR2 HR3 hat hix hcl
    go_wp2_with fail
    refine (Insert_any _ l (w.alloc (.cells #[.string a, .bool t, .int .i64 n, .string s] 33)) i a s t n w4.heap.size _ (below_then (below_then hb2 hb24) (below_alloc _ _)) (own_keep (by have := HO.out; rw [HN.out] at this; exact this) (below_alloc _ _)) HIL.out (heap_new w4 _) HNE.out HBD.out).mono ?_
    rintro e w5 ⟨v5, rfl, hown5, hb5⟩
    go_wp2_with fail
    go_ret
    exact ⟨_, rfl, by rw [HF.out]; exact own_base hown5 hb0.size, below_then hb0 hb5⟩
end Go.Proofs.YtmcnblibnbkfjaaGreatDoor.W12
