/-
  Walks of layer 12: Set and Drop, of the program and of the reference. Conditions: the list's cells hold the fields; it is within Go's own limit.
-/
import Derived.Test.YtmcnblibnbkfjaaGreatDoorSetE
namespace Go.Proofs.YtmcnblibnbkfjaaGreatDoor.W12
open Go Go.RowKit P12


set_option maxHeartbeats 3200000 in
set_option maxRecDepth 100000 in
theorem refSet_hit (v : Value) (l : List Fld) (a s : ByteArray) (t : Bool) (n : Int) (w : World) (hr : RowsC v l w) (hm : (l.length + 1) * 48 ≤ 140737488355328) (hh : has l a.data.toList = true) :
    Calls Tryz.prog 20 #[v, .agg #[.string a, .bool t, .int .i64 n, .string s]] w fun e w' => ∃ v', e = .returned v' ∧ w'.ownsRow w.heap.size 33 4 v' (setL ⟨a.data.toList, t, n, s.data.toList⟩ l).length (cellsF (setL ⟨a.data.toList, t, n, s.data.toList⟩ l)) ∧ Below w.heap.size w w' := by
  have hb0 := below_alloc w (.cells #[.string a, .bool t, .int .i64 n, .string s] 33)
  have hz := heap_new w (.cells #[.string a, .bool t, .int .i64 n, .string s] 33)
  have z0 := Lib.cell_of_heap hz 0
  have z1 := Lib.cell_of_heap hz 1
  have z2 := Lib.cell_of_heap hz 2
  have z3 := Lib.cell_of_heap hz 3
  have hr1 := hr.keep hb0
  have hat := fun W h => find_any v l a W (by omega) h
  obtain ⟨F, hF⟩ : ∃ F : Fld, F = ⟨a.data.toList, t, n, s.data.toList⟩ := ⟨_, rfl⟩
  have hFn : F.name = a.data.toList := by rw [hF]
  obtain ⟨j, hj, hjl, hgj, -⟩ := find_place hh
  rw [hj] at hat
  rw [← hF, set_hit (f := F) (by rw [hFn]; exact hh) (by rw [hFn]; exact hj), List.length_set]
  have HF := Lib.hid hF
  obtain ⟨R, hR⟩ : ∃ R, R = getF a.data.toList l := ⟨_, rfl⟩
  rw [← hR] at hgj
  obtain ⟨ra, hra⟩ : ∃ b : ByteArray, bs R.name = .string b := ⟨_, rfl⟩
  obtain ⟨rs, hrs⟩ : ∃ b : ByteArray, bs R.s = .string b := ⟨_, rfl⟩
  obtain ⟨N, hN⟩ : ∃ N, N = l.length := ⟨_, rfl⟩
  rw [← hN] at hjl hm ⊢
  have HN := Lib.hid hN
  have HR := Lib.hid hr1.rows
  obtain ⟨ov, cv, rfl⟩ : ∃ o c, v = .slice o N c := by
    obtain ⟨o, c, h, -⟩ := hr1.rows
    exact ⟨o, c, by rw [h, hN]⟩
  have HM := Lib.hid (show (([] : List Fld).length + l.length) * 48 ≤ 140737488355328 by rw [List.length_nil, ← hN]; omega)
  clear hz hh hF hFn hj hr hr1 hR hN
  go_enter Tryz.func20, Tryz.ntmps20
  go_wp2_with fail
  refine (hat _ HR.out).mono ?_
  rintro e w2 ⟨rfl, hb2⟩
  have HR2 := Lib.hid (HR.out.keep hb2)
  replace z0 := keep_cell hb2 z0
  replace z1 := keep_cell hb2 z1
  replace z2 := keep_cell hb2 z2
  replace z3 := keep_cell hb2 z3
  go_wp2_with (at_builtin; refine wpList_app rfl _ _ rfl w2 (below_alloc _ _) _ [] l rfl _ (Below.refl _ _) (own_made _ _ _ rfl (Nat.le_refl _)) _ rfl w2 (below_alloc _ _) HR2.out HM.out ?_; intro vo w3 hown hb3 hgr1; refine Hid.out ?_)
  refine Lib.hid ?_
  replace z0 := keep_cell hb3 z0
  replace z1 := keep_cell hb3 z1
  replace z2 := keep_cell hb3 z2
  replace z3 := keep_cell hb3 z3
  have hown3 := hown
  rw [List.nil_append, ← HN.out] at hown hown3
  have hB : Below w.heap.size w w3 := below_then hb0 (below_then hb2 hb3)
  have hbx := hb2
  clear hgr1
  obtain ⟨g, cap, rfl, hgB, hgl, hnc, hcm⟩ := own_open hown (by omega)
  obtain ⟨c0, c1, c2, c3⟩ := own_at hown3 hgj
  rw [hra] at c0
  rw [hrs] at c3
  have g0 := own_frozen hown3 (j * 4)
  have g1 := own_frozen hown3 (j * 4 + 1)
  have g2 := own_frozen hown3 (j * 4 + 2)
  have g3 := own_frozen hown3 (j * 4 + 3)
  have ho := own_setF HN.out.symm hown3 j hjl a s t n
  rw [← HF.out] at ho
  have HO := Lib.hid ho
  have hgB' : w.heap.size ≤ g := by have := hb0.size; have := hbx.size; omega
  have hp0 : (0 : Int) ≤ (j : Int) := by omega
  have hp1 : (j : Int) < (N : Int) := by omega
  have hNm : (N : Int) ≤ 9223372036854775807 := by omega
  clear hown hown3 hgj ho hra hrs
  go_wp2_with fail
  go_ret
  exact ⟨_, rfl, own_base HO.out (by first | omega | (have := hbx.size; have := hb0.size; omega)), below_set4 hB hgB' _ _ _ _⟩

theorem Set_any (v : Value) (l : List Fld) (a s : ByteArray) (t : Bool) (n : Int) (w : World) (hr : RowsC v l w) (hm : (l.length + 1) * 48 ≤ 140737488355328) :
    Calls Tryz.prog 18 #[v, .agg #[.string a, .bool t, .int .i64 n, .string s]] w fun e w' => ∃ v', e = .returned v' ∧ w'.ownsRow w.heap.size 33 4 v' (setL ⟨a.data.toList, t, n, s.data.toList⟩ l).length (cellsF (setL ⟨a.data.toList, t, n, s.data.toList⟩ l)) ∧ Below w.heap.size w w' := by
  by_cases hh : has l a.data.toList = true
  · exact Set_hit v l a s t n w hr hm hh
  · exact Set_miss v l a s t n w hr hm (by simpa using hh)
theorem refSet_any (v : Value) (l : List Fld) (a s : ByteArray) (t : Bool) (n : Int) (w : World) (hr : RowsC v l w) (hm : (l.length + 1) * 48 ≤ 140737488355328) :
    Calls Tryz.prog 20 #[v, .agg #[.string a, .bool t, .int .i64 n, .string s]] w fun e w' => ∃ v', e = .returned v' ∧ w'.ownsRow w.heap.size 33 4 v' (setL ⟨a.data.toList, t, n, s.data.toList⟩ l).length (cellsF (setL ⟨a.data.toList, t, n, s.data.toList⟩ l)) ∧ Below w.heap.size w w' := by
  by_cases hh : has l a.data.toList = true
  · exact refSet_hit v l a s t n w hr hm hh
  · have hh' : has l a.data.toList = false := by simpa using hh
    rw [set_miss (f := ⟨a.data.toList, t, n, s.data.toList⟩) hh']
    exact refSet_ins v l a s t n w hr hm hh'
end Go.Proofs.YtmcnblibnbkfjaaGreatDoor.W12
