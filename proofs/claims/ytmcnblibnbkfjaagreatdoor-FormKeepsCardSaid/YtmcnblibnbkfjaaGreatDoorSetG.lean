/-
  Walks of layer 12: Set and Drop, of the program and of the reference. Conditions: the list's cells hold the fields; it is within Go's own limit.
-/
import Derived.Test.YtmcnblibnbkfjaaGreatDoorSetE
namespace Go.Proofs.YtmcnblibnbkfjaaGreatDoor.W12
open Go Go.RowKit P12


set_option maxHeartbeats 3200000 in
set_option maxRecDepth 100000 in
theorem Drop_any (v : Value) (l : List Fld) (k : ByteArray) (w : World) (hr : RowsC v l w) (hm : (l.length + 1) * 48 ≤ 140737488355328) :
    Calls Tryz.prog 19 #[v, .string k] w fun e w' => ∃ v', e = .returned v' ∧ w'.ownsRow w.heap.size 33 4 v' (dropL k.data.toList l).length (cellsF (dropL k.data.toList l)) ∧ Below w.heap.size w w' := by
  have hat := fun W h => at_any v l k W (by omega) h
  have hcl := Clone_any v l w hr (by omega)
  have HR := Lib.hid hr.rows
  obtain ⟨N, hN⟩ : ∃ N, N = l.length := ⟨_, rfl⟩
  obtain ⟨ov, cv, rfl⟩ : ∃ o c, v = .slice o N c := by
    obtain ⟨o, c, h, -⟩ := hr.rows
    exact ⟨o, c, by rw [h, hN]⟩
  rw [← hN] at hm hcl
  have HN := Lib.hid hN
  have hNm : (N : Int) + 1 ≤ 9223372036854775807 := by omega
  by_cases hh : has l k.data.toList = true
  · obtain ⟨j, hj, hjl, -, -⟩ := find_place hh
    rw [hj] at hat
    rw [drop_hit hh hj]
    rw [← hN] at hjl
    have hj0 : (0 : Int) ≤ (j : Int) := by omega
    have hj1 : (j : Int) < (N : Int) := by omega
    clear hh hj hr hN
    go_enter Tryz.func19, Tryz.ntmps19
    go_wp2_with (go_at_call 44; refine hcl.mono ?_; rintro e w2 ⟨vo, rfl, hown, hb2⟩; refine Hid.out ?_)
    refine Lib.hid ?_
    go_wp2_with fail
    refine (hat _ (HR.out.keep hb2)).mono ?_
    rintro e w3 ⟨rfl, hb3⟩
    have hown3 := own_keep hown hb3
    obtain ⟨g, cap, rfl, hgB, hgl, hnc, hcm⟩ := own_open hown (by omega)
    have HO := Lib.hid hown3
    have hB := below_then hb2 hb3
    clear hown hown3 hat hcl
    go_wp2_with fail
    refine (Delete_any g cap l w j N w3 HN.out.symm hB HO.out hjl).mono ?_
    rintro e w4 ⟨v4, rfl, hown4, hb4⟩
    go_wp2_with fail
    go_ret
    exact ⟨_, rfl, hown4, hb4⟩
  · have hh' : has l k.data.toList = false := by simpa using hh
    rw [findI_none.2 hh'] at hat
    rw [drop_miss hh', ← hN]
    clear hh hh' hr hN
    go_enter Tryz.func19, Tryz.ntmps19
    go_wp2_with (go_at_call 44; refine hcl.mono ?_; rintro e w2 ⟨vo, rfl, hown, hb2⟩; refine Hid.out ?_)
    refine Lib.hid ?_
    go_wp2_with fail
    refine (hat _ (HR.out.keep hb2)).mono ?_
    rintro e w3 ⟨rfl, hb3⟩
    have HO := Lib.hid (own_keep hown hb3)
    have hB := below_then hb2 hb3
    clear hown hat hcl
    go_wp2_with fail
    go_ret
    exact ⟨_, rfl, HO.out, hB⟩

set_option maxHeartbeats 3200000 in
set_option maxRecDepth 100000 in
theorem refDrop_any (v : Value) (l : List Fld) (k : ByteArray) (w : World) (hr : RowsC v l w) (hm : (l.length + 1) * 48 ≤ 140737488355328) :
    Calls Tryz.prog 21 #[v, .string k] w fun e w' => ∃ v', e = .returned v' ∧ w'.ownsRow w.heap.size 33 4 v' (dropL k.data.toList l).length (cellsF (dropL k.data.toList l)) ∧ Below w.heap.size w w' := by
  have hat := fun W h => find_any v l k W (by omega) h
  have HR := Lib.hid hr.rows
  by_cases hh : has l k.data.toList = true
  · obtain ⟨j, hj, hjl, -, -⟩ := find_place hh
    rw [hj] at hat
    rw [drop_hit hh hj]
    rcases hr with ⟨rfl, rfl⟩ | ⟨g, off, c, rfl, hlc, hcl⟩
    · simp at hjl
    obtain ⟨N, hN⟩ : ∃ N, N = l.length := ⟨_, rfl⟩
    rw [← hN] at hjl hm hlc hat ⊢
    have HN := Lib.hid hN
    have HCL := Lib.hid hcl
    have hj0 : (0 : Int) ≤ (j : Int) := by omega
    have hj1 : (j : Int) + 1 ≤ (N : Int) := by omega
    have hjc : (j : Int) ≤ (c : Int) := by omega
    have hNc : (N : Int) ≤ (c : Int) := by omega
    have hNm : (N : Int) + 1 ≤ 9223372036854775807 := by omega
    have i6 : (0 : Int) ≤ (j : Int) + 1 := by omega
    have i7 : ((j : Int) + 1).toNat = j + 1 := by omega
    have i8 : IntKind.i64.wrap ((j : Int) + 1) = (j : Int) + 1 := by rw [IntKind.wrap_i64]; omega
    have hbd1 : (([] : List Fld).length + (l.take j).length) * 48 ≤ 140737488355328 := by rw [List.length_nil, List.length_take]; omega
    have hbd2 : ((l.take j).length + (l.drop (j + 1)).length) * 48 ≤ 140737488355328 := by rw [List.length_take, List.length_drop]; omega
    have HB1 := Lib.hid hbd1
    have HB2 := Lib.hid hbd2
    obtain ⟨M, hM⟩ : ∃ M, M = l.take j ++ l.drop (j + 1) := ⟨_, rfl⟩
    rw [← hM]
    have HM := Lib.hid hM
    clear hh hj hcl hN hbd1 hbd2 hm hNm hM
    go_enter Tryz.func21, Tryz.ntmps21
    go_wp2_with fail
    refine (hat _ (by have := HR.out; rw [← HN.out] at this; exact this)).mono ?_
    rintro e w2 ⟨rfl, hb2⟩
    have HCL2 : Hid (∀ (j : Nat) (f : Fld), l[j]? = some f → w2.cell? ⟨g, off + j * 4, none⟩ = some (bs f.name) ∧ w2.cell? ⟨g, off + j * 4 + 1, none⟩ = some (.bool f.text) ∧ w2.cell? ⟨g, off + j * 4 + 2, none⟩ = some (.int .i64 f.n) ∧ w2.cell? ⟨g, off + j * 4 + 3, none⟩ = some (bs f.s)) := Lib.hid fun j f hj => by
      obtain ⟨a, b, c, d⟩ := HCL.out j f hj
      exact ⟨keep_cell hb2 a, keep_cell hb2 b, keep_cell hb2 c, keep_cell hb2 d⟩
    have hr1 := Lib.hid (rows_take (c := c) (w := w2) (k := j) (by rw [← HN.out]; omega) HCL2.out)
    have hr2 := Lib.hid (rows_dropAny (c := c) (n := N - (j + 1)) (w := w2) (k := j + 1) (by rw [← HN.out]) (by rw [← HN.out]; omega) (by rw [← HN.out]; omega) HCL2.out)
    clear hat HCL HCL2 HR
    go_wp2_with fail
    go_region_held3 (fun w' => Below w2.heap.size w2 w')
      ((first | assumption | (go_split_ands; assumption) | (go_split_ands; refine below_then ?_ (below_alloc _ _); assumption) | exact below_then (below_alloc w2 _) (below_drewN _ 1) | exact below_drewN w2 1 | exact below_then (below_drewN w2 _) (below_drewN _ 1)))
      (first
        | (refine step_app (by rfl) (.tmp 14) (.tmp 17) (by rfl) w2 (by go_split_ands; assumption) _ [] (l.take j) (by rfl) _ (Below.refl _ _) (own_made _ _ _ (by simp) (by simp)) _ (by rfl) w2 (by go_split_ands; assumption) hr1.out HB1.out ?_; intro v5 w5 hown5 hb5 hgr5)
        | (refine step_app (by rfl) (.tmp 18) (.tmp 22) (by rfl) w2 (by go_split_ands; assumption) v5 _ (l.drop (j + 1)) (by rfl) w5 (Below.refl _ _) hown5 _ (by rfl) w2 (by go_split_ands; assumption) (hr2.out _ _ (by intro h; simp [h])) (by have := HB2.out; rw [List.nil_append]; exact this) ?_; intro v7 w7 hown7 hb7 hgr7))
    all_goals
      go_wp2_with fail
    all_goals
      go_ret
      exact ⟨_, rfl, by rw [List.nil_append, ← HM.out] at hown7; exact own_base hown7 hb2.size, below_then hb2 hb7⟩
  · have hh' : has l k.data.toList = false := by simpa using hh
    rw [findI_none.2 hh'] at hat
    rw [drop_miss hh']
    obtain ⟨N, hN⟩ : ∃ N, N = l.length := ⟨_, rfl⟩
    obtain ⟨ov, cv, rfl⟩ : ∃ o c, v = .slice o N c := by
      obtain ⟨o, c, h, -⟩ := hr.rows
      exact ⟨o, c, by rw [h, hN]⟩
    have HM := Lib.hid (show (([] : List Fld).length + l.length) * 48 ≤ 140737488355328 by rw [List.length_nil]; omega)
    clear hh hh' hr hN
    go_enter Tryz.func21, Tryz.ntmps21
    go_wp2_with fail
    refine (hat _ HR.out).mono ?_
    rintro e w2 ⟨rfl, hb2⟩
    have HR2 := Lib.hid (HR.out.keep hb2)
    go_wp2_with (at_builtin; refine wpList_app rfl _ _ rfl w2 (below_alloc _ _) _ [] l rfl _ (Below.refl _ _) (own_made _ _ _ rfl (Nat.le_refl _)) _ rfl w2 (below_alloc _ _) HR2.out HM.out ?_; intro v3 w3 hown3 hb3 hgr3)
    go_wp2_with fail
    go_ret
    exact ⟨_, rfl, own_base hown3 hb2.size, below_then hb2 hb3⟩
end Go.Proofs.YtmcnblibnbkfjaaGreatDoor.W12
