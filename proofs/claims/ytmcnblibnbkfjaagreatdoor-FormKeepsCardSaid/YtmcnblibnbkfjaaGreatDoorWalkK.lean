/-
  Walks of layer 12: what is wrong with a field. Conditions: none.
-/
import Derived.Test.YtmcnblibnbkfjaaGreatDoorWalkB
import Derived.Test.YtmcnblibnbkfjaaGreatDoorWalkC
namespace Go.Proofs.YtmcnblibnbkfjaaGreatDoor.W12
open Go Go.RowKit P12

set_option maxHeartbeats 1600000 in
set_option maxRecDepth 100000 in
theorem may_any (nm s : ByteArray) (t : Bool) (n : Int) (w : World) :
    Calls Tryz.prog 49 #[.agg #[.string nm, .bool t, .int .i64 n, .string s]] w fun e w' => e = .returned (.int .i64 (fieldL ⟨nm.data.toList, t, n, s.data.toList⟩)) ∧ Below w.heap.size w w' := by
  have hname := fun W => Name_any nm W
  obtain ⟨R, hR⟩ : ∃ R, R = fieldL ⟨nm.data.toList, t, n, s.data.toList⟩ := ⟨_, rfl⟩
  rw [← hR]
  have hb0 := below_alloc w (.cells #[.string nm, .bool t, .int .i64 n, .string s] 33)
  have hh := heap_new w (.cells #[.string nm, .bool t, .int .i64 n, .string s] 33)
  have z0 := Lib.cell_of_heap hh 0
  have z1 := Lib.cell_of_heap hh 1
  have z2 := Lib.cell_of_heap hh 2
  have z3 := Lib.cell_of_heap hh 3
  clear hh
  cases hn : nameL nm.data.toList with
  | false =>
    have hv : R = 121 := by rw [hR]; unfold fieldL; rw [if_pos hn]
    rw [hn] at hname
    subst hv
    clear hR hn
    go_enter Tryz.func49, Tryz.ntmps49
    go_wp2_with (go_at_call 14; refine (hname _).mono ?_; rintro e w1 ⟨rfl, hb1⟩; replace z0 := keep_cell hb1 z0; replace z1 := keep_cell hb1 z1; replace z2 := keep_cell hb1 z2; replace z3 := keep_cell hb1 z3)
    go_ret
    exact ⟨rfl, below_then hb0 hb1⟩
  | true =>
    rw [hn] at hname
    have hR2 : R = if (t = true ∧ (n ≠ 0 ∨ 200 < s.size)) ∨ (t = false ∧ s.size ≠ 0) then 122 else 0 := by
      rw [hR]
      unfold fieldL
      rw [if_neg (by simp [hn])]
      simp only [size_data]
      have : s.data.toList ≠ [] ↔ s.size ≠ 0 := by
        constructor
        · intro h e; exact h (empty_list s e)
        · intro h e; apply h; rw [← size_data, e]; rfl
      simp only [this]
    clear hR hn
    cases t with
    | true =>
      by_cases hn0 : n = 0
      · have hq : (n != 0) = false := by rw [bne_eq_false_iff_eq]; exact hn0
        by_cases h200 : 200 < s.size
        · have hv : R = 122 := by rw [hR2, if_pos (.inl ⟨rfl, .inr h200⟩)]
          subst hv
          clear hR2 hn0
          go_enter Tryz.func49, Tryz.ntmps49
          go_wp2_with (go_at_call 14; refine (hname _).mono ?_; rintro e w1 ⟨rfl, hb1⟩; replace z0 := keep_cell hb1 z0; replace z1 := keep_cell hb1 z1; replace z2 := keep_cell hb1 z2; replace z3 := keep_cell hb1 z3)
          go_ret
          exact ⟨rfl, below_then hb0 hb1⟩
        · have hv : R = 0 := by rw [hR2, if_neg (by simp [hn0, h200])]
          subst hv
          clear hR2 hn0
          go_enter Tryz.func49, Tryz.ntmps49
          go_wp2_with (go_at_call 14; refine (hname _).mono ?_; rintro e w1 ⟨rfl, hb1⟩; replace z0 := keep_cell hb1 z0; replace z1 := keep_cell hb1 z1; replace z2 := keep_cell hb1 z2; replace z3 := keep_cell hb1 z3)
          go_ret
          exact ⟨rfl, below_then hb0 hb1⟩
      · have hq : (n != 0) = true := by rw [bne_iff_ne]; exact hn0
        have hv : R = 122 := by rw [hR2, if_pos (.inl ⟨rfl, .inl hn0⟩)]
        subst hv
        clear hR2 hn0
        go_enter Tryz.func49, Tryz.ntmps49
        go_wp2_with (go_at_call 14; refine (hname _).mono ?_; rintro e w1 ⟨rfl, hb1⟩; replace z0 := keep_cell hb1 z0; replace z1 := keep_cell hb1 z1; replace z2 := keep_cell hb1 z2; replace z3 := keep_cell hb1 z3)
        go_ret
        exact ⟨rfl, below_then hb0 hb1⟩
    | false =>
      by_cases h0 : s.size = 0
      · have hE := toList_nil s h0
        have hv : R = 0 := by rw [hR2, if_neg (by simp [h0])]
        subst hv
        clear hR2 h0
        go_enter Tryz.func49, Tryz.ntmps49
        go_wp2_with (go_at_call 14; refine (hname _).mono ?_; rintro e w1 ⟨rfl, hb1⟩; replace z0 := keep_cell hb1 z0; replace z1 := keep_cell hb1 z1; replace z2 := keep_cell hb1 z2; replace z3 := keep_cell hb1 z3)
        go_ret
        exact ⟨rfl, below_then hb0 hb1⟩
      · have hE := toList_cons s (by omega)
        have hv : R = 122 := by rw [hR2, if_pos (.inr ⟨rfl, h0⟩)]
        subst hv
        clear hR2 h0
        go_enter Tryz.func49, Tryz.ntmps49
        go_wp2_with (go_at_call 14; refine (hname _).mono ?_; rintro e w1 ⟨rfl, hb1⟩; replace z0 := keep_cell hb1 z0; replace z1 := keep_cell hb1 z1; replace z2 := keep_cell hb1 z2; replace z3 := keep_cell hb1 z3)
        go_ret
        exact ⟨rfl, below_then hb0 hb1⟩
end Go.Proofs.YtmcnblibnbkfjaaGreatDoor.W12
