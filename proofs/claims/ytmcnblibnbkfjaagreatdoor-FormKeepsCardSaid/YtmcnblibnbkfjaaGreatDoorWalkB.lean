/-
  Walks of layer 12: Name and the reference's Name. Conditions: none.
-/
import Derived.Test.YtmcnblibnbkfjaaGreatDoorWalkA

namespace Go.Proofs.YtmcnblibnbkfjaaGreatDoor.W12
open Go Go.RowKit P12 Dig

theorem empty_list (s : ByteArray) (h : s.size = 0) : s.data.toList = [] := by
  apply List.length_eq_zero_iff.1; rw [size_data]; exact h
theorem toList_nil (s : ByteArray) (h : s.size = 0) : s.toList.isEmpty = true := by rw [Lib.toList_data, empty_list s h]; rfl
theorem toList_cons (s : ByteArray) (h : 0 < s.size) : s.toList.isEmpty = false := by
  rw [Lib.toList_data]
  cases hl : s.data.toList with
  | nil => have := size_data s; rw [hl] at this; simp at this; omega
  | cons _ _ => rfl
theorem nameL_nil : nameL [] = false := rfl
theorem nameL_at (s : ByteArray) (h : 0 < s.size) : nameL s.data.toList = (decide (s.size ≤ 32) && decide (97 ≤ (s[0]'h).toNat ∧ (s[0]'h).toNat ≤ 122) && s.data.toList.all okName) := by
  obtain ⟨l, hl⟩ := first_byte s h
  have hsz := size_data s
  unfold nameL
  rw [hl] at hsz ⊢
  simp only [hsz, low_nat]

set_option maxHeartbeats 1000000 in
theorem Name_any (s : ByteArray) (w : World) :
    Calls Tryz.prog 14 #[.string s] w fun e w' => e = .returned (.bool (nameL s.data.toList)) ∧ Below w.heap.size w w' := by
  by_cases h0 : s.size = 0
  · have hE := toList_nil s h0
    rw [empty_list s h0, nameL_nil]
    clear h0
    go_enter Tryz.func14, Tryz.ntmps14
    go_wp2_with fail
    go_ret
    exact ⟨rfl, Below.refl _ _⟩
  · have hp : 0 < s.size := by omega
    have hE := toList_cons s hp
    rw [nameL_at s hp]
    by_cases h32 : s.size ≤ 32
    · by_cases h97 : 97 ≤ s[0].toNat
      · by_cases h122 : s[0].toNat ≤ 122
        · have hcon := fun W => Tryz.strings_IndexFunc 41 #[] (enters_of Tryz.func41 (by kernel_rfl) rfl) oddR s W (odd_pred W)
          have hiff := idx_all s
          obtain ⟨I, hI⟩ : ∃ I, I = Lib.idxFunc oddR true s := ⟨_, rfl⟩
          obtain ⟨B, hB⟩ : ∃ B, B = s.data.toList.all okName := ⟨_, rfl⟩
          rw [← hI] at hcon hiff
          rw [← hB] at hiff ⊢
          clear hI hB
          cases B with
          | true =>
            have hneg : I < 0 := hiff.2 rfl
            clear hiff h0
            go_enter Tryz.func14, Tryz.ntmps14
            go_wp2_with (go_at_call 42; refine (hcon _).mono ?_; rintro e w' ⟨rfl, hb1⟩)
            go_ret
            exact ⟨ret1 (vbool (by simp <;> omega)), hb1⟩
          | false =>
            have hneg : ¬ I < 0 := fun h => by simpa using hiff.1 h
            clear hiff h0
            go_enter Tryz.func14, Tryz.ntmps14
            go_wp2_with (go_at_call 42; refine (hcon _).mono ?_; rintro e w' ⟨rfl, hb1⟩)
            go_ret
            exact ⟨ret1 (vbool (by simp <;> omega)), hb1⟩
        · clear h0
          go_enter Tryz.func14, Tryz.ntmps14
          go_wp2_with fail
          go_ret
          exact ⟨ret1 (vbool (by simp <;> omega)), Below.refl _ _⟩
      · clear h0
        go_enter Tryz.func14, Tryz.ntmps14
        go_wp2_with fail
        go_ret
        exact ⟨ret1 (vbool (by simp <;> omega)), Below.refl _ _⟩
    · clear h0
      go_enter Tryz.func14, Tryz.ntmps14
      go_wp2_with fail
      go_ret
      exact ⟨ret1 (vbool (by simp <;> omega)), Below.refl _ _⟩

theorem take_next (s : ByteArray) (k : Nat) (h : k < s.size) : s.data.toList.take (k + 1) = s.data.toList.take k ++ [s[k]'h] := by
  have hl : k < s.data.toList.length := by rw [size_data]; exact h
  rw [List.take_add_one, List.getElem?_eq_getElem hl]
  rfl
theorem take_all (s : ByteArray) : s.data.toList.take s.size = s.data.toList := List.take_of_length_le (by rw [size_data]; exact Nat.le_refl _)
theorem all_of_take {s : ByteArray} {k : Nat} (h : k < s.size) (hb : okName (s[k]'h) = false) : s.data.toList.all okName = false := by
  rw [Bool.eq_false_iff]
  intro ha
  have := List.all_eq_true.1 ha (s[k]'h) (by
    have hl : k < s.data.toList.length := by rw [size_data]; exact h
    exact List.getElem_mem hl)
  rw [this] at hb
  cases hb

set_option maxRecDepth 100000 in
set_option maxHeartbeats 3200000 in
theorem refName_any (s : ByteArray) (w : World) :
    Calls Tryz.prog 15 #[.string s] w fun e w' => e = .returned (.bool (nameL s.data.toList)) ∧ Below w.heap.size w w' := by
  by_cases h0 : s.size = 0
  · rw [empty_list s h0, nameL_nil]
    go_enter Tryz.func15, Tryz.ntmps15
    go_wp2_with fail
    go_ret
    exact ⟨rfl, Below.refl _ _⟩
  · have hp : 0 < s.size := by omega
    rw [nameL_at s hp]
    by_cases h32 : s.size ≤ 32
    · by_cases h97 : 97 ≤ s[0].toNat
      · by_cases h122 : s[0].toNat ≤ 122
        · have hv : (decide (s.size ≤ 32) && decide (97 ≤ (s[0]'hp).toNat ∧ (s[0]'hp).toNat ≤ 122) && s.data.toList.all okName) = s.data.toList.all okName := by simp [h32, h97, h122]
          rw [hv]
          obtain ⟨B, hBv⟩ : ∃ B, B = s.data.toList.all okName := ⟨_, rfl⟩
          rw [← hBv]
          have HBV := Lib.hid hBv
          clear hv hBv
          go_enter Tryz.func15, Tryz.ntmps15
          go_wp2_with fail
          go_loopw [3] (fun i wr => ∃ k : Nat, k ≤ s.size ∧ i = .int .i64 k ∧ (s.data.toList.take k).all okName = true ∧ Below w.heap.size w wr) (fun i _ => s.size - (intOf i).toNat)
          case atStart => exact ⟨0, by omega, rfl, by simp, Below.refl _ _⟩
          case round =>
            obtain ⟨k, hk, rfl, hall, hB⟩ := hrel
            by_cases hlt : k < s.size
            · have hn := okName_nat (s[k]'hlt)
              have hc := (s[k]'hlt).toNat_lt
              have hlt' : (k : Int) < (s.size : Int) := by omega
              by_cases ho : okName (s[k]'hlt) = true
              · have hnext : (s.data.toList.take (k + 1)).all okName = true := by rw [take_next s k hlt, List.all_append, hall]; simp [ho]
                rw [ho] at hn
                replace hn := hn.symm
                simp only [okN, Bool.or_eq_true, decide_eq_true_eq] at hn
                have HN := Lib.hid hnext
                clear hnext hall ho
                by_cases h95 : (s[k]'hlt).toNat = 95
                · have hb : (((s[k]'hlt).toNat : Int) != 95) = false := by rw [bne_eq_false_iff_eq]; omega
                  clear hn
                  go_wp2_with fail
                  go_roundw
                  case rel => exact ⟨k + 1, by omega, by go_num, HN.out, hB⟩
                  case measure => simp [intOf]; omega
                · have hr : (97 ≤ (s[k]'hlt).toNat ∧ (s[k]'hlt).toNat ≤ 122) ∨ (48 ≤ (s[k]'hlt).toNat ∧ (s[k]'hlt).toNat ≤ 57) := by omega
                  have hb : (((s[k]'hlt).toNat : Int) != 95) = true := by rw [bne_iff_ne]; omega
                  clear hn h95
                  rcases hr with hr | hr
                  all_goals
                    go_wp2_with fail
                    go_roundw
                    case rel => exact ⟨k + 1, by omega, by go_num, HN.out, hB⟩
                    case measure => simp [intOf]; omega
              · have ho' : okName (s[k]'hlt) = false := by simpa using ho
                have hbad := all_of_take hlt ho'
                rw [ho'] at hn
                replace hn := hn.symm
                simp only [okN, Bool.or_eq_false_iff, decide_eq_false_iff_not] at hn
                have HB := Lib.hid hbad
                have h95 : (((s[k]'hlt).toNat : Int) != 95) = true := by rw [bne_iff_ne]; omega
                have hr : (s[k]'hlt).toNat < 48 ∨ (57 < (s[k]'hlt).toNat ∧ (s[k]'hlt).toNat < 97) ∨ 122 < (s[k]'hlt).toNat := by omega
                clear hbad hall ho ho' hn
                rcases hr with hr | hr | hr
                all_goals
                  go_wp2_with fail
                  go_ret
                  exact ⟨by rw [HBV.out, HB.out]; rfl, hB⟩
            · obtain rfl : k = s.size := by omega
              rw [take_all] at hall
              have HA := Lib.hid hall
              clear hall
              go_wp2_with fail
              go_ret
              exact ⟨by rw [HBV.out, HA.out]; rfl, hB⟩
        · clear h0
          go_enter Tryz.func15, Tryz.ntmps15
          go_wp2_with fail
          go_ret
          exact ⟨ret1 (vbool (by simp <;> omega)), Below.refl _ _⟩
      · clear h0
        go_enter Tryz.func15, Tryz.ntmps15
        go_wp2_with fail
        go_ret
        exact ⟨ret1 (vbool (by simp <;> omega)), Below.refl _ _⟩
    · clear h0
      go_enter Tryz.func15, Tryz.ntmps15
      go_wp2_with fail
      go_ret
      exact ⟨ret1 (vbool (by simp <;> omega)), Below.refl _ _⟩
end Go.Proofs.YtmcnblibnbkfjaaGreatDoor.W12
