/-
  Walks of layer 12: the law FormEscapes. Conditions: the library's error values and its table; what is escaped fits.
-/
import Derived.Test.YtmcnblibnbkfjaaDoorWalkN
namespace Go.Proofs.YtmcnblibnbkfjaaDoor.W12
open Go Go.RowKit P12

theorem fine_nat (c : UInt8) (h : fine c = true) : 32 < c.toNat ∧ c.toNat ≤ 126 ∧ c.toNat ≠ 38 ∧ c.toNat ≠ 61 ∧ c.toNat ≠ 47 ∧ c.toNat ≠ 124 := by
  have h' : ((List.range 256).all fun n => decide (fine n.toUInt8 = true → 32 < n ∧ n ≤ 126 ∧ n ≠ 38 ∧ n ≠ 61 ∧ n ≠ 47 ∧ n ≠ 124)) = true := by decide +kernel
  have := List.all_eq_true.1 h' c.toNat (List.mem_range.2 c.toNat_lt)
  simp only [decide_eq_true_eq] at this
  exact this (by simpa using h)

set_option maxRecDepth 100000 in
set_option maxHeartbeats 3200000 in
theorem escapes_law (s t : ByteArray) (w : World) (hE : Env w) (hs : 3 * s.size ≤ 140737488355328) (ht : 3 * t.size ≤ 140737488355328) :
    Calls Tryd.prog 6 #[.string s, .string t] w fun e w' => e = .returned (.bool true) ∧ Below w.heap.size w w' := by
  obtain ⟨a, ha⟩ : ∃ a : ByteArray, a = ⟨(escL s.data.toList).toArray⟩ := ⟨_, rfl⟩
  obtain ⟨b, hb⟩ : ∃ b : ByteArray, b = ⟨(escL t.data.toList).toArray⟩ := ⟨_, rfl⟩
  have had : a.data.toList = escL s.data.toList := by rw [ha]
  have hbd : b.data.toList = escL t.data.toList := by rw [hb]
  have has : a.size ≤ 140737488355328 := by rw [← size_data, had]; have := escL_len s.data.toList; rw [size_data] at this; omega
  have hesc1 := fun W => Escape_any s W hs
  have hesc2 := fun W => Escape_any t W ht
  unfold bs at hesc1 hesc2
  rw [← ha] at hesc1
  rw [← hb] at hesc2
  have hun := fun W hW => Unescape_any a W hW has
  rw [had, unesc_of_esc] at hun
  simp only [unescEnd, bs_data] at hun
  have hfine : ∀ (k : Nat) (h : k < a.size), fine (a[k]'h) = true := by
    intro k h
    refine escL_fine s.data.toList _ ?_
    rw [← had]
    have hl : k < a.data.toList.length := by rw [size_data]; exact h
    exact List.getElem_mem hl
  have hss : (s.toList == s.toList) = true := by simp
  have heq : ((a.toList == b.toList) == (s.toList == t.toList)) = true := by
    rw [beq_iff_eq, Bool.eq_iff_iff, beq_iff_eq, beq_iff_eq, Lib.toList_data, Lib.toList_data, Lib.toList_data, Lib.toList_data, had, hbd]
    exact ⟨esc_inj, fun h => by rw [h]⟩
  have hcases : ((a.toList == b.toList) = true ∧ (s.toList == t.toList) = true) ∨ ((a.toList == b.toList) = false ∧ (s.toList == t.toList) = false) := by
    have := beq_iff_eq.1 heq
    cases h : (a.toList == b.toList) with
    | true => rw [h] at this; exact .inl ⟨rfl, this.symm⟩
    | false => rw [h] at this; exact .inr ⟨rfl, this.symm⟩
  have HF := Lib.hid hfine
  clear ha hb had hbd hfine heq
  go_enter Tryd.func6, Tryd.ntmps6
  go_wp2_with fail
  refine (awake_any _ hE).mono ?_
  rintro e w1 ⟨rfl, hb1⟩
  go_wp2_with fail
  refine (hesc1 _).mono ?_
  rintro e w2 ⟨rfl, hb2⟩
  go_wp2_with fail
  refine (hesc2 _).mono ?_
  rintro e w3 ⟨rfl, hb3⟩
  have hE3 := hE.keep (below_then (below_then hb1 hb2) hb3)
  go_wp2_with fail
  refine (hun _ hE3).mono ?_
  rintro e w4 ⟨rfl, hb4⟩
  have hB := below_then (below_then (below_then hb1 hb2) hb3) hb4
  go_wp2_with fail
  go_loopw [10] (fun i wr => ∃ k : Nat, k ≤ a.size ∧ i = .int .i64 k ∧ wr = w4) (fun i _ => a.size - (intOf i).toNat)
  case atStart => exact ⟨0, by omega, rfl, rfl⟩
  case round =>
    obtain ⟨k, hk, rfl, rfl⟩ := hrel
    by_cases hlt : k < a.size
    · obtain ⟨f1, f2, f3, f4, f5, f6⟩ := fine_nat _ (HF.out k hlt)
      have hlt' : (k : Int) < (a.size : Int) := by omega
      have q3 : (((a[k]'hlt).toNat : Int) == 38) = false := by rw [beq_eq_false_iff_ne]; omega
      have q4 : (((a[k]'hlt).toNat : Int) == 61) = false := by rw [beq_eq_false_iff_ne]; omega
      have q5 : (((a[k]'hlt).toNat : Int) == 47) = false := by rw [beq_eq_false_iff_ne]; omega
      have q6 : (((a[k]'hlt).toNat : Int) == 124) = false := by rw [beq_eq_false_iff_ne]; omega
      clear f3 f4 f5 f6
      go_wp2_with fail
      go_roundw
      case rel => exact ⟨k + 1, by omega, by go_num, trivial⟩
      case measure => simp [intOf]; omega
    · obtain rfl : k = a.size := by omega
      rcases hcases with ⟨h1, h2⟩ | ⟨h1, h2⟩
      all_goals
        go_wp2_with fail
        go_ret
        exact ⟨rfl, hB⟩
end Go.Proofs.YtmcnblibnbkfjaaDoor.W12
