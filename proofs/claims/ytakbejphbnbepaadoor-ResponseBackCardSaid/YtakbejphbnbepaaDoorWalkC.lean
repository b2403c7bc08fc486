/-
  Walks of layer 19: the reference's number. Conditions: none but the strings' own bound.
-/
import Derived.Test.YtakbejphbnbepaaDoorWalkB
namespace Go.Proofs.YtakbejphbnbepaaDoor.W19
open Go Go.RowKit P19

theorem byte_at (s : ByteArray) (k : Nat) (h : k < s.size) : s.data.toList[k]'(by simpa using h) = s[k] := rfl
theorem val_snoc (l : By) (c : UInt8) : val (l ++ [c]) = 10 * val l + (c.toNat - 48) := by
  unfold val valFrom
  rw [List.foldl_append]
  rfl
theorem snoc_ind {α : Type} {Q : List α → Prop} (h0 : Q []) (h1 : ∀ l c, Q l → Q (l ++ [c])) (l : List α) : Q l := by
  rw [← List.reverse_reverse l]
  induction l.reverse with
  | nil => exact h0
  | cons c l ih => rw [List.reverse_cons]; exact h1 _ _ ih
theorem val_lt (l : By) : (∀ c ∈ l, isDig c = true) → val l < 10 ^ l.length := by
  refine snoc_ind (Q := fun l : By => (∀ c ∈ l, isDig c = true) → val l < 10 ^ l.length) ?_ ?_ l
  · intro _; decide
  · intro l c ih h
    have hc := isDig_iff.1 (h c (by simp))
    have := ih (fun d hd => h d (by simp [hd]))
    rw [val_snoc, List.length_append, List.length_singleton, Nat.pow_succ]
    omega

/-- The reference's digits. -/
def D7 (s : ByteArray) : By := (s.data.toList.take 7).takeWhile isDig
theorem D7_le (s : ByteArray) : (D7 s).length ≤ 7 ∧ (D7 s).length ≤ s.size := by
  unfold D7
  rw [digs_take, List.length_take]
  have h := congrArg List.length (digs_split s.data.toList)
  rw [List.length_append] at h
  have : s.size = s.data.toList.length := by simp
  omega
theorem D7_all (s : ByteArray) : ∀ c ∈ D7 s, isDig c = true := by
  unfold D7
  rw [digs_take]
  intro c hc
  exact digs_all _ c (List.mem_of_mem_take hc)
theorem D7_at (s : ByteArray) (k : Nat) (h : k < (D7 s).length) (h2 : k < s.size) : (D7 s)[k] = s[k] := by
  have hp : D7 s <+: s.data.toList := (List.takeWhile_prefix _).trans (List.take_prefix _ _)
  rw [List.IsPrefix.getElem hp]
  rfl
theorem D7_dig (s : ByteArray) (k : Nat) (h : k < (D7 s).length) (h2 : k < s.size) : 48 ≤ (s[k].toNat : Int) ∧ (s[k].toNat : Int) ≤ 57 := by
  have := isDig_iff.1 (D7_all s _ (List.getElem_mem h))
  rw [D7_at s k h h2] at this
  omega
theorem D7_end (s : ByteArray) (h : (D7 s).length < 7) (h2 : (D7 s).length < s.size) : (s[(D7 s).length].toNat : Int) < 48 ∨ 57 < (s[(D7 s).length].toNat : Int) := by
  have hlen : (D7 s).length = (digs s.data.toList).length := by
    unfold D7 at h ⊢
    rw [digs_take] at h ⊢
    rw [List.length_take] at h ⊢
    omega
  have key : ∀ (l : By) (hl : (digs l).length < l.length), isDig (l[(digs l).length]) = false := by
    intro l
    induction l with
    | nil => intro hl; simp at hl
    | cons c l ih =>
      intro hl
      unfold digs at hl ⊢
      by_cases hc : isDig c = true
      · simp only [List.takeWhile_cons, hc, if_true, List.length_cons, List.getElem_cons_succ] at hl ⊢
        exact ih (by unfold digs; omega)
      · simp [hc]
  have hs : s.size = s.data.toList.length := by simp
  have := key s.data.toList (by omega)
  have e : s[(D7 s).length] = s.data.toList[(digs s.data.toList).length]'(by omega) := by
    rw [← byte_at s _ h2]
    congr 1
  rw [e]
  have := mt isDig_iff.2 (by rw [this]; simp)
  omega
theorem D7_end' (s : ByteArray) (k : Nat) (hk : k = (D7 s).length) (h : k < 7) (h2 : k < s.size) : (s[k].toNat : Int) < 48 ∨ 57 < (s[k].toNat : Int) := by
  subst hk
  exact D7_end s h h2
def dval (s : ByteArray) (k : Nat) : Nat := val ((D7 s).take k)
theorem dval_succ (s : ByteArray) (k : Nat) (h : k < (D7 s).length) (h2 : k < s.size) : ((dval s (k + 1) : Nat) : Int) = 10 * (dval s k : Int) + ((s[k].toNat : Int) - 48) := by
  have hd := D7_dig s k h h2
  unfold dval
  rw [List.take_succ_eq_append_getElem h, val_snoc, D7_at s k h h2]
  omega
theorem dval_lt (s : ByteArray) (k : Nat) : dval s k < 10000000 := by
  have h := val_lt ((D7 s).take k) (fun c hc => D7_all s c (List.mem_of_mem_take hc))
  have h7 := (D7_le s).1
  refine Nat.lt_of_lt_of_le h ?_
  exact Nat.pow_le_pow_right (n := 10) (by decide) (show ((D7 s).take k).length ≤ 7 by rw [List.length_take]; omega)

theorem head_at (s : ByteArray) (h : 0 < s.size) : s.data.toList.head? = some s[0] := by
  rw [List.head?_eq_getElem?, List.getElem?_eq_getElem (by simpa using h)]
  rfl
theorem head_48 (s : ByteArray) (h : 0 < s.size) : s.data.toList.head? = some 48 ↔ (s[0].toNat : Int) = 48 := by
  rw [head_at s h, Option.some.injEq, ← UInt8.toNat_inj]
  have : (48 : UInt8).toNat = 48 := rfl
  omega
theorem refNumber_zero (s : ByteArray) (k : Nat) (hk : k = (D7 s).length) (h : k = 0 ∨ (1 < k ∧ s.data.toList.head? = some 48)) : refNumber s.data.toList = (0, 0) := by
  unfold refNumber
  rw [if_pos (by rw [← show D7 s = (s.data.toList.take 7).takeWhile isDig from rfl, ← hk]; exact h)]
theorem refNumber_is (s : ByteArray) (k : Nat) (hk : k = (D7 s).length) (h : ¬ (k = 0 ∨ (1 < k ∧ s.data.toList.head? = some 48))) : refNumber s.data.toList = (dval s k, k) := by
  unfold refNumber
  rw [if_neg (by rw [← show D7 s = (s.data.toList.take 7).takeWhile isDig from rfl, ← hk]; exact h)]
  unfold dval
  rw [← show D7 s = (s.data.toList.take 7).takeWhile isDig from rfl, hk, List.take_length]

set_option maxHeartbeats 1600000 in
theorem number_ref (s : ByteArray) (w : World) (hs : s.size ≤ maxLen) :
    Calls Tryd.prog 32 #[.string s] w fun e w' => e = .returned (.tuple #[.int .i64 ((refNumber s.data.toList).1 : Nat), .int .i64 ((refNumber s.data.toList).2 : Nat)]) ∧ w = w' := by
  unfold maxLen at hs
  obtain ⟨h7, hsz⟩ := D7_le s
  go_enter Tryd.func32, Tryd.ntmps32
  go_wp2
  go_loop [4] (fun n => ∃ k : Nat, k ≤ (D7 s).length ∧ n = .int .i64 k) (fun n => (D7 s).length - (intOf n).toNat)
  case atStart => exact ⟨0, Nat.zero_le _, rfl⟩
  case round =>
    obtain ⟨k, hk, rfl⟩ := hrel
    by_cases hlt : k < (D7 s).length
    · have hks : k < s.size := by omega
      obtain ⟨hd1, hd2⟩ := D7_dig s k hlt hks
      have hk7 : (k : Int) < 7 := by omega
      go_wp2
      go_round
      case rel => exact ⟨k + 1, by omega, by go_num⟩
      case measure => simp [intOf]; omega
    · have hkk : k = (D7 s).length := by omega
      have HK := Lib.hid hkk
      clear hkk
      have hend : (s.size ≤ k) ∨ (k < s.size ∧ 7 ≤ k) ∨ (∃ h2 : k < s.size, k < 7 ∧ (s[k].toNat : Int) < 48) ∨ (∃ h2 : k < s.size, k < 7 ∧ 57 < (s[k].toNat : Int)) := by
        by_cases a : s.size ≤ k
        · exact .inl a
        · by_cases b : 7 ≤ k
          · exact .inr (.inl ⟨by omega, b⟩)
          · rcases D7_end' s k HK.out (by omega) (by omega) with c | c
            · exact .inr (.inr (.inl ⟨by omega, by omega, c⟩))
            · exact .inr (.inr (.inr ⟨by omega, by omega, c⟩))
      rcases hend with h | ⟨h, h'⟩ | ⟨h, h', h''⟩ | ⟨h, h', h''⟩
      all_goals
        go_wp2
        go_loop [5, 6] (fun v i => ∃ j : Nat, j ≤ k ∧ i = .int .i64 j ∧ v = .int .i64 (dval s j : Nat)) (fun _ i => k - (intOf i).toNat)
        case atStart => exact ⟨0, Nat.zero_le _, rfl, rfl⟩
        case round =>
          obtain ⟨j, hj, rfl, rfl⟩ := hrel
          by_cases hjl : j < k
          · have hjs : j < s.size := by omega
            have hjD : j < (D7 s).length := by have := HK.out; omega
            obtain ⟨hd1, hd2⟩ := D7_dig s j hjD hjs
            have hv := dval_lt s j
            have hsucc := dval_succ s j hjD hjs
            have HS := Lib.hid hsucc
            clear hsucc
            go_wp2
            go_round
            case rel => exact ⟨j + 1, by omega, by go_num, by rw [HS.out]⟩
            case measure => simp [intOf]; omega
          · obtain rfl : j = k := by omega
            have HV := Lib.hid (rfl : j = j)
            by_cases h0 : j = 0
            · have hz := refNumber_zero s j HK.out (.inl h0)
              have HZ := Lib.hid hz
              have h0b : ((j : Int) == 0) = true := by rw [beq_iff_eq]; omega
              clear hz HV h0
              go_wp2
              go_ret2
              exact ⟨ret2 (vint (by rw [HZ.out] <;> rfl)) (vint (by rw [HZ.out] <;> rfl)), rfl⟩
            · have h0b : ((j : Int) == 0) = false := by rw [beq_eq_false_iff_ne]; omega
              have hp : 0 < s.size := by omega
              by_cases h1 : 1 < j ∧ (s[0].toNat : Int) = 48
              · have hz := refNumber_zero s j HK.out (.inr ⟨h1.1, (head_48 s hp).2 h1.2⟩)
                have HZ := Lib.hid hz
                obtain ⟨h1a, h1b⟩ := h1
                have h48 : ((s[0].toNat : Int) == 48) = true := by rw [beq_iff_eq]; exact h1b
                clear hz HV h1b
                go_wp2
                go_ret2
                exact ⟨ret2 (vint (by rw [HZ.out] <;> rfl)) (vint (by rw [HZ.out] <;> rfl)), rfl⟩
              · have hz := refNumber_is s j HK.out (by rintro (e | ⟨e, e'⟩); exact h0 e; exact h1 ⟨e, (head_48 s hp).1 e'⟩)
                have HZ := Lib.hid hz
                clear hz HV
                by_cases h2 : 1 < j
                · have h48 : ((s[0].toNat : Int) == 48) = false := by rw [beq_eq_false_iff_ne]; exact fun e => h1 ⟨h2, e⟩
                  clear h1
                  go_wp2
                  go_ret2
                  exact ⟨ret2 (vint (by rw [HZ.out] <;> rfl)) (vint (by rw [HZ.out] <;> rfl)), rfl⟩
                · clear h1
                  first | omega | skip
                  all_goals go_wp2
                  all_goals go_ret2
                  all_goals exact ⟨ret2 (vint (by rw [HZ.out] <;> rfl)) (vint (by rw [HZ.out] <;> rfl)), rfl⟩
end Go.Proofs.YtakbejphbnbepaaDoor.W19
