/-
  Walks of layer 19: word, number. Conditions: the strings' own bound.
-/
import Derived.Test.YtakbejphbnbepaaDoorWalkF
import Derived.Shelf.Strings.SlTrimAscii
import Derived.Lib.SlTrimSet
namespace Go.Proofs.YtakbejphbnbepaaDoor.W19
open Go Go.RowKit P19

theorem drop_data (s : ByteArray) (k : Nat) : (s.extract k s.size).data.toList = s.data.toList.drop k := by
  rw [Lib.extract_data, List.take_of_length_le (by simp)]

set_option maxHeartbeats 400000 in
theorem word_any (s p : ByteArray) (w : World) :
    Calls Tryd.prog 26 #[.string s, .string p] w fun e w' => e = .returned (.tuple #[bs (wordL s.data.toList p.data.toList).1, .int .i64 (wordL s.data.toList p.data.toList).2]) ∧ w = w' := by
  cases h1 : Lib.hasPrefix s.data.toList p.data.toList with
  | true =>
    have hw : wordL s.data.toList p.data.toList = (Lib.trimPrefix s.data.toList p.data.toList, 0) := by simp [wordL, Lib.trimPrefix, h1]
    have c1 := Tryd.strings_CutPrefix s p w
    rw [h1] at c1
    have HW := Lib.hid hw
    have C1 := Lib.hid c1
    clear h1 hw c1
    go_enter Tryd.func26, Tryd.ntmps26
    go_wp2_with (go_at_call 35; refine C1.out.mono ?_; rintro e w1 ⟨rfl, rfl⟩)
    go_ret2
    exact ⟨by rw [HW.out]; rfl, rfl⟩
  | false =>
    have c1 := Tryd.strings_CutPrefix s p w
    rw [h1] at c1
    cases h2 : Lib.hasPrefix p.data.toList s.data.toList with
    | true =>
      have hw : wordL s.data.toList p.data.toList = ([], 192) := by simp [wordL, h1, h2]
      have c2 := Tryd.strings_HasPrefix p s w
      rw [h2] at c2
      have HW := Lib.hid hw
      have C1 := Lib.hid c1
      have C2 := Lib.hid c2
      clear h1 h2 hw c1 c2
      go_enter Tryd.func26, Tryd.ntmps26
      go_wp2_with (first | (go_at_call 35; refine C1.out.mono ?_; rintro e w1 ⟨rfl, hw⟩; rw [hw]; clear hw) | (go_at_call 36; refine C2.out.mono ?_; rintro e w2 ⟨rfl, hw⟩; rw [hw]; clear hw))
      go_ret2
      exact ⟨by rw [HW.out]; rfl, rfl⟩
    | false =>
      have hw : wordL s.data.toList p.data.toList = ([], 193) := by simp [wordL, h1, h2]
      have c2 := Tryd.strings_HasPrefix p s w
      rw [h2] at c2
      have HW := Lib.hid hw
      have C1 := Lib.hid c1
      have C2 := Lib.hid c2
      clear h1 h2 hw c1 c2
      go_enter Tryd.func26, Tryd.ntmps26
      go_wp2_with (first | (go_at_call 35; refine C1.out.mono ?_; rintro e w1 ⟨rfl, hw⟩; rw [hw]; clear hw) | (go_at_call 36; refine C2.out.mono ?_; rintro e w2 ⟨rfl, hw⟩; rw [hw]; clear hw))
      go_ret2
      exact ⟨by rw [HW.out]; rfl, rfl⟩

theorem word_as (s p : ByteArray) (R : ByteArray) (E : Int) (h : wordL s.data.toList p.data.toList = (R.data.toList, E)) (w : World) :
    Calls Tryd.prog 26 #[.string s, .string p] w fun e w' => e = .returned (.tuple #[.string R, .int .i64 E]) ∧ w = w' := by
  have := word_any s p w
  rw [h] at this
  exact this.mono fun _ _ ⟨he, hw⟩ => ⟨he.trans (ret2 (bs_data R) rfl), hw⟩
theorem word_named (s p : By) : ∃ (R : ByteArray) (E : Int), wordL s p = (R.data.toList, E) := ⟨⟨(wordL s p).1.toArray⟩, (wordL s p).2, by simp⟩

/-! ## number -/
def digC : By := [48, 49, 50, 51, 52, 53, 54, 55, 56, 57]
theorem digC_is (c : UInt8) : digC.contains c = isDig c := by
  rw [Bool.eq_iff_iff, isDig_iff]
  simp only [digC, List.contains_eq_mem, List.mem_cons, List.mem_nil_iff, or_false, decide_eq_true_eq]
  constructor
  · rintro (rfl | rfl | rfl | rfl | rfl | rfl | rfl | rfl | rfl | rfl) <;> decide
  · intro h
    have e : ∀ n : Nat, n < 256 → c.toNat = n → c = UInt8.ofNat n := fun n hn h => by rw [← h]; simp
    have : c.toNat = 48 ∨ c.toNat = 49 ∨ c.toNat = 50 ∨ c.toNat = 51 ∨ c.toNat = 52 ∨ c.toNat = 53 ∨ c.toNat = 54 ∨ c.toNat = 55 ∨ c.toNat = 56 ∨ c.toNat = 57 := by omega
    rcases this with h | h | h | h | h | h | h | h | h | h <;> (have := e _ (by decide) h; subst this; decide)
theorem trim_digs (l : By) : Lib.trimLeftS l digC = l.drop (digs l).length := by
  unfold Lib.trimLeftS digs
  induction l with
  | nil => rfl
  | cons c l ih =>
    rw [List.dropWhile_cons, List.takeWhile_cons, digC_is]
    cases isDig c with
    | false => simp
    | true => simp only [if_true, List.length_cons, List.drop_succ_cons]; exact ih

theorem parse_digits : ∀ (l : By) (acc : Nat), (∀ c ∈ l, isDig c = true) → valFrom acc l < 1844674407370955162 → Lib.parseUint10 acc l = .ok (valFrom acc l)
  | [], acc, _, _ => by simp [Lib.parseUint10, valFrom_nil]
  | c :: l, acc, hl, hv => by
    have hc := isDig_iff.1 (hl c (by simp))
    rw [valFrom_cons] at hv ⊢
    have hge := valFrom_ge l (10 * acc + (c.toNat - 48))
    have h1 : 1 ≤ 10 ^ l.length := Nat.one_le_pow _ _ (by decide)
    have hle : 10 * acc + (c.toNat - 48) ≤ valFrom (10 * acc + (c.toNat - 48)) l := Nat.le_trans (Nat.le_mul_of_pos_right _ h1) hge
    rw [Lib.parseUint10, if_pos hc, if_neg (by omega), if_neg (by omega), Nat.mul_comm acc 10]
    exact parse_digits l _ (fun d hd => hl d (by simp [hd])) hv
theorem atoi_digits (l : By) (h0 : l ≠ []) (hl : ∀ c ∈ l, isDig c = true) (h18 : l.length ≤ 18) : Lib.atoiAll l = .ok (val l : Nat) := by
  have hlt := val_lt l hl
  have hp : 10 ^ l.length ≤ 10 ^ 18 := Nat.pow_le_pow_right (by decide) h18
  have hv : val l < 1844674407370955162 := by omega
  cases l with
  | nil => exact absurd rfl h0
  | cons c r =>
    have hc := isDig_iff.1 (hl c (by simp))
    unfold Lib.atoiAll
    have h1 : ¬ c.toNat = 43 := by omega
    have h2 : ¬ c.toNat = 45 := by omega
    simp only [h1, h2, or_self, if_false]
    unfold Lib.parseMag
    rw [if_neg (by simp)]
    rw [show Lib.parseUint10 0 (c :: r) = .ok (val (c :: r)) from parse_digits _ 0 hl hv]
    simp only
    rw [if_neg (by omega), if_neg (by simp)]

theorem number_len (s : ByteArray) : (digs s.data.toList).length ≤ s.size := by
  have h := congrArg List.length (digs_split s.data.toList)
  rw [List.length_append, size_data] at h
  omega

theorem TrimLeft_any (s : ByteArray) (T : ByteArray) (hT : T.data.toList = s.data.toList.drop (digs s.data.toList).length) (w : World) :
    Calls Tryd.prog 37 #[.string s, .string ⟨#[48, 49, 50, 51, 52, 53, 54, 55, 56, 57]⟩] w fun e w' => e = .returned (.string T) ∧ Below w.heap.size w w' :=
  (Any.strings_TrimLeft_laid Tryd.lays161 (by kernel_rfl) s ⟨digC.toArray⟩ w (by decide) (ascii_of_all (by decide))).mono fun _ _ ⟨he, hb⟩ =>
    ⟨he.trans (ret1 (vba (by rw [hT]; exact trim_digs _))), hb⟩
theorem Atoi_digits (s : ByteArray) (v : Nat) (h0 : s.data.toList ≠ []) (hl : ∀ c ∈ s.data.toList, isDig c = true) (h18 : s.size ≤ 18) (hv : v = val s.data.toList) (w : World) :
    Calls Tryd.prog 38 #[.string s] w fun e w' => e = .returned (.tuple #[.int .i64 v, .nilIface]) ∧ Below w.heap.size w w' := by
  subst hv
  refine (Tryd.strconv_Atoi_ok s (by omega) _ (atoi_digits _ h0 hl (by simpa using h18)) w).mono fun _ _ ⟨he, hw⟩ => ⟨he, ?_⟩
  rcases hw with rfl | ⟨t, rfl⟩
  · exact Below.refl _ _
  · exact Lib.bytesWorld_below _ _ _

theorem empty_list (s : ByteArray) (h : s.size = 0) : s.data.toList = [] := by
  apply List.length_eq_zero_iff.1; rw [size_data]; exact h
theorem toList_nil (s : ByteArray) (h : s.size = 0) : s.toList.isEmpty = true := by rw [Lib.toList_data, empty_list s h]; rfl
theorem toList_cons (s : ByteArray) (h : 0 < s.size) : s.toList.isEmpty = false := by
  rw [Lib.toList_data]
  cases hl : s.data.toList with
  | nil => have := size_data s; rw [hl] at this; simp at this; omega
  | cons _ _ => rfl

set_option maxHeartbeats 1600000 in
theorem number_any (s : ByteArray) (w : World) (hm : s.size ≤ 9223372036854775806) :
    Calls Tryd.prog 28 #[.string s] w fun e w' => e = .returned (.tuple #[.int .i64 (numberL s.data.toList).1, bs (numberL s.data.toList).2.1, .int .i64 (numberL s.data.toList).2.2]) ∧ Below w.heap.size w w' := by
  obtain ⟨K, hK⟩ : ∃ K, K = (digs s.data.toList).length := ⟨_, rfl⟩
  have hks : K ≤ s.size := by rw [hK]; exact number_len s
  obtain ⟨T, hT⟩ : ∃ T : ByteArray, T.data.toList = s.data.toList.drop (digs s.data.toList).length := ⟨⟨(s.data.toList.drop (digs s.data.toList).length).toArray⟩, by simp⟩
  have hTs : (s.size : Int) - (T.size : Int) = K := by
    have := congrArg List.length hT
    rw [size_data, List.length_drop, size_data, ← hK] at this
    omega
  have HT := Lib.hid hT
  have HK := Lib.hid hK
  clear hT hK
  by_cases h0 : s.size = 0
  · have hE := toList_nil s h0
    have HN := Lib.hid (show numberL s.data.toList = (0, [], 192) by rw [empty_list s h0]; exact numberL_nil)
    clear h0
    go_enter Tryd.func28, Tryd.ntmps28
    go_wp2_with (go_at_call 37; refine (TrimLeft_any s T HT.out _).mono ?_; rintro e w1 ⟨rfl, hb1⟩)
    go_ret3
    exact ⟨by rw [HN.out]; rfl, hb1⟩
  · have hp : 0 < s.size := by omega
    have hE := toList_cons s hp
    have hne : s.data.toList ≠ [] := by intro e; have := size_data s; rw [e] at this; exact h0 this.symm
    clear h0
    by_cases k0 : K = 0
    · have kb : ((K : Int) == 0) = true := by rw [beq_iff_eq]; omega
      have HN := Lib.hid (show numberL s.data.toList = (0, [], 193) by unfold numberL; rw [if_neg hne, ← HK.out, if_pos (.inl k0)])
      clear k0 hne
      go_enter Tryd.func28, Tryd.ntmps28
      go_wp2_with (go_at_call 37; refine (TrimLeft_any s T HT.out _).mono ?_; rintro e w1 ⟨rfl, hb1⟩)
      go_ret3
      exact ⟨by rw [HN.out]; rfl, hb1⟩
    · have kb : ((K : Int) == 0) = false := by rw [beq_eq_false_iff_ne]; omega
      by_cases k6 : 6 < K
      · have HN := Lib.hid (show numberL s.data.toList = (0, [], 193) by unfold numberL; rw [if_neg hne, ← HK.out, if_pos (.inr (.inl k6))])
        clear k0 hne
        go_enter Tryd.func28, Tryd.ntmps28
        go_wp2_with (go_at_call 37; refine (TrimLeft_any s T HT.out _).mono ?_; rintro e w1 ⟨rfl, hb1⟩)
        go_ret3
        exact ⟨by rw [HN.out]; rfl, hb1⟩
      · by_cases kz : 1 < K ∧ (s[0].toNat : Int) = 48
        · have HN := Lib.hid (show numberL s.data.toList = (0, [], 193) by unfold numberL; rw [if_neg hne, ← HK.out, if_pos (.inr (.inr ⟨kz.1, (head_48 s hp).2 kz.2⟩))])
          obtain ⟨k1, kz⟩ := kz
          have h48 : ((s[0].toNat : Int) == 48) = true := by rw [beq_iff_eq]; exact kz
          clear k0 hne kz
          go_enter Tryd.func28, Tryd.ntmps28
          go_wp2_with (go_at_call 37; refine (TrimLeft_any s T HT.out _).mono ?_; rintro e w1 ⟨rfl, hb1⟩)
          go_ret3
          exact ⟨by rw [HN.out]; rfl, hb1⟩
        · obtain ⟨v, hv⟩ : ∃ v, v = val (digs s.data.toList) := ⟨_, rfl⟩
          have hN : numberL s.data.toList = if 100000 < v then (0, [], 193) else (v, wordL (s.data.toList.drop K) crlf) := by
            unfold numberL
            rw [if_neg hne, ← HK.out, if_neg (by
              rintro (e | e | ⟨e, e'⟩)
              · exact k0 e
              · exact k6 e
              · exact kz ⟨e, (head_48 s hp).1 e'⟩), hv]
          have hvl : v < 1000000 := by
            rw [hv]
            refine Nat.lt_of_lt_of_le (val_lt _ (digs_all _)) ?_
            exact Nat.pow_le_pow_right (n := 10) (by decide) (show (digs s.data.toList).length ≤ 6 by rw [← HK.out]; omega)
          have hd : (s.extract 0 K).data.toList = digs s.data.toList := by
            rw [Lib.extract_data, List.drop_zero, Nat.sub_zero, HK.out]
            conv => lhs; rhs; rw [digs_split s.data.toList]
            rw [List.take_left]
          have ha := Atoi_digits (s.extract 0 K) v (by rw [hd]; intro e; rw [HK.out, e] at k0; exact k0 rfl) (by rw [hd]; exact digs_all _) (by rw [← size_data, hd, ← HK.out]; omega) (by rw [hd]; exact hv)
          have HA := Lib.hid ha
          have HN := Lib.hid hN
          have HV := Lib.hid hv
          clear hd ha hN hv k0 hne
          have hz : K ≤ 1 ∨ (1 < K ∧ ((s[0].toNat : Int) == 48) = false) := by
            by_cases k1 : K ≤ 1
            · exact .inl k1
            · exact .inr ⟨by omega, by rw [beq_eq_false_iff_ne]; exact fun e => kz ⟨by omega, e⟩⟩
          clear kz
          have hdr : (s.extract K s.size).data.toList = s.data.toList.drop K := drop_data s K
          obtain ⟨R, E, hRE⟩ := word_named (s.data.toList.drop K) crlf
          have HW := Lib.hid (show wordL (s.extract K s.size).data.toList (⟨#[13, 10]⟩ : ByteArray).data.toList = (R.data.toList, E) by rw [hdr]; exact hRE)
          have HRE := Lib.hid hRE
          clear hdr hRE
          rcases hz with k1 | ⟨k1, h48⟩
          all_goals
            by_cases hbig : 100000 < v
            · go_enter Tryd.func28, Tryd.ntmps28
              go_wp2_with (first | (go_at_call 37; refine (TrimLeft_any s T HT.out _).mono ?_; rintro e w1 ⟨rfl, hb1⟩) | (go_at_call 38; refine (HA.out _).mono ?_; rintro e w2 ⟨rfl, hb2⟩))
              go_ret3
              exact ⟨by rw [HN.out, if_pos hbig]; rfl, below_then hb1 hb2⟩
            · go_enter Tryd.func28, Tryd.ntmps28
              go_wp2_with (first | (go_at_call 37; refine (TrimLeft_any s T HT.out _).mono ?_; rintro e w1 ⟨rfl, hb1⟩) | (go_at_call 38; refine (HA.out _).mono ?_; rintro e w2 ⟨rfl, hb2⟩) | (go_at_call 26; refine (word_as (s.extract K s.size) ⟨#[13, 10]⟩ R E HW.out _).mono ?_; rintro e w3 ⟨rfl, rfl⟩))
              go_ret3
              exact ⟨by rw [HN.out, if_neg hbig, HRE.out]; exact ret3 rfl (bs_data R).symm rfl, below_then hb1 hb2⟩
end Go.Proofs.YtakbejphbnbepaaDoor.W19
