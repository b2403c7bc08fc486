/-
  Replies as plain Lean: the reference reads every text as the program does; what is written is read again, whatever stands behind; what is read was written so; nothing of a part is read; unlike replies are written otherwise. No program is in sight here. Conditions: none.
-/
import Derived.Test.YtakbejphbnbepaaDoorPlainC
namespace Go.Proofs.YtakbejphbnbepaaDoor.P19
open Go

theorem itoa_nat (n : Nat) : Lib.itoa (n : Int) = Lib.decDigits n := Lib.itoa_nonneg n

/-- The number that a text begins with, where the reference takes one: its digits. -/
theorem number_cases {r : By} (h0 : r ≠ []) :
    (numberL r = (0, [], 193) ∧ ((refNumber r).2 = 0 ∨ 100000 < (refNumber r).1)) ∨
    (∃ (n : Nat) (r3 : By), n ≤ 100000 ∧ r = Lib.itoa n ++ r3 ∧ numberL r = (n, wordL r3 crlf) ∧ refNumber r = (n, (Lib.itoa n).length) ∧ 1 ≤ (Lib.itoa n).length) := by
  unfold numberL refNumber
  rw [if_neg h0, digs_take]
  have hall := digs_all r
  by_cases hk0 : (digs r).length = 0
  · left
    rw [if_pos (.inl hk0), if_pos (.inl (by rw [List.length_take]; omega))]
    exact ⟨rfl, .inl rfl⟩
  · have hne : digs r ≠ [] := by intro e; rw [e] at hk0; exact hk0 rfl
    by_cases hz : 1 < (digs r).length ∧ r.head? = some 48
    · left
      rw [if_pos (.inr (.inr hz)), if_pos (.inr ⟨by rw [List.length_take]; omega, hz.2⟩)]
      exact ⟨rfl, .inl rfl⟩
    · rw [if_neg (show ¬ (((digs r).take 7).length = 0 ∨ (1 < ((digs r).take 7).length ∧ r.head? = some 48)) from by
        rw [List.length_take]
        rintro (h | h)
        · omega
        · exact hz ⟨by omega, h.2⟩)]
      by_cases h6 : 6 < (digs r).length
      · left
        rw [if_pos (.inr (.inl h6))]
        refine ⟨rfl, .inr ?_⟩
        refine val_big (by rw [List.length_take]; omega) (fun c hc => hall c (List.mem_of_mem_take hc)) ?_
        intro h
        apply hz
        refine ⟨by omega, ?_⟩
        rw [← digs_head hne, ← h, List.head?_take, if_neg (by decide)]
      · have ht : (digs r).take 7 = digs r := List.take_of_length_le (by omega)
        rw [if_neg (by rintro (h | h | h); exact hk0 h; exact h6 h; exact hz h), ht]
        by_cases hb : 100000 < val (digs r)
        · left
          rw [if_pos hb]
          exact ⟨rfl, .inr hb⟩
        · right
          have hd : Lib.itoa (val (digs r) : Nat) = digs r := by
            rw [itoa_nat]
            refine decDigits_val hne hall ?_
            rw [digs_head hne]
            exact hz
          refine ⟨val (digs r), r.drop (digs r).length, by omega, ?_, ?_, ?_, ?_⟩
          · rw [hd]; exact digs_split r
          · rw [if_neg hb]
          · rw [hd]
          · rw [hd]; omega

/-- One status, whose first line the text begins with: the reference's answer is the program's. -/
def proRest (i : Int) (r1 : By) (len : Nat) : Rep × Nat × Int :=
  if (wordL r1 lenB).2 ≠ 0 then (zeroRep, 0, (wordL r1 lenB).2) else
  if (numberL (wordL r1 lenB).1).2.2 ≠ 0 then (zeroRep, 0, (numberL (wordL r1 lenB).1).2.2) else
  if (tailL (numberL (wordL r1 lenB).1).2.1).2.2 ≠ 0 then (zeroRep, 0, (tailL (numberL (wordL r1 lenB).1).2.1).2.2) else
  bodyL i (numberL (wordL r1 lenB).1).1 (tailL (numberL (wordL r1 lenB).1).2.1).1 (tailL (numberL (wordL r1 lenB).1).2.1).2.1 len
theorem readL_hit {i : Int} (hi : i ∈ stats) (r1 : By) : readL (first i ++ r1) = proRest i r1 (first i ++ r1).length := by
  unfold readL proRest
  rw [statusL_hit hi]
  simp
theorem numberL_nil : numberL [] = (0, [], 192) := by simp [numberL]

theorem at_eq (i : Int) (r1 : By) : whole (refAt (first i ++ r1) i) = proRest i r1 (first i ++ r1).length := by
  unfold refAt
  rw [startOf_first, startOf_first']
  cases hA : Lib.hasPrefix r1 lenB with
  | false =>
    cases hB : Lib.hasPrefix lenB r1 with
    | true => simp [whole, proRest, wordL_short hA hB]
    | false => simp [whole, proRest, wordL_form hA hB]
  | true =>
    obtain ⟨r2, rfl⟩ : ∃ r2, r1 = lenB ++ r2 := ⟨_, hp_split hA⟩
    have hs : first i ++ (lenB ++ r2) = startOf i ++ r2 := by unfold startOf; rw [List.append_assoc]
    rw [hs, List.drop_left, if_pos rfl]
    by_cases h0 : r2 = []
    · subst h0
      rw [if_pos rfl]
      unfold proRest
      rw [wordL_hit, numberL_nil]
      simp [whole]
    · rw [if_neg h0]
      rcases number_cases h0 with ⟨hn, hr⟩ | ⟨n, r3, hn, hr, hp, hq, hl⟩
      · rw [if_pos hr]
        unfold proRest
        rw [wordL_hit]
        simp only
        rw [hn]
        simp [whole]
      · have hpro : proRest i (lenB ++ r2) (startOf i ++ r2).length = proTail i n r3 (startOf i ++ r2).length := by
          unfold proRest proTail
          rw [wordL_hit]
          simp only
          rw [hp]
          simp
        rw [hpro, hq]
        simp only
        rw [if_neg (by omega)]
        by_cases h3 : r3 = []
        · subst h3
          rw [if_pos (by rw [hr]; simp)]
          have : wordL [] crlf = ([], 192) := by decide
          simp [whole, proTail, this]
        · rw [if_neg (by
            rw [hr, List.length_append]
            have : r3.length ≠ 0 := fun e => h3 (List.length_eq_zero_iff.1 e)
            omega)]
          rw [hr, ← tail_eq]
          unfold refTail headL
          rw [hp_add, hp_add, hp_add, hp_add, hp_add, hp_add, hp_add, hp_add]
          by_cases k1 : Lib.hasPrefix r3 (crlf ++ (closing false ++ crlf)) = true
          · rw [if_pos k1, if_pos k1]; rfl
          · rw [if_neg k1, if_neg k1]
            by_cases k2 : Lib.hasPrefix r3 (crlf ++ (closing true ++ crlf)) = true
            · rw [if_pos k2, if_pos k2]; rfl
            · rw [if_neg k2, if_neg k2]; rfl

theorem stats_split {i : Int} (hi : i ∈ stats) : ∃ l m, stats = l ++ i :: m ∧ ∀ j ∈ l ++ m, j ∈ stats ∧ j ≠ i := by
  obtain ⟨l, m, e⟩ := List.append_of_mem hi
  have hn : stats.Nodup := by decide
  refine ⟨l, m, e, fun j hj => ⟨?_, ?_⟩⟩
  · rw [e]
    rcases List.mem_append.1 hj with h | h
    · exact List.mem_append_left _ h
    · exact List.mem_append_right _ (List.mem_cons_of_mem _ h)
  · rintro rfl
    rw [e] at hn
    have := (List.nodup_append.1 hn)
    rcases List.mem_append.1 hj with h | h
    · exact this.2.2 _ h _ (by simp) rfl
    · exact (List.nodup_cons.1 this.2.1).1 h

/-- THE REFERENCE READS EVERY TEXT AS THE PROGRAM DOES. -/
theorem ref_eq (s : By) : refReadL s = readL s := by
  by_cases h : ∃ i ∈ stats, Lib.hasPrefix s (first i) = true
  · obtain ⟨i, hi, hp⟩ := h
    obtain ⟨r1, rfl⟩ : ∃ r1, s = first i ++ r1 := ⟨_, hp_split hp⟩
    obtain ⟨l, m, e, hlm⟩ := stats_split hi
    unfold refReadL
    rw [e, refLoop_one l m, readL_hit hi, at_eq]
    intro j hj
    obtain ⟨hjs, hji⟩ := hlm j hj
    have hnj : Lib.hasPrefix (first i ++ r1) (first j) = false := by
      cases hq : Lib.hasPrefix (first i ++ r1) (first j) with
      | false => rfl
      | true => exact absurd (first_one hjs hi hq hp) hji
    have hnj' : Lib.hasPrefix (first j) (first i ++ r1) = false := by
      cases hq : Lib.hasPrefix (first j) (first i ++ r1) with
      | false => rfl
      | true => exact absurd (first_free hi hjs (hp_trans hq (hp_self _ _))).symm hji
    exact refLoop_out (by unfold startOf; exact hp_out' hnj) (by unfold startOf; exact hp_out hnj hnj')
  · have hno : ∀ i ∈ stats, Lib.hasPrefix s (first i) = false := by
      intro i hi
      cases hq : Lib.hasPrefix s (first i) with
      | false => rfl
      | true => exact absurd ⟨i, hi, hq⟩ h
    have hat : ∀ j ∈ stats, refAt s j = (none, Lib.hasPrefix (first j) s) := by
      intro j hj
      have h1 : Lib.hasPrefix s (startOf j) = false := by unfold startOf; exact hp_out' (hno j hj)
      unfold refAt
      rw [h1]
      simp only [Bool.false_eq_true, if_false]
      congr 1
      unfold startOf
      cases hq : Lib.hasPrefix (first j) s with
      | true => exact hp_trans (hp_self _ _) hq
      | false => exact hp_out (hno j hj) hq
    unfold refReadL readL
    rw [refLoop_none s stats false (fun j hj => by rw [hat j hj]), statusL_miss hno]
    have : (stats.any fun j => (refAt s j).2) = stats.any fun n => Lib.hasPrefix (first n) s := by
      rw [Bool.eq_iff_iff, List.any_eq_true, List.any_eq_true]
      constructor
      · rintro ⟨j, hj, h⟩; rw [hat j hj] at h; exact ⟨j, hj, h⟩
      · rintro ⟨j, hj, h⟩; exact ⟨j, hj, by rw [hat j hj]; exact h⟩
    rw [this]
    simp only [Bool.false_or]
    split <;> simp

/-! ## Written, and read again -/
theorem takeWhile_digits {l r : By} (hl : ∀ c ∈ l, isDig c = true) (hr : ∀ c, r.head? = some c → isDig c = false) : (l ++ r).takeWhile isDig = l := by
  induction l with
  | nil =>
    cases r with
    | nil => rfl
    | cons c r => simp [hr c rfl]
  | cons c l ih => rw [List.cons_append, List.takeWhile_cons, hl c (by simp)]; simp only [if_true]; rw [ih (fun d hd => hl d (by simp [hd]))]
theorem dig_byte {x : Nat} (hx : x < 10) : (UInt8.ofNat (48 + x)).toNat = 48 + x := by
  rw [UInt8.toNat_ofNat']; omega
theorem decDigits_all : ∀ (n : Nat), ∀ c ∈ Lib.decDigits n, isDig c = true := by
  intro n
  induction n using Nat.strongRecOn with
  | ind n ih =>
    intro c hc
    rw [Lib.decDigits] at hc
    split at hc
    · rename_i h
      simp only [List.mem_singleton] at hc
      subst hc
      rw [isDig_iff, dig_byte h]; omega
    · rename_i h
      rcases List.mem_append.1 hc with h1 | h1
      · exact ih (n / 10) (by omega) c h1
      · simp only [List.mem_singleton] at h1
        subst h1
        rw [isDig_iff, dig_byte (by omega)]; omega
theorem val_decDigits : ∀ (n : Nat), val (Lib.decDigits n) = n := by
  intro n
  induction n using Nat.strongRecOn with
  | ind n ih =>
    rw [Lib.decDigits]
    split
    · rename_i h
      unfold val
      rw [valFrom_cons, valFrom_nil, dig_byte h]; omega
    · rename_i h
      have := ih (n / 10) (by omega)
      unfold val valFrom at this ⊢
      rw [List.foldl_append, this]
      simp only [List.foldl_cons, List.foldl_nil]
      rw [dig_byte (by omega)]; omega
theorem decDigits_ne (n : Nat) : Lib.decDigits n ≠ [] := by
  intro h
  have := Lib.decDigits_length n
  rw [h] at this
  have := Lib.nDigits_pos n
  simp at *
  omega
theorem decDigits_head : ∀ (n : Nat), ¬ (1 < (Lib.decDigits n).length ∧ (Lib.decDigits n).head? = some 48) := by
  intro n
  induction n using Nat.strongRecOn with
  | ind n ih =>
    rw [Lib.decDigits]
    split
    · simp
    · rename_i h
      rintro ⟨-, h2⟩
      by_cases h3 : n / 10 < 10
      · rw [Lib.decDigits_one h3] at h2
        simp only [List.cons_append, List.head?_cons, Option.some.injEq] at h2
        have h4 := congrArg UInt8.toNat h2
        rw [dig_byte h3] at h4
        have : (48 : UInt8).toNat = 48 := rfl
        omega
      · apply ih (n / 10) (by omega)
        constructor
        · rw [Lib.decDigits_length, Lib.nDigits_big h3]
          have := Lib.nDigits_pos (n / 10 / 10)
          omega
        · cases hd : Lib.decDigits (n / 10) with
          | nil => exact absurd hd (decDigits_ne _)
          | cons c l => rw [hd] at h2; simpa using h2
theorem nDigits_six {n : Nat} (h : n ≤ 100000) : Lib.nDigits n ≤ 6 := by
  by_cases h1 : n < 10; · rw [Lib.nDigits_small h1]; omega
  rw [Lib.nDigits_big h1]
  by_cases h2 : n / 10 < 10; · rw [Lib.nDigits_small h2]; omega
  rw [Lib.nDigits_big h2]
  by_cases h3 : n / 10 / 10 < 10; · rw [Lib.nDigits_small h3]; omega
  rw [Lib.nDigits_big h3]
  by_cases h4 : n / 10 / 10 / 10 < 10; · rw [Lib.nDigits_small h4]; omega
  rw [Lib.nDigits_big h4]
  by_cases h5 : n / 10 / 10 / 10 / 10 < 10; · rw [Lib.nDigits_small h5]; omega
  rw [Lib.nDigits_big h5, Lib.nDigits_small (by omega)]
  omega

theorem numberL_back {n : Nat} (hn : n ≤ 100000) (r : By) : numberL (Lib.itoa n ++ (crlf ++ r)) = (n, r, 0) := by
  have hd : digs (Lib.itoa n ++ (crlf ++ r)) = Lib.decDigits n := by
    unfold digs
    rw [itoa_nat]
    exact takeWhile_digits (decDigits_all n) (fun c hc => by simp [crlf] at hc; subst hc; decide)
  have hhead : (Lib.itoa n ++ (crlf ++ r)).head? = (Lib.decDigits n).head? := by
    rw [itoa_nat]
    cases h : Lib.decDigits n with
    | nil => exact absurd h (decDigits_ne n)
    | cons c l => rfl
  unfold numberL
  rw [if_neg (by rw [itoa_nat]; have := decDigits_ne n; simp [this]), hd, hhead, val_decDigits]
  have h6 := nDigits_six hn
  have h1 := Lib.nDigits_pos n
  have hlen := Lib.decDigits_length n
  rw [if_neg (by
    rintro (h | h | h)
    · omega
    · omega
    · exact decDigits_head n h), if_neg (by omega), itoa_nat, List.drop_left, wordL_hit]

theorem tailL_back (c : Bool) (r : By) : tailL (closing c ++ (crlf ++ r)) = (c, r, 0) := by
  cases c with
  | true => simp only [closing, if_true]; rw [tailL_close, wordL_hit]
  | false =>
    simp only [closing, Bool.false_eq_true, if_false, List.nil_append]
    have h1 : Lib.hasPrefix (crlf ++ r) closeB = false := by
      cases h : Lib.hasPrefix (crlf ++ r) closeB with
      | false => rfl
      | true =>
        rcases hp_two h (hp_self crlf r) with k | k
        · rw [closeB_crlf] at k; cases k
        · rw [crlf_closeB] at k; cases k
    have h2 : Lib.hasPrefix closeB (crlf ++ r) = false := by
      cases h : Lib.hasPrefix closeB (crlf ++ r) with
      | false => rfl
      | true => have := hp_trans h (hp_self crlf r); rw [closeB_crlf] at this; cases this
    rw [tailL_plain h1 h2, wordL_hit]

/-- WHAT IS WRITTEN IS READ AGAIN, whatever stands behind. -/
theorem readL_back {r : Rep} (h : (writeL r).2 = 0) (x : By) : readL ((writeL r).1 ++ x) = (r, (writeL r).1.length, 0) := by
  unfold writeL at h ⊢
  by_cases h1 : reason r.status = []
  · rw [if_pos h1] at h; cases h
  · by_cases h2 : 100000 < r.body.length
    · rw [if_neg h1, if_pos h2] at h; cases h
    · rw [if_neg h1, if_neg h2]
      simp only
      have hi := (reason_stats r.status).1 h1
      have hs : headL r.status r.body.length r.close ++ r.body ++ x = first r.status ++ (lenB ++ (Lib.itoa r.body.length ++ (crlf ++ (closing r.close ++ (crlf ++ (r.body ++ x)))))) := by
        unfold headL startOf
        simp only [List.append_assoc]
      rw [hs, readL_hit hi]
      unfold proRest
      rw [wordL_hit]
      simp only
      rw [numberL_back (by omega)]
      simp only
      rw [tailL_back]
      simp only [ne_eq, not_true, if_false]
      unfold bodyL
      rw [if_neg (by rw [List.length_append]; omega), List.take_left]
      congr 2
      rw [← hs]
      simp only [List.length_append]
      omega

/-- WHAT IS READ WAS WRITTEN SO. -/
theorem readL_was {s : By} {r : Rep} {k : Nat} (h : readL s = (r, k, 0)) : (writeL r).2 = 0 ∧ k = (writeL r).1.length ∧ ∃ t, s = (writeL r).1 ++ t := by
  by_cases hst : ∃ i ∈ stats, Lib.hasPrefix s (first i) = true
  · obtain ⟨i, hi, hp⟩ := hst
    obtain ⟨r1, rfl⟩ : ∃ r1, s = first i ++ r1 := ⟨_, hp_split hp⟩
    rw [readL_hit hi] at h
    unfold proRest at h
    split at h
    · rename_i h1; exact absurd (congrArg (fun x => x.2.2) h) h1
    rename_i h1
    have e1 := wordL_zero (Classical.not_not.1 h1)
    generalize (wordL r1 lenB).1 = r2 at h e1
    subst e1
    split at h
    · rename_i h2; exact absurd (congrArg (fun x => x.2.2) h) h2
    rename_i h2
    have h2 := Classical.not_not.1 h2
    have h0 : r2 ≠ [] := by rintro rfl; rw [numberL_nil] at h2; cases h2
    rcases number_cases h0 with ⟨hn, -⟩ | ⟨n, r3, hn, hr, hp', -, -⟩
    · rw [hn] at h2; cases h2
    · rw [hp'] at h h2
      simp only at h h2
      have e3 := wordL_zero h2
      generalize (wordL r3 crlf).1 = r4 at h e3
      subst e3
      subst hr
      split at h
      · rename_i h3; exact absurd (congrArg (fun x => x.2.2) h) h3
      rename_i h3
      have h3 := Classical.not_not.1 h3
      have e4 : ∃ r5, r4 = closing (tailL r4).1 ++ (crlf ++ r5) ∧ (tailL r4).2.1 = r5 := by
        refine ⟨(tailL r4).2.1, ?_, rfl⟩
        cases hC : Lib.hasPrefix r4 closeB with
        | true =>
          obtain ⟨r5, rfl⟩ : ∃ r5, r4 = closeB ++ r5 := ⟨_, hp_split hC⟩
          rw [tailL_close] at h3 ⊢
          simp only [closing, if_true] at h3 ⊢
          rw [← wordL_zero h3]
        | false =>
          cases hD : Lib.hasPrefix closeB r4 with
          | true => rw [tailL_short hC hD] at h3; cases h3
          | false =>
            rw [tailL_plain hC hD] at h3 ⊢
            simp only [closing, Bool.false_eq_true, if_false, List.nil_append] at h3 ⊢
            exact wordL_zero h3
      obtain ⟨r5, e4, e5⟩ := e4
      rw [e5] at h
      generalize (tailL r4).1 = c at h e4
      subst e4
      clear e5
      unfold bodyL at h
      split at h
      · exact absurd (congrArg (fun x => x.2.2) h) (by simp)
      rename_i h5
      obtain ⟨rfl, h6⟩ := Prod.mk.inj h
      obtain ⟨rfl, -⟩ := Prod.mk.inj h6
      have hbl : (r5.take n).length = n := by rw [List.length_take]; omega
      have hw : writeL ⟨i, r5.take n, c⟩ = (headL i n c ++ r5.take n, 0) := by
        unfold writeL
        rw [if_neg ((reason_stats i).2 hi)]
        simp only
        rw [hbl, if_neg (by omega)]
      rw [hw]
      refine ⟨rfl, ?_, r5.drop n, ?_⟩
      · unfold headL startOf
        simp only [List.length_append, hbl]
        omega
      · unfold headL startOf
        simp only [List.append_assoc, List.take_append_drop]
  · have hno : ∀ i ∈ stats, Lib.hasPrefix s (first i) = false := by
      intro i hi
      cases hq : Lib.hasPrefix s (first i) with
      | false => rfl
      | true => exact absurd ⟨i, hi, hq⟩ hst
    unfold readL at h
    rw [statusL_miss hno] at h
    simp only at h
    split at h
    · rw [if_pos (by decide)] at h; exact absurd (congrArg (fun x => x.2.2) h) (by simp)
    · rw [if_pos (by decide)] at h; exact absurd (congrArg (fun x => x.2.2) h) (by simp)

/-- Two writable texts, one a beginning of the other: they are the same reply's. -/
theorem writeL_free {a b : Rep} (ha : (writeL a).2 = 0) (hb : (writeL b).2 = 0) {y z : By} (h : (writeL a).1 ++ y = (writeL b).1 ++ z) : a = b := by
  have h1 := readL_back ha y
  rw [h, readL_back hb z] at h1
  exact (Prod.mk.inj h1).1.symm
/-- NOTHING OF A PART IS READ. -/
theorem readL_part {r : Rep} (h : (writeL r).2 = 0) {p y : By} (hy : y ≠ []) (e : p ++ y = (writeL r).1) : (readL p).2.2 ≠ 0 := by
  intro h0
  obtain ⟨hw, -, t, ht⟩ := readL_was (s := p) (r := (readL p).1) (k := (readL p).2.1) (by rw [← h0])
  have := writeL_free (y := t ++ y) (z := []) hw h (by rw [← List.append_assoc, ← ht, e, List.append_nil])
  rw [this] at ht
  rw [← e] at ht
  have hl := congrArg List.length ht
  simp only [List.length_append] at hl
  exact hy (List.length_eq_zero_iff.1 (by omega))

/-! ## Replies one behind the other -/
theorem writeL_pos {r : Rep} (h : (writeL r).2 = 0) : 1 ≤ (writeL r).1.length := by
  unfold writeL at h ⊢
  by_cases h1 : reason r.status = []
  · rw [if_pos h1] at h; cases h
  · by_cases h2 : 100000 < r.body.length
    · rw [if_neg h1, if_pos h2] at h; cases h
    · rw [if_neg h1, if_neg h2]
      simp [headL, startOf, first, verB]
theorem readL_pos {s : By} (h : (readL s).2.2 = 0) : 1 ≤ (readL s).2.1 ∧ (readL s).2.1 ≤ s.length := by
  obtain ⟨h1, h2, t, h3⟩ := readL_was (s := s) (r := (readL s).1) (k := (readL s).2.1) (by rw [← h])
  refine ⟨by rw [h2]; exact writeL_pos h1, ?_⟩
  have := congrArg List.length h3
  rw [List.length_append] at this
  omega
/-- All replies that a text begins with, and how many bytes they have; with fuel. -/
def allF : Nat → By → List Rep × Nat
  | 0, _ => ([], 0)
  | n + 1, s => if (readL s).2.2 = 0 then ((readL s).1 :: (allF n (s.drop (readL s).2.1)).1, (readL s).2.1 + (allF n (s.drop (readL s).2.1)).2) else ([], 0)
theorem allF_succ (n : Nat) (s : By) : allF (n + 1) s = if (readL s).2.2 = 0 then ((readL s).1 :: (allF n (s.drop (readL s).2.1)).1, (readL s).2.1 + (allF n (s.drop (readL s).2.1)).2) else ([], 0) := rfl
theorem allF_more : ∀ (n : Nat) (s : By), s.length < n → allF (n + 1) s = allF n s
  | 0, _, h => by omega
  | n + 1, s, h => by
    rw [allF_succ (n + 1) s, allF_succ n s]
    by_cases h0 : (readL s).2.2 = 0
    · have := readL_pos h0
      rw [if_pos h0, if_pos h0, allF_more n _ (by rw [List.length_drop]; omega)]
    · rw [if_neg h0, if_neg h0]
theorem allF_any {n : Nat} {s : By} (h : s.length < n) : allF n s = allF (s.length + 1) s := by
  obtain ⟨k, rfl⟩ : ∃ k, n = s.length + 1 + k := ⟨n - (s.length + 1), by omega⟩
  clear h
  induction k with
  | zero => rfl
  | succ k ih => rw [← ih]; exact allF_more (s.length + 1 + k) _ (by omega)
def allL (s : By) : List Rep × Nat := allF (s.length + 1) s
theorem allL_step {s : By} (h : (readL s).2.2 = 0) : allL s = ((readL s).1 :: (allL (s.drop (readL s).2.1)).1, (readL s).2.1 + (allL (s.drop (readL s).2.1)).2) := by
  have := readL_pos h
  unfold allL
  rw [allF, if_pos h, allF_any (n := s.length) (by rw [List.length_drop]; omega)]
theorem allL_stop {s : By} (h : (readL s).2.2 ≠ 0) : allL s = ([], 0) := by
  unfold allL
  rw [allF, if_neg h]
theorem allL_le : ∀ (n : Nat) (s : By), s.length < n → (allL s).2 ≤ s.length ∧ (allL s).1.length ≤ (allL s).2
  | 0, _, h => by omega
  | n + 1, s, h => by
    by_cases h0 : (readL s).2.2 = 0
    · have hp := readL_pos h0
      have := allL_le n (s.drop (readL s).2.1) (by rw [List.length_drop]; omega)
      rw [allL_step h0]
      rw [List.length_drop] at this
      simp only [List.length_cons]
      omega
    · rw [allL_stop h0]; simp
/-- The texts of a list of writable replies, one behind the other. -/
def texts (l : List Rep) : By := (l.map fun r => (writeL r).1).flatten
theorem allL_texts : ∀ (l : List Rep) (x : By), (∀ r ∈ l, (writeL r).2 = 0) → (readL x).2.2 ≠ 0 → allL (texts l ++ x) = (l, (texts l).length)
  | [], x, _, hx => by simp [texts, allL_stop hx]
  | r :: l, x, hl, hx => by
    have hr := hl r (by simp)
    have e : texts (r :: l) ++ x = (writeL r).1 ++ (texts l ++ x) := by simp [texts]
    have hb := readL_back hr (texts l ++ x)
    rw [e, allL_step (by rw [hb]), hb]
    simp only
    rw [List.drop_left, allL_texts l x (fun q hq => hl q (by simp [hq])) hx]
    simp [texts]
theorem readL_crlf : (readL [13, 10]).2.2 ≠ 0 := by
  intro h
  have h1 := readL_pos h
  obtain ⟨h2, h3, t, h4⟩ := readL_was (s := [13, 10]) (r := (readL [13, 10]).1) (k := (readL [13, 10]).2.1) (by rw [← h])
  generalize (readL [13, 10]).1 = r at h2 h4
  unfold writeL at h2 h4
  by_cases h5 : reason r.status = []
  · rw [if_pos h5] at h2; cases h2
  · by_cases h6 : 100000 < r.body.length
    · rw [if_neg h5, if_pos h6] at h2; cases h2
    · rw [if_neg h5, if_neg h6] at h4
      simp [headL, startOf, first, verB] at h4
theorem texts_snoc (l : List Rep) (r : Rep) : texts (l ++ [r]) = texts l ++ (writeL r).1 := by simp [texts]
/-- THE LAST ONE CUT: all but it are read. -/
theorem allL_cut (l : List Rep) (r : Rep) (hl : ∀ q ∈ l ++ [r], (writeL q).2 = 0) (c : Nat) (h1 : 1 ≤ c) (h2 : c ≤ (writeL r).1.length) :
    allL ((texts (l ++ [r])).take ((texts (l ++ [r])).length - c)) = (l, (texts l).length) := by
  have hr := hl r (by simp)
  rw [texts_snoc, List.length_append, List.take_append, List.take_of_length_le (by omega), show (texts l).length + (writeL r).1.length - c - (texts l).length = (writeL r).1.length - c by omega]
  refine allL_texts l _ (fun q hq => hl q (by simp [hq])) ?_
  refine readL_part hr (y := (writeL r).1.drop ((writeL r).1.length - c)) ?_ (List.take_append_drop _ _)
  intro e
  have := congrArg List.length e
  rw [List.length_drop] at this
  simp at this
  omega
end Go.Proofs.YtakbejphbnbepaaDoor.P19
