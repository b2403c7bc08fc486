/-
  Replies as plain Lean: the reference reads every text as the program does; what is written is read again; nothing of a part is read. No program is in sight here. Conditions: none.
-/
import Derived.Test.YtakbejphbnbepaaDoorPlainB
namespace Go.Proofs.YtakbejphbnbepaaDoor.P19
open Go

theorem wordL_hit (w r : By) : wordL (w ++ r) w = (r, 0) := by simp [wordL, hp_self]
theorem wordL_short {s w : By} (h : Lib.hasPrefix s w = false) (k : Lib.hasPrefix w s = true) : wordL s w = ([], 192) := by simp [wordL, h, k]
theorem wordL_form {s w : By} (h : Lib.hasPrefix s w = false) (k : Lib.hasPrefix w s = false) : wordL s w = ([], 193) := by simp [wordL, h, k]
theorem wordL_zero {s w : By} (h : (wordL s w).2 = 0) : s = w ++ (wordL s w).1 := by
  unfold wordL at h ⊢
  by_cases h1 : Lib.hasPrefix s w = true
  · rw [if_pos h1]; exact hp_split h1
  · rw [if_neg h1] at h
    split at h <;> cases h
theorem wordL_cases (s w : By) : (wordL s w).2 = 0 ∨ (wordL s w) = ([], 192) ∨ (wordL s w) = ([], 193) := by
  unfold wordL
  by_cases h1 : Lib.hasPrefix s w = true
  · rw [if_pos h1]; exact .inl rfl
  · rw [if_neg h1]
    by_cases h2 : Lib.hasPrefix w s = true
    · rw [if_pos h2]; exact .inr (.inl rfl)
    · rw [if_neg h2]; exact .inr (.inr rfl)

/-! ## The status -/
theorem statusL_hit {i : Int} (hi : i ∈ stats) (r : By) : statusL (first i ++ r) = (i, r, 0) := by
  unfold statusL
  have h : stats.find? (fun n => Lib.hasPrefix (first i ++ r) (first n)) = some i := by
    cases hf : stats.find? (fun n => Lib.hasPrefix (first i ++ r) (first n)) with
    | none => exact absurd (hp_self (first i) r) (by have := List.find?_eq_none.1 hf i hi; simpa using this)
    | some j =>
      have hj := List.mem_of_find?_eq_some hf
      have hk := List.find?_some hf
      rw [first_one hj hi hk (hp_self _ _)]
  rw [h]
  simp
theorem statusL_miss {s : By} (h : ∀ i ∈ stats, Lib.hasPrefix s (first i) = false) : statusL s = (0, [], if stats.any (fun n => Lib.hasPrefix (first n) s) then 192 else 193) := by
  unfold statusL
  rw [List.find?_eq_none.2 (fun i hi => by rw [h i hi]; simp)]

theorem startOf_first (i : Int) (s : By) : Lib.hasPrefix (first i ++ s) (startOf i) = Lib.hasPrefix s lenB := by unfold startOf; exact hp_add _ _ _
theorem startOf_first' (i : Int) (s : By) : Lib.hasPrefix (startOf i) (first i ++ s) = Lib.hasPrefix lenB s := by unfold startOf; exact hp_add _ _ _

theorem refLoop_none (s : By) : ∀ (l : List Int) (short : Bool), (∀ j ∈ l, (refAt s j).1 = none) → refLoop s l short = (zeroRep, 0, if (short || l.any fun j => (refAt s j).2) then 192 else 193)
  | [], short, _ => by simp [refLoop]
  | j :: l, short, h => by
    rw [refLoop, h j (by simp)]
    simp only
    rw [refLoop_none s l _ (fun k hk => h k (by simp [hk]))]
    simp [Bool.or_assoc]
theorem refLoop_out {s : By} {j : Int} (h1 : Lib.hasPrefix s (startOf j) = false) (h2 : Lib.hasPrefix (startOf j) s = false) : refAt s j = (none, false) := by simp [refAt, h1, h2]
theorem refLoop_skip (s : By) : ∀ (l m : List Int), (∀ j ∈ l, refAt s j = (none, false)) → refLoop s (l ++ m) false = refLoop s m false
  | [], _, _ => rfl
  | j :: l, m, h => by
    rw [List.cons_append, refLoop, h j (by simp)]
    exact refLoop_skip s l m (fun k hk => h k (by simp [hk]))
def whole (x : Option (Rep × Nat × Int) × Bool) : Rep × Nat × Int := match x.1 with | some r => r | none => (zeroRep, 0, if x.2 then 192 else 193)
theorem refLoop_one {s : By} {i : Int} (l m : List Int) (h : ∀ j ∈ l ++ m, refAt s j = (none, false)) : refLoop s (l ++ i :: m) false = whole (refAt s i) := by
  rw [refLoop_skip s l _ (fun j hj => h j (by simp [hj])), refLoop, whole]
  cases hx : (refAt s i).1 with
  | some r => rfl
  | none =>
    simp only
    rw [refLoop_none s m _ (fun j hj => by rw [h j (by simp [hj])])]
    have : (m.any fun j => (refAt s j).2) = false := by
      rw [List.any_eq_false]
      intro j hj
      rw [h j (by simp [hj])]
      simp
    rw [this]
    simp

/-! ## The rest behind the head's number -/
theorem closeB_crlf : Lib.hasPrefix closeB crlf = false := by decide
theorem crlf_closeB : Lib.hasPrefix crlf closeB = false := by decide
/-- What stands behind the number's line, as the reference judges it. -/
def refTail (s r4 : By) (i : Int) (n : Nat) : Rep × Nat × Int :=
  if Lib.hasPrefix r4 (crlf ++ (closing false ++ crlf)) then refBody s i n false
  else if Lib.hasPrefix r4 (crlf ++ (closing true ++ crlf)) then refBody s i n true
  else (zeroRep, 0, if Lib.hasPrefix (crlf ++ (closing false ++ crlf)) r4 || Lib.hasPrefix (crlf ++ (closing true ++ crlf)) r4 then 192 else 193)
/-- .. and as the program judges it. -/
def proTail (i : Int) (n : Nat) (r3 : By) (len : Nat) : Rep × Nat × Int :=
  if (wordL r3 crlf).2 ≠ 0 then (zeroRep, 0, (wordL r3 crlf).2) else
  if (tailL (wordL r3 crlf).1).2.2 ≠ 0 then (zeroRep, 0, (tailL (wordL r3 crlf).1).2.2) else
  bodyL i n (tailL (wordL r3 crlf).1).1 (tailL (wordL r3 crlf).1).2.1 len

theorem body_eq (i : Int) (n : Nat) (c : Bool) (r : By) : refBody (headL i n c ++ r) i n c = bodyL i n c r (headL i n c ++ r).length := by
  unfold refBody bodyL
  simp only [List.drop_left, List.length_append]
  by_cases h : r.length < n
  · rw [if_pos h, if_pos (by omega)]
  · rw [if_neg h, if_neg (by omega)]
    congr 2
    omega

theorem tailL_close (r : By) : tailL (closeB ++ r) = (true, wordL r crlf) := by simp [tailL, wordL_hit]
theorem tailL_short {r : By} (h : Lib.hasPrefix r closeB = false) (k : Lib.hasPrefix closeB r = true) : tailL r = (false, [], 192) := by simp [tailL, wordL_short h k]
theorem tailL_plain {r : By} (h : Lib.hasPrefix r closeB = false) (k : Lib.hasPrefix closeB r = false) : tailL r = (false, wordL r crlf) := by simp [tailL, wordL_form h k]

theorem word_bad {α : Type} (f : By × Int → α) (w : By × Int) (g : Int → α) (hg : ∀ e, e = 192 ∨ e = 193 → f ([], e) = g e) (h : w = ([], 192) ∨ w = ([], 193)) : f w = g w.2 := by
  rcases h with rfl | rfl
  · exact hg _ (.inl rfl)
  · exact hg _ (.inr rfl)

theorem tail_eq (i : Int) (n : Nat) (r3 : By) : refTail (startOf i ++ (Lib.itoa n ++ r3)) r3 i n = proTail i n r3 (startOf i ++ (Lib.itoa n ++ r3)).length := by
  cases hA : Lib.hasPrefix r3 crlf with
  | false =>
    unfold refTail
    rw [hp_out' hA, hp_out' hA]
    simp only [Bool.false_eq_true, if_false]
    cases hB : Lib.hasPrefix crlf r3 with
    | true =>
      have : Lib.hasPrefix (crlf ++ (closing false ++ crlf)) r3 = true := hp_trans (hp_self _ _) hB
      rw [this]
      simp [proTail, wordL_short hA hB]
    | false =>
      rw [hp_out hA hB, hp_out hA hB]
      simp [proTail, wordL_form hA hB]
  | true =>
    obtain ⟨r4, rfl⟩ : ∃ r4, r3 = crlf ++ r4 := ⟨_, hp_split hA⟩
    unfold refTail
    rw [hp_add, hp_add, hp_add, hp_add]
    unfold proTail
    rw [wordL_hit]
    simp only [ne_eq, not_true, if_false]
    simp only [closing, if_true, Bool.false_eq_true, if_false, List.nil_append]
    have hs : ∀ c, r4 = closing c ++ (crlf ++ r4.drop ((closing c).length + 2)) → startOf i ++ (Lib.itoa n ++ (crlf ++ r4)) = headL i n c ++ r4.drop ((closing c).length + 2) := by
      intro c e
      unfold headL
      conv => lhs; rw [e]
      simp only [List.append_assoc]
    cases hC : Lib.hasPrefix r4 closeB with
    | true =>
      obtain ⟨r5, rfl⟩ : ∃ r5, r4 = closeB ++ r5 := ⟨_, hp_split hC⟩
      have h1 : Lib.hasPrefix (closeB ++ r5) crlf = false := by
        cases h : Lib.hasPrefix (closeB ++ r5) crlf with
        | false => rfl
        | true =>
          rcases hp_two h (hp_self closeB r5) with k | k
          · rw [crlf_closeB] at k; cases k
          · rw [closeB_crlf] at k; cases k
      have h2 : Lib.hasPrefix crlf (closeB ++ r5) = false := by
        cases h : Lib.hasPrefix crlf (closeB ++ r5) with
        | false => rfl
        | true => have := hp_trans h (hp_self closeB r5); rw [crlf_closeB] at this; cases this
      rw [h1, h2, hp_add, hp_add, tailL_close]
      simp only [Bool.false_eq_true, if_false, Bool.false_or]
      cases hD : Lib.hasPrefix r5 crlf with
      | true =>
        obtain ⟨r6, rfl⟩ : ∃ r6, r5 = crlf ++ r6 := ⟨_, hp_split hD⟩
        rw [wordL_hit]
        simp only [not_true, if_false, if_true]
        have := hs true (by simp [closing, crlf])
        rw [this]
        simp only [closing, if_true]
        rw [show (closeB ++ (crlf ++ r6)).drop (closeB.length + 2) = r6 by simp [crlf, ← List.drop_drop]]
        exact body_eq i n true r6
      | false =>
        cases hE : Lib.hasPrefix crlf r5 with
        | true => simp [wordL_short hD hE]
        | false => simp [wordL_form hD hE]
    | false =>
      rw [hp_out' hC]
      cases hD : Lib.hasPrefix closeB r4 with
      | true =>
        have h0 : Lib.hasPrefix (closeB ++ crlf) r4 = true := hp_trans (hp_self _ _) hD
        have h1 : Lib.hasPrefix r4 crlf = false := by
          cases h : Lib.hasPrefix r4 crlf with
          | false => rfl
          | true => have := hp_trans hD h; rw [closeB_crlf] at this; cases this
        rw [h0, h1, tailL_short hC hD]
        simp
      | false =>
        rw [hp_out hC hD, tailL_plain hC hD]
        simp only [Bool.or_false]
        cases hE : Lib.hasPrefix r4 crlf with
        | true =>
          obtain ⟨r6, rfl⟩ : ∃ r6, r4 = crlf ++ r6 := ⟨_, hp_split hE⟩
          rw [wordL_hit]
          simp only [not_true, if_false, if_true]
          have := hs false (by simp [closing, crlf])
          rw [this]
          simp only [closing, Bool.false_eq_true, if_false]
          rw [show (crlf ++ r6).drop (([] : By).length + 2) = r6 by simp [crlf]]
          exact body_eq i n false r6
        | false =>
          cases hF : Lib.hasPrefix crlf r4 with
          | true => simp [wordL_short hE hF]
          | false => simp [wordL_form hE hF]
end Go.Proofs.YtakbejphbnbepaaDoor.P19
