/-
  Replies as plain Lean: the reference reads every text as the program does; what is written is read again; nothing of a part is read. No program is in sight here. Conditions: none.
-/
import Derived.Test.YtakbejphbnbepaaDoorPlainA
namespace Go.Proofs.YtakbejphbnbepaaDoor.P19
open Go

/-! ## Beginnings of texts -/
theorem hp_iff {s p : By} : Lib.hasPrefix s p = true ↔ p <+: s := List.isPrefixOf_iff_prefix
theorem hp_add (a s p : By) : Lib.hasPrefix (a ++ s) (a ++ p) = Lib.hasPrefix s p := by
  rw [Bool.eq_iff_iff, hp_iff, hp_iff]; exact List.prefix_append_right_inj a
theorem hp_self (a s : By) : Lib.hasPrefix (a ++ s) a = true := hp_iff.2 (List.prefix_append a s)
theorem hp_nil (s : By) : Lib.hasPrefix s [] = true := by simp [Lib.hasPrefix]
theorem hp_split {s p : By} (h : Lib.hasPrefix s p = true) : s = p ++ s.drop p.length := by
  obtain ⟨t, rfl⟩ := hp_iff.1 h
  simp
theorem hp_trans {a b c : By} (h : Lib.hasPrefix a b = true) (k : Lib.hasPrefix b c = true) : Lib.hasPrefix a c = true :=
  hp_iff.2 ((hp_iff.1 k).trans (hp_iff.1 h))
/-- Two beginnings of one text: one begins with the other. -/
theorem hp_two {s a b : By} (h : Lib.hasPrefix s a = true) (k : Lib.hasPrefix s b = true) : Lib.hasPrefix a b = true ∨ Lib.hasPrefix b a = true := by
  have h' := hp_iff.1 h
  have k' := hp_iff.1 k
  rcases Nat.le_total a.length b.length with hl | hl
  · exact .inr (hp_iff.2 (List.prefix_of_prefix_length_le h' k' hl))
  · exact .inl (hp_iff.2 (List.prefix_of_prefix_length_le k' h' hl))
/-- A text that neither begins with p nor is a beginning of p is no beginning of what begins with p. -/
theorem hp_out {r p x : By} (h1 : Lib.hasPrefix r p = false) (h2 : Lib.hasPrefix p r = false) : Lib.hasPrefix (p ++ x) r = false := by
  cases h : Lib.hasPrefix (p ++ x) r with
  | false => rfl
  | true =>
    rcases hp_two h (hp_self p x) with k | k
    · rw [h1] at k; cases k
    · rw [h2] at k; cases k
theorem hp_out' {r p x : By} (h1 : Lib.hasPrefix r p = false) : Lib.hasPrefix r (p ++ x) = false := by
  cases h : Lib.hasPrefix r (p ++ x) with
  | false => rfl
  | true => rw [hp_trans h (hp_self p x)] at h1; cases h1

/-! ## The statuses' first lines: none begins with another one -/
theorem itoa_stats : stats.map Lib.itoa = [[50, 48, 48], [52, 48, 48], [52, 48, 52], [52, 48, 53], [52, 48, 57], [52, 49, 51], [52, 50, 50], [52, 51, 49], [53, 48, 49], [53, 48, 51], [53, 48, 55]] := by
  simp [stats, Lib.itoa, Lib.decDigits]
theorem firsts : stats.map first = (stats.zip [[50, 48, 48], [52, 48, 48], [52, 48, 52], [52, 48, 53], [52, 48, 57], [52, 49, 51], [52, 50, 50], [52, 51, 49], [53, 48, 49], [53, 48, 51], [53, 48, 55]]).map fun x => verB ++ (x.2 ++ ([32] ++ (reason x.1 ++ crlf))) := by
  rw [← itoa_stats]; rfl
def firstC (s : Int) : By := verB ++ ((if s = 200 then [50, 48, 48] else if s = 400 then [52, 48, 48] else if s = 404 then [52, 48, 52] else if s = 405 then [52, 48, 53] else if s = 409 then [52, 48, 57] else if s = 413 then [52, 49, 51] else if s = 422 then [52, 50, 50] else if s = 431 then [52, 51, 49] else if s = 501 then [53, 48, 49] else if s = 503 then [53, 48, 51] else [53, 48, 55]) ++ ([32] ++ (reason s ++ crlf)))
theorem first_eq : ∀ i ∈ stats, first i = firstC i := by
  intro i hi
  simp only [stats, List.mem_cons, List.mem_nil_iff, or_false] at hi
  rcases hi with rfl | rfl | rfl | rfl | rfl | rfl | rfl | rfl | rfl | rfl | rfl <;> simp [first, firstC, Lib.itoa, Lib.decDigits]
theorem firstC_free : (stats.all fun i => stats.all fun j => !(Lib.hasPrefix (firstC j) (firstC i)) || i == j) = true := by decide +kernel
theorem first_free {i j : Int} (hi : i ∈ stats) (hj : j ∈ stats) (h : Lib.hasPrefix (first j) (first i) = true) : i = j := by
  rw [first_eq i hi, first_eq j hj] at h
  have := List.all_eq_true.1 (List.all_eq_true.1 firstC_free i hi) j hj
  rw [h] at this
  simpa using this
theorem first_one {s : By} {i j : Int} (hi : i ∈ stats) (hj : j ∈ stats) (h : Lib.hasPrefix s (first i) = true) (k : Lib.hasPrefix s (first j) = true) : i = j := by
  rcases hp_two h k with e | e
  · exact (first_free hj hi e).symm
  · exact first_free hi hj e

theorem reason_stats (s : Int) : reason s ≠ [] ↔ s ∈ stats := by
  constructor
  · intro h
    refine Classical.byContradiction fun hn => h ?_
    simp only [stats, List.mem_cons, List.mem_nil_iff, or_false, not_or] at hn
    obtain ⟨h1, h2, h3, h4, h5, h6, h7, h8, h9, h10, h11⟩ := hn
    unfold reason
    rw [if_neg h1, if_neg h2, if_neg h3, if_neg h4, if_neg h5, if_neg h6, if_neg h7, if_neg h8, if_neg h9, if_neg h10, if_neg h11]
  · intro h
    simp only [stats, List.mem_cons, List.mem_nil_iff, or_false] at h
    rcases h with rfl | rfl | rfl | rfl | rfl | rfl | rfl | rfl | rfl | rfl | rfl <;> decide

/-! ## Numbers -/
theorem isDig_iff {c : UInt8} : isDig c = true ↔ 48 ≤ c.toNat ∧ c.toNat ≤ 57 := by simp [isDig]
theorem byte_of {c : UInt8} (h : 48 ≤ c.toNat) : UInt8.ofNat (48 + (c.toNat - 48)) = c := by
  rw [show 48 + (c.toNat - 48) = c.toNat by omega]; simp
theorem decDigits_step {v x : Nat} (hv : 1 ≤ v) (hx : x < 10) : Lib.decDigits (10 * v + x) = Lib.decDigits v ++ [UInt8.ofNat (48 + x)] := by
  rw [Lib.decDigits, dif_neg (by omega), show (10 * v + x) / 10 = v by omega, show (10 * v + x) % 10 = x by omega]
theorem decDigits_valFrom : ∀ (l : By) (v : Nat), 1 ≤ v → (∀ c ∈ l, isDig c = true) → Lib.decDigits (valFrom v l) = Lib.decDigits v ++ l
  | [], v, _, _ => by simp [valFrom_nil]
  | c :: l, v, hv, hl => by
    have hc := isDig_iff.1 (hl c (by simp))
    rw [valFrom_cons, decDigits_valFrom l _ (by omega) (fun d hd => hl d (by simp [hd])), decDigits_step hv (by omega), byte_of hc.1]
    simp
theorem decDigits_val {l : By} (h0 : l ≠ []) (hl : ∀ c ∈ l, isDig c = true) (hz : ¬ (1 < l.length ∧ l.head? = some 48)) : Lib.decDigits (val l) = l := by
  cases l with
  | nil => exact absurd rfl h0
  | cons c l =>
    have hc := isDig_iff.1 (hl c (by simp))
    have h1 : Lib.decDigits (c.toNat - 48) = [c] := by rw [Lib.decDigits_one (by omega), byte_of hc.1]
    unfold val
    rw [valFrom_cons]
    cases l with
    | nil => simp [valFrom_nil, h1]
    | cons d l =>
      have hne : c.toNat ≠ 48 := by
        intro e
        apply hz
        refine ⟨by simp, ?_⟩
        have : c = 48 := by apply UInt8.toNat_inj.1; simpa using e
        simp [this]
      rw [decDigits_valFrom _ _ (by omega) (fun e he => hl e (List.mem_cons_of_mem _ he)), Nat.mul_zero, Nat.zero_add, h1]
      rfl
theorem valFrom_ge : ∀ (l : By) (v : Nat), v * 10 ^ l.length ≤ valFrom v l
  | [], v => by simp [valFrom_nil]
  | c :: l, v => by
    rw [valFrom_cons]
    refine Nat.le_trans ?_ (valFrom_ge l _)
    rw [List.length_cons, Nat.pow_succ, Nat.mul_comm (10 ^ l.length) 10, ← Nat.mul_assoc]
    exact Nat.mul_le_mul_right _ (by omega)
theorem val_big {l : By} (h7 : l.length = 7) (hl : ∀ c ∈ l, isDig c = true) (hz : l.head? ≠ some 48) : 100000 < val l := by
  cases l with
  | nil => simp at h7
  | cons c l =>
    have hc := isDig_iff.1 (hl c (by simp))
    have hne : c.toNat ≠ 48 := by
      intro e
      have : c = 48 := by apply UInt8.toNat_inj.1; simpa using e
      exact hz (by simp [this])
    unfold val
    rw [valFrom_cons]
    have := valFrom_ge l (10 * 0 + (c.toNat - 48))
    have h6 : l.length = 6 := by simpa using h7
    rw [h6] at this
    omega
theorem digs_take (s : By) (n : Nat) : (s.take n).takeWhile isDig = (digs s).take n := by
  unfold digs
  induction s generalizing n with
  | nil => simp
  | cons c s ih =>
    cases n with
    | zero => simp
    | succ n =>
      rw [List.take_succ_cons, List.takeWhile_cons, List.takeWhile_cons]
      cases isDig c <;> simp [ih]
theorem digs_all (s : By) : ∀ c ∈ digs s, isDig c = true := by
  intro c hc
  unfold digs at hc
  induction s with
  | nil => simp at hc
  | cons d s ih =>
    rw [List.takeWhile_cons] at hc
    cases hd : isDig d with
    | false => rw [hd] at hc; simp at hc
    | true =>
      rw [hd] at hc
      rcases List.mem_cons.1 hc with rfl | h
      · exact hd
      · exact ih h
theorem digs_split (s : By) : s = digs s ++ s.drop (digs s).length := by
  have h : digs s <+: s := List.takeWhile_prefix _
  exact hp_split (hp_iff.2 h)
theorem digs_head {s : By} (h : digs s ≠ []) : (digs s).head? = s.head? := by
  cases s with
  | nil => simp [digs] at h
  | cons c s =>
    unfold digs at h ⊢
    rw [List.takeWhile_cons] at h ⊢
    cases hc : isDig c with
    | false => rw [hc] at h; simp at h
    | true => simp
end Go.Proofs.YtakbejphbnbepaaDoor.P19
