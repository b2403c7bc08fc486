/-
  Plain laws of layer 12, first part: names, fields, records; what is written; escapes. No condition, no program in sight.
  Decimal numerals in plain Lean: what digits spell, and back. No condition, no program in sight here.
-/
import Derived.Lib.AtoiAll
import Derived.Lib.AtoiAllCases
import Derived.Lib.ItoaMem
import Derived.Lib.ItoaLen

namespace Go.Proofs.YtfkmgnldkmpeiaaGreatDoor.P12
open Go
abbrev By := List UInt8

/-- A field: a name, and an integer or a text. -/
structure Fld where
  name : By
  text : Bool
  n : Int
  s : By
deriving DecidableEq

def low (c : UInt8) : Bool := decide (97 ≤ c) && decide (c ≤ 122)
def digit (c : UInt8) : Bool := decide (48 ≤ c) && decide (c ≤ 57)
def okName (c : UInt8) : Bool := low c || digit c || c == 95
def nameL (s : By) : Bool := match s with
  | [] => false
  | c :: _ => decide (s.length ≤ 32) && low c && s.all okName
def fieldL (f : Fld) : Int := if nameL f.name = false then 121 else if (f.text = true ∧ (f.n ≠ 0 ∨ 200 < f.s.length)) ∨ (f.text = false ∧ f.s ≠ []) then 122 else 0
/-- The fields one by one; 'p': the name ahead, if there is one. -/
def chk : Option By → List Fld → Int
  | _, [] => 0
  | p, f :: r => if fieldL f ≠ 0 then fieldL f else match p with
    | none => chk (some f.name) r
    | some q => if f.name ≤ q then 123 else chk (some f.name) r
def checkL (r : List Fld) : Int := if 16 < r.length then 120 else chk none r

def plainC (c : UInt8) : Bool := low c || (decide (65 ≤ c) && decide (c ≤ 90)) || digit c || c == 45 || c == 46 || c == 95 || c == 126
def hexD (n : Nat) : UInt8 := if n < 10 then (48 + n).toUInt8 else (55 + n).toUInt8
def escC (c : UInt8) : By := if plainC c then [c] else [37, hexD (c.toNat / 16), hexD (c.toNat % 16)]
def escL (s : By) : By := s.flatMap escC
/-- A hexadecimal digit's value. -/
def hexV (c : UInt8) : Option Nat :=
  if 48 ≤ c ∧ c ≤ 57 then some (c.toNat - 48) else if 97 ≤ c ∧ c ≤ 102 then some (c.toNat - 87) else if 65 ≤ c ∧ c ≤ 70 then some (c.toNat - 55) else none
def unescL : By → Option By
  | [] => some []
  | c :: l =>
    if plainC c then (unescL l).map (c :: ·)
    else if c = 37 then
      match l with
      | a :: b :: l' => match hexV a, hexV b with
        | some x, some y => (unescL l').map ((16 * x + y).toUInt8 :: ·)
        | _, _ => none
      | _ => none
    else none
termination_by s => s.length

theorem unesc_nil : unescL [] = some [] := by rw [unescL]
theorem unesc_plain {c : UInt8} (h : plainC c = true) (l : By) : unescL (c :: l) = (unescL l).map (c :: ·) := by rw [unescL.eq_def]; simp only [h, if_true]
theorem unesc_hex {a b : UInt8} {x y : Nat} (ha : hexV a = some x) (hb : hexV b = some y) (l : By) : unescL (37 :: a :: b :: l) = (unescL l).map ((16 * x + y).toUInt8 :: ·) := by
  have : plainC 37 = false := by decide
  rw [unescL.eq_def]
  simp only [this, ha, hb]
  rfl
theorem hexV_hexD : ∀ n : Fin 16, hexV (hexD n) = some n.1 := by decide
theorem hexV_D {n : Nat} (h : n < 16) : hexV (hexD n) = some n := hexV_hexD ⟨n, h⟩
/-- EVERY TEXT IS WHAT ITS ESCAPED BYTES STAND FOR. -/
theorem unesc_esc (s : By) (l : By) : unescL (escL s ++ l) = (unescL l).map (s ++ ·) := by
  induction s with
  | nil => simp [escL]
  | cons c s ih =>
    have e : escL (c :: s) ++ l = escC c ++ (escL s ++ l) := by simp [escL]
    rw [e]
    unfold escC
    have hc := c.toNat_lt
    by_cases h : plainC c = true
    · rw [if_pos h, List.singleton_append, unesc_plain h, ih]
      cases unescL l <;> rfl
    · rw [if_neg h]
      show unescL (37 :: hexD (c.toNat / 16) :: hexD (c.toNat % 16) :: (escL s ++ l)) = _
      rw [unesc_hex (hexV_D (by omega)) (hexV_D (by omega)), ih]
      have : (16 * (c.toNat / 16) + c.toNat % 16).toUInt8 = c := by
        rw [show 16 * (c.toNat / 16) + c.toNat % 16 = c.toNat by omega]
        simp
      rw [this]
      cases unescL l <;> rfl
theorem unesc_of_esc (s : By) : unescL (escL s) = some s := by
  have := unesc_esc s []
  rwa [List.append_nil, unesc_nil, Option.map_some, List.append_nil] at this
theorem esc_inj {s t : By} (h : escL s = escL t) : s = t := by
  have := unesc_of_esc s
  rw [h, unesc_of_esc] at this
  exact (Option.some.inj this).symm
/-- Only bytes that stand as they are, and escapes, come. -/
def fine (c : UInt8) : Bool := decide (32 < c) && decide (c ≤ 126) && c != 38 && c != 61 && c != 47 && c != 124
theorem escC_fine : ∀ c : UInt8, ((escC c).all fine) = true := by
  have h : ((List.range 256).all fun n => (escC n.toUInt8).all fine) = true := by decide +kernel
  intro c
  have := List.all_eq_true.1 h c.toNat (List.mem_range.2 c.toNat_lt)
  simpa using this
theorem escL_fine (s : By) : ∀ c ∈ escL s, fine c = true := by
  intro c hc
  obtain ⟨d, hd, hcd⟩ := List.mem_flatMap.1 hc
  exact List.all_eq_true.1 (escC_fine d) c hcd
end Go.Proofs.YtfkmgnldkmpeiaaGreatDoor.P12

namespace Go.Proofs.YtfkmgnldkmpeiaaGreatDoor.Dig
open Go
abbrev By := List UInt8

def isDig (c : UInt8) : Bool := decide (48 ≤ c.toNat ∧ c.toNat ≤ 57)
def valFrom (v : Nat) (l : List UInt8) : Nat := l.foldl (fun n c => 10 * n + (c.toNat - 48)) v
theorem valFrom_nil (v : Nat) : valFrom v [] = v := List.foldl_nil
theorem valFrom_cons (v : Nat) (c : UInt8) (l : List UInt8) : valFrom v (c :: l) = valFrom (10 * v + (c.toNat - 48)) l := List.foldl_cons ..
def val (l : By) : Nat := valFrom 0 l
theorem isDig_iff {c : UInt8} : isDig c = true ↔ 48 ≤ c.toNat ∧ c.toNat ≤ 57 := by simp [isDig]
theorem byte_of {c : UInt8} (h : 48 ≤ c.toNat) : UInt8.ofNat (48 + (c.toNat - 48)) = c := by
  rw [show 48 + (c.toNat - 48) = c.toNat by omega]; simp
theorem decDigits_step {v x : Nat} (hv : 1 ≤ v) (hx : x < 10) : Lib.decDigits (10 * v + x) = Lib.decDigits v ++ [UInt8.ofNat (48 + x)] := by
  rw [Lib.decDigits, dif_neg (by omega), show (10 * v + x) / 10 = v by omega, show (10 * v + x) % 10 = x by omega]
theorem decDigits_valFrom : ∀ (l : By) (v : Nat), 1 ≤ v → (∀ c ∈ l, isDig c = true) → Lib.decDigits (valFrom v l) = Lib.decDigits v ++ l
  | [], v, _, _ => by simp [valFrom_nil]
  | c :: l, v, hv, hl => by
    have hc := isDig_iff.1 (hl c (by simp))
    rw [valFrom_cons, decDigits_valFrom l _ (by omega) (fun d hd => hl d (by simp [hd])), decDigits_step hv (by omega), byte_of hc.1]
    simp
theorem decDigits_val {l : By} (h0 : l ≠ []) (hl : ∀ c ∈ l, isDig c = true) (hz : ¬ (1 < l.length ∧ l.head? = some 48)) : Lib.decDigits (val l) = l := by
  cases l with
  | nil => exact absurd rfl h0
  | cons c l =>
    have hc := isDig_iff.1 (hl c (by simp))
    have h1 : Lib.decDigits (c.toNat - 48) = [c] := by rw [Lib.decDigits_one (by omega), byte_of hc.1]
    unfold val
    rw [valFrom_cons]
    cases l with
    | nil => simp [valFrom_nil, h1]
    | cons d l =>
      have hne : c.toNat ≠ 48 := by
        intro e
        apply hz
        refine ⟨by simp, ?_⟩
        have : c = 48 := by apply UInt8.toNat_inj.1; simpa using e
        simp [this]
      rw [decDigits_valFrom _ _ (by omega) (fun e he => hl e (List.mem_cons_of_mem _ he)), Nat.mul_zero, Nat.zero_add, h1]
      rfl
theorem valFrom_ge : ∀ (l : By) (v : Nat), v * 10 ^ l.length ≤ valFrom v l
  | [], v => by simp [valFrom_nil]
  | c :: l, v => by
    rw [valFrom_cons]
    refine Nat.le_trans ?_ (valFrom_ge l _)
    rw [List.length_cons, Nat.pow_succ, Nat.mul_comm (10 ^ l.length) 10, ← Nat.mul_assoc]
    exact Nat.mul_le_mul_right _ (by omega)
theorem dig_byte {x : Nat} (hx : x < 10) : (UInt8.ofNat (48 + x)).toNat = 48 + x := by
  rw [UInt8.toNat_ofNat']; omega
theorem decDigits_all : ∀ (n : Nat), ∀ c ∈ Lib.decDigits n, isDig c = true := by
  intro n
  induction n using Nat.strongRecOn with
  | ind n ih =>
    intro c hc
    rw [Lib.decDigits] at hc
    split at hc
    · rename_i h
      simp only [List.mem_singleton] at hc
      subst hc
      rw [isDig_iff, dig_byte h]; omega
    · rename_i h
      rcases List.mem_append.1 hc with h1 | h1
      · exact ih (n / 10) (by omega) c h1
      · simp only [List.mem_singleton] at h1
        subst h1
        rw [isDig_iff, dig_byte (by omega)]; omega
theorem val_decDigits : ∀ (n : Nat), val (Lib.decDigits n) = n := by
  intro n
  induction n using Nat.strongRecOn with
  | ind n ih =>
    rw [Lib.decDigits]
    split
    · rename_i h
      unfold val
      rw [valFrom_cons, valFrom_nil, dig_byte h]; omega
    · rename_i h
      have := ih (n / 10) (by omega)
      unfold val valFrom at this ⊢
      rw [List.foldl_append, this]
      simp only [List.foldl_cons, List.foldl_nil]
      rw [dig_byte (by omega)]; omega
theorem decDigits_ne (n : Nat) : Lib.decDigits n ≠ [] := by
  intro h
  have := Lib.decDigits_length n
  rw [h] at this
  have := Lib.nDigits_pos n
  simp at *
  omega
theorem decDigits_head : ∀ (n : Nat), ¬ (1 < (Lib.decDigits n).length ∧ (Lib.decDigits n).head? = some 48) := by
  intro n
  induction n using Nat.strongRecOn with
  | ind n ih =>
    rw [Lib.decDigits]
    split
    · simp
    · rename_i h
      rintro ⟨-, h2⟩
      by_cases h3 : n / 10 < 10
      · rw [Lib.decDigits_one h3] at h2
        simp only [List.cons_append, List.head?_cons, Option.some.injEq] at h2
        have h4 := congrArg UInt8.toNat h2
        rw [dig_byte h3] at h4
        have : (48 : UInt8).toNat = 48 := rfl
        omega
      · apply ih (n / 10) (by omega)
        constructor
        · rw [Lib.decDigits_length, Lib.nDigits_big h3]
          have := Lib.nDigits_pos (n / 10 / 10)
          omega
        · cases hd : Lib.decDigits (n / 10) with
          | nil => exact absurd hd (decDigits_ne _)
          | cons c l => rw [hd] at h2; simpa using h2

theorem itoa_nat (n : Nat) : Lib.itoa (n : Int) = Lib.decDigits n := Lib.itoa_nonneg n
theorem valFrom_mono : ∀ (l : By) (v : Nat), v ≤ valFrom v l
  | l, v => by
    have h1 : 1 ≤ 10 ^ l.length := Nat.one_le_pow _ _ (by decide)
    exact Nat.le_trans (Nat.le_mul_of_pos_right _ h1) (valFrom_ge l v)
/-- Digits, as ParseUint reads them. -/
theorem parse_digits : ∀ (l : By) (acc : Nat), (∀ c ∈ l, isDig c = true) → valFrom acc l < 18446744073709551616 → Lib.parseUint10 acc l = .ok (valFrom acc l)
  | [], acc, _, _ => by simp [Lib.parseUint10, valFrom_nil]
  | c :: l, acc, hl, hv => by
    have hc := isDig_iff.1 (hl c (by simp))
    rw [valFrom_cons] at hv ⊢
    have hle := valFrom_mono l (10 * acc + (c.toNat - 48))
    rw [Lib.parseUint10, if_pos hc, if_neg (by omega), if_neg (by omega), Nat.mul_comm acc 10]
    exact parse_digits l _ (fun d hd => hl d (by simp [hd])) hv
theorem parse_dec (n : Nat) (h : n < 18446744073709551616) : Lib.parseMag (Lib.decDigits n) = .ok n := by
  unfold Lib.parseMag
  rw [if_neg (decDigits_ne n)]
  have := parse_digits (Lib.decDigits n) 0 (decDigits_all n) (by have := val_decDigits n; unfold val at this; rw [this]; exact h)
  rw [this]
  have := val_decDigits n
  unfold val at this
  rw [this]
theorem dec_head (n : Nat) : ∃ c l, Lib.decDigits n = c :: l ∧ isDig c = true := by
  cases h : Lib.decDigits n with
  | nil => exact absurd h (decDigits_ne n)
  | cons c l => exact ⟨c, l, rfl, decDigits_all n c (by rw [h]; simp)⟩
/-- What Itoa writes Atoi reads. -/
theorem atoi_itoa (n : Int) (h0 : -9223372036854775808 ≤ n) (h1 : n ≤ 9223372036854775807) : Lib.atoiAll (Lib.itoa n) = .ok n := by
  unfold Lib.itoa
  by_cases hn : n < 0
  · rw [if_pos hn]
    unfold Lib.atoiAll
    have e1 : ((45 : UInt8).toNat = 45) = True := by decide
    simp only [e1, or_true, if_true]
    rw [parse_dec _ (by omega)]
    simp only [not_true, false_and, if_false, true_and]
    rw [if_neg (by omega), show -(n.natAbs : Int) = n by omega]
  · rw [if_neg hn]
    obtain ⟨c, l, hc, hd⟩ := dec_head n.toNat
    have hp := parse_dec n.toNat (by omega)
    rw [hc] at hp ⊢
    rw [isDig_iff] at hd
    unfold Lib.atoiAll
    have e1 : (c.toNat = 45) = False := by simp; omega
    have e2 : (c.toNat = 43) = False := by simp; omega
    simp only [e1, e2, or_self, if_false]
    rw [hp]
    simp only [not_false_eq_true, true_and, false_and, if_false]
    rw [if_neg (by omega), show ((n.toNat : Nat) : Int) = n by omega]
/-- What Atoi reads is an int. -/
theorem atoi_int {l : By} {v : Int} (h : Lib.atoiAll l = .ok v) : -9223372036854775808 ≤ v ∧ v ≤ 9223372036854775807 := by
  unfold Lib.atoiAll at h
  cases l with
  | nil => cases h
  | cons c r =>
    simp only at h
    split at h
    · cases h
    · cases h
    · split at h
      · cases h
      · split at h
        · cases h
        · injection h with h
          split at h <;> omega

/-- The int that a text is, as Itoa writes it. -/
def numL (s : By) : Option Int := match Lib.atoiAll s with
  | .ok v => if Lib.itoa v = s then some v else none
  | _ => none
theorem numL_itoa (n : Int) (h0 : -9223372036854775808 ≤ n) (h1 : n ≤ 9223372036854775807) : numL (Lib.itoa n) = some n := by
  unfold numL
  rw [atoi_itoa n h0 h1]
  simp
theorem numL_is {s : By} {v : Int} (h : numL s = some v) : s = Lib.itoa v ∧ -9223372036854775808 ≤ v ∧ v ≤ 9223372036854775807 := by
  unfold numL at h
  split at h
  · rename_i u hu
    split at h
    · rename_i he
      injection h with h
      subst h
      exact ⟨he.symm, atoi_int hu⟩
    · cases h
  · cases h

/-- The reference's way: digit by digit; 'm': what has been read. -/
def accN : Nat → By → Option Nat
  | m, [] => some m
  | m, c :: l => if isDig c = true then (if 9223372036854775808 < 10 * m + (c.toNat - 48) then none else accN (10 * m + (c.toNat - 48)) l) else none
def restOf (s : By) : By := if s.head? = some 45 then s.tail else s
def refNum (s : By) : Option Int :=
  if (restOf s).length < 1 ∨ 19 < (restOf s).length ∨ ((restOf s).head? = some 48 ∧ s ≠ [48]) then none else
  match accN 0 (restOf s) with
  | none => none
  | some m => if (restOf s).length < s.length then some (-(m : Int)) else if m = 9223372036854775808 then none else some m
theorem accN_digits : ∀ (l : By) (m : Nat), (∀ c ∈ l, isDig c = true) → valFrom m l ≤ 9223372036854775808 → accN m l = some (valFrom m l)
  | [], m, _, _ => by rw [accN, valFrom_nil]
  | c :: l, m, hl, hv => by
    rw [valFrom_cons] at hv ⊢
    have hle := valFrom_mono l (10 * m + (c.toNat - 48))
    rw [accN, if_pos (hl c (by simp)), if_neg (by omega)]
    exact accN_digits l _ (fun d hd => hl d (by simp [hd])) hv
theorem accN_some : ∀ (l : By) (m u : Nat), m ≤ 9223372036854775808 → accN m l = some u → (∀ c ∈ l, isDig c = true) ∧ u = valFrom m l ∧ u ≤ 9223372036854775808
  | [], m, u, hm, h => by
    rw [accN] at h
    injection h with h
    subst h
    exact ⟨by simp, (valFrom_nil m).symm, hm⟩
  | c :: l, m, u, hm, h => by
    rw [accN] at h
    split at h
    · rename_i hc
      split at h
      · cases h
      · rename_i hb
        obtain ⟨h1, h2, h3⟩ := accN_some l _ u (by omega) h
        refine ⟨?_, by rw [valFrom_cons]; exact h2, h3⟩
        intro d hd
        rcases List.mem_cons.1 hd with rfl | hd
        · exact hc
        · exact h1 d hd
    · cases h
theorem nDigits_19 {n : Nat} (h : n ≤ 9223372036854775808) : (Lib.decDigits n).length ≤ 19 := by
  refine Classical.byContradiction fun hc => ?_
  have h1 := decDigits_head n
  have h2 := val_decDigits n
  cases hd : Lib.decDigits n with
  | nil => rw [hd] at hc; simp at hc
  | cons c l =>
    rw [hd] at hc h1 h2
    have hcd := decDigits_all n c (by rw [hd]; simp)
    rw [isDig_iff] at hcd
    have h48 : c.toNat ≠ 48 := by
      intro e
      exact h1 ⟨by simp at hc ⊢; omega, by simp; exact UInt8.toNat_inj.1 (by simpa using e)⟩
    unfold val at h2
    rw [valFrom_cons] at h2
    have hge := valFrom_ge l (10 * 0 + (c.toNat - 48))
    have hp : 10 ^ 19 ≤ 10 ^ l.length := Nat.pow_le_pow_right (by decide) (by simp at hc; omega)
    have : 10 ^ l.length ≤ (10 * 0 + (c.toNat - 48)) * 10 ^ l.length := Nat.le_mul_of_pos_left _ (by omega)
    omega
/-- The reference's numbers are the program's. -/
theorem refNum_eq (s : By) : refNum s = numL s := by
  cases hn : numL s with
  | some v =>
    obtain ⟨rfl, h0, h1⟩ := numL_is hn
    clear hn
    unfold Lib.itoa
    by_cases hv : v < 0
    · rw [if_pos hv]
      have hr : restOf (45 :: Lib.decDigits v.natAbs) = Lib.decDigits v.natAbs := by simp [restOf]
      obtain ⟨c, l, hc, hd⟩ := dec_head v.natAbs
      have hz := decDigits_head v.natAbs
      have h19 := nDigits_19 (n := v.natAbs) (by omega)
      have hval := val_decDigits v.natAbs
      have hall := decDigits_all v.natAbs
      unfold refNum
      rw [hr]
      have hne : ¬ ((Lib.decDigits v.natAbs).head? = some 48) := by
        intro e
        have h2 : ¬ 1 < (Lib.decDigits v.natAbs).length := fun h => hz ⟨h, e⟩
        rw [hc] at e h2 hval
        simp at e h2
        subst e
        rw [h2] at hval
        have : val [48] = 0 := by decide
        omega
      have hlp : 1 ≤ (Lib.decDigits v.natAbs).length := by rw [hc]; simp
      rw [if_neg (by rintro (h | h | h); omega; omega; exact hne h.1), accN_digits _ 0 hall (by unfold val at hval; omega)]
      unfold val at hval
      rw [hval]
      simp only [List.length_cons]
      rw [if_pos (by omega), show -(v.natAbs : Int) = v by omega]
    · rw [if_neg hv]
      obtain ⟨c, l, hc, hd⟩ := dec_head v.toNat
      have hz := decDigits_head v.toNat
      have h19 := nDigits_19 (n := v.toNat) (by omega)
      have hval := val_decDigits v.toNat
      have hall := decDigits_all v.toNat
      have hr : restOf (Lib.decDigits v.toNat) = Lib.decDigits v.toNat := by
        unfold restOf
        rw [if_neg]
        rw [hc]
        simp
        rintro rfl
        exact absurd hd (by decide)
      unfold refNum
      rw [hr]
      have hne : ¬ ((Lib.decDigits v.toNat).head? = some 48 ∧ Lib.decDigits v.toNat ≠ [48]) := by
        rintro ⟨e, e2⟩
        have h2 : ¬ 1 < (Lib.decDigits v.toNat).length := fun h => hz ⟨h, e⟩
        apply e2
        rw [hc] at e h2 ⊢
        simp at e h2
        rw [e, h2]
      have hlp : 1 ≤ (Lib.decDigits v.toNat).length := by rw [hc]; simp
      rw [if_neg (by rintro (h | h | h); omega; omega; exact hne h), accN_digits _ 0 hall (by unfold val at hval; omega)]
      unfold val at hval
      rw [hval]
      simp only
      rw [if_neg (by omega), if_neg (by omega), show ((v.toNat : Nat) : Int) = v by omega]
  | none =>
    cases hr : refNum s with
    | none => rfl
    | some v =>
      exfalso
      have hs : s = Lib.itoa v ∧ -9223372036854775808 ≤ v ∧ v ≤ 9223372036854775807 := by
        unfold refNum at hr
        split at hr
        · cases hr
        · rename_i hg
          split at hr
          · cases hr
          · rename_i m hm
            obtain ⟨hall, hmv, hmb⟩ := accN_some _ 0 m (by omega) hm
            have hne : restOf s ≠ [] := by intro e; apply hg; left; rw [e]; simp
            by_cases hneg : s.head? = some 45
            · have hrs : restOf s = s.tail := by unfold restOf; rw [if_pos hneg]
              have hsc : s = 45 :: s.tail := by
                cases s with
                | nil => simp at hneg
                | cons c l => simp at hneg; rw [hneg]; rfl
              have h1 : s.length = s.tail.length + 1 := congrArg List.length hsc
              have hlt : (restOf s).length < s.length := by rw [hrs, h1]; exact Nat.lt_succ_self _
              rw [if_pos hlt] at hr
              injection hr with hr
              have h48 : (restOf s).head? ≠ some 48 := by
                intro e
                apply hg
                right; right
                refine ⟨e, ?_⟩
                intro e2
                rw [e2] at hneg
                exact absurd hneg (by decide)
              have hd := decDigits_val hne hall (fun h => h48 h.2)
              have hm0 : m ≠ 0 := by
                intro e
                have hv0 : val (restOf s) = 0 := by unfold val; rw [← hmv, e]
                rw [hv0, Lib.decDigits_one (by omega)] at hd
                apply h48
                rw [← hd]; rfl
              refine ⟨?_, by omega, by omega⟩
              unfold Lib.itoa
              rw [if_pos (by omega), show v.natAbs = m by omega]
              have : Lib.decDigits m = restOf s := by rw [hmv]; exact hd
              rw [this, hrs]
              exact hsc
            · have hrs : restOf s = s := by unfold restOf; rw [if_neg hneg]
              rw [hrs] at hr hall hmv hne hg
              rw [if_neg (Nat.lt_irrefl _)] at hr
              split at hr
              · cases hr
              · rename_i hmx
                injection hr with hr
                have hz : ¬ (1 < s.length ∧ s.head? = some 48) := by
                  rintro ⟨h1, h2⟩
                  apply hg
                  right; right
                  refine ⟨h2, ?_⟩
                  intro e
                  rw [e] at h1
                  simp at h1
                have hd := decDigits_val hne hall hz
                refine ⟨?_, by omega, by omega⟩
                unfold Lib.itoa
                rw [if_neg (by omega), show v.toNat = m by omega]
                rw [hmv]
                exact hd.symm
      rw [hs.1, numL_itoa v hs.2.1 hs.2.2] at hn
      cases hn
end Go.Proofs.YtfkmgnldkmpeiaaGreatDoor.Dig
