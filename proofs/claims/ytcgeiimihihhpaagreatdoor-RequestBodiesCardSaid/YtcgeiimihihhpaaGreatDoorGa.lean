/-
  Plain laws of layer 12, first part: names, fields, records; what is written; escapes. No condition, no program in sight.
  Decimal numerals in plain Lean: what digits spell, and back. No condition, no program in sight here.
  Plain laws of layer 12, second part: texts cut in parts, values, records read and written; what is written is read again. No condition, no program in sight.
  Small words that the walks share: what is returned, spelled; a world that has only grown. No program is in sight here. Conditions: none.
  Plain laws of layer 18, first part: what a request's bytes come to. No condition, no program in sight.
  Plain laws of layer 18, second part: requests one behind the other; what is taken is within its limits. No condition, no program in sight.
  Plain laws of layer 18, third part: headers are found in small letters, bodies carried as they are. No condition, no program in sight.
  Plain laws of layer 18, fourth part: bodies are carried as they are, by length and in chunks. No condition, no program in sight.
  Plain laws of layer 18, fifth part: the reference's first line is the same. No condition, no program in sight.
  Plain laws of layer 18, sixth part: a line, by the place of its first CR or LF. No condition, no program in sight.
-/
import Derived.Lib.AtoiAll
import Derived.Lib.AtoiAllCases
import Derived.Lib.ItoaMem
import Derived.Lib.ItoaLen
import Derived.Lib.IndexMore
import Derived.WalkKit
import Derived.WalkSpells
import Derived.WalkLawsBesides
import Derived.Lib.Hide
import Derived.OwnWalk
import Derived.Outline
import Derived.Lib.Strings
import Derived.Deep.QuietTactic
import Derived.BigQuiet
import Derived.Lib.ItoaNum

namespace Go.Proofs.YtcgeiimihihhpaaGreatDoor.P12
open Go
abbrev By := List UInt8

/-- A field: a name, and an integer or a text. -/
structure Fld where
  name : By
  text : Bool
  n : Int
  s : By
deriving DecidableEq

def low (c : UInt8) : Bool := decide (97 ≤ c) && decide (c ≤ 122)
def digit (c : UInt8) : Bool := decide (48 ≤ c) && decide (c ≤ 57)
def okName (c : UInt8) : Bool := low c || digit c || c == 95
def nameL (s : By) : Bool := match s with
  | [] => false
  | c :: _ => decide (s.length ≤ 32) && low c && s.all okName
def fieldL (f : Fld) : Int := if nameL f.name = false then 121 else if (f.text = true ∧ (f.n ≠ 0 ∨ 200 < f.s.length)) ∨ (f.text = false ∧ f.s ≠ []) then 122 else 0
/-- The fields one by one; 'p': the name ahead, if there is one. -/
def chk : Option By → List Fld → Int
  | _, [] => 0
  | p, f :: r => if fieldL f ≠ 0 then fieldL f else match p with
    | none => chk (some f.name) r
    | some q => if f.name ≤ q then 123 else chk (some f.name) r
def checkL (r : List Fld) : Int := if 16 < r.length then 120 else chk none r

def plainC (c : UInt8) : Bool := low c || (decide (65 ≤ c) && decide (c ≤ 90)) || digit c || c == 45 || c == 46 || c == 95 || c == 126
def hexD (n : Nat) : UInt8 := if n < 10 then (48 + n).toUInt8 else (55 + n).toUInt8
def escC (c : UInt8) : By := if plainC c then [c] else [37, hexD (c.toNat / 16), hexD (c.toNat % 16)]
def escL (s : By) : By := s.flatMap escC
/-- A hexadecimal digit's value. -/
def hexV (c : UInt8) : Option Nat :=
  if 48 ≤ c ∧ c ≤ 57 then some (c.toNat - 48) else if 97 ≤ c ∧ c ≤ 102 then some (c.toNat - 87) else if 65 ≤ c ∧ c ≤ 70 then some (c.toNat - 55) else none
def unescL : By → Option By
  | [] => some []
  | c :: l =>
    if plainC c then (unescL l).map (c :: ·)
    else if c = 37 then
      match l with
      | a :: b :: l' => match hexV a, hexV b with
        | some x, some y => (unescL l').map ((16 * x + y).toUInt8 :: ·)
        | _, _ => none
      | _ => none
    else none
termination_by s => s.length

theorem unesc_nil : unescL [] = some [] := by rw [unescL]
theorem unesc_plain {c : UInt8} (h : plainC c = true) (l : By) : unescL (c :: l) = (unescL l).map (c :: ·) := by rw [unescL.eq_def]; simp only [h, if_true]
theorem unesc_hex {a b : UInt8} {x y : Nat} (ha : hexV a = some x) (hb : hexV b = some y) (l : By) : unescL (37 :: a :: b :: l) = (unescL l).map ((16 * x + y).toUInt8 :: ·) := by
  have : plainC 37 = false := by decide
  rw [unescL.eq_def]
  simp only [this, ha, hb]
  rfl
theorem hexV_hexD : ∀ n : Fin 16, hexV (hexD n) = some n.1 := by decide
theorem hexV_D {n : Nat} (h : n < 16) : hexV (hexD n) = some n := hexV_hexD ⟨n, h⟩
/-- EVERY TEXT IS WHAT ITS ESCAPED BYTES STAND FOR. -/
theorem unesc_esc (s : By) (l : By) : unescL (escL s ++ l) = (unescL l).map (s ++ ·) := by
  induction s with
  | nil => simp [escL]
  | cons c s ih =>
    have e : escL (c :: s) ++ l = escC c ++ (escL s ++ l) := by simp [escL]
    rw [e]
    unfold escC
    have hc := c.toNat_lt
    by_cases h : plainC c = true
    · rw [if_pos h, List.singleton_append, unesc_plain h, ih]
      cases unescL l <;> rfl
    · rw [if_neg h]
      show unescL (37 :: hexD (c.toNat / 16) :: hexD (c.toNat % 16) :: (escL s ++ l)) = _
      rw [unesc_hex (hexV_D (by omega)) (hexV_D (by omega)), ih]
      have : (16 * (c.toNat / 16) + c.toNat % 16).toUInt8 = c := by
        rw [show 16 * (c.toNat / 16) + c.toNat % 16 = c.toNat by omega]
        simp
      rw [this]
      cases unescL l <;> rfl
theorem unesc_of_esc (s : By) : unescL (escL s) = some s := by
  have := unesc_esc s []
  rwa [List.append_nil, unesc_nil, Option.map_some, List.append_nil] at this
theorem esc_inj {s t : By} (h : escL s = escL t) : s = t := by
  have := unesc_of_esc s
  rw [h, unesc_of_esc] at this
  exact (Option.some.inj this).symm
/-- Only bytes that stand as they are, and escapes, come. -/
def fine (c : UInt8) : Bool := decide (32 < c) && decide (c ≤ 126) && c != 38 && c != 61 && c != 47 && c != 124
theorem escC_fine : ∀ c : UInt8, ((escC c).all fine) = true := by
  have h : ((List.range 256).all fun n => (escC n.toUInt8).all fine) = true := by decide +kernel
  intro c
  have := List.all_eq_true.1 h c.toNat (List.mem_range.2 c.toNat_lt)
  simpa using this
theorem escL_fine (s : By) : ∀ c ∈ escL s, fine c = true := by
  intro c hc
  obtain ⟨d, hd, hcd⟩ := List.mem_flatMap.1 hc
  exact List.all_eq_true.1 (escC_fine d) c hcd
end Go.Proofs.YtcgeiimihihhpaaGreatDoor.P12

namespace Go.Proofs.YtcgeiimihihhpaaGreatDoor.Dig
open Go
abbrev By := List UInt8

def isDig (c : UInt8) : Bool := decide (48 ≤ c.toNat ∧ c.toNat ≤ 57)
def valFrom (v : Nat) (l : List UInt8) : Nat := l.foldl (fun n c => 10 * n + (c.toNat - 48)) v
theorem valFrom_nil (v : Nat) : valFrom v [] = v := List.foldl_nil
theorem valFrom_cons (v : Nat) (c : UInt8) (l : List UInt8) : valFrom v (c :: l) = valFrom (10 * v + (c.toNat - 48)) l := List.foldl_cons ..
def val (l : By) : Nat := valFrom 0 l
theorem isDig_iff {c : UInt8} : isDig c = true ↔ 48 ≤ c.toNat ∧ c.toNat ≤ 57 := by simp [isDig]
theorem byte_of {c : UInt8} (h : 48 ≤ c.toNat) : UInt8.ofNat (48 + (c.toNat - 48)) = c := by
  rw [show 48 + (c.toNat - 48) = c.toNat by omega]; simp
theorem decDigits_step {v x : Nat} (hv : 1 ≤ v) (hx : x < 10) : Lib.decDigits (10 * v + x) = Lib.decDigits v ++ [UInt8.ofNat (48 + x)] := by
  rw [Lib.decDigits, dif_neg (by omega), show (10 * v + x) / 10 = v by omega, show (10 * v + x) % 10 = x by omega]
theorem decDigits_valFrom : ∀ (l : By) (v : Nat), 1 ≤ v → (∀ c ∈ l, isDig c = true) → Lib.decDigits (valFrom v l) = Lib.decDigits v ++ l
  | [], v, _, _ => by simp [valFrom_nil]
  | c :: l, v, hv, hl => by
    have hc := isDig_iff.1 (hl c (by simp))
    rw [valFrom_cons, decDigits_valFrom l _ (by omega) (fun d hd => hl d (by simp [hd])), decDigits_step hv (by omega), byte_of hc.1]
    simp
theorem decDigits_val {l : By} (h0 : l ≠ []) (hl : ∀ c ∈ l, isDig c = true) (hz : ¬ (1 < l.length ∧ l.head? = some 48)) : Lib.decDigits (val l) = l := by
  cases l with
  | nil => exact absurd rfl h0
  | cons c l =>
    have hc := isDig_iff.1 (hl c (by simp))
    have h1 : Lib.decDigits (c.toNat - 48) = [c] := by rw [Lib.decDigits_one (by omega), byte_of hc.1]
    unfold val
    rw [valFrom_cons]
    cases l with
    | nil => simp [valFrom_nil, h1]
    | cons d l =>
      have hne : c.toNat ≠ 48 := by
        intro e
        apply hz
        refine ⟨by simp, ?_⟩
        have : c = 48 := by apply UInt8.toNat_inj.1; simpa using e
        simp [this]
      rw [decDigits_valFrom _ _ (by omega) (fun e he => hl e (List.mem_cons_of_mem _ he)), Nat.mul_zero, Nat.zero_add, h1]
      rfl
theorem valFrom_ge : ∀ (l : By) (v : Nat), v * 10 ^ l.length ≤ valFrom v l
  | [], v => by simp [valFrom_nil]
  | c :: l, v => by
    rw [valFrom_cons]
    refine Nat.le_trans ?_ (valFrom_ge l _)
    rw [List.length_cons, Nat.pow_succ, Nat.mul_comm (10 ^ l.length) 10, ← Nat.mul_assoc]
    exact Nat.mul_le_mul_right _ (by omega)
theorem dig_byte {x : Nat} (hx : x < 10) : (UInt8.ofNat (48 + x)).toNat = 48 + x := by
  rw [UInt8.toNat_ofNat']; omega
theorem decDigits_all : ∀ (n : Nat), ∀ c ∈ Lib.decDigits n, isDig c = true := by
  intro n
  induction n using Nat.strongRecOn with
  | ind n ih =>
    intro c hc
    rw [Lib.decDigits] at hc
    split at hc
    · rename_i h
      simp only [List.mem_singleton] at hc
      subst hc
      rw [isDig_iff, dig_byte h]; omega
    · rename_i h
      rcases List.mem_append.1 hc with h1 | h1
      · exact ih (n / 10) (by omega) c h1
      · simp only [List.mem_singleton] at h1
        subst h1
        rw [isDig_iff, dig_byte (by omega)]; omega
theorem val_decDigits : ∀ (n : Nat), val (Lib.decDigits n) = n := by
  intro n
  induction n using Nat.strongRecOn with
  | ind n ih =>
    rw [Lib.decDigits]
    split
    · rename_i h
      unfold val
      rw [valFrom_cons, valFrom_nil, dig_byte h]; omega
    · rename_i h
      have := ih (n / 10) (by omega)
      unfold val valFrom at this ⊢
      rw [List.foldl_append, this]
      simp only [List.foldl_cons, List.foldl_nil]
      rw [dig_byte (by omega)]; omega
theorem decDigits_ne (n : Nat) : Lib.decDigits n ≠ [] := by
  intro h
  have := Lib.decDigits_length n
  rw [h] at this
  have := Lib.nDigits_pos n
  simp at *
  omega
theorem decDigits_head : ∀ (n : Nat), ¬ (1 < (Lib.decDigits n).length ∧ (Lib.decDigits n).head? = some 48) := by
  intro n
  induction n using Nat.strongRecOn with
  | ind n ih =>
    rw [Lib.decDigits]
    split
    · simp
    · rename_i h
      rintro ⟨-, h2⟩
      by_cases h3 : n / 10 < 10
      · rw [Lib.decDigits_one h3] at h2
        simp only [List.cons_append, List.head?_cons, Option.some.injEq] at h2
        have h4 := congrArg UInt8.toNat h2
        rw [dig_byte h3] at h4
        have : (48 : UInt8).toNat = 48 := rfl
        omega
      · apply ih (n / 10) (by omega)
        constructor
        · rw [Lib.decDigits_length, Lib.nDigits_big h3]
          have := Lib.nDigits_pos (n / 10 / 10)
          omega
        · cases hd : Lib.decDigits (n / 10) with
          | nil => exact absurd hd (decDigits_ne _)
          | cons c l => rw [hd] at h2; simpa using h2

theorem itoa_nat (n : Nat) : Lib.itoa (n : Int) = Lib.decDigits n := Lib.itoa_nonneg n
theorem valFrom_mono : ∀ (l : By) (v : Nat), v ≤ valFrom v l
  | l, v => by
    have h1 : 1 ≤ 10 ^ l.length := Nat.one_le_pow _ _ (by decide)
    exact Nat.le_trans (Nat.le_mul_of_pos_right _ h1) (valFrom_ge l v)
/-- Digits, as ParseUint reads them. -/
theorem parse_digits : ∀ (l : By) (acc : Nat), (∀ c ∈ l, isDig c = true) → valFrom acc l < 18446744073709551616 → Lib.parseUint10 acc l = .ok (valFrom acc l)
  | [], acc, _, _ => by simp [Lib.parseUint10, valFrom_nil]
  | c :: l, acc, hl, hv => by
    have hc := isDig_iff.1 (hl c (by simp))
    rw [valFrom_cons] at hv ⊢
    have hle := valFrom_mono l (10 * acc + (c.toNat - 48))
    rw [Lib.parseUint10, if_pos hc, if_neg (by omega), if_neg (by omega), Nat.mul_comm acc 10]
    exact parse_digits l _ (fun d hd => hl d (by simp [hd])) hv
theorem parse_dec (n : Nat) (h : n < 18446744073709551616) : Lib.parseMag (Lib.decDigits n) = .ok n := by
  unfold Lib.parseMag
  rw [if_neg (decDigits_ne n)]
  have := parse_digits (Lib.decDigits n) 0 (decDigits_all n) (by have := val_decDigits n; unfold val at this; rw [this]; exact h)
  rw [this]
  have := val_decDigits n
  unfold val at this
  rw [this]
theorem dec_head (n : Nat) : ∃ c l, Lib.decDigits n = c :: l ∧ isDig c = true := by
  cases h : Lib.decDigits n with
  | nil => exact absurd h (decDigits_ne n)
  | cons c l => exact ⟨c, l, rfl, decDigits_all n c (by rw [h]; simp)⟩
/-- What Itoa writes Atoi reads. -/
theorem atoi_itoa (n : Int) (h0 : -9223372036854775808 ≤ n) (h1 : n ≤ 9223372036854775807) : Lib.atoiAll (Lib.itoa n) = .ok n := by
  unfold Lib.itoa
  by_cases hn : n < 0
  · rw [if_pos hn]
    unfold Lib.atoiAll
    have e1 : ((45 : UInt8).toNat = 45) = True := by decide
    simp only [e1, or_true, if_true]
    rw [parse_dec _ (by omega)]
    simp only [not_true, false_and, if_false, true_and]
    rw [if_neg (by omega), show -(n.natAbs : Int) = n by omega]
  · rw [if_neg hn]
    obtain ⟨c, l, hc, hd⟩ := dec_head n.toNat
    have hp := parse_dec n.toNat (by omega)
    rw [hc] at hp ⊢
    rw [isDig_iff] at hd
    unfold Lib.atoiAll
    have e1 : (c.toNat = 45) = False := by simp; omega
    have e2 : (c.toNat = 43) = False := by simp; omega
    simp only [e1, e2, or_self, if_false]
    rw [hp]
    simp only [not_false_eq_true, true_and, false_and, if_false]
    rw [if_neg (by omega), show ((n.toNat : Nat) : Int) = n by omega]
/-- What Atoi reads is an int. -/
theorem atoi_int {l : By} {v : Int} (h : Lib.atoiAll l = .ok v) : -9223372036854775808 ≤ v ∧ v ≤ 9223372036854775807 := by
  unfold Lib.atoiAll at h
  cases l with
  | nil => cases h
  | cons c r =>
    simp only at h
    split at h
    · cases h
    · cases h
    · split at h
      · cases h
      · split at h
        · cases h
        · injection h with h
          split at h <;> omega

/-- The int that a text is, as Itoa writes it. -/
def numL (s : By) : Option Int := match Lib.atoiAll s with
  | .ok v => if Lib.itoa v = s then some v else none
  | _ => none
theorem numL_itoa (n : Int) (h0 : -9223372036854775808 ≤ n) (h1 : n ≤ 9223372036854775807) : numL (Lib.itoa n) = some n := by
  unfold numL
  rw [atoi_itoa n h0 h1]
  simp
theorem numL_is {s : By} {v : Int} (h : numL s = some v) : s = Lib.itoa v ∧ -9223372036854775808 ≤ v ∧ v ≤ 9223372036854775807 := by
  unfold numL at h
  split at h
  · rename_i u hu
    split at h
    · rename_i he
      injection h with h
      subst h
      exact ⟨he.symm, atoi_int hu⟩
    · cases h
  · cases h

/-- The reference's way: digit by digit; 'm': what has been read. -/
def accN : Nat → By → Option Nat
  | m, [] => some m
  | m, c :: l => if isDig c = true then (if 9223372036854775808 < 10 * m + (c.toNat - 48) then none else accN (10 * m + (c.toNat - 48)) l) else none
def restOf (s : By) : By := if s.head? = some 45 then s.tail else s
def refNum (s : By) : Option Int :=
  if (restOf s).length < 1 ∨ 19 < (restOf s).length ∨ ((restOf s).head? = some 48 ∧ s ≠ [48]) then none else
  match accN 0 (restOf s) with
  | none => none
  | some m => if (restOf s).length < s.length then some (-(m : Int)) else if m = 9223372036854775808 then none else some m
theorem accN_digits : ∀ (l : By) (m : Nat), (∀ c ∈ l, isDig c = true) → valFrom m l ≤ 9223372036854775808 → accN m l = some (valFrom m l)
  | [], m, _, _ => by rw [accN, valFrom_nil]
  | c :: l, m, hl, hv => by
    rw [valFrom_cons] at hv ⊢
    have hle := valFrom_mono l (10 * m + (c.toNat - 48))
    rw [accN, if_pos (hl c (by simp)), if_neg (by omega)]
    exact accN_digits l _ (fun d hd => hl d (by simp [hd])) hv
theorem accN_some : ∀ (l : By) (m u : Nat), m ≤ 9223372036854775808 → accN m l = some u → (∀ c ∈ l, isDig c = true) ∧ u = valFrom m l ∧ u ≤ 9223372036854775808
  | [], m, u, hm, h => by
    rw [accN] at h
    injection h with h
    subst h
    exact ⟨by simp, (valFrom_nil m).symm, hm⟩
  | c :: l, m, u, hm, h => by
    rw [accN] at h
    split at h
    · rename_i hc
      split at h
      · cases h
      · rename_i hb
        obtain ⟨h1, h2, h3⟩ := accN_some l _ u (by omega) h
        refine ⟨?_, by rw [valFrom_cons]; exact h2, h3⟩
        intro d hd
        rcases List.mem_cons.1 hd with rfl | hd
        · exact hc
        · exact h1 d hd
    · cases h
theorem nDigits_19 {n : Nat} (h : n ≤ 9223372036854775808) : (Lib.decDigits n).length ≤ 19 := by
  refine Classical.byContradiction fun hc => ?_
  have h1 := decDigits_head n
  have h2 := val_decDigits n
  cases hd : Lib.decDigits n with
  | nil => rw [hd] at hc; simp at hc
  | cons c l =>
    rw [hd] at hc h1 h2
    have hcd := decDigits_all n c (by rw [hd]; simp)
    rw [isDig_iff] at hcd
    have h48 : c.toNat ≠ 48 := by
      intro e
      exact h1 ⟨by simp at hc ⊢; omega, by simp; exact UInt8.toNat_inj.1 (by simpa using e)⟩
    unfold val at h2
    rw [valFrom_cons] at h2
    have hge := valFrom_ge l (10 * 0 + (c.toNat - 48))
    have hp : 10 ^ 19 ≤ 10 ^ l.length := Nat.pow_le_pow_right (by decide) (by simp at hc; omega)
    have : 10 ^ l.length ≤ (10 * 0 + (c.toNat - 48)) * 10 ^ l.length := Nat.le_mul_of_pos_left _ (by omega)
    omega
/-- The reference's numbers are the program's. -/
theorem refNum_eq (s : By) : refNum s = numL s := by
  cases hn : numL s with
  | some v =>
    obtain ⟨rfl, h0, h1⟩ := numL_is hn
    clear hn
    unfold Lib.itoa
    by_cases hv : v < 0
    · rw [if_pos hv]
      have hr : restOf (45 :: Lib.decDigits v.natAbs) = Lib.decDigits v.natAbs := by simp [restOf]
      obtain ⟨c, l, hc, hd⟩ := dec_head v.natAbs
      have hz := decDigits_head v.natAbs
      have h19 := nDigits_19 (n := v.natAbs) (by omega)
      have hval := val_decDigits v.natAbs
      have hall := decDigits_all v.natAbs
      unfold refNum
      rw [hr]
      have hne : ¬ ((Lib.decDigits v.natAbs).head? = some 48) := by
        intro e
        have h2 : ¬ 1 < (Lib.decDigits v.natAbs).length := fun h => hz ⟨h, e⟩
        rw [hc] at e h2 hval
        simp at e h2
        subst e
        rw [h2] at hval
        have : val [48] = 0 := by decide
        omega
      have hlp : 1 ≤ (Lib.decDigits v.natAbs).length := by rw [hc]; simp
      rw [if_neg (by rintro (h | h | h); omega; omega; exact hne h.1), accN_digits _ 0 hall (by unfold val at hval; omega)]
      unfold val at hval
      rw [hval]
      simp only [List.length_cons]
      rw [if_pos (by omega), show -(v.natAbs : Int) = v by omega]
    · rw [if_neg hv]
      obtain ⟨c, l, hc, hd⟩ := dec_head v.toNat
      have hz := decDigits_head v.toNat
      have h19 := nDigits_19 (n := v.toNat) (by omega)
      have hval := val_decDigits v.toNat
      have hall := decDigits_all v.toNat
      have hr : restOf (Lib.decDigits v.toNat) = Lib.decDigits v.toNat := by
        unfold restOf
        rw [if_neg]
        rw [hc]
        simp
        rintro rfl
        exact absurd hd (by decide)
      unfold refNum
      rw [hr]
      have hne : ¬ ((Lib.decDigits v.toNat).head? = some 48 ∧ Lib.decDigits v.toNat ≠ [48]) := by
        rintro ⟨e, e2⟩
        have h2 : ¬ 1 < (Lib.decDigits v.toNat).length := fun h => hz ⟨h, e⟩
        apply e2
        rw [hc] at e h2 ⊢
        simp at e h2
        rw [e, h2]
      have hlp : 1 ≤ (Lib.decDigits v.toNat).length := by rw [hc]; simp
      rw [if_neg (by rintro (h | h | h); omega; omega; exact hne h), accN_digits _ 0 hall (by unfold val at hval; omega)]
      unfold val at hval
      rw [hval]
      simp only
      rw [if_neg (by omega), if_neg (by omega), show ((v.toNat : Nat) : Int) = v by omega]
  | none =>
    cases hr : refNum s with
    | none => rfl
    | some v =>
      exfalso
      have hs : s = Lib.itoa v ∧ -9223372036854775808 ≤ v ∧ v ≤ 9223372036854775807 := by
        unfold refNum at hr
        split at hr
        · cases hr
        · rename_i hg
          split at hr
          · cases hr
          · rename_i m hm
            obtain ⟨hall, hmv, hmb⟩ := accN_some _ 0 m (by omega) hm
            have hne : restOf s ≠ [] := by intro e; apply hg; left; rw [e]; simp
            by_cases hneg : s.head? = some 45
            · have hrs : restOf s = s.tail := by unfold restOf; rw [if_pos hneg]
              have hsc : s = 45 :: s.tail := by
                cases s with
                | nil => simp at hneg
                | cons c l => simp at hneg; rw [hneg]; rfl
              have h1 : s.length = s.tail.length + 1 := congrArg List.length hsc
              have hlt : (restOf s).length < s.length := by rw [hrs, h1]; exact Nat.lt_succ_self _
              rw [if_pos hlt] at hr
              injection hr with hr
              have h48 : (restOf s).head? ≠ some 48 := by
                intro e
                apply hg
                right; right
                refine ⟨e, ?_⟩
                intro e2
                rw [e2] at hneg
                exact absurd hneg (by decide)
              have hd := decDigits_val hne hall (fun h => h48 h.2)
              have hm0 : m ≠ 0 := by
                intro e
                have hv0 : val (restOf s) = 0 := by unfold val; rw [← hmv, e]
                rw [hv0, Lib.decDigits_one (by omega)] at hd
                apply h48
                rw [← hd]; rfl
              refine ⟨?_, by omega, by omega⟩
              unfold Lib.itoa
              rw [if_pos (by omega), show v.natAbs = m by omega]
              have : Lib.decDigits m = restOf s := by rw [hmv]; exact hd
              rw [this, hrs]
              exact hsc
            · have hrs : restOf s = s := by unfold restOf; rw [if_neg hneg]
              rw [hrs] at hr hall hmv hne hg
              rw [if_neg (Nat.lt_irrefl _)] at hr
              split at hr
              · cases hr
              · rename_i hmx
                injection hr with hr
                have hz : ¬ (1 < s.length ∧ s.head? = some 48) := by
                  rintro ⟨h1, h2⟩
                  apply hg
                  right; right
                  refine ⟨h2, ?_⟩
                  intro e
                  rw [e] at h1
                  simp at h1
                have hd := decDigits_val hne hall hz
                refine ⟨?_, by omega, by omega⟩
                unfold Lib.itoa
                rw [if_neg (by omega), show v.toNat = m by omega]
                rw [hmv]
                exact hd.symm
      rw [hs.1, numL_itoa v hs.2.1 hs.2.2] at hn
      cases hn
end Go.Proofs.YtcgeiimihihhpaaGreatDoor.Dig

namespace Go.Proofs.YtcgeiimihihhpaaGreatDoor.P12
open Go Dig

/-- A text cut at the first byte c. -/
def cutL (c : UInt8) : By → By × By × Bool
  | [] => ([], [], false)
  | d :: l => if d = c then ([], l, true) else (d :: (cutL c l).1, (cutL c l).2.1, (cutL c l).2.2)
theorem index_cons_one (c d : UInt8) (l : By) : Lib.index (d :: l) [c] = if d = c then 0 else if Lib.index l [c] = -1 then -1 else Lib.index l [c] + 1 := by
  rw [Lib.index]
  by_cases h : d = c
  · subst h
    simp [List.isPrefixOf]
  · have : (c == d) = false := by rw [beq_eq_false_iff_ne]; exact fun e => h e.symm
    simp [List.isPrefixOf, this, h]
theorem cut_one (c : UInt8) : ∀ s : By, Lib.cut s [c] = cutL c s
  | [] => by
    have : Lib.index [] [c] = -1 := rfl
    unfold Lib.cut
    rw [this]
    rfl
  | d :: l => by
    have ih := cut_one c l
    have hge := Lib.index_ge l [c]
    unfold Lib.cut at ih ⊢
    rw [index_cons_one]
    by_cases h : d = c
    · subst h
      simp [cutL]
    · rw [if_neg h]
      by_cases h1 : Lib.index l [c] = -1
      · rw [if_pos h1]
        rw [h1] at ih
        simp only [cutL, h, if_false, ← ih]
        simp
      · rw [if_neg h1]
        rw [if_pos (by omega)] at ih ⊢
        simp only [cutL, h, if_false, ← ih]
        have e : (Lib.index l [c] + 1).toNat = (Lib.index l [c]).toNat + 1 := by omega
        rw [e]
        simp
theorem cutL_miss {c : UInt8} : ∀ {s : By}, (cutL c s).2.2 = false → (cutL c s).1 = s ∧ (cutL c s).2.1 = [] ∧ c ∉ s
  | [], _ => ⟨rfl, rfl, by simp⟩
  | d :: l, h => by
    by_cases e : d = c
    · simp [cutL, e] at h
    · simp only [cutL, e, if_false] at h ⊢
      obtain ⟨h1, h2, h3⟩ := cutL_miss h
      exact ⟨by rw [h1], h2, by simp [h3, Ne.symm e]⟩
theorem cutL_hit {c : UInt8} : ∀ {s : By}, (cutL c s).2.2 = true → s = (cutL c s).1 ++ c :: (cutL c s).2.1 ∧ c ∉ (cutL c s).1
  | [], h => by cases h
  | d :: l, h => by
    by_cases e : d = c
    · simp [cutL, e]
    · simp only [cutL, e, if_false] at h ⊢
      obtain ⟨h1, h2⟩ := cutL_hit h
      exact ⟨by rw [List.cons_append, ← h1], by simp [h2, Ne.symm e]⟩
theorem cutL_at {c : UInt8} : ∀ {p : By} (_ : c ∉ p) (r : By), cutL c (p ++ c :: r) = (p, r, true)
  | [], _, r => by simp [cutL]
  | d :: p, h, r => by
    have e : d ≠ c := fun e => h (by simp [e])
    simp only [List.cons_append, cutL, e, if_false]
    rw [cutL_at (fun h' => h (by simp [h'])) r]

/-- A text in parts, at each byte c. -/
def partsL (c : UInt8) : By → List By
  | [] => [[]]
  | d :: l => if d = c then [] :: partsL c l else match partsL c l with
    | [] => [[d]]
    | p :: ps => (d :: p) :: ps
theorem partsL_ne (c : UInt8) : ∀ s : By, partsL c s ≠ []
  | [] => by simp [partsL]
  | d :: l => by
    unfold partsL
    split
    · simp
    · split <;> simp
theorem partsL_cons {c d : UInt8} (h : d ≠ c) (l : By) : partsL c (d :: l) = match partsL c l with
    | [] => [[d]]
    | p :: ps => (d :: p) :: ps := by rw [partsL, if_neg h]
theorem partsL_free {c : UInt8} : ∀ {s : By}, c ∉ s → partsL c s = [s]
  | [], _ => rfl
  | d :: l, h => by
    have e : d ≠ c := fun e => h (by simp [e])
    rw [partsL_cons e, partsL_free (fun h' => h (by simp [h']))]
theorem partsL_at {c : UInt8} : ∀ {p : By} (_ : c ∉ p) (r : By), partsL c (p ++ c :: r) = p :: partsL c r
  | [], _, r => by simp [partsL]
  | d :: p, h, r => by
    have e : d ≠ c := fun e => h (by simp [e])
    show partsL c (d :: (p ++ c :: r)) = _
    rw [partsL_cons e, partsL_at (fun h' => h (by simp [h'])) r]
theorem partsL_hit {c : UInt8} {s : By} (h : (cutL c s).2.2 = true) : partsL c s = (cutL c s).1 :: partsL c (cutL c s).2.1 := by
  obtain ⟨h1, h2⟩ := cutL_hit h
  conv => lhs; rw [h1]
  exact partsL_at h2 _
theorem partsL_miss {c : UInt8} {s : By} (h : (cutL c s).2.2 = false) : partsL c s = [s] := partsL_free (cutL_miss h).2.2

/-- A value's text, read. -/
def valueL (name s : By) : Option Fld :=
  if s.head? = some 39 then
    match unescL s.tail with
    | some u => if u.length ≤ 200 then some ⟨name, true, 0, u⟩ else none
    | none => none
  else (numL s).map fun n => ⟨name, false, n, []⟩
def zeroF : Fld := ⟨[], false, 0, []⟩
/-- One part: 0 and its field, or what is wrong. -/
def oneL (L : List Fld) (p : By) : Int × Fld :=
  if L.length = 16 then (120, zeroF) else
  if (cutL 61 p).2.2 = false ∨ nameL (cutL 61 p).1 = false then (121, zeroF) else
  match valueL (cutL 61 p).1 (cutL 61 p).2.1 with
  | none => (122, zeroF)
  | some f => if (L.any fun g => decide (g.name = f.name)) = true then (124, zeroF) else (0, f)
def foldP : List Fld → List By → List Fld × Int
  | L, [] => (L, 0)
  | L, p :: ps => if (oneL L p).1 ≠ 0 then ([], (oneL L p).1) else foldP (L ++ [(oneL L p).2]) ps
/-- A field put into its place. -/
def insL (f : Fld) : List Fld → List Fld
  | [] => [f]
  | g :: l => if g.name ≤ f.name then g :: insL f l else f :: g :: l
def sortL (L : List Fld) : List Fld := L.foldl (fun a f => insL f a) []
def readL (s : By) : List Fld × Int := if s = [] then ([], 0) else (sortL (foldP [] (partsL 38 s)).1, (foldP [] (partsL 38 s)).2)

def textF (f : Fld) : By := f.name ++ (61 :: (if f.text = true then 39 :: escL f.s else Lib.itoa f.n))
def textsL (r : List Fld) : By := ((r.map fun f => 38 :: textF f).flatten).drop 1
def writeL (r : List Fld) : By × Int := if checkL r ≠ 0 then ([], checkL r) else (textsL r, 0)
/-- The reference's reading. -/
def refFold : List Fld → Nat → List By → List Fld × Int
  | L, _, [] => (L, 0)
  | L, i, p :: ps =>
    if 16 ≤ i then ([], 120) else
    if nameL (cutL 61 p).1 = false ∨ (cutL 61 p).2.2 = false then ([], 121) else
    match valueL (cutL 61 p).1 (cutL 61 p).2.1 with
    | none => ([], 122)
    | some f => if (L.any fun g => decide (g.name = f.name)) = true then ([], 124) else refFold (insL f L) (i + 1) ps
def refReadL (s : By) : List Fld × Int := if s = [] then ([], 0) else refFold [] 0 (partsL 38 s)

/-! ## Order -/
theorem le_or_lt (a b : By) : a ≤ b ∨ b < a := by
  by_cases h : a ≤ b
  · exact .inl h
  · exact .inr (List.not_le.1 h)
theorem lt_trans' {a b c : By} (h : a < b) (k : b < c) : a < c := List.lt_trans h k
theorem lt_irrefl' (a : By) : ¬ a < a := List.lt_irrefl a
theorem lt_of_le_ne {a b : By} (h : a ≤ b) (k : a ≠ b) : a < b := by
  rcases le_or_lt b a with h1 | h1
  · exact absurd (List.le_antisymm h h1) k
  · exact h1
theorem le_of_lt' {a b : By} (h : a < b) : a ≤ b := List.le_of_lt h
theorem not_le' {a b : By} : ¬ a ≤ b ↔ b < a := List.not_le
/-- Sorted: each name ahead of all behind it. -/
abbrev Srt (l : List Fld) : Prop := l.Pairwise fun a b => a.name < b.name
theorem insL_perm (f : Fld) : ∀ l : List Fld, List.Perm (insL f l) (f :: l)
  | [] => List.Perm.refl _
  | g :: l => by
    unfold insL
    split
    · exact ((insL_perm f l).cons g).trans (List.Perm.swap f g l)
    · exact List.Perm.refl _
theorem insL_srt {f : Fld} : ∀ {l : List Fld}, Srt l → (∀ g ∈ l, g.name ≠ f.name) → Srt (insL f l)
  | [], _, _ => by simp [insL, Srt]
  | g :: l, h, hn => by
    rw [Srt, List.pairwise_cons] at h
    unfold insL
    split
    · rename_i hle
      refine List.pairwise_cons.2 ⟨?_, insL_srt h.2 (fun x hx => hn x (by simp [hx]))⟩
      intro x hx
      rcases List.mem_cons.1 ((insL_perm f l).mem_iff.1 hx) with rfl | hx
      · exact lt_of_le_ne hle (hn g (by simp))
      · exact h.1 x hx
    · rename_i hle
      have hlt := not_le'.1 hle
      refine List.pairwise_cons.2 ⟨?_, List.pairwise_cons.2 h⟩
      intro x hx
      rcases List.mem_cons.1 hx with rfl | hx
      · exact hlt
      · exact lt_trans' hlt (h.1 x hx)
theorem insL_last {f : Fld} : ∀ {l : List Fld}, (∀ g ∈ l, g.name < f.name) → insL f l = l ++ [f]
  | [], _ => rfl
  | g :: l, h => by
    unfold insL
    rw [if_pos (le_of_lt' (h g (by simp))), insL_last (fun x hx => h x (by simp [hx]))]
    rfl
theorem sortL_snoc (L : List Fld) (f : Fld) : sortL (L ++ [f]) = insL f (sortL L) := by simp [sortL]
abbrev Dst (l : List Fld) : Prop := l.Pairwise fun a b => a.name ≠ b.name
theorem srt_dst {l : List Fld} (h : Srt l) : Dst l := List.Pairwise.imp (fun {a b} (hab : a.name < b.name) (e : a.name = b.name) => lt_irrefl' b.name (e ▸ hab)) h
theorem sortL_ok : ∀ (n : Nat) (L : List Fld), L.length = n → Dst L → List.Perm (sortL L) L ∧ Srt (sortL L)
  | 0, L, hl, _ => by
    obtain rfl := List.length_eq_zero_iff.1 hl
    exact ⟨List.Perm.refl _, List.Pairwise.nil⟩
  | n + 1, L, hl, hd => by
    rcases List.eq_nil_or_concat L with rfl | ⟨L', f, rfl⟩
    · simp at hl
    · simp only [List.concat_eq_append] at hl hd ⊢
      obtain ⟨h1, _, h3⟩ := List.pairwise_append.1 hd
      obtain ⟨ih1, ih2⟩ := sortL_ok n L' (by simpa using hl) h1
      rw [sortL_snoc]
      refine ⟨((insL_perm f _).trans (ih1.cons f)).trans (List.perm_append_comm (l₁ := [f])), insL_srt ih2 ?_⟩
      intro g hg
      exact h3 g (ih1.mem_iff.1 hg) f (by simp)
theorem sortL_perm {L : List Fld} (h : Dst L) : List.Perm (sortL L) L := (sortL_ok _ L rfl h).1
theorem sortL_srt {L : List Fld} (h : Dst L) : Srt (sortL L) := (sortL_ok _ L rfl h).2
/-- Two sorted lists of the same fields are one. -/
theorem srt_one : ∀ {a b : List Fld}, Srt a → Srt b → List.Perm a b → a = b
  | [], b, _, _, h => (List.nil_perm.1 h).symm ▸ rfl
  | x :: a, [], _, _, h => by have := h.length_eq; simp at this
  | x :: a, y :: b, ha, hb, h => by
    have ha' := List.pairwise_cons.1 ha
    have hb' := List.pairwise_cons.1 hb
    have hxy : x = y := by
      have hx : x ∈ y :: b := h.mem_iff.1 (by simp)
      have hy : y ∈ x :: a := h.mem_iff.2 (by simp)
      rcases List.mem_cons.1 hx with e | hx
      · exact e
      · rcases List.mem_cons.1 hy with e | hy
        · exact e.symm
        · exact absurd (lt_trans' (ha'.1 y hy) (hb'.1 x hx)) (lt_irrefl' _)
    subst hxy
    rw [srt_one ha'.2 hb'.2 (List.Perm.cons_inv h)]
theorem sortL_srt_self {L : List Fld} (h : Srt L) : sortL L = L := srt_one (sortL_srt (srt_dst h)) h (sortL_perm (srt_dst h))
/-- What a sort leaves. -/
theorem sort_is {L d : List Fld} (hd : Dst L) (hp : List.Perm L d) (hs : d.Pairwise fun a b => ¬ b.name < a.name) : d = sortL L := by
  have hdd : Dst d := hp.pairwise hd (fun h => Ne.symm h)
  refine srt_one ?_ (sortL_srt hd) (hp.symm.trans (sortL_perm hd).symm)
  refine (hs.and hdd).imp ?_
  rintro a b ⟨h1, h2⟩
  rcases le_or_lt b.name a.name with h3 | h3
  · rcases le_or_lt a.name b.name with h4 | h4
    · exact absurd (List.le_antisymm h4 h3) h2
    · exact absurd h4 h1
  · exact h3

/-! ## The reference reads as the program does -/
theorem any_perm {l m : List Fld} (h : List.Perm l m) (n : By) : (l.any fun g => decide (g.name = n)) = (m.any fun g => decide (g.name = n)) := by
  rw [Bool.eq_iff_iff, List.any_eq_true, List.any_eq_true]
  exact ⟨fun ⟨x, hx, hp⟩ => ⟨x, h.mem_iff.1 hx, hp⟩, fun ⟨x, hx, hp⟩ => ⟨x, h.mem_iff.2 hx, hp⟩⟩
theorem valueL_name {n s : By} {f : Fld} (h : valueL n s = some f) : f.name = n := by
  unfold valueL at h
  split at h
  · split at h
    · split at h
      · injection h with h; rw [← h]
      · cases h
    · cases h
  · cases hn : numL s with
    | none => rw [hn] at h; cases h
    | some v => rw [hn] at h; injection h with h; rw [← h]
theorem oneL_zero {L : List Fld} {p : By} (h : (oneL L p).1 = 0) : L.length ≠ 16 ∧ (cutL 61 p).2.2 = true ∧ nameL (cutL 61 p).1 = true ∧ valueL (cutL 61 p).1 (cutL 61 p).2.1 = some (oneL L p).2 ∧ (∀ g ∈ L, g.name ≠ (oneL L p).2.name) := by
  unfold oneL at h ⊢
  split at h
  · cases h
  · rename_i h1
    split at h
    · cases h
    · rename_i h2
      rw [if_neg h1, if_neg h2]
      split at h
      · cases h
      · rename_i f hf
        split at h
        · cases h
        · rename_i h3
          rw [hf]
          simp only [if_neg h3]
          simp only [not_or, Bool.not_eq_false] at h2
          refine ⟨h1, h2.1, h2.2, trivial, ?_⟩
          intro g hg e
          exact h3 (List.any_eq_true.2 ⟨g, hg, by simp [e]⟩)
theorem refFold_eq : ∀ (ps : List By) (L : List Fld), L.length ≤ 16 → Dst L → refFold (sortL L) L.length ps = (sortL (foldP L ps).1, (foldP L ps).2)
  | [], L, _, _ => by simp [refFold, foldP]
  | p :: ps, L, hl, hd => by
    have hany := fun n => any_perm (sortL_perm hd) n
    have hz : sortL [] = [] := rfl
    unfold refFold foldP
    by_cases h1 : L.length = 16
    · have : oneL L p = (120, zeroF) := by unfold oneL; rw [if_pos h1]
      rw [if_pos (by omega), this, if_pos (by decide), hz]
    · rw [if_neg (by omega)]
      by_cases h2 : (cutL 61 p).2.2 = false ∨ nameL (cutL 61 p).1 = false
      · have : oneL L p = (121, zeroF) := by unfold oneL; rw [if_neg h1, if_pos h2]
        rw [if_pos h2.symm, this, if_pos (by decide), hz]
      · rw [if_neg (fun h => h2 h.symm)]
        cases hv : valueL (cutL 61 p).1 (cutL 61 p).2.1 with
        | none =>
          have : oneL L p = (122, zeroF) := by unfold oneL; rw [if_neg h1, if_neg h2, hv]
          rw [this, if_pos (by decide), hz]
        | some f =>
          simp only
          rw [hany f.name]
          by_cases h3 : (L.any fun g => decide (g.name = f.name)) = true
          · have : oneL L p = (124, zeroF) := by unfold oneL; rw [if_neg h1, if_neg h2, hv]; simp only; rw [if_pos h3]
            rw [if_pos h3, this, if_pos (by decide), hz]
          · have ho : oneL L p = (0, f) := by unfold oneL; rw [if_neg h1, if_neg h2, hv]; simp only; rw [if_neg h3]
            rw [if_neg h3, ho, if_neg (by simp)]
            have hd2 : Dst (L ++ [f]) := List.pairwise_append.2 ⟨hd, List.pairwise_singleton _ _, by
              intro g hg x hx e
              rw [List.mem_singleton.1 hx] at e
              exact h3 (List.any_eq_true.2 ⟨g, hg, by simp [e]⟩)⟩
            have := refFold_eq ps (L ++ [f]) (by simp; omega) hd2
            rw [sortL_snoc, List.length_append] at this
            exact this
theorem refRead_eq (s : By) : refReadL s = readL s := by
  unfold refReadL readL
  split
  · rfl
  · exact refFold_eq (partsL 38 s) [] (by simp) List.Pairwise.nil

/-! ## What is read is a record; what is written is read again -/
def rangeF (f : Fld) : Prop := -9223372036854775808 ≤ f.n ∧ f.n ≤ 9223372036854775807
theorem chk_iff : ∀ (r : List Fld) (p : Option By), chk p r = 0 ↔ (∀ f ∈ r, fieldL f = 0) ∧ Srt r ∧ (∀ q, p = some q → ∀ f, r.head? = some f → q < f.name)
  | [], p => by simp [chk, Srt]
  | f :: r, p => by
    unfold chk
    by_cases h1 : fieldL f = 0
    · rw [if_neg (by simpa using h1)]
      have ih := chk_iff r (some f.name)
      have hkey : chk (some f.name) r = 0 ↔ (∀ g ∈ f :: r, fieldL g = 0) ∧ Srt (f :: r) := by
        rw [ih]
        constructor
        · rintro ⟨a, b, c⟩
          refine ⟨?_, ?_⟩
          · intro g hg
            rcases List.mem_cons.1 hg with rfl | hg
            · exact h1
            · exact a g hg
          · refine List.pairwise_cons.2 ⟨?_, b⟩
            cases r with
            | nil => simp
            | cons g r =>
              have hfg := c f.name rfl g rfl
              intro x hx
              rcases List.mem_cons.1 hx with rfl | hx
              · exact hfg
              · exact lt_trans' hfg ((List.pairwise_cons.1 b).1 x hx)
        · rintro ⟨a, b⟩
          obtain ⟨b1, b2⟩ := List.pairwise_cons.1 b
          refine ⟨fun g hg => a g (by simp [hg]), b2, ?_⟩
          rintro q hq g hg
          injection hq with hq
          subst hq
          exact b1 g (List.mem_of_mem_head? hg)
      cases p with
      | none =>
        simp only
        rw [hkey]
        simp
      | some q =>
        simp only
        by_cases h2 : f.name ≤ q
        · rw [if_pos h2]
          refine ⟨fun h => (by cases h), ?_⟩
          rintro ⟨_, _, c⟩
          have := c q rfl f rfl
          exact absurd h2 (not_le'.2 this)
        · rw [if_neg h2, hkey]
          have := not_le'.1 h2
          constructor
          · rintro ⟨a, b⟩
            refine ⟨a, b, ?_⟩
            rintro q' hq g hg
            injection hq with hq
            injection hg with hg
            subst hq hg
            exact this
          · rintro ⟨a, b, _⟩
            exact ⟨a, b⟩
    · rw [if_pos h1]
      refine ⟨fun h => absurd h h1, ?_⟩
      rintro ⟨a, _⟩
      exact a f (by simp)
theorem check_iff (r : List Fld) : checkL r = 0 ↔ r.length ≤ 16 ∧ (∀ f ∈ r, fieldL f = 0) ∧ Srt r := by
  unfold checkL
  by_cases h : 16 < r.length
  · rw [if_pos h]
    exact ⟨fun h => (by cases h), fun ⟨h1, _⟩ => by omega⟩
  · rw [if_neg h, chk_iff]
    constructor
    · rintro ⟨a, b, _⟩
      exact ⟨by omega, a, b⟩
    · rintro ⟨_, a, b⟩
      exact ⟨a, b, by simp⟩
theorem fieldL_iff (f : Fld) : fieldL f = 0 ↔ nameL f.name = true ∧ (f.text = true → f.n = 0 ∧ f.s.length ≤ 200) ∧ (f.text = false → f.s = []) := by
  unfold fieldL
  by_cases h1 : nameL f.name = false
  · rw [if_pos h1]; simp [h1]
  · rw [if_neg h1]
    simp only [Bool.not_eq_false] at h1
    cases ht : f.text with
    | true =>
      simp only [true_and, Bool.true_eq_false, false_and, or_false, h1, forall_const, false_implies, and_true]
      by_cases h : f.n ≠ 0 ∨ 200 < f.s.length
      · rw [if_pos h]
        refine ⟨fun h => (by cases h), ?_⟩
        rintro ⟨a, b⟩
        rcases h with h | h
        · exact absurd a h
        · omega
      · rw [if_neg h]
        simp only [not_or, Decidable.not_not] at h
        exact ⟨fun _ => ⟨h.1, by omega⟩, fun _ => rfl⟩
    | false =>
      simp only [Bool.false_eq_true, false_and, true_and, false_or, h1, false_implies, forall_const]
      by_cases h : f.s = []
      · simp [h]
      · simp [h]
theorem nameL_chars {s : By} (h : nameL s = true) : ∀ c ∈ s, okName c = true := by
  unfold nameL at h
  split at h
  · cases h
  · simp only [Bool.and_eq_true] at h
    exact List.all_eq_true.1 h.2
theorem okName_ne {c : UInt8} (h : okName c = true) : c ≠ 38 ∧ c ≠ 61 := by
  constructor <;> (rintro rfl; exact absurd h (by decide))
theorem nameL_ne {s : By} (h : nameL s = true) : s ≠ [] := by
  rintro rfl
  exact absurd h (by decide)
theorem itoa_chars (n : Int) : ∀ c ∈ Lib.itoa n, c = 45 ∨ isDig c = true := by
  intro c hc
  unfold Lib.itoa at hc
  split at hc
  · rcases List.mem_cons.1 hc with rfl | hc
    · exact .inl rfl
    · exact .inr (decDigits_all _ c hc)
  · exact .inr (decDigits_all _ c hc)
theorem itoa_ne (n : Int) : Lib.itoa n ≠ [] := by
  unfold Lib.itoa
  split
  · simp
  · exact decDigits_ne _
theorem value_chars {f : Fld} : ∀ c ∈ (if f.text = true then 39 :: escL f.s else Lib.itoa f.n), c ≠ 38 := by
  intro c hc
  split at hc
  · rcases List.mem_cons.1 hc with rfl | hc
    · decide
    · have := escL_fine f.s c hc
      rintro rfl
      exact absurd this (by decide)
  · rcases itoa_chars f.n c hc with rfl | h
    · decide
    · rintro rfl
      exact absurd h (by decide)
theorem textF_free {f : Fld} (h : nameL f.name = true) : (38 : UInt8) ∉ textF f := by
  intro hc
  unfold textF at hc
  rcases List.mem_append.1 hc with hc | hc
  · exact (okName_ne (nameL_chars h _ hc)).1 rfl
  · rcases List.mem_cons.1 hc with hc | hc
    · exact absurd hc (by decide)
    · exact value_chars _ hc rfl
theorem textF_cut {f : Fld} (h : nameL f.name = true) : cutL 61 (textF f) = (f.name, (if f.text = true then 39 :: escL f.s else Lib.itoa f.n), true) :=
  cutL_at (fun hc => (okName_ne (nameL_chars h _ hc)).2 rfl) _
theorem value_back {f : Fld} (h : fieldL f = 0) (hr : rangeF f) : valueL f.name (if f.text = true then 39 :: escL f.s else Lib.itoa f.n) = some f := by
  obtain ⟨h1, h2, h3⟩ := (fieldL_iff f).1 h
  obtain ⟨nm, tx, n, s⟩ := f
  simp only at h1 h2 h3 ⊢
  cases tx with
  | true =>
    obtain ⟨rfl, hs⟩ := h2 rfl
    simp only [if_true]
    unfold valueL
    simp only [List.head?_cons, if_true, List.tail_cons, unesc_of_esc]
    rw [if_pos hs]
  | false =>
    obtain rfl := h3 rfl
    simp only [Bool.false_eq_true, if_false]
    unfold valueL
    rw [if_neg, numL_itoa n hr.1 hr.2]
    · rfl
    · intro e
      rcases itoa_chars n 39 (List.mem_of_mem_head? e) with h | h
      · exact absurd h (by decide)
      · exact absurd h (by decide)
theorem partsL_texts : ∀ (f : Fld) (r : List Fld), (∀ g ∈ f :: r, nameL g.name = true) → partsL 38 (textsL (f :: r)) = (f :: r).map textF
  | f, [], h => by
    have : textsL [f] = textF f := by simp [textsL]
    rw [this, partsL_free (textF_free (h f (by simp)))]
    rfl
  | f, g :: r, h => by
    have e : textsL (f :: g :: r) = textF f ++ 38 :: textsL (g :: r) := by simp [textsL]
    rw [e, partsL_at (textF_free (h f (by simp))), partsL_texts g r (fun x hx => h x (by simp [hx]))]
    rfl
theorem oneL_back {L : List Fld} {f : Fld} (hl : L.length < 16) (h : fieldL f = 0) (hr : rangeF f) (hn : ∀ g ∈ L, g.name ≠ f.name) : oneL L (textF f) = (0, f) := by
  have h1 := ((fieldL_iff f).1 h).1
  unfold oneL
  rw [textF_cut h1, if_neg (by omega), if_neg (by simp [h1])]
  simp only
  rw [value_back h hr]
  simp only
  rw [if_neg]
  intro ha
  obtain ⟨g, hg, hp⟩ := List.any_eq_true.1 ha
  exact hn g hg (by simpa using hp)
theorem foldP_back : ∀ (r L : List Fld), (L ++ r).length ≤ 16 → (∀ f ∈ r, fieldL f = 0 ∧ rangeF f) → Dst (L ++ r) → foldP L (r.map textF) = (L ++ r, 0)
  | [], L, _, _, _ => by simp [foldP]
  | f :: r, L, hl, hf, hd => by
    rw [List.map_cons, foldP]
    have hd' := List.pairwise_append.1 hd
    rw [oneL_back (by simp at hl; omega) (hf f (by simp)).1 (hf f (by simp)).2 (fun g hg => hd'.2.2 g hg f (by simp)), if_neg (by simp)]
    have := foldP_back r (L ++ [f]) (by simpa using hl) (fun g hg => hf g (by simp [hg])) (by simpa using hd)
    simpa using this
/-- WHAT IS WRITTEN IS READ AGAIN. -/
theorem read_write {r : List Fld} (h : checkL r = 0) (hr : ∀ f ∈ r, rangeF f) : readL (writeL r).1 = (r, 0) := by
  obtain ⟨h1, h2, h3⟩ := (check_iff r).1 h
  unfold writeL
  rw [if_neg (by simp [h])]
  cases r with
  | nil => rfl
  | cons f r =>
    unfold readL
    have hne : textsL (f :: r) ≠ [] := by
      intro e
      have : textsL (f :: r) = textF f ++ ((r.map fun f => 38 :: textF f).flatten) := by simp [textsL]
      rw [this] at e
      have := List.append_eq_nil_iff.1 e
      have hz := this.1
      unfold textF at hz
      simp at hz
    show (if textsL (f :: r) = [] then _ else _) = _
    rw [if_neg hne, partsL_texts f r (fun g hg => ((fieldL_iff g).1 (h2 g hg)).1), foldP_back (f :: r) [] (by simpa using h1) (fun g hg => ⟨h2 g hg, hr g hg⟩) (srt_dst h3)]
    simp only [List.nil_append]
    rw [sortL_srt_self h3]
theorem value_ok {n s : By} {f : Fld} (hn : nameL n = true) (h : valueL n s = some f) : fieldL f = 0 ∧ rangeF f := by
  have hname := valueL_name h
  unfold valueL at h
  split at h
  · split at h
    · split at h
      · rename_i hu
        injection h with h
        subst h
        exact ⟨(fieldL_iff _).2 ⟨hn, fun _ => ⟨rfl, hu⟩, fun h => by cases h⟩, by unfold rangeF; simp⟩
      · cases h
    · cases h
  · cases hv : numL s with
    | none => rw [hv] at h; cases h
    | some v =>
      rw [hv] at h
      injection h with h
      subst h
      exact ⟨(fieldL_iff _).2 ⟨hn, fun h => (by cases h), fun _ => rfl⟩, (numL_is hv).2⟩
theorem foldP_ok : ∀ (ps : List By) (L : List Fld), L.length ≤ 16 → (∀ f ∈ L, fieldL f = 0 ∧ rangeF f) → Dst L → (foldP L ps).1.length ≤ 16 ∧ (∀ f ∈ (foldP L ps).1, fieldL f = 0 ∧ rangeF f) ∧ Dst (foldP L ps).1
  | [], L, h1, h2, h3 => ⟨h1, h2, h3⟩
  | p :: ps, L, h1, h2, h3 => by
    unfold foldP
    by_cases h : (oneL L p).1 = 0
    · rw [if_neg (by simp [h])]
      obtain ⟨a, b, c, d, e⟩ := oneL_zero h
      have hv := value_ok c d
      refine foldP_ok ps (L ++ [(oneL L p).2]) (by simp; omega) ?_ ?_
      · intro f hf
        rcases List.mem_append.1 hf with hf | hf
        · exact h2 f hf
        · rw [List.mem_singleton.1 hf]; exact hv
      · refine List.pairwise_append.2 ⟨h3, List.pairwise_singleton _ _, ?_⟩
        intro g hg x hx
        rw [List.mem_singleton.1 hx]
        exact e g hg
    · rw [if_pos h]
      exact ⟨by simp, by simp, List.Pairwise.nil⟩
/-- WHAT IS READ IS A RECORD. -/
theorem read_ok (s : By) : (readL s).1.length ≤ 16 ∧ (∀ f ∈ (readL s).1, fieldL f = 0 ∧ rangeF f) ∧ Srt (readL s).1 := by
  unfold readL
  split
  · exact ⟨by simp, by simp, List.Pairwise.nil⟩
  · obtain ⟨a, b, c⟩ := foldP_ok (partsL 38 s) [] (by simp) (by simp) List.Pairwise.nil
    have hp := sortL_perm c
    exact ⟨by simp only [hp.length_eq]; exact a, fun f hf => b f (hp.mem_iff.1 hf), sortL_srt c⟩
theorem read_check (s : By) : checkL (readL s).1 = 0 := by
  obtain ⟨a, b, c⟩ := read_ok s
  exact (check_iff _).2 ⟨a, fun f hf => (b f hf).1, c⟩
theorem foldP_bad : ∀ (ps : List By) (L : List Fld), (foldP L ps).2 ≠ 0 → (foldP L ps).1 = []
  | [], L, h => absurd rfl h
  | p :: ps, L, h => by
    unfold foldP at h ⊢
    split
    · rfl
    · rename_i h1
      rw [if_neg h1] at h
      exact foldP_bad ps _ h
theorem read_bad {s : By} (h : (readL s).2 ≠ 0) : (readL s).1 = [] := by
  unfold readL at h ⊢
  split
  · rfl
  · rename_i h1
    rw [if_neg h1] at h
    simp only at h ⊢
    rw [foldP_bad _ _ h]
    rfl
theorem read_write_read (s : By) : readL (writeL (readL s).1).1 = ((readL s).1, 0) ∧ (writeL (readL s).1).2 = 0 := by
  refine ⟨read_write (read_check s) (fun f hf => ((read_ok s).2.1 f hf).2), ?_⟩
  unfold writeL
  rw [if_neg (by simp [read_check s])]
end Go.Proofs.YtcgeiimihihhpaaGreatDoor.P12

namespace Go.Proofs.YtcgeiimihihhpaaGreatDoor
open Go Go.RowKit

abbrev bs (l : List UInt8) : Value := .string ⟨l.toArray⟩
theorem bs_data (s : ByteArray) : bs s.data.toList = .string s := congrArg Value.string (Lib.mk_data s)
theorem size_mk (l : List UInt8) : (⟨l.toArray⟩ : ByteArray).size = l.length := by simp [ByteArray.size]
theorem size_data (s : ByteArray) : s.data.toList.length = s.size := by simp
theorem ba_ext {a b : ByteArray} (h : a.data.toList = b.data.toList) : a = b := by rw [← Lib.mk_data a, ← Lib.mk_data b, h]
theorem vba {a b : ByteArray} (h : a.data.toList = b.data.toList) : Value.string a = Value.string b := congrArg Value.string (ba_ext h)
theorem vint {k : IntKind} {a b : Int} (h : a = b) : Value.int k a = Value.int k b := by rw [h]
theorem vbool {a b : Bool} (h : a = b) : Value.bool a = Value.bool b := by rw [h]
theorem vstr {a b : List UInt8} (h : a = b) : Value.string ⟨a.toArray⟩ = Value.string ⟨b.toArray⟩ := by rw [h]
theorem ret1 {a b : Value} (h : a = b) : Ending.returned a = Ending.returned b := by rw [h]
theorem ret2 {a b c d : Value} (h1 : a = c) (h2 : b = d) : Ending.returned (.tuple #[a, b]) = Ending.returned (.tuple #[c, d]) := by rw [h1, h2]
theorem ret3 {a b c d e f : Value} (h1 : a = d) (h2 : b = e) (h3 : c = f) : Ending.returned (.tuple #[a, b, c]) = Ending.returned (.tuple #[d, e, f]) := by rw [h1, h2, h3]

/-- What was there is as it was: cells, marks, the number of blocks. -/
theorem bcell {W w1 : World} (hb : Below W.heap.size W w1) : (∀ b o, b < W.heap.size → w1.cell? ⟨b, o, none⟩ = W.cell? ⟨b, o, none⟩) ∧ (∀ b o, b < W.heap.size → w1.frozen? ⟨b, o, none⟩ = W.frozen? ⟨b, o, none⟩) :=
  ⟨fun b o h => hb.cell (p := ⟨b, o, none⟩) h, fun b o h => hb.frozen (p := ⟨b, o, none⟩) h⟩
theorem below_drewN (w : World) (n : Nat) : Below w.heap.size w (w.drewN n) := ⟨rfl, rfl, rfl, Nat.le_refl _, fun _ _ => rfl⟩
theorem below_alloc (w : World) (o : Obj) : Below w.heap.size w (w.alloc o) := (Below.refl _ _).alloc (Nat.le_refl _) _
theorem below_then {a b c : World} (h : Below a.heap.size a b) (k : Below b.heap.size b c) : Below a.heap.size a c := h.trans (k.mono h.size)
end Go.Proofs.YtcgeiimihihhpaaGreatDoor

namespace Go.Proofs.YtcgeiimihihhpaaGreatDoor.P18
open Go P12

/-- What reading comes to: a status (0: more bytes are needed), or what was read and what stands behind it. -/
inductive Res (α : Type) where
  | stop (s : Int)
  | ok (a : α) (r : By)
def Res.map {α β : Type} (f : α → β) : Res α → Res β
  | .stop s => .stop s
  | .ok a r => .ok (f a) r
def Res.bind {α β : Type} (x : Res α) (f : α → By → Res β) : Res β := match x with
  | .stop s => .stop s
  | .ok a r => f a r

structure Hdr where
  name : By
  value : By
deriving DecidableEq
structure Rq where
  method : By
  path : By
  query : By
  headers : List Hdr
  body : By
  close : Bool
deriving DecidableEq
def zeroR : Rq := ⟨[], [], [], [], [], false⟩

/-! ## A line -/
def lineGo : Nat → By → Res By
  | _, [] => .stop 0
  | n, c :: r =>
    if c = 10 then .stop 400
    else if c = 13 then
      match r with
      | [] => .stop 0
      | d :: r' => if d = 10 then .ok [] r' else .stop 400
    else
      match n with
      | 0 => .stop 431
      | n + 1 => (lineGo n r).map (c :: ·)
def lineL (s : By) : Res By := lineGo 256 s

/-! ## Bytes -/
def upper (c : UInt8) : Bool := decide (65 ≤ c) && decide (c ≤ 90)
def letterC (c : UInt8) : Bool := low c || upper c
def hexC (c : UInt8) : Bool := (hexV c).isSome
def plain18 (c : UInt8) : Bool := letterC c || digit c || c == 45 || c == 46 || c == 95 || c == 126
/-- '!#$%&'*+-.^_`|~' -/
def marks : By := [33, 35, 36, 37, 38, 39, 42, 43, 45, 46, 94, 95, 96, 124, 126]
def tokenC (c : UInt8) : Bool := letterC c || digit c || marks.contains c
def shownC (c : UInt8) : Bool := c == 9 || (decide (32 ≤ c) && c != 127)
def smallC (c : UInt8) : UInt8 := if upper c then c + 32 else c
def smallL (s : By) : By := s.map smallC
def layout (c : UInt8) : Bool := c == 32 || c == 9
def trimL (s : By) : By := ((s.dropWhile layout).reverse.dropWhile layout).reverse
/-- Plain and escaped bytes, and some others. -/
def cleanL (others : By) : By → Bool
  | [] => true
  | c :: l =>
    if plain18 c || others.contains c then cleanL others l
    else if c = 37 then
      match l with
      | a :: b :: l' => if hexC a && hexC b then cleanL others l' else false
      | _ => false
    else false
termination_by s => s.length

/-! ## The first line -/
def http : By := [72, 84, 84, 80, 47, 49, 46, 49]
def getM : By := [71, 69, 84]
def postM : By := [80, 79, 83, 84]
def firstL (l : By) : Int × Rq :=
  match partsL 32 l with
  | [m, w, v] =>
    if v = http ∧ w.head? = some 47 ∧ m ≠ [] ∧ m.all upper = true then
      if cleanL [47] (cutL 63 w).1 = true ∧ cleanL [47, 61, 38, 39] (cutL 63 w).2.1 = true then
        if m = getM ∨ m = postM then (200, ⟨m, (cutL 63 w).1, (cutL 63 w).2.1, [], [], false⟩) else (501, zeroR)
      else (400, zeroR)
    else (400, zeroR)
  | _ => (400, zeroR)

/-! ## Headers -/
def headerL (l : By) : Option Hdr :=
  if (cutL 58 l).2.2 = true ∧ (cutL 58 l).1 ≠ [] ∧ (cutL 58 l).1.all tokenC = true ∧ (cutL 58 l).2.1.all shownC = true then some ⟨smallL (cutL 58 l).1, trimL (cutL 58 l).2.1⟩ else none
def headsGo : Nat → By → Res (List Hdr)
  | k, s =>
    match lineL s with
    | .stop t => .stop t
    | .ok l r =>
      if l = [] then .ok [] r
      else match k with
        | 0 => .stop 431
        | k + 1 => match headerL l with
          | none => .stop 400
          | some h => (headsGo k r).map (h :: ·)
def headsL (s : By) : Res (List Hdr) := headsGo 16 s

/-! ## The head as a whole -/
def getH (hs : List Hdr) (n : By) : List By := (hs.filter fun h => decide (h.name = n)).map (·.value)
def getV (hs : List Hdr) (n : By) : By := (getH hs n).headD []
def getN (hs : List Hdr) (n : By) : Nat := (getH hs n).length
def hostN : By := [104, 111, 115, 116]
def teN : By := [116, 114, 97, 110, 115, 102, 101, 114, 45, 101, 110, 99, 111, 100, 105, 110, 103]
def clN : By := [99, 111, 110, 116, 101, 110, 116, 45, 108, 101, 110, 103, 116, 104]
def connN : By := [99, 111, 110, 110, 101, 99, 116, 105, 111, 110]
def chunkedV : By := [99, 104, 117, 110, 107, 101, 100]
def closeV : By := [99, 108, 111, 115, 101]
def valD (s : By) : Nat := s.foldl (fun a c => 10 * a + (c.toNat - 48)) 0
/-- A status, and the body's size (below 0: in chunks). -/
def sizeL (hs : List Hdr) : Int × Int :=
  if getN hs hostN ≠ 1 then (400, 0)
  else if 0 < getN hs teN then
    if getN hs clN ≠ 0 then (400, 0)
    else if getN hs teN = 1 ∧ smallL (getV hs teN) = chunkedV then (200, -1) else (501, 0)
  else if 0 < getN hs clN then
    if getN hs clN = 1 ∧ getV hs clN ≠ [] ∧ (getV hs clN).length ≤ 9 ∧ (getV hs clN).all digit = true then
      if valD (getV hs clN) ≤ 1000 then (200, (valD (getV hs clN) : Int)) else (413, 0)
    else (400, 0)
  else (200, 0)

/-! ## The body -/
def takeL (n : Nat) (s : By) : Res By := if n ≤ s.length then .ok (s.take n) (s.drop n) else .stop 0
def hexN' (c : UInt8) : Nat := (hexV c).getD 0
def chunkSize (l : By) : Option Nat := if l ≠ [] ∧ l.length ≤ 4 ∧ l.all hexC = true then some (l.foldl (fun a c => 16 * a + hexN' c) 0) else none
def chunkData (n : Nat) (s : By) : Res By :=
  match s.drop n with
  | [] => .stop 0
  | c :: q => if c ≠ 13 then .stop 400 else match q with
    | [] => .stop 0
    | d :: q' => if d ≠ 10 then .stop 400 else .ok (s.take n) q'
/-- 'b': how many bytes there may still be. -/
def chunksGo (b : Nat) (s : By) : Res By :=
  match lineL s with
  | .stop t => .stop t
  | .ok l r =>
    match chunkSize l with
    | none => .stop 400
    | some n =>
      if _h : b < n then .stop 413
      else if _h0 : n = 0 then
        match lineL r with
        | .stop t => .stop t
        | .ok l2 r2 => if l2 = [] then .ok [] r2 else .stop 400
      else match chunkData n r with
        | .stop t => .stop t
        | .ok d q => (chunksGo (b - n) q).map (d ++ ·)
termination_by b
def bodyL (n : Int) (s : By) : Res By := if 0 ≤ n then takeL n.toNat s else chunksGo 1000 s

/-! ## All -/
def closeH (h : Hdr) : Bool := decide (h.name = connN) && (partsL 44 h.value).any fun p => decide (smallL (trimL p) = closeV)
def closeL (hs : List Hdr) : Bool := hs.any closeH
def parseR (s : By) : Res Rq :=
  (lineL s).bind fun l r =>
    if (firstL l).1 ≠ 200 then .stop (firstL l).1
    else (headsL r).bind fun hs r2 =>
      if (sizeL hs).1 ≠ 200 then .stop (sizeL hs).1
      else (bodyL (sizeL hs).2 r2).map fun b => ⟨(firstL l).2.method, (firstL l).2.path, (firstL l).2.query, hs, b, closeL hs⟩
/-- The request, how many bytes it has, the status. -/
def parseL (s : By) : Rq × Nat × Int :=
  match parseR s with
  | .stop t => (zeroR, 0, t)
  | .ok a r => (a, s.length - r.length, 200)

/-! ## What is told of a text is told of all that begin with it -/
/-- 'Good': what is refused or whole stays so behind more bytes; only bytes that are used up are looked at; what is left is the text's end. -/
structure Good {α : Type} (p : By → Res α) : Prop where
  stops : ∀ s t st, p s = .stop st → st ≠ 0 → p (s ++ t) = .stop st
  grows : ∀ s t a r, p s = .ok a r → p (s ++ t) = .ok a (r ++ t)
  local' : ∀ s t a r, p (s ++ t) = .ok a (r ++ t) → p s = .ok a r
  suffix : ∀ s a r, p s = .ok a r → ∃ u, s = u ++ r
theorem good_stop {α : Type} (st : Int) : Good (fun _ => (.stop st : Res α)) := ⟨fun _ _ _ h _ => h, fun _ _ _ _ h => by simp at h, fun _ _ _ _ h => by simp at h, fun _ _ _ h => by simp at h⟩
theorem good_ok {α : Type} (a : α) : Good (fun s => (.ok a s : Res α)) where
  stops := fun _ _ _ h => by simp at h
  grows := fun s t a r h => by simp only [Res.ok.injEq] at h ⊢; exact ⟨h.1, by rw [h.2]⟩
  local' := fun s t a r h => by simp only [Res.ok.injEq] at h ⊢; exact ⟨h.1, List.append_cancel_right h.2⟩
  suffix := fun s a r h => by simp only [Res.ok.injEq] at h; exact ⟨[], h.2⟩
theorem Good.bind {α β : Type} {p : By → Res α} {f : α → By → Res β} (hp : Good p) (hf : ∀ a, Good (f a)) : Good (fun s => (p s).bind f) where
  stops := fun s t st h h0 => by
    cases hs : p s with
    | stop x => rw [hs] at h; simp only [Res.bind, Res.stop.injEq] at h; subst h; simp only [hp.stops s t x hs h0, Res.bind]
    | ok a r => rw [hs] at h; simp only [hp.grows s t a r hs, Res.bind] at h ⊢; exact (hf a).stops _ _ _ h h0
  grows := fun s t b r h => by
    cases hs : p s with
    | stop x => rw [hs] at h; simp [Res.bind] at h
    | ok a q => rw [hs] at h; simp only [hp.grows s t a q hs, Res.bind] at h ⊢; exact (hf a).grows _ _ _ _ h
  local' := fun s t b r h => by
    cases hs : p (s ++ t) with
    | stop x => rw [hs] at h; simp [Res.bind] at h
    | ok a q =>
      rw [hs] at h
      simp only [Res.bind] at h
      obtain ⟨u, hu⟩ := (hf a).suffix _ _ _ h
      have hq : q = (u ++ r) ++ t := by rw [hu, List.append_assoc]
      subst hq
      rw [hp.local' s t a _ hs]
      simp only [Res.bind]
      exact (hf a).local' _ _ _ _ h
  suffix := fun s b r h => by
    cases hs : p s with
    | stop x => rw [hs] at h; simp [Res.bind] at h
    | ok a q =>
      rw [hs] at h
      simp only [Res.bind] at h
      obtain ⟨u, hu⟩ := hp.suffix _ _ _ hs
      obtain ⟨v, hv⟩ := (hf a).suffix _ _ _ h
      exact ⟨u ++ v, by rw [hu, hv, List.append_assoc]⟩
theorem map_bind {α β : Type} (x : Res α) (f : α → β) : x.map f = x.bind fun a r => .ok (f a) r := by cases x <;> rfl
theorem Good.map {α β : Type} {p : By → Res α} (hp : Good p) (f : α → β) : Good (fun s => (p s).map f) := by
  have : (fun s => (p s).map f) = fun s => (p s).bind fun a r => .ok (f a) r := by funext s; exact map_bind _ _
  rw [this]
  exact hp.bind fun a => good_ok (f a)
theorem good_if {α : Type} {c : Prop} [Decidable c] {p q : By → Res α} (hp : Good p) (hq : Good q) : Good (fun s => if c then p s else q s) := by
  by_cases h : c
  · simp only [h, if_true]; exact hp
  · simp only [h, if_false]; exact hq

theorem line_nil (n : Nat) : lineGo n [] = .stop 0 := by cases n <;> rfl
theorem line_cons (n : Nat) (c : UInt8) (r : By) (h1 : c ≠ 10) (h2 : c ≠ 13) : lineGo n (c :: r) = match n with
    | 0 => .stop 431
    | n + 1 => (lineGo n r).map (c :: ·) := by
  cases n <;> simp [lineGo, h1, h2]
theorem line_cr (n : Nat) (r : By) : lineGo n (13 :: r) = match r with
    | [] => .stop 0
    | d :: r' => if d = 10 then .ok [] r' else .stop 400 := by
  cases n <;> cases r <;> simp [lineGo]
theorem line_lf (n : Nat) (r : By) : lineGo n (10 :: r) = .stop 400 := by cases n <;> simp [lineGo]
/-- A line is what stands ahead of the first CR, a LF behind it. -/
theorem line_ok : ∀ {s : By} {n : Nat} {a r : By}, lineGo n s = .ok a r ↔ s = a ++ 13 :: 10 :: r ∧ a.length ≤ n ∧ ∀ c ∈ a, c ≠ 13 ∧ c ≠ 10
  | [], n, a, r => by
    rw [line_nil]
    constructor
    · intro h; cases h
    · rintro ⟨h, -⟩; simp at h
  | c :: s, n, a, r => by
    by_cases h1 : c = 10
    · subst h1
      rw [line_lf]
      constructor
      · intro h; cases h
      · rintro ⟨h, -, h3⟩
        cases a with
        | nil => simp at h
        | cons d a =>
          simp only [List.cons_append, List.cons.injEq] at h
          exact absurd h.1.symm (h3 d (by simp)).2
    · by_cases h2 : c = 13
      · subst h2
        rw [line_cr]
        cases s with
        | nil =>
          constructor
          · intro h; cases h
          · rintro ⟨h, -⟩
            cases a with
            | nil => simp at h
            | cons d a => simp at h
        | cons d s =>
          by_cases hd : d = 10
          · subst hd
            simp only [if_true, Res.ok.injEq]
            constructor
            · rintro ⟨rfl, rfl⟩; simp
            · rintro ⟨h, -, h3⟩
              cases a with
              | nil => simp at h; exact ⟨rfl, h⟩
              | cons e a =>
                simp only [List.cons_append, List.cons.injEq] at h
                exact absurd h.1.symm (h3 e (by simp)).1
          · simp only [hd, if_false]
            constructor
            · intro h; cases h
            · rintro ⟨h, -, h3⟩
              cases a with
              | nil => simp at h; exact absurd h.1 hd
              | cons e a =>
                simp only [List.cons_append, List.cons.injEq] at h
                exact absurd h.1.symm (h3 e (by simp)).1
      · rw [line_cons n c s h1 h2]
        cases n with
        | zero =>
          simp only
          constructor
          · intro h; cases h
          · rintro ⟨h, h4, h3⟩
            cases a with
            | nil => simp at h; exact absurd h.1 h2
            | cons e a => simp at h4
        | succ n =>
          simp only
          have ih := @line_ok s n
          constructor
          · intro h
            cases hs : lineGo n s with
            | stop x => rw [hs] at h; cases h
            | ok a' r' =>
              rw [hs] at h
              simp only [Res.map, Res.ok.injEq] at h
              obtain ⟨rfl, rfl⟩ := h
              obtain ⟨e1, e2, e3⟩ := ih.1 hs
              refine ⟨by rw [e1]; rfl, by simp; exact e2, ?_⟩
              intro d hd
              rcases List.mem_cons.1 hd with rfl | hd
              · exact ⟨h2, h1⟩
              · exact e3 d hd
          · rintro ⟨h, h4, h3⟩
            cases a with
            | nil => simp at h; exact absurd h.1 h2
            | cons e a =>
              simp only [List.cons_append, List.cons.injEq] at h
              obtain ⟨rfl, h⟩ := h
              rw [ih.2 ⟨h, by simpa using h4, fun d hd => h3 d (by simp [hd])⟩]
              rfl
theorem line_stop : ∀ (s : By) (n : Nat) (t : By) (st : Int), lineGo n s = .stop st → st ≠ 0 → lineGo n (s ++ t) = .stop st
  | [], n, t, st, h, h0 => by
    rw [line_nil] at h
    injection h with h
    exact absurd h.symm h0
  | c :: s, n, t, st, h, h0 => by
    rw [List.cons_append]
    by_cases h1 : c = 10
    · subst h1; rw [line_lf] at h ⊢; exact h
    · by_cases h2 : c = 13
      · subst h2
        rw [line_cr] at h ⊢
        cases s with
        | nil => injection h with h; exact absurd h.symm h0
        | cons d s =>
          simp only [List.cons_append] at h ⊢
          split at h
          · cases h
          · rename_i hd; rw [if_neg hd]; exact h
      · rw [line_cons n c s h1 h2] at h
        rw [line_cons n c _ h1 h2]
        cases n with
        | zero => exact h
        | succ n =>
          simp only at h ⊢
          cases hs : lineGo n s with
          | ok a r => rw [hs] at h; cases h
          | stop x =>
            rw [hs] at h
            simp only [Res.map, Res.stop.injEq] at h
            subst h
            rw [line_stop s n t x hs h0]
            rfl
theorem good_lineGo (n : Nat) : Good (lineGo n) where
  stops := fun s t st h h0 => line_stop s n t st h h0
  grows := fun s t a r h => by
    obtain ⟨e1, e2, e3⟩ := line_ok.1 h
    exact line_ok.2 ⟨by rw [e1]; simp, e2, e3⟩
  local' := fun s t a r h => by
    obtain ⟨e1, e2, e3⟩ := line_ok.1 h
    refine line_ok.2 ⟨?_, e2, e3⟩
    have : s ++ t = (a ++ 13 :: 10 :: r) ++ t := by rw [e1]; simp
    exact List.append_cancel_right this
  suffix := fun s a r h => by
    obtain ⟨e1, -, -⟩ := line_ok.1 h
    exact ⟨a ++ [13, 10], by rw [e1]; simp⟩
theorem good_line : Good lineL := good_lineGo 256
theorem good_take (n : Nat) : Good (takeL n) where
  stops := fun s t st h h0 => by
    unfold takeL at h
    split at h
    · cases h
    · injection h with h; exact absurd h.symm h0
  grows := fun s t a r h => by
    unfold takeL at h ⊢
    split at h
    · rename_i hn
      injection h with e1 e2
      rw [if_pos (by simp; omega), ← e1, ← e2, List.take_append_of_le_length hn, List.drop_append_of_le_length hn]
    · cases h
  local' := fun s t a r h => by
    unfold takeL at h ⊢
    split at h
    · rename_i hn
      injection h with e1 e2
      have hl := congrArg List.length e2
      simp only [List.length_drop, List.length_append] at hl hn
      have hn' : n ≤ s.length := by omega
      rw [List.take_append_of_le_length hn'] at e1
      rw [List.drop_append_of_le_length hn'] at e2
      rw [if_pos hn', e1, List.append_cancel_right e2]
    · cases h
  suffix := fun s a r h => by
    unfold takeL at h
    split at h
    · injection h with e1 e2
      exact ⟨s.take n, by rw [← e2, List.take_append_drop]⟩
    · cases h
theorem data_ok {n : Nat} {s d q : By} : chunkData n s = .ok d q ↔ s = d ++ 13 :: 10 :: q ∧ d.length = n := by
  unfold chunkData
  constructor
  · intro h
    split at h
    · cases h
    · rename_i c q1 hd
      split at h
      · cases h
      · rename_i hc
        split at h
        · cases h
        · rename_i e q2
          split at h
          · cases h
          · rename_i he
            injection h with h1 h2
            have hc' : c = 13 := by simpa using hc
            have he' : e = 10 := by simpa using he
            subst hc' he' h1 h2
            have hlt : n < s.length := by
              rcases Nat.lt_or_ge n s.length with h | h
              · exact h
              · rw [List.drop_eq_nil_of_le h] at hd; cases hd
            exact ⟨by rw [← hd, List.take_append_drop], by rw [List.length_take]; omega⟩
  · rintro ⟨rfl, rfl⟩
    rw [List.drop_left]
    simp
theorem good_data (n : Nat) : Good (chunkData n) where
  stops := fun s t st h h0 => by
    unfold chunkData at h ⊢
    split at h
    · injection h with h; exact absurd h.symm h0
    · rename_i c q1 hd
      have hlt : n < s.length := by
        rcases Nat.lt_or_ge n s.length with h | h
        · exact h
        · rw [List.drop_eq_nil_of_le h] at hd; cases hd
      rw [List.drop_append_of_le_length (by omega), hd]
      simp only [List.cons_append]
      split at h
      · rename_i hc; rw [if_pos hc]; exact h
      · rename_i hc
        rw [if_neg hc]
        split at h
        · injection h with h; exact absurd h.symm h0
        · simp only [List.cons_append]
          split at h
          · rename_i he; rw [if_pos he]; exact h
          · cases h
  grows := fun s t a r h => by
    obtain ⟨e1, e2⟩ := data_ok.1 h
    exact data_ok.2 ⟨by rw [e1]; simp, e2⟩
  local' := fun s t a r h => by
    obtain ⟨e1, e2⟩ := data_ok.1 h
    refine data_ok.2 ⟨?_, e2⟩
    have : s ++ t = (a ++ 13 :: 10 :: r) ++ t := by rw [e1]; simp
    exact List.append_cancel_right this
  suffix := fun s a r h => by
    obtain ⟨e1, -⟩ := data_ok.1 h
    exact ⟨a ++ [13, 10], by rw [e1]; simp⟩

theorem heads_eq (k : Nat) : headsGo k = fun s => (lineL s).bind fun l r => if l = [] then .ok [] r else match k with
    | 0 => .stop 431
    | k + 1 => match headerL l with
      | none => .stop 400
      | some h => (headsGo k r).map (h :: ·) := by
  funext s
  rw [headsGo.eq_def]
  dsimp only
  generalize lineL s = x
  cases x <;> rfl
theorem good_headsGo : ∀ k, Good (headsGo k)
  | 0 => by
    rw [heads_eq]
    exact good_line.bind fun l => good_if (good_ok _) (good_stop _)
  | k + 1 => by
    rw [heads_eq]
    refine good_line.bind fun l => good_if (good_ok _) ?_
    cases h : headerL l with
    | none => exact good_stop _
    | some x => exact (good_headsGo k).map _
theorem chunks_eq (b : Nat) : chunksGo b = fun s => (lineL s).bind fun l r =>
    match chunkSize l with
    | none => .stop 400
    | some n => if b < n then .stop 413 else if n = 0 then (lineL r).bind fun l2 r2 => if l2 = [] then .ok [] r2 else .stop 400
      else (chunkData n r).bind fun d q => (chunksGo (b - n) q).map (d ++ ·) := by
  funext s
  rw [chunksGo.eq_def]
  cases lineL s with
  | stop x => rfl
  | ok l r =>
    simp only [Res.bind]
    cases chunkSize l with
    | none => rfl
    | some n =>
      simp only
      by_cases h : b < n
      · simp only [h, if_true, dif_pos]
      · by_cases h0 : n = 0
        · simp only [h0, if_true, dif_pos, if_false, dif_neg, Nat.not_lt_zero, not_false_eq_true]
          cases lineL r <;> rfl
        · simp only [h, h0, if_false, dif_neg, not_false_eq_true]
          cases chunkData n r <;> rfl
theorem good_chunks : ∀ (m b : Nat), b ≤ m → Good (chunksGo b)
  | m, b, hm => by
    rw [chunks_eq]
    refine good_line.bind fun l => ?_
    cases hc : chunkSize l with
    | none => exact good_stop _
    | some n =>
      simp only
      by_cases hbn : b < n
      · simp only [hbn, if_true]
        exact good_stop _
      · simp only [hbn, if_false]
        by_cases h0 : n = 0
        · simp only [h0, if_true]
          exact good_line.bind fun l2 => good_if (good_ok _) (good_stop _)
        · simp only [h0, if_false]
          match m, hm with
          | 0, hm => omega
          | m + 1, hm => exact (good_data n).bind fun d => (good_chunks m (b - n) (by omega)).map _
theorem good_body (n : Int) : Good (bodyL n) := by
  unfold bodyL
  exact good_if (good_take _) (good_chunks 1000 1000 (Nat.le_refl _))
theorem good_parse : Good parseR := by
  show Good (fun s => (lineL s).bind _)
  refine good_line.bind fun l => good_if (good_stop _) ?_
  refine (good_headsGo 16).bind fun hs => good_if (good_stop _) ?_
  exact (good_body _).map _

/-! ## Statuses -/
def Told (st : Int) : Prop := st = 0 ∨ st = 400 ∨ st = 413 ∨ st = 431 ∨ st = 501
def Tells {α : Type} (p : By → Res α) : Prop := ∀ s st, p s = .stop st → Told st
theorem tells_stop {α : Type} {st : Int} (h : Told st) : Tells (fun _ => (.stop st : Res α)) := fun _ _ e => by injection e with e; rw [← e]; exact h
theorem tells_ok {α : Type} (a : α) : Tells (fun s => (.ok a s : Res α)) := fun _ _ e => by cases e
theorem Tells.bind {α β : Type} {p : By → Res α} {f : α → By → Res β} (hp : Tells p) (hf : ∀ a, Tells (f a)) : Tells (fun s => (p s).bind f) := fun s st h => by
  dsimp only at h
  cases hs : p s with
  | stop x => rw [hs] at h; simp only [Res.bind, Res.stop.injEq] at h; subst h; exact hp _ _ hs
  | ok a r => rw [hs] at h; exact hf a _ _ h
theorem Tells.map {α β : Type} {p : By → Res α} (hp : Tells p) (f : α → β) : Tells (fun s => (p s).map f) := fun s st h => by
  dsimp only at h
  cases hs : p s with
  | stop x => rw [hs] at h; simp only [Res.map, Res.stop.injEq] at h; subst h; exact hp _ _ hs
  | ok a r => rw [hs] at h; cases h
theorem tells_if {α : Type} {c : Prop} [Decidable c] {p q : By → Res α} (hp : Tells p) (hq : Tells q) : Tells (fun s => if c then p s else q s) := by
  by_cases h : c
  · simp only [h, if_true]; exact hp
  · simp only [h, if_false]; exact hq
theorem tells_lineGo : ∀ (s : By) (n : Nat) (st : Int), lineGo n s = .stop st → Told st
  | [], n, st, h => by rw [line_nil] at h; injection h with h; exact .inl h.symm
  | c :: s, n, st, h => by
    by_cases h1 : c = 10
    · subst h1; rw [line_lf] at h; injection h with h; exact .inr (.inl h.symm)
    · by_cases h2 : c = 13
      · subst h2
        rw [line_cr] at h
        cases s with
        | nil => injection h with h; exact .inl h.symm
        | cons d s =>
          simp only at h
          split at h
          · cases h
          · injection h with h; exact .inr (.inl h.symm)
      · rw [line_cons n c s h1 h2] at h
        cases n with
        | zero => injection h with h; exact .inr (.inr (.inr (.inl h.symm)))
        | succ n =>
          simp only at h
          cases hs : lineGo n s with
          | ok a r => rw [hs] at h; cases h
          | stop x =>
            rw [hs] at h
            simp only [Res.map, Res.stop.injEq] at h
            subst h
            exact tells_lineGo s n x hs
theorem tells_line : Tells lineL := fun s st h => tells_lineGo s 256 st h
theorem tells_take (n : Nat) : Tells (takeL n) := fun s st h => by
  unfold takeL at h
  split at h
  · cases h
  · injection h with h; exact .inl h.symm
theorem tells_data (n : Nat) : Tells (chunkData n) := fun s st h => by
  unfold chunkData at h
  split at h
  · injection h with h; exact .inl h.symm
  · split at h
    · injection h with h; exact .inr (.inl h.symm)
    · split at h
      · injection h with h; exact .inl h.symm
      · split at h
        · injection h with h; exact .inr (.inl h.symm)
        · cases h
theorem told400 : Told 400 := .inr (.inl rfl)
theorem told413 : Told 413 := .inr (.inr (.inl rfl))
theorem told431 : Told 431 := .inr (.inr (.inr (.inl rfl)))
theorem told501 : Told 501 := .inr (.inr (.inr (.inr rfl)))
theorem tells_headsGo : ∀ k, Tells (headsGo k)
  | 0 => by
    rw [heads_eq]
    exact tells_line.bind fun l => tells_if (tells_ok _) (tells_stop told431)
  | k + 1 => by
    rw [heads_eq]
    refine tells_line.bind fun l => tells_if (tells_ok _) ?_
    cases h : headerL l with
    | none => exact tells_stop told400
    | some x => exact (tells_headsGo k).map _
theorem tells_chunks : ∀ (m b : Nat), b ≤ m → Tells (chunksGo b)
  | m, b, hm => by
    rw [chunks_eq]
    refine tells_line.bind fun l => ?_
    cases hc : chunkSize l with
    | none => exact tells_stop told400
    | some n =>
      simp only
      by_cases hbn : b < n
      · simp only [hbn, if_true]
        exact tells_stop told413
      · simp only [hbn, if_false]
        by_cases h0 : n = 0
        · simp only [h0, if_true]
          exact tells_line.bind fun l2 => tells_if (tells_ok _) (tells_stop told400)
        · simp only [h0, if_false]
          match m, hm with
          | 0, hm => omega
          | m + 1, hm => exact (tells_data n).bind fun d => (tells_chunks m (b - n) (by omega)).map _
theorem tells_body (n : Int) : Tells (bodyL n) := by
  unfold bodyL
  exact tells_if (tells_take _) (tells_chunks 1000 1000 (Nat.le_refl _))
theorem first_told (l : By) : (firstL l).1 = 200 ∨ Told (firstL l).1 := by
  unfold firstL
  split
  · split
    · split
      · split
        · exact .inl rfl
        · exact .inr told501
      · exact .inr told400
    · exact .inr told400
  · exact .inr told400
theorem size_told (hs : List Hdr) : (sizeL hs).1 = 200 ∨ Told (sizeL hs).1 := by
  unfold sizeL
  split
  · exact .inr told400
  · split
    · split
      · exact .inr told400
      · split
        · exact .inl rfl
        · exact .inr told501
    · split
      · split
        · split
          · exact .inl rfl
          · exact .inr told413
        · exact .inr told400
      · exact .inl rfl
theorem tells_parse : Tells parseR := by
  show Tells (fun s => (lineL s).bind _)
  refine tells_line.bind fun l => ?_
  by_cases h : (firstL l).1 = 200
  · simp only [h, ne_eq, not_true, if_false]
    refine (tells_headsGo 16).bind fun hs => ?_
    by_cases h2 : (sizeL hs).1 = 200
    · simp only [h2, not_true, if_false]
      exact (tells_body _).map _
    · simp only [h2, not_false_eq_true, if_true]
      exact tells_stop ((size_told hs).resolve_left h2)
  · simp only [h, ne_eq, not_false_eq_true, if_true]
    exact tells_stop ((first_told l).resolve_left h)
theorem told_ne {st : Int} (h : Told st) : st ≠ 200 := by
  rcases h with rfl | rfl | rfl | rfl | rfl <;> decide

/-! ## The laws of what follows (P18.3) -/
theorem parse_len {s r : By} {a : Rq} (h : parseR s = .ok a r) : r.length ≤ s.length ∧ s.drop (s.length - r.length) = r ∧ s.take (s.length - r.length) ++ r = s := by
  obtain ⟨u, rfl⟩ := good_parse.suffix _ _ _ h
  refine ⟨by simp, ?_, ?_⟩
  · rw [List.length_append, Nat.add_sub_cancel, List.drop_left]
  · rw [List.length_append, Nat.add_sub_cancel, List.take_left]
/-- What is told of a text is told of every text that begins with it. -/
theorem grows_law (s t : By) : (parseL s).2.2 ≠ 0 → parseL (s ++ t) = parseL s := by
  intro h0
  unfold parseL at *
  cases hs : parseR s with
  | stop x =>
    rw [hs] at h0
    rw [good_parse.stops s t x hs h0]
  | ok a r =>
    rw [good_parse.grows s t a r hs]
    simp only [List.length_append, Prod.mk.injEq, true_and, and_true]
    omega
theorem more_law (s t : By) : (parseL s).2.2 = 0 → (parseL s).1 = zeroR ∧ (parseL s).2.1 = 0 ∧ ((parseL (s ++ t)).2.2 = 200 → s.length < (parseL (s ++ t)).2.1) := by
  intro h0
  unfold parseL at *
  cases hs : parseR s with
  | ok a r => rw [hs] at h0; simp at h0
  | stop x =>
    refine ⟨rfl, rfl, fun h => ?_⟩
    cases hst : parseR (s ++ t) with
    | stop y =>
      rw [hst] at h
      exact absurd h (told_ne (tells_parse _ _ hst))
    | ok a r =>
      simp only
      rcases Nat.lt_or_ge s.length ((s ++ t).length - r.length) with hlt | hge
      · exact hlt
      · exfalso
        obtain ⟨h1, h2, h3⟩ := parse_len hst
        have hd : r = s.drop ((s ++ t).length - r.length) ++ t := by
          rw [List.drop_append_of_le_length hge] at h2
          exact h2.symm
        rw [hd] at hst
        have := good_parse.local' s t a _ hst
        rw [hs] at this
        cases this
end Go.Proofs.YtcgeiimihihhpaaGreatDoor.P18

namespace Go.Proofs.YtcgeiimihihhpaaGreatDoor.P18
open Go P12

theorem parseL_ok {s : By} {a : Rq} {n : Nat} (h : parseL s = (a, n, 200)) : ∃ r, parseR s = .ok a r ∧ n = s.length - r.length ∧ r.length ≤ s.length := by
  unfold parseL at h
  cases hs : parseR s with
  | stop x =>
    rw [hs] at h
    simp only [Prod.mk.injEq] at h
    exact absurd h.2.2 (told_ne (tells_parse _ _ hs))
  | ok b r =>
    rw [hs] at h
    simp only [Prod.mk.injEq, and_true] at h
    obtain ⟨rfl, rfl⟩ := h
    exact ⟨r, rfl, rfl, (parse_len hs).1⟩
/-- Requests one behind the other are read one behind the other. -/
theorem pipes_law {one : By} {a : Rq} {n : Nat} (h : parseL one = (a, n, 200)) (two : By) : parseL (one.take n ++ two) = (a, n, 200) := by
  obtain ⟨r, hr, hn, hl⟩ := parseL_ok h
  obtain ⟨h1, h2, h3⟩ := parse_len hr
  rw [← hn] at h3
  have hloc := good_parse.local' (one.take n) r a [] (by rw [h3, List.nil_append]; exact hr)
  have hg := good_parse.grows _ two _ _ hloc
  unfold parseL
  rw [hg]
  simp only [List.nil_append, List.length_append, List.length_take, Prod.mk.injEq, true_and, and_true]
  omega

theorem len_of_take {n : Nat} {s a r : By} (h : takeL n s = .ok a r) : a.length = n := by
  unfold takeL at h
  split at h
  · injection h with h1 h2; rw [← h1, List.length_take]; omega
  · cases h
theorem chunks_len : ∀ (m b : Nat), b ≤ m → ∀ s a r, chunksGo b s = .ok a r → a.length ≤ b
  | m, b, hm, s, a, r, h => by
    rw [chunks_eq] at h
    dsimp only at h
    cases h1 : lineL s with
    | stop x => rw [h1] at h; cases h
    | ok l q =>
      rw [h1] at h
      simp only [Res.bind] at h
      cases hc : chunkSize l with
      | none => rw [hc] at h; cases h
      | some n =>
        rw [hc] at h
        simp only at h
        by_cases hbn : b < n
        · rw [if_pos hbn] at h; cases h
        · rw [if_neg hbn] at h
          by_cases h0 : n = 0
          · rw [if_pos h0] at h
            cases h2 : lineL q with
            | stop x => rw [h2] at h; cases h
            | ok l2 q2 =>
              rw [h2] at h
              simp only at h
              split at h
              · injection h with h3 h4; rw [← h3]; simp
              · cases h
          · rw [if_neg h0] at h
            cases h2 : chunkData n q with
            | stop x => rw [h2] at h; cases h
            | ok d q2 =>
              rw [h2] at h
              simp only at h
              cases h3 : chunksGo (b - n) q2 with
              | stop x => rw [h3] at h; cases h
              | ok e q3 =>
                rw [h3] at h
                simp only [Res.map, Res.ok.injEq] at h
                obtain ⟨rfl, rfl⟩ := h
                match m, hm with
                | 0, hm => omega
                | m + 1, hm =>
                  have := chunks_len m (b - n) (by omega) _ _ _ h3
                  have := (data_ok.1 h2).2
                  rw [List.length_append]
                  omega
theorem body_len {hs : List Hdr} {s b r : By} (h : bodyL (sizeL hs).2 s = .ok b r) : b.length ≤ 1000 := by
  unfold bodyL at h
  split at h
  · rename_i h0
    have := len_of_take h
    have hle : (sizeL hs).2 ≤ 1000 := by
      unfold sizeL
      split
      · simp
      · split
        · split
          · simp
          · split <;> simp
        · split
          · split
            · split
              · rename_i hv; simp; omega
              · simp
            · simp
          · simp
    omega
  · exact chunks_len 1000 1000 (Nat.le_refl _) _ _ _ h
theorem heads_len : ∀ (k : Nat) (s : By) (a : List Hdr) (r : By), headsGo k s = .ok a r → a.length ≤ k
  | k, s, a, r, h => by
    rw [heads_eq] at h
    dsimp only at h
    cases h1 : lineL s with
    | stop x => rw [h1] at h; cases h
    | ok l q =>
      rw [h1] at h
      simp only [Res.bind] at h
      split at h
      · injection h with h3 h4; rw [← h3]; simp
      · match k with
        | 0 => cases h
        | k + 1 =>
          simp only at h
          cases hh : headerL l with
          | none => rw [hh] at h; cases h
          | some x =>
            rw [hh] at h
            simp only at h
            cases h3 : headsGo k q with
            | stop x => rw [h3] at h; cases h
            | ok e q3 =>
              rw [h3] at h
              simp only [Res.map, Res.ok.injEq] at h
              obtain ⟨rfl, rfl⟩ := h
              have := heads_len k _ _ _ h3
              simp; omega
theorem first_ok {l : By} : (firstL l).1 = 200 → ((firstL l).2.method = getM ∨ (firstL l).2.method = postM) := by
  unfold firstL
  split
  · split
    · split
      · split
        · rename_i hm; intro _; exact hm
        · intro h; simp at h
      · intro h; simp at h
    · intro h; simp at h
  · intro h; simp at h
theorem size_ok {hs : List Hdr} (h : (sizeL hs).1 = 200) : getN hs hostN = 1 := by
  unfold sizeL at h
  split at h
  · simp at h
  · rename_i hn; simpa using hn
/-- How a whole request came to be. -/
theorem parseR_ok {s : By} {a : Rq} {r : By} (h : parseR s = .ok a r) : ∃ l r1 hs r2 b, lineL s = .ok l r1 ∧ (firstL l).1 = 200 ∧ headsL r1 = .ok hs r2 ∧ (sizeL hs).1 = 200 ∧ bodyL (sizeL hs).2 r2 = .ok b r ∧ a = ⟨(firstL l).2.method, (firstL l).2.path, (firstL l).2.query, hs, b, closeL hs⟩ := by
  unfold parseR at h
  cases h1 : lineL s with
  | stop x => rw [h1] at h; cases h
  | ok l r1 =>
    rw [h1] at h
    simp only [Res.bind] at h
    split at h
    · cases h
    · rename_i hf
      cases h2 : headsL r1 with
      | stop x => rw [h2] at h; cases h
      | ok hs r2 =>
        rw [h2] at h
        simp only at h
        split at h
        · cases h
        · rename_i hz
          cases h3 : bodyL (sizeL hs).2 r2 with
          | stop x => rw [h3] at h; cases h
          | ok b r3 =>
            rw [h3] at h
            simp only [Res.map, Res.ok.injEq] at h
            obtain ⟨rfl, rfl⟩ := h
            exact ⟨l, r1, hs, r2, b, rfl, by simpa using hf, h2, by simpa using hz, h3, rfl⟩
/-- What is taken is within its limits; what is refused is refused with one of four numbers. -/
theorem sound_law (s : By) : ((parseL s).2.2 = 200 ∧ 0 < (parseL s).2.1 ∧ (parseL s).2.1 ≤ s.length ∧ (parseL s).1.body.length ≤ 1000 ∧ (parseL s).1.headers.length ≤ 16 ∧ getN (parseL s).1.headers hostN = 1 ∧ ((parseL s).1.method = getM ∨ (parseL s).1.method = postM)) ∨
    (Told (parseL s).2.2 ∧ (parseL s).1 = zeroR ∧ (parseL s).2.1 = 0) := by
  unfold parseL
  cases hs : parseR s with
  | stop x => exact .inr ⟨tells_parse _ _ hs, rfl, rfl⟩
  | ok a r =>
    left
    obtain ⟨l, r1, hs', r2, b, h1, h2, h3, h4, h5, rfl⟩ := parseR_ok hs
    obtain ⟨u1, hu1⟩ := (good_headsGo 16).suffix _ _ _ h3
    obtain ⟨u2, hu2⟩ := (good_body _).suffix _ _ _ h5
    obtain ⟨e1, -, -⟩ := line_ok.1 h1
    refine ⟨rfl, ?_, by simp, body_len h5, heads_len _ _ _ _ h3, size_ok h4, first_ok h2⟩
    simp only
    rw [e1, hu1, hu2]
    simp
    omega
end Go.Proofs.YtcgeiimihihhpaaGreatDoor.P18

namespace Go.Proofs.YtcgeiimihihhpaaGreatDoor.P18
open Go P12

theorem line_at {a : By} (r : By) (h : a.length ≤ 256) (hc : ∀ c ∈ a, c ≠ 13 ∧ c ≠ 10) : lineL (a ++ 13 :: 10 :: r) = .ok a r := line_ok.2 ⟨rfl, h, hc⟩
theorem heads_end (k : Nat) (r : By) : headsGo k (13 :: 10 :: r) = .ok [] r := by
  rw [heads_eq]
  dsimp only
  rw [show (13 :: 10 :: r : By) = [] ++ 13 :: 10 :: r by rfl, line_at (a := []) r (by simp) (by simp)]
  simp [Res.bind]
theorem heads_step {k : Nat} {a : By} {h : Hdr} (r : By) (ha : a ≠ []) (hl : a.length ≤ 256) (hc : ∀ c ∈ a, c ≠ 13 ∧ c ≠ 10) (hh : headerL a = some h) : headsGo (k + 1) (a ++ 13 :: 10 :: r) = (headsGo k r).map (h :: ·) := by
  rw [heads_eq]
  dsimp only
  rw [line_at r hl hc]
  simp only [Res.bind, if_neg ha, hh]
theorem parse_at {l : By} {rq : Rq} {hs : List Hdr} {sz : Int} {r1 r2 b r : By} (hl : l.length ≤ 256) (hc : ∀ c ∈ l, c ≠ 13 ∧ c ≠ 10) (hf : firstL l = (200, rq)) (hh : headsL r1 = .ok hs r2) (hz : sizeL hs = (200, sz)) (hb : bodyL sz r2 = .ok b r) :
    parseR (l ++ 13 :: 10 :: r1) = .ok ⟨rq.method, rq.path, rq.query, hs, b, closeL hs⟩ r := by
  unfold parseR
  rw [line_at r1 hl hc]
  simp only [Res.bind, hf, hh, hz, hb, ne_eq, not_true, if_false, Res.map]

/-! ## Headers -/
theorem dropWhile_none {p : UInt8 → Bool} {l : By} (h : ∀ c ∈ l, p c = false) : l.dropWhile p = l := by
  cases l with
  | nil => rfl
  | cons c l => rw [List.dropWhile_cons, if_neg (by rw [h c (by simp)]; decide)]
theorem dropWhile_all {p : UInt8 → Bool} : ∀ {a : By} (l : By), (∀ c ∈ a, p c = true) → (a ++ l).dropWhile p = l.dropWhile p
  | [], _, _ => rfl
  | c :: a, l, h => by rw [List.cons_append, List.dropWhile_cons, if_pos (h c (by simp)), dropWhile_all l (fun d hd => h d (by simp [hd]))]
/-- A value without layout at its ends. -/
theorem trim_at {a v b : By} (ha : ∀ c ∈ a, layout c = true) (hb : ∀ c ∈ b, layout c = true) (hv : ∀ c ∈ v, layout c = false) : trimL (a ++ v ++ b) = v := by
  unfold trimL
  rw [List.append_assoc, dropWhile_all _ ha]
  cases v with
  | nil =>
    have : ([] ++ b : By).dropWhile layout = [] := by
      have := dropWhile_all (p := layout) [] hb
      simpa using this
    rw [this]
    rfl
  | cons c v =>
    have h1 : ((c :: v) ++ b).dropWhile layout = (c :: v) ++ b := by
      rw [List.cons_append, List.dropWhile_cons, if_neg (by rw [hv c (by simp)]; decide)]
    rw [h1, List.reverse_append, dropWhile_all _ (fun d hd => hb d (List.mem_reverse.1 hd)), dropWhile_none (fun d hd => hv d (List.mem_reverse.1 hd)), List.reverse_reverse]
theorem letter_facts : ∀ c : UInt8, letterC c = true → tokenC c = true ∧ c ≠ 58 ∧ c ≠ 13 ∧ c ≠ 10 ∧ c ≠ 45 ∧ smallC c ≠ 45 := by
  have h : ((List.range 256).all fun n => !letterC n.toUInt8 || (tokenC n.toUInt8 && n.toUInt8 != 58 && n.toUInt8 != 13 && n.toUInt8 != 10 && n.toUInt8 != 45 && smallC n.toUInt8 != 45)) = true := by decide +kernel
  intro c hc
  have := List.all_eq_true.1 h c.toNat (List.mem_range.2 c.toNat_lt)
  simp [hc] at this
  exact ⟨this.1.1.1.1.1, this.1.1.1.1.2, this.1.1.1.2, this.1.1.2, this.1.2, this.2⟩
theorem value_facts : ∀ c : UInt8, 33 ≤ c → c ≠ 127 → shownC c = true ∧ layout c = false ∧ c ≠ 13 ∧ c ≠ 10 := by
  have h : ((List.range 256).all fun n => !(decide (33 ≤ n.toUInt8) && n.toUInt8 != 127) || (shownC n.toUInt8 && !layout n.toUInt8 && n.toUInt8 != 13 && n.toUInt8 != 10)) = true := by decide +kernel
  intro c h1 h2
  have := List.all_eq_true.1 h c.toNat (List.mem_range.2 c.toNat_lt)
  simp [h1, h2] at this
  exact ⟨this.1.1.1, this.1.1.2, this.1.2, this.2⟩
def lineG : By := [71, 69, 84, 32, 47, 32, 72, 84, 84, 80, 47, 49, 46, 49]
def lineP : By := [80, 79, 83, 84, 32, 47, 99, 32, 72, 84, 84, 80, 47, 49, 46, 49]
def lineH : By := [72, 111, 115, 116, 58, 32, 104]
def hostH : Hdr := ⟨hostN, [104]⟩
theorem clean_one (o : By) (c : UInt8) (h : (plain18 c || o.contains c) = true) : cleanL o [c] = true := by
  rw [cleanL.eq_def]
  simp only [h, if_true]
  rw [cleanL.eq_def]
theorem clean_nil (o : By) : cleanL o [] = true := by rw [cleanL.eq_def]
theorem firstG : firstL lineG = (200, ⟨getM, [47], [], [], [], false⟩) := by
  have hp : partsL 32 lineG = [getM, [47], http] := by decide
  have hc : cutL 63 [47] = ([47], [], false) := by decide
  unfold firstL
  rw [hp]
  simp only [hc]
  rw [if_pos (by decide), if_pos ⟨clean_one _ _ (by decide), clean_nil _⟩, if_pos (by decide)]
theorem firstP : firstL lineP = (200, ⟨postM, [47, 99], [], [], [], false⟩) := by
  have hp : partsL 32 lineP = [postM, [47, 99], http] := by decide
  have hc : cutL 63 [47, 99] = ([47, 99], [], false) := by decide
  have h2 : cleanL [47] [47, 99] = true := by
    rw [cleanL.eq_def]
    show (if (plain18 47 || List.contains [47] 47) = true then cleanL [47] [99] else _) = true
    rw [if_pos (by decide)]
    exact clean_one _ _ (by decide)
  unfold firstL
  rw [hp]
  simp only [hc]
  rw [if_pos (by decide), if_pos ⟨h2, clean_nil _⟩, if_pos (by decide)]
theorem headerH : headerL lineH = some hostH := by decide
theorem nocr {l : By} (h : (l.all fun c => c != 13 && c != 10) = true) : ∀ c ∈ l, c ≠ 13 ∧ c ≠ 10 := fun c hc => by
  have := List.all_eq_true.1 h c hc
  simpa using this
/-- A header's name is found in small letters, its value without layout. -/
theorem heads_law {raw value : By} (hr0 : raw ≠ []) (hrl : raw.length ≤ 40) (hr : ∀ c ∈ raw, letterC c = true) (hvl : value.length ≤ 150) (hv : ∀ c ∈ value, 33 ≤ c ∧ c ≠ 127) (h1 : smallL raw ≠ hostN) (h2 : smallL raw ≠ connN) :
    parseR (lineG ++ 13 :: 10 :: (lineH ++ 13 :: 10 :: ((raw ++ [58, 32, 9, 32] ++ value ++ [32, 9]) ++ 13 :: 10 :: (13 :: 10 :: [])))) = .ok ⟨getM, [47], [], [hostH, ⟨smallL raw, value⟩], [], false⟩ [] := by
  have hH : headerL (raw ++ [58, 32, 9, 32] ++ value ++ [32, 9]) = some ⟨smallL raw, value⟩ := by
    have hcut : cutL 58 (raw ++ [58, 32, 9, 32] ++ value ++ [32, 9]) = (raw, [32, 9, 32] ++ value ++ [32, 9], true) := by
      have := cutL_at (c := 58) (p := raw) (fun h => (letter_facts 58 (hr 58 h)).2.1 rfl) ([32, 9, 32] ++ value ++ [32, 9])
      rw [← this]
      simp
    have hcnd : true = true ∧ raw ≠ [] ∧ raw.all tokenC = true ∧ ([32, 9, 32] ++ value ++ [32, 9] : By).all shownC = true := by
      refine ⟨rfl, hr0, List.all_eq_true.2 fun c hc => (letter_facts c (hr c hc)).1, List.all_eq_true.2 fun c hc => ?_⟩
      rcases List.mem_append.1 hc with hc | hc
      · rcases List.mem_append.1 hc with hc | hc
        · exact List.all_eq_true.1 (show ([32, 9, 32] : By).all shownC = true by decide) c hc
        · exact (value_facts c (hv c hc).1 (hv c hc).2).1
      · exact List.all_eq_true.1 (show ([32, 9] : By).all shownC = true by decide) c hc
    unfold headerL
    rw [hcut]
    refine (if_pos hcnd).trans ?_
    rw [trim_at (by decide) (by decide) (fun c hc => (value_facts c (hv c hc).1 (hv c hc).2).2.1)]
  have hcl : smallL raw ≠ clN := fun e => by
    have : (45 : UInt8) ∈ smallL raw := by rw [e]; decide
    obtain ⟨c, hc, hc2⟩ := List.mem_map.1 this
    exact (letter_facts c (hr c hc)).2.2.2.2.2 hc2
  have hte : smallL raw ≠ teN := fun e => by
    have : (45 : UInt8) ∈ smallL raw := by rw [e]; decide
    obtain ⟨c, hc, hc2⟩ := List.mem_map.1 this
    exact (letter_facts c (hr c hc)).2.2.2.2.2 hc2
  have hhs : headsL (lineH ++ 13 :: 10 :: ((raw ++ [58, 32, 9, 32] ++ value ++ [32, 9]) ++ 13 :: 10 :: (13 :: 10 :: []))) = .ok [hostH, ⟨smallL raw, value⟩] [] := by
    unfold headsL
    rw [heads_step _ (by decide) (by decide) (nocr (by decide)) headerH, heads_step _ (by simp) (by simp; omega) ?_ hH, heads_end]
    · rfl
    · intro c hc
      rcases List.mem_append.1 hc with hc | hc
      · rcases List.mem_append.1 hc with hc | hc
        · rcases List.mem_append.1 hc with hc | hc
          · exact ⟨(letter_facts c (hr c hc)).2.2.1, (letter_facts c (hr c hc)).2.2.2.1⟩
          · exact nocr (l := [58, 32, 9, 32]) (by decide) c hc
        · exact ⟨(value_facts c (hv c hc).1 (hv c hc).2).2.2.1, (value_facts c (hv c hc).1 (hv c hc).2).2.2.2⟩
      · exact nocr (l := [32, 9]) (by decide) c hc
  have hsz : sizeL [hostH, ⟨smallL raw, value⟩] = (200, 0) := by
    have n1 : getN [hostH, ⟨smallL raw, value⟩] hostN = 1 := by simp [getN, getH, hostH, h1]
    have n2 : getN [hostH, ⟨smallL raw, value⟩] teN = 0 := by simp [getN, getH, hostH, hte, show hostN ≠ teN by decide]
    have n3 : getN [hostH, ⟨smallL raw, value⟩] clN = 0 := by simp [getN, getH, hostH, hcl, show hostN ≠ clN by decide]
    unfold sizeL
    rw [n1, n2, n3]
    simp
  have hcl0 : closeL [hostH, ⟨smallL raw, value⟩] = false := by
    simp [closeL, closeH, hostH, h2, show hostN ≠ connN by decide]
  have := parse_at (l := lineG) (by decide) (nocr (by decide)) firstG hhs hsz (b := []) (r := []) (by simp [bodyL, takeL])
  rw [hcl0] at this
  exact this
end Go.Proofs.YtcgeiimihihhpaaGreatDoor.P18

namespace Go.Proofs.YtcgeiimihihhpaaGreatDoor.P18
open Go P12

def hx (n : Nat) : UInt8 := if n < 10 then (48 + n).toUInt8 else (87 + n).toUInt8
def hexT (n : Nat) : By := if n < 16 then [hx n] else if n < 256 then [hx (n / 16), hx (n % 16)] else [hx (n / 256), hx (n / 16 % 16), hx (n % 16)]
theorem hex_facts {n : Nat} (h : n ≤ 1000) : chunkSize (hexT n) = some n ∧ (∀ c ∈ hexT n, c ≠ 13 ∧ c ≠ 10) ∧ (hexT n).length ≤ 256 := by
  have hall : ((List.range 1001).all fun n => decide (chunkSize (hexT n) = some n) && ((hexT n).all fun c => c != 13 && c != 10) && decide ((hexT n).length ≤ 256)) = true := by decide +kernel
  have := List.all_eq_true.1 hall n (List.mem_range.2 (by omega))
  rw [Bool.and_eq_true, Bool.and_eq_true] at this
  exact ⟨of_decide_eq_true this.1.1, nocr this.1.2, of_decide_eq_true this.2⟩
/-- How many bytes the next chunk takes. -/
def pickN (sizes : List Int) (n : Nat) : Nat := match sizes with
  | k :: _ => if 0 < k ∧ k < (n : Int) then k.toNat else n
  | [] => n
theorem pick_le {sizes : List Int} {n : Nat} (h : 0 < n) : 1 ≤ pickN sizes n ∧ pickN sizes n ≤ n := by
  unfold pickN
  split
  · split
    · omega
    · omega
  · omega
def chunkT (sizes : List Int) (body : By) : By :=
  if _h : body = [] then [48, 13, 10, 13, 10]
  else hexT (pickN sizes body.length) ++ 13 :: 10 :: (body.take (pickN sizes body.length) ++ 13 :: 10 :: chunkT sizes.tail (body.drop (pickN sizes body.length)))
termination_by body.length
decreasing_by
  have : 0 < body.length := List.length_pos_iff.2 _h
  have := pick_le (sizes := sizes) this
  rw [List.length_drop]
  omega
theorem chunk_nil (sizes : List Int) : chunkT sizes [] = [48, 13, 10, 13, 10] := by rw [chunkT, dif_pos rfl]
theorem chunk_cons (sizes : List Int) {body : By} (h : body ≠ []) : chunkT sizes body = hexT (pickN sizes body.length) ++ 13 :: 10 :: (body.take (pickN sizes body.length) ++ 13 :: 10 :: chunkT sizes.tail (body.drop (pickN sizes body.length))) := by rw [chunkT, dif_neg h]
theorem chunks_law : ∀ (m b : Nat) (sizes : List Int) (body behind : By), body.length ≤ m → body.length ≤ b → b ≤ 1000 → chunksGo b (chunkT sizes body ++ behind) = .ok body behind
  | m, b, sizes, body, behind, hm, hb, h1000 => by
    by_cases h0 : body = []
    · subst h0
      rw [chunk_nil, chunks_eq]
      dsimp only
      rw [show [48, 13, 10, 13, 10] ++ behind = [48] ++ 13 :: 10 :: ([] ++ 13 :: 10 :: behind) by rfl, line_at (a := [48]) _ (by decide) (nocr (by decide))]
      simp only [Res.bind, show chunkSize [48] = some 0 by decide, Nat.not_lt_zero, if_false, if_true]
      rw [line_at (a := []) _ (by decide) (nocr (by decide))]
      simp
    · have hpos : 0 < body.length := List.length_pos_iff.2 h0
      obtain ⟨p1, p2⟩ := pick_le (sizes := sizes) hpos
      rw [chunk_cons sizes h0, chunks_eq]
      dsimp only
      generalize pickN sizes body.length = n at p1 p2
      obtain ⟨f1, f2, f3⟩ := hex_facts (n := n) (by omega)
      rw [List.append_assoc, List.cons_append, List.cons_append, line_at _ f3 f2]
      simp only [Res.bind, f1]
      rw [if_neg (by omega), if_neg (by omega)]
      have hd : chunkData n ((body.take n ++ 13 :: 10 :: chunkT sizes.tail (body.drop n)) ++ behind) = .ok (body.take n) (chunkT sizes.tail (body.drop n) ++ behind) :=
        data_ok.2 ⟨by simp, by rw [List.length_take]; omega⟩
      rw [hd]
      simp only
      match m, hm with
      | 0, hm => omega
      | m + 1, hm =>
        rw [chunks_law m (b - n) sizes.tail (body.drop n) behind (by rw [List.length_drop]; omega) (by rw [List.length_drop]; omega) (by omega)]
        simp only [Res.map, List.take_append_drop]

def lineC : By := [67, 111, 110, 116, 101, 110, 116, 45, 76, 101, 110, 103, 116, 104, 58, 32]
def lineT : By := [84, 114, 97, 110, 115, 102, 101, 114, 45, 69, 110, 99, 111, 100, 105, 110, 103, 58, 32, 99, 104, 117, 110, 107, 101, 100]
theorem decDigits_digit : ∀ (u : Nat), ∀ c ∈ Lib.decDigits u, 48 ≤ c ∧ c ≤ 57
  | u, c, hc => by
    rw [Lib.decDigits] at hc
    have key : ∀ k, k < 10 → (48 : UInt8) ≤ UInt8.ofNat (48 + k) ∧ UInt8.ofNat (48 + k) ≤ 57 := by
      have : ∀ k : Fin 10, (48 : UInt8) ≤ UInt8.ofNat (48 + k.1) ∧ UInt8.ofNat (48 + k.1) ≤ 57 := by decide
      exact fun k hk => this ⟨k, hk⟩
    split at hc
    · rename_i h
      simp only [List.mem_singleton] at hc
      subst hc
      exact key u h
    · rename_i h
      rcases List.mem_append.1 hc with hc | hc
      · exact decDigits_digit (u / 10) c hc
      · simp only [List.mem_singleton] at hc
        subst hc
        exact key (u % 10) (by omega)
termination_by u => u
theorem decDigits_val : ∀ (u : Nat), valD (Lib.decDigits u) = u
  | u => by
    rw [Lib.decDigits]
    have key : ∀ k, k < 10 → (UInt8.ofNat (48 + k)).toNat - 48 = k := by
      have : ∀ k : Fin 10, (UInt8.ofNat (48 + k.1)).toNat - 48 = k.1 := by decide
      exact fun k hk => this ⟨k, hk⟩
    split
    · rename_i h
      simp only [valD, List.foldl_cons, List.foldl_nil, Nat.mul_zero, Nat.zero_add]
      exact key u h
    · rename_i h
      have ih := decDigits_val (u / 10)
      unfold valD at ih ⊢
      rw [List.foldl_append, ih]
      simp only [List.foldl_cons, List.foldl_nil]
      rw [key (u % 10) (by omega)]
      omega
termination_by u => u
theorem decDigits_ne (u : Nat) : Lib.decDigits u ≠ [] := by
  rw [Lib.decDigits]
  split
  · simp
  · simp
theorem decDigits_len : ∀ (k u : Nat), u < 10 ^ (k + 1) → (Lib.decDigits u).length ≤ k + 1
  | 0, u, h => by
    rw [Lib.decDigits, dif_pos (by simpa using h)]
    simp
  | k + 1, u, h => by
    rw [Lib.decDigits]
    split
    · simp
    · have := decDigits_len k (u / 10) (by rw [Nat.pow_succ] at h; omega)
      simp only [List.length_append, List.length_singleton]
      omega
theorem itoa_dec (n : Nat) : Lib.itoa (n : Int) = Lib.decDigits n := by
  unfold Lib.itoa
  rw [if_neg (by omega)]
  simp
theorem digit_facts : ∀ c : UInt8, 48 ≤ c → c ≤ 57 → digit c = true ∧ shownC c = true ∧ layout c = false ∧ c ≠ 13 ∧ c ≠ 10 := by
  intro c h1 h2
  have h3 : (33 : UInt8) ≤ c := UInt8.le_trans (by decide) h1
  have h4 : c ≠ 127 := fun e => by subst e; exact absurd h2 (by decide)
  obtain ⟨a, b, d, e⟩ := value_facts c h3 h4
  exact ⟨by unfold digit; simp [h1, h2], a, b, d, e⟩
theorem headerC {n : Nat} : headerL (lineC ++ Lib.itoa (n : Int)) = some ⟨clN, Lib.itoa (n : Int)⟩ := by
  rw [itoa_dec]
  have hd := decDigits_digit n
  generalize Lib.decDigits n = d at hd
  have hcut : cutL 58 (lineC ++ d) = ([67, 111, 110, 116, 101, 110, 116, 45, 76, 101, 110, 103, 116, 104], [32] ++ d, true) := by
    have := cutL_at (c := 58) (p := [67, 111, 110, 116, 101, 110, 116, 45, 76, 101, 110, 103, 116, 104]) (by decide) ([32] ++ d)
    rw [← this]
    rfl
  have hcnd : true = true ∧ ([67, 111, 110, 116, 101, 110, 116, 45, 76, 101, 110, 103, 116, 104] : By) ≠ [] ∧ ([67, 111, 110, 116, 101, 110, 116, 45, 76, 101, 110, 103, 116, 104] : By).all tokenC = true ∧ ([32] ++ d : By).all shownC = true := by
    refine ⟨rfl, by decide, by decide, List.all_eq_true.2 fun c hc => ?_⟩
    rcases List.mem_append.1 hc with hc | hc
    · exact List.all_eq_true.1 (show ([32] : By).all shownC = true by decide) c hc
    · exact (digit_facts c (hd c hc).1 (hd c hc).2).2.1
  unfold headerL
  rw [hcut]
  refine (if_pos hcnd).trans ?_
  have := trim_at (a := [32]) (v := d) (b := []) (by decide) (by decide) (fun c hc => (digit_facts c (hd c hc).1 (hd c hc).2).2.2.1)
  rw [List.append_nil] at this
  rw [this]
  rfl
theorem headerT : headerL lineT = some ⟨teN, chunkedV⟩ := by decide
/-- A body by its length. -/
theorem one_law {body : By} (hb : body.length ≤ 1000) (behind : By) :
    parseR (lineP ++ 13 :: 10 :: (lineH ++ 13 :: 10 :: ((lineC ++ Lib.itoa (body.length : Int)) ++ 13 :: 10 :: (13 :: 10 :: (body ++ behind))))) = .ok ⟨postM, [47, 99], [], [hostH, ⟨clN, Lib.itoa (body.length : Int)⟩], body, false⟩ behind := by
  have hd := decDigits_digit body.length
  have hv := decDigits_val body.length
  have hne := decDigits_ne body.length
  have hln := decDigits_len 3 body.length (by omega)
  have hhs : headsL (lineH ++ 13 :: 10 :: ((lineC ++ Lib.itoa (body.length : Int)) ++ 13 :: 10 :: (13 :: 10 :: (body ++ behind)))) = .ok [hostH, ⟨clN, Lib.itoa (body.length : Int)⟩] (body ++ behind) := by
    unfold headsL
    rw [heads_step _ (by decide) (by decide) (nocr (by decide)) headerH, heads_step _ (by simp [lineC]) (by rw [itoa_dec, List.length_append, show lineC.length = 16 by rfl]; omega) ?_ headerC, heads_end]
    · rfl
    · intro c hc
      rcases List.mem_append.1 hc with hc | hc
      · exact nocr (l := lineC) (by decide) c hc
      · rw [itoa_dec] at hc
        exact (digit_facts c (hd c hc).1 (hd c hc).2).2.2.2
  have hsz : sizeL [hostH, ⟨clN, Lib.itoa (body.length : Int)⟩] = (200, (body.length : Int)) := by
    rw [itoa_dec]
    have n1 : getN [hostH, ⟨clN, Lib.decDigits body.length⟩] hostN = 1 := by simp [getN, getH, hostH, show clN ≠ hostN by decide]
    have n2 : getN [hostH, ⟨clN, Lib.decDigits body.length⟩] teN = 0 := by simp [getN, getH, hostH, show hostN ≠ teN by decide, show clN ≠ teN by decide]
    have n3 : getN [hostH, ⟨clN, Lib.decDigits body.length⟩] clN = 1 := by simp [getN, getH, hostH, show hostN ≠ clN by decide]
    have v3 : getV [hostH, ⟨clN, Lib.decDigits body.length⟩] clN = Lib.decDigits body.length := by simp [getV, getH, hostH, show hostN ≠ clN by decide]
    unfold sizeL
    rw [n1, n2, n3, v3, hv]
    rw [if_neg (by simp), if_neg (by simp), if_pos (by simp), if_pos ⟨rfl, hne, by omega, List.all_eq_true.2 fun c hc => (digit_facts c (hd c hc).1 (hd c hc).2).1⟩, if_pos hb]
  have hcl0 : closeL [hostH, ⟨clN, Lib.itoa (body.length : Int)⟩] = false := by
    simp [closeL, closeH, hostH, show clN ≠ connN by decide, show hostN ≠ connN by decide]
  have := parse_at (l := lineP) (by decide) (nocr (by decide)) firstP hhs hsz (b := body) (r := behind) (by simp [bodyL, takeL])
  rw [hcl0] at this
  exact this
/-- A body in chunks. -/
theorem two_law {body : By} (hb : body.length ≤ 1000) (sizes : List Int) (behind : By) :
    parseR (lineP ++ 13 :: 10 :: (lineH ++ 13 :: 10 :: (lineT ++ 13 :: 10 :: (13 :: 10 :: (chunkT sizes body ++ behind))))) = .ok ⟨postM, [47, 99], [], [hostH, ⟨teN, chunkedV⟩], body, false⟩ behind := by
  have hhs : headsL (lineH ++ 13 :: 10 :: (lineT ++ 13 :: 10 :: (13 :: 10 :: (chunkT sizes body ++ behind)))) = .ok [hostH, ⟨teN, chunkedV⟩] (chunkT sizes body ++ behind) := by
    unfold headsL
    rw [heads_step _ (by decide) (by decide) (nocr (by decide)) headerH, heads_step _ (by decide) (by decide) (nocr (by decide)) headerT, heads_end]
    rfl
  have hsz : sizeL [hostH, ⟨teN, chunkedV⟩] = (200, -1) := by decide
  have hcl0 : closeL [hostH, ⟨teN, chunkedV⟩] = false := by decide
  have := parse_at (l := lineP) (by decide) (nocr (by decide)) firstP hhs hsz (b := body) (r := behind) (by unfold bodyL; rw [if_neg (by decide)]; exact chunks_law _ _ _ _ _ (Nat.le_refl _) hb (by omega))
  rw [hcl0] at this
  exact this
end Go.Proofs.YtcgeiimihihhpaaGreatDoor.P18

namespace Go.Proofs.YtcgeiimihihhpaaGreatDoor.P18
open Go P12

def tgo (q : Bool) : By → Bool
  | [] => true
  | c :: l =>
    if plain18 c || c == 47 || (q && [61, 38, 39].contains c) then tgo q l
    else if c = 63 ∧ q = false then tgo true l
    else if c = 37 then
      match l with
      | a :: b :: l' => if hexC a && hexC b then tgo q l' else false
      | _ => false
    else false
termination_by s => s.length
def targetR (s : By) : Bool := decide (s.head? = some 47) && tgo false s

theorem tgo_nil (q : Bool) : tgo q [] = true := by rw [tgo]
theorem clean_nil' (o : By) : cleanL o [] = true := by rw [cleanL.eq_def]
theorem tgo_true : ∀ (m : Nat) (l : By), l.length ≤ m → tgo true l = cleanL [47, 61, 38, 39] l
  | _, [], _ => by rw [tgo_nil, clean_nil']
  | 0, c :: l, h => by simp at h
  | m + 1, c :: l, h => by
    rw [tgo.eq_def, cleanL.eq_def]
    simp only
    have hc : (plain18 c || c == 47 || (true && [61, 38, 39].contains c)) = (plain18 c || [47, 61, 38, 39].contains c) := by
      rw [Bool.eq_iff_iff]
      simp [or_assoc]
    rw [hc]
    have hl : l.length ≤ m := by simpa using h
    by_cases h1 : (plain18 c || [47, 61, 38, 39].contains c) = true
    · rw [if_pos h1, if_pos h1]
      exact tgo_true m l hl
    · rw [if_neg h1, if_neg h1, if_neg (by simp)]
      by_cases h2 : c = 37
      · rw [if_pos h2, if_pos h2]
        match l, hl with
        | [], _ => rfl
        | [a], _ => rfl
        | a :: b :: l', hl =>
          simp only
          rw [tgo_true m l' (by simp at hl; omega)]
      · rw [if_neg h2, if_neg h2]
theorem cutL_cons {c d : UInt8} (h : d ≠ c) (l : By) : cutL c (d :: l) = (d :: (cutL c l).1, (cutL c l).2.1, (cutL c l).2.2) := by
  conv => lhs; unfold cutL
  rw [if_neg h]
theorem cutL_here (c : UInt8) (l : By) : cutL c (c :: l) = ([], l, true) := by
  unfold cutL
  rw [if_pos rfl]
theorem hexC_ne {a : UInt8} (h : hexC a = true) : a ≠ 63 := by rintro rfl; exact absurd h (by decide)
theorem tgo_false : ∀ (m : Nat) (l : By), l.length ≤ m → tgo false l = (cleanL [47] (cutL 63 l).1 && cleanL [47, 61, 38, 39] (cutL 63 l).2.1)
  | _, [], _ => by
    rw [tgo_nil]
    show true = (cleanL [47] [] && cleanL [47, 61, 38, 39] [])
    rw [clean_nil', clean_nil']
    rfl
  | 0, c :: l, h => by simp at h
  | m + 1, c :: l, h => by
    have hl : l.length ≤ m := by simpa using h
    rw [tgo.eq_def]
    simp only
    have hc : (plain18 c || c == 47 || (false && [61, 38, 39].contains c)) = (plain18 c || [47].contains c) := by
      rw [Bool.eq_iff_iff]
      simp
    rw [hc]
    by_cases hq : c = 63
    · subst hq
      rw [if_neg (by decide), if_pos (by simp), cutL_here, tgo_true m l hl, clean_nil']
      simp
    · rw [cutL_cons hq]
      simp only
      by_cases h1 : (plain18 c || [47].contains c) = true
      · rw [if_pos h1, tgo_false m l hl]
        conv => rhs; rw [cleanL.eq_def]
        simp only
        rw [if_pos h1]
      · rw [if_neg h1, if_neg (by simp [hq])]
        by_cases h2 : c = 37
        · rw [if_pos h2]
          match l, hl with
          | [], _ =>
            show false = (cleanL [47] [c] && _)
            rw [cleanL.eq_def]
            simp only
            rw [if_neg h1, if_pos h2]
            rfl
          | [a], _ =>
            have : cleanL [47] (c :: (cutL 63 [a]).1) = false := by
              by_cases ha : a = 63
              · subst ha
                rw [cutL_here, cleanL.eq_def]
                simp only
                rw [if_neg h1, if_pos h2]
              · rw [cutL_cons ha, cleanL.eq_def]
                simp only
                rw [if_neg h1, if_pos h2]
                rfl
            rw [this]
            rfl
          | a :: b :: l', hl =>
            simp only
            by_cases hh : (hexC a && hexC b) = true
            · rw [if_pos hh]
              rw [Bool.and_eq_true] at hh
              rw [cutL_cons (hexC_ne hh.1), cutL_cons (hexC_ne hh.2), tgo_false m l' (by simp at hl; omega)]
              simp only
              conv => rhs; rw [cleanL.eq_def]
              simp only
              rw [if_neg h1, if_pos h2, if_pos (by rw [Bool.and_eq_true]; exact hh)]
            · rw [if_neg hh]
              have : cleanL [47] (c :: (cutL 63 (a :: b :: l')).1) = false := by
                by_cases ha : a = 63
                · subst ha
                  rw [cutL_here, cleanL.eq_def]
                  simp only
                  rw [if_neg h1, if_pos h2]
                · rw [cutL_cons ha]
                  by_cases hb : b = 63
                  · subst hb
                    rw [cutL_here, cleanL.eq_def]
                    simp only
                    rw [if_neg h1, if_pos h2]
                  · rw [cutL_cons hb, cleanL.eq_def]
                    simp only
                    rw [if_neg h1, if_pos h2, if_neg hh]
              rw [this]
              rfl
        · rw [if_neg h2]
          have : cleanL [47] (c :: (cutL 63 l).1) = false := by
            rw [cleanL.eq_def]
            simp only
            rw [if_neg h1, if_neg h2]
          rw [this]
          rfl
theorem target_is (s : By) : targetR s = true ↔ s.head? = some 47 ∧ cleanL [47] (cutL 63 s).1 = true ∧ cleanL [47, 61, 38, 39] (cutL 63 s).2.1 = true := by
  unfold targetR
  rw [tgo_false s.length s (Nat.le_refl _)]
  simp

/-- The reference's first line. -/
def refFirst (s : By) : Int × Rq :=
  if (cutL 32 s).2.2 = false ∨ (cutL 32 (cutL 32 s).2.1).2.2 = false ∨ targetR (cutL 32 (cutL 32 s).2.1).1 = false ∨ (cutL 32 (cutL 32 s).2.1).2.1 ≠ http ∨ (cutL 32 s).1 = [] then (400, zeroR)
  else if (cutL 32 s).1.all upper = false then (400, zeroR)
  else if (cutL 32 s).1 ≠ getM ∧ (cutL 32 s).1 ≠ postM then (501, zeroR)
  else (200, ⟨(cutL 32 s).1, (cutL 63 (cutL 32 (cutL 32 s).2.1).1).1, (cutL 63 (cutL 32 (cutL 32 s).2.1).1).2.1, [], [], false⟩)
theorem firstL_three {l m w v : By} (h : partsL 32 l = [m, w, v]) : firstL l = if v = http ∧ w.head? = some 47 ∧ m ≠ [] ∧ m.all upper = true then
      if cleanL [47] (cutL 63 w).1 = true ∧ cleanL [47, 61, 38, 39] (cutL 63 w).2.1 = true then
        if m = getM ∨ m = postM then (200, ⟨m, (cutL 63 w).1, (cutL 63 w).2.1, [], [], false⟩) else (501, zeroR)
      else (400, zeroR)
    else (400, zeroR) := by
  unfold firstL
  rw [h]
theorem firstL_else {l : By} (h : (partsL 32 l).length ≠ 3) : firstL l = (400, zeroR) := by
  unfold firstL
  split
  · rename_i h2; rw [h2] at h; simp at h
  · rfl
theorem refFirst_eq (s : By) : refFirst s = firstL s := by
  unfold refFirst
  by_cases ha : (cutL 32 s).2.2 = true
  · have hp := partsL_hit ha
    generalize hr : cutL 32 s = x at ha hp ⊢
    obtain ⟨m, rest, _⟩ := x
    simp only at ha hp ⊢
    by_cases hb : (cutL 32 rest).2.2 = true
    · have hp2 := partsL_hit hb
      generalize hr2 : cutL 32 rest = y at hb hp2 ⊢
      obtain ⟨w, v, _⟩ := y
      simp only at hb hp2 ⊢
      subst ha hb
      by_cases hv : v = http
      · subst hv
        have hp3 : partsL 32 s = [m, w, http] := by rw [hp, hp2, partsL_free (by decide)]
        rw [firstL_three hp3]
        have ht := target_is w
        by_cases hm : m = []
        · rw [if_pos (by simp [hm]), if_neg (by simp [hm])]
        · by_cases hu : m.all upper = true
          · by_cases hT : targetR w = true
            · obtain ⟨t1, t2⟩ := ht.1 hT
              rw [if_neg (by simp [hm, hT]), if_neg (by simp [hu]), if_pos (c := http = http ∧ w.head? = some 47 ∧ m ≠ [] ∧ m.all upper = true) ⟨rfl, t1, hm, hu⟩, if_pos (c := cleanL [47] (cutL 63 w).1 = true ∧ cleanL [47, 61, 38, 39] (cutL 63 w).2.1 = true) t2]
              by_cases hg : m = getM ∨ m = postM
              · rw [if_pos hg, if_neg (by rintro ⟨g1, g2⟩; rcases hg with h | h; exact g1 h; exact g2 h)]
              · rw [if_neg hg, if_pos ⟨fun h => hg (.inl h), fun h => hg (.inr h)⟩]
            · rw [if_pos (by simp [hT])]
              by_cases h1 : w.head? = some 47
              · rw [if_pos ⟨rfl, h1, hm, hu⟩, if_neg (fun h2 => hT (ht.2 ⟨h1, h2⟩))]
              · rw [if_neg (by rintro ⟨_, h, _⟩; exact h1 h)]
          · have hu' : m.all upper = false := by simpa using hu
            rw [if_neg (c := http = http ∧ w.head? = some 47 ∧ m ≠ [] ∧ m.all upper = true) (by rintro ⟨_, _, _, h⟩; exact hu h)]
            split
            · rfl
            · rfl
      · rw [if_pos (by simp [hv])]
        by_cases h3 : (partsL 32 s).length = 3
        · rw [hp, hp2] at h3
          have h1 : (partsL 32 v).length = 1 := by simpa using h3
          have hv1 : partsL 32 v = [v] := by
            by_cases hc : (cutL 32 v).2.2 = true
            · have := partsL_hit hc
              rw [this] at h1
              have hne := partsL_ne 32 (cutL 32 v).2.1
              simp at h1
              exact absurd h1 hne
            · exact partsL_miss (by simpa using hc)
          rw [hv1] at hp2
          rw [hp2] at hp
          rw [firstL_three hp, if_neg (by rintro ⟨h, _⟩; exact hv h)]
        · rw [firstL_else h3]
    · have hb' : (cutL 32 rest).2.2 = false := by simpa using hb
      rw [if_pos (by simp [hb']), firstL_else]
      rw [hp, partsL_miss hb']
      simp
  · have ha' : (cutL 32 s).2.2 = false := by simpa using ha
    rw [if_pos (.inl ha'), firstL_else]
    rw [partsL_miss ha']
    simp
end Go.Proofs.YtcgeiimihihhpaaGreatDoor.P18

namespace Go.Proofs.YtcgeiimihihhpaaGreatDoor.P18
open Go P12

def crlf (c : UInt8) : Bool := c == 13 || c == 10
/-- The place of the first CR or LF; -1: there is none. -/
def idxL : By → Int
  | [] => -1
  | c :: l => if crlf c = true then 0 else if idxL l = -1 then -1 else idxL l + 1
theorem idxL_ge : ∀ l : By, -1 ≤ idxL l
  | [] => by simp [idxL]
  | c :: l => by
    have := idxL_ge l
    unfold idxL
    split
    · omega
    · split <;> omega
theorem idxL_lt : ∀ l : By, idxL l < l.length
  | [] => by simp [idxL]
  | c :: l => by
    have := idxL_lt l
    unfold idxL
    simp only [List.length_cons]
    split
    · omega
    · split <;> omega
def Free (a : By) : Prop := ∀ c ∈ a, crlf c = false
theorem free_ne {a : By} (h : Free a) : ∀ c ∈ a, c ≠ 13 ∧ c ≠ 10 := fun c hc => by
  have := h c hc
  unfold crlf at this
  simpa using this
theorem idxL_none : ∀ {l : By}, idxL l = -1 → Free l
  | [], _ => fun c hc => by cases hc
  | c :: l, h => by
    have hge := idxL_ge l
    unfold idxL at h
    by_cases hc : crlf c = true
    · rw [if_pos hc] at h; omega
    · rw [if_neg hc] at h
      by_cases e : idxL l = -1
      · intro d hd
        rcases List.mem_cons.1 hd with rfl | hd
        · simpa using hc
        · exact idxL_none e d hd
      · rw [if_neg e] at h; omega
theorem idxL_hit : ∀ {l : By} {i : Nat}, idxL l = (i : Int) → ∃ c q, l = l.take i ++ c :: q ∧ Free (l.take i) ∧ crlf c = true ∧ i < l.length
  | [], i, h => by simp only [idxL] at h; omega
  | c :: l, i, h => by
    have hge := idxL_ge l
    unfold idxL at h
    by_cases hc : crlf c = true
    · rw [if_pos hc] at h
      obtain rfl : i = 0 := by omega
      exact ⟨c, l, rfl, fun d hd => by simp at hd, hc, by simp⟩
    · rw [if_neg hc] at h
      by_cases e : idxL l = -1
      · rw [if_pos e] at h; omega
      · rw [if_neg e] at h
        obtain ⟨m, rfl⟩ : ∃ m, i = m + 1 := ⟨i - 1, by omega⟩
        obtain ⟨d, q, h1, h2, h3, h4⟩ := idxL_hit (l := l) (i := m) (by omega)
        refine ⟨d, q, ?_, ?_, h3, by simp; omega⟩
        · rw [List.take_succ_cons, List.cons_append, ← h1]
        · rw [List.take_succ_cons]
          intro x hx
          rcases List.mem_cons.1 hx with rfl | hx
          · simpa using hc
          · exact h2 x hx
/-- Nothing is told of the first bytes yet. -/
theorem idxL_skip {l : By} {k : Nat} (h : Free (l.take k)) (hk : k ≤ l.length) : idxL l = if idxL (l.drop k) = -1 then -1 else idxL (l.drop k) + (k : Int) := by
  induction k generalizing l with
  | zero => simp
  | succ k ih =>
    match l, hk with
    | c :: l, hk =>
      rw [List.take_succ_cons] at h
      have h0 := h c (by simp)
      have h1 : Free (l.take k) := fun x hx => h x (by simp [hx])
      have := ih h1 (by simpa using hk)
      have hge := idxL_ge (l.drop k)
      rw [idxL, if_neg (by rw [h0]; decide), this]
      simp only [List.drop_succ_cons]
      by_cases e : idxL (l.drop k) = -1
      · simp [e]
      · simp only [e, if_false]
        rw [if_neg (by omega)]
        omega
theorem lineGo_pre : ∀ (a : By) (n : Nat) (r : By), Free a → lineGo n (a ++ r) = if a.length ≤ n then (lineGo (n - a.length) r).map (a ++ ·) else .stop 431
  | [], n, r, _ => by
    simp only [List.nil_append, List.length_nil, Nat.zero_le, if_true, Nat.sub_zero]
    cases lineGo n r <;> rfl
  | c :: a, n, r, h => by
    obtain ⟨h1, h2⟩ := free_ne h c (by simp)
    have ih := fun m => lineGo_pre a m r (fun x hx => h x (by simp [hx]))
    rw [List.cons_append, line_cons n c _ h2 h1]
    cases n with
    | zero => simp
    | succ n =>
      simp only [ih n, List.length_cons, Nat.add_le_add_iff_right, Nat.add_sub_add_right]
      split
      · cases lineGo (n - a.length) r <;> rfl
      · rfl
theorem line_free {s : By} (h : Free s) : lineL s = if s.length ≤ 256 then .stop 0 else .stop 431 := by
  have := lineGo_pre s 256 [] h
  rw [List.append_nil, line_nil] at this
  exact this
theorem line_hit {s : By} {i : Nat} (h : idxL s = (i : Int)) : lineL s = if 256 < i then .stop 431 else
    match s.drop i with
    | [] => .stop 0
    | c :: q => if c = 10 then .stop 400 else match q with
      | [] => .stop 0
      | d :: q' => if d = 10 then .ok (s.take i) q' else .stop 400 := by
  obtain ⟨c, q, h1, h2, h3, h4⟩ := idxL_hit h
  have hl : (s.take i).length = i := by rw [List.length_take]; omega
  have hd : s.drop i = c :: q := by
    have e := List.take_append_drop i s
    exact List.append_cancel_left (e.trans h1)
  have hp := lineGo_pre (s.take i) 256 (c :: q) h2
  rw [← h1, hl] at hp
  show lineGo 256 s = _
  rw [hp, hd]
  by_cases h256 : i ≤ 256
  · rw [if_pos h256, if_neg (by omega)]
    simp only
    by_cases hc : c = 10
    · rw [if_pos hc, hc, line_lf]; rfl
    · rw [if_neg hc]
      have hc13 : c = 13 := by
        unfold crlf at h3
        simpa [hc] using h3
      rw [hc13, line_cr]
      cases q with
      | nil => rfl
      | cons d q' =>
        simp only
        split
        · simp [Res.map]
        · rfl
  · rw [if_neg h256, if_pos (by omega)]
end Go.Proofs.YtcgeiimihihhpaaGreatDoor.P18
