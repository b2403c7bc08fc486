/-
  Plain laws of layer 12, first part: names, fields, records; what is written; escapes. No condition, no program in sight.
-/
import Derived.Lib.AtoiAll
namespace Go.Proofs.YtmcnblibnbkfjaaGreatDoor.P12
open Go
abbrev By := List UInt8

/-- A field: a name, and an integer or a text. -/
structure Fld where
  name : By
  text : Bool
  n : Int
  s : By
deriving DecidableEq

def low (c : UInt8) : Bool := decide (97 ≤ c) && decide (c ≤ 122)
def digit (c : UInt8) : Bool := decide (48 ≤ c) && decide (c ≤ 57)
def okName (c : UInt8) : Bool := low c || digit c || c == 95
def nameL (s : By) : Bool := match s with
  | [] => false
  | c :: _ => decide (s.length ≤ 32) && low c && s.all okName
def fieldL (f : Fld) : Int := if nameL f.name = false then 121 else if (f.text = true ∧ (f.n ≠ 0 ∨ 200 < f.s.length)) ∨ (f.text = false ∧ f.s ≠ []) then 122 else 0
/-- The fields one by one; 'p': the name ahead, if there is one. -/
def chk : Option By → List Fld → Int
  | _, [] => 0
  | p, f :: r => if fieldL f ≠ 0 then fieldL f else match p with
    | none => chk (some f.name) r
    | some q => if f.name ≤ q then 123 else chk (some f.name) r
def checkL (r : List Fld) : Int := if 16 < r.length then 120 else chk none r

def plainC (c : UInt8) : Bool := low c || (decide (65 ≤ c) && decide (c ≤ 90)) || digit c || c == 45 || c == 46 || c == 95 || c == 126
def hexD (n : Nat) : UInt8 := if n < 10 then (48 + n).toUInt8 else (55 + n).toUInt8
def escC (c : UInt8) : By := if plainC c then [c] else [37, hexD (c.toNat / 16), hexD (c.toNat % 16)]
def escL (s : By) : By := s.flatMap escC
/-- A hexadecimal digit's value. -/
def hexV (c : UInt8) : Option Nat :=
  if 48 ≤ c ∧ c ≤ 57 then some (c.toNat - 48) else if 97 ≤ c ∧ c ≤ 102 then some (c.toNat - 87) else if 65 ≤ c ∧ c ≤ 70 then some (c.toNat - 55) else none
def unescL : By → Option By
  | [] => some []
  | c :: l =>
    if plainC c then (unescL l).map (c :: ·)
    else if c = 37 then
      match l with
      | a :: b :: l' => match hexV a, hexV b with
        | some x, some y => (unescL l').map ((16 * x + y).toUInt8 :: ·)
        | _, _ => none
      | _ => none
    else none
termination_by s => s.length

theorem unesc_nil : unescL [] = some [] := by rw [unescL]
theorem unesc_plain {c : UInt8} (h : plainC c = true) (l : By) : unescL (c :: l) = (unescL l).map (c :: ·) := by rw [unescL.eq_def]; simp only [h, if_true]
theorem unesc_hex {a b : UInt8} {x y : Nat} (ha : hexV a = some x) (hb : hexV b = some y) (l : By) : unescL (37 :: a :: b :: l) = (unescL l).map ((16 * x + y).toUInt8 :: ·) := by
  have : plainC 37 = false := by decide
  rw [unescL.eq_def]
  simp only [this, ha, hb]
  rfl
theorem hexV_hexD : ∀ n : Fin 16, hexV (hexD n) = some n.1 := by decide
theorem hexV_D {n : Nat} (h : n < 16) : hexV (hexD n) = some n := hexV_hexD ⟨n, h⟩
/-- EVERY TEXT IS WHAT ITS ESCAPED BYTES STAND FOR. -/
theorem unesc_esc (s : By) (l : By) : unescL (escL s ++ l) = (unescL l).map (s ++ ·) := by
  induction s with
  | nil => simp [escL]
  | cons c s ih =>
    have e : escL (c :: s) ++ l = escC c ++ (escL s ++ l) := by simp [escL]
    rw [e]
    unfold escC
    have hc := c.toNat_lt
    by_cases h : plainC c = true
    · rw [if_pos h, List.singleton_append, unesc_plain h, ih]
      cases unescL l <;> rfl
    · rw [if_neg h]
      show unescL (37 :: hexD (c.toNat / 16) :: hexD (c.toNat % 16) :: (escL s ++ l)) = _
      rw [unesc_hex (hexV_D (by omega)) (hexV_D (by omega)), ih]
      have : (16 * (c.toNat / 16) + c.toNat % 16).toUInt8 = c := by
        rw [show 16 * (c.toNat / 16) + c.toNat % 16 = c.toNat by omega]
        simp
      rw [this]
      cases unescL l <;> rfl
theorem unesc_of_esc (s : By) : unescL (escL s) = some s := by
  have := unesc_esc s []
  rwa [List.append_nil, unesc_nil, Option.map_some, List.append_nil] at this
theorem esc_inj {s t : By} (h : escL s = escL t) : s = t := by
  have := unesc_of_esc s
  rw [h, unesc_of_esc] at this
  exact (Option.some.inj this).symm
/-- Only bytes that stand as they are, and escapes, come. -/
def fine (c : UInt8) : Bool := decide (32 < c) && decide (c ≤ 126) && c != 38 && c != 61 && c != 47 && c != 124
theorem escC_fine : ∀ c : UInt8, ((escC c).all fine) = true := by
  have h : ((List.range 256).all fun n => (escC n.toUInt8).all fine) = true := by decide +kernel
  intro c
  have := List.all_eq_true.1 h c.toNat (List.mem_range.2 c.toNat_lt)
  simpa using this
theorem escL_fine (s : By) : ∀ c ∈ escL s, fine c = true := by
  intro c hc
  obtain ⟨d, hd, hcd⟩ := List.mem_flatMap.1 hc
  exact List.all_eq_true.1 (escC_fine d) c hcd
end Go.Proofs.YtmcnblibnbkfjaaGreatDoor.P12
