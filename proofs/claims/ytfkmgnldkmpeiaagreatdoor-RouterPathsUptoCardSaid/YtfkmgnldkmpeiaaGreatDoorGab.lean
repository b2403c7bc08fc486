/-
  Plain laws of layer 12, second part: texts cut in parts, values, records read and written; what is written is read again. No condition, no program in sight.
-/
import Derived.Test.YtfkmgnldkmpeiaaGreatDoorGaa
import Derived.Lib.IndexMore

namespace Go.Proofs.YtfkmgnldkmpeiaaGreatDoor.P12
open Go Dig

/-- A text cut at the first byte c. -/
def cutL (c : UInt8) : By → By × By × Bool
  | [] => ([], [], false)
  | d :: l => if d = c then ([], l, true) else (d :: (cutL c l).1, (cutL c l).2.1, (cutL c l).2.2)
theorem index_cons_one (c d : UInt8) (l : By) : Lib.index (d :: l) [c] = if d = c then 0 else if Lib.index l [c] = -1 then -1 else Lib.index l [c] + 1 := by
  rw [Lib.index]
  by_cases h : d = c
  · subst h
    simp [List.isPrefixOf]
  · have : (c == d) = false := by rw [beq_eq_false_iff_ne]; exact fun e => h e.symm
    simp [List.isPrefixOf, this, h]
theorem cut_one (c : UInt8) : ∀ s : By, Lib.cut s [c] = cutL c s
  | [] => by
    have : Lib.index [] [c] = -1 := rfl
    unfold Lib.cut
    rw [this]
    rfl
  | d :: l => by
    have ih := cut_one c l
    have hge := Lib.index_ge l [c]
    unfold Lib.cut at ih ⊢
    rw [index_cons_one]
    by_cases h : d = c
    · subst h
      simp [cutL]
    · rw [if_neg h]
      by_cases h1 : Lib.index l [c] = -1
      · rw [if_pos h1]
        rw [h1] at ih
        simp only [cutL, h, if_false, ← ih]
        simp
      · rw [if_neg h1]
        rw [if_pos (by omega)] at ih ⊢
        simp only [cutL, h, if_false, ← ih]
        have e : (Lib.index l [c] + 1).toNat = (Lib.index l [c]).toNat + 1 := by omega
        rw [e]
        simp
theorem cutL_miss {c : UInt8} : ∀ {s : By}, (cutL c s).2.2 = false → (cutL c s).1 = s ∧ (cutL c s).2.1 = [] ∧ c ∉ s
  | [], _ => ⟨rfl, rfl, by simp⟩
  | d :: l, h => by
    by_cases e : d = c
    · simp [cutL, e] at h
    · simp only [cutL, e, if_false] at h ⊢
      obtain ⟨h1, h2, h3⟩ := cutL_miss h
      exact ⟨by rw [h1], h2, by simp [h3, Ne.symm e]⟩
theorem cutL_hit {c : UInt8} : ∀ {s : By}, (cutL c s).2.2 = true → s = (cutL c s).1 ++ c :: (cutL c s).2.1 ∧ c ∉ (cutL c s).1
  | [], h => by cases h
  | d :: l, h => by
    by_cases e : d = c
    · simp [cutL, e]
    · simp only [cutL, e, if_false] at h ⊢
      obtain ⟨h1, h2⟩ := cutL_hit h
      exact ⟨by rw [List.cons_append, ← h1], by simp [h2, Ne.symm e]⟩
theorem cutL_at {c : UInt8} : ∀ {p : By} (_ : c ∉ p) (r : By), cutL c (p ++ c :: r) = (p, r, true)
  | [], _, r => by simp [cutL]
  | d :: p, h, r => by
    have e : d ≠ c := fun e => h (by simp [e])
    simp only [List.cons_append, cutL, e, if_false]
    rw [cutL_at (fun h' => h (by simp [h'])) r]

/-- A text in parts, at each byte c. -/
def partsL (c : UInt8) : By → List By
  | [] => [[]]
  | d :: l => if d = c then [] :: partsL c l else match partsL c l with
    | [] => [[d]]
    | p :: ps => (d :: p) :: ps
theorem partsL_ne (c : UInt8) : ∀ s : By, partsL c s ≠ []
  | [] => by simp [partsL]
  | d :: l => by
    unfold partsL
    split
    · simp
    · split <;> simp
theorem partsL_cons {c d : UInt8} (h : d ≠ c) (l : By) : partsL c (d :: l) = match partsL c l with
    | [] => [[d]]
    | p :: ps => (d :: p) :: ps := by rw [partsL, if_neg h]
theorem partsL_free {c : UInt8} : ∀ {s : By}, c ∉ s → partsL c s = [s]
  | [], _ => rfl
  | d :: l, h => by
    have e : d ≠ c := fun e => h (by simp [e])
    rw [partsL_cons e, partsL_free (fun h' => h (by simp [h']))]
theorem partsL_at {c : UInt8} : ∀ {p : By} (_ : c ∉ p) (r : By), partsL c (p ++ c :: r) = p :: partsL c r
  | [], _, r => by simp [partsL]
  | d :: p, h, r => by
    have e : d ≠ c := fun e => h (by simp [e])
    show partsL c (d :: (p ++ c :: r)) = _
    rw [partsL_cons e, partsL_at (fun h' => h (by simp [h'])) r]
theorem partsL_hit {c : UInt8} {s : By} (h : (cutL c s).2.2 = true) : partsL c s = (cutL c s).1 :: partsL c (cutL c s).2.1 := by
  obtain ⟨h1, h2⟩ := cutL_hit h
  conv => lhs; rw [h1]
  exact partsL_at h2 _
theorem partsL_miss {c : UInt8} {s : By} (h : (cutL c s).2.2 = false) : partsL c s = [s] := partsL_free (cutL_miss h).2.2

/-- A value's text, read. -/
def valueL (name s : By) : Option Fld :=
  if s.head? = some 39 then
    match unescL s.tail with
    | some u => if u.length ≤ 200 then some ⟨name, true, 0, u⟩ else none
    | none => none
  else (numL s).map fun n => ⟨name, false, n, []⟩
def zeroF : Fld := ⟨[], false, 0, []⟩
/-- One part: 0 and its field, or what is wrong. -/
def oneL (L : List Fld) (p : By) : Int × Fld :=
  if L.length = 16 then (120, zeroF) else
  if (cutL 61 p).2.2 = false ∨ nameL (cutL 61 p).1 = false then (121, zeroF) else
  match valueL (cutL 61 p).1 (cutL 61 p).2.1 with
  | none => (122, zeroF)
  | some f => if (L.any fun g => decide (g.name = f.name)) = true then (124, zeroF) else (0, f)
def foldP : List Fld → List By → List Fld × Int
  | L, [] => (L, 0)
  | L, p :: ps => if (oneL L p).1 ≠ 0 then ([], (oneL L p).1) else foldP (L ++ [(oneL L p).2]) ps
/-- A field put into its place. -/
def insL (f : Fld) : List Fld → List Fld
  | [] => [f]
  | g :: l => if g.name ≤ f.name then g :: insL f l else f :: g :: l
def sortL (L : List Fld) : List Fld := L.foldl (fun a f => insL f a) []
def readL (s : By) : List Fld × Int := if s = [] then ([], 0) else (sortL (foldP [] (partsL 38 s)).1, (foldP [] (partsL 38 s)).2)

def textF (f : Fld) : By := f.name ++ (61 :: (if f.text = true then 39 :: escL f.s else Lib.itoa f.n))
def textsL (r : List Fld) : By := ((r.map fun f => 38 :: textF f).flatten).drop 1
def writeL (r : List Fld) : By × Int := if checkL r ≠ 0 then ([], checkL r) else (textsL r, 0)
/-- The reference's reading. -/
def refFold : List Fld → Nat → List By → List Fld × Int
  | L, _, [] => (L, 0)
  | L, i, p :: ps =>
    if 16 ≤ i then ([], 120) else
    if nameL (cutL 61 p).1 = false ∨ (cutL 61 p).2.2 = false then ([], 121) else
    match valueL (cutL 61 p).1 (cutL 61 p).2.1 with
    | none => ([], 122)
    | some f => if (L.any fun g => decide (g.name = f.name)) = true then ([], 124) else refFold (insL f L) (i + 1) ps
def refReadL (s : By) : List Fld × Int := if s = [] then ([], 0) else refFold [] 0 (partsL 38 s)

/-! ## Order -/
theorem le_or_lt (a b : By) : a ≤ b ∨ b < a := by
  by_cases h : a ≤ b
  · exact .inl h
  · exact .inr (List.not_le.1 h)
theorem lt_trans' {a b c : By} (h : a < b) (k : b < c) : a < c := List.lt_trans h k
theorem lt_irrefl' (a : By) : ¬ a < a := List.lt_irrefl a
theorem lt_of_le_ne {a b : By} (h : a ≤ b) (k : a ≠ b) : a < b := by
  rcases le_or_lt b a with h1 | h1
  · exact absurd (List.le_antisymm h h1) k
  · exact h1
theorem le_of_lt' {a b : By} (h : a < b) : a ≤ b := List.le_of_lt h
theorem not_le' {a b : By} : ¬ a ≤ b ↔ b < a := List.not_le
/-- Sorted: each name ahead of all behind it. -/
abbrev Srt (l : List Fld) : Prop := l.Pairwise fun a b => a.name < b.name
theorem insL_perm (f : Fld) : ∀ l : List Fld, List.Perm (insL f l) (f :: l)
  | [] => List.Perm.refl _
  | g :: l => by
    unfold insL
    split
    · exact ((insL_perm f l).cons g).trans (List.Perm.swap f g l)
    · exact List.Perm.refl _
theorem insL_srt {f : Fld} : ∀ {l : List Fld}, Srt l → (∀ g ∈ l, g.name ≠ f.name) → Srt (insL f l)
  | [], _, _ => by simp [insL, Srt]
  | g :: l, h, hn => by
    rw [Srt, List.pairwise_cons] at h
    unfold insL
    split
    · rename_i hle
      refine List.pairwise_cons.2 ⟨?_, insL_srt h.2 (fun x hx => hn x (by simp [hx]))⟩
      intro x hx
      rcases List.mem_cons.1 ((insL_perm f l).mem_iff.1 hx) with rfl | hx
      · exact lt_of_le_ne hle (hn g (by simp))
      · exact h.1 x hx
    · rename_i hle
      have hlt := not_le'.1 hle
      refine List.pairwise_cons.2 ⟨?_, List.pairwise_cons.2 h⟩
      intro x hx
      rcases List.mem_cons.1 hx with rfl | hx
      · exact hlt
      · exact lt_trans' hlt (h.1 x hx)
theorem insL_last {f : Fld} : ∀ {l : List Fld}, (∀ g ∈ l, g.name < f.name) → insL f l = l ++ [f]
  | [], _ => rfl
  | g :: l, h => by
    unfold insL
    rw [if_pos (le_of_lt' (h g (by simp))), insL_last (fun x hx => h x (by simp [hx]))]
    rfl
theorem sortL_snoc (L : List Fld) (f : Fld) : sortL (L ++ [f]) = insL f (sortL L) := by simp [sortL]
abbrev Dst (l : List Fld) : Prop := l.Pairwise fun a b => a.name ≠ b.name
theorem srt_dst {l : List Fld} (h : Srt l) : Dst l := List.Pairwise.imp (fun {a b} (hab : a.name < b.name) (e : a.name = b.name) => lt_irrefl' b.name (e ▸ hab)) h
theorem sortL_ok : ∀ (n : Nat) (L : List Fld), L.length = n → Dst L → List.Perm (sortL L) L ∧ Srt (sortL L)
  | 0, L, hl, _ => by
    obtain rfl := List.length_eq_zero_iff.1 hl
    exact ⟨List.Perm.refl _, List.Pairwise.nil⟩
  | n + 1, L, hl, hd => by
    rcases List.eq_nil_or_concat L with rfl | ⟨L', f, rfl⟩
    · simp at hl
    · simp only [List.concat_eq_append] at hl hd ⊢
      obtain ⟨h1, _, h3⟩ := List.pairwise_append.1 hd
      obtain ⟨ih1, ih2⟩ := sortL_ok n L' (by simpa using hl) h1
      rw [sortL_snoc]
      refine ⟨((insL_perm f _).trans (ih1.cons f)).trans (List.perm_append_comm (l₁ := [f])), insL_srt ih2 ?_⟩
      intro g hg
      exact h3 g (ih1.mem_iff.1 hg) f (by simp)
theorem sortL_perm {L : List Fld} (h : Dst L) : List.Perm (sortL L) L := (sortL_ok _ L rfl h).1
theorem sortL_srt {L : List Fld} (h : Dst L) : Srt (sortL L) := (sortL_ok _ L rfl h).2
/-- Two sorted lists of the same fields are one. -/
theorem srt_one : ∀ {a b : List Fld}, Srt a → Srt b → List.Perm a b → a = b
  | [], b, _, _, h => (List.nil_perm.1 h).symm ▸ rfl
  | x :: a, [], _, _, h => by have := h.length_eq; simp at this
  | x :: a, y :: b, ha, hb, h => by
    have ha' := List.pairwise_cons.1 ha
    have hb' := List.pairwise_cons.1 hb
    have hxy : x = y := by
      have hx : x ∈ y :: b := h.mem_iff.1 (by simp)
      have hy : y ∈ x :: a := h.mem_iff.2 (by simp)
      rcases List.mem_cons.1 hx with e | hx
      · exact e
      · rcases List.mem_cons.1 hy with e | hy
        · exact e.symm
        · exact absurd (lt_trans' (ha'.1 y hy) (hb'.1 x hx)) (lt_irrefl' _)
    subst hxy
    rw [srt_one ha'.2 hb'.2 (List.Perm.cons_inv h)]
theorem sortL_srt_self {L : List Fld} (h : Srt L) : sortL L = L := srt_one (sortL_srt (srt_dst h)) h (sortL_perm (srt_dst h))
/-- What a sort leaves. -/
theorem sort_is {L d : List Fld} (hd : Dst L) (hp : List.Perm L d) (hs : d.Pairwise fun a b => ¬ b.name < a.name) : d = sortL L := by
  have hdd : Dst d := hp.pairwise hd (fun h => Ne.symm h)
  refine srt_one ?_ (sortL_srt hd) (hp.symm.trans (sortL_perm hd).symm)
  refine (hs.and hdd).imp ?_
  rintro a b ⟨h1, h2⟩
  rcases le_or_lt b.name a.name with h3 | h3
  · rcases le_or_lt a.name b.name with h4 | h4
    · exact absurd (List.le_antisymm h4 h3) h2
    · exact absurd h4 h1
  · exact h3

/-! ## The reference reads as the program does -/
theorem any_perm {l m : List Fld} (h : List.Perm l m) (n : By) : (l.any fun g => decide (g.name = n)) = (m.any fun g => decide (g.name = n)) := by
  rw [Bool.eq_iff_iff, List.any_eq_true, List.any_eq_true]
  exact ⟨fun ⟨x, hx, hp⟩ => ⟨x, h.mem_iff.1 hx, hp⟩, fun ⟨x, hx, hp⟩ => ⟨x, h.mem_iff.2 hx, hp⟩⟩
theorem valueL_name {n s : By} {f : Fld} (h : valueL n s = some f) : f.name = n := by
  unfold valueL at h
  split at h
  · split at h
    · split at h
      · injection h with h; rw [← h]
      · cases h
    · cases h
  · cases hn : numL s with
    | none => rw [hn] at h; cases h
    | some v => rw [hn] at h; injection h with h; rw [← h]
theorem oneL_zero {L : List Fld} {p : By} (h : (oneL L p).1 = 0) : L.length ≠ 16 ∧ (cutL 61 p).2.2 = true ∧ nameL (cutL 61 p).1 = true ∧ valueL (cutL 61 p).1 (cutL 61 p).2.1 = some (oneL L p).2 ∧ (∀ g ∈ L, g.name ≠ (oneL L p).2.name) := by
  unfold oneL at h ⊢
  split at h
  · cases h
  · rename_i h1
    split at h
    · cases h
    · rename_i h2
      rw [if_neg h1, if_neg h2]
      split at h
      · cases h
      · rename_i f hf
        split at h
        · cases h
        · rename_i h3
          rw [hf]
          simp only [if_neg h3]
          simp only [not_or, Bool.not_eq_false] at h2
          refine ⟨h1, h2.1, h2.2, trivial, ?_⟩
          intro g hg e
          exact h3 (List.any_eq_true.2 ⟨g, hg, by simp [e]⟩)
theorem refFold_eq : ∀ (ps : List By) (L : List Fld), L.length ≤ 16 → Dst L → refFold (sortL L) L.length ps = (sortL (foldP L ps).1, (foldP L ps).2)
  | [], L, _, _ => by simp [refFold, foldP]
  | p :: ps, L, hl, hd => by
    have hany := fun n => any_perm (sortL_perm hd) n
    have hz : sortL [] = [] := rfl
    unfold refFold foldP
    by_cases h1 : L.length = 16
    · have : oneL L p = (120, zeroF) := by unfold oneL; rw [if_pos h1]
      rw [if_pos (by omega), this, if_pos (by decide), hz]
    · rw [if_neg (by omega)]
      by_cases h2 : (cutL 61 p).2.2 = false ∨ nameL (cutL 61 p).1 = false
      · have : oneL L p = (121, zeroF) := by unfold oneL; rw [if_neg h1, if_pos h2]
        rw [if_pos h2.symm, this, if_pos (by decide), hz]
      · rw [if_neg (fun h => h2 h.symm)]
        cases hv : valueL (cutL 61 p).1 (cutL 61 p).2.1 with
        | none =>
          have : oneL L p = (122, zeroF) := by unfold oneL; rw [if_neg h1, if_neg h2, hv]
          rw [this, if_pos (by decide), hz]
        | some f =>
          simp only
          rw [hany f.name]
          by_cases h3 : (L.any fun g => decide (g.name = f.name)) = true
          · have : oneL L p = (124, zeroF) := by unfold oneL; rw [if_neg h1, if_neg h2, hv]; simp only; rw [if_pos h3]
            rw [if_pos h3, this, if_pos (by decide), hz]
          · have ho : oneL L p = (0, f) := by unfold oneL; rw [if_neg h1, if_neg h2, hv]; simp only; rw [if_neg h3]
            rw [if_neg h3, ho, if_neg (by simp)]
            have hd2 : Dst (L ++ [f]) := List.pairwise_append.2 ⟨hd, List.pairwise_singleton _ _, by
              intro g hg x hx e
              rw [List.mem_singleton.1 hx] at e
              exact h3 (List.any_eq_true.2 ⟨g, hg, by simp [e]⟩)⟩
            have := refFold_eq ps (L ++ [f]) (by simp; omega) hd2
            rw [sortL_snoc, List.length_append] at this
            exact this
theorem refRead_eq (s : By) : refReadL s = readL s := by
  unfold refReadL readL
  split
  · rfl
  · exact refFold_eq (partsL 38 s) [] (by simp) List.Pairwise.nil

/-! ## What is read is a record; what is written is read again -/
def rangeF (f : Fld) : Prop := -9223372036854775808 ≤ f.n ∧ f.n ≤ 9223372036854775807
theorem chk_iff : ∀ (r : List Fld) (p : Option By), chk p r = 0 ↔ (∀ f ∈ r, fieldL f = 0) ∧ Srt r ∧ (∀ q, p = some q → ∀ f, r.head? = some f → q < f.name)
  | [], p => by simp [chk, Srt]
  | f :: r, p => by
    unfold chk
    by_cases h1 : fieldL f = 0
    · rw [if_neg (by simpa using h1)]
      have ih := chk_iff r (some f.name)
      have hkey : chk (some f.name) r = 0 ↔ (∀ g ∈ f :: r, fieldL g = 0) ∧ Srt (f :: r) := by
        rw [ih]
        constructor
        · rintro ⟨a, b, c⟩
          refine ⟨?_, ?_⟩
          · intro g hg
            rcases List.mem_cons.1 hg with rfl | hg
            · exact h1
            · exact a g hg
          · refine List.pairwise_cons.2 ⟨?_, b⟩
            cases r with
            | nil => simp
            | cons g r =>
              have hfg := c f.name rfl g rfl
              intro x hx
              rcases List.mem_cons.1 hx with rfl | hx
              · exact hfg
              · exact lt_trans' hfg ((List.pairwise_cons.1 b).1 x hx)
        · rintro ⟨a, b⟩
          obtain ⟨b1, b2⟩ := List.pairwise_cons.1 b
          refine ⟨fun g hg => a g (by simp [hg]), b2, ?_⟩
          rintro q hq g hg
          injection hq with hq
          subst hq
          exact b1 g (List.mem_of_mem_head? hg)
      cases p with
      | none =>
        simp only
        rw [hkey]
        simp
      | some q =>
        simp only
        by_cases h2 : f.name ≤ q
        · rw [if_pos h2]
          refine ⟨fun h => (by cases h), ?_⟩
          rintro ⟨_, _, c⟩
          have := c q rfl f rfl
          exact absurd h2 (not_le'.2 this)
        · rw [if_neg h2, hkey]
          have := not_le'.1 h2
          constructor
          · rintro ⟨a, b⟩
            refine ⟨a, b, ?_⟩
            rintro q' hq g hg
            injection hq with hq
            injection hg with hg
            subst hq hg
            exact this
          · rintro ⟨a, b, _⟩
            exact ⟨a, b⟩
    · rw [if_pos h1]
      refine ⟨fun h => absurd h h1, ?_⟩
      rintro ⟨a, _⟩
      exact a f (by simp)
theorem check_iff (r : List Fld) : checkL r = 0 ↔ r.length ≤ 16 ∧ (∀ f ∈ r, fieldL f = 0) ∧ Srt r := by
  unfold checkL
  by_cases h : 16 < r.length
  · rw [if_pos h]
    exact ⟨fun h => (by cases h), fun ⟨h1, _⟩ => by omega⟩
  · rw [if_neg h, chk_iff]
    constructor
    · rintro ⟨a, b, _⟩
      exact ⟨by omega, a, b⟩
    · rintro ⟨_, a, b⟩
      exact ⟨a, b, by simp⟩
theorem fieldL_iff (f : Fld) : fieldL f = 0 ↔ nameL f.name = true ∧ (f.text = true → f.n = 0 ∧ f.s.length ≤ 200) ∧ (f.text = false → f.s = []) := by
  unfold fieldL
  by_cases h1 : nameL f.name = false
  · rw [if_pos h1]; simp [h1]
  · rw [if_neg h1]
    simp only [Bool.not_eq_false] at h1
    cases ht : f.text with
    | true =>
      simp only [true_and, Bool.true_eq_false, false_and, or_false, h1, forall_const, false_implies, and_true]
      by_cases h : f.n ≠ 0 ∨ 200 < f.s.length
      · rw [if_pos h]
        refine ⟨fun h => (by cases h), ?_⟩
        rintro ⟨a, b⟩
        rcases h with h | h
        · exact absurd a h
        · omega
      · rw [if_neg h]
        simp only [not_or, Decidable.not_not] at h
        exact ⟨fun _ => ⟨h.1, by omega⟩, fun _ => rfl⟩
    | false =>
      simp only [Bool.false_eq_true, false_and, true_and, false_or, h1, false_implies, forall_const]
      by_cases h : f.s = []
      · simp [h]
      · simp [h]
theorem nameL_chars {s : By} (h : nameL s = true) : ∀ c ∈ s, okName c = true := by
  unfold nameL at h
  split at h
  · cases h
  · simp only [Bool.and_eq_true] at h
    exact List.all_eq_true.1 h.2
theorem okName_ne {c : UInt8} (h : okName c = true) : c ≠ 38 ∧ c ≠ 61 := by
  constructor <;> (rintro rfl; exact absurd h (by decide))
theorem nameL_ne {s : By} (h : nameL s = true) : s ≠ [] := by
  rintro rfl
  exact absurd h (by decide)
theorem itoa_chars (n : Int) : ∀ c ∈ Lib.itoa n, c = 45 ∨ isDig c = true := by
  intro c hc
  unfold Lib.itoa at hc
  split at hc
  · rcases List.mem_cons.1 hc with rfl | hc
    · exact .inl rfl
    · exact .inr (decDigits_all _ c hc)
  · exact .inr (decDigits_all _ c hc)
theorem itoa_ne (n : Int) : Lib.itoa n ≠ [] := by
  unfold Lib.itoa
  split
  · simp
  · exact decDigits_ne _
theorem value_chars {f : Fld} : ∀ c ∈ (if f.text = true then 39 :: escL f.s else Lib.itoa f.n), c ≠ 38 := by
  intro c hc
  split at hc
  · rcases List.mem_cons.1 hc with rfl | hc
    · decide
    · have := escL_fine f.s c hc
      rintro rfl
      exact absurd this (by decide)
  · rcases itoa_chars f.n c hc with rfl | h
    · decide
    · rintro rfl
      exact absurd h (by decide)
theorem textF_free {f : Fld} (h : nameL f.name = true) : (38 : UInt8) ∉ textF f := by
  intro hc
  unfold textF at hc
  rcases List.mem_append.1 hc with hc | hc
  · exact (okName_ne (nameL_chars h _ hc)).1 rfl
  · rcases List.mem_cons.1 hc with hc | hc
    · exact absurd hc (by decide)
    · exact value_chars _ hc rfl
theorem textF_cut {f : Fld} (h : nameL f.name = true) : cutL 61 (textF f) = (f.name, (if f.text = true then 39 :: escL f.s else Lib.itoa f.n), true) :=
  cutL_at (fun hc => (okName_ne (nameL_chars h _ hc)).2 rfl) _
theorem value_back {f : Fld} (h : fieldL f = 0) (hr : rangeF f) : valueL f.name (if f.text = true then 39 :: escL f.s else Lib.itoa f.n) = some f := by
  obtain ⟨h1, h2, h3⟩ := (fieldL_iff f).1 h
  obtain ⟨nm, tx, n, s⟩ := f
  simp only at h1 h2 h3 ⊢
  cases tx with
  | true =>
    obtain ⟨rfl, hs⟩ := h2 rfl
    simp only [if_true]
    unfold valueL
    simp only [List.head?_cons, if_true, List.tail_cons, unesc_of_esc]
    rw [if_pos hs]
  | false =>
    obtain rfl := h3 rfl
    simp only [Bool.false_eq_true, if_false]
    unfold valueL
    rw [if_neg, numL_itoa n hr.1 hr.2]
    · rfl
    · intro e
      rcases itoa_chars n 39 (List.mem_of_mem_head? e) with h | h
      · exact absurd h (by decide)
      · exact absurd h (by decide)
theorem partsL_texts : ∀ (f : Fld) (r : List Fld), (∀ g ∈ f :: r, nameL g.name = true) → partsL 38 (textsL (f :: r)) = (f :: r).map textF
  | f, [], h => by
    have : textsL [f] = textF f := by simp [textsL]
    rw [this, partsL_free (textF_free (h f (by simp)))]
    rfl
  | f, g :: r, h => by
    have e : textsL (f :: g :: r) = textF f ++ 38 :: textsL (g :: r) := by simp [textsL]
    rw [e, partsL_at (textF_free (h f (by simp))), partsL_texts g r (fun x hx => h x (by simp [hx]))]
    rfl
theorem oneL_back {L : List Fld} {f : Fld} (hl : L.length < 16) (h : fieldL f = 0) (hr : rangeF f) (hn : ∀ g ∈ L, g.name ≠ f.name) : oneL L (textF f) = (0, f) := by
  have h1 := ((fieldL_iff f).1 h).1
  unfold oneL
  rw [textF_cut h1, if_neg (by omega), if_neg (by simp [h1])]
  simp only
  rw [value_back h hr]
  simp only
  rw [if_neg]
  intro ha
  obtain ⟨g, hg, hp⟩ := List.any_eq_true.1 ha
  exact hn g hg (by simpa using hp)
theorem foldP_back : ∀ (r L : List Fld), (L ++ r).length ≤ 16 → (∀ f ∈ r, fieldL f = 0 ∧ rangeF f) → Dst (L ++ r) → foldP L (r.map textF) = (L ++ r, 0)
  | [], L, _, _, _ => by simp [foldP]
  | f :: r, L, hl, hf, hd => by
    rw [List.map_cons, foldP]
    have hd' := List.pairwise_append.1 hd
    rw [oneL_back (by simp at hl; omega) (hf f (by simp)).1 (hf f (by simp)).2 (fun g hg => hd'.2.2 g hg f (by simp)), if_neg (by simp)]
    have := foldP_back r (L ++ [f]) (by simpa using hl) (fun g hg => hf g (by simp [hg])) (by simpa using hd)
    simpa using this
/-- WHAT IS WRITTEN IS READ AGAIN. -/
theorem read_write {r : List Fld} (h : checkL r = 0) (hr : ∀ f ∈ r, rangeF f) : readL (writeL r).1 = (r, 0) := by
  obtain ⟨h1, h2, h3⟩ := (check_iff r).1 h
  unfold writeL
  rw [if_neg (by simp [h])]
  cases r with
  | nil => rfl
  | cons f r =>
    unfold readL
    have hne : textsL (f :: r) ≠ [] := by
      intro e
      have : textsL (f :: r) = textF f ++ ((r.map fun f => 38 :: textF f).flatten) := by simp [textsL]
      rw [this] at e
      have := List.append_eq_nil_iff.1 e
      have hz := this.1
      unfold textF at hz
      simp at hz
    show (if textsL (f :: r) = [] then _ else _) = _
    rw [if_neg hne, partsL_texts f r (fun g hg => ((fieldL_iff g).1 (h2 g hg)).1), foldP_back (f :: r) [] (by simpa using h1) (fun g hg => ⟨h2 g hg, hr g hg⟩) (srt_dst h3)]
    simp only [List.nil_append]
    rw [sortL_srt_self h3]
theorem value_ok {n s : By} {f : Fld} (hn : nameL n = true) (h : valueL n s = some f) : fieldL f = 0 ∧ rangeF f := by
  have hname := valueL_name h
  unfold valueL at h
  split at h
  · split at h
    · split at h
      · rename_i hu
        injection h with h
        subst h
        exact ⟨(fieldL_iff _).2 ⟨hn, fun _ => ⟨rfl, hu⟩, fun h => by cases h⟩, by unfold rangeF; simp⟩
      · cases h
    · cases h
  · cases hv : numL s with
    | none => rw [hv] at h; cases h
    | some v =>
      rw [hv] at h
      injection h with h
      subst h
      exact ⟨(fieldL_iff _).2 ⟨hn, fun h => (by cases h), fun _ => rfl⟩, (numL_is hv).2⟩
theorem foldP_ok : ∀ (ps : List By) (L : List Fld), L.length ≤ 16 → (∀ f ∈ L, fieldL f = 0 ∧ rangeF f) → Dst L → (foldP L ps).1.length ≤ 16 ∧ (∀ f ∈ (foldP L ps).1, fieldL f = 0 ∧ rangeF f) ∧ Dst (foldP L ps).1
  | [], L, h1, h2, h3 => ⟨h1, h2, h3⟩
  | p :: ps, L, h1, h2, h3 => by
    unfold foldP
    by_cases h : (oneL L p).1 = 0
    · rw [if_neg (by simp [h])]
      obtain ⟨a, b, c, d, e⟩ := oneL_zero h
      have hv := value_ok c d
      refine foldP_ok ps (L ++ [(oneL L p).2]) (by simp; omega) ?_ ?_
      · intro f hf
        rcases List.mem_append.1 hf with hf | hf
        · exact h2 f hf
        · rw [List.mem_singleton.1 hf]; exact hv
      · refine List.pairwise_append.2 ⟨h3, List.pairwise_singleton _ _, ?_⟩
        intro g hg x hx
        rw [List.mem_singleton.1 hx]
        exact e g hg
    · rw [if_pos h]
      exact ⟨by simp, by simp, List.Pairwise.nil⟩
/-- WHAT IS READ IS A RECORD. -/
theorem read_ok (s : By) : (readL s).1.length ≤ 16 ∧ (∀ f ∈ (readL s).1, fieldL f = 0 ∧ rangeF f) ∧ Srt (readL s).1 := by
  unfold readL
  split
  · exact ⟨by simp, by simp, List.Pairwise.nil⟩
  · obtain ⟨a, b, c⟩ := foldP_ok (partsL 38 s) [] (by simp) (by simp) List.Pairwise.nil
    have hp := sortL_perm c
    exact ⟨by simp only [hp.length_eq]; exact a, fun f hf => b f (hp.mem_iff.1 hf), sortL_srt c⟩
theorem read_check (s : By) : checkL (readL s).1 = 0 := by
  obtain ⟨a, b, c⟩ := read_ok s
  exact (check_iff _).2 ⟨a, fun f hf => (b f hf).1, c⟩
theorem foldP_bad : ∀ (ps : List By) (L : List Fld), (foldP L ps).2 ≠ 0 → (foldP L ps).1 = []
  | [], L, h => absurd rfl h
  | p :: ps, L, h => by
    unfold foldP at h ⊢
    split
    · rfl
    · rename_i h1
      rw [if_neg h1] at h
      exact foldP_bad ps _ h
theorem read_bad {s : By} (h : (readL s).2 ≠ 0) : (readL s).1 = [] := by
  unfold readL at h ⊢
  split
  · rfl
  · rename_i h1
    rw [if_neg h1] at h
    simp only at h ⊢
    rw [foldP_bad _ _ h]
    rfl
theorem read_write_read (s : By) : readL (writeL (readL s).1).1 = ((readL s).1, 0) ∧ (writeL (readL s).1).2 = 0 := by
  refine ⟨read_write (read_check s) (fun f hf => ((read_ok s).2.1 f hf).2), ?_⟩
  unfold writeL
  rw [if_neg (by simp [read_check s])]
end Go.Proofs.YtfkmgnldkmpeiaaGreatDoor.P12
