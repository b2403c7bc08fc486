/-
  Plain laws of layer 18, first part: what a request's bytes come to. No condition, no program in sight.
  Plain laws of layer 20, first part: what a request's path, query, headers and body ask for; what replies tell. No condition, no program in sight.
-/
import Derived.Test.YtfkmgnldkmpeiaaGreatDoorGab

namespace Go.Proofs.YtfkmgnldkmpeiaaGreatDoor.P18
open Go P12

/-- What reading comes to: a status (0: more bytes are needed), or what was read and what stands behind it. -/
inductive Res (α : Type) where
  | stop (s : Int)
  | ok (a : α) (r : By)
def Res.map {α β : Type} (f : α → β) : Res α → Res β
  | .stop s => .stop s
  | .ok a r => .ok (f a) r
def Res.bind {α β : Type} (x : Res α) (f : α → By → Res β) : Res β := match x with
  | .stop s => .stop s
  | .ok a r => f a r

structure Hdr where
  name : By
  value : By
deriving DecidableEq
structure Rq where
  method : By
  path : By
  query : By
  headers : List Hdr
  body : By
  close : Bool
deriving DecidableEq
def zeroR : Rq := ⟨[], [], [], [], [], false⟩

/-! ## A line -/
def lineGo : Nat → By → Res By
  | _, [] => .stop 0
  | n, c :: r =>
    if c = 10 then .stop 400
    else if c = 13 then
      match r with
      | [] => .stop 0
      | d :: r' => if d = 10 then .ok [] r' else .stop 400
    else
      match n with
      | 0 => .stop 431
      | n + 1 => (lineGo n r).map (c :: ·)
def lineL (s : By) : Res By := lineGo 256 s

/-! ## Bytes -/
def upper (c : UInt8) : Bool := decide (65 ≤ c) && decide (c ≤ 90)
def letterC (c : UInt8) : Bool := low c || upper c
def hexC (c : UInt8) : Bool := (hexV c).isSome
def plain18 (c : UInt8) : Bool := letterC c || digit c || c == 45 || c == 46 || c == 95 || c == 126
/-- '!#$%&'*+-.^_`|~' -/
def marks : By := [33, 35, 36, 37, 38, 39, 42, 43, 45, 46, 94, 95, 96, 124, 126]
def tokenC (c : UInt8) : Bool := letterC c || digit c || marks.contains c
def shownC (c : UInt8) : Bool := c == 9 || (decide (32 ≤ c) && c != 127)
def smallC (c : UInt8) : UInt8 := if upper c then c + 32 else c
def smallL (s : By) : By := s.map smallC
def layout (c : UInt8) : Bool := c == 32 || c == 9
def trimL (s : By) : By := ((s.dropWhile layout).reverse.dropWhile layout).reverse
/-- Plain and escaped bytes, and some others. -/
def cleanL (others : By) : By → Bool
  | [] => true
  | c :: l =>
    if plain18 c || others.contains c then cleanL others l
    else if c = 37 then
      match l with
      | a :: b :: l' => if hexC a && hexC b then cleanL others l' else false
      | _ => false
    else false
termination_by s => s.length

/-! ## The first line -/
def http : By := [72, 84, 84, 80, 47, 49, 46, 49]
def getM : By := [71, 69, 84]
def postM : By := [80, 79, 83, 84]
def firstL (l : By) : Int × Rq :=
  match partsL 32 l with
  | [m, w, v] =>
    if v = http ∧ w.head? = some 47 ∧ m ≠ [] ∧ m.all upper = true then
      if cleanL [47] (cutL 63 w).1 = true ∧ cleanL [47, 61, 38, 39] (cutL 63 w).2.1 = true then
        if m = getM ∨ m = postM then (200, ⟨m, (cutL 63 w).1, (cutL 63 w).2.1, [], [], false⟩) else (501, zeroR)
      else (400, zeroR)
    else (400, zeroR)
  | _ => (400, zeroR)

/-! ## Headers -/
def headerL (l : By) : Option Hdr :=
  if (cutL 58 l).2.2 = true ∧ (cutL 58 l).1 ≠ [] ∧ (cutL 58 l).1.all tokenC = true ∧ (cutL 58 l).2.1.all shownC = true then some ⟨smallL (cutL 58 l).1, trimL (cutL 58 l).2.1⟩ else none
def headsGo : Nat → By → Res (List Hdr)
  | k, s =>
    match lineL s with
    | .stop t => .stop t
    | .ok l r =>
      if l = [] then .ok [] r
      else match k with
        | 0 => .stop 431
        | k + 1 => match headerL l with
          | none => .stop 400
          | some h => (headsGo k r).map (h :: ·)
def headsL (s : By) : Res (List Hdr) := headsGo 16 s

/-! ## The head as a whole -/
def getH (hs : List Hdr) (n : By) : List By := (hs.filter fun h => decide (h.name = n)).map (·.value)
def getV (hs : List Hdr) (n : By) : By := (getH hs n).headD []
def getN (hs : List Hdr) (n : By) : Nat := (getH hs n).length
def hostN : By := [104, 111, 115, 116]
def teN : By := [116, 114, 97, 110, 115, 102, 101, 114, 45, 101, 110, 99, 111, 100, 105, 110, 103]
def clN : By := [99, 111, 110, 116, 101, 110, 116, 45, 108, 101, 110, 103, 116, 104]
def connN : By := [99, 111, 110, 110, 101, 99, 116, 105, 111, 110]
def chunkedV : By := [99, 104, 117, 110, 107, 101, 100]
def closeV : By := [99, 108, 111, 115, 101]
def valD (s : By) : Nat := s.foldl (fun a c => 10 * a + (c.toNat - 48)) 0
/-- A status, and the body's size (below 0: in chunks). -/
def sizeL (hs : List Hdr) : Int × Int :=
  if getN hs hostN ≠ 1 then (400, 0)
  else if 0 < getN hs teN then
    if getN hs clN ≠ 0 then (400, 0)
    else if getN hs teN = 1 ∧ smallL (getV hs teN) = chunkedV then (200, -1) else (501, 0)
  else if 0 < getN hs clN then
    if getN hs clN = 1 ∧ getV hs clN ≠ [] ∧ (getV hs clN).length ≤ 9 ∧ (getV hs clN).all digit = true then
      if valD (getV hs clN) ≤ 1000 then (200, (valD (getV hs clN) : Int)) else (413, 0)
    else (400, 0)
  else (200, 0)

/-! ## The body -/
def takeL (n : Nat) (s : By) : Res By := if n ≤ s.length then .ok (s.take n) (s.drop n) else .stop 0
def hexN' (c : UInt8) : Nat := (hexV c).getD 0
def chunkSize (l : By) : Option Nat := if l ≠ [] ∧ l.length ≤ 4 ∧ l.all hexC = true then some (l.foldl (fun a c => 16 * a + hexN' c) 0) else none
def chunkData (n : Nat) (s : By) : Res By :=
  match s.drop n with
  | [] => .stop 0
  | c :: q => if c ≠ 13 then .stop 400 else match q with
    | [] => .stop 0
    | d :: q' => if d ≠ 10 then .stop 400 else .ok (s.take n) q'
/-- 'b': how many bytes there may still be. -/
def chunksGo (b : Nat) (s : By) : Res By :=
  match lineL s with
  | .stop t => .stop t
  | .ok l r =>
    match chunkSize l with
    | none => .stop 400
    | some n =>
      if _h : b < n then .stop 413
      else if _h0 : n = 0 then
        match lineL r with
        | .stop t => .stop t
        | .ok l2 r2 => if l2 = [] then .ok [] r2 else .stop 400
      else match chunkData n r with
        | .stop t => .stop t
        | .ok d q => (chunksGo (b - n) q).map (d ++ ·)
termination_by b
def bodyL (n : Int) (s : By) : Res By := if 0 ≤ n then takeL n.toNat s else chunksGo 1000 s

/-! ## All -/
def closeH (h : Hdr) : Bool := decide (h.name = connN) && (partsL 44 h.value).any fun p => decide (smallL (trimL p) = closeV)
def closeL (hs : List Hdr) : Bool := hs.any closeH
def parseR (s : By) : Res Rq :=
  (lineL s).bind fun l r =>
    if (firstL l).1 ≠ 200 then .stop (firstL l).1
    else (headsL r).bind fun hs r2 =>
      if (sizeL hs).1 ≠ 200 then .stop (sizeL hs).1
      else (bodyL (sizeL hs).2 r2).map fun b => ⟨(firstL l).2.method, (firstL l).2.path, (firstL l).2.query, hs, b, closeL hs⟩
/-- The request, how many bytes it has, the status. -/
def parseL (s : By) : Rq × Nat × Int :=
  match parseR s with
  | .stop t => (zeroR, 0, t)
  | .ok a r => (a, s.length - r.length, 200)

/-! ## What is told of a text is told of all that begin with it -/
/-- 'Good': what is refused or whole stays so behind more bytes; only bytes that are used up are looked at; what is left is the text's end. -/
structure Good {α : Type} (p : By → Res α) : Prop where
  stops : ∀ s t st, p s = .stop st → st ≠ 0 → p (s ++ t) = .stop st
  grows : ∀ s t a r, p s = .ok a r → p (s ++ t) = .ok a (r ++ t)
  local' : ∀ s t a r, p (s ++ t) = .ok a (r ++ t) → p s = .ok a r
  suffix : ∀ s a r, p s = .ok a r → ∃ u, s = u ++ r
theorem good_stop {α : Type} (st : Int) : Good (fun _ => (.stop st : Res α)) := ⟨fun _ _ _ h _ => h, fun _ _ _ _ h => by simp at h, fun _ _ _ _ h => by simp at h, fun _ _ _ h => by simp at h⟩
theorem good_ok {α : Type} (a : α) : Good (fun s => (.ok a s : Res α)) where
  stops := fun _ _ _ h => by simp at h
  grows := fun s t a r h => by simp only [Res.ok.injEq] at h ⊢; exact ⟨h.1, by rw [h.2]⟩
  local' := fun s t a r h => by simp only [Res.ok.injEq] at h ⊢; exact ⟨h.1, List.append_cancel_right h.2⟩
  suffix := fun s a r h => by simp only [Res.ok.injEq] at h; exact ⟨[], h.2⟩
theorem Good.bind {α β : Type} {p : By → Res α} {f : α → By → Res β} (hp : Good p) (hf : ∀ a, Good (f a)) : Good (fun s => (p s).bind f) where
  stops := fun s t st h h0 => by
    cases hs : p s with
    | stop x => rw [hs] at h; simp only [Res.bind, Res.stop.injEq] at h; subst h; simp only [hp.stops s t x hs h0, Res.bind]
    | ok a r => rw [hs] at h; simp only [hp.grows s t a r hs, Res.bind] at h ⊢; exact (hf a).stops _ _ _ h h0
  grows := fun s t b r h => by
    cases hs : p s with
    | stop x => rw [hs] at h; simp [Res.bind] at h
    | ok a q => rw [hs] at h; simp only [hp.grows s t a q hs, Res.bind] at h ⊢; exact (hf a).grows _ _ _ _ h
  local' := fun s t b r h => by
    cases hs : p (s ++ t) with
    | stop x => rw [hs] at h; simp [Res.bind] at h
    | ok a q =>
      rw [hs] at h
      simp only [Res.bind] at h
      obtain ⟨u, hu⟩ := (hf a).suffix _ _ _ h
      have hq : q = (u ++ r) ++ t := by rw [hu, List.append_assoc]
      subst hq
      rw [hp.local' s t a _ hs]
      simp only [Res.bind]
      exact (hf a).local' _ _ _ _ h
  suffix := fun s b r h => by
    cases hs : p s with
    | stop x => rw [hs] at h; simp [Res.bind] at h
    | ok a q =>
      rw [hs] at h
      simp only [Res.bind] at h
      obtain ⟨u, hu⟩ := hp.suffix _ _ _ hs
      obtain ⟨v, hv⟩ := (hf a).suffix _ _ _ h
      exact ⟨u ++ v, by rw [hu, hv, List.append_assoc]⟩
theorem map_bind {α β : Type} (x : Res α) (f : α → β) : x.map f = x.bind fun a r => .ok (f a) r := by cases x <;> rfl
theorem Good.map {α β : Type} {p : By → Res α} (hp : Good p) (f : α → β) : Good (fun s => (p s).map f) := by
  have : (fun s => (p s).map f) = fun s => (p s).bind fun a r => .ok (f a) r := by funext s; exact map_bind _ _
  rw [this]
  exact hp.bind fun a => good_ok (f a)
theorem good_if {α : Type} {c : Prop} [Decidable c] {p q : By → Res α} (hp : Good p) (hq : Good q) : Good (fun s => if c then p s else q s) := by
  by_cases h : c
  · simp only [h, if_true]; exact hp
  · simp only [h, if_false]; exact hq

theorem line_nil (n : Nat) : lineGo n [] = .stop 0 := by cases n <;> rfl
theorem line_cons (n : Nat) (c : UInt8) (r : By) (h1 : c ≠ 10) (h2 : c ≠ 13) : lineGo n (c :: r) = match n with
    | 0 => .stop 431
    | n + 1 => (lineGo n r).map (c :: ·) := by
  cases n <;> simp [lineGo, h1, h2]
theorem line_cr (n : Nat) (r : By) : lineGo n (13 :: r) = match r with
    | [] => .stop 0
    | d :: r' => if d = 10 then .ok [] r' else .stop 400 := by
  cases n <;> cases r <;> simp [lineGo]
theorem line_lf (n : Nat) (r : By) : lineGo n (10 :: r) = .stop 400 := by cases n <;> simp [lineGo]
/-- A line is what stands ahead of the first CR, a LF behind it. -/
theorem line_ok : ∀ {s : By} {n : Nat} {a r : By}, lineGo n s = .ok a r ↔ s = a ++ 13 :: 10 :: r ∧ a.length ≤ n ∧ ∀ c ∈ a, c ≠ 13 ∧ c ≠ 10
  | [], n, a, r => by
    rw [line_nil]
    constructor
    · intro h; cases h
    · rintro ⟨h, -⟩; simp at h
  | c :: s, n, a, r => by
    by_cases h1 : c = 10
    · subst h1
      rw [line_lf]
      constructor
      · intro h; cases h
      · rintro ⟨h, -, h3⟩
        cases a with
        | nil => simp at h
        | cons d a =>
          simp only [List.cons_append, List.cons.injEq] at h
          exact absurd h.1.symm (h3 d (by simp)).2
    · by_cases h2 : c = 13
      · subst h2
        rw [line_cr]
        cases s with
        | nil =>
          constructor
          · intro h; cases h
          · rintro ⟨h, -⟩
            cases a with
            | nil => simp at h
            | cons d a => simp at h
        | cons d s =>
          by_cases hd : d = 10
          · subst hd
            simp only [if_true, Res.ok.injEq]
            constructor
            · rintro ⟨rfl, rfl⟩; simp
            · rintro ⟨h, -, h3⟩
              cases a with
              | nil => simp at h; exact ⟨rfl, h⟩
              | cons e a =>
                simp only [List.cons_append, List.cons.injEq] at h
                exact absurd h.1.symm (h3 e (by simp)).1
          · simp only [hd, if_false]
            constructor
            · intro h; cases h
            · rintro ⟨h, -, h3⟩
              cases a with
              | nil => simp at h; exact absurd h.1 hd
              | cons e a =>
                simp only [List.cons_append, List.cons.injEq] at h
                exact absurd h.1.symm (h3 e (by simp)).1
      · rw [line_cons n c s h1 h2]
        cases n with
        | zero =>
          simp only
          constructor
          · intro h; cases h
          · rintro ⟨h, h4, h3⟩
            cases a with
            | nil => simp at h; exact absurd h.1 h2
            | cons e a => simp at h4
        | succ n =>
          simp only
          have ih := @line_ok s n
          constructor
          · intro h
            cases hs : lineGo n s with
            | stop x => rw [hs] at h; cases h
            | ok a' r' =>
              rw [hs] at h
              simp only [Res.map, Res.ok.injEq] at h
              obtain ⟨rfl, rfl⟩ := h
              obtain ⟨e1, e2, e3⟩ := ih.1 hs
              refine ⟨by rw [e1]; rfl, by simp; exact e2, ?_⟩
              intro d hd
              rcases List.mem_cons.1 hd with rfl | hd
              · exact ⟨h2, h1⟩
              · exact e3 d hd
          · rintro ⟨h, h4, h3⟩
            cases a with
            | nil => simp at h; exact absurd h.1 h2
            | cons e a =>
              simp only [List.cons_append, List.cons.injEq] at h
              obtain ⟨rfl, h⟩ := h
              rw [ih.2 ⟨h, by simpa using h4, fun d hd => h3 d (by simp [hd])⟩]
              rfl
theorem line_stop : ∀ (s : By) (n : Nat) (t : By) (st : Int), lineGo n s = .stop st → st ≠ 0 → lineGo n (s ++ t) = .stop st
  | [], n, t, st, h, h0 => by
    rw [line_nil] at h
    injection h with h
    exact absurd h.symm h0
  | c :: s, n, t, st, h, h0 => by
    rw [List.cons_append]
    by_cases h1 : c = 10
    · subst h1; rw [line_lf] at h ⊢; exact h
    · by_cases h2 : c = 13
      · subst h2
        rw [line_cr] at h ⊢
        cases s with
        | nil => injection h with h; exact absurd h.symm h0
        | cons d s =>
          simp only [List.cons_append] at h ⊢
          split at h
          · cases h
          · rename_i hd; rw [if_neg hd]; exact h
      · rw [line_cons n c s h1 h2] at h
        rw [line_cons n c _ h1 h2]
        cases n with
        | zero => exact h
        | succ n =>
          simp only at h ⊢
          cases hs : lineGo n s with
          | ok a r => rw [hs] at h; cases h
          | stop x =>
            rw [hs] at h
            simp only [Res.map, Res.stop.injEq] at h
            subst h
            rw [line_stop s n t x hs h0]
            rfl
theorem good_lineGo (n : Nat) : Good (lineGo n) where
  stops := fun s t st h h0 => line_stop s n t st h h0
  grows := fun s t a r h => by
    obtain ⟨e1, e2, e3⟩ := line_ok.1 h
    exact line_ok.2 ⟨by rw [e1]; simp, e2, e3⟩
  local' := fun s t a r h => by
    obtain ⟨e1, e2, e3⟩ := line_ok.1 h
    refine line_ok.2 ⟨?_, e2, e3⟩
    have : s ++ t = (a ++ 13 :: 10 :: r) ++ t := by rw [e1]; simp
    exact List.append_cancel_right this
  suffix := fun s a r h => by
    obtain ⟨e1, -, -⟩ := line_ok.1 h
    exact ⟨a ++ [13, 10], by rw [e1]; simp⟩
theorem good_line : Good lineL := good_lineGo 256
theorem good_take (n : Nat) : Good (takeL n) where
  stops := fun s t st h h0 => by
    unfold takeL at h
    split at h
    · cases h
    · injection h with h; exact absurd h.symm h0
  grows := fun s t a r h => by
    unfold takeL at h ⊢
    split at h
    · rename_i hn
      injection h with e1 e2
      rw [if_pos (by simp; omega), ← e1, ← e2, List.take_append_of_le_length hn, List.drop_append_of_le_length hn]
    · cases h
  local' := fun s t a r h => by
    unfold takeL at h ⊢
    split at h
    · rename_i hn
      injection h with e1 e2
      have hl := congrArg List.length e2
      simp only [List.length_drop, List.length_append] at hl hn
      have hn' : n ≤ s.length := by omega
      rw [List.take_append_of_le_length hn'] at e1
      rw [List.drop_append_of_le_length hn'] at e2
      rw [if_pos hn', e1, List.append_cancel_right e2]
    · cases h
  suffix := fun s a r h => by
    unfold takeL at h
    split at h
    · injection h with e1 e2
      exact ⟨s.take n, by rw [← e2, List.take_append_drop]⟩
    · cases h
theorem data_ok {n : Nat} {s d q : By} : chunkData n s = .ok d q ↔ s = d ++ 13 :: 10 :: q ∧ d.length = n := by
  unfold chunkData
  constructor
  · intro h
    split at h
    · cases h
    · rename_i c q1 hd
      split at h
      · cases h
      · rename_i hc
        split at h
        · cases h
        · rename_i e q2
          split at h
          · cases h
          · rename_i he
            injection h with h1 h2
            have hc' : c = 13 := by simpa using hc
            have he' : e = 10 := by simpa using he
            subst hc' he' h1 h2
            have hlt : n < s.length := by
              rcases Nat.lt_or_ge n s.length with h | h
              · exact h
              · rw [List.drop_eq_nil_of_le h] at hd; cases hd
            exact ⟨by rw [← hd, List.take_append_drop], by rw [List.length_take]; omega⟩
  · rintro ⟨rfl, rfl⟩
    rw [List.drop_left]
    simp
theorem good_data (n : Nat) : Good (chunkData n) where
  stops := fun s t st h h0 => by
    unfold chunkData at h ⊢
    split at h
    · injection h with h; exact absurd h.symm h0
    · rename_i c q1 hd
      have hlt : n < s.length := by
        rcases Nat.lt_or_ge n s.length with h | h
        · exact h
        · rw [List.drop_eq_nil_of_le h] at hd; cases hd
      rw [List.drop_append_of_le_length (by omega), hd]
      simp only [List.cons_append]
      split at h
      · rename_i hc; rw [if_pos hc]; exact h
      · rename_i hc
        rw [if_neg hc]
        split at h
        · injection h with h; exact absurd h.symm h0
        · simp only [List.cons_append]
          split at h
          · rename_i he; rw [if_pos he]; exact h
          · cases h
  grows := fun s t a r h => by
    obtain ⟨e1, e2⟩ := data_ok.1 h
    exact data_ok.2 ⟨by rw [e1]; simp, e2⟩
  local' := fun s t a r h => by
    obtain ⟨e1, e2⟩ := data_ok.1 h
    refine data_ok.2 ⟨?_, e2⟩
    have : s ++ t = (a ++ 13 :: 10 :: r) ++ t := by rw [e1]; simp
    exact List.append_cancel_right this
  suffix := fun s a r h => by
    obtain ⟨e1, -⟩ := data_ok.1 h
    exact ⟨a ++ [13, 10], by rw [e1]; simp⟩

theorem heads_eq (k : Nat) : headsGo k = fun s => (lineL s).bind fun l r => if l = [] then .ok [] r else match k with
    | 0 => .stop 431
    | k + 1 => match headerL l with
      | none => .stop 400
      | some h => (headsGo k r).map (h :: ·) := by
  funext s
  rw [headsGo.eq_def]
  dsimp only
  generalize lineL s = x
  cases x <;> rfl
theorem good_headsGo : ∀ k, Good (headsGo k)
  | 0 => by
    rw [heads_eq]
    exact good_line.bind fun l => good_if (good_ok _) (good_stop _)
  | k + 1 => by
    rw [heads_eq]
    refine good_line.bind fun l => good_if (good_ok _) ?_
    cases h : headerL l with
    | none => exact good_stop _
    | some x => exact (good_headsGo k).map _
theorem chunks_eq (b : Nat) : chunksGo b = fun s => (lineL s).bind fun l r =>
    match chunkSize l with
    | none => .stop 400
    | some n => if b < n then .stop 413 else if n = 0 then (lineL r).bind fun l2 r2 => if l2 = [] then .ok [] r2 else .stop 400
      else (chunkData n r).bind fun d q => (chunksGo (b - n) q).map (d ++ ·) := by
  funext s
  rw [chunksGo.eq_def]
  cases lineL s with
  | stop x => rfl
  | ok l r =>
    simp only [Res.bind]
    cases chunkSize l with
    | none => rfl
    | some n =>
      simp only
      by_cases h : b < n
      · simp only [h, if_true, dif_pos]
      · by_cases h0 : n = 0
        · simp only [h0, if_true, dif_pos, if_false, dif_neg, Nat.not_lt_zero, not_false_eq_true]
          cases lineL r <;> rfl
        · simp only [h, h0, if_false, dif_neg, not_false_eq_true]
          cases chunkData n r <;> rfl
theorem good_chunks : ∀ (m b : Nat), b ≤ m → Good (chunksGo b)
  | m, b, hm => by
    rw [chunks_eq]
    refine good_line.bind fun l => ?_
    cases hc : chunkSize l with
    | none => exact good_stop _
    | some n =>
      simp only
      by_cases hbn : b < n
      · simp only [hbn, if_true]
        exact good_stop _
      · simp only [hbn, if_false]
        by_cases h0 : n = 0
        · simp only [h0, if_true]
          exact good_line.bind fun l2 => good_if (good_ok _) (good_stop _)
        · simp only [h0, if_false]
          match m, hm with
          | 0, hm => omega
          | m + 1, hm => exact (good_data n).bind fun d => (good_chunks m (b - n) (by omega)).map _
theorem good_body (n : Int) : Good (bodyL n) := by
  unfold bodyL
  exact good_if (good_take _) (good_chunks 1000 1000 (Nat.le_refl _))
theorem good_parse : Good parseR := by
  show Good (fun s => (lineL s).bind _)
  refine good_line.bind fun l => good_if (good_stop _) ?_
  refine (good_headsGo 16).bind fun hs => good_if (good_stop _) ?_
  exact (good_body _).map _

/-! ## Statuses -/
def Told (st : Int) : Prop := st = 0 ∨ st = 400 ∨ st = 413 ∨ st = 431 ∨ st = 501
def Tells {α : Type} (p : By → Res α) : Prop := ∀ s st, p s = .stop st → Told st
theorem tells_stop {α : Type} {st : Int} (h : Told st) : Tells (fun _ => (.stop st : Res α)) := fun _ _ e => by injection e with e; rw [← e]; exact h
theorem tells_ok {α : Type} (a : α) : Tells (fun s => (.ok a s : Res α)) := fun _ _ e => by cases e
theorem Tells.bind {α β : Type} {p : By → Res α} {f : α → By → Res β} (hp : Tells p) (hf : ∀ a, Tells (f a)) : Tells (fun s => (p s).bind f) := fun s st h => by
  dsimp only at h
  cases hs : p s with
  | stop x => rw [hs] at h; simp only [Res.bind, Res.stop.injEq] at h; subst h; exact hp _ _ hs
  | ok a r => rw [hs] at h; exact hf a _ _ h
theorem Tells.map {α β : Type} {p : By → Res α} (hp : Tells p) (f : α → β) : Tells (fun s => (p s).map f) := fun s st h => by
  dsimp only at h
  cases hs : p s with
  | stop x => rw [hs] at h; simp only [Res.map, Res.stop.injEq] at h; subst h; exact hp _ _ hs
  | ok a r => rw [hs] at h; cases h
theorem tells_if {α : Type} {c : Prop} [Decidable c] {p q : By → Res α} (hp : Tells p) (hq : Tells q) : Tells (fun s => if c then p s else q s) := by
  by_cases h : c
  · simp only [h, if_true]; exact hp
  · simp only [h, if_false]; exact hq
theorem tells_lineGo : ∀ (s : By) (n : Nat) (st : Int), lineGo n s = .stop st → Told st
  | [], n, st, h => by rw [line_nil] at h; injection h with h; exact .inl h.symm
  | c :: s, n, st, h => by
    by_cases h1 : c = 10
    · subst h1; rw [line_lf] at h; injection h with h; exact .inr (.inl h.symm)
    · by_cases h2 : c = 13
      · subst h2
        rw [line_cr] at h
        cases s with
        | nil => injection h with h; exact .inl h.symm
        | cons d s =>
          simp only at h
          split at h
          · cases h
          · injection h with h; exact .inr (.inl h.symm)
      · rw [line_cons n c s h1 h2] at h
        cases n with
        | zero => injection h with h; exact .inr (.inr (.inr (.inl h.symm)))
        | succ n =>
          simp only at h
          cases hs : lineGo n s with
          | ok a r => rw [hs] at h; cases h
          | stop x =>
            rw [hs] at h
            simp only [Res.map, Res.stop.injEq] at h
            subst h
            exact tells_lineGo s n x hs
theorem tells_line : Tells lineL := fun s st h => tells_lineGo s 256 st h
theorem tells_take (n : Nat) : Tells (takeL n) := fun s st h => by
  unfold takeL at h
  split at h
  · cases h
  · injection h with h; exact .inl h.symm
theorem tells_data (n : Nat) : Tells (chunkData n) := fun s st h => by
  unfold chunkData at h
  split at h
  · injection h with h; exact .inl h.symm
  · split at h
    · injection h with h; exact .inr (.inl h.symm)
    · split at h
      · injection h with h; exact .inl h.symm
      · split at h
        · injection h with h; exact .inr (.inl h.symm)
        · cases h
theorem told400 : Told 400 := .inr (.inl rfl)
theorem told413 : Told 413 := .inr (.inr (.inl rfl))
theorem told431 : Told 431 := .inr (.inr (.inr (.inl rfl)))
theorem told501 : Told 501 := .inr (.inr (.inr (.inr rfl)))
theorem tells_headsGo : ∀ k, Tells (headsGo k)
  | 0 => by
    rw [heads_eq]
    exact tells_line.bind fun l => tells_if (tells_ok _) (tells_stop told431)
  | k + 1 => by
    rw [heads_eq]
    refine tells_line.bind fun l => tells_if (tells_ok _) ?_
    cases h : headerL l with
    | none => exact tells_stop told400
    | some x => exact (tells_headsGo k).map _
theorem tells_chunks : ∀ (m b : Nat), b ≤ m → Tells (chunksGo b)
  | m, b, hm => by
    rw [chunks_eq]
    refine tells_line.bind fun l => ?_
    cases hc : chunkSize l with
    | none => exact tells_stop told400
    | some n =>
      simp only
      by_cases hbn : b < n
      · simp only [hbn, if_true]
        exact tells_stop told413
      · simp only [hbn, if_false]
        by_cases h0 : n = 0
        · simp only [h0, if_true]
          exact tells_line.bind fun l2 => tells_if (tells_ok _) (tells_stop told400)
        · simp only [h0, if_false]
          match m, hm with
          | 0, hm => omega
          | m + 1, hm => exact (tells_data n).bind fun d => (tells_chunks m (b - n) (by omega)).map _
theorem tells_body (n : Int) : Tells (bodyL n) := by
  unfold bodyL
  exact tells_if (tells_take _) (tells_chunks 1000 1000 (Nat.le_refl _))
theorem first_told (l : By) : (firstL l).1 = 200 ∨ Told (firstL l).1 := by
  unfold firstL
  split
  · split
    · split
      · split
        · exact .inl rfl
        · exact .inr told501
      · exact .inr told400
    · exact .inr told400
  · exact .inr told400
theorem size_told (hs : List Hdr) : (sizeL hs).1 = 200 ∨ Told (sizeL hs).1 := by
  unfold sizeL
  split
  · exact .inr told400
  · split
    · split
      · exact .inr told400
      · split
        · exact .inl rfl
        · exact .inr told501
    · split
      · split
        · split
          · exact .inl rfl
          · exact .inr told413
        · exact .inr told400
      · exact .inl rfl
theorem tells_parse : Tells parseR := by
  show Tells (fun s => (lineL s).bind _)
  refine tells_line.bind fun l => ?_
  by_cases h : (firstL l).1 = 200
  · simp only [h, ne_eq, not_true, if_false]
    refine (tells_headsGo 16).bind fun hs => ?_
    by_cases h2 : (sizeL hs).1 = 200
    · simp only [h2, not_true, if_false]
      exact (tells_body _).map _
    · simp only [h2, not_false_eq_true, if_true]
      exact tells_stop ((size_told hs).resolve_left h2)
  · simp only [h, ne_eq, not_false_eq_true, if_true]
    exact tells_stop ((first_told l).resolve_left h)
theorem told_ne {st : Int} (h : Told st) : st ≠ 200 := by
  rcases h with rfl | rfl | rfl | rfl | rfl <;> decide

/-! ## The laws of what follows (P18.3) -/
theorem parse_len {s r : By} {a : Rq} (h : parseR s = .ok a r) : r.length ≤ s.length ∧ s.drop (s.length - r.length) = r ∧ s.take (s.length - r.length) ++ r = s := by
  obtain ⟨u, rfl⟩ := good_parse.suffix _ _ _ h
  refine ⟨by simp, ?_, ?_⟩
  · rw [List.length_append, Nat.add_sub_cancel, List.drop_left]
  · rw [List.length_append, Nat.add_sub_cancel, List.take_left]
/-- What is told of a text is told of every text that begins with it. -/
theorem grows_law (s t : By) : (parseL s).2.2 ≠ 0 → parseL (s ++ t) = parseL s := by
  intro h0
  unfold parseL at *
  cases hs : parseR s with
  | stop x =>
    rw [hs] at h0
    rw [good_parse.stops s t x hs h0]
  | ok a r =>
    rw [good_parse.grows s t a r hs]
    simp only [List.length_append, Prod.mk.injEq, true_and, and_true]
    omega
theorem more_law (s t : By) : (parseL s).2.2 = 0 → (parseL s).1 = zeroR ∧ (parseL s).2.1 = 0 ∧ ((parseL (s ++ t)).2.2 = 200 → s.length < (parseL (s ++ t)).2.1) := by
  intro h0
  unfold parseL at *
  cases hs : parseR s with
  | ok a r => rw [hs] at h0; simp at h0
  | stop x =>
    refine ⟨rfl, rfl, fun h => ?_⟩
    cases hst : parseR (s ++ t) with
    | stop y =>
      rw [hst] at h
      exact absurd h (told_ne (tells_parse _ _ hst))
    | ok a r =>
      simp only
      rcases Nat.lt_or_ge s.length ((s ++ t).length - r.length) with hlt | hge
      · exact hlt
      · exfalso
        obtain ⟨h1, h2, h3⟩ := parse_len hst
        have hd : r = s.drop ((s ++ t).length - r.length) ++ t := by
          rw [List.drop_append_of_le_length hge] at h2
          exact h2.symm
        rw [hd] at hst
        have := good_parse.local' s t a _ hst
        rw [hs] at this
        cases this
end Go.Proofs.YtfkmgnldkmpeiaaGreatDoor.P18

namespace Go.Proofs.YtfkmgnldkmpeiaaGreatDoor.P20
open Go P12 P18

/-- A call, with the fields of its command. -/
structure Cl where
  kind : Int
  cstream : By
  cname : By
  ckey : By
  cexp : Int
  cfields : List Fld
  stream : By
  frm : Int
  most : Int
  view : By
  key : By
deriving DecidableEq
def zeroC : Cl := ⟨0, [], [], [], 0, [], [], 0, 0, [], []⟩

def fitsL (s : By) : Bool := decide (s ≠ []) && decide (s.length ≤ 60)
/-- All parts, unescaped; none: one of them cannot be. -/
def unescAll : List By → Option (List By)
  | [] => some []
  | p :: l => match unescL p, unescAll l with
    | some u, some r => some (u :: r)
    | _, _ => none
theorem unescAll_len : ∀ {l r : List By}, unescAll l = some r → r.length = l.length
  | [], r, h => by simp only [unescAll, Option.some.injEq] at h; subst h; rfl
  | p :: l, r, h => by
    unfold unescAll at h
    split at h
    · rename_i u r' h1 h2
      simp only [Option.some.injEq] at h
      subst h
      simp [unescAll_len h2]
    · cases h
theorem unescAll_at : ∀ {l r : List By}, unescAll l = some r → ∀ (i : Nat) (p : By), l[i]? = some p → ∃ u, unescL p = some u ∧ r[i]? = some u
  | [], r, h, i, p, hi => by simp at hi
  | q :: l, r, h, i, p, hi => by
    unfold unescAll at h
    split at h
    · rename_i u r' h1 h2
      simp only [Option.some.injEq] at h
      subst h
      match i with
      | 0 => simp at hi; subst hi; exact ⟨u, h1, rfl⟩
      | i + 1 => exact unescAll_at h2 i p (by simpa using hi)
    · cases h
theorem unescAll_none : ∀ {l : List By} (i : Nat) (p : By), l[i]? = some p → unescL p = none → unescAll l = none
  | [], i, p, hi, _ => by simp at hi
  | q :: l, 0, p, hi, h => by
    simp at hi
    subst hi
    unfold unescAll
    rw [h]
  | q :: l, i + 1, p, hi, h => by
    unfold unescAll
    rw [unescAll_none i p (by simpa using hi) h]
    cases unescL q <;> rfl
theorem unescAll_mk : ∀ {l r : List By}, r.length = l.length → (∀ (i : Nat) (p : By), l[i]? = some p → ∃ u, unescL p = some u ∧ r[i]? = some u) → unescAll l = some r
  | [], r, h, _ => by
    have : r = [] := List.eq_nil_of_length_eq_zero (by simpa using h)
    subst this
    rfl
  | p :: l, [], h, _ => by simp at h
  | p :: l, v :: r, h, hi => by
    obtain ⟨u, h1, h2⟩ := hi 0 p rfl
    simp at h2
    subst h2
    unfold unescAll
    rw [h1, unescAll_mk (l := l) (r := r) (by simpa using h) (fun i p hp => by have := hi (i + 1) p (by simpa using hp); simpa using this)]
/-- A path's parts, behind its first slash. -/
def partsU : By → Option (List By)
  | [] => none
  | c :: r => if c = 47 then unescAll (partsL 47 r) else none
def kC : By := [99]
def kS : By := [115]
def kE : By := [101]
def kP : By := [112]
def kLog : By := [108, 111, 103]
def kStreams : By := [115, 116, 114, 101, 97, 109, 115]
def kPing : By := [112, 105, 110, 103]
/-- What parts ask for, and whether by POST. -/
def callL : List By → Option (Cl × Bool)
  | [a] => if a = kLog then some ({ zeroC with kind := 4, most := 50 }, false) else if a = kStreams then some ({ zeroC with kind := 7 }, false) else if a = kPing then some ({ zeroC with kind := 8 }, false) else none
  | [a, b] => if a = kS then (if fitsL b then some ({ zeroC with kind := 2, stream := b }, false) else none)
      else if a = kE then (if fitsL b then some ({ zeroC with kind := 3, stream := b, most := 50 }, false) else none)
      else if a = kP then (if nameL b then some ({ zeroC with kind := 5, view := b }, false) else none) else none
  | [a, b, c] => if a = kC then (if fitsL b && nameL c then some ({ zeroC with kind := 1, cstream := b, cname := c, cexp := -1 }, true) else none)
      else if a = kP then (if nameL b && fitsL c then some ({ zeroC with kind := 6, view := b, key := c }, false) else none) else none
  | _ => none
def findC (path : By) : Option (Cl × Bool) := (partsU path).bind callL

def kFrom : By := [102, 114, 111, 109]
def kMost : By := [109, 111, 115, 116]
def rangeGo : List Fld → Int × Int → Option (Int × Int)
  | [], x => some x
  | f :: l, x => if f.text = true then none else if f.name = kFrom then rangeGo l (f.n, x.2) else if f.name = kMost then rangeGo l (x.1, f.n) else none
/-- A query's numbers. -/
def rangedL (most : Int) (q : By) : Option (Int × Int) :=
  if (readL q).2 ≠ 0 then none else match rangeGo (readL q).1 (0, most) with
  | none => none
  | some x => if 0 ≤ x.1 ∧ 1 ≤ x.2 ∧ x.2 ≤ 50 then some x else none
def digitsL (s : By) : Option Nat := if s ≠ [] ∧ s.length ≤ 9 ∧ s.all digit = true then some (valD s) else none
def keyN : By := [105, 100, 101, 109, 112, 111, 116, 101, 110, 99, 121, 45, 107, 101, 121]
def expN : By := [101, 120, 112, 101, 99, 116, 101, 100, 45, 118, 101, 114, 115, 105, 111, 110]
/-- A command's headers and body: its key, what it expects, its fields; or a status. -/
def commandL (hs : List Hdr) (body : By) : Int × Cl → Int × Cl
  | (_, c) =>
    if 1 < getN hs keyN ∨ (getN hs keyN = 1 ∧ fitsL (getV hs keyN) = false) then (400, zeroC)
    else if 1 < getN hs expN ∨ (getN hs expN = 1 ∧ digitsL (getV hs expN) = none) then (400, zeroC)
    else if (readL body).2 ≠ 0 then (422, zeroC)
    else (200, { c with ckey := getV hs keyN, cfields := (readL body).1, cexp := if getN hs expN = 1 then ((digitsL (getV hs expN)).getD 0 : Nat) else c.cexp })
def methodOf (post : Bool) : By := if post then postM else getM
def routeL (r : Rq) : Cl × Int :=
  match findC r.path with
  | none => (zeroC, 404)
  | some (c, post) =>
    if r.method ≠ methodOf post then (zeroC, 405)
    else if c.kind = 3 ∨ c.kind = 4 then
      match rangedL c.most r.query with
      | none => (zeroC, 400)
      | some x => ({ c with frm := x.1, most := x.2 }, 200)
    else if r.query ≠ [] then (zeroC, 400)
    else if c.kind = 1 then ((commandL r.headers r.body (0, c)).2, (commandL r.headers r.body (0, c)).1)
    else (c, 200)

/-! ## Replies -/
def numF (n : By) (x : Int) : Fld := ⟨n, false, x, []⟩
def textFl (n s : By) : Fld := ⟨n, true, 0, s⟩
def recordL (l : List Fld) : By := (writeL l).1
def nCount : By := [99, 111, 117, 110, 116]
def nFirst : By := [102, 105, 114, 115, 116]
def nPos : By := [112, 111, 115]
def nReason : By := [114, 101, 97, 115, 111, 110]
def nError : By := [101, 114, 114, 111, 114]
def nVersion : By := [118, 101, 114, 115, 105, 111, 110]
def nNumber : By := [110, 117, 109, 98, 101, 114]
def nStream : By := [115, 116, 114, 101, 97, 109]
def nType : By := [116, 121, 112, 101]
def nCursor : By := [99, 117, 114, 115, 111, 114]
def nKey : By := [107, 101, 121]
def nN : By := [110]
def nName : By := [110, 97, 109, 101]
/-- What a command has come to. -/
structure Dn where
  kind : Int
  first : Int
  pos : Int
  count : Int
  reason : By
  e : Int
deriving DecidableEq
def answerL (d : Dn) : Int × By :=
  if d.kind = 1 ∨ d.kind = 2 then (200, recordL [numF nCount d.count, numF nFirst d.first, numF nPos d.pos])
  else if d.kind = 3 then (409, [])
  else if d.kind = 4 then (422, recordL [textFl nReason d.reason])
  else if d.kind = 5 then (507, [])
  else if d.kind = 6 then (422, recordL [numF nError d.e])
  else (503, [])
/-- Lines behind a text, as long as there is room. -/
def pageL : By → List By → By
  | out, [] => out
  | out, l :: ls => if 60000 < out.length + l.length then out else pageL (out ++ l) ls
structure En where
  pos : Int
  stream : By
  number : Int
  type : By
  version : Int
  fields : List Fld
deriving DecidableEq
def headF (x : En) : List Fld := [numF nNumber x.number, numF nPos x.pos, textFl nStream x.stream, textFl nType x.type, numF nVersion x.version]
def lineE (x : En) : By := recordL (headF x) ++ 124 :: (recordL x.fields ++ [10])
def entriesL (l : List En) : By := pageL [] (l.map lineE)
def stateL (v : Int) (s : List Fld) : By := pageL (recordL [numF nVersion v] ++ [10]) [recordL s]
def lineR (x : By × Int) : By := recordL [textFl nKey x.1, numF nN x.2] ++ [10]
def rowsL (c : Int) (l : List (By × Int)) : By := pageL (recordL [numF nCursor c] ++ [10]) (l.map lineR)
def lineS (x : By × Int) : By := recordL [textFl nName x.1, numF nVersion x.2] ++ [10]
/-- Each name with its number; 0: there is none. -/
def pairUp : List By → List Int → List (By × Int)
  | [], _ => []
  | n :: ns, vs => (n, vs.headD 0) :: pairUp ns vs.tail
def streamsL (ns : List By) (vs : List Int) : By := pageL [] ((pairUp ns vs).map lineS)
end Go.Proofs.YtfkmgnldkmpeiaaGreatDoor.P20
