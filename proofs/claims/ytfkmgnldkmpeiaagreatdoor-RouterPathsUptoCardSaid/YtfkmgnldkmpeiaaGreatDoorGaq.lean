/-
  Walks of layer 20: each closure's contract in one form; a path's first part, looked up. Conditions: the parts' cells hold them; they are within Go's own limit.
  Walks of layer 20: strings.Split at one byte, strings.CutPrefix at a slash. Conditions: the text is shorter than the library's counts; its variable MaxLen holds an int.
-/
import Derived.Test.YtfkmgnldkmpeiaaGreatDoorGap
import Derived.Test.YtfkmgnldkmpeiaaGreatDoorGao
import Derived.Lib.CutLaws
import Derived.Lib.CountLaws
import Derived.Lib.Split
import Derived.Lib.IndexLaws

namespace Go.Proofs.YtfkmgnldkmpeiaaGreatDoor.W20
open Go Go.RowKit P12 P18 P20 W12

theorem kC_none {l : List By} (h : l.length ≠ 2) : callL (kC :: l) = none := by
  match l, h with
  | [], _ => decide
  | [x], _ => simp [callL, show kC ≠ kS by decide, show kC ≠ kE by decide, show kC ≠ kP by decide]
  | [x, y], h => exact absurd rfl h
  | x :: y :: z :: r, _ => rfl
theorem kS_none {k : By} (hk : k = kS ∨ k = kE) {l : List By} (h : l.length ≠ 1) : callL (k :: l) = none := by
  match l, h with
  | [], _ => rcases hk with rfl | rfl <;> decide
  | [x], h => exact absurd rfl h
  | [x, y], _ => rcases hk with rfl | rfl <;> simp [callL, show kS ≠ kC by decide, show kS ≠ kP by decide, show kE ≠ kC by decide, show kE ≠ kP by decide]
  | x :: y :: z :: r, _ => rfl
theorem kP_none {l : List By} (h1 : l.length ≠ 1) (h2 : l.length ≠ 2) : callL (kP :: l) = none := by
  match l, h1, h2 with
  | [], _, _ => decide
  | [x], h, _ => exact absurd rfl h
  | [x, y], _, h => exact absurd rfl h
  | x :: y :: z :: r, _, _ => rfl
theorem kA_none {k : By} (hk : k = kLog ∨ k = kStreams ∨ k = kPing) {l : List By} (h : l.length ≠ 0) : callL (k :: l) = none := by
  match l, h with
  | [], h => exact absurd rfl h
  | [x], _ => rcases hk with rfl | rfl | rfl <;> simp [callL, show kLog ≠ kS by decide, show kLog ≠ kE by decide, show kLog ≠ kP by decide, show kStreams ≠ kS by decide, show kStreams ≠ kE by decide, show kStreams ≠ kP by decide, show kPing ≠ kS by decide, show kPing ≠ kE by decide, show kPing ≠ kP by decide]
  | [x, y], _ => rcases hk with rfl | rfl | rfl <;> simp [callL, show kLog ≠ kC by decide, show kLog ≠ kP by decide, show kStreams ≠ kC by decide, show kStreams ≠ kP by decide, show kPing ≠ kC by decide, show kPing ≠ kP by decide]
  | x :: y :: z :: r, _ => rfl
theorem other_none {k : By} (h1 : k ≠ kC) (h2 : k ≠ kS) (h3 : k ≠ kE) (h4 : k ≠ kP) (h5 : k ≠ kLog) (h6 : k ≠ kStreams) (h7 : k ≠ kPing) (l : List By) : callL (k :: l) = none := by
  match l with
  | [] => simp [callL, h5, h6, h7]
  | [x] => simp [callL, h2, h3, h4]
  | [x, y] => simp [callL, h1, h4]
  | x :: y :: z :: r => rfl

/-- What a closure does, whatever parts it is handed. -/
def Leads (q : Nat) (lb : Array Value) (key : By) (post : Bool) (N : Nat) (W : World) : Prop :=
  ∀ (W' : World) (l : List By) (g off cp : Nat), (∀ k, N ≤ k → k < W.heap.size → W'.heap[k]? = W.heap[k]?) → PartsAt g off cp l W' → l.length ≤ 140737488355328 → (Lib.join l [47]).length ≤ 140737488355328 →
    Calls Tryz.prog q (#[.slice (some ⟨g, off, none⟩) l.length cp] ++ lb) W' (CallPost key l post W')
theorem post_of {key : By} {l : List By} {post ok : Bool} {W : World} {q : Nat} {args : Array Value} (c : Cl) (h : Calls Tryz.prog q args W fun e W' => e = .returned (.tuple #[.agg (clC c (.slice none 0 0)), .bool ok]) ∧ Below W.heap.size W W') (ht : ok = true → callL (key :: l) = some (c, post)) (hf : ok = false → callL (key :: l) = none) : Calls Tryz.prog q args W (CallPost key l post W) :=
  h.mono fun _ _ ⟨he, hb⟩ => ⟨c, ok, he, ht, hf, hb⟩
theorem leads_c (N : Nat) (W : World) : Leads 91 #[] kC true N W := by
  intro W' l g off cp _ hP _ _
  rcases Nat.decEq l.length 2 with h2 | h2
  · exact post_of zeroC (c_other _ _ cp h2 W') (by intro h; cases h) (fun _ => kC_none h2)
  · obtain ⟨x, y, rfl⟩ : ∃ x y, l = [x, y] := by
      match l, h2 with
      | [x, y], _ => exact ⟨x, y, rfl⟩
    have hx := hP.at_ 0 x rfl
    have hy := hP.at_ 1 y rfl
    rw [Nat.add_zero] at hx
    cases hf : fitsL x with
    | false => exact post_of zeroC (c_nofit ⟨x.toArray⟩ g off cp W' hx hf) (by intro h; cases h) (fun _ => by simp [callL, hf])
    | true =>
      cases hn : nameL y with
      | false => exact post_of zeroC (c_noname ⟨x.toArray⟩ ⟨y.toArray⟩ g off cp W' hx hy hf hn) (by intro h; cases h) (fun _ => by simp [callL, hf, hn])
      | true => exact post_of { zeroC with kind := 1, cstream := x, cname := y, cexp := -1 } (c_yes ⟨x.toArray⟩ ⟨y.toArray⟩ g off cp W' hx hy hf hn) (fun _ => by simp [callL, hf, hn]) (by intro h; cases h)
theorem fits_len {x : By} (h : fitsL x = true) : x.length ≤ 60 := by
  unfold fitsL at h
  simp at h
  exact h.2
theorem leads_s (N : Nat) (W : World) : Leads 92 #[] kS false N W := by
  intro W' l g off cp _ hP hn hj
  rcases Nat.decEq l.length 1 with h1 | h1
  · exact post_of { zeroC with kind := 2, stream := Lib.join l [47] } (s_other l g off cp W' hP hn hj h1) (by intro h; cases h) (fun _ => kS_none (.inl rfl) h1)
  · obtain ⟨x, rfl⟩ : ∃ x, l = [x] := by
      match l, h1 with
      | [x], _ => exact ⟨x, rfl⟩
    rw [Lib.join_one] at hj
    have hs : (⟨x.toArray⟩ : ByteArray).size ≤ 140737488355328 := by rw [size_mk]; exact hj
    cases hf : fitsL x with
    | false => exact post_of { zeroC with kind := 2, stream := x } (s_one_false ⟨x.toArray⟩ g off cp W' hP hs hf) (by intro h; cases h) (fun _ => by simp [callL, hf])
    | true => exact post_of { zeroC with kind := 2, stream := x } (s_one_true ⟨x.toArray⟩ g off cp W' hP hs hf) (fun _ => by simp [callL, hf]) (by intro h; cases h)
theorem leads_e (N : Nat) (W : World) : Leads 94 #[] kE false N W := by
  intro W' l g off cp _ hP hn hj
  rcases Nat.decEq l.length 1 with h1 | h1
  · exact post_of { zeroC with kind := 3, stream := Lib.join l [47], most := 50 } (e_other l g off cp W' hP hn hj h1) (by intro h; cases h) (fun _ => kS_none (.inr rfl) h1)
  · obtain ⟨x, rfl⟩ : ∃ x, l = [x] := by
      match l, h1 with
      | [x], _ => exact ⟨x, rfl⟩
    rw [Lib.join_one] at hj
    have hs : (⟨x.toArray⟩ : ByteArray).size ≤ 140737488355328 := by rw [size_mk]; exact hj
    cases hf : fitsL x with
    | false => exact post_of { zeroC with kind := 3, stream := x, most := 50 } (e_one_false ⟨x.toArray⟩ g off cp W' hP hs hf) (by intro h; cases h) (fun _ => by simp [callL, hf, show kE ≠ kS by decide])
    | true => exact post_of { zeroC with kind := 3, stream := x, most := 50 } (e_one_true ⟨x.toArray⟩ g off cp W' hP hs hf) (fun _ => by simp [callL, hf, show kE ≠ kS by decide]) (by intro h; cases h)
theorem leads_p (N : Nat) (W : World) : Leads 95 #[] kP false N W := by
  intro W' l g off cp _ hP _ _
  match l with
  | [] => exact post_of zeroC (p_other 0 _ cp (by omega) (by omega) W') (by intro h; cases h) (fun _ => kP_none (by simp) (by simp))
  | [x] =>
    have hx := hP.at_ 0 x rfl
    rw [Nat.add_zero] at hx
    cases hn : nameL x with
    | false => exact post_of zeroC (p_one_false ⟨x.toArray⟩ g off cp W' hx hn) (by intro h; cases h) (fun _ => by simp [callL, hn, show kP ≠ kS by decide, show kP ≠ kE by decide])
    | true => exact post_of { zeroC with kind := 5, view := x } (p_one_true ⟨x.toArray⟩ g off cp W' hx hn) (fun _ => by simp [callL, hn, show kP ≠ kS by decide, show kP ≠ kE by decide]) (by intro h; cases h)
  | [x, y] =>
    have hx := hP.at_ 0 x rfl
    have hy := hP.at_ 1 y rfl
    rw [Nat.add_zero] at hx
    cases hn : nameL x with
    | false => exact post_of zeroC (p_two_noname ⟨x.toArray⟩ ⟨y.toArray⟩ g off cp W' hx hy hn) (by intro h; cases h) (fun _ => by simp [callL, hn, show kP ≠ kC by decide])
    | true =>
      cases hf : fitsL y with
      | false => exact post_of zeroC (p_two_nofit ⟨x.toArray⟩ ⟨y.toArray⟩ g off cp W' hx hy hn hf) (by intro h; cases h) (fun _ => by simp [callL, hn, hf, show kP ≠ kC by decide])
      | true => exact post_of { zeroC with kind := 6, view := x, key := y } (p_two_yes ⟨x.toArray⟩ ⟨y.toArray⟩ g off cp W' hx hy hn hf) (fun _ => by simp [callL, hn, hf, show kP ≠ kC by decide]) (by intro h; cases h)
  | x :: y :: z :: r => exact post_of zeroC (p_other _ _ cp (by simp) (by simp) W') (by intro h; cases h) (fun _ => rfl)
theorem leads_a {key : By} {k m : Int} {b N : Nat} {W : World} (hN : N ≤ b) (hkey : key = kLog ∨ key = kStreams ∨ key = kPing) (hcl : callL [key] = some ({ zeroC with kind := k, most := m }, false)) (hc : StAt tCl b (clK k m) W) : Leads 125 #[.pointer (some ⟨b, 0, none⟩)] key false N W := by
  intro W' l g off cp hb hP _ _
  have hc := (hb b hN (at_lt hc)).trans hc
  match l with
  | [] => exact post_of { zeroC with kind := k, most := m } (alone_true 0 rfl _ cp b k m W' hc) (fun _ => hcl) (by intro h; cases h)
  | x :: r => exact post_of { zeroC with kind := k, most := m } (alone_false _ (by simp) _ cp b k m W' hc) (by intro h; cases h) (fun _ => kA_none hkey (by simp))

/-! ## The look-up -/
theorem find_pent (x k : By) (v : Value) (n : Nat) (es : List MapEntry) (i : Nat) : Instr.findNow .string (.string ⟨x.toArray⟩) (pent k v n :: es) i = if x = k then some (some (i, v)) else Instr.findNow .string (.string ⟨x.toArray⟩) es (i + 1) := by
  have hq : ((⟨x.toArray⟩ : ByteArray) == ⟨k.toArray⟩) = (x.toArray == k.toArray) := rfl
  by_cases h : x = k
  · subst h
    simp [Instr.findNow, Instr.sameNow, pent, hq]
  · have hb : (x.toArray == k.toArray) = false := by
      rw [beq_eq_false_iff_ne]
      exact fun e => h (List.toArray_inj e)
    simp only [Instr.findNow, Instr.sameNow, pent, hq, hb, if_neg h]
theorem eg_c : ∀ args w, (callFunc 91 args).run Tryz.prog w = .ok (.enter 91 args) w := fun args w => by simp [go_sem]
theorem eg_s : ∀ args w, (callFunc 92 args).run Tryz.prog w = .ok (.enter 92 args) w := fun args w => by simp [go_sem]
theorem eg_e : ∀ args w, (callFunc 94 args).run Tryz.prog w = .ok (.enter 94 args) w := fun args w => by simp [go_sem]
theorem eg_p : ∀ args w, (callFunc 95 args).run Tryz.prog w = .ok (.enter 95 args) w := fun args w => by simp [go_sem]
theorem eg_a : ∀ args w, (callFunc 125 args).run Tryz.prog w = .ok (.enter 125 args) w := fun args w => by simp [go_sem]
/-- The first parts that there are. -/
def IsKey (a : By) : Prop := a = kC ∨ a = kS ∨ a = kE ∨ a = kP ∨ a = kLog ∨ a = kStreams ∨ a = kPing
instance (a : By) : Decidable (IsKey a) := by unfold IsKey; infer_instance
theorem pick_none {a : By} (hk : ¬ IsKey a) (b1 b2 b3 : Nat) : Instr.findNow .string (.string ⟨a.toArray⟩) (pes b1 b2 b3).toArray.toList 0 = some none ∧ ∀ l, callL (a :: l) = none := by
  show Instr.findNow .string (.string ⟨a.toArray⟩) (pes b1 b2 b3) 0 = some none ∧ _
  unfold IsKey at hk
  simp only [not_or] at hk
  obtain ⟨e1, e2, e3, e4, e5, e6, e7⟩ := hk
  unfold pes
  simp only [find_pent]
  exact ⟨by rw [if_neg e1, if_neg e2, if_neg e3, if_neg e4, if_neg e5, if_neg e6, if_neg e7]; rfl, other_none e1 e2 e3 e4 e5 e6 e7⟩
/-- A first part that there is: a closure, and what it leads to. -/
theorem pick_some {w W : World} {B b1 b2 b3 : Nat} (hI : PI w W B (pes b1 b2 b3).toArray 7 [(b3, clK 8 0), (b2, clK 7 0), (b1, clK 4 50)]) {a : By} (hk : IsKey a) :
    ∃ (i : Nat) (m : ByteArray) (q : Nat) (lb : Array Value) (post : Bool), Instr.findNow .string (.string ⟨a.toArray⟩) (pes b1 b2 b3).toArray.toList 0 = some (some (i, pV m q lb)) ∧ m.data.toList = methodOf post ∧ (∀ args w, (callFunc q args).run Tryz.prog w = .ok (.enter q args) w) ∧ Leads q lb a post w.heap.size W := by
  show ∃ (i : Nat) (m : ByteArray) (q : Nat) (lb : Array Value) (post : Bool), Instr.findNow .string (.string ⟨a.toArray⟩) (pes b1 b2 b3) 0 = some (some (i, pV m q lb)) ∧ _
  unfold pes
  simp only [find_pent]
  have h1 := (hI.held (b1, clK 4 50) (by simp)).2
  have h2 := (hI.held (b2, clK 7 0) (by simp)).2
  have h3 := (hI.held (b3, clK 8 0) (by simp)).2
  by_cases e1 : a = kC
  · subst e1
    exact ⟨_, _, _, _, true, if_pos rfl, rfl, eg_c, leads_c _ W⟩
  by_cases e2 : a = kS
  · subst e2
    exact ⟨_, _, _, _, false, by rw [if_neg e1, if_pos rfl], rfl, eg_s, leads_s _ W⟩
  by_cases e3 : a = kE
  · subst e3
    exact ⟨_, _, _, _, false, by rw [if_neg e1, if_neg e2, if_pos rfl], rfl, eg_e, leads_e _ W⟩
  by_cases e4 : a = kP
  · subst e4
    exact ⟨_, _, _, _, false, by rw [if_neg e1, if_neg e2, if_neg e3, if_pos rfl], rfl, eg_p, leads_p _ W⟩
  by_cases e5 : a = kLog
  · subst e5
    exact ⟨_, _, _, _, false, by rw [if_neg e1, if_neg e2, if_neg e3, if_neg e4, if_pos rfl], rfl, eg_a, leads_a h1.1 (.inl rfl) (by decide) h1.2⟩
  by_cases e6 : a = kStreams
  · subst e6
    exact ⟨_, _, _, _, false, by rw [if_neg e1, if_neg e2, if_neg e3, if_neg e4, if_neg e5, if_pos rfl], rfl, eg_a, leads_a h2.1 (.inr (.inl rfl)) (by decide) h2.2⟩
  by_cases e7 : a = kPing
  · subst e7
    exact ⟨_, _, _, _, false, by rw [if_neg e1, if_neg e2, if_neg e3, if_neg e4, if_neg e5, if_neg e6, if_pos rfl], rfl, eg_a, leads_a h3.1 (.inr (.inr rfl)) (by decide) h3.2⟩
  unfold IsKey at hk
  simp only [e1, e2, e3, e4, e5, e6, e7, or_self] at hk
theorem zeroPa (w : World) : (zeroValue 118).run Tryz.prog w = .ok (.agg #[.string ⟨#[]⟩, .nilFunc]) w := by kernel_rfl
abbrev tPa : TypeId := 118
abbrev zPa : Array Value := #[.string ⟨#[]⟩, .nilFunc]
/-- What is told of the key A in the map of block B, now and behind a new variable. -/
def Look (B : Nat) (A : ByteArray) (v : Value) (ok : Bool) (W : World) : Prop :=
  (Instr.lookup 120 (.map (some B)) (.string A) true).run Tryz.prog W = .ok (.tuple #[v, .bool ok]) W ∧
  (Instr.lookup 120 (.map (some B)) (.string A) true).run Tryz.prog (W.alloc (.cells zPa tPa)) = .ok (.tuple #[v, .bool ok]) (W.alloc (.cells zPa tPa))
def Goes (m : ByteArray) (q : Nat) (lb : Array Value) (a : By) (post : Bool) (N : Nat) (W : World) : Prop :=
  m.data.toList = methodOf post ∧ (∀ args w, (callFunc q args).run Tryz.prog w = .ok (.enter q args) w) ∧ Leads q lb a post N W
theorem map_new {W : World} {B c : Nat} {es : Array MapEntry} (h : W.heap[B]? = some (.map es c)) (o : Obj) : (W.alloc o).heap[B]? = some (.map es c) :=
  ((below_alloc W o).block B (Array.getElem?_eq_some_iff.1 h).1).trans h
theorem look_of {w W : World} {B b1 b2 b3 : Nat} (hI : PI w W B (pes b1 b2 b3).toArray 7 [(b3, clK 8 0), (b2, clK 7 0), (b1, clK 4 50)]) {a : By} {A : ByteArray} (hA : (⟨a.toArray⟩ : ByteArray) = A) {r : Option (Nat × Value)} (hf : Instr.findNow .string (.string ⟨a.toArray⟩) (pes b1 b2 b3).toArray.toList 0 = some r) :
    Look B A ((r.map (·.2)).getD (.agg zPa)) r.isSome W := by
  subst hA
  exact ⟨run_look_str _ _ _ Tryz.underlying120 Tryz.underlying9 _ B _ 7 hI.map _ _ hf _ (zeroPa _), run_look_str _ _ _ Tryz.underlying120 Tryz.underlying9 _ B _ 7 (map_new hI.map _) _ _ hf _ (zeroPa _)⟩
/-- The map of the paths, asked for a first part. -/
theorem paths_hit {a : By} {A : ByteArray} (hA : (⟨a.toArray⟩ : ByteArray) = A) (hk : IsKey a) (w : World) : Calls Tryz.prog 64 #[] w fun e W => ∃ B m q lb post, e = .returned (.map (some B)) ∧ Look B A (pV m q lb) true W ∧ Goes m q lb a post w.heap.size W ∧ Below w.heap.size w W := by
  refine (paths_any w).mono ?_
  rintro e W ⟨B, b1, b2, b3, rfl, hI⟩
  obtain ⟨i, m, q, lb, post, hf, hm, eg, hl⟩ := pick_some hI hk
  exact ⟨B, m, q, lb, post, rfl, look_of hI hA hf, ⟨hm, eg, hl⟩, hI.below⟩
theorem paths_miss {a : By} {A : ByteArray} (hA : (⟨a.toArray⟩ : ByteArray) = A) (hk : ¬ IsKey a) (w : World) : Calls Tryz.prog 64 #[] w fun e W => ∃ B, e = .returned (.map (some B)) ∧ Look B A (.agg zPa) false W ∧ Below w.heap.size w W := by
  refine (paths_any w).mono ?_
  rintro e W ⟨B, b1, b2, b3, rfl, hI⟩
  exact ⟨B, rfl, look_of hI hA (pick_none hk b1 b2 b3).1, hI.below⟩
theorem Goes.then {m : ByteArray} {q : Nat} {lb : Array Value} {a : By} {post : Bool} {N : Nat} {W W' : World} (h : Goes m q lb a post N W) (hs : W.heap.size ≤ W'.heap.size) (hk : ∀ k, N ≤ k → k < W.heap.size → W'.heap[k]? = W.heap[k]?) : Goes m q lb a post 0 W' :=
  ⟨h.1, h.2.1, fun V l g off cp hV => h.2.2 V l g off cp (fun k h1 h2 => (hV k (Nat.zero_le _) (by omega)).trans (hk k h1 h2))⟩
end Go.Proofs.YtfkmgnldkmpeiaaGreatDoor.W20

namespace Go.Proofs.YtfkmgnldkmpeiaaGreatDoor.W20
open Go Go.RowKit P12 P18 P20 W12

/-- The library's variable MaxLen holds an int. -/
def MaxL (w : World) : Prop := ∃ m, w.cell? ⟨0, 0, none⟩ = some (.int .i64 m)
theorem MaxL.keep {w w' : World} (h : MaxL w) (hb : Below w.heap.size w w') : MaxL w' := by
  obtain ⟨m, hm⟩ := h
  exact ⟨m, keep_cell hb hm⟩
theorem index_split (s : ByteArray) (c : UInt8) (i : Nat) (h : Lib.indexB s ⟨#[c]⟩ = i) : i < s.size ∧ c ∉ (s.extract 0 i).data.toList ∧ s.data.toList = (s.extract 0 i).data.toList ++ c :: (s.extract (i + 1) s.size).data.toList := by
  have h1 : Lib.indexByte s.data.toList c = i := by rw [← h]; exact (Lib.index_one _ _).symm
  obtain ⟨g1, g2⟩ := Lib.indexByte_some h1
  have hl : i < s.data.toList.length := (List.getElem?_eq_some_iff.1 g1).1
  have hs : i < s.size := by rw [size_data] at hl; exact hl
  have e0 : (s.extract 0 i).data.toList = s.data.toList.take i := by rw [Lib.extract_data]; simp
  have e1 : (s.extract (i + 1) s.size).data.toList = s.data.toList.drop (i + 1) := Lib.extract_to_end _ _
  rw [e0, e1]
  refine ⟨hs, ?_, ?_⟩
  · intro hm
    obtain ⟨k, hk⟩ := List.mem_iff_getElem?.1 hm
    rw [List.getElem?_take] at hk
    split at hk
    · rename_i hki; exact g2 k hki hk
    · cases hk
  · have := List.take_append_drop i s.data.toList
    rw [List.drop_eq_getElem_cons hl] at this
    have e : s.data.toList[i]'hl = c := by
      rw [List.getElem?_eq_getElem hl] at g1
      exact Option.some.inj g1
    rw [e] at this
    exact this.symm
theorem split_parts (c : UInt8) : ∀ (n : Nat) (s : ByteArray), s.size ≤ n → (Lib.splitB ⟨#[c]⟩ 0 (Lib.countB s ⟨#[c]⟩) s).map Value.string = (partsL c s.data.toList).map bs ∧ Lib.countB s ⟨#[c]⟩ + 1 = (partsL c s.data.toList).length
  | n, s, hn => by
    rcases Lib.indexB_cases s ⟨#[c]⟩ with h | ⟨i, h, hi⟩
    · have hnot : c ∉ s.data.toList := by
        intro hm
        obtain ⟨k, hk⟩ := List.mem_iff_getElem?.1 hm
        have h1 : Lib.indexByte s.data.toList c = -1 := by rw [← h]; exact (Lib.index_one _ _).symm
        exact Lib.indexByte_none h1 k hk
      rw [Lib.countB_miss _ _ h, Lib.splitB_zero, partsL_free hnot]
      simp [bs_data]
    · obtain ⟨h1, h2, h3⟩ := index_split s c i h
      have hc := Lib.countB_hit s ⟨#[c]⟩ i (Nat.le_refl 1) h
      have hz : (⟨#[c]⟩ : ByteArray).size = 1 := rfl
      rw [hz] at hc
      have hts : (s.extract (i + 1) s.size).size = s.size - (i + 1) := by rw [ByteArray.size_extract]; omega
      match n, hn with
      | 0, hn => omega
      | n + 1, hn =>
        obtain ⟨r1, r2⟩ := split_parts c n (s.extract (i + 1) s.size) (by omega)
        rw [hc, Nat.add_comm 1, Lib.splitB_hit _ _ _ _ i h, hz]
        conv => rhs; rw [h3]
        conv => lhs; rw [h3]
        rw [partsL_at h2]
        constructor
        · rw [List.map_cons, List.map_cons, r1, bs_data]
          simp
        · rw [List.length_cons]
          omega
theorem Split_any (s : ByteArray) (c : UInt8) (m : Int) (w : World) (hs : s.size < 4294967281) (hm : w.cell? ⟨0, 0, none⟩ = some (.int .i64 m)) :
    Calls Tryz.prog 62 #[.string s, .string ⟨#[c]⟩] w fun e w' => e = .returned (.slice (some ⟨w.heap.size, 0, none⟩) (partsL c s.data.toList).length (partsL c s.data.toList).length) ∧ w' = w.alloc (.cells ((partsL c s.data.toList).map bs).toArray 9) := by
  obtain ⟨h1, h2⟩ := split_parts c s.size s (Nat.le_refl _)
  have := Tryz.strings_Split s ⟨#[c]⟩ m w hs hm (Nat.le_refl 1)
  rw [h1, h2] at this
  exact this
end Go.Proofs.YtfkmgnldkmpeiaaGreatDoor.W20
