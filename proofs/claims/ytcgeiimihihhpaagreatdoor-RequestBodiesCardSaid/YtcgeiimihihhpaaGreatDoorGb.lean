/-
  Walks of layer 18: the predicates on bytes, of the program and of the reference. Conditions: none.
  Walks of layer 18: need; the predicates that are handed on as function values; 'of' over any of them; hex. Conditions: none.
  A region that draws its order behind another one: a quiet call within it. No program is in sight here. Conditions: none.
  Walks of layer 18: the program's predicates that are handed on as function values; hex. Conditions: none.
  Walks of layer 18: a text in small letters, of the program and of the reference. Conditions: the text is within Go's own limit.
  Walks of layer 18: a text in small letters, of the reference. Conditions: the text is within Go's own limit.
  Walks of layer 18: clean. Conditions: the text is within Go's own limit.
-/
import Derived.Test.YtcgeiimihihhpaaGreatDoorChecked
import Derived.Test.YtcgeiimihihhpaaGreatDoorGa
import Derived.Test.YtcgeiimihihhpaaGreatDoorTShelf
import Derived.Lib.IndexLaws
import Derived.Laws.IdiomStrings

namespace Go.Proofs.YtcgeiimihihhpaaGreatDoor.W18
open Go Go.RowKit P12 P18

def digitN (n : Nat) : Bool := decide (48 ≤ n ∧ n ≤ 57)
theorem digitN_nat (c : UInt8) : digit c = digitN c.toNat := by
  have h : ((List.range 256).all fun n => digit n.toUInt8 == digitN n) = true := by decide +kernel
  have := List.all_eq_true.1 h c.toNat (List.mem_range.2 c.toNat_lt)
  simpa using this
def letterN (n : Nat) : Bool := decide (65 ≤ n ∧ n ≤ 90) || decide (97 ≤ n ∧ n ≤ 122)
theorem letterN_nat (c : UInt8) : letterC c = letterN c.toNat := by
  have h : ((List.range 256).all fun n => letterC n.toUInt8 == letterN n) = true := by decide +kernel
  have := List.all_eq_true.1 h c.toNat (List.mem_range.2 c.toNat_lt)
  simpa using this
def hexCN (n : Nat) : Bool := decide (48 ≤ n ∧ n ≤ 57) || decide (65 ≤ n ∧ n ≤ 70) || decide (97 ≤ n ∧ n ≤ 102)
theorem hexCN_nat (c : UInt8) : hexC c = hexCN c.toNat := by
  have h : ((List.range 256).all fun n => hexC n.toUInt8 == hexCN n) = true := by decide +kernel
  have := List.all_eq_true.1 h c.toNat (List.mem_range.2 c.toNat_lt)
  simpa using this
def upperN (n : Nat) : Bool := decide (65 ≤ n ∧ n ≤ 90)
theorem upperN_nat (c : UInt8) : upper c = upperN c.toNat := by
  have h : ((List.range 256).all fun n => upper n.toUInt8 == upperN n) = true := by decide +kernel
  have := List.all_eq_true.1 h c.toNat (List.mem_range.2 c.toNat_lt)
  simpa using this
def shownN (n : Nat) : Bool := decide (n = 9) || decide (32 ≤ n ∧ n ≤ 126) || decide (128 ≤ n)
theorem shownN_nat (c : UInt8) : shownC c = shownN c.toNat := by
  have h : ((List.range 256).all fun n => shownC n.toUInt8 == shownN n) = true := by decide +kernel
  have := List.all_eq_true.1 h c.toNat (List.mem_range.2 c.toNat_lt)
  simpa using this

theorem digit_cases (n : Nat) : n < 48 ∨ (48 ≤ n ∧ n < 58) ∨ 58 ≤ n := by omega
set_option maxHeartbeats 1000000 in
theorem digit_any (c : UInt8) (C : Int) (hC : C = c.toNat) (w : World) :
    Calls Tryz.prog 40 #[.int .u8 C] w fun e w' => e = .returned (.bool (digit c)) ∧ w = w' := by
  rw [digitN_nat]
  have hn := c.toNat_lt
  generalize c.toNat = n at hC hn ⊢
  subst hC
  obtain ⟨B, hB⟩ : ∃ B, B = digitN n := ⟨_, rfl⟩
  have hBv := hB
  unfold digitN at hBv
  rw [← hB]
  clear hB
  rcases digit_cases n with h | h | h
  all_goals
    first
      | (have hv : B = true := by rw [hBv]; simp <;> omega
         subst hv
         clear hBv
         go_enter Tryz.func40, Tryz.ntmps40
         go_wp2_with fail
         go_ret
         first | exact ⟨rfl, rfl⟩ | (refine ⟨ret1 (vbool ?_), rfl⟩; simp <;> omega))
      | (have hv : B = false := by rw [hBv]; simp <;> omega
         subst hv
         clear hBv
         go_enter Tryz.func40, Tryz.ntmps40
         go_wp2_with fail
         go_ret
         first | exact ⟨rfl, rfl⟩ | (refine ⟨ret1 (vbool ?_), rfl⟩; simp <;> omega))

theorem letter_cases (n : Nat) : n < 65 ∨ (65 ≤ n ∧ n < 91) ∨ (91 ≤ n ∧ n < 97) ∨ (97 ≤ n ∧ n < 123) ∨ 123 ≤ n := by omega
set_option maxHeartbeats 1000000 in
theorem letter_any (c : UInt8) (C : Int) (hC : C = c.toNat) (w : World) :
    Calls Tryz.prog 39 #[.int .u8 C] w fun e w' => e = .returned (.bool (letterC c)) ∧ w = w' := by
  rw [letterN_nat]
  have hn := c.toNat_lt
  generalize c.toNat = n at hC hn ⊢
  subst hC
  obtain ⟨B, hB⟩ : ∃ B, B = letterN n := ⟨_, rfl⟩
  have hBv := hB
  unfold letterN at hBv
  rw [← hB]
  clear hB
  rcases letter_cases n with h | h | h | h | h
  all_goals
    first
      | (have hv : B = true := by rw [hBv]; simp <;> omega
         subst hv
         clear hBv
         go_enter Tryz.func39, Tryz.ntmps39
         go_wp2_with fail
         go_ret
         first | exact ⟨rfl, rfl⟩ | (refine ⟨ret1 (vbool ?_), rfl⟩; simp <;> omega))
      | (have hv : B = false := by rw [hBv]; simp <;> omega
         subst hv
         clear hBv
         go_enter Tryz.func39, Tryz.ntmps39
         go_wp2_with fail
         go_ret
         first | exact ⟨rfl, rfl⟩ | (refine ⟨ret1 (vbool ?_), rfl⟩; simp <;> omega))

theorem refDigit_cases (n : Nat) : n < 48 ∨ (48 ≤ n ∧ n < 58) ∨ 58 ≤ n := by omega
set_option maxHeartbeats 1000000 in
theorem refDigit_any (c : UInt8) (C : Int) (hC : C = c.toNat) (w : World) :
    Calls Tryz.prog 58 #[.int .u8 C] w fun e w' => e = .returned (.bool (digit c)) ∧ w = w' := by
  rw [digitN_nat]
  have hn := c.toNat_lt
  generalize c.toNat = n at hC hn ⊢
  subst hC
  obtain ⟨B, hB⟩ : ∃ B, B = digitN n := ⟨_, rfl⟩
  have hBv := hB
  unfold digitN at hBv
  rw [← hB]
  clear hB
  rcases refDigit_cases n with h | h | h
  all_goals
    first
      | (have hv : B = true := by rw [hBv]; simp <;> omega
         subst hv
         clear hBv
         go_enter Tryz.func58, Tryz.ntmps58
         go_wp2_with fail
         go_ret
         first | exact ⟨rfl, rfl⟩ | (refine ⟨ret1 (vbool ?_), rfl⟩; simp <;> omega))
      | (have hv : B = false := by rw [hBv]; simp <;> omega
         subst hv
         clear hBv
         go_enter Tryz.func58, Tryz.ntmps58
         go_wp2_with fail
         go_ret
         first | exact ⟨rfl, rfl⟩ | (refine ⟨ret1 (vbool ?_), rfl⟩; simp <;> omega))

theorem refLetter_cases (n : Nat) : n < 65 ∨ (65 ≤ n ∧ n < 91) ∨ (91 ≤ n ∧ n < 97) ∨ (97 ≤ n ∧ n < 123) ∨ 123 ≤ n := by omega
set_option maxHeartbeats 1000000 in
theorem refLetter_any (c : UInt8) (C : Int) (hC : C = c.toNat) (w : World) :
    Calls Tryz.prog 80 #[.int .u8 C] w fun e w' => e = .returned (.bool (letterC c)) ∧ w = w' := by
  rw [letterN_nat]
  have hn := c.toNat_lt
  generalize c.toNat = n at hC hn ⊢
  subst hC
  obtain ⟨B, hB⟩ : ∃ B, B = letterN n := ⟨_, rfl⟩
  have hBv := hB
  unfold letterN at hBv
  rw [← hB]
  clear hB
  rcases refLetter_cases n with h | h | h | h | h
  all_goals
    first
      | (have hv : B = true := by rw [hBv]; simp <;> omega
         subst hv
         clear hBv
         go_enter Tryz.func80, Tryz.ntmps80
         go_wp2_with fail
         go_ret
         first | exact ⟨rfl, rfl⟩ | (refine ⟨ret1 (vbool ?_), rfl⟩; simp <;> omega))
      | (have hv : B = false := by rw [hBv]; simp <;> omega
         subst hv
         clear hBv
         go_enter Tryz.func80, Tryz.ntmps80
         go_wp2_with fail
         go_ret
         first | exact ⟨rfl, rfl⟩ | (refine ⟨ret1 (vbool ?_), rfl⟩; simp <;> omega))
end Go.Proofs.YtcgeiimihihhpaaGreatDoor.W18

namespace Go.Proofs.YtcgeiimihihhpaaGreatDoor.W18
open Go Go.RowKit P12 P18

/-- What reading gives up with. -/
abbrev gives (st : Int) : Ending := .panicked [{ v := .iface 40 (.int .i64 st), recovered := false }]
theorem need_ok (st : Int) (w : World) : Calls Tryz.prog 32 #[.bool true, .int .i64 st] w fun e w' => e = .returned (.tuple #[]) ∧ w = w' := by
  go_enter Tryz.func32, Tryz.ntmps32
  go_wp2_with fail
  go_end0
  exact ⟨rfl, rfl⟩
set_option maxRecDepth 100000 in
theorem need_no (st : Int) (w : World) : Calls Tryz.prog 32 #[.bool false, .int .i64 st] w fun e w' => e = gives st ∧ w = w' := by
  go_enter Tryz.func32, Tryz.ntmps32
  go_wp2_with fail
  exact ⟨rfl, rfl, rfl⟩

/-- A function on bytes that tells p. -/
structure PredC (F : FuncId) (p : UInt8 → Bool) : Prop where
  enters : ∀ (args : Array Value) (w : World), (callFunc F args).run Tryz.prog w = .ok (.enter F args) w
  tells : ∀ (c : UInt8) (C : Int), C = c.toNat → ∀ w : World, Calls Tryz.prog F #[.int .u8 C] w fun e w' => e = .returned (.bool (p c)) ∧ w = w'
theorem PredC.at {F : FuncId} {p : UInt8 → Bool} (h : PredC F p) (c : UInt8) (b : Bool) (hb : p c = b) (w : World) : Calls Tryz.prog F #[.int .u8 (c.toNat : Nat)] w fun e w' => e = .returned (.bool b) ∧ w = w' := by
  rw [← hb]; exact h.tells c _ rfl w
theorem digit_pred : PredC 40 digit := ⟨fun _ _ => by kernel_rfl, fun c C hC w => digit_any c C hC w⟩
theorem all_at {p : UInt8 → Bool} (s : ByteArray) (k : Nat) (h : k < s.size) : (s.data.toList.drop k).all p = (p (s[k]'h) && (s.data.toList.drop (k + 1)).all p) := by
  have hl : k < s.data.toList.length := by rw [size_data]; exact h
  rw [List.drop_eq_getElem_cons hl, List.all_cons]
  rfl
set_option maxRecDepth 100000 in
theorem of_any (F : FuncId) (p : UInt8 → Bool) (hp : PredC F p) (s : ByteArray) (w : World) (hs : s.size ≤ 140737488355328) :
    Calls Tryz.prog 34 #[.string s, .func (.func F) #[] #[]] w fun e w' => e = .returned (.bool (s.data.toList.all p)) ∧ w = w' := by
  obtain ⟨R, hR⟩ : ∃ R, R = s.data.toList.all p := ⟨_, rfl⟩
  rw [← hR]
  have HR := Lib.hid hR
  clear hR
  have hent := hp.enters
  go_enter Tryz.func34, Tryz.ntmps34
  go_wp2_with fail
  go_loop [8] (fun i => ∃ k : Nat, k ≤ s.size ∧ i = .int .i64 k ∧ Hid (R = (s.data.toList.drop k).all p)) (fun i => s.size - (intOf i).toNat)
  case atStart => exact ⟨0, by omega, rfl, HR⟩
  case round =>
    obtain ⟨k, hk, rfl, hres⟩ := hrel
    by_cases hlt : k < s.size
    · have hlt' : (k : Int) < (s.size : Int) := by omega
      have hst := all_at (p := p) s k hlt
      by_cases hc : p (s[k]'hlt) = true
      · have hcon := fun W => hp.at (s[k]'hlt) true hc W
        have hn : R = (s.data.toList.drop (k + 1)).all p := by rw [hres.out, hst, hc, Bool.true_and]
        have HN := Lib.hid hn
        clear hst hn hc
        go_wp2_with ((with_reducible refine (hcon _).mono ?_); rintro e w' ⟨rfl, rfl⟩)
        go_round
        case rel => exact ⟨k + 1, by omega, by go_num, HN⟩
        case measure => simp [intOf]; omega
      · have hc' : p (s[k]'hlt) = false := by simpa using hc
        have hcon := fun W => hp.at (s[k]'hlt) false hc' W
        have hn : R = false := by rw [hres.out, hst, hc', Bool.false_and]
        have HN := Lib.hid hn
        clear hst hn hc hc'
        go_wp2_with ((with_reducible refine (hcon _).mono ?_); rintro e w' ⟨rfl, rfl⟩)
        go_ret
        exact ⟨by first | (rw [HN.out]; done) | (rw [HN.out]; rfl), rfl⟩
    · obtain rfl : k = s.size := by omega
      have hn : R = true := by rw [hres.out, List.drop_eq_nil_of_le (by rw [size_data]; omega)]; rfl
      have HN := Lib.hid hn
      clear hn
      go_wp2_with fail
      go_ret
      exact ⟨by first | (rw [HN.out]; done) | (rw [HN.out]; rfl), rfl⟩
end Go.Proofs.YtcgeiimihihhpaaGreatDoor.W18

namespace Go.Proofs.YtcgeiimihihhpaaGreatDoor
open Go Go.RowKit

theorem quiet_add_same {P : Program} {f : FuncId} {args : Array Value} {w : World} {a n : Nat} {v : Value} (h : Calls P f args (w.drewN (a + n)) fun e w' => e = .returned v ∧ w' = w.drewN (a + n)) :
    Calls P f args (w.drewN (a + n)) fun e w'' => e = .returned v ∧ ∃ m, w'' = w.drewN (a + m) :=
  h.mono fun _ _ ⟨he, hm⟩ => ⟨he, n, hm⟩
theorem quiet_add_left {P : Program} {f : FuncId} {args : Array Value} {w : World} {a n : Nat} {v : Value} (h : Calls P f args (w.drewN (a + n)) fun e w' => e = .returned v ∧ w.drewN (a + n) = w') :
    Calls P f args (w.drewN (a + n)) fun e w'' => e = .returned v ∧ ∃ m, w'' = w.drewN (a + m) :=
  h.mono fun _ _ ⟨he, hm⟩ => ⟨he, n, hm.symm⟩
theorem quiet_left {P : Program} {f : FuncId} {args : Array Value} {w : World} {n : Nat} {v : Value} (h : Calls P f args (w.drewN n) fun e w' => e = .returned v ∧ w.drewN n = w') :
    Calls P f args (w.drewN n) fun e w'' => e = .returned v ∧ ∃ m, w'' = w.drewN m :=
  h.mono fun _ _ ⟨he, hm⟩ => ⟨he, n, hm.symm⟩
theorem left_of {P : Program} {f : FuncId} {args : Array Value} {w : World} {v : Ending} (h : Calls P f args w fun e w' => e = v ∧ w' = w) : Calls P f args w fun e w' => e = v ∧ w = w' :=
  h.mono fun _ _ ⟨he, hm⟩ => ⟨he, hm.symm⟩
end Go.Proofs.YtcgeiimihihhpaaGreatDoor

namespace Go.Proofs.YtcgeiimihihhpaaGreatDoor.W18
open Go Go.RowKit P12 P18

theorem idx_contains (l : By) (c : UInt8) : l.contains c = true ↔ 0 ≤ Lib.indexByte l c := by
  constructor
  · intro h
    have hge := Lib.indexByte_ge l c
    rcases Int.lt_or_le (Lib.indexByte l c) 0 with h0 | h0
    · exfalso
      have hn := Lib.indexByte_none (l := l) (c := c) (by omega)
      have hm : c ∈ l := by simpa using h
      obtain ⟨k, hk⟩ := List.mem_iff_getElem?.1 hm
      exact hn k hk
    · exact h0
  · intro h
    obtain ⟨o, ho⟩ := Int.eq_ofNat_of_zero_le h
    have := (Lib.indexByte_some ho).1
    simpa using List.mem_iff_getElem?.2 ⟨o, this⟩
theorem toNat_u8 (c : UInt8) : ((c.toNat : Int)).toNat.toUInt8 = c := by simp

set_option maxHeartbeats 1000000 in
theorem upper_tells (c : UInt8) (C : Int) (hC : C = c.toNat) (w : World) :
    Calls Tryz.prog 35 #[.int .u8 C] w fun e w' => e = .returned (.bool (upper c)) ∧ w = w' := by
  rw [upperN_nat]
  have hn := c.toNat_lt
  generalize c.toNat = n at hC hn ⊢
  subst hC
  obtain ⟨B, hB⟩ : ∃ B, B = upperN n := ⟨_, rfl⟩
  have hBv := hB
  unfold upperN at hBv
  rw [← hB]
  clear hB
  rcases (show n < 65 ∨ (65 ≤ n ∧ n < 91) ∨ 91 ≤ n by omega) with h | h | h
  all_goals
    first
      | (have hv : B = true := by rw [hBv]; simp <;> omega
         subst hv
         clear hBv
         go_enter Tryz.func35, Tryz.ntmps35
         go_wp2_with fail
         go_ret
         first | exact ⟨rfl, rfl⟩ | (refine ⟨ret1 (vbool ?_), rfl⟩; simp <;> omega))
      | (have hv : B = false := by rw [hBv]; simp <;> omega
         subst hv
         clear hBv
         go_enter Tryz.func35, Tryz.ntmps35
         go_wp2_with fail
         go_ret
         first | exact ⟨rfl, rfl⟩ | (refine ⟨ret1 (vbool ?_), rfl⟩; simp <;> omega))
theorem upper_pred : PredC 35 upper := ⟨fun _ _ => by kernel_rfl, upper_tells⟩

set_option maxHeartbeats 1000000 in
theorem shown_tells (c : UInt8) (C : Int) (hC : C = c.toNat) (w : World) :
    Calls Tryz.prog 42 #[.int .u8 C] w fun e w' => e = .returned (.bool (shownC c)) ∧ w = w' := by
  rw [shownN_nat]
  have hn := c.toNat_lt
  generalize c.toNat = n at hC hn ⊢
  subst hC
  by_cases h9 : n = 9
  · subst h9
    rw [show shownN 9 = true by decide]
    go_enter Tryz.func42, Tryz.ntmps42
    go_wp2_with fail
    go_ret
    exact ⟨rfl, rfl⟩
  have z9 : ((n : Int) == 9) = false := by rw [beq_eq_false_iff_ne]; omega
  by_cases h127 : n = 127
  · subst h127
    rw [show shownN 127 = false by decide]
    go_enter Tryz.func42, Tryz.ntmps42
    go_wp2_with fail
    go_ret
    exact ⟨rfl, rfl⟩
  have z127 : ((n : Int) != 127) = true := by rw [bne_iff_ne]; omega
  obtain ⟨B, hB⟩ : ∃ B, B = shownN n := ⟨_, rfl⟩
  have hBv := hB
  unfold shownN at hBv
  rw [← hB]
  clear hB
  by_cases h32 : n < 32
  · have hv : B = false := by rw [hBv]; simp <;> omega
    subst hv
    clear hBv h9 h127
    go_enter Tryz.func42, Tryz.ntmps42
    go_wp2_with fail
    go_ret
    first | exact ⟨rfl, rfl⟩ | (refine ⟨ret1 (vbool ?_), rfl⟩; simp <;> omega)
  · have hv : B = true := by rw [hBv]; simp <;> omega
    subst hv
    clear hBv h9 h127
    have h32' : 32 ≤ n := by omega
    clear h32
    go_enter Tryz.func42, Tryz.ntmps42
    go_wp2_with fail
    go_ret
    first | exact ⟨rfl, rfl⟩ | (refine ⟨ret1 (vbool ?_), rfl⟩; simp <;> omega)
theorem shown_pred : PredC 42 shownC := ⟨fun _ _ => by kernel_rfl, shown_tells⟩

set_option maxHeartbeats 1000000 in
theorem token_tells (c : UInt8) (C : Int) (hC : C = c.toNat) (w : World) :
    Calls Tryz.prog 38 #[.int .u8 C] w fun e w' => e = .returned (.bool (tokenC c)) ∧ w = w' := by
  have hL := fun W => letter_any c C hC W
  have hD := fun W => digit_any c C hC W
  have hI := fun W => Tryz.strings_IndexByte ⟨#[33, 35, 36, 37, 38, 39, 42, 43, 45, 46, 94, 95, 96, 124, 126]⟩ C W
  have hi : Lib.indexByte (⟨#[33, 35, 36, 37, 38, 39, 42, 43, 45, 46, 94, 95, 96, 124, 126]⟩ : ByteArray).data.toList C.toNat.toUInt8 = Lib.indexByte marks c := by rw [hC, toNat_u8]; rfl
  rw [hi] at hI
  obtain ⟨I, hIv⟩ : ∃ I, I = Lib.indexByte marks c := ⟨_, rfl⟩
  rw [← hIv] at hI
  have hm := idx_contains marks c
  rw [← hIv] at hm
  clear hi hIv hC
  obtain ⟨T, hT⟩ : ∃ T, T = tokenC c := ⟨_, rfl⟩
  have hTv := hT
  unfold tokenC at hTv
  rw [← hT]
  clear hT
  generalize letterC c = bl at *
  generalize digit c = bd at *
  generalize marks.contains c = bm at *
  cases bl
  · cases bd
    · by_cases h0 : 0 ≤ I
      · have hb := hm.2 h0
        subst hb
        obtain rfl : T = true := by rw [hTv]; rfl
        clear hTv hm
        go_enter Tryz.func38, Tryz.ntmps38
        go_wp2_with (first | (go_at_call 39; refine (hL _).mono ?_; rintro e w' ⟨rfl, rfl⟩) | (go_at_call 40; refine (hD _).mono ?_; rintro e w' ⟨rfl, rfl⟩) | (go_at_call 41; refine (hI _).mono ?_; rintro e w' ⟨rfl, rfl⟩))
        go_ret
        first | exact ⟨rfl, rfl⟩ | (refine ⟨ret1 (vbool ?_), rfl⟩; simp <;> omega)
      · have hb : bm = false := by
          cases bm
          · rfl
          · exact absurd (hm.1 rfl) h0
        subst hb
        obtain rfl : T = false := by rw [hTv]; rfl
        have h0' : I < 0 := by omega
        clear hTv hm h0
        go_enter Tryz.func38, Tryz.ntmps38
        go_wp2_with (first | (go_at_call 39; refine (hL _).mono ?_; rintro e w' ⟨rfl, rfl⟩) | (go_at_call 40; refine (hD _).mono ?_; rintro e w' ⟨rfl, rfl⟩) | (go_at_call 41; refine (hI _).mono ?_; rintro e w' ⟨rfl, rfl⟩))
        go_ret
        first | exact ⟨rfl, rfl⟩ | (refine ⟨ret1 (vbool ?_), rfl⟩; simp <;> omega)
    · obtain rfl : T = true := by rw [hTv]; rfl
      clear hTv hm
      go_enter Tryz.func38, Tryz.ntmps38
      go_wp2_with (first | (go_at_call 39; refine (hL _).mono ?_; rintro e w' ⟨rfl, rfl⟩) | (go_at_call 40; refine (hD _).mono ?_; rintro e w' ⟨rfl, rfl⟩))
      go_ret
      exact ⟨rfl, rfl⟩
  · obtain rfl : T = true := by rw [hTv]; rfl
    clear hTv hm
    go_enter Tryz.func38, Tryz.ntmps38
    go_wp2_with (go_at_call 39; refine (hL _).mono ?_; rintro e w' ⟨rfl, rfl⟩)
    go_ret
    exact ⟨rfl, rfl⟩
theorem token_pred : PredC 38 tokenC := ⟨fun _ _ => by kernel_rfl, token_tells⟩

theorem or32 (n : Nat) (h : n < 256) : bits .or .u8 (n : Int) 32 = ((if n / 32 % 2 = 1 then n else n + 32 : Nat) : Int) := by
  have : ((List.range 256).all fun n => decide (bits .or .u8 (n : Int) 32 = ((if n / 32 % 2 = 1 then n else n + 32 : Nat) : Int))) = true := by decide +kernel
  simpa using List.all_eq_true.1 this n (List.mem_range.2 h)
set_option maxHeartbeats 1000000 in
theorem hexc_tells (c : UInt8) (C : Int) (hC : C = c.toNat) (w : World) :
    Calls Tryz.prog 76 #[.int .u8 C] w fun e w' => e = .returned (.bool (hexC c)) ∧ w = w' := by
  have hL := fun W => letter_any c C hC W
  have hD := fun W => digit_any c C hC W
  rw [letterN_nat] at hL
  rw [digitN_nat] at hD
  rw [hexCN_nat]
  have hn := c.toNat_lt
  have ho := or32 c.toNat hn
  generalize c.toNat = n at *
  subst hC
  obtain ⟨B, hB⟩ : ∃ B, B = hexCN n := ⟨_, rfl⟩
  obtain ⟨bl, hbl⟩ : ∃ B, B = letterN n := ⟨_, rfl⟩
  obtain ⟨bd, hbd⟩ : ∃ B, B = digitN n := ⟨_, rfl⟩
  obtain ⟨O, hO⟩ : ∃ O : Nat, O = if n / 32 % 2 = 1 then n else n + 32 := ⟨_, rfl⟩
  rw [← hO] at ho
  rw [← hB]
  rw [← hbl] at hL
  rw [← hbd] at hD
  unfold hexCN at hB
  unfold letterN at hbl
  unfold digitN at hbd
  rcases (show n < 48 ∨ (48 ≤ n ∧ n < 58) ∨ (58 ≤ n ∧ n < 65) ∨ (65 ≤ n ∧ n < 71) ∨ (71 ≤ n ∧ n < 91) ∨ (91 ≤ n ∧ n < 97) ∨ (97 ≤ n ∧ n < 103) ∨ (103 ≤ n ∧ n < 123) ∨ 123 ≤ n by omega) with h | h | h | h | h | h | h | h | h
  all_goals
    first
      | (have e1 : B = true := by rw [hB]; simp <;> omega
         subst e1)
      | (have e1 : B = false := by rw [hB]; simp <;> omega
         subst e1)
    first
      | (have e1 : bl = true := by rw [hbl]; simp <;> omega
         subst e1)
      | (have e1 : bl = false := by rw [hbl]; simp <;> omega
         subst e1)
    first
      | (have e1 : bd = true := by rw [hbd]; simp <;> omega
         subst e1)
      | (have e1 : bd = false := by rw [hbd]; simp <;> omega
         subst e1)
    first
      | (have o1 : 103 ≤ O := by rw [hO]; split <;> omega)
      | (have o1 : O ≤ 102 := by rw [hO]; split <;> omega)
      | skip
    clear hB hbl hbd hO
    go_enter Tryz.func76, Tryz.ntmps76
    go_wp2_with (first | (go_at_call 39; refine (hL _).mono ?_; rintro e w' ⟨rfl, rfl⟩) | (go_at_call 40; refine (hD _).mono ?_; rintro e w' ⟨rfl, rfl⟩))
    go_ret
    first | exact ⟨rfl, rfl⟩ | (refine ⟨ret1 (vbool ?_), rfl⟩; simp <;> omega)
theorem hexc_pred : PredC 76 hexC := ⟨fun _ _ => by kernel_rfl, hexc_tells⟩

set_option maxRecDepth 100000 in
theorem hex_any (s : ByteArray) (w : World) (hs : s.size ≤ 140737488355328) :
    Calls Tryz.prog 47 #[.string s] w fun e w' => e = .returned (.bool (s.data.toList.all hexC)) ∧ w = w' := by
  have hc := fun W => of_any _ _ hexc_pred s W hs
  generalize s.data.toList.all hexC = R at *
  go_enter Tryz.func47, Tryz.ntmps47
  go_wp2_with (go_at_call 34; refine (hc _).mono ?_; rintro e w' ⟨rfl, rfl⟩)
  go_ret
  exact ⟨rfl, rfl⟩
end Go.Proofs.YtcgeiimihihhpaaGreatDoor.W18

namespace Go.Proofs.YtcgeiimihihhpaaGreatDoor.W18
open Go Go.RowKit P12 P18

/-- The bytes l lie at the head of block N and may be written. -/
structure BytesAt (N : Nat) (l : By) (w : World) : Prop where
  cell : ∀ j (h : j < l.length), w.cell? ⟨N, j, none⟩ = some (.int .u8 (l[j].toNat : Nat))
  free : ∀ j, j < l.length → w.frozen? ⟨N, j, none⟩ = false
theorem BytesAt.set {N : Nat} {l : By} {w : World} (h : BytesAt N l w) (k : Nat) (c : UInt8) (hk : k < l.length) : BytesAt N (l.set k c) (w.setCell ⟨N, k, none⟩ (.int .u8 (c.toNat : Nat))) where
  cell := fun j hj => by
    rw [List.length_set] at hj
    by_cases e : k = j
    · subst e
      rw [World.cell?_setCell_same' _ _ _ (by rw [h.cell k hk]; rfl)]
      simp
    · rw [World.cell?_setCell_other _ _ _ _ (by intro e'; injection e' with e1 e2 e3; exact e e2), h.cell j hj, List.getElem_set_ne e]
  free := fun j hj => by
    rw [List.length_set] at hj
    rw [World.frozen?_setCell]
    exact h.free j hj
theorem bytesAt_new (w : World) (s : ByteArray) : BytesAt w.heap.size s.data.toList (w.drew.alloc (.cells (bytesRow s (grownCap w s.size 0 5)) 5 ((bytesRow s (grownCap w s.size 0 5)).size, (bytesRow s (grownCap w s.size 0 5)).size + 1))) where
  cell := fun j hj => by
    rw [size_data] at hj
    have := World.cell?_alloc_mark w.drew (bytesRow s (grownCap w s.size 0 5)) 5 ((bytesRow s (grownCap w s.size 0 5)).size, (bytesRow s (grownCap w s.size 0 5)).size + 1) j
    refine Eq.trans this ?_
    unfold bytesRow
    rw [Array.getElem?_append_left (by simp; exact hj)]
    simp [hj]
  free := fun j hj => by
    rw [size_data] at hj
    have hb : (w.drew.alloc (.cells (bytesRow s (grownCap w s.size 0 5)) 5 ((bytesRow s (grownCap w s.size 0 5)).size, (bytesRow s (grownCap w s.size 0 5)).size + 1))).heap[w.heap.size]? = some (.cells (bytesRow s (grownCap w s.size 0 5)) 5 ((bytesRow s (grownCap w s.size 0 5)).size, (bytesRow s (grownCap w s.size 0 5)).size + 1)) := by
      show (w.heap.push _)[w.heap.size]? = _
      simp
    have hs : s.size ≤ (bytesRow s (grownCap w s.size 0 5)).size := by unfold bytesRow; simp
    unfold World.frozen?
    rw [hb]
    simp
    omega
/-- The bytes when k rounds are over. -/
def curS (l : By) (k : Nat) : By := smallL (l.take k) ++ l.drop k
theorem curS_len (l : By) (k : Nat) : (curS l k).length = l.length := by simp [curS, smallL]; omega
theorem curS_at (l : By) (k : Nat) (h : k < l.length) : (curS l k)[k]'(by rw [curS_len]; exact h) = l[k] := by
  unfold curS smallL
  rw [List.getElem_append_right (by simp; omega)]
  simp [Nat.min_eq_left (Nat.le_of_lt h)]
theorem curS_step (l : By) (k : Nat) (h : k < l.length) : curS l (k + 1) = (curS l k).set k (smallC l[k]) := by
  unfold curS smallL
  rw [List.set_append_right _ _ (by simp; omega)]
  rw [List.take_succ_eq_append_getElem h, List.map_append, List.append_assoc]
  congr 1
  have hz : k - (List.map smallC (List.take k l)).length = 0 := by simp; omega
  rw [hz]
  conv => rhs; rw [List.drop_eq_getElem_cons h]
  rfl
theorem curS_same (l : By) (k : Nat) (h : k < l.length) (hu : upper l[k] = false) : curS l (k + 1) = curS l k := by
  rw [curS_step l k h]
  have : smallC l[k] = l[k] := by unfold smallC; rw [hu]; rfl
  rw [this]
  apply List.ext_getElem
  · simp
  · intro i h1 h2
    by_cases e : k = i
    · subst e; simp [curS_at l k h]
    · rw [List.getElem_set_ne e]
theorem curS_end (l : By) : curS l l.length = smallL l := by simp [curS]
theorem upper_toNat (c : UInt8) : upper c = decide (65 ≤ c.toNat ∧ c.toNat ≤ 90) := upperN_nat c
theorem small_toNat (c : UInt8) (h : upper c = true) : ((smallC c).toNat : Int) = (c.toNat : Int) + 32 := by
  have hh : ((List.range 256).all fun n => !upper n.toUInt8 || decide (((smallC n.toUInt8).toNat : Int) = (n : Int) + 32)) = true := by decide +kernel
  have := List.all_eq_true.1 hh c.toNat (List.mem_range.2 c.toNat_lt)
  simpa [h] using this

set_option maxHeartbeats 1000000 in
set_option maxRecDepth 100000 in
theorem small_any (s X : ByteArray) (hX : X = ⟨(smallL s.data.toList).toArray⟩) (w : World) (hs : s.size ≤ 140737488355328) :
    Calls Tryz.prog 43 #[.string s] w fun e w' => e = .returned (.string X) ∧ Below w.heap.size w w' := by
  have hcv := run_bytes_of_string (P := Tryz.prog) w 9 72 5 s Tryz.underlying9 Tryz.underlying72 Tryz.underlying5
  have HX := Lib.hid hX
  clear hX
  have hba := bytesAt_new w s
  have hbl := ((below_drewN w 1).alloc (Nat.le_refl _) (.cells (bytesRow s (grownCap w s.size 0 5)) 5 ((bytesRow s (grownCap w s.size 0 5)).size, (bytesRow s (grownCap w s.size 0 5)).size + 1)))
  rw [show w.drewN 1 = w.drew from rfl] at hbl
  have hsz : w.heap.size + 1 ≤ (w.drew.alloc (.cells (bytesRow s (grownCap w s.size 0 5)) 5 ((bytesRow s (grownCap w s.size 0 5)).size, (bytesRow s (grownCap w s.size 0 5)).size + 1))).heap.size := by simp
  generalize (w.drew.alloc (.cells (bytesRow s (grownCap w s.size 0 5)) 5 ((bytesRow s (grownCap w s.size 0 5)).size, (bytesRow s (grownCap w s.size 0 5)).size + 1))) = w1 at *
  generalize grownCap w s.size 0 5 = cap at *
  go_enter Tryz.func43, Tryz.ntmps43
  go_wp2_with fail
  clear hcv
  go_loopw [10] (fun i wr => ∃ k : Nat, k ≤ s.size ∧ i = .int .i64 k ∧ BytesAt w.heap.size (curS s.data.toList k) wr ∧ Below w.heap.size w wr ∧ w.heap.size + 1 ≤ wr.heap.size) (fun i _ => s.size - (intOf i).toNat)
  case atStart => exact ⟨0, by omega, rfl, by simpa [curS, smallL] using hba, hbl, hsz⟩
  case round =>
    clear hba hbl hsz
    obtain ⟨k, hk, rfl, hI, hB, hZ⟩ := hrel
    by_cases hlt : k < s.size
    · have hl : k < s.data.toList.length := by rw [size_data]; exact hlt
      have hl2 : k < (curS s.data.toList k).length := by rw [curS_len]; exact hl
      have c0 := hI.cell k hl2
      have f0 := hI.free k hl2
      rw [curS_at _ _ hl] at c0
      have hlt' : (k : Int) < (s.size : Int) := by omega
      obtain ⟨n, hn⟩ : ∃ n, n = (s.data.toList[k]'hl).toNat := ⟨_, rfl⟩
      have hn256 : n < 256 := by rw [hn]; exact UInt8.toNat_lt _
      rw [← hn] at c0
      by_cases hu : upper (s.data.toList[k]'hl) = true
      · have hs1 := small_toNat _ hu
        have hu' := hu
        rw [upper_toNat, ← hn] at hu'
        obtain ⟨u1, u2⟩ := of_decide_eq_true hu'
        have hnx := hI.set k (smallC (s.data.toList[k]'hl)) hl2
        rw [← curS_step _ _ hl, hs1, ← hn] at hnx
        have HN := Lib.hid hn
        clear hn hu hu' hs1 hI
        go_wp2_with fail
        go_roundw
        case rel => exact ⟨k + 1, by omega, by go_num, hnx, hB.setCell (p := ⟨w.heap.size, k, none⟩) (Nat.le_refl _) _, by simp [World.setCell]; omega⟩
        case measure => simp [intOf]; omega
      · have hu' : upper (s.data.toList[k]'hl) = false := by simpa using hu
        have hnx := curS_same _ _ hl hu'
        rw [upper_toNat, ← hn] at hu'
        have hu2 := of_decide_eq_false hu'
        rw [← hnx] at hI
        have HI := Lib.hid hI
        clear hn hu hu' hnx hI f0
        by_cases h65 : 65 ≤ n
        · have h91 : 90 < n := by omega
          clear hu2
          go_wp2_with fail
          go_roundw
          case rel => exact ⟨k + 1, by omega, by go_num, HI.out, hB, hZ⟩
          case measure => simp [intOf]; omega
        · have h64 : n < 65 := by omega
          clear hu2 h65
          go_wp2_with fail
          go_roundw
          case rel => exact ⟨k + 1, by omega, by go_num, HI.out, hB, hZ⟩
          case measure => simp [intOf]; omega
    · obtain rfl : k = s.size := by omega
      have hend : curS s.data.toList s.size = smallL s.data.toList := by rw [← size_data, curS_end]
      rw [hend] at hI
      have hlen : (smallL s.data.toList).length = s.size := by simp [smallL]
      have hbk := fun cap => run_convert_bytes_back (P := Tryz.prog) wr 72 9 5 ⟨w.heap.size, 0, none⟩ cap (smallL s.data.toList) Tryz.underlying72 Tryz.underlying5 Tryz.underlying9 (fun j hj => by have := hI.cell j hj; simp only [Addr.add]; split <;> simp_all)
      rw [hlen, ← HX.out] at hbk
      clear hend hlen
      go_wp2_with fail
      go_ret
      exact ⟨rfl, hB⟩
end Go.Proofs.YtcgeiimihihhpaaGreatDoor.W18

namespace Go.Proofs.YtcgeiimihihhpaaGreatDoor.W18
open Go Go.RowKit P12 P18

set_option maxHeartbeats 1000000 in
set_option maxRecDepth 100000 in
theorem refSmall_any (s X : ByteArray) (hX : X = ⟨(smallL s.data.toList).toArray⟩) (w : World) (hs : s.size ≤ 140737488355328) :
    Calls Tryz.prog 56 #[.string s] w fun e w' => e = .returned (.string X) ∧ Below w.heap.size w w' := by
  have hcv := run_bytes_of_string (P := Tryz.prog) w 9 72 5 s Tryz.underlying9 Tryz.underlying72 Tryz.underlying5
  have HX := Lib.hid hX
  clear hX
  have hba := bytesAt_new w s
  have hbl := ((below_drewN w 1).alloc (Nat.le_refl _) (.cells (bytesRow s (grownCap w s.size 0 5)) 5 ((bytesRow s (grownCap w s.size 0 5)).size, (bytesRow s (grownCap w s.size 0 5)).size + 1)))
  rw [show w.drewN 1 = w.drew from rfl] at hbl
  have hsz : w.heap.size + 1 ≤ (w.drew.alloc (.cells (bytesRow s (grownCap w s.size 0 5)) 5 ((bytesRow s (grownCap w s.size 0 5)).size, (bytesRow s (grownCap w s.size 0 5)).size + 1))).heap.size := by simp
  generalize (w.drew.alloc (.cells (bytesRow s (grownCap w s.size 0 5)) 5 ((bytesRow s (grownCap w s.size 0 5)).size, (bytesRow s (grownCap w s.size 0 5)).size + 1))) = w1 at *
  generalize grownCap w s.size 0 5 = cap at *
  go_enter Tryz.func56, Tryz.ntmps56
  go_wp2_with fail
  clear hcv
  go_loopw [4] (fun i wr => ∃ k : Nat, k ≤ s.size ∧ i = .int .i64 k ∧ BytesAt w.heap.size (curS s.data.toList k) wr ∧ Below w.heap.size w wr ∧ w.heap.size + 1 ≤ wr.heap.size) (fun i _ => s.size - (intOf i).toNat)
  case atStart => exact ⟨0, by omega, rfl, by simpa [curS, smallL] using hba, hbl, hsz⟩
  case round =>
    clear hba hbl hsz
    obtain ⟨k, hk, rfl, hI, hB, hZ⟩ := hrel
    by_cases hlt : k < s.size
    · have hl : k < s.data.toList.length := by rw [size_data]; exact hlt
      have hl2 : k < (curS s.data.toList k).length := by rw [curS_len]; exact hl
      have c0 := hI.cell k hl2
      have f0 := hI.free k hl2
      rw [curS_at _ _ hl] at c0
      have hlt' : (k : Int) < (s.size : Int) := by omega
      obtain ⟨n, hn⟩ : ∃ n, n = (s.data.toList[k]'hl).toNat := ⟨_, rfl⟩
      have hn256 : n < 256 := by rw [hn]; exact UInt8.toNat_lt _
      rw [← hn] at c0
      by_cases hu : upper (s.data.toList[k]'hl) = true
      · have hs1 := small_toNat _ hu
        have hu' := hu
        rw [upper_toNat, ← hn] at hu'
        obtain ⟨u1, u2⟩ := of_decide_eq_true hu'
        have hnx := hI.set k (smallC (s.data.toList[k]'hl)) hl2
        rw [← curS_step _ _ hl, hs1, ← hn] at hnx
        have HN := Lib.hid hn
        clear hn hu hu' hs1 hI
        go_wp2_with fail
        go_roundw
        case rel => exact ⟨k + 1, by omega, by go_num, hnx, hB.setCell (p := ⟨w.heap.size, k, none⟩) (Nat.le_refl _) _, by simp [World.setCell]; omega⟩
        case measure => simp [intOf]; omega
      · have hu' : upper (s.data.toList[k]'hl) = false := by simpa using hu
        have hnx := curS_same _ _ hl hu'
        rw [upper_toNat, ← hn] at hu'
        have hu2 := of_decide_eq_false hu'
        rw [← hnx] at hI
        have HI := Lib.hid hI
        clear hn hu hu' hnx hI f0
        by_cases h65 : 65 ≤ n
        · have h91 : 90 < n := by omega
          clear hu2
          go_wp2_with fail
          go_roundw
          case rel => exact ⟨k + 1, by omega, by go_num, HI.out, hB, hZ⟩
          case measure => simp [intOf]; omega
        · have h64 : n < 65 := by omega
          clear hu2 h65
          go_wp2_with fail
          go_roundw
          case rel => exact ⟨k + 1, by omega, by go_num, HI.out, hB, hZ⟩
          case measure => simp [intOf]; omega
    · obtain rfl : k = s.size := by omega
      have hend : curS s.data.toList s.size = smallL s.data.toList := by rw [← size_data, curS_end]
      rw [hend] at hI
      have hlen : (smallL s.data.toList).length = s.size := by simp [smallL]
      have hbk := fun cap => run_convert_bytes_back (P := Tryz.prog) wr 72 9 5 ⟨w.heap.size, 0, none⟩ cap (smallL s.data.toList) Tryz.underlying72 Tryz.underlying5 Tryz.underlying9 (fun j hj => by have := hI.cell j hj; simp only [Addr.add]; split <;> simp_all)
      rw [hlen, ← HX.out] at hbk
      clear hend hlen
      go_wp2_with fail
      go_ret
      exact ⟨rfl, hB⟩
end Go.Proofs.YtcgeiimihihhpaaGreatDoor.W18

namespace Go.Proofs.YtcgeiimihihhpaaGreatDoor.W18
open Go Go.RowKit P12 P18

def four : By := [45, 46, 95, 126]
theorem plain_eq (c : UInt8) : plain18 c = (letterC c || digit c || four.contains c) := by
  have h : ((List.range 256).all fun n => plain18 n.toUInt8 == (letterC n.toUInt8 || digit n.toUInt8 || four.contains n.toUInt8)) = true := by decide +kernel
  have := List.all_eq_true.1 h c.toNat (List.mem_range.2 c.toNat_lt)
  simpa using this
theorem clean_cons (o : By) (c : UInt8) (l : By) : cleanL o (c :: l) = if plain18 c || o.contains c then cleanL o l
    else if c = 37 then
      match l with
      | a :: b :: l' => if hexC a && hexC b then cleanL o l' else false
      | _ => false
    else false := by rw [cleanL.eq_def]; rfl
theorem drop_at (s : ByteArray) (k : Nat) (h : k < s.size) : s.data.toList.drop k = s[k]'h :: s.data.toList.drop (k + 1) := by
  have hl : k < s.data.toList.length := by rw [size_data]; exact h
  rw [List.drop_eq_getElem_cons hl]
  rfl
theorem clean_next (o : By) (s : ByteArray) (k : Nat) (h : k < s.size) (hc : (plain18 (s[k]'h) || o.contains (s[k]'h)) = true) : cleanL o (s.data.toList.drop k) = cleanL o (s.data.toList.drop (k + 1)) := by
  rw [drop_at s k h, clean_cons, if_pos hc]
theorem clean_esc (o : By) (s : ByteArray) (k : Nat) (h : k + 2 < s.size) (hn : (plain18 (s[k]'(by omega)) || o.contains (s[k]'(by omega))) = false) (hc : s[k]'(by omega) = 37) :
    cleanL o (s.data.toList.drop k) = if hexC (s[k + 1]'(by omega)) && hexC (s[k + 2]'h) then cleanL o (s.data.toList.drop (k + 3)) else false := by
  rw [drop_at s k (by omega), clean_cons, if_neg (by rw [hn]; decide), if_pos hc, drop_at s (k + 1) (by omega), drop_at s (k + 2) h]
theorem clean_no (o : By) (s : ByteArray) (k : Nat) (h : k < s.size) (hn : (plain18 (s[k]'h) || o.contains (s[k]'h)) = false) (hc : s[k]'h ≠ 37 ∨ s.size ≤ k + 2) : cleanL o (s.data.toList.drop k) = false := by
  rw [drop_at s k h, clean_cons, if_neg (by rw [hn]; decide)]
  by_cases h37 : s[k]'h = 37
  · rw [if_pos h37]
    have hs : s.size ≤ k + 2 := hc.resolve_left (fun x => x h37)
    by_cases h1 : k + 1 < s.size
    · rw [drop_at s (k + 1) h1, List.drop_eq_nil_of_le (by rw [size_data]; omega)]
    · rw [List.drop_eq_nil_of_le (by rw [size_data]; omega)]
  · rw [if_neg h37]
theorem two_at (s : ByteArray) (k : Nat) (h : k + 2 < s.size) : (s.extract (k + 1) (k + 3)).data.toList = [s[k + 1]'(by omega), s[k + 2]'h] := by
  rw [ByteArray.data_extract, Array.toList_extract, List.extract_eq_take_drop, drop_at s (k + 1) (by omega), drop_at s (k + 2) h]
  rw [show k + 3 - (k + 1) = 2 by omega]
  rfl
theorem toNat_ne {a b : UInt8} (h : a ≠ b) : ((a.toNat : Int) == (b.toNat : Int)) = false := by
  rw [beq_eq_false_iff_ne]
  intro e
  exact h (UInt8.toNat_inj.1 (by omega))

set_option maxHeartbeats 4000000 in
set_option maxRecDepth 100000 in
theorem clean_any (s o : ByteArray) (w : World) (hs : s.size ≤ 140737488355328) :
    Calls Tryz.prog 37 #[.string s, .string o] w fun e w' => e = .returned (.bool (cleanL o.data.toList s.data.toList)) ∧ w = w' := by
  obtain ⟨R, hR⟩ : ∃ R, R = cleanL o.data.toList s.data.toList := ⟨_, rfl⟩
  rw [← hR]
  have HR := Lib.hid hR
  clear hR
  go_enter Tryz.func37, Tryz.ntmps37
  go_wp2_with fail
  go_loop [5] (fun i => ∃ k : Nat, k ≤ s.size ∧ i = .int .i64 k ∧ Hid (R = cleanL o.data.toList (s.data.toList.drop k))) (fun i => s.size - (intOf i).toNat)
  case atStart => exact ⟨0, by omega, rfl, HR⟩
  case round =>
    obtain ⟨k, hk, rfl, hres⟩ := hrel
    by_cases hlt : k < s.size
    · have hlt' : (k : Int) < (s.size : Int) := by omega
      have hL := fun W => letter_any (s[k]'hlt) _ rfl W
      have hD := fun W => digit_any (s[k]'hlt) _ rfl W
      have hI := fun W => Tryz.strings_IndexByte ⟨#[45, 46, 95, 126]⟩ ((s[k]'hlt).toNat : Nat) W
      have hJ := fun W => Tryz.strings_IndexByte o ((s[k]'hlt).toNat : Nat) W
      rw [toNat_u8] at hI hJ
      have hi : Lib.indexByte (⟨#[45, 46, 95, 126]⟩ : ByteArray).data.toList (s[k]'hlt) = Lib.indexByte four (s[k]'hlt) := rfl
      rw [hi] at hI
      have m1 := idx_contains four (s[k]'hlt)
      have m2 := idx_contains o.data.toList (s[k]'hlt)
      generalize Lib.indexByte four (s[k]'hlt) = I at *
      generalize Lib.indexByte o.data.toList (s[k]'hlt) = J at *
      clear hi
      by_cases hp : (plain18 (s[k]'hlt) || o.data.toList.contains (s[k]'hlt)) = true
      · have hn : R = cleanL o.data.toList (s.data.toList.drop (k + 1)) := by rw [hres.out, clean_next _ _ _ hlt hp]
        have HN := Lib.hid hn
        rw [plain_eq] at hp
        clear hn hres
        generalize letterC (s[k]'hlt) = bl at *
        generalize digit (s[k]'hlt) = bd at *
        cases bl
        · cases bd
          · by_cases h1 : 0 ≤ I
            · clear m1 m2 hp
              go_wp2_with (first | (go_at_call 39; refine (hL _).mono ?_; rintro e w' ⟨rfl, rfl⟩) | (go_at_call 40; refine (hD _).mono ?_; rintro e w' ⟨rfl, rfl⟩) | (go_at_call 41; refine (hI _).mono ?_; rintro e w' ⟨rfl, rfl⟩))
              go_round
              case rel => exact ⟨k + 1, by omega, by go_num, HN⟩
              case measure => simp [intOf]; omega
            · have h1' : I < 0 := by omega
              have h2 : 0 ≤ J := by
                refine m2.1 ?_
                have : four.contains (s[k]'hlt) = false := by
                  rw [Bool.eq_false_iff]; intro h; exact h1 (m1.1 h)
                rw [this] at hp
                simpa using hp
              clear m1 m2 hp h1
              have HI := Lib.hid hI
              have HJ := Lib.hid hJ
              clear hI hJ
              go_wp2_with (first | (go_at_call 39; refine (hL _).mono ?_; rintro e w' ⟨rfl, rfl⟩) | (go_at_call 40; refine (hD _).mono ?_; rintro e w' ⟨rfl, rfl⟩) | (go_at_call 41; refine (HI.out _).mono ?_; rintro e w' ⟨rfl, rfl⟩; refine Hid.out ?_))
              refine Lib.hid ?_
              go_wp2_with (go_at_call 41; refine (HJ.out _).mono ?_; rintro e w' ⟨rfl, rfl⟩)
              go_round
              case rel => exact ⟨k + 1, by omega, by go_num, HN⟩
              case measure => simp [intOf]; omega
          · clear m1 m2 hp hI hJ
            go_wp2_with (first | (go_at_call 39; refine (hL _).mono ?_; rintro e w' ⟨rfl, rfl⟩) | (go_at_call 40; refine (hD _).mono ?_; rintro e w' ⟨rfl, rfl⟩))
            go_round
            case rel => exact ⟨k + 1, by omega, by go_num, HN⟩
            case measure => simp [intOf]; omega
        · clear m1 m2 hp hI hJ hD
          go_wp2_with (go_at_call 39; refine (hL _).mono ?_; rintro e w' ⟨rfl, rfl⟩)
          go_round
          case rel => exact ⟨k + 1, by omega, by go_num, HN⟩
          case measure => simp [intOf]; omega
      · have hp' : (plain18 (s[k]'hlt) || o.data.toList.contains (s[k]'hlt)) = false := by simpa using hp
        have hq := hp'
        rw [plain_eq] at hq
        simp only [Bool.or_eq_false_iff] at hq
        obtain ⟨⟨⟨q1, q2⟩, q3⟩, q4⟩ := hq
        have h1 : I < 0 := by
          rcases Int.lt_or_le I 0 with h | h
          · exact h
          · rw [m1.2 h] at q3; cases q3
        have h2 : J < 0 := by
          rcases Int.lt_or_le J 0 with h | h
          · exact h
          · rw [m2.2 h] at q4; cases q4
        rw [q1] at hL
        rw [q2] at hD
        clear m1 m2 q1 q2 q3 q4 hp
        have HI := Lib.hid hI
        have HJ := Lib.hid hJ
        clear hI hJ
        by_cases h37 : s[k]'hlt = 37
        · have hz : (((s[k]'hlt).toNat : Int) == 37) = true := by rw [h37]; rfl
          by_cases h3 : k + 2 < s.size
          · have h3' : (k : Int) + 2 < (s.size : Int) := by omega
            have hst := clean_esc o.data.toList s k h3 hp' h37
            have hX := fun W => hex_any (s.extract (k + 1) (k + 3)) W (by rw [ByteArray.size_extract]; omega)
            rw [two_at s k h3] at hX
            simp only [List.all_cons, List.all_nil, Bool.and_true] at hX
            by_cases hh : (hexC (s[k + 1]'(by omega)) && hexC (s[k + 2]'h3)) = true
            · have hn : R = cleanL o.data.toList (s.data.toList.drop (k + 3)) := by rw [hres.out, hst, if_pos hh]
              have HN := Lib.hid hn
              rw [hh] at hX
              have HX := Lib.hid hX
              clear hn hst hres hh hp' h37 hX
              go_wp2_with (first | (go_at_call 39; refine (hL _).mono ?_; rintro e w' ⟨rfl, rfl⟩) | (go_at_call 40; refine (hD _).mono ?_; rintro e w' ⟨rfl, rfl⟩) | (go_at_call 41; refine (HI.out _).mono ?_; rintro e w' ⟨rfl, rfl⟩; refine Hid.out ?_))
              refine Lib.hid ?_
              go_wp2_with (first | (go_at_call 41; refine (HJ.out _).mono ?_; rintro e w' ⟨rfl, rfl⟩) | (go_at_call 47; refine (HX.out _).mono ?_; rintro e w' ⟨rfl, rfl⟩))
              go_round
              case rel => exact ⟨k + 3, by omega, by go_num, HN⟩
              case measure => simp [intOf]; omega
            · have hh' : (hexC (s[k + 1]'(by omega)) && hexC (s[k + 2]'h3)) = false := by simpa using hh
              have hn : R = false := by rw [hres.out, hst, if_neg hh]
              have HN := Lib.hid hn
              rw [hh'] at hX
              have HX := Lib.hid hX
              clear hn hst hres hh hh' hp' h37 hX
              go_wp2_with (first | (go_at_call 39; refine (hL _).mono ?_; rintro e w' ⟨rfl, rfl⟩) | (go_at_call 40; refine (hD _).mono ?_; rintro e w' ⟨rfl, rfl⟩) | (go_at_call 41; refine (HI.out _).mono ?_; rintro e w' ⟨rfl, rfl⟩; refine Hid.out ?_))
              refine Lib.hid ?_
              go_wp2_with (first | (go_at_call 41; refine (HJ.out _).mono ?_; rintro e w' ⟨rfl, rfl⟩) | (go_at_call 47; refine (HX.out _).mono ?_; rintro e w' ⟨rfl, rfl⟩))
              go_ret
              exact ⟨by first | (rw [HN.out]; done) | (rw [HN.out]; rfl), rfl⟩
          · have h3' : ¬ (k : Int) + 2 < (s.size : Int) := by omega
            have hn : R = false := by rw [hres.out]; exact clean_no _ _ _ hlt hp' (.inr (by omega))
            have HN := Lib.hid hn
            clear hn hres hp' h37
            go_wp2_with (first | (go_at_call 39; refine (hL _).mono ?_; rintro e w' ⟨rfl, rfl⟩) | (go_at_call 40; refine (hD _).mono ?_; rintro e w' ⟨rfl, rfl⟩) | (go_at_call 41; refine (HI.out _).mono ?_; rintro e w' ⟨rfl, rfl⟩; refine Hid.out ?_))
            refine Lib.hid ?_
            go_wp2_with (go_at_call 41; refine (HJ.out _).mono ?_; rintro e w' ⟨rfl, rfl⟩)
            go_ret
            exact ⟨by first | (rw [HN.out]; done) | (rw [HN.out]; rfl), rfl⟩
        · have hz : (((s[k]'hlt).toNat : Int) == 37) = false := toNat_ne h37
          have hn : R = false := by rw [hres.out]; exact clean_no _ _ _ hlt hp' (.inl h37)
          have HN := Lib.hid hn
          clear hn hres hp' h37
          go_wp2_with (first | (go_at_call 39; refine (hL _).mono ?_; rintro e w' ⟨rfl, rfl⟩) | (go_at_call 40; refine (hD _).mono ?_; rintro e w' ⟨rfl, rfl⟩) | (go_at_call 41; refine (HI.out _).mono ?_; rintro e w' ⟨rfl, rfl⟩; refine Hid.out ?_))
          refine Lib.hid ?_
          go_wp2_with (go_at_call 41; refine (HJ.out _).mono ?_; rintro e w' ⟨rfl, rfl⟩)
          go_ret
          exact ⟨by first | (rw [HN.out]; done) | (rw [HN.out]; rfl), rfl⟩
    · obtain rfl : k = s.size := by omega
      have hn : R = true := by rw [hres.out, List.drop_eq_nil_of_le (by rw [size_data]; omega), cleanL.eq_def]
      have HN := Lib.hid hn
      clear hn
      go_wp2_with fail
      go_ret
      exact ⟨by first | (rw [HN.out]; done) | (rw [HN.out]; rfl), rfl⟩
end Go.Proofs.YtcgeiimihihhpaaGreatDoor.W18
