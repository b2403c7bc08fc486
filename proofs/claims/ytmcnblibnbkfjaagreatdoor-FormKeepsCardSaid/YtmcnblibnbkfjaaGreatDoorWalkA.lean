/-
  Walks of layer 12: plain, Name, and the reference's own. Conditions: none.
-/
import Derived.Test.YtmcnblibnbkfjaaGreatDoorPlainB
import Derived.Test.YtmcnblibnbkfjaaGreatDoorBld
import Derived.Test.YtmcnblibnbkfjaaGreatDoorOrd
import Derived.Shelf.GgClosure.StringsIndexFuncTop
namespace Go.Proofs.YtmcnblibnbkfjaaGreatDoor.W12
open Go Go.RowKit P12 Dig

def plainN (n : Nat) : Bool := decide (97 ≤ n ∧ n ≤ 122) || decide (65 ≤ n ∧ n ≤ 90) || decide (48 ≤ n ∧ n ≤ 57) || decide (n = 45) || decide (n = 46) || decide (n = 95) || decide (n = 126)
theorem plainC_nat (c : UInt8) : plainC c = plainN c.toNat := by
  have h : ((List.range 256).all fun n => plainC n.toUInt8 == plainN n) = true := by decide +kernel
  have := List.all_eq_true.1 h c.toNat (List.mem_range.2 c.toNat_lt)
  simpa using this
def okN (n : Nat) : Bool := decide (97 ≤ n ∧ n ≤ 122) || decide (48 ≤ n ∧ n ≤ 57) || decide (n = 95)
theorem okName_nat (c : UInt8) : okName c = okN c.toNat := by
  have h : ((List.range 256).all fun n => okName n.toUInt8 == okN n) = true := by decide +kernel
  have := List.all_eq_true.1 h c.toNat (List.mem_range.2 c.toNat_lt)
  simpa using this
theorem low_nat (c : UInt8) : low c = decide (97 ≤ c.toNat ∧ c.toNat ≤ 122) := by
  have h : ((List.range 256).all fun n => low n.toUInt8 == decide (97 ≤ n ∧ n ≤ 122)) = true := by decide +kernel
  have := List.all_eq_true.1 h c.toNat (List.mem_range.2 c.toNat_lt)
  simpa using this
theorem index4 (n : Nat) (h : n < 256) : Lib.indexByte [45, 46, 95, 126] n.toUInt8 = if n = 45 then 0 else if n = 46 then 1 else if n = 95 then 2 else if n = 126 then 3 else -1 := by
  have h' : ((List.range 256).all fun n => decide (Lib.indexByte [45, 46, 95, 126] n.toUInt8 = if n = 45 then 0 else if n = 46 then 1 else if n = 95 then 2 else if n = 126 then 3 else -1)) = true := by decide +kernel
  simpa using List.all_eq_true.1 h' n (List.mem_range.2 h)
theorem byte_cases (n : Nat) : n < 48 ∨ (48 ≤ n ∧ n ≤ 57) ∨ (57 < n ∧ n < 65) ∨ (65 ≤ n ∧ n ≤ 90) ∨ (90 < n ∧ n < 97) ∨ (97 ≤ n ∧ n ≤ 122) ∨ 122 < n := by omega

set_option maxHeartbeats 1000000 in
theorem plain_any (c : UInt8) (C : Int) (hC : C = c.toNat) (w : World) :
    Calls Tryz.prog 34 #[.int .u8 C] w fun e w' => e = .returned (.bool (plainC c)) ∧ Below w.heap.size w w' := by
  rw [plainC_nat]
  have hn := c.toNat_lt
  generalize c.toNat = n at hC hn ⊢
  subst hC
  have hcon := fun W => Tryz.strings_IndexByte ⟨#[45, 46, 95, 126]⟩ (n : Int) W
  have hi : Lib.indexByte (⟨#[45, 46, 95, 126]⟩ : ByteArray).data.toList ((n : Int).toNat).toUInt8 = if n = 45 then 0 else if n = 46 then 1 else if n = 95 then 2 else if n = 126 then 3 else -1 := index4 n hn
  rw [hi] at hcon
  clear hi
  obtain ⟨I, hI⟩ : ∃ I : Int, I = if n = 45 then 0 else if n = 46 then 1 else if n = 95 then 2 else if n = 126 then 3 else -1 := ⟨_, rfl⟩
  rw [← hI] at hcon
  by_cases hp : plainN n = true
  · rw [hp]
    have hI0 : (n < 48 ∨ (57 < n ∧ n < 65) ∨ (90 < n ∧ n < 97) ∨ 122 < n) → 0 ≤ I := by
      intro h
      rw [hI]
      simp only [plainN, Bool.or_eq_true, decide_eq_true_eq] at hp
      repeat' split
      all_goals omega
    clear hI
    rcases byte_cases n with h | h | h | h | h | h | h
    all_goals
      first
        | (have hI1 := hI0 (by omega)
           clear hI0 hp
           go_enter Tryz.func34, Tryz.ntmps34
           go_wp2_with (go_at_call 59; refine (hcon _).mono ?_; rintro e w' ⟨rfl, rfl⟩)
           go_ret
           first | exact ⟨rfl, Below.refl _ _⟩ | (refine ⟨ret1 (vbool ?_), Below.refl _ _⟩; simp <;> omega))
        | (clear hI0 hp hcon
           go_enter Tryz.func34, Tryz.ntmps34
           go_wp2_with fail
           go_ret
           first | exact ⟨rfl, Below.refl _ _⟩ | (refine ⟨ret1 (vbool ?_), Below.refl _ _⟩; simp <;> omega))
  · have hp' : plainN n = false := by simpa using hp
    rw [hp']
    simp only [plainN, Bool.or_eq_true, decide_eq_true_eq, not_or] at hp
    have hI1 : I < 0 := by
      rw [hI]
      repeat' split
      all_goals omega
    clear hI
    rcases byte_cases n with h | h | h | h | h | h | h
    all_goals
      first
        | (exfalso; omega)
        | (clear hp
           go_enter Tryz.func34, Tryz.ntmps34
           go_wp2_with (go_at_call 59; refine (hcon _).mono ?_; rintro e w' ⟨rfl, rfl⟩)
           go_ret
           first | exact ⟨rfl, Below.refl _ _⟩ | (refine ⟨ret1 (vbool ?_), Below.refl _ _⟩; simp <;> omega))

set_option maxHeartbeats 1000000 in
theorem refPlain_any (c : UInt8) (C : Int) (hC : C = c.toNat) (w : World) :
    Calls Tryz.prog 38 #[.int .u8 C] w fun e w' => e = .returned (.bool (plainC c)) ∧ Below w.heap.size w w' := by
  rw [plainC_nat]
  have hn := c.toNat_lt
  generalize c.toNat = n at hC hn ⊢
  subst hC
  by_cases hs : n = 45 ∨ n = 46 ∨ n = 95 ∨ n = 126
  · rcases hs with rfl | rfl | rfl | rfl
    all_goals
      go_enter Tryz.func38, Tryz.ntmps38
      go_wp2_with fail
      go_ret
      first | exact ⟨rfl, Below.refl _ _⟩ | (refine ⟨ret1 (vbool ?_), Below.refl _ _⟩; simp <;> omega)
  · simp only [not_or] at hs
    have hz : ((n : Int) == 45) = false ∧ ((n : Int) == 46) = false ∧ ((n : Int) == 95) = false ∧ ((n : Int) == 126) = false := by
      refine ⟨?_, ?_, ?_, ?_⟩ <;> (rw [beq_eq_false_iff_ne]; omega)
    obtain ⟨z1, z2, z3, z4⟩ := hz
    rcases byte_cases n with h | h | h | h | h | h | h
    all_goals
      obtain ⟨B, hB⟩ : ∃ B, B = plainN n := ⟨_, rfl⟩
      have hBv := hB
      simp only [plainN, hs.1, hs.2.1, hs.2.2.1, hs.2.2.2, decide_false, Bool.or_false] at hBv
      rw [← hB]
      clear hB hs
      first
        | (have hv : B = true := by rw [hBv]; simp <;> omega
           subst hv
           clear hBv
           go_enter Tryz.func38, Tryz.ntmps38
           go_wp2_with fail
           go_ret
           first | exact ⟨rfl, Below.refl _ _⟩ | (refine ⟨ret1 (vbool ?_), Below.refl _ _⟩; simp <;> omega))
        | (have hv : B = false := by rw [hBv]; simp <;> omega
           subst hv
           clear hBv
           go_enter Tryz.func38, Tryz.ntmps38
           go_wp2_with fail
           go_ret
           first | exact ⟨rfl, Below.refl _ _⟩ | (refine ⟨ret1 (vbool ?_), Below.refl _ _⟩; simp <;> omega))

/-- The rune that a name's byte may not be. -/
def oddR (r : Nat) : Bool := !okN r
set_option maxHeartbeats 1000000 in
theorem odd_pred (w : World) : PredAt Tryz.prog 41 #[] encR oddR w := fun W n _ => by
  unfold FnGives oddR
  by_cases hs : n = 95
  · subst hs
    go_enter Tryz.func41, Tryz.ntmps41
    go_wp2_with fail
    go_ret
    first | exact ⟨rfl, 0, rfl⟩ | (refine ⟨ret1 (vbool ?_), 0, rfl⟩; simp <;> omega)
  · have z1 : ((n : Int) == 95) = false := by rw [beq_eq_false_iff_ne]; omega
    rcases byte_cases n with h | h | h | h | h | h | h
    all_goals
      obtain ⟨B, hB⟩ : ∃ B, B = !okN n := ⟨_, rfl⟩
      have hBv := hB
      simp only [okN, hs, decide_false, Bool.or_false] at hBv
      rw [← hB]
      clear hB hs
      first
        | (have hv : B = true := by rw [hBv]; simp <;> omega
           subst hv
           clear hBv
           go_enter Tryz.func41, Tryz.ntmps41
           go_wp2_with fail
           go_ret
           first | exact ⟨rfl, 0, rfl⟩ | (refine ⟨ret1 (vbool ?_), 0, rfl⟩; simp <;> omega))
        | (have hv : B = false := by rw [hBv]; simp <;> omega
           subst hv
           clear hBv
           go_enter Tryz.func41, Tryz.ntmps41
           go_wp2_with fail
           go_ret
           first | exact ⟨rfl, 0, rfl⟩ | (refine ⟨ret1 (vbool ?_), 0, rfl⟩; simp <;> omega))
theorem get_drop (s : ByteArray) (pos : Nat) (h : pos < s.size) : s.data.toList.drop pos = s[pos]'h :: s.data.toList.drop (pos + 1) := by
  have hl : pos < s.data.toList.length := by rw [size_data]; exact h
  rw [List.drop_eq_getElem_cons hl]
  congr 1
theorem idx_odd (s : ByteArray) : ∀ (f pos : Nat), s.size ≤ pos + f → (Lib.idxFuncFrom oddR true s f pos < 0 ↔ (s.data.toList.drop pos).all okName = true)
  | 0, pos, h => by
    have : s.data.toList.drop pos = [] := List.drop_eq_nil_of_le (by rw [size_data]; omega)
    rw [this]
    simp [Lib.idxFuncFrom]
  | f + 1, pos, h => by
    by_cases hp : pos < s.size
    · rw [get_drop s pos hp, List.all_cons]
      unfold Lib.idxFuncFrom
      rw [if_pos hp]
      by_cases ha : (s[pos]'hp).toNat < 128
      · rw [decode_ascii s pos hp ha]
        simp only
        have hn := okName_nat (s[pos]'hp)
        by_cases ho : okName (s[pos]'hp) = true
        · rw [if_neg (by unfold oddR; rw [← hn, ho]; simp), idx_odd s f (pos + 1) (by omega), ho]
          simp
        · rw [if_pos (by unfold oddR; rw [← hn]; simpa using ho)]
          simp [ho] <;> omega
      · have hd := decode_high s pos hp (by omega)
        have hodd : oddR (Utf8.decode s pos).1 = true := by
          unfold oddR okN
          simp
          omega
        rw [if_pos hodd]
        have ho : okName (s[pos]'hp) = false := by
          rw [okName_nat]
          unfold okN
          simp
          omega
        rw [ho]
        simp <;> omega
    · have : s.data.toList.drop pos = [] := List.drop_eq_nil_of_le (by rw [size_data]; omega)
      rw [this, Lib.idxFuncFrom_end _ _ _ _ _ hp]
      simp
theorem idx_all (s : ByteArray) : Lib.idxFunc oddR true s < 0 ↔ s.data.toList.all okName = true := by
  have := idx_odd s s.size 0 (by omega)
  rwa [List.drop_zero] at this

theorem first_byte (s : ByteArray) (h : 0 < s.size) : ∃ l, s.data.toList = s[0]'h :: l := ⟨_, by simpa using get_drop s 0 h⟩
end Go.Proofs.YtmcnblibnbkfjaaGreatDoor.W12
