/-
  Walks of layer 18: the reference's header. Conditions: the text is within Go's own limit.
  Walks of layer 18: the reference's size of a chunk. Conditions: the text is short.
  Walks of layer 18: the reference's length. Conditions: the headers' rows lie in memory, their values are short.
  Walks of layer 18: the reference's Cut (its text is the one of layer 12). Conditions: the text's length is within Go's own limit.
  Walks of layer 18: the reference's closes. Conditions: the headers' rows lie in memory, their values are short.
-/
import Derived.Test.YtcgeiimihihhpaaGreatDoorGg
import Derived.Test.YtcgeiimihihhpaaGreatDoorGb
import Derived.Test.YtcgeiimihihhpaaGreatDoorGe

namespace Go.Proofs.YtcgeiimihihhpaaGreatDoor.W18
open Go Go.RowKit P12 P18

/-- What the reference's header hands back. -/
def hdrV : Option Hdr → Value
  | none => .tuple #[.agg #[.string ⟨#[]⟩, .string ⟨#[]⟩], .bool false]
  | some h => .tuple #[.agg #[bs h.name, bs h.value], .bool true]
theorem hd_a {s : By} (h : (cutL 58 s).2.2 = false) : headerL s = none := by unfold headerL; rw [if_neg (by rintro ⟨h1, _⟩; rw [h] at h1; cases h1)]
theorem hd_n {s : By} (h : (cutL 58 s).1 = []) : headerL s = none := by unfold headerL; rw [if_neg (by rintro ⟨_, h1, _⟩; exact h1 h)]
theorem hd_go {s : By} (h1 : (cutL 58 s).2.2 = true) (h2 : (cutL 58 s).1 ≠ []) : headerL s = if (cutL 58 s).1.all tokenC = false then none else if (cutL 58 s).2.1.all shownC = false then none else some ⟨smallL (cutL 58 s).1, trimL (cutL 58 s).2.1⟩ := by
  unfold headerL
  by_cases a : (cutL 58 s).1.all tokenC = true
  · rw [if_neg (c := (cutL 58 s).1.all tokenC = false) (by rw [a]; decide)]
    by_cases b : (cutL 58 s).2.1.all shownC = true
    · rw [if_pos ⟨h1, h2, a, b⟩, if_neg (by rw [b]; decide)]
    · rw [if_neg (by rintro ⟨_, _, _, h⟩; exact b h), if_pos (by simpa using b)]
  · rw [if_neg (by rintro ⟨_, _, h, _⟩; exact a h), if_pos (by simpa using a)]
theorem shown_nat (c : UInt8) : shownC c = (decide (c.toNat = 9) || decide (32 ≤ c.toNat ∧ c.toNat ≤ 126) || decide (128 ≤ c.toNat)) := by rw [shownN_nat]; rfl
set_option maxHeartbeats 4000000 in
set_option maxRecDepth 100000 in
theorem refHeader_any (s : ByteArray) (hs : s.size ≤ 1000000) (w : World) :
    Calls Tryz.prog 24 #[.string s] w fun e w' => e = .returned (hdrV (headerL s.data.toList)) ∧ Below w.heap.size w w' := by
  obtain ⟨F, hF⟩ : ∃ F, F = headerL s.data.toList := ⟨_, rfl⟩
  rw [← hF]
  have hc1 := fun W => rcut_at s 58 58 rfl (by omega) W
  have hle := cut_le 58 s.data.toList
  rw [size_data] at hle
  obtain ⟨M, hM⟩ : ∃ P : ByteArray, P = ⟨(cutL 58 s.data.toList).1.toArray⟩ := ⟨_, rfl⟩
  obtain ⟨Y, hY⟩ : ∃ P : ByteArray, P = ⟨(cutL 58 s.data.toList).2.1.toArray⟩ := ⟨_, rfl⟩
  obtain ⟨a, ha⟩ : ∃ B : Bool, B = (cutL 58 s.data.toList).2.2 := ⟨_, rfl⟩
  have hMd : M.data.toList = (cutL 58 s.data.toList).1 := by rw [hM]
  have hYd : Y.data.toList = (cutL 58 s.data.toList).2.1 := by rw [hY]
  simp only [bs] at hc1
  rw [← hM, ← hY, ← ha] at hc1
  have hMs : M.size ≤ 1000000 := by rw [← size_data, hMd]; omega
  have hYs : Y.size ≤ 1000000 := by rw [← size_data, hYd]; omega
  have ra : a = false → F = none := fun h => by rw [hF]; exact hd_a (by rw [← ha]; exact h)
  have rn : M.data.toList = [] → F = none := fun h => by rw [hF]; exact hd_n (by rw [← hMd]; exact h)
  have rgo : a = true → M.data.toList ≠ [] → F = if M.data.toList.all tokenC = false then none else if Y.data.toList.all shownC = false then none else some ⟨smallL M.data.toList, trimL Y.data.toList⟩ := fun h1 h2 => by
    have := hd_go (s := s.data.toList) (by rw [← ha]; exact h1) (by rw [← hMd]; exact h2)
    rw [← hF, ← hMd, ← hYd] at this
    exact this
  clear hF hM hY ha hMd hYd hle
  have RA := Lib.hid ra
  have RN := Lib.hid rn
  have RG := Lib.hid rgo
  have C1 := Lib.hid hc1
  clear ra rn rgo hc1
  have hbl0 := below_alloc w (.cells z2 32)
  have hh0 : HdAt w.heap.size z2 (w.alloc (.cells z2 32)) := new_at w _ _
  go_enter Tryz.func24, Tryz.ntmps24
  go_wp2_with (go_at_call 53; (with_reducible refine (C1.out _).mono ?_); rintro e w1 ⟨rfl, hb1⟩; refine Hid.out ?_)
  refine Lib.hid ?_
  have hh1 : HdAt w.heap.size z2 w1 := keep_at hh0 hb1
  have hbl1 := below_then hbl0 hb1
  clear hh0 hbl0 hb1 C1
  by_cases ha : a = false
  · have HF := Lib.hid (RA.out ha)
    subst ha
    clear RA RN RG
    go_wp2_with (refine put_hd rfl _ _ rfl w.heap.size z2 rfl rfl hh1 rfl rfl (by kernel_rfl) ?_; intro w4 hh4 hb4 _)
    refine ⟨rfl, _, ret_hd rfl _ _ w.heap.size z2 rfl hh4 rfl, ?_⟩
    exact ⟨by rw [HF.out]; rfl, hbl1.trans hb4⟩
  obtain rfl : a = true := by simpa using ha
  by_cases hm : M.data.toList = []
  · have gM : M.toList = [] := by rw [Lib.toList_data]; exact hm
    have HF := Lib.hid (RN.out hm)
    clear RA RN RG ha hm
    go_wp2_with (refine put_hd rfl _ _ rfl w.heap.size z2 rfl rfl hh1 rfl rfl (by kernel_rfl) ?_; intro w4 hh4 hb4 _)
    refine ⟨rfl, _, ret_hd rfl _ _ w.heap.size z2 rfl hh4 rfl, ?_⟩
    exact ⟨by rw [HF.out]; rfl, hbl1.trans hb4⟩
  have gM : ¬ M.toList = [] := by rw [Lib.toList_data]; exact hm
  have gM' : M.toList.isEmpty = false := by simpa [List.isEmpty_iff] using gM
  have hF := RG.out rfl hm
  obtain ⟨B, hB⟩ : ∃ B, B = M.data.toList.all tokenC := ⟨_, rfl⟩
  rw [← hB] at hF
  have HF := Lib.hid hF
  have HB := Lib.hid (show B = (M.data.toList.drop 0).all tokenC by rw [hB, List.drop_zero])
  clear RA RN RG ha hm hF hB
  go_wp2_with fail
  go_loop [7] (fun i => ∃ k : Nat, k ≤ M.size ∧ i = .int .i64 k ∧ Hid (B = (M.data.toList.drop k).all tokenC)) (fun i => M.size - (intOf i).toNat)
  case atStart => exact ⟨0, by omega, rfl, HB⟩
  case round =>
    clear HB
    obtain ⟨k, hk, rfl, hres⟩ := hrel
    by_cases hlt : k < M.size
    · have hlt' : (k : Int) < (M.size : Int) := by omega
      have hv := hres.out
      rw [all_at M k hlt] at hv
      have hx := run_at M k (M[k]'hlt) (by rw [List.getElem?_eq_getElem (by rw [size_data]; exact hlt)]; rfl)
      have hT := fun W => tchar_any (M[k]'hlt) _ rfl W
      by_cases ht : tokenC (M[k]'hlt) = true
      · rw [ht] at hT hv
        rw [Bool.true_and] at hv
        have HV := Lib.hid hv
        generalize M[k]'hlt = c at *
        clear hres hv ht
        go_wp2_with (go_at_call 55; (with_reducible refine (hT _).mono ?_); rintro e w3 ⟨rfl, rfl⟩)
        go_round
        case rel => exact ⟨k + 1, by omega, by go_num, HV⟩
        case measure => simp [intOf]; omega
      · have ht' : tokenC (M[k]'hlt) = false := by simpa using ht
        rw [ht'] at hT hv
        rw [Bool.false_and] at hv
        generalize M[k]'hlt = c at *
        replace HF := Lib.hid (show F = none by rw [HF.out, if_pos hv])
        clear hres hv ht ht'
        go_wp2_with (first
          | (go_at_call 55; (with_reducible refine (hT _).mono ?_); rintro e w3 ⟨rfl, rfl⟩)
          | (refine put_hd rfl _ _ rfl w.heap.size z2 rfl rfl hh1 rfl rfl (by kernel_rfl) ?_; intro w4 hh4 hb4 _))
        refine ⟨rfl, _, ret_hd rfl _ _ w.heap.size z2 rfl hh4 rfl, ?_⟩
        exact ⟨by rw [HF.out]; rfl, hbl1.trans hb4⟩
    · obtain rfl : k = M.size := by omega
      have hv := hres.out
      have hdn : M.data.toList.drop M.size = [] := List.drop_eq_nil_of_le (by rw [size_data]; exact Nat.le_refl _)
      rw [hdn, List.all_nil] at hv
      have hF := HF.out
      rw [if_neg (by rw [hv]; decide)] at hF
      obtain ⟨C, hC⟩ : ∃ B, B = Y.data.toList.all shownC := ⟨_, rfl⟩
      rw [← hC] at hF
      have HG := Lib.hid hF
      have HC := Lib.hid (show C = (Y.data.toList.drop 0).all shownC by rw [hC, List.drop_zero])
      clear hres hv hdn HF hF hC
      go_wp2_with fail
      go_loop [9] (fun i => ∃ k : Nat, k ≤ Y.size ∧ i = .int .i64 k ∧ Hid (C = (Y.data.toList.drop k).all shownC)) (fun i => Y.size - (intOf i).toNat)
      case atStart => exact ⟨0, by omega, rfl, HC⟩
      case round =>
        clear HC
        obtain ⟨k, hk, rfl, hres⟩ := hrel
        by_cases hlt2 : k < Y.size
        · have hlt' : (k : Int) < (Y.size : Int) := by omega
          have hv := hres.out
          rw [all_at Y k hlt2, shown_nat] at hv
          obtain ⟨n, hn⟩ : ∃ n, n = (Y[k]'hlt2).toNat := ⟨_, rfl⟩
          have hx := run_at Y k (Y[k]'hlt2) (by rw [List.getElem?_eq_getElem (by rw [size_data]; exact hlt2)]; rfl)
          rw [← hn] at hv hx
          clear hn
          rcases (show (n = 9) ∨ (n < 32 ∧ n ≠ 9) ∨ n = 127 ∨ (32 ≤ n ∧ n ≠ 127) by omega) with h | h | h | h
          · subst h
            rw [show (decide (9 = 9) || decide (32 ≤ 9 ∧ 9 ≤ 126) || decide (128 ≤ 9)) = true by decide, Bool.true_and] at hv
            have HV := Lib.hid hv
            clear hres hv
            go_wp2_with fail
            go_round
            case rel => exact ⟨k + 1, by omega, by go_num, HV⟩
            case measure => simp [intOf]; omega
          · have z1 : (n : Int) < 32 := by omega
            have z9 : ((n : Int) == 9) = false := by rw [beq_eq_false_iff_ne]; omega
            have y9 : ¬ (n : Int) = 9 := by omega
            have hcn : (decide (n = 9) || decide (32 ≤ n ∧ n ≤ 126) || decide (128 ≤ n)) = false := by simp <;> omega
            rw [hcn, Bool.false_and] at hv
            replace HG := Lib.hid (show F = none by rw [HG.out, if_pos hv])
            clear hres hv hcn h
            go_wp2_with (refine put_hd rfl _ _ rfl w.heap.size z2 rfl rfl hh1 rfl rfl (by kernel_rfl) ?_; intro w4 hh4 hb4 _)
            refine ⟨rfl, _, ret_hd rfl _ _ w.heap.size z2 rfl hh4 rfl, ?_⟩
            exact ⟨by rw [HG.out]; rfl, hbl1.trans hb4⟩
          · subst h
            rw [show (decide (127 = 9) || decide (32 ≤ 127 ∧ 127 ≤ 126) || decide (128 ≤ 127)) = false by decide, Bool.false_and] at hv
            replace HG := Lib.hid (show F = none by rw [HG.out, if_pos hv])
            clear hres hv
            go_wp2_with (refine put_hd rfl _ _ rfl w.heap.size z2 rfl rfl hh1 rfl rfl (by kernel_rfl) ?_; intro w4 hh4 hb4 _)
            refine ⟨rfl, _, ret_hd rfl _ _ w.heap.size z2 rfl hh4 rfl, ?_⟩
            exact ⟨by rw [HG.out]; rfl, hbl1.trans hb4⟩
          · have z1 : ¬ (n : Int) < 32 := by omega
            have z127 : ((n : Int) == 127) = false := by rw [beq_eq_false_iff_ne]; omega
            have y127 : ¬ (n : Int) = 127 := by omega
            have hcn : (decide (n = 9) || decide (32 ≤ n ∧ n ≤ 126) || decide (128 ≤ n)) = true := by simp <;> omega
            rw [hcn, Bool.true_and] at hv
            have HV := Lib.hid hv
            clear hres hv hcn h
            go_wp2_with fail
            go_round
            case rel => exact ⟨k + 1, by omega, by go_num, HV⟩
            case measure => simp [intOf]; omega
        · obtain rfl : k = Y.size := by omega
          have hv := hres.out
          have hdn : Y.data.toList.drop Y.size = [] := List.drop_eq_nil_of_le (by rw [size_data]; exact Nat.le_refl _)
          rw [hdn, List.all_nil] at hv
          have hF := HG.out
          rw [if_neg (by rw [hv]; decide)] at hF
          obtain ⟨P, hP⟩ : ∃ X : ByteArray, X = ⟨(smallL M.data.toList).toArray⟩ := ⟨_, rfl⟩
          obtain ⟨Q, hQ⟩ : ∃ X : ByteArray, X = ⟨(trimL Y.data.toList).toArray⟩ := ⟨_, rfl⟩
          have hsm := fun W => refSmall_any M P hP W (by omega)
          have htr := fun W => rtrim_any Y Q hQ (by omega) W
          have HE := Lib.hid (show hdrV F = .tuple #[.agg #[.string P, .string Q], .bool true] by rw [hF, hP, hQ]; rfl)
          clear hres hv hdn HG hF hP hQ
          go_wp2_with (first
            | (go_at_call 56; (with_reducible refine (hsm _).mono ?_); rintro e w3 ⟨rfl, hb3⟩; have hh3 : HdAt w.heap.size z2 w3 := keep_at hh1 hb3)
            | (go_at_call 57; (with_reducible refine (htr _).mono ?_); rintro e w3 ⟨rfl, rfl⟩)
            | (refine put_hd rfl _ _ rfl w.heap.size #[.string P, .string Q] rfl rfl hh3 rfl rfl (one2 _ _) ?_; intro w4 hh4 hb4 _))
          refine ⟨rfl, _, ret_hd rfl _ _ w.heap.size _ rfl hh4 rfl, ?_⟩
          exact ⟨by rw [HE.out]; rfl, (below_then hbl1 hb3).trans hb4⟩
end Go.Proofs.YtcgeiimihihhpaaGreatDoor.W18

namespace Go.Proofs.YtcgeiimihihhpaaGreatDoor.W18
open Go Go.RowKit P12 P18

def sizeV : Option Nat → Int
  | none => -1
  | some n => n
theorem chunk_len {l : P12.By} (h : l = [] ∨ 4 < l.length) : chunkSize l = none := by
  unfold chunkSize
  rw [if_neg (by rintro ⟨h1, h2, _⟩; rcases h with h | h; exact h1 h; omega)]
theorem chunk_all {l : P12.By} (h0 : l ≠ []) (h4 : l.length ≤ 4) : chunkSize l = if l.all hexC = true then some (hexFold 0 l) else none := by
  unfold chunkSize
  by_cases h : l.all hexC = true
  · rw [if_pos ⟨h0, h4, h⟩, if_pos h]; rfl
  · rw [if_neg (by rintro ⟨_, _, h1⟩; exact h h1), if_neg h]
theorem one_data (s : ByteArray) (k : Nat) (h : k < s.size) : (s.extract k (k + 1)).data.toList = [s[k]'h] := by
  rw [Lib.extract_data, drop_at s k h]
  simp
theorem small_low {c : UInt8} {v : Nat} (h : (48 ≤ c.toNat ∧ c.toNat ≤ 57 ∧ v = c.toNat - 48) ∨ (97 ≤ c.toNat ∧ c.toNat ≤ 102 ∧ v = c.toNat - 87) ∨ (65 ≤ c.toNat ∧ c.toNat ≤ 70 ∧ v = c.toNat - 55)) :
    ((smallC c).toNat < 97 ∧ 48 ≤ (smallC c).toNat ∧ v = (smallC c).toNat - 48 ∧ v < 16) ∨ (97 ≤ (smallC c).toNat ∧ v = (smallC c).toNat - 97 + 10 ∧ v < 16) := by
  by_cases hu : upper c = true
  · have h1 := small_toNat c hu
    rw [upper_toNat] at hu
    have := of_decide_eq_true hu
    omega
  · have hs : smallC c = c := by unfold smallC; rw [if_neg hu]
    have hu' : upper c = false := by simpa using hu
    rw [upper_toNat] at hu'
    have := of_decide_eq_false hu'
    rw [hs]
    omega
set_option maxHeartbeats 3200000 in
set_option maxRecDepth 100000 in
theorem refSize_any (s : ByteArray) (hs : s.size ≤ 1000000) (w : World) :
    Calls Tryz.prog 60 #[.string s] w fun e w' => e = .returned (.int .i64 (sizeV (chunkSize s.data.toList))) ∧ Below w.heap.size w w' := by
  by_cases h0 : s.size = 0
  · have hnil : s.data.toList = [] := List.length_eq_zero_iff.1 (by rw [size_data]; exact h0)
    rw [chunk_len (.inl hnil)]
    have z1 : (s.size : Int) < 1 := by omega
    clear hnil h0
    go_enter Tryz.func60, Tryz.ntmps60
    go_wp2_with fail
    go_ret
    exact ⟨rfl, Below.refl _ _⟩
  have z1 : ¬ (s.size : Int) < 1 := by omega
  by_cases h4 : 4 < s.size
  · rw [chunk_len (.inr (by rw [size_data]; exact h4))]
    have z4 : (4 : Int) < (s.size : Int) := by omega
    clear h4
    go_enter Tryz.func60, Tryz.ntmps60
    go_wp2_with fail
    go_ret
    exact ⟨rfl, Below.refl _ _⟩
  have z4 : ¬ (4 : Int) < (s.size : Int) := by omega
  have hne : s.data.toList ≠ [] := fun e => h0 (by rw [← size_data, e]; rfl)
  have hca := chunk_all hne (by rw [size_data]; omega)
  obtain ⟨F, hF⟩ : ∃ F, F = chunkSize s.data.toList := ⟨_, rfl⟩
  rw [← hF] at hca ⊢
  have HF := Lib.hid (show F = if (s.data.toList.drop 0).all hexC = true then some (hexFold 0 (s.data.toList.drop 0)) else none from hca)
  clear hca hF hne
  go_enter Tryz.func60, Tryz.ntmps60
  go_wp2_with fail
  go_loopw [3, 4] (fun n i wr => ∃ k m : Nat, k ≤ s.size ∧ m < 16 ^ k ∧ n = .int .i64 m ∧ i = .int .i64 k ∧ Hid (F = if (s.data.toList.drop k).all hexC = true then some (hexFold m (s.data.toList.drop k)) else none) ∧ Below w.heap.size w wr) (fun _ i _ => s.size - (intOf i).toNat)
  case atStart => exact ⟨0, 0, by omega, by decide, rfl, rfl, HF, Below.refl _ _⟩
  case round =>
    clear HF
    obtain ⟨k, m, hk, hm, rfl, rfl, hres, hB⟩ := hrel
    by_cases hlt : k < s.size
    · have hlt' : (k : Int) < (s.size : Int) := by omega
      have hm4 : m < 4096 := by
        have hp : 16 ^ k ≤ 16 ^ 3 := Nat.pow_le_pow_right (by decide) (by omega)
        omega
      have hv := hres.out
      have hx := run_at s k (s[k]'hlt) (by rw [List.getElem?_eq_getElem (by rw [size_data]; exact hlt)]; rfl)
      have hH := fun W => refHex_any (s[k]'hlt) _ rfl W
      rw [drop_at s k hlt, List.all_cons] at hv
      have hone := one_data s k hlt
      have i0 : (0 : Int) ≤ (k : Int) := by omega
      have i1 : (k : Int) ≤ (s.size : Int) := by omega
      have i2 : (k : Int) + 1 ≤ (s.size : Int) := by omega
      have i3 : (k : Int) ≤ (k : Int) + 1 := by omega
      by_cases ht : hexC (s[k]'hlt) = true
      · obtain ⟨v, hvv⟩ : ∃ v, v = hexN' (s[k]'hlt) := ⟨_, rfl⟩
        have hcs := small_low (hex_cases _ ht)
        rw [← hvv] at hcs
        obtain ⟨X, hX⟩ : ∃ X : ByteArray, X = ⟨(smallL (s.extract k (k + 1)).data.toList).toArray⟩ := ⟨_, rfl⟩
        have hsm := fun W => refSmall_any (s.extract k (k + 1)) X hX W (by rw [ByteArray.size_extract]; omega)
        have hXd : X.data.toList = [smallC (s[k]'hlt)] := by rw [hX, hone]; rfl
        have hx0 := run_at X 0 (smallC (s[k]'hlt)) (by rw [hXd]; rfl)
        rw [show ((0 : Nat) : Int) = 0 from rfl] at hx0
        rw [ht] at hH hv
        rw [Bool.true_and, hexFold_cons, ← hvv] at hv
        generalize (smallC (s[k]'hlt)) = d at *
        have hd256 := d.toNat_lt
        generalize d.toNat = t at *
        generalize s[k]'hlt = c at *
        have HV := Lib.hid hv
        have hpow : 16 ^ (k + 1) = 16 * 16 ^ k := by rw [Nat.pow_succ, Nat.mul_comm]
        have hmv : 16 * m + v < 16 ^ (k + 1) := by rw [hpow]; omega
        clear hres hv hvv hX hone hXd ht hpow hm
        rcases hcs with ⟨t1, t2, t3, t4⟩ | ⟨t1, t2, t4⟩
        · have y1 : ¬ (97 : Int) ≤ (t : Int) := by omega
          have e1 : 16 * (m : Int) + ((t : Int) - 48) = ((16 * m + v : Nat) : Int) := by omega
          go_wp2_with (first
            | (go_at_call 82; (with_reducible refine (hH _).mono ?_); rintro e w3 ⟨rfl, rfl⟩)
            | (go_at_call 56; (with_reducible refine (hsm _).mono ?_); rintro e w3 ⟨rfl, hb3⟩))
          go_roundw
          case rel => exact ⟨k + 1, 16 * m + v, by omega, hmv, by first | rfl | (congr 1; omega), by go_num, HV, below_then hB hb3⟩
          case measure => simp [intOf]; omega
        · have y1 : (97 : Int) ≤ (t : Int) := by omega
          have e1 : 16 * (m : Int) + ((t : Int) - 97) + 10 = ((16 * m + v : Nat) : Int) := by omega
          go_wp2_with (first
            | (go_at_call 82; (with_reducible refine (hH _).mono ?_); rintro e w3 ⟨rfl, rfl⟩)
            | (go_at_call 56; (with_reducible refine (hsm _).mono ?_); rintro e w3 ⟨rfl, hb3⟩))
          go_roundw
          case rel => exact ⟨k + 1, 16 * m + v, by omega, hmv, by first | rfl | (congr 1; omega), by go_num, HV, below_then hB hb3⟩
          case measure => simp [intOf]; omega
      · have ht' : hexC (s[k]'hlt) = false := by simpa using ht
        rw [ht'] at hH hv
        rw [Bool.false_and, if_neg (by decide)] at hv
        generalize s[k]'hlt = c at *
        subst hv
        clear hres ht ht' hone
        go_wp2_with (go_at_call 82; (with_reducible refine (hH _).mono ?_); rintro e w3 ⟨rfl, rfl⟩)
        go_ret
        exact ⟨rfl, hB⟩
    · obtain rfl : k = s.size := by omega
      have hv := hres.out
      have hdn : s.data.toList.drop s.size = [] := List.drop_eq_nil_of_le (by rw [size_data]; exact Nat.le_refl _)
      rw [hdn, List.all_nil, if_pos rfl] at hv
      change F = some m at hv
      subst hv
      clear hres hdn
      go_wp2_with fail
      go_ret
      exact ⟨rfl, hB⟩
end Go.Proofs.YtcgeiimihihhpaaGreatDoor.W18

namespace Go.Proofs.YtcgeiimihihhpaaGreatDoor.W18
open Go Go.RowKit P12 P18 Dig

def lenV (S : Int × Int) : Value := .tuple #[.int .i64 S.2, .int .i64 S.1]
set_option maxHeartbeats 4000000 in
set_option maxRecDepth 100000 in
theorem refLength_any (M P Q : ByteArray) (v : Value) (Y : ByteArray) (c : Bool) (hs : List Hdr) (w : World) (hv : RowsH v hs w) (hl : hs.length ≤ 16) (hb : ∀ h ∈ hs, h.value.length ≤ 1000) :
    Calls Tryz.prog 25 #[reqV M P Q v Y c] w fun e w' => e = .returned (lenV (sizeL hs)) ∧ Below w.heap.size w w' := by
  obtain ⟨o, cp, hve, -⟩ := id hv
  subst hve
  obtain ⟨S, hS⟩ : ∃ S, S = sizeL hs := ⟨_, rfl⟩
  have q1 : getN hs hostN ≠ 1 → S = (400, 0) := fun h => by rw [hS]; exact size_host h
  have q2 : getN hs hostN = 1 → 0 < getN hs teN → getN hs clN ≠ 0 → S = (400, 0) := fun h h2 h3 => by rw [hS]; exact size_both h h2 h3
  have q3 : getN hs hostN = 1 → getN hs teN = 1 → getN hs clN = 0 → smallL (getV hs teN) = chunkedV → S = (200, -1) := fun h h2 h3 h4 => by rw [hS]; exact size_chunked h h2 h3 h4
  have q4 : getN hs hostN = 1 → 0 < getN hs teN → getN hs clN = 0 → ¬ (getN hs teN = 1 ∧ smallL (getV hs teN) = chunkedV) → S = (501, 0) := fun h h2 h3 h4 => by rw [hS]; exact size_other h h2 h3 h4
  have q5 : getN hs hostN = 1 → getN hs teN = 0 → getN hs clN = 0 → S = (200, 0) := fun h h2 h3 => by rw [hS]; exact size_none h h2 h3
  have q6 : getN hs hostN = 1 → getN hs teN = 0 → 0 < getN hs clN → ¬ (getN hs clN = 1 ∧ getV hs clN ≠ [] ∧ (getV hs clN).length ≤ 9 ∧ (getV hs clN).all digit = true) → S = (400, 0) := fun h h2 h3 h4 => by rw [hS]; exact size_bad h h2 h3 h4
  have q7 : getN hs hostN = 1 → getN hs teN = 0 → 0 < getN hs clN → (getN hs clN = 1 ∧ getV hs clN ≠ [] ∧ (getV hs clN).length ≤ 9 ∧ (getV hs clN).all digit = true) → ¬ valD (getV hs clN) ≤ 1000 → S = (413, 0) := fun h h2 h3 h4 h5 => by rw [hS]; exact size_long h h2 h3 h4 h5
  have q8 : getN hs hostN = 1 → getN hs teN = 0 → 0 < getN hs clN → (getN hs clN = 1 ∧ getV hs clN ≠ [] ∧ (getV hs clN).length ≤ 9 ∧ (getV hs clN).all digit = true) → valD (getV hs clN) ≤ 1000 → S = (200, (valD (getV hs clN) : Int)) := fun h h2 h3 h4 h5 => by rw [hS]; exact size_len h h2 h3 h4 h5
  rw [← hS]
  clear hS
  have hg1 := fun W (h : Below w.heap.size w W) => refGet_any M P Q (.slice o hs.length cp) Y c hs ⟨#[104, 111, 115, 116]⟩ W (hv.keep h) (by omega)
  have hg2 := fun W (h : Below w.heap.size w W) => refGet_any M P Q (.slice o hs.length cp) Y c hs ⟨#[116, 114, 97, 110, 115, 102, 101, 114, 45, 101, 110, 99, 111, 100, 105, 110, 103]⟩ W (hv.keep h) (by omega)
  have hg3 := fun W (h : Below w.heap.size w W) => refGet_any M P Q (.slice o hs.length cp) Y c hs ⟨#[99, 111, 110, 116, 101, 110, 116, 45, 108, 101, 110, 103, 116, 104]⟩ W (hv.keep h) (by omega)
  rw [show (⟨#[104, 111, 115, 116]⟩ : ByteArray).data.toList = hostN from rfl] at hg1
  rw [show (⟨#[116, 114, 97, 110, 115, 102, 101, 114, 45, 101, 110, 99, 111, 100, 105, 110, 103]⟩ : ByteArray).data.toList = teN from rfl] at hg2
  rw [show (⟨#[99, 111, 110, 116, 101, 110, 116, 45, 108, 101, 110, 103, 116, 104]⟩ : ByteArray).data.toList = clN from rfl] at hg3
  have b1 := getN_le hs hostN
  have b2 := getN_le hs teN
  have b3 := getN_le hs clN
  have l2 := getV_len hb teN
  have l3 := getV_len hb clN
  obtain ⟨V1, hV1⟩ : ∃ X : ByteArray, X = ⟨(getV hs hostN).toArray⟩ := ⟨_, rfl⟩
  obtain ⟨V2, hV2⟩ : ∃ X : ByteArray, X = ⟨(getV hs teN).toArray⟩ := ⟨_, rfl⟩
  obtain ⟨V3, hV3⟩ : ∃ X : ByteArray, X = ⟨(getV hs clN).toArray⟩ := ⟨_, rfl⟩
  have d2 : V2.data.toList = getV hs teN := by rw [hV2]
  have d3 : V3.data.toList = getV hs clN := by rw [hV3]
  simp only [bs] at hg1 hg2 hg3
  rw [← hV1] at hg1
  rw [← hV2] at hg2
  rw [← hV3] at hg3
  rw [← d2] at q3 q4 l2
  rw [← d3] at q6 q7 q8 l3
  rw [size_data] at l2 l3
  obtain ⟨n1, hn1⟩ : ∃ n, n = getN hs hostN := ⟨_, rfl⟩
  obtain ⟨n2, hn2⟩ : ∃ n, n = getN hs teN := ⟨_, rfl⟩
  obtain ⟨n3, hn3⟩ : ∃ n, n = getN hs clN := ⟨_, rfl⟩
  rw [← hn1] at hg1 b1 q1 q2 q3 q4 q5 q6 q7 q8
  rw [← hn2] at hg2 b2 q2 q3 q4 q5 q6 q7 q8
  rw [← hn3] at hg3 b3 q2 q3 q4 q5 q6 q7 q8
  have Q1 := Lib.hid q1
  have Q2 := Lib.hid q2
  have Q3 := Lib.hid q3
  have Q4 := Lib.hid q4
  have Q5 := Lib.hid q5
  have Q6 := Lib.hid q6
  have Q7 := Lib.hid q7
  have Q8 := Lib.hid q8
  have G1 := Lib.hid hg1
  have G2 := Lib.hid hg2
  have G3 := Lib.hid hg3
  have x0 : RqAt w.heap.size #[.string M, .string P, .string Q, .slice o hs.length cp, .string Y, .bool c] (w.alloc (.cells #[.string M, .string P, .string Q, .slice o hs.length cp, .string Y, .bool c] 25)) := new_at w _ _
  have hb0 := below_alloc w (.cells #[.string M, .string P, .string Q, .slice o hs.length cp, .string Y, .bool c] 25)
  clear q1 q2 q3 q4 q5 q6 q7 q8 hg1 hg2 hg3 hV1 hV2 hV3 hn1 hn2 hn3 hb hv d2 d3
  go_enter Tryz.func25, Tryz.ntmps25
  go_wp2_with (go_at_call 13; (with_reducible refine (G1.out _ hb0).mono ?_); rintro e w1 ⟨rfl, hb1⟩; refine Hid.out ?_)
  refine Lib.hid ?_
  have x1 := keep_at x0 hb1
  have B1 := below_then hb0 hb1
  obtain ⟨y0, y1, y2, y3, y4, y5⟩ := cells6 x1
  clear x0 hb0 hb1 G1
  by_cases c1 : n1 = 1
  · have z1 : ((n1 : Int) == 1) = true := by rw [beq_iff_eq]; omega
    go_wp2_with (go_at_call 13; (with_reducible refine (G2.out _ B1).mono ?_); rintro e w2 ⟨rfl, hb2⟩; refine Hid.out ?_)
    refine Lib.hid ?_
    have x2 := keep_at x1 hb2
    have B2 := below_then B1 hb2
    clear y0 y1 y2 y3 y4 y5 x1 B1 hb2 G2
    obtain ⟨y0, y1, y2, y3, y4, y5⟩ := cells6 x2
    go_wp2_with (go_at_call 13; (with_reducible refine (G3.out _ B2).mono ?_); rintro e w3 ⟨rfl, hb3⟩; refine Hid.out ?_)
    refine Lib.hid ?_
    have B3 := below_then B2 hb3
    clear y0 y1 y2 y3 y4 y5 x2 B2 hb3 G3
    by_cases c2 : n2 = 0
    · subst c2
      by_cases c3 : n3 = 0
      · subst c3
        have HV := Lib.hid (Q5.out c1 rfl rfl)
        clear Q1 Q2 Q3 Q4 Q5 Q6 Q7 Q8 c1
        go_wp2_with fail
        go_ret2
        exact ⟨by rw [HV.out]; rfl, B3⟩
      · have z3 : ((n3 : Int) == 0) = false := by rw [beq_eq_false_iff_ne]; omega
        by_cases c4 : n3 = 1
        · subst c4
          by_cases c5 : V3.size = 0
          · have hnil : V3.data.toList = [] := List.length_eq_zero_iff.1 (by rw [size_data]; exact c5)
            have HV := Lib.hid (Q6.out c1 rfl (by decide) (by rintro ⟨_, h, _⟩; exact h hnil))
            have z5 : (V3.size : Int) < 1 := by omega
            clear Q1 Q2 Q3 Q4 Q5 Q6 Q7 Q8 c1 c5 hnil z3 c3
            go_wp2_with fail
            go_ret2
            exact ⟨by rw [HV.out]; rfl, B3⟩
          · have hne : V3.data.toList ≠ [] := fun e => c5 (by rw [← size_data, e]; rfl)
            have z5 : ¬ (V3.size : Int) < 1 := by omega
            by_cases c6 : 9 < V3.size
            · have z6' : (9 : Int) < (V3.size : Int) := by omega
              have HV := Lib.hid (Q6.out c1 rfl (by decide) (by rintro ⟨_, _, h, _⟩; rw [size_data] at h; omega))
              clear Q1 Q2 Q3 Q4 Q5 Q6 Q7 Q8 c1 c5 hne z3 c3
              go_wp2_with fail
              go_ret2
              exact ⟨by rw [HV.out]; rfl, B3⟩
            · have z6' : ¬ (9 : Int) < (V3.size : Int) := by omega
              have hS : S = if (V3.data.toList.drop 0).all digit = true then (if valFrom 0 (V3.data.toList.drop 0) ≤ 1000 then (200, ((valFrom 0 (V3.data.toList.drop 0) : Nat) : Int)) else (413, 0)) else (400, 0) := by
                rw [List.drop_zero]
                by_cases h : V3.data.toList.all digit = true
                · rw [if_pos h]
                  by_cases h2 : valD V3.data.toList ≤ 1000
                  · have := Q8.out c1 rfl (by decide) ⟨rfl, hne, by rw [size_data]; omega, h⟩ h2
                    rw [this, if_pos (show valFrom 0 V3.data.toList ≤ 1000 from h2)]
                    rfl
                  · have := Q7.out c1 rfl (by decide) ⟨rfl, hne, by rw [size_data]; omega, h⟩ h2
                    rw [this, if_neg (show ¬ valFrom 0 V3.data.toList ≤ 1000 from h2)]
                · rw [if_neg h]
                  exact Q6.out c1 rfl (by decide) (by rintro ⟨_, _, _, h'⟩; exact h h')
              have HS := Lib.hid hS
              clear Q1 Q2 Q3 Q4 Q5 Q6 Q7 Q8 c1 c5 hne z3 c3 hS
              go_wp2_with fail
              go_loop [10, 11] (fun n i => ∃ k m : Nat, k ≤ V3.size ∧ m < 10 ^ k ∧ n = .int .i64 m ∧ i = .int .i64 k ∧ Hid (S = if (V3.data.toList.drop k).all digit = true then (if valFrom m (V3.data.toList.drop k) ≤ 1000 then (200, ((valFrom m (V3.data.toList.drop k) : Nat) : Int)) else (413, 0)) else (400, 0))) (fun _ i => V3.size - (intOf i).toNat)
              case atStart => exact ⟨0, 0, by omega, by decide, rfl, rfl, HS⟩
              case round =>
                clear HS
                obtain ⟨k, m, hk, hm, rfl, rfl, hres⟩ := hrel
                by_cases hlt : k < V3.size
                · have hlt' : (k : Int) < (V3.size : Int) := by omega
                  have hm9 : m < 100000000 := by
                    have hp : 10 ^ k ≤ 10 ^ 8 := Nat.pow_le_pow_right (by decide) (by omega)
                    omega
                  have hv := hres.out
                  have hx := run_at V3 k (V3[k]'hlt) (by rw [List.getElem?_eq_getElem (by rw [size_data]; exact hlt)]; rfl)
                  have hD := fun W => refDigit_any (V3[k]'hlt) _ rfl W
                  rw [drop_at V3 k hlt, List.all_cons, valFrom_cons] at hv
                  by_cases ht : digit (V3[k]'hlt) = true
                  · have hdn := ht
                    rw [digitN_nat] at hdn
                    have hdn := of_decide_eq_true hdn
                    rw [ht] at hD hv
                    rw [Bool.true_and] at hv
                    generalize V3[k]'hlt = d at *
                    generalize d.toNat = t at *
                    have HV := Lib.hid hv
                    have hpow : 10 ^ (k + 1) = 10 * 10 ^ k := by rw [Nat.pow_succ, Nat.mul_comm]
                    have hmv : 10 * m + (t - 48) < 10 ^ (k + 1) := by rw [hpow]; omega
                    have e1 : 10 * (m : Int) + ((t : Int) - 48) = ((10 * m + (t - 48) : Nat) : Int) := by omega
                    obtain ⟨t1, t2⟩ := hdn
                    clear hres hv ht hpow hm
                    go_wp2_with (go_at_call 58; (with_reducible refine (hD _).mono ?_); rintro e w4 ⟨rfl, rfl⟩)
                    go_round
                    case rel => exact ⟨k + 1, 10 * m + (t - 48), by omega, hmv, by first | rfl | (congr 1; omega), by go_num, HV⟩
                    case measure => simp [intOf]; omega
                  · have ht' : digit (V3[k]'hlt) = false := by simpa using ht
                    rw [ht'] at hD hv
                    rw [Bool.false_and, if_neg (by decide)] at hv
                    generalize V3[k]'hlt = d at *
                    subst hv
                    clear hres ht ht'
                    go_wp2_with (go_at_call 58; (with_reducible refine (hD _).mono ?_); rintro e w4 ⟨rfl, rfl⟩)
                    go_ret2
                    exact ⟨rfl, B3⟩
                · obtain rfl : k = V3.size := by omega
                  have hv := hres.out
                  have hdn : V3.data.toList.drop V3.size = [] := List.drop_eq_nil_of_le (by rw [size_data]; exact Nat.le_refl _)
                  rw [hdn, List.all_nil, if_pos rfl, valFrom_nil] at hv
                  have hm9 : m < 1000000000 := by
                    have hp : 10 ^ V3.size ≤ 10 ^ 9 := Nat.pow_le_pow_right (by decide) (by omega)
                    omega
                  clear hres hdn hm
                  by_cases h1k : m ≤ 1000
                  · have z7 : ¬ (1000 : Int) < (m : Int) := by omega
                    rw [if_pos h1k] at hv
                    have HV := Lib.hid hv
                    clear hv
                    go_wp2_with fail
                    go_ret2
                    exact ⟨by rw [HV.out]; rfl, B3⟩
                  · have z7 : (1000 : Int) < (m : Int) := by omega
                    rw [if_neg h1k] at hv
                    have HV := Lib.hid hv
                    clear hv
                    go_wp2_with fail
                    go_ret2
                    exact ⟨by rw [HV.out]; rfl, B3⟩
        · have z4 : (1 : Int) < (n3 : Int) := by omega
          have HV := Lib.hid (Q6.out c1 rfl (by omega) (by rintro ⟨h, _⟩; exact c4 h))
          clear Q1 Q2 Q3 Q4 Q5 Q6 Q7 Q8 c1
          go_wp2_with fail
          go_ret2
          exact ⟨by rw [HV.out]; rfl, B3⟩
    · have z2' : (0 : Int) < (n2 : Int) := by omega
      by_cases c3 : n3 = 0
      · subst c3
        by_cases c4 : n2 = 1
        · subst c4
          obtain ⟨X, hX⟩ : ∃ X : ByteArray, X = ⟨(smallL V2.data.toList).toArray⟩ := ⟨_, rfl⟩
          have hsm := fun W => refSmall_any V2 X hX W (by omega)
          have hXd : X.data.toList = smallL V2.data.toList := by rw [hX]
          by_cases c5 : smallL V2.data.toList = chunkedV
          · have gX : X.toList = [99, 104, 117, 110, 107, 101, 100] := by rw [Lib.toList_data, hXd]; exact c5
            have HV := Lib.hid (Q3.out c1 rfl rfl c5)
            clear Q1 Q2 Q3 Q4 Q5 Q6 Q7 Q8 c1 hX hXd c5 c2
            go_wp2_with (go_at_call 56; (with_reducible refine (hsm _).mono ?_); rintro e w4 ⟨rfl, hb4⟩)
            go_ret2
            exact ⟨by rw [HV.out]; rfl, below_then B3 hb4⟩
          · have gX : ¬ X.toList = [99, 104, 117, 110, 107, 101, 100] := by rw [Lib.toList_data, hXd]; exact c5
            have gX' : (X.toList == [99, 104, 117, 110, 107, 101, 100]) = false := beq_eq_false_iff_ne.2 gX
            have HV := Lib.hid (Q4.out c1 (by decide) rfl (by rintro ⟨_, h⟩; exact c5 h))
            clear Q1 Q2 Q3 Q4 Q5 Q6 Q7 Q8 c1 hX hXd c5 c2
            go_wp2_with (go_at_call 56; (with_reducible refine (hsm _).mono ?_); rintro e w4 ⟨rfl, hb4⟩)
            go_ret2
            exact ⟨by rw [HV.out]; rfl, below_then B3 hb4⟩
        · have z4 : (1 : Int) < (n2 : Int) := by omega
          have HV := Lib.hid (Q4.out c1 (by omega) rfl (by rintro ⟨h, _⟩; exact c4 h))
          clear Q1 Q2 Q3 Q4 Q5 Q6 Q7 Q8 c1
          go_wp2_with fail
          go_ret2
          exact ⟨by rw [HV.out]; rfl, B3⟩
      · have z3 : (0 : Int) < (n3 : Int) := by omega
        have HV := Lib.hid (Q2.out c1 (by omega) c3)
        clear Q1 Q2 Q3 Q4 Q5 Q6 Q7 Q8 c1
        go_wp2_with fail
        go_ret2
        exact ⟨by rw [HV.out]; rfl, B3⟩
  · have z1 : ((n1 : Int) == 1) = false := by rw [beq_eq_false_iff_ne]; omega
    have z1' : ¬ (n1 : Int) = 1 := by omega
    have HV := Lib.hid (Q1.out c1)
    clear Q1 Q2 Q3 Q4 Q5 Q6 Q7 Q8 c1
    go_wp2_with fail
    go_ret2
    exact ⟨by rw [HV.out]; rfl, B1⟩
end Go.Proofs.YtcgeiimihihhpaaGreatDoor.W18

namespace Go.Proofs.YtcgeiimihihhpaaGreatDoor.W18
open Go Go.RowKit P12 P18

def cellsS (l : List P12.By) : List Value := l.map bs
theorem cellsS_snoc (l : List P12.By) (p : P12.By) : cellsS (l ++ [p]) = cellsS l ++ [bs p] := by simp [cellsS]
theorem infoS : (Tryz.prog.info? 9).map (fun i => (i.zero, i.size, i.bytes)) = some (some (.string ⟨#[]⟩), 1, 16) := by kernel_rfl

/-- A slice of texts, as a value in a world. -/
def Strs (v : Value) (l : List P12.By) (w : World) : Prop :=
  ∃ o c, v = .slice o l.length c ∧ (l = [] ∨ ∃ g off, o = some ⟨g, off, none⟩ ∧ ∀ (j : Nat) (p : P12.By), l[j]? = some p → w.cell? ⟨g, off + j, none⟩ = some (bs p))
theorem Strs.keep {v : Value} {l : List P12.By} {w w' : World} (h : Strs v l w) (hb : RowKit.Below w.heap.size w w') : Strs v l w' := by
  obtain ⟨o, c, h1, h2⟩ := h
  refine ⟨o, c, h1, ?_⟩
  rcases h2 with h2 | ⟨g, off, h2, h3⟩
  · exact .inl h2
  · exact .inr ⟨g, off, h2, fun j p hj => keep_cell hb (h3 j p hj)⟩
theorem strs_own {w : World} {B : Nat} {v : Value} {l : List P12.By} (h : w.ownsRow B 9 1 v l.length (cellsS l)) : Strs v l w := by
  rcases h.2 with ⟨hv, hn⟩ | ⟨g, cap, cur, hv, _⟩
  · have : l = [] := List.length_eq_zero_iff.1 (by omega)
    subst this
    exact ⟨none, 0, hv, .inl rfl⟩
  · subst hv
    refine ⟨some ⟨g, 0, none⟩, cap, rfl, .inr ⟨g, 0, rfl, fun j p hj => ?_⟩⟩
    have := h.cells (g := g) rfl j (bs p) (by simp [cellsS, hj])
    rw [Lib.add_plain] at this
    simpa using this
theorem seg_data (s : ByteArray) (f k : Nat) (_hk : k ≤ s.size) : (s.extract f k).data.toList = (s.data.toList.drop f).take (k - f) := by simp
theorem seg_split (s : ByteArray) (f k : Nat) (hf : f ≤ k) (hk : k < s.size) : s.data.toList.drop f = (s.extract f k).data.toList ++ (s[k]'hk) :: s.data.toList.drop (k + 1) := by
  rw [seg_data s f k (by omega), ← drop_at s k hk]
  have := List.take_append_drop (k - f) (s.data.toList.drop f)
  rw [List.drop_drop, show f + (k - f) = k by omega] at this
  exact this.symm
theorem seg_last (s : ByteArray) (f : Nat) (_hf : f ≤ s.size) : s.data.toList.drop f = (s.extract f s.size).data.toList := by
  rw [seg_data s f s.size (Nat.le_refl _), List.take_of_length_le]
  rw [List.length_drop, size_data]
  exact Nat.le_refl _

/-- How far the cutting is: what is out, where the part under way begins. -/
def CutAt (c : UInt8) (s : ByteArray) (k f : Nat) (L : List P12.By) : Prop :=
  (k ≤ s.size ∧ f ≤ k ∧ partsL c s.data.toList = L ++ partsL c (s.data.toList.drop f) ∧ c ∉ (s.data.toList.drop f).take (k - f) ∧ L.length ≤ k) ∨ (k = s.size + 1 ∧ partsL c s.data.toList = L ∧ f = k)
theorem cut_start (c : UInt8) (s : ByteArray) : CutAt c s 0 0 [] := .inl ⟨by omega, by omega, by simp, by simp, by simp⟩
theorem cut_miss {c : UInt8} {s : ByteArray} {k f : Nat} {L : List P12.By} (h : CutAt c s k f L) (hk : k < s.size) (hc : s[k]'hk ≠ c) : CutAt c s (k + 1) f L := by
  rcases h with ⟨h1, h2, h3, h4, h5⟩ | ⟨h1, _⟩
  · refine .inl ⟨by omega, by omega, h3, ?_, by omega⟩
    rw [seg_split s f k h2 hk]
    have hl : (s.extract f k).data.toList.length = k - f := by rw [seg_data s f k (by omega), List.length_take, List.length_drop, size_data]; omega
    rw [show k + 1 - f = (s.extract f k).data.toList.length + 1 by omega, List.take_append]
    simp only [List.take_of_length_le (Nat.le_succ (s.extract f k).data.toList.length), Nat.add_sub_cancel_left, List.take_succ_cons, List.take_zero, List.mem_append, List.mem_singleton, not_or]
    refine ⟨?_, fun e => hc e.symm⟩
    rw [seg_data s f k (by omega)]
    exact h4
  · omega
theorem cut_hit {c : UInt8} {s : ByteArray} {k f : Nat} {L : List P12.By} (h : CutAt c s k f L) (hk : k < s.size) (hc : s[k]'hk = c) : CutAt c s (k + 1) (k + 1) (L ++ [(s.extract f k).data.toList]) := by
  rcases h with ⟨h1, h2, h3, h4, h5⟩ | ⟨h1, _⟩
  · refine .inl ⟨by omega, by omega, ?_, by simp, by simp; omega⟩
    have hsp := seg_split s f k h2 hk
    rw [hc] at hsp
    rw [h3, hsp, partsL_at (by rw [seg_data s f k (by omega)]; exact h4)]
    simp
  · omega
theorem cut_end {c : UInt8} {s : ByteArray} {f : Nat} {L : List P12.By} (h : CutAt c s s.size f L) : CutAt c s (s.size + 1) (s.size + 1) (L ++ [(s.extract f s.size).data.toList]) := by
  rcases h with ⟨h1, h2, h3, h4, h5⟩ | ⟨h1, _⟩
  · refine .inr ⟨rfl, ?_, rfl⟩
    have hsp := seg_last s f h2
    rw [h3, hsp, partsL_free (by rw [seg_data s f _ (by omega)]; exact h4)]
  · omega

set_option maxHeartbeats 3200000 in
set_option maxRecDepth 100000 in
theorem refCut_any (s : ByteArray) (c : UInt8) (w : World) (hs : s.size ≤ 1000000000000) :
    Calls Tryz.prog 59 #[.string s, .int .u8 (c.toNat : Nat)] w fun e w' => ∃ v, e = .returned v ∧ Strs v (partsL c s.data.toList) w' ∧ Below w.heap.size w w' := by
  obtain ⟨i0, hi, hz0, hz1, hz2⟩ := info_parts infoS
  go_enter Tryz.func59, Tryz.ntmps59
  go_wp2_with fail
  go_loopw [5, 6, 7] (fun v fr i wr => ∃ (k f : Nat) (L : List P12.By), k ≤ s.size + 1 ∧ f ≤ k ∧ i = .int .i64 k ∧ fr = .int .i64 f ∧ L.length ≤ k ∧ Hid (CutAt c s k f L) ∧ wr.ownsRow w.heap.size 9 1 v L.length (cellsS L) ∧ Below w.heap.size w wr) (fun _ _ i _ => s.size + 1 - (intOf i).toNat)
  case atStart => exact ⟨0, 0, [], by omega, by omega, rfl, rfl, by simp, Lib.hid (cut_start c s), World.ownsRow_nil _ _ _ _, Below.refl _ _⟩
  case round =>
    obtain ⟨k, f, L, hk, hf, rfl, rfl, hL, hC, hI, hB⟩ := hrel
    have hBs := hB.size
    by_cases hlt : k < s.size
    · have hlt' : (k : Int) < (s.size : Int) := by omega
      have hle : (k : Int) ≤ (s.size : Int) := by omega
      have hne : ((k : Int) == (s.size : Int)) = false := by rw [beq_eq_false_iff_ne]; omega
      by_cases hc : s[k]'hlt = c
      · have hz : (((s[k]'hlt).toNat : Int) == (c.toNat : Int)) = true := by rw [hc]; simp
        have hCn := cut_hit hC.out hlt hc
        obtain ⟨p, hp⟩ : ∃ p, p = s.extract f k := ⟨_, rfl⟩
        rw [← hp] at hCn
        have HP := Lib.hid hp
        have HC := Lib.hid hCn
        clear hCn hp hc hC
        go_wp2_with (first
          | (rw [← HP.out])
          | (at_builtin; refine wpList_append_own _ rfl _ _ 56 rfl w.heap.size 9 i0 (.string ⟨#[]⟩) 1 16 Tryz.underlying56 hi hz0 hz1 hz2 rfl (by decide) _ _ _ rfl (hI.alloc _) ⟨wr.heap.size, 0, none⟩ 1 1 [.string p] rfl rfl ?c1 ?c2 ?c3 ?c4 ?c5 ?_))
        case c1 =>
          intro j u hj
          match j, hj with
          | 0, hj => simp at hj; subst hj; simp [Addr.add, HP.out]
        case c2 => intro u hu; simp at hu; subst hu; rfl
        case c3 => unfold maxLen; omega
        case c4 => omega
        case c5 => simp; omega
        intro v' w2 hown' hgrow _
        have hB2 : Below w.heap.size w w2 := ((hB.alloc (by omega) _).grown hgrow (by simp; omega) (fun j e => (hI.lt j e).1))
        clear hgrow hI
        go_wp2_with fail
        go_roundw
        case rel => exact ⟨k + 1, k + 1, L ++ [p.data.toList], by omega, by omega, by go_num, by go_num, by simp; omega, HC, by rw [cellsS_snoc, bs_data, List.length_append]; exact hown', hB2⟩
        case measure => simp [intOf]; omega
      · have hz : (((s[k]'hlt).toNat : Int) == (c.toNat : Int)) = false := by
          rw [beq_eq_false_iff_ne]
          intro e
          apply hc
          apply UInt8.toNat_inj.1
          omega
        have HC := Lib.hid (cut_miss hC.out hlt hc)
        clear hc hC
        go_wp2_with fail
        go_roundw
        case rel => exact ⟨k + 1, f, L, by omega, by omega, by go_num, rfl, by omega, HC, hI, hB⟩
        case measure => simp [intOf]; omega
    · by_cases hke : k = s.size
      · have hle : (k : Int) ≤ (s.size : Int) := by omega
        have hne : ((k : Int) == (s.size : Int)) = true := by rw [beq_iff_eq]; omega
        subst hke
        have hCn := cut_end hC.out
        obtain ⟨p, hp⟩ : ∃ p, p = s.extract f s.size := ⟨_, rfl⟩
        rw [← hp] at hCn
        have HP := Lib.hid hp
        have HC := Lib.hid hCn
        clear hCn hp hC
        go_wp2_with (first
          | (rw [← HP.out])
          | (at_builtin; refine wpList_append_own _ rfl _ _ 56 rfl w.heap.size 9 i0 (.string ⟨#[]⟩) 1 16 Tryz.underlying56 hi hz0 hz1 hz2 rfl (by decide) _ _ _ rfl (hI.alloc _) ⟨wr.heap.size, 0, none⟩ 1 1 [.string p] rfl rfl ?c1 ?c2 ?c3 ?c4 ?c5 ?_))
        case c1 =>
          intro j u hj
          match j, hj with
          | 0, hj => simp at hj; subst hj; simp [Addr.add, HP.out]
        case c2 => intro u hu; simp at hu; subst hu; rfl
        case c3 => unfold maxLen; omega
        case c4 => omega
        case c5 => simp; omega
        intro v' w2 hown' hgrow _
        have hB2 : Below w.heap.size w w2 := ((hB.alloc (by omega) _).grown hgrow (by simp; omega) (fun j e => (hI.lt j e).1))
        clear hgrow hI
        go_wp2_with fail
        go_roundw
        case rel => exact ⟨s.size + 1, s.size + 1, L ++ [p.data.toList], by omega, by omega, by go_num, by go_num, by simp; omega, HC, by rw [cellsS_snoc, bs_data, List.length_append]; exact hown', hB2⟩
        case measure => simp [intOf]
      · obtain rfl : k = s.size + 1 := by omega
        have hP : partsL c s.data.toList = L := by
          rcases hC.out with ⟨h1, _⟩ | ⟨_, h, _⟩
          · omega
          · exact h
        have HPL := Lib.hid hP
        have hSt := Lib.hid (strs_own hI)
        clear hP hC hI hke
        go_wp2_with fail
        go_ret
        exact ⟨_, rfl, by rw [HPL.out]; exact hSt.out, hB⟩
end Go.Proofs.YtcgeiimihihhpaaGreatDoor.W18

namespace Go.Proofs.YtcgeiimihihhpaaGreatDoor.W18
open Go Go.RowKit P12 P18

theorem rdropWhile_le (p : UInt8 → Bool) : ∀ l : P12.By, (l.dropWhile p).length ≤ l.length
  | [] => by simp
  | c :: l => by
    have := rdropWhile_le p l
    rw [List.dropWhile_cons]
    split
    · simp; omega
    · simp
theorem rtrim_le (l : P12.By) : (trimL l).length ≤ l.length := by
  unfold trimL
  rw [List.length_reverse]
  refine Nat.le_trans (rdropWhile_le _ _) ?_
  rw [List.length_reverse]
  exact rdropWhile_le _ _
theorem parts_len (c : UInt8) : ∀ s : P12.By, (partsL c s).length ≤ s.length + 1
  | [] => by simp [partsL]
  | d :: l => by
    have ih := parts_len c l
    by_cases hd : d = c
    · rw [partsL, if_pos hd]; simp; omega
    · rw [partsL_cons hd]
      cases hl : partsL c l with
      | nil => simp
      | cons q qs => rw [hl] at ih; simp at ih ⊢; omega
def pcl (p : P12.By) : Bool := decide (smallL (trimL p) = closeV)
theorem closeH_pcl (h : Hdr) : closeH h = (decide (h.name = connN) && (partsL 44 h.value).any pcl) := rfl
theorem drop_get2 {α : Type} {l : List α} {k : Nat} {x : α} (h : l[k]? = some x) : l.drop k = x :: l.drop (k + 1) := by
  obtain ⟨hk, e⟩ := List.getElem?_eq_some_iff.1 h
  rw [List.drop_eq_getElem_cons hk, e]
set_option maxHeartbeats 4000000 in
set_option maxRecDepth 100000 in
theorem refCloses_any (M P Q : ByteArray) (v : Value) (Y : ByteArray) (c : Bool) (hs : List Hdr) (w : World) (hv : RowsH v hs w) (hl : hs.length ≤ 16) (hb : ∀ h ∈ hs, h.value.length ≤ 1000) :
    Calls Tryz.prog 26 #[reqV M P Q v Y c] w fun e w' => e = .returned (.bool (closeL hs)) ∧ Below w.heap.size w w' := by
  obtain ⟨o, cp, hve, -⟩ := id hv
  subst hve
  obtain ⟨N, hN⟩ : ∃ N, N = hs.length := ⟨_, rfl⟩
  rw [← hN] at hv hl ⊢
  have HN := Lib.hid hN
  have HVL := Lib.hid hb
  obtain ⟨R, hR⟩ : ∃ R, R = closeL hs := ⟨_, rfl⟩
  rw [← hR]
  have HR := Lib.hid (show R = (hs.drop 0).any closeH by rw [hR, List.drop_zero]; rfl)
  have x0 : RqAt w.heap.size #[.string M, .string P, .string Q, .slice o N cp, .string Y, .bool c] (w.alloc (.cells #[.string M, .string P, .string Q, .slice o N cp, .string Y, .bool c] 25)) := new_at w _ _
  have hb0 := below_alloc w (.cells #[.string M, .string P, .string Q, .slice o N cp, .string Y, .bool c] 25)
  have hv0 := hv.keep hb0
  clear hR hN hb hv
  go_enter Tryz.func26, Tryz.ntmps26
  go_wp2_with fail
  go_loopw [3] (fun i wr => ∃ k : Nat, k ≤ N ∧ i = .int .i64 k ∧ Hid (R = (hs.drop k).any closeH) ∧ RqAt w.heap.size #[.string M, .string P, .string Q, .slice o N cp, .string Y, .bool c] wr ∧ RowsH (.slice o N cp) hs wr ∧ Below w.heap.size w wr) (fun i _ => N - (intOf i).toNat)
  case atStart => exact ⟨0, by omega, rfl, HR, x0, hv0, hb0⟩
  case round =>
    clear HR x0 hv0 hb0
    obtain ⟨k, hk, rfl, hres, x1, v1, B1⟩ := hrel
    obtain ⟨-, -, -, y3, -, -⟩ := cells6 x1
    by_cases hlt : k < N
    · have hkl : k < hs.length := by rw [← HN.out]; exact hlt
      obtain ⟨o', c', e', hcl⟩ := id v1
      injection e' with e1 e2 e3
      subst e1 e3
      obtain ⟨g, off, rfl, hcc⟩ := hcl.resolve_left (by rintro rfl; simp at hkl)
      obtain ⟨x, hx⟩ : ∃ x, hs[k]? = some x := ⟨hs[k]'hkl, List.getElem?_eq_getElem _⟩
      have y0 := (hcc k x hx).1
      have y1 := (hcc k x hx).2
      have hlt' : (k : Int) < (N : Int) := by omega
      obtain ⟨A, hA⟩ : ∃ A : ByteArray, A = ⟨x.name.toArray⟩ := ⟨_, rfl⟩
      obtain ⟨B, hB⟩ : ∃ A : ByteArray, A = ⟨x.value.toArray⟩ := ⟨_, rfl⟩
      simp only [bs] at y0 y1
      rw [← hA] at y0
      rw [← hB] at y1
      have hAd : A.data.toList = x.name := by rw [hA]
      have hBd : B.data.toList = x.value := by rw [hB]
      have hBs : B.size ≤ 1000 := by rw [← size_data, hBd]; exact HVL.out x (List.mem_of_getElem? hx)
      have hnx := hres.out
      rw [drop_get2 hx, List.any_cons, closeH_pcl, ← hAd, ← hBd] at hnx
      clear hcl hcc hA hB hAd hBd hx hres e2
      by_cases hc : A.data.toList = connN
      · have gA : A.toList = [99, 111, 110, 110, 101, 99, 116, 105, 111, 110] := by rw [Lib.toList_data]; exact hc
        rw [decide_eq_true hc, Bool.true_and] at hnx
        have hcut : ∀ W, Calls Tryz.prog 59 #[.string B, .int .u8 44] W fun e w' => ∃ v, e = .returned v ∧ Strs v (partsL 44 B.data.toList) w' ∧ Below W.heap.size W w' := fun W => refCut_any B 44 W (by omega)
        have hpl : ∀ p ∈ partsL 44 B.data.toList, p.length ≤ 1000 := fun p hp => by
          have := parts_le hp
          rw [size_data] at this
          omega
        have hpn := parts_len 44 B.data.toList
        rw [size_data] at hpn
        obtain ⟨PS, hPS⟩ : ∃ PS, PS = partsL 44 B.data.toList := ⟨_, rfl⟩
        rw [← hPS] at hnx hcut hpl hpn
        have HNX := Lib.hid hnx
        have HPL := Lib.hid hpl
        clear hPS hnx hpl hc
        go_wp2_with (go_at_call 59; (with_reducible refine (hcut _).mono ?_); rintro e w2 ⟨vl, rfl, hst, hb2⟩; refine Hid.out ?_)
        refine Lib.hid ?_
        have x2 := keep_at x1 hb2
        have v2 := v1.keep hb2
        have B2 := below_then B1 hb2
        clear hcut x1 v1 B1 hb2 y0 y1 y3
        obtain ⟨o2, c2, rfl, -⟩ := id hst
        obtain ⟨L, hL⟩ : ∃ L, L = PS.length := ⟨_, rfl⟩
        rw [← hL] at hst
        rw [← hL]
        have HL := Lib.hid hL
        have HR2 := Lib.hid (show R = ((PS.drop 0).any pcl || (hs.drop (k + 1)).any closeH) by rw [HNX.out, List.drop_zero])
        have hL48 : L ≤ 1001 := by omega
        clear hL HNX hpn
        go_wp2_with fail
        go_loopw [5] (fun i wr => ∃ j : Nat, j ≤ L ∧ i = .int .i64 j ∧ Hid (R = ((PS.drop j).any pcl || (hs.drop (k + 1)).any closeH)) ∧ RqAt w.heap.size #[.string M, .string P, .string Q, .slice (some ⟨g, off, none⟩) N cp, .string Y, .bool c] wr ∧ RowsH (.slice (some ⟨g, off, none⟩) N cp) hs wr ∧ Strs (.slice o2 L c2) PS wr ∧ Below w.heap.size w wr) (fun i _ => L - (intOf i).toNat)
        case atStart => exact ⟨0, by omega, rfl, HR2, x2, v2, hst, B2⟩
        case round =>
          clear HR2 x2 v2 hst B2
          obtain ⟨j, hj, rfl, hres, x2, v2, hst, B2⟩ := hrel
          by_cases hjl : j < L
          · have hjl' : (j : Int) < (L : Int) := by omega
            have hjp : j < PS.length := by rw [← HL.out]; exact hjl
            obtain ⟨o3, c3, e3, hcl⟩ := id hst
            injection e3 with f1 f2 f3
            subst f1 f3
            obtain ⟨g2, off2, rfl, hcc⟩ := hcl.resolve_left (by rintro rfl; simp at hjp)
            obtain ⟨p, hp⟩ : ∃ p, PS[j]? = some p := ⟨PS[j]'hjp, List.getElem?_eq_getElem _⟩
            have y0 := hcc j p hp
            obtain ⟨A, hA⟩ : ∃ A : ByteArray, A = ⟨p.toArray⟩ := ⟨_, rfl⟩
            simp only [bs] at y0
            rw [← hA] at y0
            have hAd : A.data.toList = p := by rw [hA]
            have hAs : A.size ≤ 1000 := by rw [← size_data, hAd]; exact HPL.out p (List.mem_of_getElem? hp)
            obtain ⟨T, hT⟩ : ∃ X : ByteArray, X = ⟨(trimL A.data.toList).toArray⟩ := ⟨_, rfl⟩
            obtain ⟨S, hS⟩ : ∃ X : ByteArray, X = ⟨(smallL T.data.toList).toArray⟩ := ⟨_, rfl⟩
            have hTs : T.size ≤ 1000 := by
              rw [hT, size_mk]
              exact Nat.le_trans (rtrim_le _) (by rw [size_data]; exact hAs)
            have htr := fun W => rtrim_any A T hT (by omega) W
            have hsm := fun W => refSmall_any T S hS W (by omega)
            have hSd : S.data.toList = smallL (trimL p) := by rw [hS, hT, ← hAd]
            have hv := hres.out
            rw [drop_get2 hp, List.any_cons] at hv
            clear hcl hcc hA hAd hp hT hS hres f2
            by_cases hcv : S.data.toList = closeV
            · have gS : S.toList = [99, 108, 111, 115, 101] := by rw [Lib.toList_data]; exact hcv
              have hpc : pcl p = true := by unfold pcl; rw [← hSd]; exact decide_eq_true hcv
              rw [hpc, Bool.true_or, Bool.true_or] at hv
              subst hv
              clear hcv hSd hpc
              go_wp2_with (first
                | (go_at_call 57; (with_reducible refine (htr _).mono ?_); rintro e w3 ⟨rfl, rfl⟩)
                | (go_at_call 56; (with_reducible refine (hsm _).mono ?_); rintro e w3 ⟨rfl, hb3⟩))
              go_ret
              exact ⟨rfl, below_then B2 hb3⟩
            · have gS : ¬ S.toList = [99, 108, 111, 115, 101] := by rw [Lib.toList_data]; exact hcv
              have gS' : (S.toList == [99, 108, 111, 115, 101]) = false := beq_eq_false_iff_ne.2 gS
              have hpc : pcl p = false := by unfold pcl; rw [← hSd]; exact decide_eq_false hcv
              rw [hpc, Bool.false_or] at hv
              have HV := Lib.hid hv
              clear hcv hSd hpc hv
              go_wp2_with (first
                | (go_at_call 57; (with_reducible refine (htr _).mono ?_); rintro e w3 ⟨rfl, rfl⟩)
                | (go_at_call 56; (with_reducible refine (hsm _).mono ?_); rintro e w3 ⟨rfl, hb3⟩))
              go_roundw
              case rel => exact ⟨j + 1, by omega, by go_num, HV, keep_at x2 hb3, v2.keep hb3, hst.keep hb3, below_then B2 hb3⟩
              case measure => simp [intOf]; omega
          · obtain rfl : j = L := by omega
            have hv := hres.out
            have hdn : PS.drop j = [] := List.drop_eq_nil_of_le (by rw [HL.out]; exact Nat.le_refl _)
            rw [hdn, List.any_nil, Bool.false_or] at hv
            have HV := Lib.hid hv
            clear hres hv hdn
            go_wp2_with fail
            go_roundw
            case rel => exact ⟨k + 1, by omega, by go_num, HV, x2, v2, B2⟩
            case measure => simp [intOf]; omega
      · have gA : ¬ A.toList = [99, 111, 110, 110, 101, 99, 116, 105, 111, 110] := by rw [Lib.toList_data]; exact hc
        have gA' : (A.toList == [99, 111, 110, 110, 101, 99, 116, 105, 111, 110]) = false := beq_eq_false_iff_ne.2 gA
        rw [decide_eq_false hc, Bool.false_and, Bool.false_or] at hnx
        have HNX := Lib.hid hnx
        clear hnx hc
        go_wp2_with fail
        go_roundw
        case rel => exact ⟨k + 1, by omega, by go_num, HNX, x1, v1, B1⟩
        case measure => simp [intOf]; omega
    · obtain rfl : k = N := by omega
      have hv := hres.out
      have hdn : hs.drop k = [] := List.drop_eq_nil_of_le (by rw [HN.out]; exact Nat.le_refl _)
      rw [hdn, List.any_nil] at hv
      subst hv
      clear hres hdn
      go_wp2_with fail
      go_ret
      exact ⟨rfl, B1⟩
end Go.Proofs.YtcgeiimihihhpaaGreatDoor.W18
