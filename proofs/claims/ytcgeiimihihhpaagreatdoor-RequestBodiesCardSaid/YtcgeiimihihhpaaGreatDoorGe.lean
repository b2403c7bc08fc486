/-
  Walks of layer 18: Get, of the program and of the reference. Conditions: the headers' cells hold them; they are few.
  Walks of layer 18: the head as a whole; bytes taken. Conditions: the text is within Go's own limit, the reader stands within it; the headers' cells hold them.
  Walks of layer 18: bytes taken. Conditions: the text is within Go's own limit, the reader stands within it.
  Walks of layer 18: strconv.ParseInt at one to four hexadecimal digits. No condition beside.
-/
import Derived.Test.YtcgeiimihihhpaaGreatDoorGd
import Derived.Test.YtcgeiimihihhpaaGreatDoorGa
import Derived.StillTailTactics
import Derived.Lib.ConvBytes
import Derived.Lib.AppendIntMem

namespace Go.Proofs.YtcgeiimihihhpaaGreatDoor.W18
open Go Go.RowKit P12 P18

abbrev reqV (M P Q : ByteArray) (v : Value) (Y : ByteArray) (c : Bool) : Value := .agg #[.string M, .string P, .string Q, v, .string Y, .bool c]
theorem getH_snoc (l : List Hdr) (h : Hdr) (n : By) : getH (l ++ [h]) n = getH l n ++ (if h.name = n then [h.value] else []) := by
  unfold getH
  rw [List.filter_append, List.map_append]
  congr 1
  by_cases e : h.name = n <;> simp [e]
theorem getN_hit {l : List Hdr} {h : Hdr} {n : By} (e : h.name = n) : getN (l ++ [h]) n = getN l n + 1 := by
  unfold getN
  rw [getH_snoc, if_pos e]
  simp
theorem getN_miss {l : List Hdr} {h : Hdr} {n : By} (e : h.name ≠ n) : getN (l ++ [h]) n = getN l n := by
  unfold getN
  rw [getH_snoc, if_neg e]
  simp
theorem getV_miss {l : List Hdr} {h : Hdr} {n : By} (e : h.name ≠ n) : getV (l ++ [h]) n = getV l n := by
  unfold getV
  rw [getH_snoc, if_neg e]
  simp
theorem getV_first {l : List Hdr} {h : Hdr} {n : By} (e : h.name = n) (h0 : getN l n = 0) : getV (l ++ [h]) n = h.value := by
  unfold getV
  rw [getH_snoc, if_pos e]
  have : getH l n = [] := List.eq_nil_of_length_eq_zero h0
  rw [this]
  rfl
theorem getV_later {l : List Hdr} {h : Hdr} {n : By} (h0 : getN l n ≠ 0) : getV (l ++ [h]) n = getV l n := by
  unfold getV
  rw [getH_snoc]
  cases hl : getH l n with
  | nil => exact absurd (by unfold getN; rw [hl]; rfl) h0
  | cons x xs => rfl
theorem getN_le (l : List Hdr) (n : By) : getN l n ≤ l.length := by
  unfold getN getH
  rw [List.length_map]
  exact List.length_filter_le _ _

set_option maxHeartbeats 3200000 in
set_option maxRecDepth 100000 in
theorem Get_any (M P Q : ByteArray) (v : Value) (Y : ByteArray) (c : Bool) (hs : List Hdr) (nm : ByteArray) (w : World) (hv : RowsH v hs w) (hl : hs.length ≤ 1000) :
    Calls Tryz.prog 12 #[reqV M P Q v Y c, .string nm] w fun e w' => e = .returned (.tuple #[bs (getV hs nm.data.toList), .int .i64 (getN hs nm.data.toList)]) ∧ Below w.heap.size w w' := by
  obtain ⟨o, cp, rfl, hc⟩ := hv
  obtain ⟨N, hN⟩ : ∃ N, N = hs.length := ⟨_, rfl⟩
  rw [← hN] at hl ⊢
  have HN := Lib.hid hN
  have HC := Lib.hid hc
  clear hc hN
  go_enter Tryz.func12, Tryz.ntmps12
  go_wp2_with fail
  go_loopw [6, 7, 13] (fun a b i wr => ∃ (k n : Nat) (V : ByteArray), k ≤ N ∧ n ≤ k ∧ a = .string V ∧ b = .int .i64 n ∧ i = .int .i64 k ∧ Hid (V.data.toList = getV (hs.take k) nm.data.toList ∧ n = getN (hs.take k) nm.data.toList) ∧ Below w.heap.size w wr) (fun _ _ i _ => N - (intOf i).toNat)
  case atStart => exact ⟨0, 0, ⟨#[]⟩, by omega, by omega, rfl, rfl, rfl, Lib.hid ⟨by simp [getV, getH], by simp [getN, getH]⟩, below_alloc _ _⟩
  case round =>
    obtain ⟨k, n, V, hk, hnk, rfl, rfl, rfl, HV, hB⟩ := hrel
    by_cases hlt : k < N
    · obtain ⟨g, off, rfl, hcl⟩ := HC.out.resolve_left (by rintro rfl; have := HN.out; simp at this; omega)
      obtain ⟨x, hx⟩ : ∃ x, hs[k]? = some x := ⟨hs[k]'(by rw [← HN.out]; exact hlt), List.getElem?_eq_getElem _⟩
      have y0 := keep_cell hB (hcl k x hx).1
      have y1 := keep_cell hB (hcl k x hx).2
      have hx' : x = hs[k]'(by rw [← HN.out]; exact hlt) := by
        rw [List.getElem?_eq_getElem (by rw [← HN.out]; exact hlt)] at hx
        exact (Option.some.inj hx).symm
      have htk : hs.take (k + 1) = hs.take k ++ [x] := by rw [hx']; exact List.take_succ_eq_append_getElem _
      obtain ⟨A, hA⟩ : ∃ A : ByteArray, A = ⟨x.name.toArray⟩ := ⟨_, rfl⟩
      obtain ⟨B, hB2⟩ : ∃ A : ByteArray, A = ⟨x.value.toArray⟩ := ⟨_, rfl⟩
      simp only [bs] at y0 y1
      rw [← hA] at y0
      rw [← hB2] at y1
      have hAd : A.data.toList = x.name := by rw [hA]
      have hBd : B.data.toList = x.value := by rw [hB2]
      have hlt' : (k : Int) < (N : Int) := by omega
      obtain ⟨hv1, hv2⟩ := HV.out
      by_cases he : x.name = nm.data.toList
      · have hz : (A.toList == nm.toList) = true := by rw [Lib.toList_data, Lib.toList_data, hAd, he]; simp
        have hn2 : n + 1 = getN (hs.take (k + 1)) nm.data.toList := by rw [htk, getN_hit he, ← hv2]
        by_cases h0 : n = 0
        · subst h0
          have hv3 : B.data.toList = getV (hs.take (k + 1)) nm.data.toList := by rw [htk, getV_first he hv2.symm, hBd]
          have HV2 := Lib.hid (And.intro hv3 hn2)
          clear hv1 hv2 hv3 hn2 hAd hBd hA hB2 htk hx hx' hcl HV he
          go_wp2_with fail
          go_roundw
          case rel => exact ⟨k + 1, 1, B, by omega, by omega, rfl, rfl, by go_num, HV2, hB.trans ((below_alloc _ _).mono hB.size)⟩
          case measure => simp [intOf]; omega
        · have hv3 : V.data.toList = getV (hs.take (k + 1)) nm.data.toList := by rw [htk, getV_later (by rw [← hv2]; exact h0), hv1]
          have HV2 := Lib.hid (And.intro hv3 hn2)
          have hz1 : (((n : Int) + 1) == 1) = false := by rw [beq_eq_false_iff_ne]; omega
          clear hv1 hv2 hv3 hn2 hAd hBd hA hB2 htk hx hx' hcl HV he
          go_wp2_with fail
          go_roundw
          case rel => exact ⟨k + 1, n + 1, V, by omega, by omega, rfl, by go_num, by go_num, HV2, hB.trans ((below_alloc _ _).mono hB.size)⟩
          case measure => simp [intOf]; omega
      · have hz : (A.toList == nm.toList) = false := by rw [Lib.toList_data, Lib.toList_data, hAd]; exact beq_eq_false_iff_ne.2 he
        have hn2 : n = getN (hs.take (k + 1)) nm.data.toList := by rw [htk, getN_miss he, ← hv2]
        have hv3 : V.data.toList = getV (hs.take (k + 1)) nm.data.toList := by rw [htk, getV_miss he, hv1]
        have HV2 := Lib.hid (And.intro hv3 hn2)
        clear hv1 hv2 hv3 hn2 hAd hBd hA hB2 htk hx hx' hcl HV he
        go_wp2_with fail
        go_roundw
        case rel => exact ⟨k + 1, n, V, by omega, by omega, rfl, rfl, by go_num, HV2, hB.trans ((below_alloc _ _).mono hB.size)⟩
        case measure => simp [intOf]; omega
    · obtain rfl : k = N := by omega
      have hv := HV.out
      rw [List.take_of_length_le (by rw [← HN.out]; exact Nat.le_refl _)] at hv
      have HV2 := Lib.hid hv
      clear hv HV HC
      go_wp2_with fail
      go_ret2
      exact ⟨by rw [← HV2.out.1, ← HV2.out.2, bs_data]; rfl, hB⟩

set_option maxHeartbeats 3200000 in
set_option maxRecDepth 100000 in
theorem refGet_any (M P Q : ByteArray) (v : Value) (Y : ByteArray) (c : Bool) (hs : List Hdr) (nm : ByteArray) (w : World) (hv : RowsH v hs w) (hl : hs.length ≤ 1000) :
    Calls Tryz.prog 13 #[reqV M P Q v Y c, .string nm] w fun e w' => e = .returned (.tuple #[bs (getV hs nm.data.toList), .int .i64 (getN hs nm.data.toList)]) ∧ Below w.heap.size w w' := by
  obtain ⟨o, cp, rfl, hc⟩ := hv
  obtain ⟨N, hN⟩ : ∃ N, N = hs.length := ⟨_, rfl⟩
  rw [← hN] at hl ⊢
  have HN := Lib.hid hN
  have HC := Lib.hid hc
  clear hc hN
  have hh := heap_new w (.cells #[.string M, .string P, .string Q, .slice o N cp, .string Y, .bool c] 25)
  have hbl := below_alloc w (.cells #[.string M, .string P, .string Q, .slice o N cp, .string Y, .bool c] 25)
  have z3 := Lib.cell_of_heap hh 3
  simp only [List.getElem?_toArray, List.getElem?_cons_succ, List.getElem?_cons_zero] at z3
  go_enter Tryz.func13, Tryz.ntmps13
  go_wp2_with fail
  generalize (w.alloc (.cells #[.string M, .string P, .string Q, .slice o N cp, .string Y, .bool c] 25)) = w1 at *
  go_loop [6, 7, 8] (fun a b i => ∃ (k n : Nat) (V : ByteArray), k ≤ N ∧ n ≤ k ∧ a = .string V ∧ b = .int .i64 n ∧ i = .int .i64 k ∧ Hid (V.data.toList = getV (hs.take k) nm.data.toList ∧ n = getN (hs.take k) nm.data.toList)) (fun _ _ i => N - (intOf i).toNat)
  case atStart => exact ⟨0, 0, ⟨#[]⟩, by omega, by omega, rfl, rfl, rfl, Lib.hid ⟨by simp [getV, getH], by simp [getN, getH]⟩⟩
  case round =>
    obtain ⟨k, n, V, hk, hnk, rfl, rfl, rfl, HV⟩ := hrel
    by_cases hlt : k < N
    · obtain ⟨g, off, rfl, hcl⟩ := HC.out.resolve_left (by rintro rfl; have := HN.out; simp at this; omega)
      obtain ⟨x, hx⟩ : ∃ x, hs[k]? = some x := ⟨hs[k]'(by rw [← HN.out]; exact hlt), List.getElem?_eq_getElem _⟩
      have y0 := keep_cell hbl (hcl k x hx).1
      have y1 := keep_cell hbl (hcl k x hx).2
      have hx' : x = hs[k]'(by rw [← HN.out]; exact hlt) := by
        rw [List.getElem?_eq_getElem (by rw [← HN.out]; exact hlt)] at hx
        exact (Option.some.inj hx).symm
      have htk : hs.take (k + 1) = hs.take k ++ [x] := by rw [hx']; exact List.take_succ_eq_append_getElem _
      obtain ⟨A, hA⟩ : ∃ A : ByteArray, A = ⟨x.name.toArray⟩ := ⟨_, rfl⟩
      obtain ⟨B, hB2⟩ : ∃ A : ByteArray, A = ⟨x.value.toArray⟩ := ⟨_, rfl⟩
      simp only [bs] at y0 y1
      rw [← hA] at y0
      rw [← hB2] at y1
      have hAd : A.data.toList = x.name := by rw [hA]
      have hBd : B.data.toList = x.value := by rw [hB2]
      have hlt' : (k : Int) < (N : Int) := by omega
      obtain ⟨hv1, hv2⟩ := HV.out
      by_cases he : x.name = nm.data.toList
      · have hz : (A.toList == nm.toList) = true := by rw [Lib.toList_data, Lib.toList_data, hAd, he]; simp
        have hn2 : n + 1 = getN (hs.take (k + 1)) nm.data.toList := by rw [htk, getN_hit he, ← hv2]
        by_cases h0 : n = 0
        · subst h0
          have hv3 : B.data.toList = getV (hs.take (k + 1)) nm.data.toList := by rw [htk, getV_first he hv2.symm, hBd]
          have HV2 := Lib.hid (And.intro hv3 hn2)
          clear hv1 hv2 hv3 hn2 hAd hBd hA hB2 htk hx hx' hcl HV he
          go_wp2_with fail
          go_round
          case rel => exact ⟨k + 1, 1, B, by omega, by omega, rfl, rfl, by go_num, HV2⟩
          case measure => simp [intOf]; omega
        · have hv3 : V.data.toList = getV (hs.take (k + 1)) nm.data.toList := by rw [htk, getV_later (by rw [← hv2]; exact h0), hv1]
          have HV2 := Lib.hid (And.intro hv3 hn2)
          have hz1 : ((n : Int) == 0) = false := by rw [beq_eq_false_iff_ne]; omega
          clear hv1 hv2 hv3 hn2 hAd hBd hA hB2 htk hx hx' hcl HV he
          go_wp2_with fail
          go_round
          case rel => exact ⟨k + 1, n + 1, V, by omega, by omega, rfl, by go_num, by go_num, HV2⟩
          case measure => simp [intOf]; omega
      · have hz : (A.toList == nm.toList) = false := by rw [Lib.toList_data, Lib.toList_data, hAd]; exact beq_eq_false_iff_ne.2 he
        have hn2 : n = getN (hs.take (k + 1)) nm.data.toList := by rw [htk, getN_miss he, ← hv2]
        have hv3 : V.data.toList = getV (hs.take (k + 1)) nm.data.toList := by rw [htk, getV_miss he, hv1]
        have HV2 := Lib.hid (And.intro hv3 hn2)
        clear hv1 hv2 hv3 hn2 hAd hBd hA hB2 htk hx hx' hcl HV he
        go_wp2_with fail
        go_round
        case rel => exact ⟨k + 1, n, V, by omega, by omega, rfl, rfl, by go_num, HV2⟩
        case measure => simp [intOf]; omega
    · obtain rfl : k = N := by omega
      have hv := HV.out
      rw [List.take_of_length_le (by rw [← HN.out]; exact Nat.le_refl _)] at hv
      have HV2 := Lib.hid hv
      clear hv HV HC
      go_wp2_with fail
      go_ret2
      exact ⟨by rw [← HV2.out.1, ← HV2.out.2, bs_data]; rfl, hbl⟩
end Go.Proofs.YtcgeiimihihhpaaGreatDoor.W18

namespace Go.Proofs.YtcgeiimihihhpaaGreatDoor.W18
open Go Go.RowKit P12 P18 Dig

theorem digit_isDig (c : UInt8) : digit c = isDig c := by rw [digitN_nat]; rfl
theorem valD_val (l : P12.By) : valD l = val l := rfl
theorem valFrom_lt : ∀ (l : P12.By) (v : Nat), (∀ c ∈ l, isDig c = true) → valFrom v l < (v + 1) * 10 ^ l.length
  | [], v, _ => by simp [valFrom_nil]
  | c :: l, v, h => by
    have hc := isDig_iff.1 (h c (by simp))
    have ih := valFrom_lt l (10 * v + (c.toNat - 48)) (fun x hx => h x (by simp [hx]))
    rw [valFrom_cons]
    refine Nat.lt_of_lt_of_le ih ?_
    rw [List.length_cons, Nat.pow_succ]
    calc (10 * v + (c.toNat - 48) + 1) * 10 ^ l.length ≤ (10 * (v + 1)) * 10 ^ l.length := Nat.mul_le_mul_right _ (by omega)
      _ = (v + 1) * (10 ^ l.length * 10) := by rw [Nat.mul_comm 10 (v + 1), Nat.mul_assoc, Nat.mul_comm 10]
theorem atoi_small {l : P12.By} (h0 : l ≠ []) (h9 : l.length ≤ 9) (hd : l.all digit = true) : Lib.atoiAll l = .ok (valD l : Nat) ∧ valD l < 1000000000 := by
  have hl : ∀ c ∈ l, isDig c = true := fun c hc => by rw [← digit_isDig]; exact List.all_eq_true.1 hd c hc
  have hlt : valD l < 1000000000 := by
    have := valFrom_lt l 0 hl
    have hp : 10 ^ l.length ≤ 10 ^ 9 := Nat.pow_le_pow_right (by decide) h9
    rw [valD_val]
    unfold val
    omega
  refine ⟨?_, hlt⟩
  have hp := parse_digits l 0 hl (by rw [valD_val] at hlt; unfold val at hlt; omega)
  cases l with
  | nil => exact absurd rfl h0
  | cons c r =>
    have hc := isDig_iff.1 (hl c (by simp))
    unfold Lib.atoiAll
    have h1 : ¬ c.toNat = 43 := by omega
    have h2 : ¬ c.toNat = 45 := by omega
    simp only [h1, h2, or_self, if_false]
    unfold Lib.parseMag
    rw [if_neg (by simp)]
    rw [show Lib.parseUint10 0 (c :: r) = .ok (valD (c :: r)) from hp]
    simp only
    rw [if_neg (by omega), if_neg (by simp)]
theorem Atoi_small (s : ByteArray) (v : Nat) (h0 : s.data.toList ≠ []) (h9 : s.size ≤ 9) (hd : s.data.toList.all digit = true) (hv : v = valD s.data.toList) (w : World) :
    Calls Tryz.prog 45 #[.string s] w fun e w' => e = .returned (.tuple #[.int .i64 v, .nilIface]) ∧ Below w.heap.size w w' := by
  subst hv
  refine (Tryz.strconv_Atoi_ok s (by omega) _ (atoi_small h0 (by rw [size_data]; exact h9) hd).1 w).mono fun _ _ ⟨he, hw⟩ => ⟨he, ?_⟩
  rcases hw with rfl | ⟨t, rfl⟩
  · exact Below.refl _ _
  · exact Lib.bytesWorld_below _ _ _

/-! ## The head -/
/-- What judging the head comes to. -/
def HeadPost (b : Nat) (d : ByteArray) (j : Nat) (m p q v y c : Value) (S : Int × Int) (w : World) (e : Ending) (w' : World) : Prop :=
  Only b w w' ∧ ((S.1 = 200 ∧ e = .returned (.tuple #[]) ∧ Rd b (rdr d j m p q v y c (.int .i64 S.2)) w') ∨ (S.1 ≠ 200 ∧ e = gives S.1))
theorem head_no {b : Nat} {d : ByteArray} {j : Nat} {m p q v y c : Value} {S : Int × Int} {w w' : World} {st : Int} (h : S = (st, 0)) (hst : st ≠ 200) (hO : Only b w w') : HeadPost b d j m p q v y c S w (gives st) w' := by
  rw [h]
  exact ⟨hO, .inr ⟨hst, rfl⟩⟩
theorem head_ok {b : Nat} {d : ByteArray} {j : Nat} {m p q v y c : Value} {S : Int × Int} {w w' : World} {sz : Int} (h : S = (200, sz)) (hO : Only b w w') (hr : Rd b (rdr d j m p q v y c (.int .i64 sz)) w') : HeadPost b d j m p q v y c S w (.returned (.tuple #[])) w' := by
  rw [h]
  exact ⟨hO, .inl ⟨rfl, rfl, hr⟩⟩
theorem size_host {hs : List Hdr} (h : getN hs hostN ≠ 1) : sizeL hs = (400, 0) := by unfold sizeL; rw [if_pos h]
theorem size_both {hs : List Hdr} (h : getN hs hostN = 1) (h2 : 0 < getN hs teN) (h3 : getN hs clN ≠ 0) : sizeL hs = (400, 0) := by unfold sizeL; rw [if_neg (by simp [h]), if_pos h2, if_pos h3]
theorem size_chunked {hs : List Hdr} (h : getN hs hostN = 1) (h2 : getN hs teN = 1) (h3 : getN hs clN = 0) (h4 : smallL (getV hs teN) = chunkedV) : sizeL hs = (200, -1) := by unfold sizeL; rw [if_neg (by simp [h]), if_pos (by omega), if_neg (by simp [h3]), if_pos ⟨h2, h4⟩]
theorem size_other {hs : List Hdr} (h : getN hs hostN = 1) (h2 : 0 < getN hs teN) (h3 : getN hs clN = 0) (h4 : ¬ (getN hs teN = 1 ∧ smallL (getV hs teN) = chunkedV)) : sizeL hs = (501, 0) := by unfold sizeL; rw [if_neg (by simp [h]), if_pos (by omega), if_neg (by simp [h3]), if_neg h4]
theorem size_none {hs : List Hdr} (h : getN hs hostN = 1) (h2 : getN hs teN = 0) (h3 : getN hs clN = 0) : sizeL hs = (200, 0) := by unfold sizeL; rw [if_neg (by simp [h]), if_neg (by omega), if_neg (by omega)]
theorem size_bad {hs : List Hdr} (h : getN hs hostN = 1) (h2 : getN hs teN = 0) (h3 : 0 < getN hs clN) (h4 : ¬ (getN hs clN = 1 ∧ getV hs clN ≠ [] ∧ (getV hs clN).length ≤ 9 ∧ (getV hs clN).all digit = true)) : sizeL hs = (400, 0) := by unfold sizeL; rw [if_neg (by simp [h]), if_neg (by omega), if_pos h3, if_neg h4]
theorem size_long {hs : List Hdr} (h : getN hs hostN = 1) (h2 : getN hs teN = 0) (h3 : 0 < getN hs clN) (h4 : getN hs clN = 1 ∧ getV hs clN ≠ [] ∧ (getV hs clN).length ≤ 9 ∧ (getV hs clN).all digit = true) (h5 : ¬ valD (getV hs clN) ≤ 1000) : sizeL hs = (413, 0) := by unfold sizeL; rw [if_neg (by simp [h]), if_neg (by omega), if_pos h3, if_pos h4, if_neg h5]
theorem size_len {hs : List Hdr} (h : getN hs hostN = 1) (h2 : getN hs teN = 0) (h3 : 0 < getN hs clN) (h4 : getN hs clN = 1 ∧ getV hs clN ≠ [] ∧ (getV hs clN).length ≤ 9 ∧ (getV hs clN).all digit = true) (h5 : valD (getV hs clN) ≤ 1000) : sizeL hs = (200, (valD (getV hs clN) : Int)) := by unfold sizeL; rw [if_neg (by simp [h]), if_neg (by omega), if_pos h3, if_pos h4, if_pos h5]

theorem getV_len {hs : List Hdr} (hb : ∀ h ∈ hs, h.value.length ≤ 1000) (n : P12.By) : (getV hs n).length ≤ 1000 := by
  have e : getV hs n = ((hs.filter fun h => decide (h.name = n)).map (·.value)).headD [] := rfl
  rw [e]
  cases hl : (hs.filter fun h => decide (h.name = n)) with
  | nil => exact Nat.zero_le _
  | cons x xs =>
    have : x ∈ hs.filter fun h => decide (h.name = n) := by rw [hl]; simp
    exact hb x (List.mem_filter.1 this).1
set_option maxHeartbeats 3200000 in
set_option maxRecDepth 1000000 in
theorem head_any (b : Nat) (d : ByteArray) (j : Nat) (M P Q : ByteArray) (v : Value) (Y : ByteArray) (c : Bool) (hs : List Hdr) (w : World) (hr : Rd b (rdr d j (.string M) (.string P) (.string Q) v (.string Y) (.bool c) (.int .i64 0)) w) (hv : RowsH v hs w) (hl : hs.length ≤ 16)
    (hb : ∀ h ∈ hs, h.value.length ≤ 1000) :
    Calls Tryz.prog 19 #[.pointer (some ⟨b, 0, none⟩)] w (HeadPost b d j (.string M) (.string P) (.string Q) v (.string Y) (.bool c) (sizeL hs) w) := by
  obtain ⟨n1, hn1⟩ : ∃ n, n = getN hs hostN := ⟨_, rfl⟩
  obtain ⟨n2, hn2⟩ : ∃ n, n = getN hs teN := ⟨_, rfl⟩
  obtain ⟨n3, hn3⟩ : ∃ n, n = getN hs clN := ⟨_, rfl⟩
  obtain ⟨V1, hV1⟩ : ∃ X : ByteArray, X = ⟨(getV hs hostN).toArray⟩ := ⟨_, rfl⟩
  obtain ⟨V2, hV2⟩ : ∃ X : ByteArray, X = ⟨(getV hs teN).toArray⟩ := ⟨_, rfl⟩
  obtain ⟨V3, hV3⟩ : ∃ X : ByteArray, X = ⟨(getV hs clN).toArray⟩ := ⟨_, rfl⟩
  have hg1 : ∀ W, RowsH v hs W → Calls Tryz.prog 12 #[reqV M P Q v Y c, .string ⟨#[104, 111, 115, 116]⟩] W fun e w' => e = .returned (.tuple #[.string V1, .int .i64 n1]) ∧ Below W.heap.size W w' := fun W hW => by
    rw [hV1, hn1]
    exact Get_any M P Q v Y c hs ⟨#[104, 111, 115, 116]⟩ W hW (by omega)
  have hg2 : ∀ W, RowsH v hs W → Calls Tryz.prog 12 #[reqV M P Q v Y c, .string ⟨#[116, 114, 97, 110, 115, 102, 101, 114, 45, 101, 110, 99, 111, 100, 105, 110, 103]⟩] W fun e w' => e = .returned (.tuple #[.string V2, .int .i64 n2]) ∧ Below W.heap.size W w' := fun W hW => by
    rw [hV2, hn2]
    exact Get_any M P Q v Y c hs ⟨#[116, 114, 97, 110, 115, 102, 101, 114, 45, 101, 110, 99, 111, 100, 105, 110, 103]⟩ W hW (by omega)
  have hg3 : ∀ W, RowsH v hs W → Calls Tryz.prog 12 #[reqV M P Q v Y c, .string ⟨#[99, 111, 110, 116, 101, 110, 116, 45, 108, 101, 110, 103, 116, 104]⟩] W fun e w' => e = .returned (.tuple #[.string V3, .int .i64 n3]) ∧ Below W.heap.size W w' := fun W hW => by
    rw [hV3, hn3]
    exact Get_any M P Q v Y c hs ⟨#[99, 111, 110, 116, 101, 110, 116, 45, 108, 101, 110, 103, 116, 104]⟩ W hW (by omega)
  obtain ⟨S, hS⟩ : ∃ S, S = sizeL hs := ⟨_, rfl⟩
  rw [← hS]
  have HS := Lib.hid hS
  have H1 := Lib.hid hn1
  have H2 := Lib.hid hn2
  have H3 := Lib.hid hn3
  have K2 := Lib.hid (show V2.data.toList = getV hs teN by rw [hV2])
  have K3 := Lib.hid (show V3.data.toList = getV hs clN by rw [hV3])
  have hz2 : V2.size ≤ 1000 := by
    rw [← size_data, K2.out]
    exact getV_len hb _
  have m1 : n1 ≤ 16 := by rw [hn1]; exact Nat.le_trans (getN_le _ _) hl
  have m2 : n2 ≤ 16 := by rw [hn2]; exact Nat.le_trans (getN_le _ _) hl
  have m3 : n3 ≤ 16 := by rw [hn3]; exact Nat.le_trans (getN_le _ _) hl
  have x0 : w.cell? ⟨b, 2, none⟩ = some (.string M) := hr.cell 2
  have x1 : w.cell? ⟨b, 3, none⟩ = some (.string P) := hr.cell 3
  have x2 : w.cell? ⟨b, 4, none⟩ = some (.string Q) := hr.cell 4
  have x3 : w.cell? ⟨b, 5, none⟩ = some v := hr.cell 5
  have x4 : w.cell? ⟨b, 6, none⟩ = some (.string Y) := hr.cell 6
  have x5 : w.cell? ⟨b, 7, none⟩ = some (.bool c) := hr.cell 7
  have hbl := hr.lt
  clear hn1 hn2 hn3 hV1 hV2 hV3 hS hb
  obtain ⟨o, cp, rfl, hcl⟩ := hv
  have hv : RowsH (.slice o hs.length cp) hs w := ⟨o, cp, rfl, hcl⟩
  clear hcl
  go_enter Tryz.func19, Tryz.ntmps19
  go_wp2_with (go_at_call 12; refine (hg1 _ hv).mono ?_; rintro e w1 ⟨rfl, hb1⟩; refine Hid.out ?_)
  refine Lib.hid ?_
  have r1 := hr.keep hb1
  have O1 := Only.of hbl hb1
  have v1 := hv.keep hb1
  replace x0 := keep_cell hb1 x0
  replace x1 := keep_cell hb1 x1
  replace x2 := keep_cell hb1 x2
  replace x3 := keep_cell hb1 x3
  replace x4 := keep_cell hb1 x4
  replace x5 := keep_cell hb1 x5
  clear hr hv hg1 hb1
  by_cases h1 : n1 = 1
  · subst h1
    go_wp2_with (first
      | (go_at_call 32; first | ((with_reducible refine (need_ok _ _).mono ?_); rintro e w' ⟨rfl, rfl⟩) | ((with_reducible refine (need_no _ _).mono ?_); rintro e w' ⟨rfl, rfl⟩))
      | (go_at_call 12; refine (hg2 _ v1).mono ?_; rintro e w2 ⟨rfl, hb2⟩; refine Hid.out ?_))
    refine Lib.hid ?_
    have r2 := r1.keep hb2
    have O2 := O1.trans (Only.of r1.lt hb2)
    have v2 := v1.keep hb2
    replace x0 := keep_cell hb2 x0
    replace x1 := keep_cell hb2 x1
    replace x2 := keep_cell hb2 x2
    replace x3 := keep_cell hb2 x3
    replace x4 := keep_cell hb2 x4
    replace x5 := keep_cell hb2 x5
    clear r1 O1 v1 hg2 hb2
    go_wp2_with (go_at_call 12; refine (hg3 _ v2).mono ?_; rintro e w3 ⟨rfl, hb3⟩; refine Hid.out ?_)
    refine Lib.hid ?_
    have r3 := r2.keep hb3
    have O3 := O2.trans (Only.of r2.lt hb3)
    clear r2 O2 v2 hg3 hb3 x0 x1 x2 x3 x4 x5
    have x8 : w3.cell? ⟨b, 8, none⟩ = some (.int .i64 0) := r3.cell 8
    have f8 := r3.free 8
    by_cases h2 : 0 < n2
    · have h2' : (0 : Int) < n2 := by omega
      by_cases h3 : n3 = 0
      · by_cases h4 : n2 = 1
        · obtain ⟨X, hX⟩ : ∃ X : ByteArray, X = ⟨(smallL V2.data.toList).toArray⟩ := ⟨_, rfl⟩
          have hsm := fun W => small_any V2 X hX W (by omega)
          have hXd : X.data.toList = smallL (getV hs teN) := by rw [hX, K2.out]
          by_cases h5 : X.data.toList = chunkedV
          · have g5 : X.toList = [99, 104, 117, 110, 107, 101, 100] := by rw [Lib.toList_data]; exact h5
            have HV := Lib.hid (HS.out.trans (size_chunked H1.out.symm (H2.out.symm.trans h4) (H3.out.symm.trans h3) (hXd.symm.trans h5)))
            subst h3 h4
            clear h5 hX hXd
            go_wp2_with (first
              | (go_at_call 32; first | ((with_reducible refine (need_ok _ _).mono ?_); rintro e w' ⟨rfl, rfl⟩) | ((with_reducible refine (need_no _ _).mono ?_); rintro e w' ⟨rfl, rfl⟩))
              | (go_at_call 43; refine (hsm _).mono ?_; rintro e w4 ⟨rfl, hb4⟩; have r4 := r3.keep hb4; have f4 := r4.free 8; have z8 := keep_cell hb4 x8))
            go_end0
            exact head_ok HV.out ((O3.trans (Only.of r3.lt hb4)).trans (Only.set w4 8 _)) (r4.set 8 (.int .i64 (-1)) (by simp))
          · have g5 : ¬ X.toList = [99, 104, 117, 110, 107, 101, 100] := by rw [Lib.toList_data]; exact h5
            have g5' : (X.toList == [99, 104, 117, 110, 107, 101, 100]) = false := beq_eq_false_iff_ne.2 g5
            have HV := Lib.hid (HS.out.trans (size_other H1.out.symm (by rw [← H2.out]; exact h2) (H3.out.symm.trans h3) (fun hh => h5 (hXd.trans hh.2))))
            subst h3 h4
            clear h5 hX hXd
            go_wp2_with (first
              | (go_at_call 32; first | ((with_reducible refine (need_ok _ _).mono ?_); rintro e w' ⟨rfl, rfl⟩) | ((with_reducible refine (need_no _ _).mono ?_); rintro e w' ⟨rfl, rfl⟩))
              | (go_at_call 43; refine (hsm _).mono ?_; rintro e w4 ⟨rfl, hb4⟩; have r4 := r3.keep hb4; have f4 := r4.free 8; have z8 := keep_cell hb4 x8))
            exact ⟨rfl, head_no HV.out (by decide) (O3.trans (Only.of r3.lt hb4))⟩
        · have hz4 : ((n2 : Int) == 1) = false := by rw [beq_eq_false_iff_ne]; omega
          have HV := Lib.hid (HS.out.trans (size_other H1.out.symm (by rw [← H2.out]; exact h2) (H3.out.symm.trans h3) (fun hh => h4 (H2.out.trans hh.1))))
          subst h3
          go_wp2_with (go_at_call 32; first | ((with_reducible refine (need_ok _ _).mono ?_); rintro e w' ⟨rfl, rfl⟩) | ((with_reducible refine (need_no _ _).mono ?_); rintro e w' ⟨rfl, rfl⟩))
          exact ⟨rfl, head_no HV.out (by decide) O3⟩
      · have hz3 : ((n3 : Int) == 0) = false := by rw [beq_eq_false_iff_ne]; omega
        have HV := Lib.hid (HS.out.trans (size_both H1.out.symm (by rw [← H2.out]; exact h2) (by rw [← H3.out]; exact h3)))
        go_wp2_with (go_at_call 32; first | ((with_reducible refine (need_ok _ _).mono ?_); rintro e w' ⟨rfl, rfl⟩) | ((with_reducible refine (need_no _ _).mono ?_); rintro e w' ⟨rfl, rfl⟩))
        exact ⟨rfl, head_no HV.out (by decide) O3⟩
    · obtain rfl : n2 = 0 := by omega
      by_cases h3 : 0 < n3
      · have h3' : (0 : Int) < n3 := by omega
        by_cases h4 : n3 = 1 ∧ V3.data.toList ≠ [] ∧ V3.data.toList.length ≤ 9 ∧ V3.data.toList.all digit = true
        · have h4' := h4
          rw [H3.out, K3.out] at h4'
          obtain ⟨e1, e2, e3, e4⟩ := h4
          have hof := fun W => of_any _ _ digit_pred V3 W (by rw [size_data] at e3; omega)
          rw [e4] at hof
          have g2 : ¬ V3.toList = [] := by rw [Lib.toList_data]; exact e2
          have g2' : (!V3.toList.isEmpty) = true := by simp [g2]
          rw [size_data] at e3
          have e3' : decide ((V3.size : Int) ≤ 9) = true := decide_eq_true (by omega)
          obtain ⟨u, hu⟩ : ∃ u, u = valD V3.data.toList := ⟨_, rfl⟩
          have hat := fun W => Atoi_small V3 u e2 e3 e4 hu W
          have hult : u < 1000000000 := by rw [hu]; exact (atoi_small e2 (by rw [size_data]; exact e3) e4).2
          have hu' : u = valD (getV hs clN) := by rw [hu, K3.out]
          by_cases h5 : u ≤ 1000
          · have h5' : decide ((u : Int) ≤ 1000) = true := decide_eq_true (by omega)
            have HV := Lib.hid (HS.out.trans (size_len H1.out.symm H2.out.symm (by rw [← H3.out]; exact h3) h4' (by rw [← hu']; exact h5)))
            have HU := Lib.hid hu'
            subst e1
            clear h4' e2 e4 hu hu' h5
            go_wp2_with (first
              | (go_at_call 32; first | ((with_reducible refine (need_ok _ _).mono ?_); rintro e w' ⟨rfl, rfl⟩) | ((with_reducible refine (need_no _ _).mono ?_); rintro e w' ⟨rfl, rfl⟩))
              | (go_at_call 34; refine (hof _).mono ?_; rintro e w' ⟨rfl, rfl⟩)
              | (go_at_call 45; refine (hat _).mono ?_; rintro e w4 ⟨rfl, hb4⟩; have r4 := r3.keep hb4; have f4 := r4.free 8; have z8 := keep_cell hb4 x8))
            go_end0
            exact head_ok (HV.out.trans (by rw [← HU.out])) ((O3.trans (Only.of r3.lt hb4)).trans (Only.set w4 8 _)) (r4.set 8 (.int .i64 u) (by simp))
          · have h5' : decide ((u : Int) ≤ 1000) = false := decide_eq_false (by omega)
            have HV := Lib.hid (HS.out.trans (size_long H1.out.symm H2.out.symm (by rw [← H3.out]; exact h3) h4' (by rw [← hu']; exact h5)))
            subst e1
            clear h4' e2 e4 hu hu' h5
            go_wp2_with (first
              | (go_at_call 32; first | ((with_reducible refine (need_ok _ _).mono ?_); rintro e w' ⟨rfl, rfl⟩) | ((with_reducible refine (need_no _ _).mono ?_); rintro e w' ⟨rfl, rfl⟩))
              | (go_at_call 34; refine (hof _).mono ?_; rintro e w' ⟨rfl, rfl⟩)
              | (go_at_call 45; refine (hat _).mono ?_; rintro e w4 ⟨rfl, hb4⟩; have r4 := r3.keep hb4; have f4 := r4.free 8; have z8 := keep_cell hb4 x8))
            exact ⟨rfl, head_no HV.out (by decide) ((O3.trans (Only.of r3.lt hb4)).trans (Only.set w4 8 _))⟩
        · have HV := Lib.hid (HS.out.trans (size_bad H1.out.symm H2.out.symm (by rw [← H3.out]; exact h3) (by rw [← H3.out, ← K3.out]; exact h4)))
          by_cases e1 : n3 = 1
          · subst e1
            by_cases e2 : V3.data.toList = []
            · have g2 : V3.toList = [] := by rw [Lib.toList_data]; exact e2
              clear h4 e2
              go_wp2_with (go_at_call 32; first | ((with_reducible refine (need_ok _ _).mono ?_); rintro e w' ⟨rfl, rfl⟩) | ((with_reducible refine (need_no _ _).mono ?_); rintro e w' ⟨rfl, rfl⟩))
              exact ⟨rfl, head_no HV.out (by decide) O3⟩
            · have g2 : ¬ V3.toList = [] := by rw [Lib.toList_data]; exact e2
              have g2' : (!V3.toList.isEmpty) = true := by simp [g2]
              by_cases e3 : V3.size ≤ 9
              · have e3' : decide ((V3.size : Int) ≤ 9) = true := decide_eq_true (by omega)
                have e4 : V3.data.toList.all digit = false := by
                  rw [Bool.eq_false_iff]
                  exact fun hh => h4 ⟨rfl, e2, by rw [size_data]; exact e3, hh⟩
                have hof := fun W => of_any _ _ digit_pred V3 W (by omega)
                rw [e4] at hof
                clear h4 e2 e4
                go_wp2_with (first
                  | (go_at_call 32; first | ((with_reducible refine (need_ok _ _).mono ?_); rintro e w' ⟨rfl, rfl⟩) | ((with_reducible refine (need_no _ _).mono ?_); rintro e w' ⟨rfl, rfl⟩))
                  | (go_at_call 34; refine (hof _).mono ?_; rintro e w' ⟨rfl, rfl⟩))
                exact ⟨rfl, head_no HV.out (by decide) O3⟩
              · have e3' : decide ((V3.size : Int) ≤ 9) = false := decide_eq_false (by omega)
                clear h4 e2 e3
                go_wp2_with (go_at_call 32; first | ((with_reducible refine (need_ok _ _).mono ?_); rintro e w' ⟨rfl, rfl⟩) | ((with_reducible refine (need_no _ _).mono ?_); rintro e w' ⟨rfl, rfl⟩))
                exact ⟨rfl, head_no HV.out (by decide) O3⟩
          · have hz3 : ((n3 : Int) == 1) = false := by rw [beq_eq_false_iff_ne]; omega
            clear h4
            go_wp2_with (go_at_call 32; first | ((with_reducible refine (need_ok _ _).mono ?_); rintro e w' ⟨rfl, rfl⟩) | ((with_reducible refine (need_no _ _).mono ?_); rintro e w' ⟨rfl, rfl⟩))
            exact ⟨rfl, head_no HV.out (by decide) O3⟩
      · obtain rfl : n3 = 0 := by omega
        have HV := Lib.hid (HS.out.trans (size_none H1.out.symm H2.out.symm H3.out.symm))
        go_wp2_with fail
        go_end0
        exact head_ok HV.out O3 r3
  · have hz1 : ((n1 : Int) == 1) = false := by rw [beq_eq_false_iff_ne]; omega
    have HV := Lib.hid (HS.out.trans (size_host (by rw [← H1.out]; exact h1)))
    go_wp2_with (go_at_call 32; first | ((with_reducible refine (need_ok _ _).mono ?_); rintro e w' ⟨rfl, rfl⟩) | ((with_reducible refine (need_no _ _).mono ?_); rintro e w' ⟨rfl, rfl⟩))
    exact ⟨rfl, head_no HV.out (by decide) O1⟩
end Go.Proofs.YtcgeiimihihhpaaGreatDoor.W18

namespace Go.Proofs.YtcgeiimihihhpaaGreatDoor.W18
open Go Go.RowKit P12 P18

set_option maxHeartbeats 3200000 in
set_option maxRecDepth 1000000 in
theorem take_no (b : Nat) (d : ByteArray) (j n : Nat) (m p q v y c z : Value) (w : World) (hr : Rd b (rdr d j m p q v y c z) w) (hj : j ≤ d.size) (hd : d.size ≤ 281474976710656) (hn : n ≤ 1000000) (h : d.size < j + n) :
    Calls Tryz.prog 46 #[.pointer (some ⟨b, 0, none⟩), .int .i64 n] w fun e w' => e = gives 0 ∧ Only b w w' := by
  have c0 : w.cell? ⟨b, 0, none⟩ = some (.string d) := hr.cell 0
  have c1 : w.cell? ⟨b, 1, none⟩ = some (.int .i64 j) := hr.cell 1
  have hz : decide ((j : Int) + n ≤ (d.size : Int)) = false := decide_eq_false (by omega)
  have i6 : IntKind.i64.wrap ((j : Int) + n) = (j : Int) + n := by rw [IntKind.wrap_i64]; omega
  go_enter Tryz.func46, Tryz.ntmps46
  go_wp2_with fail
  go_still_tail 12, (by kernel_rfl)
  change wpList _ _ _ _ _ w.drew
  have hO := Only.of hr.lt (below_drewN w 1)
  change Only b w w.drew at hO
  generalize w.drew = w2 at *
  go_wp2_with (go_at_call 32; refine (need_no _ _).mono ?_; rintro e w' ⟨rfl, rfl⟩)
  exact ⟨rfl, rfl, hO⟩

set_option maxHeartbeats 3200000 in
set_option maxRecDepth 1000000 in
theorem take_ok (b : Nat) (d : ByteArray) (j n : Nat) (m p q v y c z : Value) (w : World) (hr : Rd b (rdr d j m p q v y c z) w) (hd : d.size ≤ 281474976710656) (hn : n ≤ 1000000) (h : j + n ≤ d.size) (k : Nat) (hk : k = j + n) :
    Calls Tryz.prog 46 #[.pointer (some ⟨b, 0, none⟩), .int .i64 n] w fun e w' => e = .returned (.string (d.extract j k)) ∧ Rd b (rdr d k m p q v y c z) w' ∧ Only b w w' := by
  have c0 : w.cell? ⟨b, 0, none⟩ = some (.string d) := hr.cell 0
  have c1 : w.cell? ⟨b, 1, none⟩ = some (.int .i64 j) := hr.cell 1
  have f1 := hr.free 1
  have hz : decide ((j : Int) + n ≤ (d.size : Int)) = true := decide_eq_true (by omega)
  have i6 : IntKind.i64.wrap ((j : Int) + n) = (j : Int) + n := by rw [IntKind.wrap_i64]; omega
  have h1 : (j : Int) + n ≤ (d.size : Int) := by omega
  have h2 : (0 : Int) ≤ (j : Int) + n := by omega
  have h3 : (j : Int) ≤ (j : Int) + n := by omega
  have h4 : ((j : Int) + n).toNat = j + n := by omega
  subst hk
  go_enter Tryz.func46, Tryz.ntmps46
  go_wp2_with fail
  go_quiet ((go_at_call 32; exact quiet_left (need_ok _ _)))
  go_wp2_with fail
  go_quiet (fail)
  go_wp2_with fail
  go_ret
  have hS := hr.set 1 (.int .i64 ((j : Int) + n)) (by simp)
  refine ⟨rfl, ?_, ?_⟩
  · show Rd b #[.string d, .int .i64 ((j + n : Nat) : Int), m, p, q, v, y, c, z] (w.setCell ⟨b, 1, none⟩ (.int .i64 ((j : Int) + n)))
    rw [show ((j + n : Nat) : Int) = (j : Int) + n by omega]
    simpa using hS
  · exact ((Only.of hr.lt (below_drewN w _)).trans (Only.set _ 1 _)).trans (Only.of (b := b) (by simpa [World.drewN, World.setCell] using hr.lt) (below_drewN _ _))
end Go.Proofs.YtcgeiimihihhpaaGreatDoor.W18

namespace Go.Proofs.YtcgeiimihihhpaaGreatDoor.W18
open Go Go.RowKit P12 P18

def hexFold (a : Nat) (l : P12.By) : Nat := l.foldl (fun a c => 16 * a + hexN' c) a
theorem hexFold_cons (a : Nat) (c : UInt8) (l : P12.By) : hexFold a (c :: l) = hexFold (16 * a + hexN' c) l := rfl
theorem hexFold_lt : ∀ (l : P12.By) (a k : Nat), a < 16 ^ k → hexFold a l < 16 ^ (k + l.length)
  | [], a, k, h => h
  | c :: l, a, k, h => by
    have hc : hexN' c < 16 := by
      have h' : ((List.range 256).all fun n => decide (hexN' n.toUInt8 < 16)) = true := by decide +kernel
      have := List.all_eq_true.1 h' c.toNat (List.mem_range.2 c.toNat_lt)
      simpa using this
    rw [hexFold_cons, List.length_cons, show k + (l.length + 1) = (k + 1) + l.length by omega]
    exact hexFold_lt l _ _ (by rw [Nat.pow_succ]; omega)
theorem hex_cases (c : UInt8) (h : hexC c = true) : (48 ≤ c.toNat ∧ c.toNat ≤ 57 ∧ hexN' c = c.toNat - 48) ∨ (97 ≤ c.toNat ∧ c.toNat ≤ 102 ∧ hexN' c = c.toNat - 87) ∨ (65 ≤ c.toNat ∧ c.toNat ≤ 70 ∧ hexN' c = c.toNat - 55) := by
  have h' : ((List.range 256).all fun n => !hexC n.toUInt8 || decide ((48 ≤ n ∧ n ≤ 57 ∧ hexN' n.toUInt8 = n - 48) ∨ (97 ≤ n ∧ n ≤ 102 ∧ hexN' n.toUInt8 = n - 87) ∨ (65 ≤ n ∧ n ≤ 70 ∧ hexN' n.toUInt8 = n - 55))) = true := by decide +kernel
  have := List.all_eq_true.1 h' c.toNat (List.mem_range.2 c.toNat_lt)
  simpa [h] using this
theorem bit32 (n : Nat) (h : n < 256) : bits .or .u8 (n : Int) 32 = ((n ||| 32 : Nat) : Int) := by
  have h' : ((List.range 256).all fun n => decide (bits .or .u8 (n : Int) 32 = ((n ||| 32 : Nat) : Int))) = true := by decide +kernel
  simpa using List.all_eq_true.1 h' n (List.mem_range.2 h)
theorem bit32_low (n : Nat) (h0 : 97 ≤ n) (h1 : n ≤ 102) : n ||| 32 = n := by
  have h' : ((List.range 256).all fun n => decide (97 ≤ n → n ≤ 102 → n ||| 32 = n)) = true := by decide +kernel
  have := List.all_eq_true.1 h' n (List.mem_range.2 (by omega))
  simp only [decide_eq_true_eq] at this
  exact this h0 h1
theorem bit32_up (n : Nat) (h0 : 65 ≤ n) (h1 : n ≤ 70) : n ||| 32 = n + 32 := by
  have h' : ((List.range 256).all fun n => decide (65 ≤ n → n ≤ 70 → n ||| 32 = n + 32)) = true := by decide +kernel
  have := List.all_eq_true.1 h' n (List.mem_range.2 (by omega))
  simp only [decide_eq_true_eq] at this
  exact this h0 h1

set_option maxHeartbeats 3200000 in
set_option maxRecDepth 1000000 in
theorem iParseU (t : ByteArray) (h1 : 1 ≤ t.size) (h4 : t.size ≤ 4) (hx : t.data.toList.all hexC = true) (w : World) :
    Calls Tryz.prog 102 #[.string t, .int .i64 16, .int .i64 32] w fun e w' => e = .returned (.tuple #[.int .u64 (hexFold 0 t.data.toList : Nat), .nilIface]) ∧ Below w.heap.size w w' := by
  have hne : ¬ t.toList = [] := by
    rw [Lib.toList_data]
    intro e
    have := size_data t
    rw [e] at this
    simp at this
    omega
  have hemp : t.toList.isEmpty = false := by simpa [List.isEmpty_iff] using hne
  have hcv := Lib.run_convert_string_bytes (P := Tryz.prog) w 9 72 5 t (u := .string) Tryz.underlying9 Tryz.underlying72 Tryz.underlying5
  have hB : ∀ j, j < t.size → (Lib.bytesWorld w 5 t).cell? ⟨w.heap.size, j, none⟩ = some (.int .u8 (t.data.toList.getD j 0).toNat) := fun j hj => Lib.bytesWorld_cell w 5 t j hj
  have hbw := Lib.bytesWorld_below w 5 t
  obtain ⟨W1, hW1⟩ : ∃ W1, W1 = Lib.bytesWorld w 5 t := ⟨_, rfl⟩
  rw [← hW1] at hcv hB hbw
  clear hW1
  obtain ⟨bs, hL⟩ : ∃ bs, bs = t.data.toList := ⟨_, rfl⟩
  have hLn : bs.length = t.size := by rw [hL, size_data]
  rw [← hL] at hB hx ⊢
  clear hL
  obtain ⟨R, hR⟩ : ∃ R, R = hexFold 0 bs := ⟨_, rfl⟩
  rw [← hR]
  have hR32 : R < 65536 := by
    have h0 := hexFold_lt bs 0 0 (by decide)
    rw [← hR] at h0
    have hp : 16 ^ (0 + bs.length) ≤ 16 ^ 4 := Nat.pow_le_pow_right (by decide) (by omega)
    omega
  have HX := Lib.hid hx
  have HR := Lib.hid hR
  have hmv : IntKind.u64.wrap (IntKind.u64.wrap 4294967296 - 1) = 4294967295 := by
    rw [IntKind.wrap_u64, IntKind.wrap_u64]
    decide
  clear hx hR
  go_enter Tryz.func102, Tryz.ntmps102
  go_wp2_with fail
  go_loop [12, 13, 101] (fun vu vn vi => ∃ (k acc : Nat) (a : Int), vu = .bool false ∧ vn = .int .u64 a ∧ vi = .int .i64 k ∧ k ≤ t.size ∧ Hid (a = (acc : Int) ∧ acc < 16 ^ k ∧ R = hexFold acc (bs.drop k)))
    (fun _ _ vi => t.size - (intOf vi).toNat)
  case atStart => exact ⟨0, 0, 0, rfl, rfl, rfl, by omega, Lib.hid ⟨rfl, by decide, HR.out⟩⟩
  case round =>
    obtain ⟨k, acc, a, rfl, rfl, rfl, hk, hh⟩ := hrel
    obtain ⟨ha, hacc, hn⟩ := hh.out
    clear hh
    have a0 : 0 ≤ a := by omega
    by_cases hkn : k < t.size
    · have hkb : k < bs.length := by omega
      have hacc2 : acc < 4096 := by
        have hp : 16 ^ k ≤ 16 ^ 3 := Nat.pow_le_pow_right (by decide) (by omega)
        omega
      have a1 : a < 4096 := by omega
      have hc := hB k hkn
      have hdrop : bs.drop k = bs[k]'hkb :: bs.drop (k + 1) := List.drop_eq_getElem_cons hkb
      have hget : bs.getD k 0 = bs[k]'hkb := by simp [List.getD, List.getElem?_eq_getElem hkb]
      rw [hget] at hc
      have hcx := hex_cases (bs[k]'hkb) (List.all_eq_true.1 HX.out _ (List.getElem_mem _))
      rw [hdrop, hexFold_cons] at hn
      generalize bs[k]'hkb = c at hc hn hcx
      have hc256 : c.toNat < 256 := c.toNat_lt
      have hlow := fun W => Tryz.internal_strconv_lower (c.toNat : Int) W
      rw [bit32 _ hc256] at hlow
      have hpow : 16 ^ (k + 1) = 16 * 16 ^ k := by rw [Nat.pow_succ, Nat.mul_comm]
      obtain ⟨v, hv⟩ : ∃ v, v = hexN' c := ⟨_, rfl⟩
      rw [← hv] at hn hcx
      have hv16 : v < 16 := by omega
      have HN : ∀ x : Int, x = v → Hid (a * 16 + x = ((16 * acc + v : Nat) : Int) ∧ 16 * acc + v < 16 ^ (k + 1) ∧ R = hexFold (16 * acc + v) (bs.drop (k + 1))) := fun x hx => Lib.hid ⟨by omega, by omega, hn⟩
      have HNH := Lib.hid HN
      have hkt : (k : Int) < (t.size : Int) := by omega
      clear hB hdrop hget hn hv hacc hpow HN ha hacc2
      rcases hcx with ⟨h0, h1', hv⟩ | ⟨h0, h1', hv⟩ | ⟨h0, h1', hv⟩
      · have HD := HNH.out ((c.toNat : Int) - 48) (by omega)
        have HD2 := Lib.hid HD
        clear HD HNH hv hv16
        go_wp2_with fail
        refine ⟨⟨k + 1, 16 * acc + v, a * 16 + ((c.toNat : Int) - 48), rfl, (by first | rfl | (congr 1; omega)), (by first | rfl | (congr 1; omega)), by omega, HD2.out⟩, by simp [intOf]; omega⟩
      · rw [bit32_low _ h0 h1'] at hlow
        have HD := HNH.out ((c.toNat : Int) - 97 + 10) (by omega)
        have HD2 := Lib.hid HD
        clear HD HNH hv hv16
        go_wp2_with (go_at_call 120; refine (hlow _).mono ?_; rintro e w' ⟨rfl, rfl⟩)
        refine ⟨⟨k + 1, 16 * acc + v, a * 16 + ((c.toNat : Int) - 97 + 10), rfl, (by first | rfl | (congr 1; omega)), (by first | rfl | (congr 1; omega)), by omega, HD2.out⟩, by simp [intOf]; omega⟩
      · rw [bit32_up _ h0 h1'] at hlow
        have HD := HNH.out (((c.toNat + 32 : Nat) : Int) - 97 + 10) (by omega)
        have HD2 := Lib.hid HD
        clear HD HNH hv hv16
        go_wp2_with (go_at_call 120; refine (hlow _).mono ?_; rintro e w' ⟨rfl, rfl⟩)
        refine ⟨⟨k + 1, 16 * acc + v, a * 16 + (((c.toNat + 32 : Nat) : Int) - 97 + 10), rfl, (by first | rfl | (congr 1; omega)), (by first | rfl | (congr 1; omega)), by omega, HD2.out⟩, by simp [intOf]; omega⟩
    · obtain rfl : k = t.size := by omega
      rw [List.drop_eq_nil_of_le (by omega)] at hn
      obtain rfl : R = acc := hn
      subst ha
      clear hacc
      go_wp2_with fail
      go_ret2
      exact ⟨rfl, hbw⟩

set_option maxHeartbeats 3200000 in
set_option maxRecDepth 1000000 in
theorem iParseI (t : ByteArray) (h1 : 1 ≤ t.size) (h4 : t.size ≤ 4) (hx : t.data.toList.all hexC = true) (w : World) :
    Calls Tryz.prog 77 #[.string t, .int .i64 16, .int .i64 32] w fun e w' => e = .returned (.tuple #[.int .i64 (hexFold 0 t.data.toList : Nat), .nilIface]) ∧ Below w.heap.size w w' := by
  have hcon := fun W => iParseU t h1 h4 hx W
  have hne : ¬ t.toList = [] := by
    rw [Lib.toList_data]
    intro e
    have := size_data t
    rw [e] at this
    simp at this
    omega
  have hemp : t.toList.isEmpty = false := by simpa [List.isEmpty_iff] using hne
  have h0 : 0 < t.size := by omega
  have hc := hex_cases (t[0]'h0) (List.all_eq_true.1 hx _ (by rw [← getD_at t 0 h0, List.getD_eq_getElem?_getD, List.getElem?_eq_getElem (by rw [size_data]; exact h0)]; exact List.getElem_mem _))
  have z43 : (((t[0]'h0).toNat : Int) == 43) = false := by rw [beq_eq_false_iff_ne]; omega
  have z45 : (((t[0]'h0).toNat : Int) == 45) = false := by rw [beq_eq_false_iff_ne]; omega
  have h0' : (0 : Int) < (t.size : Int) := by omega
  have hR32 : hexFold 0 t.data.toList < 65536 := by
    have h0 := hexFold_lt t.data.toList 0 0 (by decide)
    have hp : 16 ^ (0 + t.data.toList.length) ≤ 16 ^ 4 := Nat.pow_le_pow_right (by decide) (by rw [size_data]; omega)
    omega
  generalize hexFold 0 t.data.toList = R at *
  have hshl : IntKind.u64.wrap ((1 : Int) * 2 ^ 31) = 2147483648 := by rw [IntKind.wrap_u64]; decide
  have hw : IntKind.i64.wrap (R : Int) = R := by rw [IntKind.wrap_i64]; omega
  have hge : decide ((2147483648 : Int) ≤ (R : Int)) = false := decide_eq_false (by omega)
  have hlt : (R : Int) < 2147483648 := by omega
  clear hR32
  clear hc hx
  go_enter Tryz.func77, Tryz.ntmps77
  go_wp2_with (go_at_call 102; refine (hcon _).mono ?_; rintro e w1 ⟨rfl, hb1⟩; refine Hid.out ?_)
  refine Lib.hid ?_
  go_wp2_with fail
  go_ret2
  exact ⟨rfl, hb1⟩

set_option maxHeartbeats 3200000 in
set_option maxRecDepth 1000000 in
theorem ParseInt_ok (t : ByteArray) (n : Nat) (hn : chunkSize t.data.toList = some n) (w : World) :
    Calls Tryz.prog 48 #[.string t, .int .i64 16, .int .i64 32] w fun e w' => e = .returned (.tuple #[.int .i64 n, .nilIface]) ∧ Below w.heap.size w w' := by
  unfold chunkSize at hn
  split at hn
  · rename_i h
    obtain ⟨h1, h2, h3⟩ := h
    rw [size_data] at h2
    have h0 : 1 ≤ t.size := by
      rw [← size_data]
      exact List.length_pos_iff.2 h1
    have hcon := fun W => iParseI t h0 h2 h3 W
    have e : hexFold 0 t.data.toList = n := Option.some.inj hn
    rw [e] at hcon
    clear hn e h1 h2 h3 h0
    go_enter Tryz.func48, Tryz.ntmps48
    go_wp2_with (go_at_call 77; refine (hcon _).mono ?_; rintro e w1 ⟨rfl, hb1⟩; refine Hid.out ?_)
    refine Lib.hid ?_
    go_wp2_with fail
    go_ret2
    exact ⟨rfl, hb1⟩
  · cases hn
theorem chunkSize_lt {l : P12.By} {n : Nat} (h : chunkSize l = some n) : n < 65536 := by
  unfold chunkSize at h
  split at h
  · rename_i hc
    have h0 := hexFold_lt l 0 0 (by decide)
    have hp : 16 ^ (0 + l.length) ≤ 16 ^ 4 := Nat.pow_le_pow_right (by decide) (by omega)
    have e : hexFold 0 l = n := Option.some.inj h
    omega
  · cases h
end Go.Proofs.YtcgeiimihihhpaaGreatDoor.W18
