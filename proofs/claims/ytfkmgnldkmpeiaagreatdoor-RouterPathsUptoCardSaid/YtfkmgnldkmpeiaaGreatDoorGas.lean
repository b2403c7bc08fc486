/-
  Walks of layer 20: strconv.ParseUint at base 10, 64 bits; version. Conditions: the library's error values; the text is within Go's own limit.
  Walks of layer 20: Get, of the program and of the reference (as in layer 18, at any number of headers). Conditions: the headers' cells hold them.
  Walks of layer 12: Read, told besides that its list lies in new memory. Conditions: the library's error values; the text is within Go's own limit.
-/
import Derived.Test.YtfkmgnldkmpeiaaGreatDoorGao
import Derived.Test.YtfkmgnldkmpeiaaGreatDoorGag
import Derived.Test.YtfkmgnldkmpeiaaGreatDoorGac
import Derived.Test.YtfkmgnldkmpeiaaGreatDoorGai

namespace Go.Proofs.YtfkmgnldkmpeiaaGreatDoor.W20
open Go Go.RowKit P12 P18 P20 W12

theorem digit_nat {c : UInt8} (h : digit c = true) : 48 ≤ c.toNat ∧ c.toNat ≤ 57 := by
  unfold digit at h
  simp only [Bool.and_eq_true, decide_eq_true_eq, UInt8.le_iff_toNat_le] at h
  exact h
theorem digit_of {c : UInt8} (h : 48 ≤ c.toNat ∧ c.toNat ≤ 57) : digit c = true := by
  unfold digit
  simp only [Bool.and_eq_true, decide_eq_true_eq, UInt8.le_iff_toNat_le]
  exact h
theorem par_ok : ∀ (l : By) (acc k : Nat), acc < 10 ^ k → l.length + k ≤ 18 → l.all digit = true → Lib.parseUint10 acc l = .ok (l.foldl (fun a c => 10 * a + (c.toNat - 48)) acc)
  | [], acc, k, _, _, _ => rfl
  | c :: l, acc, k, ha, hl, hd => by
    rw [List.all_cons, Bool.and_eq_true] at hd
    have hc := digit_nat hd.1
    simp only [List.length_cons] at hl
    have hk : (10 : Nat) ^ k ≤ 10 ^ 17 := Nat.pow_le_pow_right (by omega) (by omega)
    have e17 : (10 : Nat) ^ 17 = 100000000000000000 := by decide
    have hp : (10 : Nat) ^ (k + 1) = 10 ^ k * 10 := Nat.pow_succ 10 k
    unfold Lib.parseUint10
    rw [if_pos hc, if_neg (by omega), if_neg (by omega), par_ok l _ (k + 1) (by omega) (by omega) hd.2]
    simp only [List.foldl_cons]
    rw [show 10 * acc = acc * 10 by omega]
theorem par_digits : ∀ (l : By) (acc u : Nat), Lib.parseUint10 acc l = .ok u → l.all digit = true
  | [], _, _, _ => rfl
  | c :: l, acc, u, h => by
    unfold Lib.parseUint10 at h
    split at h
    · rename_i hc
      split at h
      · cases h
      · split at h
        · cases h
        · rw [List.all_cons, digit_of hc, par_digits l _ u h]
          rfl
    · cases h
theorem val_lt : ∀ (l : By) (acc k : Nat), acc < 10 ^ k → l.all digit = true → l.foldl (fun a c => 10 * a + (c.toNat - 48)) acc < 10 ^ (k + l.length)
  | [], acc, k, h, _ => h
  | c :: l, acc, k, h, hd => by
    rw [List.all_cons, Bool.and_eq_true] at hd
    have hc := digit_nat hd.1
    have hp : (10 : Nat) ^ (k + 1) = 10 ^ k * 10 := Nat.pow_succ 10 k
    have := val_lt l (10 * acc + (c.toNat - 48)) (k + 1) (by omega) hd.2
    rw [List.foldl_cons, List.length_cons, show k + (l.length + 1) = k + 1 + l.length by omega]
    exact this
theorem val_small {l : By} (hd : l.all digit = true) (hl : l.length ≤ 9) : valD l < 1000000000 := by
  have := val_lt l 0 0 (by decide) hd
  have h2 : (10 : Nat) ^ (0 + l.length) ≤ 10 ^ 9 := Nat.pow_le_pow_right (by omega) (by omega)
  have : (10 : Nat) ^ 9 = 1000000000 := by decide
  unfold valD
  omega
theorem iParse10 (t : ByteArray) (ht : t.size ≤ 281474976710656) (hne : t.size ≠ 0) (w : World) : Calls Tryz.prog 123 #[.string t, .int .i64 10, .int .i64 64] w fun e w' => e = .returned (Lib.uintTuple 164 (Lib.parseUint10 0 t.data.toList)) ∧ Below w.heap.size w w' :=
  (Tryz.internal_strconv_ParseUint_10_b64 t hne (by omega) w).mono fun _ _ ⟨he, hw⟩ => ⟨he, by rw [hw]; exact Lib.bytesWorld_below _ _ _⟩
set_option maxHeartbeats 800000 in
set_option maxRecDepth 100000 in
theorem Parse10_ok (t : ByteArray) (ht : t.size ≤ 281474976710656) (hne : t.size ≠ 0) (u : Nat) (hu : Lib.parseUint10 0 t.data.toList = .ok u) (w : World) :
    Calls Tryz.prog 90 #[.string t, .int .i64 10, .int .i64 64] w fun e w' => e = .returned (.tuple #[.int .u64 u, .nilIface]) ∧ Below w.heap.size w w' := by
  have hcon := fun W => iParse10 t ht hne W
  rw [hu] at hcon
  clear hu
  unfold Lib.uintTuple at hcon
  go_enter Tryz.func90, Tryz.ntmps90
  go_wp2_with (go_at_call 123; refine (hcon _).mono ?_; rintro e w1 ⟨rfl, hb1⟩)
  go_ret2
  exact ⟨rfl, hb1⟩
theorem empty_B {t : ByteArray} (h : t.size = 0) : t = ⟨#[]⟩ := ba_ext (List.eq_nil_of_length_eq_zero (by rw [size_data]; exact h))
set_option maxHeartbeats 800000 in
set_option maxRecDepth 100000 in
theorem Parse10_bad (t : ByteArray) (ht : t.size ≤ 281474976710656) (hu : t.size = 0 ∨ Lib.parseUint10 0 t.data.toList = Lib.NumEnd.syntax) (w : World) (hE : Env w) :
    Calls Tryz.prog 90 #[.string t, .int .i64 10, .int .i64 64] w fun e w' => (∃ N, e = .returned (.tuple #[.int .u64 0, .iface 167 (.pointer (some ⟨N, 0, none⟩))])) ∧ Below w.heap.size w w' := by
  have hcon : ∀ W, Calls Tryz.prog 123 #[.string t, .int .i64 10, .int .i64 64] W fun e w' => e = .returned (.tuple #[.int .u64 0, .iface 164 (.int .i64 2)]) ∧ Below W.heap.size W w' := by
    intro W
    by_cases h0 : t.size = 0
    · rw [empty_B h0]
      exact (Tryz.internal_strconv_ParseUint_empty 10 64 W).mono fun _ _ ⟨he, hw⟩ => ⟨he, by rw [hw]; exact Below.refl _ _⟩
    · have := iParse10 t ht h0 W
      rw [hu.resolve_left h0] at this
      exact this
  clear hu
  go_enter Tryz.func90, Tryz.ntmps90
  go_wp2_with (go_at_call 123; refine (hcon _).mono ?_; rintro e w1 ⟨rfl, hb1⟩; refine Hid.out ?_)
  refine Lib.hid ?_
  obtain ⟨ev, hev, hev2⟩ := (hE.keep hb1).syn
  go_wp2_with (go_at_call 106; refine (Tryz.strconv_toError_syntax _ t 10 64 ev _ (by omega) hev hev2).mono ?_; rintro e w2 ⟨N, rfl, -, -, hb2⟩)
  go_ret2
  exact ⟨⟨N, rfl⟩, below_then hb1 hb2⟩
set_option maxHeartbeats 800000 in
set_option maxRecDepth 100000 in
theorem Parse10_rng (t : ByteArray) (ht : t.size ≤ 281474976710656) (hne : t.size ≠ 0) (hu : Lib.parseUint10 0 t.data.toList = .range) (w : World) (hE : Env w) :
    Calls Tryz.prog 90 #[.string t, .int .i64 10, .int .i64 64] w fun e w' => (∃ N, e = .returned (.tuple #[.int .u64 18446744073709551615, .iface 167 (.pointer (some ⟨N, 0, none⟩))])) ∧ Below w.heap.size w w' := by
  have hcon := fun W => iParse10 t ht hne W
  rw [hu] at hcon
  clear hu
  unfold Lib.uintTuple at hcon
  generalize (18446744073709551615 : Int) = M at hcon ⊢
  go_enter Tryz.func90, Tryz.ntmps90
  go_wp2_with (go_at_call 123; refine (hcon _).mono ?_; rintro e w1 ⟨rfl, hb1⟩; refine Hid.out ?_)
  refine Lib.hid ?_
  obtain ⟨ev, hev, hev2⟩ := (hE.keep hb1).rng
  go_wp2_with (go_at_call 106; refine (Tryz.strconv_toError_range _ t 10 64 ev _ (by omega) hev hev2).mono ?_; rintro e w2 ⟨N, rfl, -, -, hb2⟩)
  go_ret2
  exact ⟨⟨N, rfl⟩, below_then hb1 hb2⟩
/-- A version's text: its number, if it is one. -/
def VerPost (s : By) (w : World) (e : Ending) (w' : World) : Prop :=
  ∃ (n : Int) (ok : Bool), e = .returned (.tuple #[.int .i64 n, .bool ok]) ∧ (ok = true → ∃ v : Nat, digitsL s = some v ∧ n = (v : Int)) ∧ (ok = false → digitsL s = none) ∧ Below w.heap.size w w'
theorem ver_no {s : By} {w w' : World} (n : Int) (h : digitsL s = none) (hb : Below w.heap.size w w') : VerPost s w (.returned (.tuple #[.int .i64 n, .bool false])) w' := ⟨n, false, rfl, fun h => (by cases h), fun _ => h, hb⟩
set_option maxHeartbeats 1600000 in
set_option maxRecDepth 100000 in
theorem version_any (s : ByteArray) (hs : s.size ≤ 281474976710656) (w : World) (hE : Env w) : Calls Tryz.prog 67 #[.string s] w (VerPost s.data.toList w) := by
  by_cases h0 : s.size = 0
  · have hc := Parse10_bad s hs (.inl h0) w hE
    have hd : digitsL s.data.toList = none := by
      rw [empty_B h0]
      rfl
    have HD := Lib.hid hd
    clear hd
    go_enter Tryz.func67, Tryz.ntmps67
    go_wp2_with (go_at_call 90; refine hc.mono ?_; rintro e w1 ⟨⟨N, rfl⟩, hb1⟩)
    go_ret2
    exact ver_no _ HD.out hb1
  · have hne : s.data.toList ≠ [] := by intro h; have := size_data s; rw [h] at this; simp at this; omega
    cases hp : Lib.parseUint10 0 s.data.toList with
    | ok u =>
      have hdg := par_digits _ _ _ hp
      by_cases h9 : s.size ≤ 9
      · have hu : u = valD s.data.toList := by
          have := par_ok s.data.toList 0 0 (by decide) (by rw [size_data]; omega) hdg
          rw [this] at hp
          injection hp with hp
          exact hp.symm
        have hlt := val_small hdg (by rw [size_data]; exact h9)
        rw [← hu] at hlt
        have hd : digitsL s.data.toList = some u := by unfold digitsL; rw [if_pos ⟨hne, by rw [size_data]; exact h9, hdg⟩, hu]
        have HD := Lib.hid hd
        have hc := Parse10_ok s hs h0 u hp w
        have g9 : (s.size : Int) ≤ 9 := by omega
        clear hp hu hd hne
        go_enter Tryz.func67, Tryz.ntmps67
        go_wp2_with (go_at_call 90; refine hc.mono ?_; rintro e w1 ⟨rfl, hb1⟩)
        go_ret2
        exact ⟨_, true, rfl, fun _ => ⟨u, HD.out, rfl⟩, fun h => (by cases h), hb1⟩
      · have hd : digitsL s.data.toList = none := by unfold digitsL; rw [if_neg (fun h => h9 (by have := h.2.1; rw [size_data] at this; exact this))]
        have HD := Lib.hid hd
        have hc := Parse10_ok s hs h0 u hp w
        have g9 : decide ((s.size : Int) ≤ 9) = false := decide_eq_false (by omega)
        clear hp hd hne
        go_enter Tryz.func67, Tryz.ntmps67
        go_wp2_with (go_at_call 90; refine hc.mono ?_; rintro e w1 ⟨rfl, hb1⟩)
        go_ret2
        exact ver_no _ HD.out hb1
    | range =>
      have hd : digitsL s.data.toList = none := by
        unfold digitsL
        rw [if_neg]
        rintro ⟨h1, h2, h3⟩
        have := par_ok s.data.toList 0 0 (by decide) (by omega) h3
        rw [this] at hp
        cases hp
      have HD := Lib.hid hd
      have hc := Parse10_rng s hs h0 hp w hE
      generalize (18446744073709551615 : Int) = M at hc
      clear hp hd hne
      go_enter Tryz.func67, Tryz.ntmps67
      go_wp2_with (go_at_call 90; refine hc.mono ?_; rintro e w1 ⟨⟨N, rfl⟩, hb1⟩)
      go_ret2
      exact ver_no _ HD.out hb1
    | _ =>
      have hd : digitsL s.data.toList = none := by
        unfold digitsL
        rw [if_neg]
        rintro ⟨h1, h2, h3⟩
        have := par_ok s.data.toList 0 0 (by decide) (by omega) h3
        rw [this] at hp
        cases hp
      have HD := Lib.hid hd
      have hc := Parse10_bad s hs (.inr hp) w hE
      clear hp hd hne
      go_enter Tryz.func67, Tryz.ntmps67
      go_wp2_with (go_at_call 90; refine hc.mono ?_; rintro e w1 ⟨⟨N, rfl⟩, hb1⟩)
      go_ret2
      exact ver_no _ HD.out hb1
end Go.Proofs.YtfkmgnldkmpeiaaGreatDoor.W20

namespace Go.Proofs.YtfkmgnldkmpeiaaGreatDoor.W20
open Go Go.RowKit P12 P18 P20 W12

/-- The value v is a slice of the headers l. -/
def RowsH (v : Value) (l : List Hdr) (w : World) : Prop :=
  ∃ o c, v = .slice o l.length c ∧ (l = [] ∨ ∃ g off, o = some ⟨g, off, none⟩ ∧ ∀ j h, l[j]? = some h → w.cell? ⟨g, off + j * 2, none⟩ = some (bs h.name) ∧ w.cell? ⟨g, off + j * 2 + 1, none⟩ = some (bs h.value))
theorem rowsH_nil (w : World) : RowsH (.slice none 0 0) [] w := ⟨none, 0, rfl, .inl rfl⟩
theorem RowsH.keep {v : Value} {l : List Hdr} {w w' : World} (h : RowsH v l w) (hb : Below w.heap.size w w') : RowsH v l w' := by
  obtain ⟨o, c, rfl, h0⟩ := h
  refine ⟨o, c, rfl, h0.imp id ?_⟩
  rintro ⟨g, off, rfl, h1⟩
  exact ⟨g, off, rfl, fun j x hj => ⟨keep_cell hb (h1 j x hj).1, keep_cell hb (h1 j x hj).2⟩⟩
abbrev reqV (M P Q : ByteArray) (v : Value) (Y : ByteArray) (c : Bool) : Value := .agg #[.string M, .string P, .string Q, v, .string Y, .bool c]
theorem getH_snoc (l : List Hdr) (h : Hdr) (n : By) : getH (l ++ [h]) n = getH l n ++ (if h.name = n then [h.value] else []) := by
  unfold getH
  rw [List.filter_append, List.map_append]
  congr 1
  by_cases e : h.name = n <;> simp [e]
theorem getN_hit {l : List Hdr} {h : Hdr} {n : By} (e : h.name = n) : getN (l ++ [h]) n = getN l n + 1 := by
  unfold getN
  rw [getH_snoc, if_pos e]
  simp
theorem getN_miss {l : List Hdr} {h : Hdr} {n : By} (e : h.name ≠ n) : getN (l ++ [h]) n = getN l n := by
  unfold getN
  rw [getH_snoc, if_neg e]
  simp
theorem getV_miss {l : List Hdr} {h : Hdr} {n : By} (e : h.name ≠ n) : getV (l ++ [h]) n = getV l n := by
  unfold getV
  rw [getH_snoc, if_neg e]
  simp
theorem getV_first {l : List Hdr} {h : Hdr} {n : By} (e : h.name = n) (h0 : getN l n = 0) : getV (l ++ [h]) n = h.value := by
  unfold getV
  rw [getH_snoc, if_pos e]
  have : getH l n = [] := List.eq_nil_of_length_eq_zero h0
  rw [this]
  rfl
theorem getV_later {l : List Hdr} {h : Hdr} {n : By} (h0 : getN l n ≠ 0) : getV (l ++ [h]) n = getV l n := by
  unfold getV
  rw [getH_snoc]
  cases hl : getH l n with
  | nil => exact absurd (by unfold getN; rw [hl]; rfl) h0
  | cons x xs => rfl
theorem getN_le (l : List Hdr) (n : By) : getN l n ≤ l.length := by
  unfold getN getH
  rw [List.length_map]
  exact List.length_filter_le _ _

set_option maxHeartbeats 3200000 in
set_option maxRecDepth 100000 in
theorem Get_any (M P Q : ByteArray) (v : Value) (Y : ByteArray) (c : Bool) (hs : List Hdr) (nm : ByteArray) (w : World) (hv : RowsH v hs w) (hl : hs.length ≤ 4611686018427387904) :
    Calls Tryz.prog 65 #[reqV M P Q v Y c, .string nm] w fun e w' => e = .returned (.tuple #[bs (getV hs nm.data.toList), .int .i64 (getN hs nm.data.toList)]) ∧ Below w.heap.size w w' := by
  obtain ⟨o, cp, rfl, hc⟩ := hv
  obtain ⟨N, hN⟩ : ∃ N, N = hs.length := ⟨_, rfl⟩
  rw [← hN] at hl ⊢
  have HN := Lib.hid hN
  have HC := Lib.hid hc
  clear hc hN
  go_enter Tryz.func65, Tryz.ntmps65
  go_wp2_with fail
  go_loopw [6, 7, 13] (fun a b i wr => ∃ (k n : Nat) (V : ByteArray), k ≤ N ∧ n ≤ k ∧ a = .string V ∧ b = .int .i64 n ∧ i = .int .i64 k ∧ Hid (V.data.toList = getV (hs.take k) nm.data.toList ∧ n = getN (hs.take k) nm.data.toList) ∧ Below w.heap.size w wr) (fun _ _ i _ => N - (intOf i).toNat)
  case atStart => exact ⟨0, 0, ⟨#[]⟩, by omega, by omega, rfl, rfl, rfl, Lib.hid ⟨by simp [getV, getH], by simp [getN, getH]⟩, below_alloc _ _⟩
  case round =>
    obtain ⟨k, n, V, hk, hnk, rfl, rfl, rfl, HV, hB⟩ := hrel
    by_cases hlt : k < N
    · obtain ⟨g, off, rfl, hcl⟩ := HC.out.resolve_left (by rintro rfl; have := HN.out; simp at this; omega)
      obtain ⟨x, hx⟩ : ∃ x, hs[k]? = some x := ⟨hs[k]'(by rw [← HN.out]; exact hlt), List.getElem?_eq_getElem _⟩
      have y0 := keep_cell hB (hcl k x hx).1
      have y1 := keep_cell hB (hcl k x hx).2
      have hx' : x = hs[k]'(by rw [← HN.out]; exact hlt) := by
        rw [List.getElem?_eq_getElem (by rw [← HN.out]; exact hlt)] at hx
        exact (Option.some.inj hx).symm
      have htk : hs.take (k + 1) = hs.take k ++ [x] := by rw [hx']; exact List.take_succ_eq_append_getElem _
      obtain ⟨A, hA⟩ : ∃ A : ByteArray, A = ⟨x.name.toArray⟩ := ⟨_, rfl⟩
      obtain ⟨B, hB2⟩ : ∃ A : ByteArray, A = ⟨x.value.toArray⟩ := ⟨_, rfl⟩
      simp only [bs] at y0 y1
      rw [← hA] at y0
      rw [← hB2] at y1
      have hAd : A.data.toList = x.name := by rw [hA]
      have hBd : B.data.toList = x.value := by rw [hB2]
      have hlt' : (k : Int) < (N : Int) := by omega
      obtain ⟨hv1, hv2⟩ := HV.out
      by_cases he : x.name = nm.data.toList
      · have hz : (A.toList == nm.toList) = true := by rw [Lib.toList_data, Lib.toList_data, hAd, he]; simp
        have hn2 : n + 1 = getN (hs.take (k + 1)) nm.data.toList := by rw [htk, getN_hit he, ← hv2]
        by_cases h0 : n = 0
        · subst h0
          have hv3 : B.data.toList = getV (hs.take (k + 1)) nm.data.toList := by rw [htk, getV_first he hv2.symm, hBd]
          have HV2 := Lib.hid (And.intro hv3 hn2)
          clear hv1 hv2 hv3 hn2 hAd hBd hA hB2 htk hx hx' hcl HV he
          go_wp2_with fail
          go_roundw
          case rel => exact ⟨k + 1, 1, B, by omega, by omega, rfl, rfl, by go_num, HV2, hB.trans ((below_alloc _ _).mono hB.size)⟩
          case measure => simp [intOf]; omega
        · have hv3 : V.data.toList = getV (hs.take (k + 1)) nm.data.toList := by rw [htk, getV_later (by rw [← hv2]; exact h0), hv1]
          have HV2 := Lib.hid (And.intro hv3 hn2)
          have hz1 : (((n : Int) + 1) == 1) = false := by rw [beq_eq_false_iff_ne]; omega
          clear hv1 hv2 hv3 hn2 hAd hBd hA hB2 htk hx hx' hcl HV he
          go_wp2_with fail
          go_roundw
          case rel => exact ⟨k + 1, n + 1, V, by omega, by omega, rfl, by go_num, by go_num, HV2, hB.trans ((below_alloc _ _).mono hB.size)⟩
          case measure => simp [intOf]; omega
      · have hz : (A.toList == nm.toList) = false := by rw [Lib.toList_data, Lib.toList_data, hAd]; exact beq_eq_false_iff_ne.2 he
        have hn2 : n = getN (hs.take (k + 1)) nm.data.toList := by rw [htk, getN_miss he, ← hv2]
        have hv3 : V.data.toList = getV (hs.take (k + 1)) nm.data.toList := by rw [htk, getV_miss he, hv1]
        have HV2 := Lib.hid (And.intro hv3 hn2)
        clear hv1 hv2 hv3 hn2 hAd hBd hA hB2 htk hx hx' hcl HV he
        go_wp2_with fail
        go_roundw
        case rel => exact ⟨k + 1, n, V, by omega, by omega, rfl, rfl, by go_num, HV2, hB.trans ((below_alloc _ _).mono hB.size)⟩
        case measure => simp [intOf]; omega
    · obtain rfl : k = N := by omega
      have hv := HV.out
      rw [List.take_of_length_le (by rw [← HN.out]; exact Nat.le_refl _)] at hv
      have HV2 := Lib.hid hv
      clear hv HV HC
      go_wp2_with fail
      go_ret2
      exact ⟨by rw [← HV2.out.1, ← HV2.out.2, bs_data]; rfl, hB⟩

set_option maxHeartbeats 3200000 in
set_option maxRecDepth 100000 in
theorem refGet_any (M P Q : ByteArray) (v : Value) (Y : ByteArray) (c : Bool) (hs : List Hdr) (nm : ByteArray) (w : World) (hv : RowsH v hs w) (hl : hs.length ≤ 4611686018427387904) :
    Calls Tryz.prog 72 #[reqV M P Q v Y c, .string nm] w fun e w' => e = .returned (.tuple #[bs (getV hs nm.data.toList), .int .i64 (getN hs nm.data.toList)]) ∧ Below w.heap.size w w' := by
  obtain ⟨o, cp, rfl, hc⟩ := hv
  obtain ⟨N, hN⟩ : ∃ N, N = hs.length := ⟨_, rfl⟩
  rw [← hN] at hl ⊢
  have HN := Lib.hid hN
  have HC := Lib.hid hc
  clear hc hN
  have hh := heap_new w (.cells #[.string M, .string P, .string Q, .slice o N cp, .string Y, .bool c] 25)
  have hbl := below_alloc w (.cells #[.string M, .string P, .string Q, .slice o N cp, .string Y, .bool c] 25)
  have z3 := Lib.cell_of_heap hh 3
  simp only [List.getElem?_toArray, List.getElem?_cons_succ, List.getElem?_cons_zero] at z3
  go_enter Tryz.func72, Tryz.ntmps72
  go_wp2_with fail
  generalize (w.alloc (.cells #[.string M, .string P, .string Q, .slice o N cp, .string Y, .bool c] 25)) = w1 at *
  go_loop [6, 7, 8] (fun a b i => ∃ (k n : Nat) (V : ByteArray), k ≤ N ∧ n ≤ k ∧ a = .string V ∧ b = .int .i64 n ∧ i = .int .i64 k ∧ Hid (V.data.toList = getV (hs.take k) nm.data.toList ∧ n = getN (hs.take k) nm.data.toList)) (fun _ _ i => N - (intOf i).toNat)
  case atStart => exact ⟨0, 0, ⟨#[]⟩, by omega, by omega, rfl, rfl, rfl, Lib.hid ⟨by simp [getV, getH], by simp [getN, getH]⟩⟩
  case round =>
    obtain ⟨k, n, V, hk, hnk, rfl, rfl, rfl, HV⟩ := hrel
    by_cases hlt : k < N
    · obtain ⟨g, off, rfl, hcl⟩ := HC.out.resolve_left (by rintro rfl; have := HN.out; simp at this; omega)
      obtain ⟨x, hx⟩ : ∃ x, hs[k]? = some x := ⟨hs[k]'(by rw [← HN.out]; exact hlt), List.getElem?_eq_getElem _⟩
      have y0 := keep_cell hbl (hcl k x hx).1
      have y1 := keep_cell hbl (hcl k x hx).2
      have hx' : x = hs[k]'(by rw [← HN.out]; exact hlt) := by
        rw [List.getElem?_eq_getElem (by rw [← HN.out]; exact hlt)] at hx
        exact (Option.some.inj hx).symm
      have htk : hs.take (k + 1) = hs.take k ++ [x] := by rw [hx']; exact List.take_succ_eq_append_getElem _
      obtain ⟨A, hA⟩ : ∃ A : ByteArray, A = ⟨x.name.toArray⟩ := ⟨_, rfl⟩
      obtain ⟨B, hB2⟩ : ∃ A : ByteArray, A = ⟨x.value.toArray⟩ := ⟨_, rfl⟩
      simp only [bs] at y0 y1
      rw [← hA] at y0
      rw [← hB2] at y1
      have hAd : A.data.toList = x.name := by rw [hA]
      have hBd : B.data.toList = x.value := by rw [hB2]
      have hlt' : (k : Int) < (N : Int) := by omega
      obtain ⟨hv1, hv2⟩ := HV.out
      by_cases he : x.name = nm.data.toList
      · have hz : (A.toList == nm.toList) = true := by rw [Lib.toList_data, Lib.toList_data, hAd, he]; simp
        have hn2 : n + 1 = getN (hs.take (k + 1)) nm.data.toList := by rw [htk, getN_hit he, ← hv2]
        by_cases h0 : n = 0
        · subst h0
          have hv3 : B.data.toList = getV (hs.take (k + 1)) nm.data.toList := by rw [htk, getV_first he hv2.symm, hBd]
          have HV2 := Lib.hid (And.intro hv3 hn2)
          clear hv1 hv2 hv3 hn2 hAd hBd hA hB2 htk hx hx' hcl HV he
          go_wp2_with fail
          go_round
          case rel => exact ⟨k + 1, 1, B, by omega, by omega, rfl, rfl, by go_num, HV2⟩
          case measure => simp [intOf]; omega
        · have hv3 : V.data.toList = getV (hs.take (k + 1)) nm.data.toList := by rw [htk, getV_later (by rw [← hv2]; exact h0), hv1]
          have HV2 := Lib.hid (And.intro hv3 hn2)
          have hz1 : ((n : Int) == 0) = false := by rw [beq_eq_false_iff_ne]; omega
          clear hv1 hv2 hv3 hn2 hAd hBd hA hB2 htk hx hx' hcl HV he
          go_wp2_with fail
          go_round
          case rel => exact ⟨k + 1, n + 1, V, by omega, by omega, rfl, by go_num, by go_num, HV2⟩
          case measure => simp [intOf]; omega
      · have hz : (A.toList == nm.toList) = false := by rw [Lib.toList_data, Lib.toList_data, hAd]; exact beq_eq_false_iff_ne.2 he
        have hn2 : n = getN (hs.take (k + 1)) nm.data.toList := by rw [htk, getN_miss he, ← hv2]
        have hv3 : V.data.toList = getV (hs.take (k + 1)) nm.data.toList := by rw [htk, getV_miss he, hv1]
        have HV2 := Lib.hid (And.intro hv3 hn2)
        clear hv1 hv2 hv3 hn2 hAd hBd hA hB2 htk hx hx' hcl HV he
        go_wp2_with fail
        go_round
        case rel => exact ⟨k + 1, n, V, by omega, by omega, rfl, rfl, by go_num, HV2⟩
        case measure => simp [intOf]; omega
    · obtain rfl : k = N := by omega
      have hv := HV.out
      rw [List.take_of_length_le (by rw [← HN.out]; exact Nat.le_refl _)] at hv
      have HV2 := Lib.hid hv
      clear hv HV HC
      go_wp2_with fail
      go_ret2
      exact ⟨by rw [← HV2.out.1, ← HV2.out.2, bs_data]; rfl, hbl⟩
end Go.Proofs.YtfkmgnldkmpeiaaGreatDoor.W20

namespace Go.Proofs.YtfkmgnldkmpeiaaGreatDoor.W12
open Go Go.RowKit P12 Go.Sort

/-- A slice in memory from block B on, if it has an address. -/
def Fresh (B : Nat) (v : Value) : Prop := ∀ (a : Addr) (n c : Nat), v = .slice (some a) n c → B ≤ a.block
theorem fresh_nil (B : Nat) : Fresh B (.slice none 0 0) := fun a n c h => by cases h
theorem fresh_at {B g n c : Nat} (h : B ≤ g) : Fresh B (.slice (some ⟨g, 0, none⟩) n c) := fun a m d e => by
  injection e with e1
  injection e1 with e1
  subst e1
  exact h
set_option maxHeartbeats 3200000 in
set_option maxRecDepth 100000 in
theorem Read_new (text : ByteArray) (w : World) (hE : Env w) (htext : text.size ≤ 140737488355328) :
    Calls Tryz.prog 18 #[.string text] w fun e w' => ∃ v, e = .returned (.tuple #[v, .int .i64 (readL text.data.toList).2]) ∧ Rows v (readL text.data.toList).1 w' ∧ Fresh w.heap.size v ∧ RowKit.Below w.heap.size w w' := by
  by_cases h0 : text.size = 0
  · have hemp := toList_nil text h0
    have HN := Lib.hid (show readL text.data.toList = ([], 0) by rw [empty_list text h0]; rfl)
    rw [HN.out]
    clear h0
    go_enter Tryz.func18, Tryz.ntmps18
    go_wp2_with fail
    go_ret2
    exact ⟨_, rfl, rows_nil _, fresh_nil _, RowKit.Below.refl _ _⟩
  · have hp : 0 < text.size := by omega
    have hemp := toList_cons text hp
    have hne := toList_ne text hp
    have hrd : readL text.data.toList = (sortL (foldP [] (partsL 38 text.data.toList)).1, (foldP [] (partsL 38 text.data.toList)).2) := by unfold readL; rw [if_neg hne]
    have hmm := @run_makeMap Tryz.prog
    obtain ⟨W3, hW3⟩ : ∃ W3, W3 = ((w.alloc (.cells #[.slice none 0 0] 26)).alloc (.map #[] 0)).alloc (.cells #[.map (some (w.heap.size + 1))] 98) := ⟨_, rfl⟩
    have hS : St w.heap.size w.heap.size (w.heap.size + 1 + 1) (w.heap.size + 1) [] W3 := by
      have h1 := heap_new w (.cells #[.slice none 0 0] 26)
      have h3 := heap_new ((w.alloc (.cells #[.slice none 0 0] 26)).alloc (.map #[] 0)) (.cells #[.map (some (w.heap.size + 1))] 98)
      have hs := seen_made (w.alloc (.cells #[.slice none 0 0] 26))
      rw [World.size_alloc] at hs
      rw [World.size_alloc, World.size_alloc] at h3
      have hk1 : RowKit.Below (w.alloc (.cells #[.slice none 0 0] 26)).heap.size (w.alloc (.cells #[.slice none 0 0] 26)) W3 := by rw [hW3]; exact below_then (below_alloc _ _) (below_alloc _ _)
      refine ⟨⟨.slice none 0 0, ?_, World.ownsRow_nil _ _ _ _⟩, by rw [hW3]; exact h3, by rw [hW3]; exact hs.keep (below_alloc _ _), Nat.le_refl _, by omega, by omega, by omega, by omega⟩
      rw [hk1.block _ (by simp)]
      exact h1
    have hB3 : RowKit.Below w.heap.size w W3 := by rw [hW3]; exact below_then (below_alloc _ _) (below_then (below_alloc _ _) (below_alloc _ _))
    have hcon := parts_any w w.heap.size (w.heap.size + 1 + 1) (w.heap.size + 1) text W3 hE hB3 hS htext
    have hok := foldP_ok (partsL 38 text.data.toList) [] (by simp) (by simp) List.Pairwise.nil
    have hfl := foldP_length (partsL 38 text.data.toList) []
    have hpne := partsL_ne 38 text.data.toList
    unfold PartsPost at hcon
    rw [hrd]
    rw [hW3] at hcon
    have hB3' := hB3
    rw [hW3] at hB3'
    obtain ⟨L, E, hLE⟩ : ∃ L E, foldP [] (partsL 38 text.data.toList) = (L, E) := ⟨_, _, rfl⟩
    rw [hLE] at hcon hok hfl ⊢
    simp only at hcon hok hfl ⊢
    have HOK := Lib.hid hok
    have HFL := Lib.hid hfl
    have HPN := Lib.hid hpne
    have HCON := Lib.hid hcon
    have hbad : E ≠ 0 → L = [] := fun h => by
      have := foldP_bad (partsL 38 text.data.toList) [] (by rw [hLE]; exact h)
      rw [hLE] at this
      exact this
    have HBAD := Lib.hid hbad
    clear hLE hrd hok hfl hpne hcon hne h0 hW3 hS hB3 hbad
    by_cases hE0 : E = 0
    · subst hE0
      go_enter Tryz.func18, Tryz.ntmps18
      go_wp2_with (go_at_call 47; refine HCON.out.mono ?_; rintro e w2 ⟨rfl, hb2, hS2⟩; refine Hid.out ?_)
      refine Lib.hid ?_
      have hS3 := hS2 trivial
      obtain ⟨v, x1, hown⟩ := hS3.out
      have hlen : 1 ≤ L.length := by
        have h1 := HFL.out trivial
        have h2 : (partsL 38 text.data.toList).length ≠ 0 := fun h => HPN.out (List.length_eq_zero_iff.1 h)
        simp at h1
        omega
      obtain ⟨g, cap, rfl, hgB, hgw⟩ : ∃ g cap, v = .slice (some ⟨g, 0, none⟩) L.length cap ∧ w.heap.size ≤ g ∧ g < w2.heap.size := by
        rcases hown.2 with ⟨h1, h2⟩ | ⟨g, cap, cur, h1, h2, h3, _⟩
        · omega
        · exact ⟨g, cap, h1, h2, lt_of_block h3⟩
      have hH := holdsK_own hown
      have hgne : g ≠ w.heap.size := by
        intro e
        rcases hown.2 with ⟨h1, h2⟩ | ⟨g', cap', cur, hv, hg, hb, _⟩
        · omega
        · injection hv with e1 e2 e3
          injection e1 with e1
          injection e1 with e1
          rw [← e1, e, x1] at hb
          simp at hb
      have hB2 := hB3'.trans hb2
      have hbw2 : w.heap.size ≤ w2.heap.size := hB2.size
      have hsort := AnyQ.slices_SortFunc Tryz.sortF 4 Tryz.isAgg54 Tryz.sizeOf54 cellsF1 cellsF1_len cellsF1_one cmpF swo_cmpF 52 #[] g 0 cap L.toArray w2 (enters_of Tryz.func52 (by kernel_rfl) rfl) (lays_closure g 0 L.toArray.size w2) hH hgw (by simp; have := HOK.out.1; omega)
      rw [List.size_toArray] at hsort
      change Calls Tryz.prog 51 _ _ _ at hsort
      have c1 := cell_of_one x1
      have HS := Lib.hid hsort
      have HH := Lib.hid hH
      have hx1 := Lib.hid x1
      clear hsort hH hS2 hS3 hown x1
      go_wp2_with (go_at_call 51; refine HS.out.mono ?_; rintro e w3 ⟨rfl, d', n, os, hperm, hsrt, rfl⟩; refine Hid.out ?_)
      refine Lib.hid ?_
      have hd := sorted_is HOK.out.2.2 (by simpa using hperm) (by simpa using hsrt)
      have hsz : d'.size = L.length := by have := hperm.1; simpa using this
      have hH3 := holdsK_sortWorldK_c cellsF1 4 w2 g 0 L.toArray d' n os HH.out hgw (by simpa using hsz)
      have hrows := rows_holds (cap := cap) hH3
      rw [hd, hsz] at hrows
      have hB4 := below_sorted (n := n) (d := d') (os := os) hB2 hgB hbw2
      have c2 : (sortWorldK cellsF1 4 w2 g 0 n d' os).cell? ⟨w.heap.size, 0, none⟩ = some (.slice (some ⟨g, 0, none⟩) L.length cap) := by
        have h1 := cell?_putRowK_other cellsF1 4 (Sort.ahead w2 n) g 0 d' ⟨w.heap.size, 0, none⟩ (Ne.symm hgne)
        have hlt := lt_of_block hx1.out
        have h2 : (sortWorldK cellsF1 4 w2 g 0 n d' os).cell? ⟨w.heap.size, 0, none⟩ = (putRowK cellsF1 4 (Sort.ahead w2 n) g 0 d').cell? ⟨w.heap.size, 0, none⟩ := by
          exact cell?_grow _ os _ (by simp [putRowK, putRow, mapBlock, Sort.ahead]; exact hlt)
        rw [h2, h1]
        exact c1
      have HRW := Lib.hid hrows
      generalize sortWorldK cellsF1 4 w2 g 0 n d' os = W4 at *
      clear hperm hsrt hrows hd hH3 hsz
      go_wp2_with fail
      go_ret2
      exact ⟨_, rfl, HRW.out, fresh_at hgB, hB4⟩
    · have hEb : (E == 0) = false := by rw [beq_eq_false_iff_ne]; exact hE0
      obtain rfl := HBAD.out hE0
      clear hE0
      go_enter Tryz.func18, Tryz.ntmps18
      go_wp2_with (go_at_call 47; refine HCON.out.mono ?_; rintro e w2 ⟨rfl, hb2, hS2⟩)
      go_ret2
      exact ⟨_, rfl, rows_nil _, fresh_nil _, hB3'.trans hb2⟩
end Go.Proofs.YtfkmgnldkmpeiaaGreatDoor.W12
