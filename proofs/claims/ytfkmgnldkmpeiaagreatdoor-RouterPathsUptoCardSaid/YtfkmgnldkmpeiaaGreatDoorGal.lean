/-
  Walks of layer 12: the reference's Number. Conditions: the text is within Go's own limit.
  Walks of layer 12: the reference's value. Conditions: the text is within Go's own limit.
  Walks of layer 12: the reference's Cut. Conditions: sixteen times the text's length is within Go's own limit.
-/
import Derived.Test.YtfkmgnldkmpeiaaGreatDoorGak
import Derived.Test.YtfkmgnldkmpeiaaGreatDoorGag
import Derived.Test.YtfkmgnldkmpeiaaGreatDoorGai

namespace Go.Proofs.YtfkmgnldkmpeiaaGreatDoor.W12
open Go Go.RowKit P12
open Dig hiding By

def numEnd (r : Option Int) : Value := match r with
  | some v => .tuple #[.int .i64 v, .bool true]
  | none => .tuple #[.int .i64 0, .bool false]

theorem tail_extract (s : ByteArray) (h : 0 < s.size) : (s.extract 1 s.size).data.toList = s.data.toList.tail ∧ (s.extract 1 s.size).size + 1 = s.size := by
  have h1 : (s.extract 1 s.size).data.toList = s.data.toList.tail := by
    simp
    rw [List.take_of_length_le]
    rw [List.length_tail, size_data]
    exact Nat.le_refl _
  refine ⟨h1, ?_⟩
  rw [← size_data, h1, List.length_tail, size_data]
  omega
/-- The numeral's test against the least int. -/
theorem quo_test (m d : Nat) (hd : d < 10) : (-(m : Int) < Int.tdiv (-9223372036854775808 + (d : Int)) 10) ↔ 9223372036854775808 < 10 * m + d := by
  have e : (-9223372036854775808 + (d : Int)) = -((9223372036854775808 - d : Nat) : Int) := by omega
  rw [e, Int.neg_tdiv]
  have : Int.tdiv ((9223372036854775808 - d : Nat) : Int) 10 = (((9223372036854775808 - d) / 10 : Nat) : Int) := rfl
  rw [this]
  omega
theorem quo_range (d : Nat) (hd : d < 10) : Int.tdiv (-9223372036854775808 + (d : Int)) 10 ≤ 0 ∧ -922337203685477581 ≤ Int.tdiv (-9223372036854775808 + (d : Int)) 10 := by
  have e : (-9223372036854775808 + (d : Int)) = -((9223372036854775808 - d : Nat) : Int) := by omega
  rw [e, Int.neg_tdiv]
  have : Int.tdiv ((9223372036854775808 - d : Nat) : Int) 10 = (((9223372036854775808 - d) / 10 : Nat) : Int) := rfl
  rw [this]
  omega

theorem accN_step {m : Nat} {c : UInt8} {l : By} (h : 48 ≤ c.toNat ∧ c.toNat ≤ 57) (h2 : ¬ 9223372036854775808 < 10 * m + (c.toNat - 48)) : accN m (c :: l) = accN (10 * m + (c.toNat - 48)) l := by
  rw [accN, if_pos (isDig_iff.2 h), if_neg h2]
theorem accN_big {m : Nat} {c : UInt8} {l : By} (h : 48 ≤ c.toNat ∧ c.toNat ≤ 57) (h2 : 9223372036854775808 < 10 * m + (c.toNat - 48)) : accN m (c :: l) = none := by
  rw [accN, if_pos (isDig_iff.2 h), if_pos h2]
theorem accN_bad {m : Nat} {c : UInt8} {l : By} (h : ¬ (48 ≤ c.toNat ∧ c.toNat ≤ 57)) : accN m (c :: l) = none := by
  rw [accN, if_neg (fun e => h (isDig_iff.1 e))]

/-- What the reference's numeral says, from what its digits say. -/
structure Says (s D : ByteArray) : Prop where
  non : accN 0 D.data.toList = none → refNum s.data.toList = none
  som : ∀ {m : Nat}, accN 0 D.data.toList = some m → refNum s.data.toList = if D.size < s.size then some (-(m : Int)) else if m = 9223372036854775808 then none else some (m : Int)
theorem says_of {s D : ByteArray} (hD : D.data.toList = restOf s.data.toList) (h : ¬ (D.size < 1 ∨ 19 < D.size ∨ (D.data.toList.head? = some 48 ∧ s.data.toList ≠ [48]))) : Says s D := by
  have e1 : (restOf s.data.toList).length = D.size := by rw [← hD, size_data]
  have h' : ¬ ((restOf s.data.toList).length < 1 ∨ 19 < (restOf s.data.toList).length ∨ ((restOf s.data.toList).head? = some 48 ∧ s.data.toList ≠ [48])) := by rw [e1, ← hD]; exact h
  constructor
  · intro ha
    unfold refNum
    rw [if_neg h', ← hD, ha]
  · intro m ha
    unfold refNum
    rw [if_neg h', e1, ← hD, ha, size_data]
theorem says_none {s D : ByteArray} (hD : D.data.toList = restOf s.data.toList) (h : D.size < 1 ∨ 19 < D.size ∨ (D.data.toList.head? = some 48 ∧ s.data.toList ≠ [48])) : refNum s.data.toList = none := by
  have e1 : (restOf s.data.toList).length = D.size := by rw [← hD, size_data]
  unfold refNum
  rw [if_pos]
  rw [e1, ← hD]
  exact h
theorem head_at (s : ByteArray) (h : 0 < s.size) : s.data.toList.head? = some (s[0]'h) := by
  obtain ⟨l, hl⟩ := first_byte s h
  rw [hl]; rfl

set_option maxHeartbeats 3200000 in
set_option maxRecDepth 100000 in
/-- A numeral without its sign. -/
theorem Number_plain (D : ByteArray) (w : World) (hneg : D.data.toList.head? ≠ some 45) (hs : D.size ≤ 140737488355328) :
    Calls Tryz.prog 128 #[.string D] w fun e w' => e = .returned (numEnd (refNum D.data.toList)) ∧ Below w.heap.size w w' := by
  have hD : D.data.toList = restOf D.data.toList := by unfold restOf; rw [if_neg hneg]
  by_cases h0 : D.size < 1
  · have HV := Lib.hid (says_none hD (.inl h0))
    have hz : D.size = 0 := by omega
    clear hD hneg
    go_enter Tryz.func128, Tryz.ntmps128
    go_wp2_with fail
    go_ret2
    exact ⟨by rw [HV.out]; rfl, Below.refl _ _⟩
  have hpos : 0 < D.size := by omega
  have hhead := head_at D hpos
  rw [hhead] at hneg
  have hmin : (((D[0]'hpos).toNat : Int) == 45) = false := by
    rw [beq_eq_false_iff_ne]
    intro e
    apply hneg
    congr 1
    apply UInt8.toNat_inj.1
    have : ((45 : UInt8).toNat) = 45 := rfl
    omega
  by_cases h19 : 19 < D.size
  · have HV := Lib.hid (says_none hD (.inr (.inl h19)))
    clear hD hneg hhead
    go_enter Tryz.func128, Tryz.ntmps128
    go_wp2_with fail
    go_ret2
    exact ⟨by rw [HV.out]; rfl, Below.refl _ _⟩
  by_cases hh : D[0]'hpos = 48
  · have hz : (((D[0]'hpos).toNat : Int) == 48) = true := by rw [hh]; rfl
    by_cases hone : D.data.toList = [48]
    · have HR := Lib.hid (says_of hD (by rw [hone]; rintro (h | h | h) <;> first | omega | exact h.2 rfl))
      have hne : (D.toList != [48]) = false := by rw [Lib.toList_data, hone]; rfl
      have hne2 : (D.toList == [48]) = true := by rw [Lib.toList_data, hone]; rfl
      clear hD hneg hhead hone hh
      go_enter Tryz.func128, Tryz.ntmps128
      go_wp2_with fail
      go_loopw [5, 6] (fun v i wr => ∃ k m : Nat, k ≤ D.size ∧ i = .int .i64 k ∧ v = .int .i64 (-(m : Int)) ∧ m ≤ 9223372036854775808 ∧ Hid (accN 0 D.data.toList = accN m (D.data.toList.drop k)) ∧ Below w.heap.size w wr) (fun _ i _ => D.size - (intOf i).toNat)
      case atStart => exact ⟨0, 0, by omega, rfl, rfl, by omega, Lib.hid (by rw [List.drop_zero]), Below.refl _ _⟩
      case round =>
        obtain ⟨k, m, hk, rfl, rfl, hm, HA, hB⟩ := hrel
        by_cases hlt : k < D.size
        · have hlt' : (k : Int) < (D.size : Int) := by omega
          have hgd := get_drop D k hlt
          by_cases hd : 48 ≤ (D[k]'hlt).toNat ∧ (D[k]'hlt).toNat ≤ 57
          · obtain ⟨d, hdd⟩ : ∃ d, d = (D[k]'hlt).toNat - 48 := ⟨_, rfl⟩
            have hd10 : d < 10 := by omega
            have hc : ((D[k]'hlt).toNat : Int) - 48 = (d : Int) := by omega
            have hlo : 48 ≤ (D[k]'hlt).toNat := hd.1
            have hhi : (D[k]'hlt).toNat ≤ 57 := hd.2
            have hq := quo_test m d hd10
            obtain ⟨q1, q2⟩ := quo_range d hd10
            by_cases hbig : 9223372036854775808 < 10 * m + d
            · have hN : accN 0 D.data.toList = none := by rw [HA.out, hgd, accN_big hd (by rw [← hdd]; exact hbig)]
              have HV := Lib.hid (HR.out.non hN)
              have hlq := hq.2 hbig
              clear hgd hd hdd hN hq HA
              go_wp2_with fail
              go_ret2
              exact ⟨by rw [HV.out]; rfl, hB⟩
            · have hS : accN 0 D.data.toList = accN (10 * m + d) (D.data.toList.drop (k + 1)) := by rw [HA.out, hgd, accN_step hd (by rw [← hdd]; exact hbig), ← hdd]
              have HS := Lib.hid hS
              have hlq : ¬ (-(m : Int) < Int.tdiv (-9223372036854775808 + (d : Int)) 10) := fun h => hbig (hq.1 h)
              clear hgd hd hdd hS hq HA
              go_wp2_with fail
              go_roundw
              case rel => exact ⟨k + 1, 10 * m + d, by omega, by go_num, by go_num, by omega, HS, hB⟩
              case measure => simp [intOf]; omega
          · have hN : accN 0 D.data.toList = none := by rw [HA.out, hgd, accN_bad hd]
            have HV := Lib.hid (HR.out.non hN)
            clear hgd hN HA
            by_cases h48 : (D[k]'hlt).toNat < 48
            · clear hd
              go_wp2_with fail
              go_ret2
              exact ⟨by rw [HV.out]; rfl, hB⟩
            · have h57 : 57 < (D[k]'hlt).toNat := by omega
              clear hd
              go_wp2_with fail
              go_ret2
              exact ⟨by rw [HV.out]; rfl, hB⟩
        · obtain rfl : k = D.size := by omega
          have hS : accN 0 D.data.toList = some m := by rw [HA.out, List.drop_eq_nil_of_le (by rw [size_data]; exact Nat.le_refl _)]; rfl
          have HV := Lib.hid (HR.out.som hS)
          clear hS HA
          have hnd : ¬ (D.size < D.size) := by omega
          rw [if_neg hnd] at HV
          by_cases hmx : m = 9223372036854775808
          · rw [if_pos hmx] at HV
            have hmb : (-(m : Int) == -9223372036854775808) = true := by rw [beq_iff_eq]; omega
            go_wp2_with fail
            go_ret2
            exact ⟨by rw [HV.out]; rfl, hB⟩
          · rw [if_neg hmx] at HV
            have hmb : (-(m : Int) == -9223372036854775808) = false := by rw [beq_eq_false_iff_ne]; omega
            go_wp2_with fail
            go_ret2
            exact ⟨by rw [HV.out]; simp [numEnd], hB⟩
    · have HV := Lib.hid (says_none hD (.inr (.inr ⟨by rw [hhead, hh], hone⟩)))
      have hne : (D.toList != [48]) = true := by rw [Lib.toList_data, bne_iff_ne]; exact hone
      have hne2 : (D.toList == [48]) = false := by rw [Lib.toList_data, beq_eq_false_iff_ne]; exact hone
      clear hD hneg hhead hone hh
      go_enter Tryz.func128, Tryz.ntmps128
      go_wp2_with fail
      go_ret2
      exact ⟨by rw [HV.out]; rfl, Below.refl _ _⟩
  · have hz : (((D[0]'hpos).toNat : Int) == 48) = false := by
      rw [beq_eq_false_iff_ne]
      intro e
      apply hh
      apply UInt8.toNat_inj.1
      have : ((48 : UInt8).toNat) = 48 := rfl
      omega
    have HR := Lib.hid (says_of hD (by rw [hhead]; rintro (h | h | h) <;> first | omega | exact hh (Option.some.inj h.1)))
    clear hD hneg hhead hh
    go_enter Tryz.func128, Tryz.ntmps128
    go_wp2_with fail
    go_loopw [5, 6] (fun v i wr => ∃ k m : Nat, k ≤ D.size ∧ i = .int .i64 k ∧ v = .int .i64 (-(m : Int)) ∧ m ≤ 9223372036854775808 ∧ Hid (accN 0 D.data.toList = accN m (D.data.toList.drop k)) ∧ Below w.heap.size w wr) (fun _ i _ => D.size - (intOf i).toNat)
    case atStart => exact ⟨0, 0, by omega, rfl, rfl, by omega, Lib.hid (by rw [List.drop_zero]), Below.refl _ _⟩
    case round =>
      obtain ⟨k, m, hk, rfl, rfl, hm, HA, hB⟩ := hrel
      by_cases hlt : k < D.size
      · have hlt' : (k : Int) < (D.size : Int) := by omega
        have hgd := get_drop D k hlt
        by_cases hd : 48 ≤ (D[k]'hlt).toNat ∧ (D[k]'hlt).toNat ≤ 57
        · obtain ⟨d, hdd⟩ : ∃ d, d = (D[k]'hlt).toNat - 48 := ⟨_, rfl⟩
          have hd10 : d < 10 := by omega
          have hc : ((D[k]'hlt).toNat : Int) - 48 = (d : Int) := by omega
          have hlo : 48 ≤ (D[k]'hlt).toNat := hd.1
          have hhi : (D[k]'hlt).toNat ≤ 57 := hd.2
          have hq := quo_test m d hd10
          obtain ⟨q1, q2⟩ := quo_range d hd10
          by_cases hbig : 9223372036854775808 < 10 * m + d
          · have hN : accN 0 D.data.toList = none := by rw [HA.out, hgd, accN_big hd (by rw [← hdd]; exact hbig)]
            have HV := Lib.hid (HR.out.non hN)
            have hlq := hq.2 hbig
            clear hgd hd hdd hN hq HA
            go_wp2_with fail
            go_ret2
            exact ⟨by rw [HV.out]; rfl, hB⟩
          · have hS : accN 0 D.data.toList = accN (10 * m + d) (D.data.toList.drop (k + 1)) := by rw [HA.out, hgd, accN_step hd (by rw [← hdd]; exact hbig), ← hdd]
            have HS := Lib.hid hS
            have hlq : ¬ (-(m : Int) < Int.tdiv (-9223372036854775808 + (d : Int)) 10) := fun h => hbig (hq.1 h)
            clear hgd hd hdd hS hq HA
            go_wp2_with fail
            go_roundw
            case rel => exact ⟨k + 1, 10 * m + d, by omega, by go_num, by go_num, by omega, HS, hB⟩
            case measure => simp [intOf]; omega
        · have hN : accN 0 D.data.toList = none := by rw [HA.out, hgd, accN_bad hd]
          have HV := Lib.hid (HR.out.non hN)
          clear hgd hN HA
          by_cases h48 : (D[k]'hlt).toNat < 48
          · clear hd
            go_wp2_with fail
            go_ret2
            exact ⟨by rw [HV.out]; rfl, hB⟩
          · have h57 : 57 < (D[k]'hlt).toNat := by omega
            clear hd
            go_wp2_with fail
            go_ret2
            exact ⟨by rw [HV.out]; rfl, hB⟩
      · obtain rfl : k = D.size := by omega
        have hS : accN 0 D.data.toList = some m := by rw [HA.out, List.drop_eq_nil_of_le (by rw [size_data]; exact Nat.le_refl _)]; rfl
        have HV := Lib.hid (HR.out.som hS)
        clear hS HA
        have hnd : ¬ (D.size < D.size) := by omega
        rw [if_neg hnd] at HV
        by_cases hmx : m = 9223372036854775808
        · rw [if_pos hmx] at HV
          have hmb : (-(m : Int) == -9223372036854775808) = true := by rw [beq_iff_eq]; omega
          go_wp2_with fail
          go_ret2
          exact ⟨by rw [HV.out]; rfl, hB⟩
        · rw [if_neg hmx] at HV
          have hmb : (-(m : Int) == -9223372036854775808) = false := by rw [beq_eq_false_iff_ne]; omega
          go_wp2_with fail
          go_ret2
          exact ⟨by rw [HV.out]; simp [numEnd], hB⟩

set_option maxHeartbeats 3200000 in
set_option maxRecDepth 100000 in
/-- A numeral with its sign. -/
theorem Number_sign (s : ByteArray) (w : World) (hpos : 0 < s.size) (hneg : s[0]'hpos = 45) (hs : s.size ≤ 140737488355328) :
    Calls Tryz.prog 128 #[.string s] w fun e w' => e = .returned (numEnd (refNum s.data.toList)) ∧ Below w.heap.size w w' := by
  have hshead := head_at s hpos
  obtain ⟨D, hDe⟩ : ∃ D, D = s.extract 1 s.size := ⟨_, rfl⟩
  obtain ⟨t1, t2⟩ := tail_extract s hpos
  rw [← hDe] at t1 t2
  have hD : D.data.toList = restOf s.data.toList := by unfold restOf; rw [if_pos (by rw [hshead, hneg]), t1]
  have hone : s.data.toList ≠ [48] := by
    intro e
    rw [e, hneg] at hshead
    cases hshead
  have hne : (s.toList != [48]) = true := by rw [Lib.toList_data, bne_iff_ne]; exact hone
  have hne2 : (s.toList == [48]) = false := by rw [Lib.toList_data, beq_eq_false_iff_ne]; exact hone
  have hmin : (((s[0]'hpos).toNat : Int) == 45) = true := by rw [hneg]; rfl
  have HDE := Lib.hid hDe
  clear t1 hDe hshead hneg
  by_cases h0 : D.size < 1
  · have HV := Lib.hid (says_none hD (.inl h0))
    have hz : D.size = 0 := by omega
    clear hD hone
    go_enter Tryz.func128, Tryz.ntmps128
    go_wp2_with (rw [← HDE.out])
    go_ret2
    exact ⟨by rw [HV.out]; rfl, Below.refl _ _⟩
  have hpD : 0 < D.size := by omega
  have hhead := head_at D hpD
  by_cases h19 : 19 < D.size
  · have HV := Lib.hid (says_none hD (.inr (.inl h19)))
    clear hD hone hhead
    go_enter Tryz.func128, Tryz.ntmps128
    go_wp2_with (rw [← HDE.out])
    go_ret2
    exact ⟨by rw [HV.out]; rfl, Below.refl _ _⟩
  by_cases hh : D[0]'hpD = 48
  · have hz : (((D[0]'hpD).toNat : Int) == 48) = true := by rw [hh]; rfl
    have HV := Lib.hid (says_none hD (.inr (.inr ⟨by rw [hhead, hh], hone⟩)))
    clear hD hone hhead hh
    go_enter Tryz.func128, Tryz.ntmps128
    go_wp2_with (rw [← HDE.out])
    go_ret2
    exact ⟨by rw [HV.out]; rfl, Below.refl _ _⟩
  · have hz : (((D[0]'hpD).toNat : Int) == 48) = false := by
      rw [beq_eq_false_iff_ne]
      intro e
      apply hh
      apply UInt8.toNat_inj.1
      have : ((48 : UInt8).toNat) = 48 := rfl
      omega
    have HR := Lib.hid (says_of hD (by rw [hhead]; rintro (h | h | h) <;> first | omega | exact hh (Option.some.inj h.1)))
    clear hD hone hhead hh
    go_enter Tryz.func128, Tryz.ntmps128
    go_wp2_with (rw [← HDE.out])
    go_loopw [5, 6] (fun v i wr => ∃ k m : Nat, k ≤ D.size ∧ i = .int .i64 k ∧ v = .int .i64 (-(m : Int)) ∧ m ≤ 9223372036854775808 ∧ Hid (accN 0 D.data.toList = accN m (D.data.toList.drop k)) ∧ Below w.heap.size w wr) (fun _ i _ => D.size - (intOf i).toNat)
    case atStart => exact ⟨0, 0, by omega, rfl, rfl, by omega, Lib.hid (by rw [List.drop_zero]), Below.refl _ _⟩
    case round =>
      obtain ⟨k, m, hk, rfl, rfl, hm, HA, hB⟩ := hrel
      by_cases hlt : k < D.size
      · have hlt' : (k : Int) < (D.size : Int) := by omega
        have hgd := get_drop D k hlt
        by_cases hd : 48 ≤ (D[k]'hlt).toNat ∧ (D[k]'hlt).toNat ≤ 57
        · obtain ⟨d, hdd⟩ : ∃ d, d = (D[k]'hlt).toNat - 48 := ⟨_, rfl⟩
          have hd10 : d < 10 := by omega
          have hc : ((D[k]'hlt).toNat : Int) - 48 = (d : Int) := by omega
          have hlo : 48 ≤ (D[k]'hlt).toNat := hd.1
          have hhi : (D[k]'hlt).toNat ≤ 57 := hd.2
          have hq := quo_test m d hd10
          obtain ⟨q1, q2⟩ := quo_range d hd10
          by_cases hbig : 9223372036854775808 < 10 * m + d
          · have hN : accN 0 D.data.toList = none := by rw [HA.out, hgd, accN_big hd (by rw [← hdd]; exact hbig)]
            have HV := Lib.hid (HR.out.non hN)
            have hlq := hq.2 hbig
            clear hgd hd hdd hN hq HA
            go_wp2_with fail
            go_ret2
            exact ⟨by rw [HV.out]; rfl, hB⟩
          · have hS : accN 0 D.data.toList = accN (10 * m + d) (D.data.toList.drop (k + 1)) := by rw [HA.out, hgd, accN_step hd (by rw [← hdd]; exact hbig), ← hdd]
            have HS := Lib.hid hS
            have hlq : ¬ (-(m : Int) < Int.tdiv (-9223372036854775808 + (d : Int)) 10) := fun h => hbig (hq.1 h)
            clear hgd hd hdd hS hq HA
            go_wp2_with fail
            go_roundw
            case rel => exact ⟨k + 1, 10 * m + d, by omega, by go_num, by go_num, by omega, HS, hB⟩
            case measure => simp [intOf]; omega
        · have hN : accN 0 D.data.toList = none := by rw [HA.out, hgd, accN_bad hd]
          have HV := Lib.hid (HR.out.non hN)
          clear hgd hN HA
          by_cases h48 : (D[k]'hlt).toNat < 48
          · clear hd
            go_wp2_with fail
            go_ret2
            exact ⟨by rw [HV.out]; rfl, hB⟩
          · have h57 : 57 < (D[k]'hlt).toNat := by omega
            clear hd
            go_wp2_with fail
            go_ret2
            exact ⟨by rw [HV.out]; rfl, hB⟩
      · obtain rfl : k = D.size := by omega
        have hS : accN 0 D.data.toList = some m := by rw [HA.out, List.drop_eq_nil_of_le (by rw [size_data]; exact Nat.le_refl _)]; rfl
        have HV := Lib.hid (HR.out.som hS)
        clear hS HA
        have hnd : D.size < s.size := by omega
        rw [if_pos hnd] at HV
        go_wp2_with fail
        go_ret2
        exact ⟨by rw [HV.out]; simp [numEnd], hB⟩
theorem Number_any (s : ByteArray) (w : World) (hs : s.size ≤ 140737488355328) :
    Calls Tryz.prog 128 #[.string s] w fun e w' => e = .returned (numEnd (numL s.data.toList)) ∧ Below w.heap.size w w' := by
  rw [← refNum_eq]
  by_cases h : s.data.toList.head? = some 45
  · have hpos : 0 < s.size := by
      rw [← size_data]
      cases hl : s.data.toList with
      | nil => rw [hl] at h; cases h
      | cons a l => simp
    have := head_at s hpos
    rw [h] at this
    exact Number_sign s w hpos (Option.some.inj this).symm hs
  · exact Number_plain s w h hs
end Go.Proofs.YtfkmgnldkmpeiaaGreatDoor.W12

namespace Go.Proofs.YtfkmgnldkmpeiaaGreatDoor.W12
open Go Go.RowKit P12
open Dig hiding By

set_option maxHeartbeats 1600000 in
set_option maxRecDepth 100000 in
theorem refValue_u (nm s U : ByteArray) (ok : Bool) (w : World) (hpos : 0 < s.size) (hq : s[0]'hpos = 39)
    (hun : ∀ W, Calls Tryz.prog 97 #[.string (s.extract 1 s.size)] W fun e w' => e = .returned (.tuple #[.string U, .bool ok]) ∧ Below W.heap.size W w') :
    Calls Tryz.prog 98 #[.string nm, .string s] w fun e w' => e = .returned (.tuple #[.agg #[.string nm, .bool true, .int .i64 0, .string U], .bool (ok && decide (U.size ≤ 200))]) ∧ Below w.heap.size w w' := by
  have hmin : (((s[0]'hpos).toNat : Int) == 39) = true := by rw [hq]; rfl
  clear hq
  obtain ⟨okk, hok⟩ : ∃ b, b = (ok && decide (U.size ≤ 200)) := ⟨_, rfl⟩
  rw [← hok]
  cases ok with
  | false =>
    simp only [Bool.false_and] at hok
    subst hok
    go_enter Tryz.func98, Tryz.ntmps98
    go_wp2_with (first
      | (go_at_call 97; refine (hun _).mono ?_; rintro e w2 ⟨rfl, hb2⟩; refine Hid.out ?_))
    refine Lib.hid ?_
    have hh : w2.heap[w.heap.size]? = some (.cells #[.string ⟨#[]⟩, .bool false, .int .i64 0, .string ⟨#[]⟩] 54 (0, 0)) := (hb2.block w.heap.size (by simp)).trans (heap_new w _)
    have z0 := Lib.cell_of_heap hh 0
    have z1 := Lib.cell_of_heap hh 1
    have z2 := Lib.cell_of_heap hh 2
    have z3 := Lib.cell_of_heap hh 3
    have f0 := Lib.frozen_of_heap hh 0
    have f1 := Lib.frozen_of_heap hh 1
    have f2 := Lib.frozen_of_heap hh 2
    have f3 := Lib.frozen_of_heap hh 3
    have hB : Below w.heap.size w w2 := below_then (below_alloc w _) hb2
    clear hh
    go_wp2_with fail
    exact bodyPost_ret (v := .tuple #[.agg #[.string nm, .bool true, .int .i64 0, .string U], .bool false]) (by simp [results, Tryz.results98, go_sem, z0, z1, z2, z3]) rfl ⟨rfl, (((hB.setCell (p := ⟨w.heap.size, 0, none⟩) (by simp) _).setCell (p := ⟨w.heap.size, 1, none⟩) (by simp) _).setCell (p := ⟨w.heap.size, 2, none⟩) (by simp) _).setCell (p := ⟨w.heap.size, 3, none⟩) (by simp) _⟩
  | true =>
    simp only [Bool.true_and] at hok
    by_cases hl : U.size ≤ 200
    · rw [decide_eq_true hl] at hok
      subst hok
      go_enter Tryz.func98, Tryz.ntmps98
      go_wp2_with (first
        | (go_at_call 97; refine (hun _).mono ?_; rintro e w2 ⟨rfl, hb2⟩; refine Hid.out ?_))
      refine Lib.hid ?_
      have hh : w2.heap[w.heap.size]? = some (.cells #[.string ⟨#[]⟩, .bool false, .int .i64 0, .string ⟨#[]⟩] 54 (0, 0)) := (hb2.block w.heap.size (by simp)).trans (heap_new w _)
      have z0 := Lib.cell_of_heap hh 0
      have z1 := Lib.cell_of_heap hh 1
      have z2 := Lib.cell_of_heap hh 2
      have z3 := Lib.cell_of_heap hh 3
      have f0 := Lib.frozen_of_heap hh 0
      have f1 := Lib.frozen_of_heap hh 1
      have f2 := Lib.frozen_of_heap hh 2
      have f3 := Lib.frozen_of_heap hh 3
      have hB : Below w.heap.size w w2 := below_then (below_alloc w _) hb2
      clear hh
      go_wp2_with fail
      exact bodyPost_ret (v := .tuple #[.agg #[.string nm, .bool true, .int .i64 0, .string U], .bool true]) (by simp [results, Tryz.results98, go_sem, z0, z1, z2, z3] <;> omega) rfl ⟨rfl, (((hB.setCell (p := ⟨w.heap.size, 0, none⟩) (by simp) _).setCell (p := ⟨w.heap.size, 1, none⟩) (by simp) _).setCell (p := ⟨w.heap.size, 2, none⟩) (by simp) _).setCell (p := ⟨w.heap.size, 3, none⟩) (by simp) _⟩
    · rw [decide_eq_false hl] at hok
      subst hok
      go_enter Tryz.func98, Tryz.ntmps98
      go_wp2_with (first
        | (go_at_call 97; refine (hun _).mono ?_; rintro e w2 ⟨rfl, hb2⟩; refine Hid.out ?_))
      refine Lib.hid ?_
      have hh : w2.heap[w.heap.size]? = some (.cells #[.string ⟨#[]⟩, .bool false, .int .i64 0, .string ⟨#[]⟩] 54 (0, 0)) := (hb2.block w.heap.size (by simp)).trans (heap_new w _)
      have z0 := Lib.cell_of_heap hh 0
      have z1 := Lib.cell_of_heap hh 1
      have z2 := Lib.cell_of_heap hh 2
      have z3 := Lib.cell_of_heap hh 3
      have f0 := Lib.frozen_of_heap hh 0
      have f1 := Lib.frozen_of_heap hh 1
      have f2 := Lib.frozen_of_heap hh 2
      have f3 := Lib.frozen_of_heap hh 3
      have hB : Below w.heap.size w w2 := below_then (below_alloc w _) hb2
      clear hh
      go_wp2_with fail
      exact bodyPost_ret (v := .tuple #[.agg #[.string nm, .bool true, .int .i64 0, .string U], .bool false]) (by simp [results, Tryz.results98, go_sem, z0, z1, z2, z3] <;> omega) rfl ⟨rfl, (((hB.setCell (p := ⟨w.heap.size, 0, none⟩) (by simp) _).setCell (p := ⟨w.heap.size, 1, none⟩) (by simp) _).setCell (p := ⟨w.heap.size, 2, none⟩) (by simp) _).setCell (p := ⟨w.heap.size, 3, none⟩) (by simp) _⟩

set_option maxHeartbeats 1600000 in
set_option maxRecDepth 100000 in
theorem refValue_n (nm s : ByteArray) (n : Int) (ok : Bool) (w : World) (hq : s.data.toList.head? ≠ some 39)
    (hun : ∀ W, Calls Tryz.prog 128 #[.string s] W fun e w' => e = .returned (.tuple #[.int .i64 n, .bool ok]) ∧ Below W.heap.size W w') :
    Calls Tryz.prog 98 #[.string nm, .string s] w fun e w' => e = .returned (.tuple #[.agg #[.string nm, .bool false, .int .i64 n, .string ⟨#[]⟩], .bool ok]) ∧ Below w.heap.size w w' := by
  by_cases hpos : 0 < s.size
  · have hhead := head_at s hpos
    rw [hhead] at hq
    have hmin : (((s[0]'hpos).toNat : Int) == 39) = false := by
      rw [beq_eq_false_iff_ne]
      intro e
      apply hq
      congr 1
      apply UInt8.toNat_inj.1
      have : ((39 : UInt8).toNat) = 39 := rfl
      omega
    clear hq hhead
    go_enter Tryz.func98, Tryz.ntmps98
    go_wp2_with (first
      | (go_at_call 128; refine (hun _).mono ?_; rintro e w2 ⟨rfl, hb2⟩; refine Hid.out ?_))
    refine Lib.hid ?_
    have hh : w2.heap[w.heap.size]? = some (.cells #[.string ⟨#[]⟩, .bool false, .int .i64 0, .string ⟨#[]⟩] 54 (0, 0)) := (hb2.block w.heap.size (by simp)).trans (heap_new w _)
    have z0 := Lib.cell_of_heap hh 0
    have z1 := Lib.cell_of_heap hh 1
    have z2 := Lib.cell_of_heap hh 2
    have z3 := Lib.cell_of_heap hh 3
    have f0 := Lib.frozen_of_heap hh 0
    have f1 := Lib.frozen_of_heap hh 1
    have f2 := Lib.frozen_of_heap hh 2
    have f3 := Lib.frozen_of_heap hh 3
    have hB : Below w.heap.size w w2 := below_then (below_alloc w _) hb2
    clear hh
    go_wp2_with fail
    exact bodyPost_ret (v := .tuple #[.agg #[.string nm, .bool false, .int .i64 n, .string ⟨#[]⟩], .bool ok]) (by simp [results, Tryz.results98, go_sem, z0, z1, z2, z3]) rfl ⟨rfl, (((hB.setCell (p := ⟨w.heap.size, 0, none⟩) (by simp) _).setCell (p := ⟨w.heap.size, 1, none⟩) (by simp) _).setCell (p := ⟨w.heap.size, 2, none⟩) (by simp) _).setCell (p := ⟨w.heap.size, 3, none⟩) (by simp) _⟩
  · have hz : s.size = 0 := by omega
    clear hq
    go_enter Tryz.func98, Tryz.ntmps98
    go_wp2_with (first
      | (go_at_call 128; refine (hun _).mono ?_; rintro e w2 ⟨rfl, hb2⟩; refine Hid.out ?_))
    refine Lib.hid ?_
    have hh : w2.heap[w.heap.size]? = some (.cells #[.string ⟨#[]⟩, .bool false, .int .i64 0, .string ⟨#[]⟩] 54 (0, 0)) := (hb2.block w.heap.size (by simp)).trans (heap_new w _)
    have z0 := Lib.cell_of_heap hh 0
    have z1 := Lib.cell_of_heap hh 1
    have z2 := Lib.cell_of_heap hh 2
    have z3 := Lib.cell_of_heap hh 3
    have f0 := Lib.frozen_of_heap hh 0
    have f1 := Lib.frozen_of_heap hh 1
    have f2 := Lib.frozen_of_heap hh 2
    have f3 := Lib.frozen_of_heap hh 3
    have hB : Below w.heap.size w w2 := below_then (below_alloc w _) hb2
    clear hh
    go_wp2_with fail
    exact bodyPost_ret (v := .tuple #[.agg #[.string nm, .bool false, .int .i64 n, .string ⟨#[]⟩], .bool ok]) (by simp [results, Tryz.results98, go_sem, z0, z1, z2, z3]) rfl ⟨rfl, (((hB.setCell (p := ⟨w.heap.size, 0, none⟩) (by simp) _).setCell (p := ⟨w.heap.size, 1, none⟩) (by simp) _).setCell (p := ⟨w.heap.size, 2, none⟩) (by simp) _).setCell (p := ⟨w.heap.size, 3, none⟩) (by simp) _⟩

theorem refValueOf_any (nm s : ByteArray) (w : World) (hs : s.size ≤ 140737488355328) :
    Calls Tryz.prog 98 #[.string nm, .string s] w fun e w' => (∃ (b : Bool) (n : Int) (u : ByteArray) (ok : Bool), e = .returned (.tuple #[.agg #[.string nm, .bool b, .int .i64 n, .string u], .bool ok]) ∧
      valueL nm.data.toList s.data.toList = if ok = true then some ⟨nm.data.toList, b, n, u.data.toList⟩ else none) ∧ Below w.heap.size w w' := by
  by_cases hq : s.data.toList.head? = some 39
  · have hpos : 0 < s.size := by
      rw [← size_data]
      cases hl : s.data.toList with
      | nil => rw [hl] at hq; cases hq
      | cons a l => simp
    have hh := head_at s hpos
    rw [hq] at hh
    obtain ⟨t1, t2⟩ := tail_extract s hpos
    have hun := fun W => refUnescaped_any (s.extract 1 s.size) W (by omega)
    rw [t1] at hun
    cases hu : unescL s.data.toList.tail with
    | some u =>
      rw [hu] at hun
      refine (refValue_u nm s ⟨u.toArray⟩ true w hpos (Option.some.inj hh).symm hun).mono fun e w' ⟨he, hb⟩ => ⟨⟨_, _, _, _, he, ?_⟩, hb⟩
      by_cases hl : u.length ≤ 200
      · have : (⟨u.toArray⟩ : ByteArray).size ≤ 200 := by rw [size_mk]; exact hl
        simp [valueL, hq, hu, hl, size_mk]
      · simp [valueL, hq, hu, hl, size_mk]
    | none =>
      rw [hu] at hun
      refine (refValue_u nm s ⟨#[]⟩ false w hpos (Option.some.inj hh).symm hun).mono fun e w' ⟨he, hb⟩ => ⟨⟨_, _, _, _, he, ?_⟩, hb⟩
      simp [valueL, hq, hu]
  · have hun := fun W => Number_any s W hs
    cases hu : numL s.data.toList with
    | some n =>
      rw [hu] at hun
      refine (refValue_n nm s n true w hq hun).mono fun e w' ⟨he, hb⟩ => ⟨⟨_, _, _, _, he, ?_⟩, hb⟩
      simp [valueL, hq, hu]
    | none =>
      rw [hu] at hun
      refine (refValue_n nm s 0 false w hq hun).mono fun e w' ⟨he, hb⟩ => ⟨⟨_, _, _, _, he, ?_⟩, hb⟩
      simp [valueL, hq, hu]
end Go.Proofs.YtfkmgnldkmpeiaaGreatDoor.W12

namespace Go.Proofs.YtfkmgnldkmpeiaaGreatDoor.W12
open Go Go.RowKit P12

def cellsS (l : List By) : List Value := l.map bs
theorem cellsS_snoc (l : List By) (p : By) : cellsS (l ++ [p]) = cellsS l ++ [bs p] := by simp [cellsS]
theorem infoS : (Tryz.prog.info? 9).map (fun i => (i.zero, i.size, i.bytes)) = some (some (.string ⟨#[]⟩), 1, 16) := by kernel_rfl

/-- A slice of texts, as a value in a world. -/
def Strs (v : Value) (l : List By) (w : World) : Prop :=
  ∃ o c, v = .slice o l.length c ∧ (l = [] ∨ ∃ g off, o = some ⟨g, off, none⟩ ∧ ∀ (j : Nat) (p : By), l[j]? = some p → w.cell? ⟨g, off + j, none⟩ = some (bs p))
theorem Strs.keep {v : Value} {l : List By} {w w' : World} (h : Strs v l w) (hb : RowKit.Below w.heap.size w w') : Strs v l w' := by
  obtain ⟨o, c, h1, h2⟩ := h
  refine ⟨o, c, h1, ?_⟩
  rcases h2 with h2 | ⟨g, off, h2, h3⟩
  · exact .inl h2
  · exact .inr ⟨g, off, h2, fun j p hj => keep_cell hb (h3 j p hj)⟩
theorem strs_own {w : World} {B : Nat} {v : Value} {l : List By} (h : w.ownsRow B 9 1 v l.length (cellsS l)) : Strs v l w := by
  rcases h.2 with ⟨hv, hn⟩ | ⟨g, cap, cur, hv, _⟩
  · have : l = [] := List.length_eq_zero_iff.1 (by omega)
    subst this
    exact ⟨none, 0, hv, .inl rfl⟩
  · subst hv
    refine ⟨some ⟨g, 0, none⟩, cap, rfl, .inr ⟨g, 0, rfl, fun j p hj => ?_⟩⟩
    have := h.cells (g := g) rfl j (bs p) (by simp [cellsS, hj])
    rw [Lib.add_plain] at this
    simpa using this
theorem seg_data (s : ByteArray) (f k : Nat) (_hk : k ≤ s.size) : (s.extract f k).data.toList = (s.data.toList.drop f).take (k - f) := by simp
theorem seg_split (s : ByteArray) (f k : Nat) (hf : f ≤ k) (hk : k < s.size) : s.data.toList.drop f = (s.extract f k).data.toList ++ (s[k]'hk) :: s.data.toList.drop (k + 1) := by
  rw [seg_data s f k (by omega), ← get_drop s k hk]
  have := List.take_append_drop (k - f) (s.data.toList.drop f)
  rw [List.drop_drop, show f + (k - f) = k by omega] at this
  exact this.symm
theorem seg_last (s : ByteArray) (f : Nat) (_hf : f ≤ s.size) : s.data.toList.drop f = (s.extract f s.size).data.toList := by
  rw [seg_data s f s.size (Nat.le_refl _), List.take_of_length_le]
  rw [List.length_drop, size_data]
  exact Nat.le_refl _

/-- How far the cutting is: what is out, where the part under way begins. -/
def CutAt (c : UInt8) (s : ByteArray) (k f : Nat) (L : List By) : Prop :=
  (k ≤ s.size ∧ f ≤ k ∧ partsL c s.data.toList = L ++ partsL c (s.data.toList.drop f) ∧ c ∉ (s.data.toList.drop f).take (k - f) ∧ L.length ≤ k) ∨ (k = s.size + 1 ∧ partsL c s.data.toList = L ∧ f = k)
theorem cut_start (c : UInt8) (s : ByteArray) : CutAt c s 0 0 [] := .inl ⟨by omega, by omega, by simp, by simp, by simp⟩
theorem cut_miss {c : UInt8} {s : ByteArray} {k f : Nat} {L : List By} (h : CutAt c s k f L) (hk : k < s.size) (hc : s[k]'hk ≠ c) : CutAt c s (k + 1) f L := by
  rcases h with ⟨h1, h2, h3, h4, h5⟩ | ⟨h1, _⟩
  · refine .inl ⟨by omega, by omega, h3, ?_, by omega⟩
    rw [seg_split s f k h2 hk]
    have hl : (s.extract f k).data.toList.length = k - f := by rw [seg_data s f k (by omega), List.length_take, List.length_drop, size_data]; omega
    rw [show k + 1 - f = (s.extract f k).data.toList.length + 1 by omega, List.take_append]
    simp only [List.take_of_length_le (Nat.le_succ (s.extract f k).data.toList.length), Nat.add_sub_cancel_left, List.take_succ_cons, List.take_zero, List.mem_append, List.mem_singleton, not_or]
    refine ⟨?_, fun e => hc e.symm⟩
    rw [seg_data s f k (by omega)]
    exact h4
  · omega
theorem cut_hit {c : UInt8} {s : ByteArray} {k f : Nat} {L : List By} (h : CutAt c s k f L) (hk : k < s.size) (hc : s[k]'hk = c) : CutAt c s (k + 1) (k + 1) (L ++ [(s.extract f k).data.toList]) := by
  rcases h with ⟨h1, h2, h3, h4, h5⟩ | ⟨h1, _⟩
  · refine .inl ⟨by omega, by omega, ?_, by simp, by simp; omega⟩
    have hsp := seg_split s f k h2 hk
    rw [hc] at hsp
    rw [h3, hsp, partsL_at (by rw [seg_data s f k (by omega)]; exact h4)]
    simp
  · omega
theorem cut_end {c : UInt8} {s : ByteArray} {f : Nat} {L : List By} (h : CutAt c s s.size f L) : CutAt c s (s.size + 1) (s.size + 1) (L ++ [(s.extract f s.size).data.toList]) := by
  rcases h with ⟨h1, h2, h3, h4, h5⟩ | ⟨h1, _⟩
  · refine .inr ⟨rfl, ?_, rfl⟩
    have hsp := seg_last s f h2
    rw [h3, hsp, partsL_free (by rw [seg_data s f _ (by omega)]; exact h4)]
  · omega

set_option maxHeartbeats 3200000 in
set_option maxRecDepth 100000 in
theorem refCut_any (s : ByteArray) (c : UInt8) (w : World) (hs : s.size ≤ 1000000000000) :
    Calls Tryz.prog 16 #[.string s, .int .u8 (c.toNat : Nat)] w fun e w' => ∃ v, e = .returned v ∧ Strs v (partsL c s.data.toList) w' ∧ Below w.heap.size w w' := by
  obtain ⟨i0, hi, hz0, hz1, hz2⟩ := info_parts infoS
  go_enter Tryz.func16, Tryz.ntmps16
  go_wp2_with fail
  go_loopw [5, 6, 7] (fun v fr i wr => ∃ (k f : Nat) (L : List By), k ≤ s.size + 1 ∧ f ≤ k ∧ i = .int .i64 k ∧ fr = .int .i64 f ∧ L.length ≤ k ∧ Hid (CutAt c s k f L) ∧ wr.ownsRow w.heap.size 9 1 v L.length (cellsS L) ∧ Below w.heap.size w wr) (fun _ _ i _ => s.size + 1 - (intOf i).toNat)
  case atStart => exact ⟨0, 0, [], by omega, by omega, rfl, rfl, by simp, Lib.hid (cut_start c s), World.ownsRow_nil _ _ _ _, Below.refl _ _⟩
  case round =>
    obtain ⟨k, f, L, hk, hf, rfl, rfl, hL, hC, hI, hB⟩ := hrel
    have hBs := hB.size
    by_cases hlt : k < s.size
    · have hlt' : (k : Int) < (s.size : Int) := by omega
      have hle : (k : Int) ≤ (s.size : Int) := by omega
      have hne : ((k : Int) == (s.size : Int)) = false := by rw [beq_eq_false_iff_ne]; omega
      by_cases hc : s[k]'hlt = c
      · have hz : (((s[k]'hlt).toNat : Int) == (c.toNat : Int)) = true := by rw [hc]; simp
        have hCn := cut_hit hC.out hlt hc
        obtain ⟨p, hp⟩ : ∃ p, p = s.extract f k := ⟨_, rfl⟩
        rw [← hp] at hCn
        have HP := Lib.hid hp
        have HC := Lib.hid hCn
        clear hCn hp hc hC
        go_wp2_with (first
          | (rw [← HP.out])
          | (at_builtin; refine wpList_append_own _ rfl _ _ 42 rfl w.heap.size 9 i0 (.string ⟨#[]⟩) 1 16 Tryz.underlying42 hi hz0 hz1 hz2 rfl (by decide) _ _ _ rfl (hI.alloc _) ⟨wr.heap.size, 0, none⟩ 1 1 [.string p] rfl rfl ?c1 ?c2 ?c3 ?c4 ?c5 ?_))
        case c1 =>
          intro j u hj
          match j, hj with
          | 0, hj => simp at hj; subst hj; simp [Addr.add, HP.out]
        case c2 => intro u hu; simp at hu; subst hu; rfl
        case c3 => unfold maxLen; omega
        case c4 => omega
        case c5 => simp; omega
        intro v' w2 hown' hgrow _
        have hB2 : Below w.heap.size w w2 := ((hB.alloc (by omega) _).grown hgrow (by simp; omega) (fun j e => (hI.lt j e).1))
        clear hgrow hI
        go_wp2_with fail
        go_roundw
        case rel => exact ⟨k + 1, k + 1, L ++ [p.data.toList], by omega, by omega, by go_num, by go_num, by simp; omega, HC, by rw [cellsS_snoc, bs_data, List.length_append]; exact hown', hB2⟩
        case measure => simp [intOf]; omega
      · have hz : (((s[k]'hlt).toNat : Int) == (c.toNat : Int)) = false := by
          rw [beq_eq_false_iff_ne]
          intro e
          apply hc
          apply UInt8.toNat_inj.1
          omega
        have HC := Lib.hid (cut_miss hC.out hlt hc)
        clear hc hC
        go_wp2_with fail
        go_roundw
        case rel => exact ⟨k + 1, f, L, by omega, by omega, by go_num, rfl, by omega, HC, hI, hB⟩
        case measure => simp [intOf]; omega
    · by_cases hke : k = s.size
      · have hle : (k : Int) ≤ (s.size : Int) := by omega
        have hne : ((k : Int) == (s.size : Int)) = true := by rw [beq_iff_eq]; omega
        subst hke
        have hCn := cut_end hC.out
        obtain ⟨p, hp⟩ : ∃ p, p = s.extract f s.size := ⟨_, rfl⟩
        rw [← hp] at hCn
        have HP := Lib.hid hp
        have HC := Lib.hid hCn
        clear hCn hp hC
        go_wp2_with (first
          | (rw [← HP.out])
          | (at_builtin; refine wpList_append_own _ rfl _ _ 42 rfl w.heap.size 9 i0 (.string ⟨#[]⟩) 1 16 Tryz.underlying42 hi hz0 hz1 hz2 rfl (by decide) _ _ _ rfl (hI.alloc _) ⟨wr.heap.size, 0, none⟩ 1 1 [.string p] rfl rfl ?c1 ?c2 ?c3 ?c4 ?c5 ?_))
        case c1 =>
          intro j u hj
          match j, hj with
          | 0, hj => simp at hj; subst hj; simp [Addr.add, HP.out]
        case c2 => intro u hu; simp at hu; subst hu; rfl
        case c3 => unfold maxLen; omega
        case c4 => omega
        case c5 => simp; omega
        intro v' w2 hown' hgrow _
        have hB2 : Below w.heap.size w w2 := ((hB.alloc (by omega) _).grown hgrow (by simp; omega) (fun j e => (hI.lt j e).1))
        clear hgrow hI
        go_wp2_with fail
        go_roundw
        case rel => exact ⟨s.size + 1, s.size + 1, L ++ [p.data.toList], by omega, by omega, by go_num, by go_num, by simp; omega, HC, by rw [cellsS_snoc, bs_data, List.length_append]; exact hown', hB2⟩
        case measure => simp [intOf]
      · obtain rfl : k = s.size + 1 := by omega
        have hP : partsL c s.data.toList = L := by
          rcases hC.out with ⟨h1, _⟩ | ⟨_, h, _⟩
          · omega
          · exact h
        have HPL := Lib.hid hP
        have hSt := Lib.hid (strs_own hI)
        clear hP hC hI hke
        go_wp2_with fail
        go_ret
        exact ⟨_, rfl, by rw [HPL.out]; exact hSt.out, hB⟩
end Go.Proofs.YtfkmgnldkmpeiaaGreatDoor.W12
