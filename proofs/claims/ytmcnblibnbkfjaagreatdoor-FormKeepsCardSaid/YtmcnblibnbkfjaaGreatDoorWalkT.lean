/-
  Walks of layer 12: the reference's Number. Conditions: the text is within Go's own limit.
-/
import Derived.Test.YtmcnblibnbkfjaaGreatDoorWalkS
namespace Go.Proofs.YtmcnblibnbkfjaaGreatDoor.W12
open Go Go.RowKit P12
open Dig hiding By

def numEnd (r : Option Int) : Value := match r with
  | some v => .tuple #[.int .i64 v, .bool true]
  | none => .tuple #[.int .i64 0, .bool false]

theorem tail_extract (s : ByteArray) (h : 0 < s.size) : (s.extract 1 s.size).data.toList = s.data.toList.tail ∧ (s.extract 1 s.size).size + 1 = s.size := by
  have h1 : (s.extract 1 s.size).data.toList = s.data.toList.tail := by
    simp
    rw [List.take_of_length_le]
    rw [List.length_tail, size_data]
    exact Nat.le_refl _
  refine ⟨h1, ?_⟩
  rw [← size_data, h1, List.length_tail, size_data]
  omega
/-- The numeral's test against the least int. -/
theorem quo_test (m d : Nat) (hd : d < 10) : (-(m : Int) < Int.tdiv (-9223372036854775808 + (d : Int)) 10) ↔ 9223372036854775808 < 10 * m + d := by
  have e : (-9223372036854775808 + (d : Int)) = -((9223372036854775808 - d : Nat) : Int) := by omega
  rw [e, Int.neg_tdiv]
  have : Int.tdiv ((9223372036854775808 - d : Nat) : Int) 10 = (((9223372036854775808 - d) / 10 : Nat) : Int) := rfl
  rw [this]
  omega
theorem quo_range (d : Nat) (hd : d < 10) : Int.tdiv (-9223372036854775808 + (d : Int)) 10 ≤ 0 ∧ -922337203685477581 ≤ Int.tdiv (-9223372036854775808 + (d : Int)) 10 := by
  have e : (-9223372036854775808 + (d : Int)) = -((9223372036854775808 - d : Nat) : Int) := by omega
  rw [e, Int.neg_tdiv]
  have : Int.tdiv ((9223372036854775808 - d : Nat) : Int) 10 = (((9223372036854775808 - d) / 10 : Nat) : Int) := rfl
  rw [this]
  omega

theorem accN_step {m : Nat} {c : UInt8} {l : By} (h : 48 ≤ c.toNat ∧ c.toNat ≤ 57) (h2 : ¬ 9223372036854775808 < 10 * m + (c.toNat - 48)) : accN m (c :: l) = accN (10 * m + (c.toNat - 48)) l := by
  rw [accN, if_pos (isDig_iff.2 h), if_neg h2]
theorem accN_big {m : Nat} {c : UInt8} {l : By} (h : 48 ≤ c.toNat ∧ c.toNat ≤ 57) (h2 : 9223372036854775808 < 10 * m + (c.toNat - 48)) : accN m (c :: l) = none := by
  rw [accN, if_pos (isDig_iff.2 h), if_pos h2]
theorem accN_bad {m : Nat} {c : UInt8} {l : By} (h : ¬ (48 ≤ c.toNat ∧ c.toNat ≤ 57)) : accN m (c :: l) = none := by
  rw [accN, if_neg (fun e => h (isDig_iff.1 e))]

/-- What the reference's numeral says, from what its digits say. -/
structure Says (s D : ByteArray) : Prop where
  non : accN 0 D.data.toList = none → refNum s.data.toList = none
  som : ∀ {m : Nat}, accN 0 D.data.toList = some m → refNum s.data.toList = if D.size < s.size then some (-(m : Int)) else if m = 9223372036854775808 then none else some (m : Int)
theorem says_of {s D : ByteArray} (hD : D.data.toList = restOf s.data.toList) (h : ¬ (D.size < 1 ∨ 19 < D.size ∨ (D.data.toList.head? = some 48 ∧ s.data.toList ≠ [48]))) : Says s D := by
  have e1 : (restOf s.data.toList).length = D.size := by rw [← hD, size_data]
  have h' : ¬ ((restOf s.data.toList).length < 1 ∨ 19 < (restOf s.data.toList).length ∨ ((restOf s.data.toList).head? = some 48 ∧ s.data.toList ≠ [48])) := by rw [e1, ← hD]; exact h
  constructor
  · intro ha
    unfold refNum
    rw [if_neg h', ← hD, ha]
  · intro m ha
    unfold refNum
    rw [if_neg h', e1, ← hD, ha, size_data]
theorem says_none {s D : ByteArray} (hD : D.data.toList = restOf s.data.toList) (h : D.size < 1 ∨ 19 < D.size ∨ (D.data.toList.head? = some 48 ∧ s.data.toList ≠ [48])) : refNum s.data.toList = none := by
  have e1 : (restOf s.data.toList).length = D.size := by rw [← hD, size_data]
  unfold refNum
  rw [if_pos]
  rw [e1, ← hD]
  exact h
theorem head_at (s : ByteArray) (h : 0 < s.size) : s.data.toList.head? = some (s[0]'h) := by
  obtain ⟨l, hl⟩ := first_byte s h
  rw [hl]; rfl

set_option maxHeartbeats 3200000 in
set_option maxRecDepth 100000 in
/-- A numeral without its sign. -/
theorem Number_plain (D : ByteArray) (w : World) (hneg : D.data.toList.head? ≠ some 45) (hs : D.size ≤ 140737488355328) :
    Calls Tryz.prog 58 #[.string D] w fun e w' => e = .returned (numEnd (refNum D.data.toList)) ∧ Below w.heap.size w w' := by
  have hD : D.data.toList = restOf D.data.toList := by unfold restOf; rw [if_neg hneg]
  by_cases h0 : D.size < 1
  · have HV := Lib.hid (says_none hD (.inl h0))
    have hz : D.size = 0 := by omega
    clear hD hneg
    go_enter Tryz.func58, Tryz.ntmps58
    go_wp2_with fail
    go_ret2
    exact ⟨by rw [HV.out]; rfl, Below.refl _ _⟩
  have hpos : 0 < D.size := by omega
  have hhead := head_at D hpos
  rw [hhead] at hneg
  have hmin : (((D[0]'hpos).toNat : Int) == 45) = false := by
    rw [beq_eq_false_iff_ne]
    intro e
    apply hneg
    congr 1
    apply UInt8.toNat_inj.1
    have : ((45 : UInt8).toNat) = 45 := rfl
    omega
  by_cases h19 : 19 < D.size
  · have HV := Lib.hid (says_none hD (.inr (.inl h19)))
    clear hD hneg hhead
    go_enter Tryz.func58, Tryz.ntmps58
    go_wp2_with fail
    go_ret2
    exact ⟨by rw [HV.out]; rfl, Below.refl _ _⟩
  by_cases hh : D[0]'hpos = 48
  · have hz : (((D[0]'hpos).toNat : Int) == 48) = true := by rw [hh]; rfl
    by_cases hone : D.data.toList = [48]
    · have HR := Lib.hid (says_of hD (by rw [hone]; rintro (h | h | h) <;> first | omega | exact h.2 rfl))
      have hne : (D.toList != [48]) = false := by rw [Lib.toList_data, hone]; rfl
      have hne2 : (D.toList == [48]) = true := by rw [Lib.toList_data, hone]; rfl
      clear hD hneg hhead hone hh
      go_enter Tryz.func58, Tryz.ntmps58
      go_wp2_with fail
      go_loopw [5, 6] (fun v i wr => ∃ k m : Nat, k ≤ D.size ∧ i = .int .i64 k ∧ v = .int .i64 (-(m : Int)) ∧ m ≤ 9223372036854775808 ∧ Hid (accN 0 D.data.toList = accN m (D.data.toList.drop k)) ∧ Below w.heap.size w wr) (fun _ i _ => D.size - (intOf i).toNat)
      case atStart => exact ⟨0, 0, by omega, rfl, rfl, by omega, Lib.hid (by rw [List.drop_zero]), Below.refl _ _⟩
      case round =>
        obtain ⟨k, m, hk, rfl, rfl, hm, HA, hB⟩ := hrel
        by_cases hlt : k < D.size
        · have hlt' : (k : Int) < (D.size : Int) := by omega
          have hgd := get_drop D k hlt
          by_cases hd : 48 ≤ (D[k]'hlt).toNat ∧ (D[k]'hlt).toNat ≤ 57
          · obtain ⟨d, hdd⟩ : ∃ d, d = (D[k]'hlt).toNat - 48 := ⟨_, rfl⟩
            have hd10 : d < 10 := by omega
            have hc : ((D[k]'hlt).toNat : Int) - 48 = (d : Int) := by omega
            have hlo : 48 ≤ (D[k]'hlt).toNat := hd.1
            have hhi : (D[k]'hlt).toNat ≤ 57 := hd.2
            have hq := quo_test m d hd10
            obtain ⟨q1, q2⟩ := quo_range d hd10
            by_cases hbig : 9223372036854775808 < 10 * m + d
            · have hN : accN 0 D.data.toList = none := by rw [HA.out, hgd, accN_big hd (by rw [← hdd]; exact hbig)]
              have HV := Lib.hid (HR.out.non hN)
              have hlq := hq.2 hbig
              clear hgd hd hdd hN hq HA
              go_wp2_with fail
              go_ret2
              exact ⟨by rw [HV.out]; rfl, hB⟩
            · have hS : accN 0 D.data.toList = accN (10 * m + d) (D.data.toList.drop (k + 1)) := by rw [HA.out, hgd, accN_step hd (by rw [← hdd]; exact hbig), ← hdd]
              have HS := Lib.hid hS
              have hlq : ¬ (-(m : Int) < Int.tdiv (-9223372036854775808 + (d : Int)) 10) := fun h => hbig (hq.1 h)
              clear hgd hd hdd hS hq HA
              go_wp2_with fail
              go_roundw
              case rel => exact ⟨k + 1, 10 * m + d, by omega, by go_num, by go_num, by omega, HS, hB⟩
              case measure => simp [intOf]; omega
          · have hN : accN 0 D.data.toList = none := by rw [HA.out, hgd, accN_bad hd]
            have HV := Lib.hid (HR.out.non hN)
            clear hgd hN HA
            by_cases h48 : (D[k]'hlt).toNat < 48
            · clear hd
              go_wp2_with fail
              go_ret2
              exact ⟨by rw [HV.out]; rfl, hB⟩
            · have h57 : 57 < (D[k]'hlt).toNat := by omega
              clear hd
              go_wp2_with fail
              go_ret2
              exact ⟨by rw [HV.out]; rfl, hB⟩
        · obtain rfl : k = D.size := by omega
          have hS : accN 0 D.data.toList = some m := by rw [HA.out, List.drop_eq_nil_of_le (by rw [size_data]; exact Nat.le_refl _)]; rfl
          have HV := Lib.hid (HR.out.som hS)
          clear hS HA
          have hnd : ¬ (D.size < D.size) := by omega
          rw [if_neg hnd] at HV
          by_cases hmx : m = 9223372036854775808
          · rw [if_pos hmx] at HV
            have hmb : (-(m : Int) == -9223372036854775808) = true := by rw [beq_iff_eq]; omega
            go_wp2_with fail
            go_ret2
            exact ⟨by rw [HV.out]; rfl, hB⟩
          · rw [if_neg hmx] at HV
            have hmb : (-(m : Int) == -9223372036854775808) = false := by rw [beq_eq_false_iff_ne]; omega
            go_wp2_with fail
            go_ret2
            exact ⟨by rw [HV.out]; simp [numEnd], hB⟩
    · have HV := Lib.hid (says_none hD (.inr (.inr ⟨by rw [hhead, hh], hone⟩)))
      have hne : (D.toList != [48]) = true := by rw [Lib.toList_data, bne_iff_ne]; exact hone
      have hne2 : (D.toList == [48]) = false := by rw [Lib.toList_data, beq_eq_false_iff_ne]; exact hone
      clear hD hneg hhead hone hh
      go_enter Tryz.func58, Tryz.ntmps58
      go_wp2_with fail
      go_ret2
      exact ⟨by rw [HV.out]; rfl, Below.refl _ _⟩
  · have hz : (((D[0]'hpos).toNat : Int) == 48) = false := by
      rw [beq_eq_false_iff_ne]
      intro e
      apply hh
      apply UInt8.toNat_inj.1
      have : ((48 : UInt8).toNat) = 48 := rfl
      omega
    have HR := Lib.hid (says_of hD (by rw [hhead]; rintro (h | h | h) <;> first | omega | exact hh (Option.some.inj h.1)))
    clear hD hneg hhead hh
    go_enter Tryz.func58, Tryz.ntmps58
    go_wp2_with fail
    go_loopw [5, 6] (fun v i wr => ∃ k m : Nat, k ≤ D.size ∧ i = .int .i64 k ∧ v = .int .i64 (-(m : Int)) ∧ m ≤ 9223372036854775808 ∧ Hid (accN 0 D.data.toList = accN m (D.data.toList.drop k)) ∧ Below w.heap.size w wr) (fun _ i _ => D.size - (intOf i).toNat)
    case atStart => exact ⟨0, 0, by omega, rfl, rfl, by omega, Lib.hid (by rw [List.drop_zero]), Below.refl _ _⟩
    case round =>
      obtain ⟨k, m, hk, rfl, rfl, hm, HA, hB⟩ := hrel
      by_cases hlt : k < D.size
      · have hlt' : (k : Int) < (D.size : Int) := by omega
        have hgd := get_drop D k hlt
        by_cases hd : 48 ≤ (D[k]'hlt).toNat ∧ (D[k]'hlt).toNat ≤ 57
        · obtain ⟨d, hdd⟩ : ∃ d, d = (D[k]'hlt).toNat - 48 := ⟨_, rfl⟩
          have hd10 : d < 10 := by omega
          have hc : ((D[k]'hlt).toNat : Int) - 48 = (d : Int) := by omega
          have hlo : 48 ≤ (D[k]'hlt).toNat := hd.1
          have hhi : (D[k]'hlt).toNat ≤ 57 := hd.2
          have hq := quo_test m d hd10
          obtain ⟨q1, q2⟩ := quo_range d hd10
          by_cases hbig : 9223372036854775808 < 10 * m + d
          · have hN : accN 0 D.data.toList = none := by rw [HA.out, hgd, accN_big hd (by rw [← hdd]; exact hbig)]
            have HV := Lib.hid (HR.out.non hN)
            have hlq := hq.2 hbig
            clear hgd hd hdd hN hq HA
            go_wp2_with fail
            go_ret2
            exact ⟨by rw [HV.out]; rfl, hB⟩
          · have hS : accN 0 D.data.toList = accN (10 * m + d) (D.data.toList.drop (k + 1)) := by rw [HA.out, hgd, accN_step hd (by rw [← hdd]; exact hbig), ← hdd]
            have HS := Lib.hid hS
            have hlq : ¬ (-(m : Int) < Int.tdiv (-9223372036854775808 + (d : Int)) 10) := fun h => hbig (hq.1 h)
            clear hgd hd hdd hS hq HA
            go_wp2_with fail
            go_roundw
            case rel => exact ⟨k + 1, 10 * m + d, by omega, by go_num, by go_num, by omega, HS, hB⟩
            case measure => simp [intOf]; omega
        · have hN : accN 0 D.data.toList = none := by rw [HA.out, hgd, accN_bad hd]
          have HV := Lib.hid (HR.out.non hN)
          clear hgd hN HA
          by_cases h48 : (D[k]'hlt).toNat < 48
          · clear hd
            go_wp2_with fail
            go_ret2
            exact ⟨by rw [HV.out]; rfl, hB⟩
          · have h57 : 57 < (D[k]'hlt).toNat := by omega
            clear hd
            go_wp2_with fail
            go_ret2
            exact ⟨by rw [HV.out]; rfl, hB⟩
      · obtain rfl : k = D.size := by omega
        have hS : accN 0 D.data.toList = some m := by rw [HA.out, List.drop_eq_nil_of_le (by rw [size_data]; exact Nat.le_refl _)]; rfl
        have HV := Lib.hid (HR.out.som hS)
        clear hS HA
        have hnd : ¬ (D.size < D.size) := by omega
        rw [if_neg hnd] at HV
        by_cases hmx : m = 9223372036854775808
        · rw [if_pos hmx] at HV
          have hmb : (-(m : Int) == -9223372036854775808) = true := by rw [beq_iff_eq]; omega
          go_wp2_with fail
          go_ret2
          exact ⟨by rw [HV.out]; rfl, hB⟩
        · rw [if_neg hmx] at HV
          have hmb : (-(m : Int) == -9223372036854775808) = false := by rw [beq_eq_false_iff_ne]; omega
          go_wp2_with fail
          go_ret2
          exact ⟨by rw [HV.out]; simp [numEnd], hB⟩

set_option maxHeartbeats 3200000 in
set_option maxRecDepth 100000 in
/-- A numeral with its sign. -/
theorem Number_sign (s : ByteArray) (w : World) (hpos : 0 < s.size) (hneg : s[0]'hpos = 45) (hs : s.size ≤ 140737488355328) :
    Calls Tryz.prog 58 #[.string s] w fun e w' => e = .returned (numEnd (refNum s.data.toList)) ∧ Below w.heap.size w w' := by
  have hshead := head_at s hpos
  obtain ⟨D, hDe⟩ : ∃ D, D = s.extract 1 s.size := ⟨_, rfl⟩
  obtain ⟨t1, t2⟩ := tail_extract s hpos
  rw [← hDe] at t1 t2
  have hD : D.data.toList = restOf s.data.toList := by unfold restOf; rw [if_pos (by rw [hshead, hneg]), t1]
  have hone : s.data.toList ≠ [48] := by
    intro e
    rw [e, hneg] at hshead
    cases hshead
  have hne : (s.toList != [48]) = true := by rw [Lib.toList_data, bne_iff_ne]; exact hone
  have hne2 : (s.toList == [48]) = false := by rw [Lib.toList_data, beq_eq_false_iff_ne]; exact hone
  have hmin : (((s[0]'hpos).toNat : Int) == 45) = true := by rw [hneg]; rfl
  have HDE := Lib.hid hDe
  clear t1 hDe hshead hneg
  by_cases h0 : D.size < 1
  · have HV := Lib.hid (says_none hD (.inl h0))
    have hz : D.size = 0 := by omega
    clear hD hone
    go_enter Tryz.func58, Tryz.ntmps58
    go_wp2_with (rw [← HDE.out])
    go_ret2
    exact ⟨by rw [HV.out]; rfl, Below.refl _ _⟩
  have hpD : 0 < D.size := by omega
  have hhead := head_at D hpD
  by_cases h19 : 19 < D.size
  · have HV := Lib.hid (says_none hD (.inr (.inl h19)))
    clear hD hone hhead
    go_enter Tryz.func58, Tryz.ntmps58
    go_wp2_with (rw [← HDE.out])
    go_ret2
    exact ⟨by rw [HV.out]; rfl, Below.refl _ _⟩
  by_cases hh : D[0]'hpD = 48
  · have hz : (((D[0]'hpD).toNat : Int) == 48) = true := by rw [hh]; rfl
    have HV := Lib.hid (says_none hD (.inr (.inr ⟨by rw [hhead, hh], hone⟩)))
    clear hD hone hhead hh
    go_enter Tryz.func58, Tryz.ntmps58
    go_wp2_with (rw [← HDE.out])
    go_ret2
    exact ⟨by rw [HV.out]; rfl, Below.refl _ _⟩
  · have hz : (((D[0]'hpD).toNat : Int) == 48) = false := by
      rw [beq_eq_false_iff_ne]
      intro e
      apply hh
      apply UInt8.toNat_inj.1
      have : ((48 : UInt8).toNat) = 48 := rfl
      omega
    have HR := Lib.hid (says_of hD (by rw [hhead]; rintro (h | h | h) <;> first | omega | exact hh (Option.some.inj h.1)))
    clear hD hone hhead hh
    go_enter Tryz.func58, Tryz.ntmps58
    go_wp2_with (rw [← HDE.out])
    go_loopw [5, 6] (fun v i wr => ∃ k m : Nat, k ≤ D.size ∧ i = .int .i64 k ∧ v = .int .i64 (-(m : Int)) ∧ m ≤ 9223372036854775808 ∧ Hid (accN 0 D.data.toList = accN m (D.data.toList.drop k)) ∧ Below w.heap.size w wr) (fun _ i _ => D.size - (intOf i).toNat)
    case atStart => exact ⟨0, 0, by omega, rfl, rfl, by omega, Lib.hid (by rw [List.drop_zero]), Below.refl _ _⟩
    case round =>
      obtain ⟨k, m, hk, rfl, rfl, hm, HA, hB⟩ := hrel
      by_cases hlt : k < D.size
      · have hlt' : (k : Int) < (D.size : Int) := by omega
        have hgd := get_drop D k hlt
        by_cases hd : 48 ≤ (D[k]'hlt).toNat ∧ (D[k]'hlt).toNat ≤ 57
        · obtain ⟨d, hdd⟩ : ∃ d, d = (D[k]'hlt).toNat - 48 := ⟨_, rfl⟩
          have hd10 : d < 10 := by omega
          have hc : ((D[k]'hlt).toNat : Int) - 48 = (d : Int) := by omega
          have hlo : 48 ≤ (D[k]'hlt).toNat := hd.1
          have hhi : (D[k]'hlt).toNat ≤ 57 := hd.2
          have hq := quo_test m d hd10
          obtain ⟨q1, q2⟩ := quo_range d hd10
          by_cases hbig : 9223372036854775808 < 10 * m + d
          · have hN : accN 0 D.data.toList = none := by rw [HA.out, hgd, accN_big hd (by rw [← hdd]; exact hbig)]
            have HV := Lib.hid (HR.out.non hN)
            have hlq := hq.2 hbig
            clear hgd hd hdd hN hq HA
            go_wp2_with fail
            go_ret2
            exact ⟨by rw [HV.out]; rfl, hB⟩
          · have hS : accN 0 D.data.toList = accN (10 * m + d) (D.data.toList.drop (k + 1)) := by rw [HA.out, hgd, accN_step hd (by rw [← hdd]; exact hbig), ← hdd]
            have HS := Lib.hid hS
            have hlq : ¬ (-(m : Int) < Int.tdiv (-9223372036854775808 + (d : Int)) 10) := fun h => hbig (hq.1 h)
            clear hgd hd hdd hS hq HA
            go_wp2_with fail
            go_roundw
            case rel => exact ⟨k + 1, 10 * m + d, by omega, by go_num, by go_num, by omega, HS, hB⟩
            case measure => simp [intOf]; omega
        · have hN : accN 0 D.data.toList = none := by rw [HA.out, hgd, accN_bad hd]
          have HV := Lib.hid (HR.out.non hN)
          clear hgd hN HA
          by_cases h48 : (D[k]'hlt).toNat < 48
          · clear hd
            go_wp2_with fail
            go_ret2
            exact ⟨by rw [HV.out]; rfl, hB⟩
          · have h57 : 57 < (D[k]'hlt).toNat := by omega
            clear hd
            go_wp2_with fail
            go_ret2
            exact ⟨by rw [HV.out]; rfl, hB⟩
      · obtain rfl : k = D.size := by omega
        have hS : accN 0 D.data.toList = some m := by rw [HA.out, List.drop_eq_nil_of_le (by rw [size_data]; exact Nat.le_refl _)]; rfl
        have HV := Lib.hid (HR.out.som hS)
        clear hS HA
        have hnd : D.size < s.size := by omega
        rw [if_pos hnd] at HV
        go_wp2_with fail
        go_ret2
        exact ⟨by rw [HV.out]; simp [numEnd], hB⟩
theorem Number_any (s : ByteArray) (w : World) (hs : s.size ≤ 140737488355328) :
    Calls Tryz.prog 58 #[.string s] w fun e w' => e = .returned (numEnd (numL s.data.toList)) ∧ Below w.heap.size w w' := by
  rw [← refNum_eq]
  by_cases h : s.data.toList.head? = some 45
  · have hpos : 0 < s.size := by
      rw [← size_data]
      cases hl : s.data.toList with
      | nil => rw [hl] at h; cases h
      | cons a l => simp
    have := head_at s hpos
    rw [h] at this
    exact Number_sign s w hpos (Option.some.inj this).symm hs
  · exact Number_plain s w h hs
end Go.Proofs.YtmcnblibnbkfjaaGreatDoor.W12
