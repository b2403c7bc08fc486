/-
  Walks of layer 12: strconv.ParseUint at two bytes, base 16, eight bits. Conditions: the library's error values lie where they are.
-/
import Derived.Test.YtmcnblibnbkfjaaGreatDoorWalkD
import Derived.Lib.ConvBytes
import Derived.Lib.AppendIntMem
namespace Go.Proofs.YtmcnblibnbkfjaaGreatDoor.W12
open Go Go.RowKit P12

/-- What the walks ask of the package-level variables. -/
structure Env (w : World) : Prop where
  tab : Lib.TabIs Tryz.prog w "internal/strconv.uint64pow10" .u64 Lib.pow10Tab
  syn : ∃ ev, w.cell? ⟨1, 0, none⟩ = some ev ∧ (ev = .nilIface ∨ ∃ te pe, ev = .iface te pe)
  rng : ∃ ev, w.cell? ⟨2, 0, none⟩ = some ev ∧ (ev = .nilIface ∨ ∃ te pe, ev = .iface te pe)
theorem Env.keep {w w' : World} (h : Env w) (hb : Below w.heap.size w w') : Env w' := by
  obtain ⟨h1, ⟨e2, h2, k2⟩, ⟨e3, h3, k3⟩⟩ := h
  exact ⟨Lib.tabBelow_of_tabIs h1 w' hb, ⟨e2, keep_cell hb h2, k2⟩, ⟨e3, keep_cell hb h3, k3⟩⟩
theorem Env.new {w : World} (h : Env w) (o : Obj) : Env (w.alloc o) := h.keep (below_alloc w o)

def hexN (n : Nat) : Option Nat := if 48 ≤ n ∧ n ≤ 57 then some (n - 48) else if 97 ≤ n ∧ n ≤ 102 then some (n - 87) else if 65 ≤ n ∧ n ≤ 70 then some (n - 55) else none
theorem hexV_nat (c : UInt8) : hexV c = hexN c.toNat := by
  have h : ((List.range 256).all fun n => decide (hexV n.toUInt8 = hexN n)) = true := by decide +kernel
  have := List.all_eq_true.1 h c.toNat (List.mem_range.2 c.toNat_lt)
  simpa using this
def hexP : Nat → By → Option Nat
  | acc, [] => some acc
  | acc, c :: l => match hexN c.toNat with
    | none => none
    | some v => hexP (acc * 16 + v) l
theorem or32 (n : Nat) (h : n < 256) : bits .or .u8 (n : Int) 32 = ((n ||| 32 : Nat) : Int) := by
  have h' : ((List.range 256).all fun n => decide (bits .or .u8 (n : Int) 32 = ((n ||| 32 : Nat) : Int))) = true := by decide +kernel
  simpa using List.all_eq_true.1 h' n (List.mem_range.2 h)
theorem or32_low (n : Nat) (h0 : 97 ≤ n) (h1 : n ≤ 102) : n ||| 32 = n := by
  have h' : ((List.range 256).all fun n => decide (97 ≤ n → n ≤ 102 → n ||| 32 = n)) = true := by decide +kernel
  have := List.all_eq_true.1 h' n (List.mem_range.2 (by omega))
  simp only [decide_eq_true_eq] at this
  exact this h0 h1
theorem or32_up (n : Nat) (h0 : 65 ≤ n) (h1 : n ≤ 70) : n ||| 32 = n + 32 := by
  have h' : ((List.range 256).all fun n => decide (65 ≤ n → n ≤ 70 → n ||| 32 = n + 32)) = true := by decide +kernel
  have := List.all_eq_true.1 h' n (List.mem_range.2 (by omega))
  simp only [decide_eq_true_eq] at this
  exact this h0 h1
theorem or32_bad (n : Nat) (h : n < 256) (hx : hexN n = none) : ¬ (97 ≤ n ||| 32 ∧ n ||| 32 ≤ 102) ∧ (n ||| 32) < 256 := by
  have h' : ((List.range 256).all fun n => decide (hexN n = none → ¬ (97 ≤ n ||| 32 ∧ n ||| 32 ≤ 102) ∧ (n ||| 32) < 256)) = true := by decide +kernel
  have := List.all_eq_true.1 h' n (List.mem_range.2 h)
  simp only [decide_eq_true_eq] at this
  exact this hx
/-- How internal/strconv.ParseUint ends here. -/
def hexEnd : Option Nat → Value
  | some u => .tuple #[.int .u64 (u : Nat), .nilIface]
  | none => .tuple #[.int .u64 0, .iface 103 (.int .i64 2)]

set_option maxHeartbeats 6400000 in
set_option maxRecDepth 100000 in
theorem iParse16 (t : ByteArray) (h2 : t.size = 2) (w : World) :
    Calls Tryz.prog 61 #[.string t, .int .i64 16, .int .i64 8] w fun e w' => e = .returned (hexEnd (hexP 0 t.data.toList)) ∧ Below w.heap.size w w' := by
  have hemp := toList_cons t (by omega)
  have hcv := Lib.run_convert_string_bytes (P := Tryz.prog) w 9 56 5 t (u := .string) Tryz.underlying9 Tryz.underlying56 Tryz.underlying5
  have hB : ∀ j, j < t.size → (Lib.bytesWorld w 5 t).cell? ⟨w.heap.size, j, none⟩ = some (.int .u8 (t.data.toList.getD j 0).toNat) := fun j hj => Lib.bytesWorld_cell w 5 t j hj
  have hbw := Lib.bytesWorld_below w 5 t
  obtain ⟨W1, hW1⟩ : ∃ W1, W1 = Lib.bytesWorld w 5 t := ⟨_, rfl⟩
  rw [← hW1] at hcv hB hbw
  clear hW1
  obtain ⟨bs, hL⟩ : ∃ bs, bs = t.data.toList := ⟨_, rfl⟩
  have hLn : bs.length = t.size := by rw [hL, size_data]
  rw [← hL] at hB ⊢
  clear hL
  have hmv : IntKind.u64.wrap (IntKind.u64.wrap 256 - 1) = 255 := by
    rw [IntKind.wrap_u64, IntKind.wrap_u64]
    decide
  go_enter Tryz.func61, Tryz.ntmps61
  go_wp2_with fail
  go_loop [12, 13, 101] (fun vu vn vi => ∃ (k acc : Nat) (a : Int), vu = .bool false ∧ vn = .int .u64 a ∧ vi = .int .i64 k ∧ k ≤ t.size ∧ Hid (a = (acc : Int) ∧ acc < 16 ^ k ∧ hexP 0 bs = hexP acc (bs.drop k)))
    (fun _ _ vi => t.size - (intOf vi).toNat)
  case atStart => exact ⟨0, 0, 0, rfl, rfl, rfl, by omega, rfl, by decide, rfl⟩
  case round =>
    obtain ⟨k, acc, a, rfl, rfl, rfl, hk, hh⟩ := hrel
    obtain ⟨ha, hacc, hdec⟩ := hh.out
    clear hh
    have a0 : 0 ≤ a := by omega
    by_cases hkn : k < t.size
    · have hacc16 : acc < 16 := by
        have : k = 0 ∨ k = 1 := by omega
        rcases this with rfl | rfl <;> omega
      have a1 : a < 16 := by omega
      have hc := hB k hkn
      have hdrop : bs.drop k = bs[k]'(by omega) :: bs.drop (k + 1) := List.drop_eq_getElem_cons (by omega)
      have hget : bs.getD k 0 = bs[k]'(by omega) := by simp [List.getD, List.getElem?_eq_getElem (show k < bs.length by omega)]
      rw [hdrop] at hdec
      rw [hget] at hc
      generalize bs[k]'(by omega) = c at hc hdec
      have hc256 : c.toNat < 256 := c.toNat_lt
      have hlow := fun W => Tryz.internal_strconv_lower (c.toNat : Int) W
      rw [or32 _ hc256] at hlow
      clear hB hdrop hget
      cases hx : hexN c.toNat with
      | some v =>
        have hF : hexP acc (c :: bs.drop (k + 1)) = hexP (acc * 16 + v) (bs.drop (k + 1)) := by simp [hexP, hx]
        have hv : v < 16 ∧ ((48 ≤ c.toNat ∧ c.toNat ≤ 57 ∧ v = c.toNat - 48) ∨ (97 ≤ c.toNat ∧ c.toNat ≤ 102 ∧ v = c.toNat - 87) ∨ (65 ≤ c.toNat ∧ c.toNat ≤ 70 ∧ v = c.toNat - 55)) := by
          unfold hexN at hx
          split at hx
          · injection hx with hx; omega
          · split at hx
            · injection hx with hx; omega
            · split at hx
              · injection hx with hx; omega
              · cases hx
        obtain ⟨hv16, hv⟩ := hv
        have hpow : 16 ^ (k + 1) = 16 * 16 ^ k := by rw [Nat.pow_succ, Nat.mul_comm]
        have HN : ∀ d : Int, d = v → Hid (a * 16 + d = ((acc * 16 + v : Nat) : Int) ∧ acc * 16 + v < 16 ^ (k + 1) ∧ hexP 0 bs = hexP (acc * 16 + v) (bs.drop (k + 1))) := fun d hd => Lib.hid ⟨by omega, by omega, hdec.trans hF⟩
        have HNH := Lib.hid HN
        clear hF hdec ha hacc hacc16 hx HN hpow
        rcases hv with ⟨h0, h1, hv⟩ | ⟨h0, h1, hv⟩ | ⟨h0, h1, hv⟩
        · have HD := HNH.out ((c.toNat : Int) - 48) (by omega)
          have HD2 := Lib.hid HD
          clear HD HNH hv hv16
          go_wp2_with fail
          refine ⟨⟨k + 1, acc * 16 + v, a * 16 + ((c.toNat : Int) - 48), rfl, (by first | rfl | (congr 1; omega)), (by first | rfl | (congr 1; omega)), by omega, HD2.out⟩, by simp [intOf]; omega⟩
        · rw [or32_low _ h0 h1] at hlow
          have HD := HNH.out ((c.toNat : Int) - 97 + 10) (by omega)
          have HD2 := Lib.hid HD
          clear HD HNH hv hv16
          go_wp2_with (go_at_call 83; refine (hlow _).mono ?_; rintro e w' ⟨rfl, rfl⟩)
          refine ⟨⟨k + 1, acc * 16 + v, a * 16 + ((c.toNat : Int) - 97 + 10), rfl, (by first | rfl | (congr 1; omega)), (by first | rfl | (congr 1; omega)), by omega, HD2.out⟩, by simp [intOf]; omega⟩
        · rw [or32_up _ h0 h1] at hlow
          have HD := HNH.out (((c.toNat + 32 : Nat) : Int) - 97 + 10) (by omega)
          have HD2 := Lib.hid HD
          clear HD HNH hv hv16
          go_wp2_with (go_at_call 83; refine (hlow _).mono ?_; rintro e w' ⟨rfl, rfl⟩)
          refine ⟨⟨k + 1, acc * 16 + v, a * 16 + (((c.toNat + 32 : Nat) : Int) - 97 + 10), rfl, (by first | rfl | (congr 1; omega)), (by first | rfl | (congr 1; omega)), by omega, HD2.out⟩, by simp [intOf]; omega⟩
      | none =>
        have hF : hexP acc (c :: bs.drop (k + 1)) = none := by simp [hexP, hx]
        rw [hF] at hdec
        have HDEC := Lib.hid hdec
        obtain ⟨hbad, hL256⟩ := or32_bad _ hc256 hx
        have hnd : ¬ (48 ≤ c.toNat ∧ c.toNat ≤ 57) := by
          intro h
          unfold hexN at hx
          rw [if_pos h] at hx
          cases hx
        obtain ⟨L, hLL⟩ : ∃ L, L = (c.toNat ||| 32) := ⟨_, rfl⟩
        rw [← hLL] at hlow hbad hL256
        clear hacc hF ha hdec hx hacc16
        by_cases h95 : c.toNat = 95
        · have hlow95 : ∀ W, Calls Tryz.prog 83 #[.int .u8 95] W fun e w' => e = .returned (.int .u8 127) ∧ w' = W := by
            intro W
            have := Tryz.internal_strconv_lower 95 W
            rw [show bits .or .u8 95 32 = 127 by decide] at this
            exact this
          have hc95 : W1.cell? ⟨w.heap.size, k, none⟩ = some (.int .u8 95) := by rw [hc, h95]; rfl
          clear hlow hc h95 hLL hbad hL256 hnd
          go_wp2_with (go_at_call 83; refine (hlow95 _).mono ?_; rintro e w' ⟨rfl, rfl⟩)
          go_ret2
          exact ⟨by rw [HDEC.out]; rfl, hbw⟩
        · have hz : ((c.toNat : Int) == 95) = false := by rw [beq_eq_false_iff_ne]; omega
          clear hLL h95
          go_wp2_with (go_at_call 83; refine (hlow _).mono ?_; rintro e w' ⟨rfl, rfl⟩)
          all_goals first
            | (exfalso; omega)
            | (go_ret2; exact ⟨by rw [HDEC.out]; rfl, hbw⟩)
    · have hkk : k = t.size := by omega
      subst hkk
      have hF : hexP acc (bs.drop t.size) = some acc := by rw [List.drop_eq_nil_of_le (by omega)]; rfl
      rw [hF] at hdec
      have HDEC := Lib.hid hdec
      have a1 : a < 256 := by
        rw [h2] at hacc
        omega
      have HA := Lib.hid ha
      clear hacc hF hdec ha
      go_wp2_with fail
      go_ret2
      exact ⟨by rw [HDEC.out, HA.out]; rfl, hbw⟩
end Go.Proofs.YtmcnblibnbkfjaaGreatDoor.W12
