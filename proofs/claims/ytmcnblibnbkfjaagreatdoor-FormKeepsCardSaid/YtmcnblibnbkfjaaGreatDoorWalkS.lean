/-
  Walks of layer 12: the reference's hex and Unescaped. Conditions: the text is within Go's own limit.
-/
import Derived.Test.YtmcnblibnbkfjaaGreatDoorWalkF
import Derived.Test.YtmcnblibnbkfjaaGreatDoorWalkD
namespace Go.Proofs.YtmcnblibnbkfjaaGreatDoor.W12
open Go Go.RowKit P12

def hexI (n : Nat) : Int := match hexN n with
  | some v => (v : Int)
  | none => -1
set_option maxHeartbeats 1000000 in
theorem refHex_any (c : UInt8) (C : Int) (hC : C = c.toNat) (w : World) :
    Calls Tryz.prog 39 #[.int .u8 C] w fun e w' => e = .returned (.int .i64 (hexI c.toNat)) ∧ Below w.heap.size w w' := by
  have hn := c.toNat_lt
  generalize c.toNat = n at hC hn ⊢
  subst hC
  have hcase : n < 48 ∨ (48 ≤ n ∧ n ≤ 57) ∨ (57 < n ∧ n < 65) ∨ (65 ≤ n ∧ n ≤ 70) ∨ (70 < n ∧ n < 97) ∨ (97 ≤ n ∧ n ≤ 102) ∨ 102 < n := by omega
  obtain ⟨R, hR⟩ : ∃ R, R = hexI n := ⟨_, rfl⟩
  rw [← hR]
  rcases hcase with h | h | h | h | h | h | h
  · have hv : R = -1 := by rw [hR]; unfold hexI hexN; rw [if_neg (by omega), if_neg (by omega), if_neg (by omega)]
    subst hv
    clear hR
    go_enter Tryz.func39, Tryz.ntmps39
    go_wp2_with fail
    go_ret
    exact ⟨rfl, Below.refl _ _⟩
  · have hv : R = ((n - 48 : Nat) : Int) := by rw [hR]; unfold hexI hexN; rw [if_pos (by omega)]
    subst hv
    clear hR
    have h1 : IntKind.u8.wrap ((n : Int) - 48) = (n : Int) - 48 := wraps_u8 _ (by omega) (by omega)
    go_enter Tryz.func39, Tryz.ntmps39
    go_wp2_with fail
    go_ret
    first | exact ⟨rfl, Below.refl _ _⟩ | (refine ⟨ret1 (vint ?_), Below.refl _ _⟩; first | omega | (simp <;> omega))
  · have hv : R = -1 := by rw [hR]; unfold hexI hexN; rw [if_neg (by omega), if_neg (by omega), if_neg (by omega)]
    subst hv
    clear hR
    go_enter Tryz.func39, Tryz.ntmps39
    go_wp2_with fail
    go_ret
    exact ⟨rfl, Below.refl _ _⟩
  · have hv : R = ((n - 55 : Nat) : Int) := by rw [hR]; unfold hexI hexN; rw [if_neg (by omega), if_neg (by omega), if_pos (by omega)]
    subst hv
    clear hR
    have h1 : IntKind.u8.wrap ((n : Int) - 65) = (n : Int) - 65 := wraps_u8 _ (by omega) (by omega)
    go_enter Tryz.func39, Tryz.ntmps39
    go_wp2_with fail
    go_ret
    first | exact ⟨rfl, Below.refl _ _⟩ | (refine ⟨ret1 (vint ?_), Below.refl _ _⟩; first | omega | (simp <;> omega))
  · have hv : R = -1 := by rw [hR]; unfold hexI hexN; rw [if_neg (by omega), if_neg (by omega), if_neg (by omega)]
    subst hv
    clear hR
    go_enter Tryz.func39, Tryz.ntmps39
    go_wp2_with fail
    go_ret
    exact ⟨rfl, Below.refl _ _⟩
  · have hv : R = ((n - 87 : Nat) : Int) := by rw [hR]; unfold hexI hexN; rw [if_neg (by omega), if_pos (by omega)]
    subst hv
    clear hR
    have h1 : IntKind.u8.wrap ((n : Int) - 97) = (n : Int) - 97 := wraps_u8 _ (by omega) (by omega)
    go_enter Tryz.func39, Tryz.ntmps39
    go_wp2_with fail
    go_ret
    first | exact ⟨rfl, Below.refl _ _⟩ | (refine ⟨ret1 (vint ?_), Below.refl _ _⟩; first | omega | (simp <;> omega))
  · have hv : R = -1 := by rw [hR]; unfold hexI hexN; rw [if_neg (by omega), if_neg (by omega), if_neg (by omega)]
    subst hv
    clear hR
    go_enter Tryz.func39, Tryz.ntmps39
    go_wp2_with fail
    go_ret
    exact ⟨rfl, Below.refl _ _⟩

set_option maxHeartbeats 3200000 in
set_option maxRecDepth 100000 in
theorem refUnescaped_any (s : ByteArray) (w : World) (hs : s.size ≤ 140737488355328) :
    Calls Tryz.prog 11 #[.string s] w fun e w' => e = .returned (unescEnd (unescL s.data.toList)) ∧ Below w.heap.size w w' := by
  obtain ⟨i0, hi, hz0, hz1, hz2⟩ := info_parts infoByte
  go_enter Tryz.func11, Tryz.ntmps11
  go_wp2_with fail
  go_loopw [4, 5] (fun v i wr => ∃ (k : Nat) (acc : By), k ≤ s.size ∧ i = .int .i64 k ∧ acc.length ≤ k ∧ wr.ownsRow w.heap.size 5 1 v acc.length (Lib.byteCells acc) ∧ Below w.heap.size w wr ∧ Hid (unescL s.data.toList = (unescL (s.data.toList.drop k)).map (acc ++ ·))) (fun _ i _ => s.size - (intOf i).toNat)
  case atStart => exact ⟨0, [], by omega, rfl, by simp, World.ownsRow_nil _ _ _ _, Below.refl _ _, Lib.hid (by simp)⟩
  case round =>
    obtain ⟨k, acc, hk, rfl, hal, hI, hB, hunH⟩ := hrel
    have hun := hunH.out
    clear hunH
    have hBs := hB.size
    by_cases hlt : k < s.size
    · have hlt' : (k : Int) < (s.size : Int) := by omega
      by_cases hp : plainC (s[k]'hlt) = true
      · have hnx : unescL s.data.toList = (unescL (s.data.toList.drop (k + 1))).map ((acc ++ [s[k]'hlt]) ++ ·) := by
          rw [hun, get_drop s k hlt, unesc_plain hp, Option.map_map]
          congr 1
          funext x
          simp
        have HNX := Lib.hid hnx
        have hcon := fun W => refPlain_any (s[k]'hlt) _ rfl W
        rw [hp] at hcon
        clear hp hnx hun
        go_wp2_with (go_at_call 38; refine (hcon _).mono ?_; rintro e w1 ⟨rfl, hb1⟩; refine Hid.out ?_)
        refine Lib.hid ?_
        have hI1 := own_keep hI hb1
        have hs1 := hb1.size
        go_wp2_with (at_builtin; refine wpList_append_own _ rfl _ _ 56 rfl w.heap.size 5 i0 (.int .u8 0) 1 1 Tryz.underlying56 hi hz0 hz1 hz2 rfl (by decide) _ _ _ rfl (hI1.alloc _) ⟨w1.heap.size, 0, none⟩ 1 1 [.int .u8 ((s[k]'hlt).toNat : Nat)] rfl rfl ?c1 ?c2 ?c3 ?c4 ?c5 ?_)
        case c1 =>
          intro j u hj
          match j, hj with
          | 0, hj => simp at hj; subst hj; simp [Addr.add]
        case c2 => intro u hu; simp at hu; subst hu; rfl
        case c3 => unfold maxLen; omega
        case c4 => omega
        case c5 => simp; omega
        intro v' w2 hown' hgrow _
        have hB2 : Below w.heap.size w w2 := (((hB.trans (hb1.mono hBs)).alloc (by omega) _).grown hgrow (by simp; omega) (fun j e => (hI1.lt j e).1))
        clear hgrow hI1
        go_wp2_with fail
        go_roundw
        case rel => exact ⟨k + 1, acc ++ [s[k]'hlt], by omega, by go_num, by simp; omega, by rw [Lib.byteCells_append, List.length_append]; exact hown', hB2, HNX⟩
        case measure => simp [intOf]; omega
      · have hp' : plainC (s[k]'hlt) = false := by simpa using hp
        have hcon := fun W => refPlain_any (s[k]'hlt) _ rfl W
        rw [hp'] at hcon
        by_cases h37 : s[k]'hlt = 37
        · have hz : (((s[k]'hlt).toNat : Int) != 37) = false := by rw [h37]; rfl
          by_cases h2 : k + 2 < s.size
          · have h2' : (k : Int) + 2 < (s.size : Int) := by omega
            have hd := drop_two s k h2
            rw [h37] at hd
            have hun2 : unescL s.data.toList = (match hexP 0 [s[k + 1]'(by omega), s[k + 2]'h2] with | some u => (unescL (s.data.toList.drop (k + 3))).map (u.toUInt8 :: ·) | none => none).map (acc ++ ·) := by
              rw [hun, hd, unesc_two]
              rfl
            rw [hexP_two, hexV_nat, hexV_nat] at hun2
            have k1 : k + 1 < s.size := by omega
            have hx1 := fun W => refHex_any (s[k + 1]'k1) _ rfl W
            have hx2 := fun W => refHex_any (s[k + 2]'h2) _ rfl W
            clear hun hd h37 hp
            unfold hexI at hx1 hx2
            cases ha : hexN (s[k + 1]'k1).toNat with
            | none =>
              rw [ha] at hun2 hx1
              simp only [Option.map_none] at hun2
              have HN := Lib.hid hun2
              obtain ⟨Y, hY⟩ : ∃ Y : Int, Y = (match hexN (s[k + 2]'h2).toNat with | some v => (v : Int) | none => -1) := ⟨_, rfl⟩
              rw [← hY] at hx2
              clear hun2 ha hY hp'
              go_wp2_with (first
                | (go_at_call 38; refine (hcon _).mono ?_; rintro e w1 ⟨rfl, hb1⟩)
                | (go_at_call 39; refine (hx1 _).mono ?_; rintro e w2 ⟨rfl, hb2⟩; refine Hid.out ?_))
              refine Lib.hid ?_
              have hb12 := below_then hb1 hb2
              go_wp2_with (go_at_call 39; refine (hx2 _).mono ?_; rintro e w3 ⟨rfl, hb3⟩)
              go_ret2
              exact ⟨by rw [HN.out]; rfl, hB.trans ((below_then hb12 hb3).mono hBs)⟩
            | some x =>
              have hxlt := hexN_lt ha
              rw [ha] at hun2 hx1
              simp only at hx1
              have hx0 : ¬ ((x : Int) < 0) := by omega
              cases hb : hexN (s[k + 2]'h2).toNat with
              | none =>
                rw [hb] at hun2 hx2
                simp only [Option.map_none] at hun2
                have HN := Lib.hid hun2
                clear hun2 ha hb hp'
                go_wp2_with (first
                  | (go_at_call 38; refine (hcon _).mono ?_; rintro e w1 ⟨rfl, hb1⟩)
                  | (go_at_call 39; refine (hx1 _).mono ?_; rintro e w2 ⟨rfl, hb2⟩; refine Hid.out ?_))
                refine Lib.hid ?_
                have hb12 := below_then hb1 hb2
                go_wp2_with (go_at_call 39; refine (hx2 _).mono ?_; rintro e w3 ⟨rfl, hb3⟩)
                go_ret2
                exact ⟨by rw [HN.out]; rfl, hB.trans ((below_then hb12 hb3).mono hBs)⟩
              | some y =>
                have hylt := hexN_lt hb
                rw [hb] at hun2 hx2
                simp only [Option.map_map] at hun2
                simp only at hx2
                have hnx : unescL s.data.toList = (unescL (s.data.toList.drop (k + 2 + 1))).map ((acc ++ [(16 * x + y).toUInt8]) ++ ·) := by
                  rw [hun2]
                  congr 1
                  funext z
                  simp
                have HNX := Lib.hid hnx
                obtain ⟨u, hu⟩ : ∃ u, u = 16 * x + y := ⟨_, rfl⟩
                have hu256 : u < 256 := by omega
                rw [← hu] at HNX
                have hwu : IntKind.u8.wrap (16 * (x : Int) + (y : Int)) = (u : Int) := by rw [wraps_u8 _ (by omega) (by omega)]; omega
                have hu8 : (u : Int) = (u.toUInt8.toNat : Int) := by simp; omega
                have hy0 : ¬ ((y : Int) < 0) := by omega
                have HU8 := Lib.hid hu8
                clear hun2 ha hb hnx hp' hu hu8
                go_wp2_with (first
                  | (go_at_call 38; refine (hcon _).mono ?_; rintro e w1 ⟨rfl, hb1⟩)
                  | (go_at_call 39; refine (hx1 _).mono ?_; rintro e w2 ⟨rfl, hb2⟩; refine Hid.out ?_))
                refine Lib.hid ?_
                have hb12 := below_then hb1 hb2
                go_wp2_with (go_at_call 39; refine (hx2 _).mono ?_; rintro e w3 ⟨rfl, hb3⟩; refine Hid.out ?_)
                refine Lib.hid ?_
                have hb13 := below_then hb12 hb3
                have hI1 := own_keep hI hb13
                have hs1 := hb13.size
                go_wp2_with (at_builtin; refine wpList_append_own _ rfl _ _ 56 rfl w.heap.size 5 i0 (.int .u8 0) 1 1 Tryz.underlying56 hi hz0 hz1 hz2 rfl (by decide) _ _ _ rfl (hI1.alloc _) ⟨w3.heap.size, 0, none⟩ 1 1 [.int .u8 (u : Int)] rfl rfl ?c1 ?c2 ?c3 ?c4 ?c5 ?_)
                case c1 =>
                  intro j v hj
                  match j, hj with
                  | 0, hj => simp at hj; subst hj; simp [Addr.add]
                case c2 => intro v hv; simp at hv; subst hv; rfl
                case c3 => unfold maxLen; omega
                case c4 => omega
                case c5 => simp; omega
                intro v' w4 hown' hgrow _
                have hB2 : Below w.heap.size w w4 := (((hB.trans (hb13.mono hBs)).alloc (by omega) _).grown hgrow (by simp; omega) (fun j e => (hI1.lt j e).1))
                clear hgrow hI1
                rw [HU8.out] at hown'
                go_wp2_with fail
                go_roundw
                case rel => exact ⟨k + 2 + 1, acc ++ [u.toUInt8], by omega, by go_num, by simp; omega, by rw [Lib.byteCells_append, List.length_append]; exact hown', hB2, HNX⟩
                case measure => simp [intOf]; omega
          · have hN : unescL s.data.toList = none := by
              rw [hun, get_drop s k hlt, h37]
              have hl : (s.data.toList.drop (k + 1)).length ≤ 1 := by rw [List.length_drop, size_data]; omega
              cases hd : s.data.toList.drop (k + 1) with
              | nil => rw [unesc_short0]; rfl
              | cons a l =>
                cases l with
                | nil => rw [unesc_short1]; rfl
                | cons b l => rw [hd] at hl; simp at hl
            have HN := Lib.hid hN
            have h2' : ¬ ((k : Int) + 2 < (s.size : Int)) := by omega
            clear hp hp' hun h37 hN
            go_wp2_with (go_at_call 38; refine (hcon _).mono ?_; rintro e w1 ⟨rfl, hb1⟩; refine Hid.out ?_)
            refine Lib.hid ?_
            go_wp2_with fail
            go_ret2
            exact ⟨by rw [HN.out]; rfl, hB.trans (hb1.mono hBs)⟩
        · have hN : unescL s.data.toList = none := by
            rw [hun, get_drop s k hlt, unesc_none hp' h37]
            rfl
          have hz : (((s[k]'hlt).toNat : Int) != 37) = true := by
            rw [bne_iff_ne]
            intro e
            apply h37
            apply UInt8.toNat_inj.1
            have : ((37 : UInt8).toNat) = 37 := rfl
            omega
          have HN := Lib.hid hN
          clear hp hp' hun h37 hN
          go_wp2_with (go_at_call 38; refine (hcon _).mono ?_; rintro e w1 ⟨rfl, hb1⟩; refine Hid.out ?_)
          refine Lib.hid ?_
          go_wp2_with fail
          go_ret2
          exact ⟨by rw [HN.out]; rfl, hB.trans (hb1.mono hBs)⟩
    · obtain rfl : k = s.size := by omega
      rw [List.drop_eq_nil_of_le (by rw [size_data]; exact Nat.le_refl _), unesc_nil] at hun
      have HUN := Lib.hid hun
      have hconv := conv_own hI
      clear hun
      go_wp2_with fail
      go_ret2
      exact ⟨by rw [HUN.out]; simp [unescEnd], hB⟩
end Go.Proofs.YtmcnblibnbkfjaaGreatDoor.W12
