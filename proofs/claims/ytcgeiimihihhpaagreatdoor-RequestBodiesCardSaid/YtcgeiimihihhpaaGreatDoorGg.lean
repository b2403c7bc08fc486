/-
  Walks of layer 18: the reference's small functions: In, hex, tchar, Line. Conditions: texts are within Go's own limit.
  Walks of layer 18: the reference's cut; the target's plain laws. Conditions: texts are within Go's own limit.
  Walks of layer 18: the reference's target. Conditions: texts are within Go's own limit.
  Walks of layer 18: the reference's trim. Conditions: texts are within Go's own limit. (Printed by gen_trim.py.)
  A request or a header in a block of its own: stored whole, loaded whole, handed back. Condition: the block holds such a row.
  Walks of layer 18: the reference's first line. Conditions: the text is within Go's own limit.
-/
import Derived.Test.YtcgeiimihihhpaaGreatDoorGc
import Derived.Test.YtcgeiimihihhpaaGreatDoorGb
import Derived.Test.YtcgeiimihihhpaaGreatDoorGa
import Derived.Test.YtcgeiimihihhpaaGreatDoorGd
import Derived.Laws.Rows
import Derived.Laws.Tables
import Derived.Laws.CopyOwn

namespace Go.Proofs.YtcgeiimihihhpaaGreatDoor.W18
open Go Go.RowKit P12 P18

set_option maxRecDepth 100000 in
theorem refIn_any (c : UInt8) (C : Int) (hC : C = c.toNat) (s : ByteArray) (hs : s.size ≤ 140737488355328) (w : World) :
    Calls Tryz.prog 81 #[.int .u8 C, .string s] w fun e w' => e = .returned (.bool (s.data.toList.contains c)) ∧ w = w' := by
  obtain ⟨R, hR⟩ : ∃ R, R = s.data.toList.contains c := ⟨_, rfl⟩
  rw [← hR]
  have HR := Lib.hid hR
  clear hR
  go_enter Tryz.func81, Tryz.ntmps81
  go_wp2_with fail
  go_loop [5] (fun i => ∃ k : Nat, k ≤ s.size ∧ i = .int .i64 k ∧ Hid (R = (s.data.toList.drop k).contains c)) (fun i => s.size - (intOf i).toNat)
  case atStart => exact ⟨0, by omega, rfl, HR⟩
  case round =>
    obtain ⟨k, hk, rfl, hres⟩ := hrel
    by_cases hlt : k < s.size
    · have hlt' : (k : Int) < (s.size : Int) := by omega
      have hv := hres.out
      rw [drop_at s k hlt, List.contains_cons] at hv
      by_cases h : s[k]'hlt = c
      · have hz : (((s[k]'hlt).toNat : Int) == C) = true := by rw [h, hC]; simp
        rw [h] at hv
        simp only [BEq.rfl, Bool.true_or] at hv
        subst hv
        clear hres h hC
        go_wp2_with fail
        go_ret
        exact ⟨rfl, rfl⟩
      · have hz : (((s[k]'hlt).toNat : Int) == C) = false := by rw [hC]; exact toNat_ne h
        rw [beq_eq_false_iff_ne.2 (fun e => h e.symm), Bool.false_or] at hv
        have HV := Lib.hid hv
        clear hres h hC hv
        go_wp2_with fail
        go_round
        case rel => exact ⟨k + 1, by omega, by go_num, HV⟩
        case measure => simp [intOf]; omega
    · obtain rfl : k = s.size := by omega
      have hv := hres.out
      rw [List.drop_eq_nil_of_le (by rw [size_data]; exact Nat.le_refl _)] at hv
      simp only [List.contains_nil] at hv
      subst hv
      clear hres
      go_wp2_with fail
      go_ret
      exact ⟨rfl, rfl⟩

set_option maxHeartbeats 1000000 in
theorem refHex_any (c : UInt8) (C : Int) (hC : C = c.toNat) (w : World) :
    Calls Tryz.prog 82 #[.int .u8 C] w fun e w' => e = .returned (.bool (hexC c)) ∧ w = w' := by
  have hD := fun W => refDigit_any c C hC W
  rw [digitN_nat] at hD
  rw [hexCN_nat]
  have hn := c.toNat_lt
  generalize c.toNat = n at *
  subst hC
  obtain ⟨B, hB⟩ : ∃ B, B = hexCN n := ⟨_, rfl⟩
  obtain ⟨bd, hbd⟩ : ∃ B, B = digitN n := ⟨_, rfl⟩
  rw [← hB]
  rw [← hbd] at hD
  unfold hexCN at hB
  unfold digitN at hbd
  rcases (show n < 48 ∨ (48 ≤ n ∧ n < 58) ∨ (58 ≤ n ∧ n < 65) ∨ (65 ≤ n ∧ n < 71) ∨ (71 ≤ n ∧ n < 97) ∨ (97 ≤ n ∧ n < 103) ∨ 103 ≤ n by omega) with h | h | h | h | h | h | h
  all_goals
    first
      | (have e1 : B = true := by rw [hB]; simp <;> omega
         subst e1)
      | (have e1 : B = false := by rw [hB]; simp <;> omega
         subst e1)
    first
      | (have e1 : bd = true := by rw [hbd]; simp <;> omega
         subst e1)
      | (have e1 : bd = false := by rw [hbd]; simp <;> omega
         subst e1)
    clear hB hbd
    go_enter Tryz.func82, Tryz.ntmps82
    go_wp2_with (go_at_call 58; refine (hD _).mono ?_; rintro e w' ⟨rfl, rfl⟩)
    go_ret
    first | exact ⟨rfl, rfl⟩ | (refine ⟨ret1 (vbool ?_), rfl⟩; simp <;> omega)

set_option maxHeartbeats 1000000 in
theorem tchar_any (c : UInt8) (C : Int) (hC : C = c.toNat) (w : World) :
    Calls Tryz.prog 55 #[.int .u8 C] w fun e w' => e = .returned (.bool (tokenC c)) ∧ w = w' := by
  have hL := fun W => refLetter_any c C hC W
  have hD := fun W => refDigit_any c C hC W
  have hI := fun W => refIn_any c C hC ⟨#[33, 35, 36, 37, 38, 39, 42, 43, 45, 46, 94, 95, 96, 124, 126]⟩ (by decide) W
  have hi : (⟨#[33, 35, 36, 37, 38, 39, 42, 43, 45, 46, 94, 95, 96, 124, 126]⟩ : ByteArray).data.toList.contains c = marks.contains c := rfl
  rw [hi] at hI
  have ht : tokenC c = (letterC c || digit c || marks.contains c) := rfl
  rw [ht]
  generalize letterC c = bl at *
  generalize digit c = bd at *
  generalize marks.contains c = bi at *
  clear hi hC ht
  cases bl <;> cases bd <;> cases bi
  all_goals
    go_enter Tryz.func55, Tryz.ntmps55
    go_wp2_with (first | (go_at_call 80; refine (hL _).mono ?_; rintro e w' ⟨rfl, rfl⟩) | (go_at_call 58; refine (hD _).mono ?_; rintro e w' ⟨rfl, rfl⟩) | (go_at_call 81; refine (hI _).mono ?_; rintro e w' ⟨rfl, rfl⟩))
    go_ret
    exact ⟨rfl, rfl⟩

/-- What the reference's Line hands back. -/
def lineV (k : Nat) : Res By → Value
  | .stop t => .tuple #[.string ⟨#[]⟩, .int .i64 0, .int .i64 t]
  | .ok l _ => .tuple #[bs l, .int .i64 ((k + (l.length + 2) : Nat) : Int), .int .i64 200]
theorem lineGo_at (s : ByteArray) (k i n : Nat) (R : Res By) (hki : k ≤ i) (hi : i < s.size) (h : R = (lineGo (n + 1) (s.data.toList.drop i)).map ((s.data.toList.drop k).take (i - k) ++ ·)) (h1 : s[i]'hi ≠ 10) (h2 : s[i]'hi ≠ 13) :
    R = (lineGo n (s.data.toList.drop (i + 1))).map ((s.data.toList.drop k).take (i + 1 - k) ++ ·) := by
  rw [h, drop_at s i hi, line_cons _ _ _ h1 h2]
  simp only
  have e : (s.data.toList.drop k).take (i + 1 - k) = (s.data.toList.drop k).take (i - k) ++ [s[i]'hi] := by
    have hl : i - k < (s.data.toList.drop k).length := by rw [List.length_drop, size_data]; omega
    rw [show i + 1 - k = (i - k) + 1 by omega, List.take_succ_eq_append_getElem hl]
    congr 2
    simp [List.getElem_drop, show k + (i - k) = i by omega]
    rfl
  rw [e]
  cases lineGo n (s.data.toList.drop (i + 1)) <;> simp [Res.map]
set_option maxHeartbeats 1600000 in
set_option maxRecDepth 100000 in
theorem refLine_any (s : ByteArray) (k : Nat) (hk : k ≤ s.size) (hs : s.size ≤ 281474976710656) (w : World) :
    Calls Tryz.prog 22 #[.string s, .int .i64 k] w fun e w' => e = .returned (lineV k (lineL (s.data.toList.drop k))) ∧ w = w' := by
  obtain ⟨R, hR⟩ : ∃ R, R = lineL (s.data.toList.drop k) := ⟨_, rfl⟩
  rw [← hR]
  have HR := Lib.hid (show R = (lineGo (256 - (k - k)) (s.data.toList.drop k)).map ((s.data.toList.drop k).take (k - k) ++ ·) by
    rw [hR, Nat.sub_self]
    show lineGo 256 _ = (lineGo 256 _).map _
    cases lineGo 256 (s.data.toList.drop k) <;> simp [Res.map])
  clear hR
  go_enter Tryz.func22, Tryz.ntmps22
  go_wp2_with fail
  go_loop [7] (fun i => ∃ j : Nat, k ≤ j ∧ j ≤ s.size ∧ j - k ≤ 256 ∧ i = .int .i64 j ∧ Hid (R = (lineGo (256 - (j - k)) (s.data.toList.drop j)).map ((s.data.toList.drop k).take (j - k) ++ ·))) (fun i => s.size - (intOf i).toNat)
  case atStart => exact ⟨k, by omega, hk, by omega, rfl, HR⟩
  case round =>
    clear HR
    obtain ⟨j, hkj, hjs, hj, rfl, hres⟩ := hrel
    by_cases hlt : j < s.size
    · have hlt' : (j : Int) < (s.size : Int) := by omega
      by_cases h10 : s[j]'hlt = 10
      · have hz : (((s[j]'hlt).toNat : Int) == 10) = true := by rw [h10]; rfl
        have hv := hres.out
        rw [drop_at s j hlt, h10, line_lf] at hv
        change R = .stop 400 at hv
        subst hv
        clear hres h10
        go_wp2_with fail
        go_ret3
        exact ⟨rfl, rfl⟩
      · have hz : (((s[j]'hlt).toNat : Int) == 10) = false := toNat_ne h10
        by_cases h13 : s[j]'hlt = 13
        · have hz2 : (((s[j]'hlt).toNat : Int) == 13) = true := by rw [h13]; rfl
          have hv := hres.out
          rw [drop_at s j hlt, h13, line_cr] at hv
          have i6 : IntKind.i64.wrap ((j : Int) + 1) = (j : Int) + 1 := by rw [IntKind.wrap_i64]; omega
          by_cases he : j + 1 = s.size
          · have hze : (((j : Int) + 1) == (s.size : Int)) = true := by rw [beq_iff_eq]; omega
            have hdn : s.data.toList.drop (j + 1) = [] := List.drop_eq_nil_of_le (by rw [size_data]; omega)
            rw [hdn] at hv
            change R = .stop 0 at hv
            subst hv
            clear hres h10 h13
            go_wp2_with fail
            go_ret3
            exact ⟨rfl, rfl⟩
          · have hze : (((j : Int) + 1) == (s.size : Int)) = false := by rw [beq_eq_false_iff_ne]; omega
            have hl2 : j + 1 < s.size := by omega
            rw [drop_at s (j + 1) hl2] at hv
            have hx := run_at s (j + 1) (s[j + 1]'hl2) (by rw [List.getElem?_eq_getElem (by rw [size_data]; exact hl2)]; rfl)
            rw [show ((j + 1 : Nat) : Int) = (j : Int) + 1 by omega] at hx
            by_cases h2 : s[j + 1]'hl2 = 10
            · rw [h2] at hx
              simp only [h2, if_true] at hv
              have i7 : IntKind.i64.wrap ((j : Int) + 2) = (j : Int) + 2 := by rw [IntKind.wrap_i64]; omega
              have b1 : (k : Int) ≤ (j : Int) := by omega
              have b2 : (j : Int) ≤ (s.size : Int) := by omega
              have hd : (s.extract k j).data.toList = (s.data.toList.drop k).take (j - k) := by rw [Lib.extract_data]
              have hl : ((s.data.toList.drop k).take (j - k)).length = j - k := by rw [List.length_take, List.length_drop, size_data]; omega
              have HV := Lib.hid (show lineV k R = .tuple #[.string (s.extract k j), .int .i64 ((j : Int) + 2), .int .i64 200] by
                rw [hv]
                simp only [Res.map, lineV, List.append_nil, hl]
                rw [← hd, bs_data, show ((k + (j - k + 2) : Nat) : Int) = (j : Int) + 2 by omega])
              clear hv hd hl hres h10 h13 h2
              go_wp2_with fail
              go_ret3
              exact ⟨by rw [HV.out]; rfl, rfl⟩
            · have hz3 : (((s[j + 1]'hl2).toNat : Int) == 10) = false := toNat_ne h2
              simp only [h2, if_false] at hv
              change R = .stop 400 at hv
              subst hv
              clear hres h10 h13 h2
              go_wp2_with fail
              go_ret3
              exact ⟨rfl, rfl⟩
        · have hz2 : (((s[j]'hlt).toNat : Int) == 13) = false := toNat_ne h13
          by_cases h256 : j - k = 256
          · have hze : (((j : Int) - (k : Int)) == 256) = true := by rw [beq_iff_eq]; omega
            have hv := hres.out
            rw [h256, drop_at s j hlt, line_cons _ _ _ h10 h13] at hv
            change R = .stop 431 at hv
            subst hv
            clear hres h10 h13
            go_wp2_with fail
            go_ret3
            exact ⟨rfl, rfl⟩
          · have hze : (((j : Int) - (k : Int)) == 256) = false := by rw [beq_eq_false_iff_ne]; omega
            have hv := hres.out
            rw [show 256 - (j - k) = (256 - (j + 1 - k)) + 1 by omega] at hv
            have HV := Lib.hid (lineGo_at s k j _ R hkj hlt hv h10 h13)
            clear hres h10 h13 hv
            go_wp2_with fail
            go_round
            case rel => exact ⟨j + 1, by omega, by omega, by omega, by go_num, HV⟩
            case measure => simp [intOf]; omega
    · obtain rfl : j = s.size := by omega
      have hv := hres.out
      have hdn : s.data.toList.drop s.size = [] := List.drop_eq_nil_of_le (by rw [size_data]; exact Nat.le_refl _)
      rw [hdn, line_nil] at hv
      change R = .stop 0 at hv
      subst hv
      clear hres
      go_wp2_with fail
      go_ret3
      exact ⟨rfl, rfl⟩
end Go.Proofs.YtcgeiimihihhpaaGreatDoor.W18

namespace Go.Proofs.YtcgeiimihihhpaaGreatDoor.W18
open Go Go.RowKit P12 P18

theorem cutL_free_all {c : UInt8} {s : By} (h : s = []) : cutL c s = ([], [], false) := by subst h; rfl
theorem cutL_go {c : UInt8} {s : ByteArray} {k : Nat} {R : By × By × Bool} (hk : k < s.size) (h : R = (s.data.toList.take k ++ (cutL c (s.data.toList.drop k)).1, (cutL c (s.data.toList.drop k)).2.1, (cutL c (s.data.toList.drop k)).2.2)) (hc : s[k]'hk ≠ c) :
    R = (s.data.toList.take (k + 1) ++ (cutL c (s.data.toList.drop (k + 1))).1, (cutL c (s.data.toList.drop (k + 1))).2.1, (cutL c (s.data.toList.drop (k + 1))).2.2) := by
  have e : s.data.toList.take (k + 1) = s.data.toList.take k ++ [s[k]'hk] := by
    rw [List.take_succ_eq_append_getElem (by rw [size_data]; exact hk)]
    rfl
  rw [h, drop_at s k hk, cutL_cons hc, e]
  simp
set_option maxHeartbeats 1600000 in
set_option maxRecDepth 100000 in
theorem rcut_any (s : ByteArray) (c : UInt8) (hs : s.size ≤ 281474976710656) (w : World) :
    Calls Tryz.prog 53 #[.string s, .int .u8 (c.toNat : Nat)] w fun e w' => e = .returned (.tuple #[bs (cutL c s.data.toList).1, bs (cutL c s.data.toList).2.1, .bool (cutL c s.data.toList).2.2]) ∧ Below w.heap.size w w' := by
  obtain ⟨R, hR⟩ : ∃ R, R = cutL c s.data.toList := ⟨_, rfl⟩
  rw [← hR]
  have HR := Lib.hid (show R = (s.data.toList.take 0 ++ (cutL c (s.data.toList.drop 0)).1, (cutL c (s.data.toList.drop 0)).2.1, (cutL c (s.data.toList.drop 0)).2.2) by rw [hR]; simp)
  clear hR
  go_enter Tryz.func53, Tryz.ntmps53
  go_wp2_with fail
  go_loop [7] (fun i => ∃ k : Nat, k ≤ s.size ∧ i = .int .i64 k ∧ Hid (R = (s.data.toList.take k ++ (cutL c (s.data.toList.drop k)).1, (cutL c (s.data.toList.drop k)).2.1, (cutL c (s.data.toList.drop k)).2.2))) (fun i => s.size - (intOf i).toNat)
  case atStart => exact ⟨0, by omega, rfl, HR⟩
  case round =>
    clear HR
    obtain ⟨k, hk, rfl, hres⟩ := hrel
    by_cases hlt : k < s.size
    · have hlt' : (k : Int) < (s.size : Int) := by omega
      by_cases h : s[k]'hlt = c
      · have hz : (((s[k]'hlt).toNat : Int) == (c.toNat : Int)) = true := by rw [h]; simp
        have hv := hres.out
        rw [drop_at s k hlt, h, cutL_here] at hv
        have i0 : (0 : Int) ≤ (k : Int) := by omega
        have i1 : (k : Int) ≤ (s.size : Int) := by omega
        have i2 : (k : Int) + 1 ≤ (s.size : Int) := by omega
        have i3 : (0 : Int) ≤ (k : Int) + 1 := by omega
        have i6 : IntKind.i64.wrap ((k : Int) + 1) = (k : Int) + 1 := by rw [IntKind.wrap_i64]; omega
        have e1 : (s.extract 0 k).data.toList = s.data.toList.take k := by rw [Lib.extract_data]; simp
        have e2 : (s.extract (k + 1) s.size).data.toList = s.data.toList.drop (k + 1) := Lib.extract_to_end s (k + 1)
        have HV := Lib.hid (show bs R.1 = .string (s.extract 0 k) ∧ bs R.2.1 = .string (s.extract (k + 1) s.size) ∧ R.2.2 = true by
          rw [hv, ← bs_data, ← bs_data, e1, e2]; simp)
        clear hv hres h e1 e2
        go_wp2_with fail
        go_quiet (fail)
        go_wp2_with fail
        go_ret3
        exact ⟨by rw [HV.out.1, HV.out.2.1, HV.out.2.2]; rfl, below_drewN _ _⟩
      · have hz : (((s[k]'hlt).toNat : Int) == (c.toNat : Int)) = false := toNat_ne h
        have HV := Lib.hid (cutL_go hlt hres.out h)
        clear hres h
        go_wp2_with fail
        go_round
        case rel => exact ⟨k + 1, by omega, by go_num, HV⟩
        case measure => simp [intOf]; omega
    · obtain rfl : k = s.size := by omega
      have hv := hres.out
      have hdn : s.data.toList.drop s.size = [] := List.drop_eq_nil_of_le (by rw [size_data]; exact Nat.le_refl _)
      have htk : s.data.toList.take s.size = s.data.toList := List.take_of_length_le (by rw [size_data]; exact Nat.le_refl _)
      rw [hdn, cutL_free_all rfl, htk] at hv
      have HV := Lib.hid (show bs R.1 = .string s ∧ bs R.2.1 = .string ⟨#[]⟩ ∧ R.2.2 = false by rw [hv, ← bs_data]; simp)
      clear hv hres hdn htk
      go_wp2_with fail
      go_ret3
      exact ⟨by rw [HV.out.1, HV.out.2.1, HV.out.2.2]; rfl, Below.refl _ _⟩

def five : By := [45, 46, 95, 126, 47]
def andQ : By := [61, 38, 39]
theorem tcond_eq (q : Bool) (c : UInt8) : (plain18 c || c == 47 || (q && [61, 38, 39].contains c)) = (letterC c || digit c || five.contains c || (q && andQ.contains c)) := by
  rw [Bool.eq_iff_iff]
  simp [plain18, five, andQ, or_assoc]
theorem tgo_next {q : Bool} {c : UInt8} (l : By) (h : (letterC c || digit c || five.contains c || (q && andQ.contains c)) = true) : tgo q (c :: l) = tgo q l := by
  rw [tgo.eq_def]
  simp only
  rw [tcond_eq, if_pos h]
theorem tgo_query {c : UInt8} (l : By) (h : (letterC c || digit c || five.contains c || (false && andQ.contains c)) = false) (hc : c = 63) : tgo false (c :: l) = tgo true l := by
  rw [tgo.eq_def]
  simp only
  rw [tcond_eq, if_neg (by rw [h]; decide), if_pos ⟨hc, by trivial⟩]
theorem tgo_esc {q : Bool} {c a b : UInt8} (l : By) (h : (letterC c || digit c || five.contains c || (q && andQ.contains c)) = false) (hc : c = 37) : tgo q (c :: a :: b :: l) = if hexC a && hexC b then tgo q l else false := by
  rw [tgo.eq_def]
  simp only
  rw [tcond_eq, if_neg (by rw [h]; decide), if_neg (by rintro ⟨h, _⟩; rw [hc] at h; exact absurd h (by decide)), if_pos hc]
theorem tgo_no {q : Bool} {c : UInt8} (l : By) (h : (letterC c || digit c || five.contains c || (q && andQ.contains c)) = false) (hq : ¬ (c = 63 ∧ q = false)) (hc : c ≠ 37 ∨ l.length < 2) : tgo q (c :: l) = false := by
  rw [tgo.eq_def]
  simp only
  rw [tcond_eq, if_neg (by rw [h]; decide), if_neg hq]
  by_cases h37 : c = 37
  · rw [if_pos h37]
    match l with
    | [] => rfl
    | [_] => rfl
    | _ :: _ :: _ =>
      rcases hc with hc | hc
      · exact absurd h37 hc
      · simp only [List.length_cons] at hc; omega
  · rw [if_neg h37]
theorem drop_two (s : ByteArray) (k : Nat) (h : k + 2 < s.size) : s.data.toList.drop k = s[k]'(by omega) :: s[k + 1]'(by omega) :: s[k + 2]'h :: s.data.toList.drop (k + 3) := by
  rw [drop_at s k (by omega), drop_at s (k + 1) (by omega), drop_at s (k + 2) h]
theorem head_drop (s : ByteArray) (h : 0 < s.size) : s.data.toList.head? = some (s[0]'h) := by
  have := drop_at s 0 h
  rw [List.drop_zero] at this
  rw [this]
  rfl
end Go.Proofs.YtcgeiimihihhpaaGreatDoor.W18

namespace Go.Proofs.YtcgeiimihihhpaaGreatDoor.W18
open Go Go.RowKit P12 P18

set_option maxHeartbeats 12000000 in
set_option maxRecDepth 100000 in
theorem target_any (s : ByteArray) (hs : s.size ≤ 281474976710656) (w : World) :
    Calls Tryz.prog 54 #[.string s] w fun e w' => e = .returned (.bool (targetR s.data.toList)) ∧ w = w' := by
  by_cases h0 : s.size = 0
  · have hz : ((s.size : Int) == 0) = true := by rw [beq_iff_eq]; omega
    have hd : targetR s.data.toList = false := by
      have : s.data.toList = [] := List.length_eq_zero_iff.1 (by rw [size_data]; exact h0)
      rw [this]; rfl
    rw [hd]
    clear hd h0
    go_enter Tryz.func54, Tryz.ntmps54
    go_wp2_with fail
    go_ret
    exact ⟨rfl, rfl⟩
  have hz0 : ((s.size : Int) == 0) = false := by rw [beq_eq_false_iff_ne]; omega
  have hp : 0 < s.size := by omega
  have hp' : (0 : Int) < (s.size : Int) := by omega
  have hhd := head_drop s hp
  have hx0 := run_at s 0 (s[0]'hp) (by rw [List.getElem?_eq_getElem (by rw [size_data]; exact hp)]; rfl)
  rw [show ((0 : Nat) : Int) = 0 from rfl] at hx0
  by_cases h47 : s[0]'hp = 47
  · rw [h47] at hx0 hhd
    obtain ⟨R, hR⟩ : ∃ R, R = targetR s.data.toList := ⟨_, rfl⟩
    rw [← hR]
    have HR := Lib.hid (show R = tgo false (s.data.toList.drop 0) by rw [hR, List.drop_zero]; unfold targetR; rw [hhd]; simp)
    clear hR h47 hhd
    go_enter Tryz.func54, Tryz.ntmps54
    go_wp2_with fail
    clear hx0
    go_loop [3, 4] (fun b i => ∃ (q : Bool) (k : Nat), k ≤ s.size ∧ b = .bool q ∧ i = .int .i64 k ∧ Hid (R = tgo q (s.data.toList.drop k))) (fun _ i => s.size - (intOf i).toNat)
    case atStart => exact ⟨false, 0, by omega, rfl, rfl, HR⟩
    case round =>
      clear HR
      obtain ⟨q, k, hk, rfl, rfl, hres⟩ := hrel
      by_cases hlt : k < s.size
      · have hlt' : (k : Int) < (s.size : Int) := by omega
        have hL := fun W => refLetter_any (s[k]'hlt) _ rfl W
        have hD := fun W => refDigit_any (s[k]'hlt) _ rfl W
        have hI := fun W => refIn_any (s[k]'hlt) _ rfl ⟨#[45, 46, 95, 126, 47]⟩ (by decide) W
        have hJ := fun W => refIn_any (s[k]'hlt) _ rfl ⟨#[61, 38, 39]⟩ (by decide) W
        rw [show (⟨#[45, 46, 95, 126, 47]⟩ : ByteArray).data.toList.contains (s[k]'hlt) = five.contains (s[k]'hlt) from rfl] at hI
        rw [show (⟨#[61, 38, 39]⟩ : ByteArray).data.toList.contains (s[k]'hlt) = andQ.contains (s[k]'hlt) from rfl] at hJ
        have hv := hres.out
        by_cases hp : (letterC (s[k]'hlt) || digit (s[k]'hlt) || five.contains (s[k]'hlt) || (q && andQ.contains (s[k]'hlt))) = true
        · rw [drop_at s k hlt, tgo_next _ hp] at hv
          have HV := Lib.hid hv
          clear hv hres
          generalize letterC (s[k]'hlt) = bl at *
          generalize digit (s[k]'hlt) = bd at *
          generalize five.contains (s[k]'hlt) = bi at *
          generalize andQ.contains (s[k]'hlt) = bj at *
          cases bl with
          | true =>
            clear hp hI hJ
            go_wp2_with (first | (go_at_call 80; refine (hL _).mono ?_; rintro e w' ⟨rfl, rfl⟩) | (go_at_call 58; refine (hD _).mono ?_; rintro e w' ⟨rfl, rfl⟩) | (go_at_call 81; first | ((with_reducible refine (hI _).mono ?_); rintro e w' ⟨rfl, rfl⟩) | ((with_reducible refine (hJ _).mono ?_); rintro e w' ⟨rfl, rfl⟩)))
            go_round
            case rel => exact ⟨_, k + 1, by omega, rfl, by go_num, HV⟩
            case measure => simp [intOf]; omega
          | false =>
            cases bd with
            | true =>
              clear hp hI hJ
              go_wp2_with (first | (go_at_call 80; refine (hL _).mono ?_; rintro e w' ⟨rfl, rfl⟩) | (go_at_call 58; refine (hD _).mono ?_; rintro e w' ⟨rfl, rfl⟩) | (go_at_call 81; first | ((with_reducible refine (hI _).mono ?_); rintro e w' ⟨rfl, rfl⟩) | ((with_reducible refine (hJ _).mono ?_); rintro e w' ⟨rfl, rfl⟩)))
              go_round
              case rel => exact ⟨_, k + 1, by omega, rfl, by go_num, HV⟩
              case measure => simp [intOf]; omega
            | false =>
              cases bi with
              | true =>
                clear hp hJ
                go_wp2_with (first | (go_at_call 80; refine (hL _).mono ?_; rintro e w' ⟨rfl, rfl⟩) | (go_at_call 58; refine (hD _).mono ?_; rintro e w' ⟨rfl, rfl⟩) | (go_at_call 81; first | ((with_reducible refine (hI _).mono ?_); rintro e w' ⟨rfl, rfl⟩) | ((with_reducible refine (hJ _).mono ?_); rintro e w' ⟨rfl, rfl⟩)))
                go_round
                case rel => exact ⟨_, k + 1, by omega, rfl, by go_num, HV⟩
                case measure => simp [intOf]; omega
              | false =>
                cases q with
                | false => exfalso; simp at hp
                | true =>
                  cases bj with
                  | false => exfalso; simp at hp
                  | true =>
                    clear hp
                    go_wp2_with (first | (go_at_call 80; refine (hL _).mono ?_; rintro e w' ⟨rfl, rfl⟩) | (go_at_call 58; refine (hD _).mono ?_; rintro e w' ⟨rfl, rfl⟩) | (go_at_call 81; first | ((with_reducible refine (hI _).mono ?_); rintro e w' ⟨rfl, rfl⟩) | ((with_reducible refine (hJ _).mono ?_); rintro e w' ⟨rfl, rfl⟩)))
                    go_round
                    case rel => exact ⟨_, k + 1, by omega, rfl, by go_num, HV⟩
                    case measure => simp [intOf]; omega
        · have hp' : (letterC (s[k]'hlt) || digit (s[k]'hlt) || five.contains (s[k]'hlt) || (q && andQ.contains (s[k]'hlt))) = false := by simpa using hp
          have hq := hp'
          simp only [Bool.or_eq_false_iff] at hq
          obtain ⟨⟨⟨q1, q2⟩, q3⟩, q4⟩ := hq
          rw [q1] at hL
          rw [q2] at hD
          rw [q3] at hI
          have hJ' : q = true → ∀ W, Calls Tryz.prog 81 #[.int .u8 ((s[k]'hlt).toNat : Nat), .string ⟨#[61, 38, 39]⟩] W fun e w' => e = .returned (.bool false) ∧ W = w' := by
            intro hq W
            rw [hq, Bool.true_and] at q4
            rw [q4] at hJ
            exact hJ W
          clear q1 q2 q3 q4 hp hJ
          by_cases h63 : s[k]'hlt = 63
          · have hz63 : (((s[k]'hlt).toNat : Int) == 63) = true := by rw [h63]; rfl
            have hn37 : s[k]'hlt ≠ 37 := by rw [h63]; decide
            have hz37 : (((s[k]'hlt).toNat : Int) == 37) = false := toNat_ne hn37
            have hy37 : ¬ ((s[k]'hlt).toNat : Int) = 37 := beq_eq_false_iff_ne.1 hz37
            cases q with
            | false =>
              rw [drop_at s k hlt, tgo_query _ hp' h63] at hv
              have HV := Lib.hid hv
              clear hv hres hJ' hp' h63 hn37
              go_wp2_with (first | (go_at_call 80; refine (hL _).mono ?_; rintro e w' ⟨rfl, rfl⟩) | (go_at_call 58; refine (hD _).mono ?_; rintro e w' ⟨rfl, rfl⟩) | (go_at_call 81; (with_reducible refine (hI _).mono ?_); rintro e w' ⟨rfl, rfl⟩))
              go_round
              case rel => exact ⟨_, k + 1, by omega, rfl, by go_num, HV⟩
              case measure => simp [intOf]; omega
            | true =>
              rw [drop_at s k hlt, tgo_no _ hp' (by rintro ⟨_, h⟩; cases h) (.inl hn37)] at hv
              have hJ2 := hJ' rfl
              subst hv
              clear hres hJ' hp' h63 hn37
              go_wp2_with (first | (go_at_call 80; refine (hL _).mono ?_; rintro e w' ⟨rfl, rfl⟩) | (go_at_call 58; refine (hD _).mono ?_; rintro e w' ⟨rfl, rfl⟩) | (go_at_call 81; first | ((with_reducible refine (hI _).mono ?_); rintro e w' ⟨rfl, rfl⟩) | ((with_reducible refine (hJ2 _).mono ?_); rintro e w' ⟨rfl, rfl⟩)))
              go_ret
              exact ⟨rfl, rfl⟩
          · have hz63 : (((s[k]'hlt).toNat : Int) == 63) = false := toNat_ne h63
            by_cases h37 : s[k]'hlt = 37
            · have hz37 : (((s[k]'hlt).toNat : Int) == 37) = true := by rw [h37]; rfl
              have hy37 : ((s[k]'hlt).toNat : Int) = 37 := beq_iff_eq.1 hz37
              have hL := fun W => refLetter_any 37 37 rfl W
              have hD := fun W => refDigit_any 37 37 rfl W
              have hI := fun W => refIn_any 37 37 rfl ⟨#[45, 46, 95, 126, 47]⟩ (by decide) W
              have hJ2 := fun W => refIn_any 37 37 rfl ⟨#[61, 38, 39]⟩ (by decide) W
              rw [show letterC 37 = false by decide] at hL
              rw [show digit 37 = false by decide] at hD
              rw [show (⟨#[45, 46, 95, 126, 47]⟩ : ByteArray).data.toList.contains 37 = false by decide] at hI
              rw [show (⟨#[61, 38, 39]⟩ : ByteArray).data.toList.contains 37 = false by decide] at hJ2
              by_cases h3 : k + 2 < s.size
              · have hge : ¬ (s.size : Int) ≤ (k : Int) + 2 := by omega
                have hge' : decide ((s.size : Int) ≤ (k : Int) + 2) = false := decide_eq_false (by omega)
                rw [drop_two s k h3, tgo_esc _ hp' h37] at hv
                have hx1 := run_at s (k + 1) (s[k + 1]'(by omega)) (by rw [List.getElem?_eq_getElem (by rw [size_data]; omega)]; rfl)
                have hx2 := run_at s (k + 2) (s[k + 2]'h3) (by rw [List.getElem?_eq_getElem (by rw [size_data]; omega)]; rfl)
                rw [show ((k + 1 : Nat) : Int) = (k : Int) + 1 by omega] at hx1
                rw [show ((k + 2 : Nat) : Int) = (k : Int) + 2 by omega] at hx2
                have hA := fun W => refHex_any (s[k + 1]'(by omega)) _ rfl W
                have hB := fun W => refHex_any (s[k + 2]'h3) _ rfl W
                generalize s[k + 1]'(by omega) = x1 at *
                generalize s[k + 2]'h3 = x2 at *
                generalize hexC x1 = b1 at *
                generalize hexC x2 = b2 at *
                have HV := Lib.hid hv
                have i1 : IntKind.i64.wrap ((k : Int) + 1) = (k : Int) + 1 := by rw [IntKind.wrap_i64]; omega
                have i2 : IntKind.i64.wrap ((k : Int) + 2) = (k : Int) + 2 := by rw [IntKind.wrap_i64]; omega
                have i3 : IntKind.i64.wrap ((k : Int) + 2 + 1) = (k : Int) + 2 + 1 := by rw [IntKind.wrap_i64]; omega
                have HA := Lib.hid hA
                have HB := Lib.hid hB
                clear hv hres hp' h63 h37 hA hB hJ'
                cases q <;> cases b1 <;> cases b2
                all_goals
                  go_wp2_with (first | (go_at_call 80; refine (hL _).mono ?_; rintro e w' ⟨rfl, rfl⟩) | (go_at_call 58; refine (hD _).mono ?_; rintro e w' ⟨rfl, rfl⟩) | (go_at_call 81; first | ((with_reducible refine (hI _).mono ?_); rintro e w' ⟨rfl, rfl⟩) | ((with_reducible refine (hJ2 _).mono ?_); rintro e w' ⟨rfl, rfl⟩)) | (go_at_call 82; first | ((with_reducible refine (HA.out _).mono ?_); rintro e w' ⟨rfl, rfl⟩) | ((with_reducible refine (HB.out _).mono ?_); rintro e w' ⟨rfl, rfl⟩)))
                  first
                    | (go_ret
                       exact ⟨by rw [HV.out]; rfl, rfl⟩)
                    | (go_round
                       case rel => exact ⟨_, k + 3, by omega, rfl, by go_num, Lib.hid (by have := HV.out; simpa using this)⟩
                       case measure => simp [intOf]; omega)
              · have hge' : decide ((s.size : Int) ≤ (k : Int) + 2) = true := decide_eq_true (by omega)
                have hge : (s.size : Int) ≤ (k : Int) + 2 := by omega
                have hge2 : ¬ (k : Int) + 2 < (s.size : Int) := by omega
                rw [drop_at s k hlt, tgo_no _ hp' (by rintro ⟨h, _⟩; exact h63 h) (.inr (by rw [List.length_drop, size_data]; omega))] at hv
                subst hv
                have i2 : IntKind.i64.wrap ((k : Int) + 2) = (k : Int) + 2 := by rw [IntKind.wrap_i64]; omega
                clear hres hp' h63 h37 hJ'
                cases q
                all_goals
                  go_wp2_with (first | (go_at_call 80; refine (hL _).mono ?_; rintro e w' ⟨rfl, rfl⟩) | (go_at_call 58; refine (hD _).mono ?_; rintro e w' ⟨rfl, rfl⟩) | (go_at_call 81; first | ((with_reducible refine (hI _).mono ?_); rintro e w' ⟨rfl, rfl⟩) | ((with_reducible refine (hJ2 _).mono ?_); rintro e w' ⟨rfl, rfl⟩)))
                  go_ret
                  exact ⟨rfl, rfl⟩
            · have hz37 : (((s[k]'hlt).toNat : Int) == 37) = false := toNat_ne h37
              have hy37 : ¬ ((s[k]'hlt).toNat : Int) = 37 := beq_eq_false_iff_ne.1 hz37
              rw [drop_at s k hlt, tgo_no _ hp' (by rintro ⟨h, _⟩; exact h63 h) (.inl h37)] at hv
              subst hv
              have HJ := Lib.hid hJ'
              clear hres hp' h63 h37 hJ'
              cases q
              all_goals
                first
                  | have hJ2 := HJ.out rfl
                  | skip
                go_wp2_with (first | (go_at_call 80; refine (hL _).mono ?_; rintro e w' ⟨rfl, rfl⟩) | (go_at_call 58; refine (hD _).mono ?_; rintro e w' ⟨rfl, rfl⟩) | (go_at_call 81; first | ((with_reducible refine (hI _).mono ?_); rintro e w' ⟨rfl, rfl⟩) | ((with_reducible refine (hJ2 _).mono ?_); rintro e w' ⟨rfl, rfl⟩)))
                go_ret
                exact ⟨rfl, rfl⟩
      · obtain rfl : k = s.size := by omega
        have hv := hres.out
        have hdn : s.data.toList.drop s.size = [] := List.drop_eq_nil_of_le (by rw [size_data]; exact Nat.le_refl _)
        rw [hdn, tgo_nil] at hv
        subst hv
        clear hres hdn
        go_wp2_with fail
        go_ret
        exact ⟨rfl, rfl⟩
  · have hz : (((s[0]'hp).toNat : Int) == 47) = false := toNat_ne h47
    have hd : targetR s.data.toList = false := by unfold targetR; rw [hhd]; simp [h47]
    rw [hd]
    clear hd h47 hhd
    go_enter Tryz.func54, Tryz.ntmps54
    go_wp2_with fail
    go_ret
    exact ⟨rfl, rfl⟩
end Go.Proofs.YtcgeiimihihhpaaGreatDoor.W18

namespace Go.Proofs.YtcgeiimihihhpaaGreatDoor.W18
open Go Go.RowKit P12 P18

def strLen : Value → Nat
  | .string r => r.size
  | _ => 0
set_option maxHeartbeats 3200000 in
set_option maxRecDepth 100000 in
theorem rtrim_any (s X : ByteArray) (hX : X = ⟨(trimL s.data.toList).toArray⟩) (hs : s.size ≤ 281474976710656) (w : World) :
    Calls Tryz.prog 57 #[.string s] w fun e w' => e = .returned (.string X) ∧ w = w' := by
  have HX := Lib.hid (show X.data.toList = ((s.data.toList.dropWhile layout).reverse.dropWhile layout).reverse by rw [hX]; rfl)
  clear hX
  go_enter Tryz.func57, Tryz.ntmps57
  go_wp2_with fail
  go_loop [0] (fun v => ∃ r : ByteArray, v = .string r ∧ r.size ≤ s.size ∧ Hid (X.data.toList = ((r.data.toList.dropWhile layout).reverse.dropWhile layout).reverse)) (fun v => strLen v)
  case atStart => exact ⟨s, rfl, Nat.le_refl _, HX⟩
  case round =>
    clear HX
    obtain ⟨r, rfl, hrs, HX⟩ := hrel
    by_cases h0 : r.size = 0
    · have hnil : r.data.toList = [] := List.length_eq_zero_iff.1 (by rw [size_data]; exact h0)
      have hgt : ¬ (0 : Int) < (r.size : Int) := by omega
      have hv := HX.out
      rw [show r.data.toList.dropWhile layout = r.data.toList by rw [hnil]; rfl] at hv
      replace HX := Lib.hid hv
      clear hv hnil h0
      go_wp2_with fail
      go_loop [0] (fun v => ∃ r : ByteArray, v = .string r ∧ r.size ≤ s.size ∧ Hid (X.data.toList = (r.data.toList.reverse.dropWhile layout).reverse)) (fun v => strLen v)
      case atStart => exact ⟨r, rfl, hrs, HX⟩
      case round =>
        clear HX hrs
        obtain ⟨r, rfl, hrs, HX⟩ := hrel
        by_cases h0 : r.size = 0
        · have hnil : r.data.toList = [] := List.length_eq_zero_iff.1 (by rw [size_data]; exact h0)
          have hxr : X = r := ba_ext (by rw [HX.out, hnil]; rfl)
          have hgt : ¬ (0 : Int) < (r.size : Int) := by omega
          clear HX hnil h0
          subst hxr
          go_wp2_with fail
          go_ret
          exact ⟨rfl, rfl⟩
        · obtain ⟨m, hm⟩ : ∃ m, r.size = m + 1 := ⟨r.size - 1, by omega⟩
          have hml : m < r.size := by omega
          have hgt : (0 : Int) < (r.size : Int) := by omega
          have hsub : (r.size : Int) - 1 = (m : Int) := by omega
          have hwr : IntKind.i64.wrap (m : Int) = (m : Int) := by rw [IntKind.wrap_i64]; omega
          have hlast : r.data.toList = r.data.toList.take m ++ [r[m]'hml] := by
            have := List.take_succ_eq_append_getElem (l := r.data.toList) (i := m) (by rw [size_data]; exact hml)
            rw [List.take_of_length_le (by rw [size_data]; omega)] at this
            exact this
          have hx := run_at r m (r[m]'hml) (by rw [List.getElem?_eq_getElem (by rw [size_data]; exact hml)]; rfl)
          have i0 : (0 : Int) ≤ (m : Int) := by omega
          have i1 : (m : Int) ≤ (r.size : Int) := by omega
          have hed : (r.extract 0 m).data.toList = r.data.toList.take m := by rw [Lib.extract_data]; simp
          have hez : (r.extract 0 m).size = m := by rw [ByteArray.size_extract]; omega
          have hv := HX.out
          rw [hlast, List.reverse_append, List.reverse_singleton, List.singleton_append, List.dropWhile_cons] at hv
          generalize r[m]'hml = c at *
          by_cases h32 : c = 32
          · have hz : ((c.toNat : Int) == 32) = true := by rw [h32]; rfl
            rw [h32, if_pos (by decide), ← hed] at hv
            have HV := Lib.hid hv
            have HZ := Lib.hid hez
            clear HX hv hlast hed h0 h32 hez
            go_wp2_with fail
            go_round
            case rel => exact ⟨_, rfl, by rw [HZ.out]; omega, HV⟩
            case measure => show (r.extract 0 m).size < r.size; rw [HZ.out]; omega
          · have hz : ((c.toNat : Int) == 32) = false := toNat_ne h32
            by_cases h9 : c = 9
            · have hz9 : ((c.toNat : Int) == 9) = true := by rw [h9]; rfl
              rw [h9, if_pos (by decide), ← hed] at hv
              have HV := Lib.hid hv
              have HZ := Lib.hid hez
              clear HX hv hlast hed h0 h32 h9 hez
              go_wp2_with fail
              go_round
              case rel => exact ⟨_, rfl, by rw [HZ.out]; omega, HV⟩
              case measure => show (r.extract 0 m).size < r.size; rw [HZ.out]; omega
            · have hz9 : ((c.toNat : Int) == 9) = false := toNat_ne h9
              have hxr : X = r := ba_ext (by
                rw [hv, if_neg (by unfold layout; simp [h32, h9])]
                rw [List.reverse_cons, List.reverse_reverse]; exact hlast.symm)
              clear HX hv hlast hed h0 h32 h9 hez
              subst hxr
              go_wp2_with fail
              go_ret
              exact ⟨rfl, rfl⟩
    · have hp : 0 < r.size := by omega
      have hgt : (0 : Int) < (r.size : Int) := by omega
      have hx := run_at r 0 (r[0]'hp) (by rw [List.getElem?_eq_getElem (by rw [size_data]; exact hp)]; rfl)
      rw [show ((0 : Nat) : Int) = 0 from rfl] at hx
      have i0 : (1 : Int) ≤ (r.size : Int) := by omega
      have hed : (r.extract 1 r.size).data.toList = r.data.toList.drop 1 := Lib.extract_to_end r 1
      have hez : (r.extract 1 r.size).size = r.size - 1 := by rw [ByteArray.size_extract]; omega
      have hdr := drop_at r 0 hp
      rw [List.drop_zero, Nat.zero_add] at hdr
      have hv := HX.out
      rw [hdr, List.dropWhile_cons] at hv
      generalize r[0]'hp = c at *
      by_cases h32 : c = 32
      · have hz : ((c.toNat : Int) == 32) = true := by rw [h32]; rfl
        rw [h32, if_pos (by decide), ← hed] at hv
        have HV := Lib.hid hv
        have HZ := Lib.hid hez
        clear HX hv hdr hed h0 h32 hez
        go_wp2_with fail
        go_round
        case rel => exact ⟨_, rfl, by rw [HZ.out]; omega, HV⟩
        case measure => show (r.extract 1 r.size).size < r.size; rw [HZ.out]; omega
      · have hz : ((c.toNat : Int) == 32) = false := toNat_ne h32
        by_cases h9 : c = 9
        · have hz9 : ((c.toNat : Int) == 9) = true := by rw [h9]; rfl
          rw [h9, if_pos (by decide), ← hed] at hv
          have HV := Lib.hid hv
          have HZ := Lib.hid hez
          clear HX hv hdr hed h0 h32 h9 hez
          go_wp2_with fail
          go_round
          case rel => exact ⟨_, rfl, by rw [HZ.out]; omega, HV⟩
          case measure => show (r.extract 1 r.size).size < r.size; rw [HZ.out]; omega
        · have hz9 : ((c.toNat : Int) == 9) = false := toNat_ne h9
          rw [if_neg (by unfold layout; simp [h32, h9]), ← hdr] at hv
          replace HX := Lib.hid hv
          clear hv hdr hed h32 h9 hez h0
          go_wp2_with fail
          clear hz hz9 hx hgt i0
          go_loop [0] (fun v => ∃ r : ByteArray, v = .string r ∧ r.size ≤ s.size ∧ Hid (X.data.toList = (r.data.toList.reverse.dropWhile layout).reverse)) (fun v => strLen v)
          case atStart => exact ⟨r, rfl, hrs, HX⟩
          case round =>
            clear HX hrs
            obtain ⟨r, rfl, hrs, HX⟩ := hrel
            by_cases h0 : r.size = 0
            · have hnil : r.data.toList = [] := List.length_eq_zero_iff.1 (by rw [size_data]; exact h0)
              have hxr : X = r := ba_ext (by rw [HX.out, hnil]; rfl)
              have hgt : ¬ (0 : Int) < (r.size : Int) := by omega
              clear HX hnil h0
              subst hxr
              go_wp2_with fail
              go_ret
              exact ⟨rfl, rfl⟩
            · obtain ⟨m, hm⟩ : ∃ m, r.size = m + 1 := ⟨r.size - 1, by omega⟩
              have hml : m < r.size := by omega
              have hgt : (0 : Int) < (r.size : Int) := by omega
              have hsub : (r.size : Int) - 1 = (m : Int) := by omega
              have hwr : IntKind.i64.wrap (m : Int) = (m : Int) := by rw [IntKind.wrap_i64]; omega
              have hlast : r.data.toList = r.data.toList.take m ++ [r[m]'hml] := by
                have := List.take_succ_eq_append_getElem (l := r.data.toList) (i := m) (by rw [size_data]; exact hml)
                rw [List.take_of_length_le (by rw [size_data]; omega)] at this
                exact this
              have hx := run_at r m (r[m]'hml) (by rw [List.getElem?_eq_getElem (by rw [size_data]; exact hml)]; rfl)
              have i0 : (0 : Int) ≤ (m : Int) := by omega
              have i1 : (m : Int) ≤ (r.size : Int) := by omega
              have hed : (r.extract 0 m).data.toList = r.data.toList.take m := by rw [Lib.extract_data]; simp
              have hez : (r.extract 0 m).size = m := by rw [ByteArray.size_extract]; omega
              have hv := HX.out
              rw [hlast, List.reverse_append, List.reverse_singleton, List.singleton_append, List.dropWhile_cons] at hv
              generalize r[m]'hml = c at *
              by_cases h32 : c = 32
              · have hz : ((c.toNat : Int) == 32) = true := by rw [h32]; rfl
                rw [h32, if_pos (by decide), ← hed] at hv
                have HV := Lib.hid hv
                have HZ := Lib.hid hez
                clear HX hv hlast hed h0 h32 hez
                go_wp2_with fail
                go_round
                case rel => exact ⟨_, rfl, by rw [HZ.out]; omega, HV⟩
                case measure => show (r.extract 0 m).size < r.size; rw [HZ.out]; omega
              · have hz : ((c.toNat : Int) == 32) = false := toNat_ne h32
                by_cases h9 : c = 9
                · have hz9 : ((c.toNat : Int) == 9) = true := by rw [h9]; rfl
                  rw [h9, if_pos (by decide), ← hed] at hv
                  have HV := Lib.hid hv
                  have HZ := Lib.hid hez
                  clear HX hv hlast hed h0 h32 h9 hez
                  go_wp2_with fail
                  go_round
                  case rel => exact ⟨_, rfl, by rw [HZ.out]; omega, HV⟩
                  case measure => show (r.extract 0 m).size < r.size; rw [HZ.out]; omega
                · have hz9 : ((c.toNat : Int) == 9) = false := toNat_ne h9
                  have hxr : X = r := ba_ext (by
                    rw [hv, if_neg (by unfold layout; simp [h32, h9])]
                    rw [List.reverse_cons, List.reverse_reverse]; exact hlast.symm)
                  clear HX hv hlast hed h0 h32 h9 hez
                  subst hxr
                  go_wp2_with fail
                  go_ret
                  exact ⟨rfl, rfl⟩
end Go.Proofs.YtcgeiimihihhpaaGreatDoor.W18

namespace Go.Proofs.YtcgeiimihihhpaaGreatDoor.W18
open Go Go.RowKit P12 P18

abbrev z6 : Array Value := #[.string ⟨#[]⟩, .string ⟨#[]⟩, .string ⟨#[]⟩, .slice none 0 0, .string ⟨#[]⟩, .bool false]
abbrev z2 : Array Value := #[.string ⟨#[]⟩, .string ⟨#[]⟩]
abbrev RqAt (N : Nat) (c : Array Value) (w : World) : Prop := w.heap[N]? = some (.cells c 25 (0, 0))
abbrev HdAt (N : Nat) (c : Array Value) (w : World) : Prop := w.heap[N]? = some (.cells c 32 (0, 0))
theorem sizeRq : (Tryz.prog.info? 25).map (·.size) = some 6 := by kernel_rfl
theorem sizeHd : (Tryz.prog.info? 32).map (·.size) = some 2 := by kernel_rfl
theorem one6 (M P Q Y : ByteArray) (o : Option Addr) (n c : Nat) (b : Bool) : (#[.string M, .string P, .string Q, .slice o n c, .string Y, .bool b] : Array Value).all (·.oneCell') = true := by simp [Value.oneCell']
theorem one2 (M P : ByteArray) : (#[.string M, .string P] : Array Value).all (·.oneCell') = true := by simp [Value.oneCell']
theorem new_at (w : World) (c : Array Value) (t : TypeId) : (w.alloc (.cells c t)).heap[w.heap.size]? = some (.cells c t (0, 0)) := heap_new w _
theorem keep_at {N : Nat} {c : Array Value} {t : TypeId} {w w' : World} (h : w.heap[N]? = some (.cells c t (0, 0))) (hb : Below w.heap.size w w') : w'.heap[N]? = some (.cells c t (0, 0)) := (hb.block N (lt_of_block h)).trans h
theorem store_at {N : Nat} {c c' : Array Value} {t : TypeId} {w : World} (h : w.heap[N]? = some (.cells c t (0, 0))) (hi : (Tryz.prog.info? t).map (·.size) = some c'.size) (ho : c.size = c'.size) (h1 : c'.all (·.oneCell') = true) :
    (Instr.storeAt t (.pointer (some ⟨N, 0, none⟩)) (.agg c')).run Tryz.prog w = .ok () (w.setRow N c') := by
  simp only [Instr.storeAt, Instr.sureAddr, Sem.run_bind, Sem.run_pure, Result.andThen_ok, run_storeVar_row w N t t c c' h hi ho h1]
theorem load_rq {N : Nat} {c : Array Value} {w : World} (h : RqAt N c w) (hc : c.size = 6) :
    (Instr.loadAt 25 (.pointer (some ⟨N, 0, none⟩))).run Tryz.prog w = .ok (.agg c) w := by
  simp only [Instr.loadAt, Instr.sureAddr, Sem.run_bind, Sem.run_pure, Result.andThen_ok]
  exact run_loadVar_row w N _ _ c (0, 0) _ h Tryz.underlying25 rfl (by rw [hc]; exact sizeRq)
theorem load_hd {N : Nat} {c : Array Value} {w : World} (h : HdAt N c w) (hc : c.size = 2) :
    (Instr.loadAt 32 (.pointer (some ⟨N, 0, none⟩))).run Tryz.prog w = .ok (.agg c) w := by
  simp only [Instr.loadAt, Instr.sureAddr, Sem.run_bind, Sem.run_pure, Result.andThen_ok]
  exact run_loadVar_row w N _ _ c (0, 0) _ h Tryz.underlying32 rfl (by rw [hc]; exact sizeHd)
theorem setAt {N : Nat} {c c' : Array Value} {t : TypeId} {w : World} (h : w.heap[N]? = some (.cells c t (0, 0))) : (w.setRow N c').heap[N]? = some (.cells c' t (0, 0)) := setRow_heap w N c c' t (0, 0) h
theorem below_set {B N : Nat} {w w' : World} (hb : Below B w w') (hN : B ≤ N) (c : Array Value) : Below B w (w'.setRow N c) := below_setRow hb hN c
theorem cells6 {N : Nat} {a b c d e f : Value} {w : World} (h : RqAt N #[a, b, c, d, e, f] w) : w.cell? ⟨N, 0, none⟩ = some a ∧ w.cell? ⟨N, 1, none⟩ = some b ∧ w.cell? ⟨N, 2, none⟩ = some c ∧ w.cell? ⟨N, 3, none⟩ = some d ∧ w.cell? ⟨N, 4, none⟩ = some e ∧ w.cell? ⟨N, 5, none⟩ = some f :=
  ⟨Lib.cell_of_heap h 0, Lib.cell_of_heap h 1, Lib.cell_of_heap h 2, Lib.cell_of_heap h 3, Lib.cell_of_heap h 4, Lib.cell_of_heap h 5⟩
theorem put_rq {ops : Array Oper} {rest : List Oper} {o : Oper} {a : Act} {w : World} {Q : Exit → Act → World → Prop} (hgd : o.guard = none) (x y : Operand) (ho : o.op = .store 25 x y)
    (N : Nat) (c : Array Value) (hx : a.eval x = .pointer (some ⟨N, 0, none⟩)) (hy : a.eval y = .agg c) {old : Array Value} (hg : RqAt N old w) (hs : old.size = 6) (hc : c.size = 6) (h1 : c.all (·.oneCell') = true)
    (h : ∀ w', RqAt N c w' → Below N w w' → (∀ k, k ≠ N → w'.heap[k]? = w.heap[k]?) → wpList Tryz.prog ops Q rest (a.put o.dst undef) w') : wpList Tryz.prog ops Q (o :: rest) a w :=
  wpList_store_row hgd _ x y ho N c hx hy _ old hg (by rw [hc]; exact sizeRq) (by rw [hs, hc]) h1 (h _ (setAt hg) (below_set (Below.refl _ _) (Nat.le_refl _) _) (fun k hk => setRow_other w N k c hk))
theorem put_hd {ops : Array Oper} {rest : List Oper} {o : Oper} {a : Act} {w : World} {Q : Exit → Act → World → Prop} (hgd : o.guard = none) (x y : Operand) (ho : o.op = .store 32 x y)
    (N : Nat) (c : Array Value) (hx : a.eval x = .pointer (some ⟨N, 0, none⟩)) (hy : a.eval y = .agg c) {old : Array Value} (hg : HdAt N old w) (hs : old.size = 2) (hc : c.size = 2) (h1 : c.all (·.oneCell') = true)
    (h : ∀ w', HdAt N c w' → Below N w w' → (∀ k, k ≠ N → w'.heap[k]? = w.heap[k]?) → wpList Tryz.prog ops Q rest (a.put o.dst undef) w') : wpList Tryz.prog ops Q (o :: rest) a w :=
  wpList_store_row hgd _ x y ho N c hx hy _ old hg (by rw [hc]; exact sizeHd) (by rw [hs, hc]) h1 (h _ (setAt hg) (below_set (Below.refl _ _) (Nat.le_refl _) _) (fun k hk => setRow_other w N k c hk))
theorem ret_rq {fn : Func} {p u : Tmp} (h : fn.results = #[.cell p 25, .tmp u]) (tmps : Array Value) (w : World) (N : Nat) (c : Array Value) (hp : tmps.getD p undef = .pointer (some ⟨N, 0, none⟩)) (hN : RqAt N c w) (hc : c.size = 6) :
    (results fn tmps).run Tryz.prog w = .ok (.tuple #[.agg c, tmps.getD u undef]) w := by
  rw [results_cell_tmp h, hp]
  simp only [asAddr, Sem.run_pure, Result.andThen_ok, run_loadVar_row w N _ _ c (0, 0) _ hN Tryz.underlying25 rfl (by rw [hc]; exact sizeRq)]
theorem ret_hd {fn : Func} {p u : Tmp} (h : fn.results = #[.cell p 32, .tmp u]) (tmps : Array Value) (w : World) (N : Nat) (c : Array Value) (hp : tmps.getD p undef = .pointer (some ⟨N, 0, none⟩)) (hN : HdAt N c w) (hc : c.size = 2) :
    (results fn tmps).run Tryz.prog w = .ok (.tuple #[.agg c, tmps.getD u undef]) w := by
  rw [results_cell_tmp h, hp]
  simp only [asAddr, Sem.run_pure, Result.andThen_ok, run_loadVar_row w N _ _ c (0, 0) _ hN Tryz.underlying32 rfl (by rw [hc]; exact sizeHd)]
theorem ret_rq2 {fn : Func} {p u v : Tmp} (h : fn.results = #[.cell p 25, .tmp u, .tmp v]) (tmps : Array Value) (w : World) (N : Nat) (c : Array Value) (hp : tmps.getD p undef = .pointer (some ⟨N, 0, none⟩)) (hN : RqAt N c w) (hc : c.size = 6) :
    (results fn tmps).run Tryz.prog w = .ok (.tuple #[.agg c, tmps.getD u undef, tmps.getD v undef]) w := by
  have hl := run_loadVar_row (P := Tryz.prog) w N _ _ c (0, 0) _ hN Tryz.underlying25 rfl (by rw [hc]; exact sizeRq)
  have hp' : tmps[p]?.getD undef = .pointer (some ⟨N, 0, none⟩) := by simpa using hp
  simp [results, h, hp', asAddr, hl, Result.andThen]
theorem ret_rq3 {fn : Func} {p u v : Tmp} (h : fn.results = #[.cell p 25, .cell u 3, .cell v 3]) (tmps : Array Value) (w : World) (N : Nat) (c : Array Value) (hp : tmps.getD p undef = .pointer (some ⟨N, 0, none⟩)) (hN : RqAt N c w) (hc : c.size = 6)
    (U V : Addr) (hu : tmps.getD u undef = .pointer (some U)) (hv : tmps.getD v undef = .pointer (some V)) (a b : Int) (ha : w.cell? U = some (.int .i64 a)) (hb : w.cell? V = some (.int .i64 b)) :
    (results fn tmps).run Tryz.prog w = .ok (.tuple #[.agg c, .int .i64 a, .int .i64 b]) w := by
  have hl := run_loadVar_row (P := Tryz.prog) w N _ _ c (0, 0) _ hN Tryz.underlying25 rfl (by rw [hc]; exact sizeRq)
  have hp' : tmps[p]?.getD undef = .pointer (some ⟨N, 0, none⟩) := by simpa using hp
  have hu' : tmps[u]?.getD undef = .pointer (some U) := by simpa using hu
  have hv' : tmps[v]?.getD undef = .pointer (some V) := by simpa using hv
  have hla : (loadVar 3 U).run Tryz.prog w = .ok (.int .i64 a) w := by
    unfold loadVar isAgg
    simp [Sem.run_bind, Tryz.underlying3, run_underlying, Result.andThen, ha]
  have hlb : (loadVar 3 V).run Tryz.prog w = .ok (.int .i64 b) w := by
    unfold loadVar isAgg
    simp [Sem.run_bind, Tryz.underlying3, run_underlying, Result.andThen, hb]
  simp [results, h, hp', hu', hv', asAddr, hl, hla, hlb, Sem.run_bind, Result.andThen]
end Go.Proofs.YtcgeiimihihhpaaGreatDoor.W18

namespace Go.Proofs.YtcgeiimihihhpaaGreatDoor.W18
open Go Go.RowKit P12 P18

theorem rcut_at (s : ByteArray) (c : UInt8) (C : Int) (hC : C = c.toNat) (hs : s.size ≤ 281474976710656) (w : World) :
    Calls Tryz.prog 53 #[.string s, .int .u8 C] w fun e w' => e = .returned (.tuple #[bs (cutL c s.data.toList).1, bs (cutL c s.data.toList).2.1, .bool (cutL c s.data.toList).2.2]) ∧ Below w.heap.size w w' := by
  subst hC
  exact rcut_any s c hs w
/-- What the reference's first line hands back. -/
def firstV (F : Int × Rq) : Value := .tuple #[.agg #[bs F.2.method, bs F.2.path, bs F.2.query, .slice none 0 0, .string ⟨#[]⟩, .bool false], .int .i64 F.1]
theorem fst_no {F : Int × Rq} {t : Int} (h : F = (t, zeroR)) : firstV F = .tuple #[.agg #[.string ⟨#[]⟩, .string ⟨#[]⟩, .string ⟨#[]⟩, .slice none 0 0, .string ⟨#[]⟩, .bool false], .int .i64 t] := by subst h; rfl
theorem rf_a {s : By} (h : (cutL 32 s).2.2 = false) : refFirst s = (400, zeroR) := by unfold refFirst; rw [if_pos (.inl h)]
theorem rf_b {s : By} (h : (cutL 32 (cutL 32 s).2.1).2.2 = false) : refFirst s = (400, zeroR) := by unfold refFirst; rw [if_pos (.inr (.inl h))]
theorem rf_t {s : By} (h : targetR (cutL 32 (cutL 32 s).2.1).1 = false) : refFirst s = (400, zeroR) := by unfold refFirst; rw [if_pos (.inr (.inr (.inl h)))]
theorem rf_v {s : By} (h : (cutL 32 (cutL 32 s).2.1).2.1 ≠ http) : refFirst s = (400, zeroR) := by unfold refFirst; rw [if_pos (.inr (.inr (.inr (.inl h))))]
theorem rf_m {s : By} (h : (cutL 32 s).1 = []) : refFirst s = (400, zeroR) := by unfold refFirst; rw [if_pos (.inr (.inr (.inr (.inr h))))]
theorem rf_go {s : By} (h1 : (cutL 32 s).2.2 = true) (h2 : (cutL 32 (cutL 32 s).2.1).2.2 = true) (h3 : targetR (cutL 32 (cutL 32 s).2.1).1 = true) (h4 : (cutL 32 (cutL 32 s).2.1).2.1 = http) (h5 : (cutL 32 s).1 ≠ []) :
    refFirst s = if (cutL 32 s).1.all upper = false then (400, zeroR)
      else if (cutL 32 s).1 ≠ getM ∧ (cutL 32 s).1 ≠ postM then (501, zeroR)
      else (200, ⟨(cutL 32 s).1, (cutL 63 (cutL 32 (cutL 32 s).2.1).1).1, (cutL 63 (cutL 32 (cutL 32 s).2.1).1).2.1, [], [], false⟩) := by
  unfold refFirst
  rw [if_neg (by rintro (h | h | h | h | h); rw [h1] at h; cases h; rw [h2] at h; cases h; rw [h3] at h; cases h; exact h h4; exact h5 h)]
theorem upper_nat (c : UInt8) : upper c = decide (65 ≤ c.toNat ∧ c.toNat ≤ 90) := upperN_nat c
set_option maxHeartbeats 4000000 in
set_option maxRecDepth 100000 in
theorem refFirst_any (s : ByteArray) (hs : s.size ≤ 1000000) (w : World) :
    Calls Tryz.prog 23 #[.string s] w fun e w' => e = .returned (firstV (firstL s.data.toList)) ∧ Below w.heap.size w w' := by
  rw [← refFirst_eq]
  obtain ⟨F, hF⟩ : ∃ F, F = refFirst s.data.toList := ⟨_, rfl⟩
  rw [← hF]
  have hc1 := fun W => rcut_at s 32 32 rfl (by omega) W
  have hle := cut_le 32 s.data.toList
  rw [size_data] at hle
  obtain ⟨M, hM⟩ : ∃ P : ByteArray, P = ⟨(cutL 32 s.data.toList).1.toArray⟩ := ⟨_, rfl⟩
  obtain ⟨Y, hY⟩ : ∃ P : ByteArray, P = ⟨(cutL 32 s.data.toList).2.1.toArray⟩ := ⟨_, rfl⟩
  obtain ⟨a, ha⟩ : ∃ B : Bool, B = (cutL 32 s.data.toList).2.2 := ⟨_, rfl⟩
  have hMd : M.data.toList = (cutL 32 s.data.toList).1 := by rw [hM]
  have hYd : Y.data.toList = (cutL 32 s.data.toList).2.1 := by rw [hY]
  simp only [bs] at hc1
  rw [← hM, ← hY, ← ha] at hc1
  have hMs : M.size ≤ 1000000 := by rw [← size_data, hMd]; omega
  have hYs : Y.size ≤ 1000000 := by rw [← size_data, hYd]; omega
  have hc2 := fun W => rcut_at Y 32 32 rfl (by omega) W
  have hle2 := cut_le 32 Y.data.toList
  rw [size_data] at hle2
  obtain ⟨T, hT⟩ : ∃ P : ByteArray, P = ⟨(cutL 32 Y.data.toList).1.toArray⟩ := ⟨_, rfl⟩
  obtain ⟨V, hV⟩ : ∃ P : ByteArray, P = ⟨(cutL 32 Y.data.toList).2.1.toArray⟩ := ⟨_, rfl⟩
  obtain ⟨b, hb⟩ : ∃ B : Bool, B = (cutL 32 Y.data.toList).2.2 := ⟨_, rfl⟩
  have hTd : T.data.toList = (cutL 32 Y.data.toList).1 := by rw [hT]
  have hVd : V.data.toList = (cutL 32 Y.data.toList).2.1 := by rw [hV]
  simp only [bs] at hc2
  rw [← hT, ← hV, ← hb] at hc2
  have hTs : T.size ≤ 1000000 := by rw [← size_data, hTd]; omega
  have hct := fun W => target_any T (by omega) W
  obtain ⟨ok, hok⟩ : ∃ B : Bool, B = targetR T.data.toList := ⟨_, rfl⟩
  rw [← hok] at hct
  have ra : a = false → F = (400, zeroR) := fun h => by rw [hF]; exact rf_a (by rw [← ha]; exact h)
  have rb : b = false → F = (400, zeroR) := fun h => by rw [hF]; exact rf_b (by rw [← hYd, ← hb]; exact h)
  have rt : ok = false → F = (400, zeroR) := fun h => by rw [hF]; exact rf_t (by rw [← hYd, ← hTd, ← hok]; exact h)
  have rv : V.data.toList ≠ http → F = (400, zeroR) := fun h => by rw [hF]; exact rf_v (by rw [← hYd, ← hVd]; exact h)
  have rm : M.data.toList = [] → F = (400, zeroR) := fun h => by rw [hF]; exact rf_m (by rw [← hMd]; exact h)
  have rgo : a = true → b = true → ok = true → V.data.toList = http → M.data.toList ≠ [] → F = if M.data.toList.all upper = false then (400, zeroR) else if M.data.toList ≠ getM ∧ M.data.toList ≠ postM then (501, zeroR) else (200, ⟨M.data.toList, (cutL 63 T.data.toList).1, (cutL 63 T.data.toList).2.1, [], [], false⟩) := fun h1 h2 h3 h4 h5 => by
    have := rf_go (s := s.data.toList) (by rw [← ha]; exact h1) (by rw [← hYd, ← hb]; exact h2) (by rw [← hYd, ← hTd, ← hok]; exact h3) (by rw [← hYd, ← hVd]; exact h4) (by rw [← hMd]; exact h5)
    rw [← hF, ← hMd, ← hYd, ← hTd] at this
    exact this
  clear hF hM hY ha hMd hYd hle hT hV hb hTd hVd hle2 hok
  have RB := Lib.hid rb
  have RT := Lib.hid rt
  have RV := Lib.hid rv
  have RM := Lib.hid rm
  have RG := Lib.hid rgo
  have RA := Lib.hid ra
  have C1 := Lib.hid hc1
  have C2 := Lib.hid hc2
  clear rb rt rv rm rgo ra hc1 hc2
  have hbl0 := below_alloc w (.cells z6 25)
  have hh0 : RqAt w.heap.size z6 (w.alloc (.cells z6 25)) := new_at w _ _
  go_enter Tryz.func23, Tryz.ntmps23
  go_wp2_with (go_at_call 53; (with_reducible refine (C1.out _).mono ?_); rintro e w1 ⟨rfl, hb1⟩; refine Hid.out ?_)
  refine Lib.hid ?_
  have hh1 : RqAt w.heap.size z6 w1 := keep_at hh0 hb1
  have hbl1 := below_then hbl0 hb1
  go_wp2_with (go_at_call 53; (with_reducible refine (C2.out _).mono ?_); rintro e w2 ⟨rfl, hb2⟩; refine Hid.out ?_)
  refine Lib.hid ?_
  have hh2 : RqAt w.heap.size z6 w2 := keep_at hh1 hb2
  have hbl2 := below_then hbl1 hb2
  clear hh0 hh1 hbl0 hbl1 hb1 hb2 C1 C2
  by_cases ha : a = false
  · have HF := Lib.hid (RA.out ha)
    subst ha
    clear RA RB RT RV RM RG
    go_wp2_with (first
      | (go_at_call 54; refine (hct _).mono ?_; rintro e w3 ⟨rfl, rfl⟩)
      | (refine put_rq rfl _ _ rfl w.heap.size z6 rfl rfl hh2 rfl rfl (by kernel_rfl) ?_; intro w4 hh4 hb4 _))
    refine ⟨rfl, _, ret_rq rfl _ _ w.heap.size z6 rfl hh4 rfl, ?_⟩
    exact ⟨by rw [fst_no HF.out]; rfl, hbl2.trans hb4⟩
  obtain rfl : a = true := by simpa using ha
  by_cases hb : b = false
  · have HF := Lib.hid (RB.out hb)
    subst hb
    clear RA RB RT RV RM RG ha
    go_wp2_with (first
      | (go_at_call 54; refine (hct _).mono ?_; rintro e w3 ⟨rfl, rfl⟩)
      | (refine put_rq rfl _ _ rfl w.heap.size z6 rfl rfl hh2 rfl rfl (by kernel_rfl) ?_; intro w4 hh4 hb4 _))
    refine ⟨rfl, _, ret_rq rfl _ _ w.heap.size z6 rfl hh4 rfl, ?_⟩
    exact ⟨by rw [fst_no HF.out]; rfl, hbl2.trans hb4⟩
  obtain rfl : b = true := by simpa using hb
  by_cases hok : ok = false
  · have HF := Lib.hid (RT.out hok)
    subst hok
    clear RA RB RT RV RM RG ha hb
    go_wp2_with (first
      | (go_at_call 54; refine (hct _).mono ?_; rintro e w3 ⟨rfl, rfl⟩)
      | (refine put_rq rfl _ _ rfl w.heap.size z6 rfl rfl hh2 rfl rfl (by kernel_rfl) ?_; intro w4 hh4 hb4 _))
    refine ⟨rfl, _, ret_rq rfl _ _ w.heap.size z6 rfl hh4 rfl, ?_⟩
    exact ⟨by rw [fst_no HF.out]; rfl, hbl2.trans hb4⟩
  obtain rfl : ok = true := by simpa using hok
  by_cases hv : V.data.toList = http
  · have gV : V.toList = [72, 84, 84, 80, 47, 49, 46, 49] := by rw [Lib.toList_data]; exact hv
    by_cases hm : M.data.toList = []
    · have gM : M.toList = [] := by rw [Lib.toList_data]; exact hm
      have HF := Lib.hid (RM.out hm)
      clear RA RB RT RV RM RG ha hb hok hv hm
      go_wp2_with (first
        | (go_at_call 54; refine (hct _).mono ?_; rintro e w3 ⟨rfl, rfl⟩)
        | (refine put_rq rfl _ _ rfl w.heap.size z6 rfl rfl hh2 rfl rfl (by kernel_rfl) ?_; intro w4 hh4 hb4 _))
      refine ⟨rfl, _, ret_rq rfl _ _ w.heap.size z6 rfl hh4 rfl, ?_⟩
      exact ⟨by rw [fst_no HF.out]; rfl, hbl2.trans hb4⟩
    · have gM : ¬ M.toList = [] := by rw [Lib.toList_data]; exact hm
      have gM' : M.toList.isEmpty = false := by simpa [List.isEmpty_iff] using gM
      have hF := RG.out rfl rfl rfl hv hm
      obtain ⟨B, hB⟩ : ∃ B, B = M.data.toList.all upper := ⟨_, rfl⟩
      rw [← hB] at hF
      have HF := Lib.hid hF
      have HB := Lib.hid (show B = (M.data.toList.drop 0).all upper by rw [hB, List.drop_zero])
      clear RA RB RT RV RM RG ha hb hok hv hm hF hB
      go_wp2_with (go_at_call 54; refine (hct _).mono ?_; rintro e w3 ⟨rfl, rfl⟩)
      go_loop [11] (fun i => ∃ k : Nat, k ≤ M.size ∧ i = .int .i64 k ∧ Hid (B = (M.data.toList.drop k).all upper)) (fun i => M.size - (intOf i).toNat)
      case atStart => exact ⟨0, by omega, rfl, HB⟩
      case round =>
        clear HB
        obtain ⟨k, hk, rfl, hres⟩ := hrel
        by_cases hlt : k < M.size
        · have hlt' : (k : Int) < (M.size : Int) := by omega
          have hv := hres.out
          rw [all_at M k hlt, upper_nat] at hv
          obtain ⟨n, hn⟩ : ∃ n, n = (M[k]'hlt).toNat := ⟨_, rfl⟩
          have hx := run_at M k (M[k]'hlt) (by rw [List.getElem?_eq_getElem (by rw [size_data]; exact hlt)]; rfl)
          rw [← hn] at hv hx
          clear hn
          by_cases h1 : n < 65
          · have z1 : (n : Int) < 65 := by omega
            rw [decide_eq_false (by omega), Bool.false_and] at hv
            replace HF := Lib.hid (show F = (400, zeroR) by rw [HF.out, if_pos hv])
            clear hres hv
            go_wp2_with (first
              | (go_at_call 54; refine (hct _).mono ?_; rintro e w3 ⟨rfl, rfl⟩)
              | (refine put_rq rfl _ _ rfl w.heap.size z6 rfl rfl hh2 rfl rfl (by kernel_rfl) ?_; intro w4 hh4 hb4 _))
            refine ⟨rfl, _, ret_rq rfl _ _ w.heap.size z6 rfl hh4 rfl, ?_⟩
            exact ⟨by rw [fst_no HF.out]; rfl, hbl2.trans hb4⟩
          · have z1 : ¬ (n : Int) < 65 := by omega
            by_cases h2 : 90 < n
            · have z2 : (90 : Int) < (n : Int) := by omega
              rw [decide_eq_false (by omega), Bool.false_and] at hv
              replace HF := Lib.hid (show F = (400, zeroR) by rw [HF.out, if_pos hv])
              clear hres hv
              go_wp2_with (first
                | (go_at_call 54; refine (hct _).mono ?_; rintro e w3 ⟨rfl, rfl⟩)
                | (refine put_rq rfl _ _ rfl w.heap.size z6 rfl rfl hh2 rfl rfl (by kernel_rfl) ?_; intro w4 hh4 hb4 _))
              refine ⟨rfl, _, ret_rq rfl _ _ w.heap.size z6 rfl hh4 rfl, ?_⟩
              exact ⟨by rw [fst_no HF.out]; rfl, hbl2.trans hb4⟩
            · have z2 : ¬ (90 : Int) < (n : Int) := by omega
              have z2' : (n : Int) ≤ 90 := by omega
              rw [decide_eq_true ⟨by omega, by omega⟩, Bool.true_and] at hv
              have HV := Lib.hid hv
              clear hres hv
              go_wp2_with fail
              go_round
              case rel => exact ⟨k + 1, by omega, by go_num, HV⟩
              case measure => simp [intOf]; omega
        · obtain rfl : k = M.size := by omega
          have hv := hres.out
          have hdn : M.data.toList.drop M.size = [] := List.drop_eq_nil_of_le (by rw [size_data]; exact Nat.le_refl _)
          rw [hdn, List.all_nil] at hv
          have hF := HF.out
          rw [if_neg (by rw [hv]; decide)] at hF
          clear hres hv hdn HF
          by_cases hg : M.data.toList = getM ∨ M.data.toList = postM
          · rw [if_neg (by rintro ⟨g1, g2⟩; rcases hg with h | h; exact g1 h; exact g2 h)] at hF
            have hc3 := fun W => rcut_at T 63 63 rfl (by omega) W
            obtain ⟨P, hP⟩ : ∃ X : ByteArray, X = ⟨(cutL 63 T.data.toList).1.toArray⟩ := ⟨_, rfl⟩
            obtain ⟨Q, hQ⟩ : ∃ X : ByteArray, X = ⟨(cutL 63 T.data.toList).2.1.toArray⟩ := ⟨_, rfl⟩
            simp only [bs] at hc3
            rw [← hP, ← hQ] at hc3
            have HF := Lib.hid (show firstV F = .tuple #[.agg #[.string M, .string P, .string Q, .slice none 0 0, .string ⟨#[]⟩, .bool false], .int .i64 200] by
              rw [hF, hP, hQ]; unfold firstV; simp only [bs_data])
            clear hF hP hQ
            rcases hg with hg | hg
            · have gG : M.toList = [71, 69, 84] := by rw [Lib.toList_data]; exact hg
              clear hg
              go_wp2_with (first
                | (go_at_call 53; (with_reducible refine (hc3 _).mono ?_); rintro e w3 ⟨rfl, hb3⟩; have hh3 : RqAt w.heap.size z6 w3 := keep_at hh2 hb3)
                | (refine put_rq rfl _ _ rfl w.heap.size #[.string M, .string P, .string Q, .slice none 0 0, .string ⟨#[]⟩, .bool false] rfl rfl hh3 rfl rfl (one6 _ _ _ _ _ _ _ _) ?_; intro w4 hh4 hb4 _))
              refine ⟨rfl, _, ret_rq rfl _ _ w.heap.size _ rfl hh4 rfl, ?_⟩
              exact ⟨by rw [HF.out]; rfl, (below_then hbl2 hb3).trans hb4⟩
            · have gG : ¬ M.toList = [71, 69, 84] := by rw [Lib.toList_data, hg]; decide
              have gP : M.toList = [80, 79, 83, 84] := by rw [Lib.toList_data]; exact hg
              clear hg
              go_wp2_with (first
                | (go_at_call 53; (with_reducible refine (hc3 _).mono ?_); rintro e w3 ⟨rfl, hb3⟩; have hh3 : RqAt w.heap.size z6 w3 := keep_at hh2 hb3)
                | (refine put_rq rfl _ _ rfl w.heap.size #[.string M, .string P, .string Q, .slice none 0 0, .string ⟨#[]⟩, .bool false] rfl rfl hh3 rfl rfl (one6 _ _ _ _ _ _ _ _) ?_; intro w4 hh4 hb4 _))
              refine ⟨rfl, _, ret_rq rfl _ _ w.heap.size _ rfl hh4 rfl, ?_⟩
              exact ⟨by rw [HF.out]; rfl, (below_then hbl2 hb3).trans hb4⟩
          · have gG : ¬ M.toList = [71, 69, 84] := by rw [Lib.toList_data]; exact fun h => hg (.inl h)
            have gP : ¬ M.toList = [80, 79, 83, 84] := by rw [Lib.toList_data]; exact fun h => hg (.inr h)
            have gG' : (M.toList == [71, 69, 84]) = false := beq_eq_false_iff_ne.2 gG
            have gP' : (M.toList == [80, 79, 83, 84]) = false := beq_eq_false_iff_ne.2 gP
            rw [if_pos ⟨fun h => hg (.inl h), fun h => hg (.inr h)⟩] at hF
            have HF := Lib.hid hF
            clear hF hg
            go_wp2_with (first
              | (go_at_call 54; refine (hct _).mono ?_; rintro e w3 ⟨rfl, rfl⟩)
              | (refine put_rq rfl _ _ rfl w.heap.size z6 rfl rfl hh2 rfl rfl (by kernel_rfl) ?_; intro w4 hh4 hb4 _))
            refine ⟨rfl, _, ret_rq rfl _ _ w.heap.size z6 rfl hh4 rfl, ?_⟩
            exact ⟨by rw [fst_no HF.out]; rfl, hbl2.trans hb4⟩
  · have gV : ¬ V.toList = [72, 84, 84, 80, 47, 49, 46, 49] := by rw [Lib.toList_data]; exact hv
    have HF := Lib.hid (RV.out hv)
    clear RA RB RT RV RM RG ha hb hok hv
    go_wp2_with (first
      | (go_at_call 54; refine (hct _).mono ?_; rintro e w3 ⟨rfl, rfl⟩)
      | (refine put_rq rfl _ _ rfl w.heap.size z6 rfl rfl hh2 rfl rfl (by kernel_rfl) ?_; intro w4 hh4 hb4 _))
    refine ⟨rfl, _, ret_rq rfl _ _ w.heap.size z6 rfl hh4 rfl, ?_⟩
    exact ⟨by rw [fst_no HF.out]; rfl, hbl2.trans hb4⟩
end Go.Proofs.YtcgeiimihihhpaaGreatDoor.W18
