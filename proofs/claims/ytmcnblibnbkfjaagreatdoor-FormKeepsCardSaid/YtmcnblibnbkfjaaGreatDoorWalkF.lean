/-
  Walks of layer 12: strconv.ParseUint and Unescape. Conditions: the library's error values; the text is within Go's own limit.
-/
import Derived.Test.YtmcnblibnbkfjaaGreatDoorWalkE
namespace Go.Proofs.YtmcnblibnbkfjaaGreatDoor.W12
open Go Go.RowKit P12

theorem hexP_two (x y : UInt8) : hexP 0 [x, y] = match hexV x, hexV y with | some a, some b => some (16 * a + b) | _, _ => none := by
  rw [hexV_nat, hexV_nat]
  unfold hexP
  cases hx : hexN x.toNat with
  | none => rfl
  | some a =>
    simp only [hexP]
    cases hy : hexN y.toNat with
    | none => rfl
    | some b => simp; omega
theorem hexN_lt {n v : Nat} (h : hexN n = some v) : v < 16 := by
  unfold hexN at h
  split at h
  · injection h with h; omega
  · split at h
    · injection h with h; omega
    · split at h
      · injection h with h; omega
      · cases h
theorem hexP_lt {x y : UInt8} {u : Nat} (h : hexP 0 [x, y] = some u) : u < 256 := by
  rw [hexP_two, hexV_nat, hexV_nat] at h
  cases hx : hexN x.toNat with
  | none => rw [hx] at h; cases h
  | some a =>
    cases hy : hexN y.toNat with
    | none => rw [hx, hy] at h; cases h
    | some b =>
      rw [hx, hy] at h
      injection h with h
      have := hexN_lt hx
      have := hexN_lt hy
      omega

set_option maxHeartbeats 800000 in
set_option maxRecDepth 100000 in
theorem ParseUint_ok (t : ByteArray) (h2 : t.size = 2) (u : Nat) (hu : hexP 0 t.data.toList = some u) (w : World) :
    Calls Tryz.prog 36 #[.string t, .int .i64 16, .int .i64 8] w fun e w' => e = .returned (.tuple #[.int .u64 u, .nilIface]) ∧ Below w.heap.size w w' := by
  have hcon := fun W => iParse16 t h2 W
  rw [hu] at hcon
  clear hu
  go_enter Tryz.func36, Tryz.ntmps36
  go_wp2_with (go_at_call 61; refine (hcon _).mono ?_; rintro e w1 ⟨rfl, hb1⟩; unfold hexEnd)
  go_ret2
  exact ⟨rfl, hb1⟩
set_option maxHeartbeats 800000 in
set_option maxRecDepth 100000 in
theorem ParseUint_bad (t : ByteArray) (h2 : t.size = 2) (hu : hexP 0 t.data.toList = none) (w : World) (hE : Env w) :
    Calls Tryz.prog 36 #[.string t, .int .i64 16, .int .i64 8] w fun e w' => (∃ N, e = .returned (.tuple #[.int .u64 0, .iface 105 (.pointer (some ⟨N, 0, none⟩))])) ∧ Below w.heap.size w w' := by
  have hcon := fun W => iParse16 t h2 W
  rw [hu] at hcon
  clear hu
  go_enter Tryz.func36, Tryz.ntmps36
  go_wp2_with (go_at_call 61; refine (hcon _).mono ?_; rintro e w1 ⟨rfl, hb1⟩; unfold hexEnd; refine Hid.out ?_)
  refine Lib.hid ?_
  obtain ⟨ev, hev, hev2⟩ := (hE.keep hb1).syn
  go_wp2_with (go_at_call 62; refine (Tryz.strconv_toError_syntax _ t 16 8 ev _ (by omega) hev hev2).mono ?_; rintro e w2 ⟨N, rfl, -, -, hb2⟩)
  go_ret2
  exact ⟨⟨N, rfl⟩, below_then hb1 hb2⟩

def unescEnd (r : Option By) : Value := match r with
  | some u => .tuple #[bs u, .bool true]
  | none => .tuple #[.string ⟨#[]⟩, .bool false]
theorem unesc_none {c : UInt8} (h : plainC c = false) (hc : c ≠ 37) (l : By) : unescL (c :: l) = none := by
  rw [unescL.eq_def]; simp [h, hc]
theorem unesc_short0 : unescL [37] = none := by
  have : plainC 37 = false := by decide
  rw [unescL.eq_def]; simp [this]
theorem unesc_short1 (a : UInt8) : unescL [37, a] = none := by
  have : plainC 37 = false := by decide
  rw [unescL.eq_def]; simp [this]
theorem unesc_two (a b : UInt8) (l : By) : unescL (37 :: a :: b :: l) = match hexP 0 [a, b] with | some u => (unescL l).map (u.toUInt8 :: ·) | none => none := by
  rw [hexP_two]
  cases ha : hexV a with
  | none =>
    have : plainC 37 = false := by decide
    rw [unescL.eq_def]; simp [this, ha]
  | some x =>
    cases hb : hexV b with
    | none =>
      have : plainC 37 = false := by decide
      rw [unescL.eq_def]; simp [this, ha, hb]
    | some y => rw [unesc_hex ha hb]

theorem drop_two (s : ByteArray) (k : Nat) (h : k + 2 < s.size) : s.data.toList.drop k = s[k]'(by omega) :: s[k + 1]'(by omega) :: s[k + 2]'h :: s.data.toList.drop (k + 3) := by
  rw [get_drop s k (by omega), get_drop s (k + 1) (by omega), get_drop s (k + 2) h]
theorem extract_two (s : ByteArray) (k : Nat) (h : k + 2 < s.size) : (s.extract (k + 1) (k + 3)).data.toList = [s[k + 1]'(by omega), s[k + 2]'h] ∧ (s.extract (k + 1) (k + 3)).size = 2 := by
  have h1 : (s.extract (k + 1) (k + 3)).data.toList = (s.data.toList.drop (k + 1)).take 2 := by simp
  have h2 : (s.extract (k + 1) (k + 3)).data.toList = [s[k + 1]'(by omega), s[k + 2]'h] := by
    rw [h1, get_drop s (k + 1) (by omega), get_drop s (k + 2) h]
    rfl
  exact ⟨h2, by rw [← size_data, h2]; rfl⟩

set_option maxHeartbeats 3200000 in
set_option maxRecDepth 100000 in
theorem Unescape_any (s : ByteArray) (w : World) (hE : Env w) (hs : s.size ≤ 140737488355328) :
    Calls Tryz.prog 10 #[.string s] w fun e w' => e = .returned (unescEnd (unescL s.data.toList)) ∧ Below w.heap.size w w' := by
  go_enter Tryz.func10, Tryz.ntmps10
  go_wp2_with fail
  go_loopw [5] (fun i wr => ∃ (k : Nat) (acc : By), k ≤ s.size ∧ i = .int .i64 k ∧ acc.length ≤ k ∧ Bld w.heap.size w.heap.size acc wr ∧ Below w.heap.size w wr ∧ unescL s.data.toList = (unescL (s.data.toList.drop k)).map (acc ++ ·)) (fun i _ => s.size - (intOf i).toNat)
  case atStart => exact ⟨0, [], by omega, rfl, by simp, fresh_bld w, below_alloc _ _, by simp⟩
  case round =>
    obtain ⟨k, acc, hk, rfl, hal, hI, hB, hun⟩ := hrel
    have hBs := hB.size
    have hEr := hE.keep hB
    by_cases hlt : k < s.size
    · have hlt' : (k : Int) < (s.size : Int) := by omega
      by_cases hp : plainC (s[k]'hlt) = true
      · have hnx : unescL s.data.toList = (unescL (s.data.toList.drop (k + 1))).map ((acc ++ [s[k]'hlt]) ++ ·) := by
          rw [hun, get_drop s k hlt, unesc_plain hp, Option.map_map]
          congr 1
          funext x
          simp
        have HNX := Lib.hid hnx
        have hcon := fun W => plain_any (s[k]'hlt) _ rfl W
        rw [hp] at hcon
        clear hp hnx hun
        go_wp2_with (go_at_call 34; refine (hcon _).mono ?_; rintro e w1 ⟨rfl, hb1⟩; refine Hid.out ?_)
        refine Lib.hid ?_
        have hI1 := hI.keep hb1
        have hs1 := hb1.size
        go_wp2_with (go_at_call 35; refine (WriteByte_any w.heap.size w.heap.size acc (s[k]'hlt) _ rfl w1 hI1 (by omega) (by omega)).mono ?_; rintro e w2 ⟨rfl, hI2, hb2, -⟩; refine Hid.out ?_)
        refine Lib.hid ?_
        go_wp2_with fail
        go_roundw
        case rel => exact ⟨k + 1, acc ++ [s[k]'hlt], by omega, by go_num, by simp; omega, hI2, (hB.trans (hb1.mono hBs)).trans hb2, HNX.out⟩
        case measure => simp [intOf]; omega
      · have hp' : plainC (s[k]'hlt) = false := by simpa using hp
        have hcon := fun W => plain_any (s[k]'hlt) _ rfl W
        rw [hp'] at hcon
        by_cases h37 : s[k]'hlt = 37
        · have hz : (((s[k]'hlt).toNat : Int) == 37) = true := by rw [h37]; rfl
          by_cases h2 : k + 2 < s.size
          · have h2' : (k : Int) + 2 < (s.size : Int) := by omega
            obtain ⟨ex, ez⟩ := extract_two s k h2
            have hd := drop_two s k h2
            rw [h37] at hd
            have hun2 : unescL s.data.toList = (match hexP 0 [s[k + 1]'(by omega), s[k + 2]'h2] with | some u => (unescL (s.data.toList.drop (k + 3))).map (u.toUInt8 :: ·) | none => none).map (acc ++ ·) := by
              rw [hun, hd, unesc_two]
            rw [← ex] at hun2
            obtain ⟨t, ht⟩ : ∃ t, t = s.extract (k + 1) (k + 3) := ⟨_, rfl⟩
            have hlt3 : ∀ u, hexP 0 t.data.toList = some u → u < 256 := by
              intro u hu
              rw [ht, ex] at hu
              exact hexP_lt hu
            rw [← ht] at hun2 ez
            have HT := Lib.hid ht
            clear hun hd ex ht
            cases hx : hexP 0 t.data.toList with
            | some u =>
              have hu256 := hlt3 u hx
              rw [hx] at hun2
              simp only [Option.map_map] at hun2
              have hnx : unescL s.data.toList = (unescL (s.data.toList.drop (k + 2 + 1))).map ((acc ++ [u.toUInt8]) ++ ·) := by
                rw [hun2]
                congr 1
                funext x
                simp
              have HNX := Lib.hid hnx
              have HX := Lib.hid hx
              have hwu : IntKind.u8.wrap (u : Int) = (u : Int) := wraps_u8 _ (by omega) (by omega)
              have hu8 : (u : Int) = (u.toUInt8.toNat : Int) := by simp; omega
              have HU8 := Lib.hid hu8
              clear hp hp' hun2 hnx hx hlt3 h37 hu8
              go_wp2_with (go_at_call 34; refine (hcon _).mono ?_; rintro e w1 ⟨rfl, hb1⟩; refine Hid.out ?_)
              refine Lib.hid ?_
              have hI1 := hI.keep hb1
              have hs1 := hb1.size
              go_wp2_with fail
              have q := ParseUint_ok t ez u HX.out w1
              rw [HT.out] at q
              refine q.mono ?_
              clear q
              rintro e w2 ⟨rfl, hb2⟩
              have hI2 := hI1.keep hb2
              have hs2 := hb2.size
              go_wp2_with (go_at_call 35; refine (WriteByte_any w.heap.size w.heap.size acc u.toUInt8 _ HU8.out w2 hI2 (by omega) (by omega)).mono ?_; rintro e w3 ⟨rfl, hI3, hb3, -⟩; refine Hid.out ?_)
              refine Lib.hid ?_
              go_wp2_with fail
              go_roundw
              case rel => exact ⟨k + 2 + 1, acc ++ [u.toUInt8], by omega, by go_num, by simp; omega, hI3, ((hB.trans (hb1.mono hBs)).trans (hb2.mono (by omega))).trans hb3, HNX.out⟩
              case measure => simp [intOf]; omega
            | none =>
              rw [hx] at hun2
              simp only [Option.map_none] at hun2
              have HX := Lib.hid hx
              have HN := Lib.hid hun2
              clear hp hp' hun2 hx hlt3 h37
              go_wp2_with (go_at_call 34; refine (hcon _).mono ?_; rintro e w1 ⟨rfl, hb1⟩; refine Hid.out ?_)
              refine Lib.hid ?_
              have hEw := hEr.keep hb1
              go_wp2_with fail
              have q := ParseUint_bad t ez HX.out w1 hEw
              rw [HT.out] at q
              refine q.mono ?_
              clear q
              rintro e w2 ⟨⟨N, rfl⟩, hb2⟩
              go_wp2_with fail
              go_ret2
              exact ⟨by rw [HN.out]; rfl, hB.trans ((below_then hb1 hb2).mono hBs)⟩
          · have hN : unescL s.data.toList = none := by
              rw [hun, get_drop s k hlt, h37]
              have hl : (s.data.toList.drop (k + 1)).length ≤ 1 := by rw [List.length_drop, size_data]; omega
              cases hd : s.data.toList.drop (k + 1) with
              | nil => rw [unesc_short0]; rfl
              | cons a l =>
                cases l with
                | nil => rw [unesc_short1]; rfl
                | cons b l => rw [hd] at hl; simp at hl
            have HN := Lib.hid hN
            clear hp hp' hun h37 hN
            go_wp2_with (go_at_call 34; refine (hcon _).mono ?_; rintro e w1 ⟨rfl, hb1⟩; refine Hid.out ?_)
            refine Lib.hid ?_
            go_wp2_with fail
            go_ret2
            exact ⟨by rw [HN.out]; rfl, hB.trans (hb1.mono hBs)⟩
        · have hN : unescL s.data.toList = none := by
            rw [hun, get_drop s k hlt, unesc_none hp' h37]
            rfl
          have hz : (((s[k]'hlt).toNat : Int) == 37) = false := by
            rw [beq_eq_false_iff_ne]
            intro e
            apply h37
            apply UInt8.toNat_inj.1
            have : ((37 : UInt8).toNat) = 37 := rfl
            omega
          have HN := Lib.hid hN
          clear hp hp' hun h37 hN
          go_wp2_with (go_at_call 34; refine (hcon _).mono ?_; rintro e w1 ⟨rfl, hb1⟩; refine Hid.out ?_)
          refine Lib.hid ?_
          go_wp2_with fail
          go_ret2
          exact ⟨by rw [HN.out]; rfl, hB.trans (hb1.mono hBs)⟩
    · obtain rfl : k = s.size := by omega
      rw [List.drop_eq_nil_of_le (by rw [size_data]; exact Nat.le_refl _), unesc_nil] at hun
      have HUN := Lib.hid hun
      clear hun
      go_wp2_with (go_at_call 37; refine (String_any w.heap.size w.heap.size _ _ hI (by omega)).mono ?_; rintro e w2 ⟨rfl, hb2, -⟩)
      go_ret2
      exact ⟨by rw [HUN.out]; simp [unescEnd], hB.trans hb2⟩
end Go.Proofs.YtmcnblibnbkfjaaGreatDoor.W12
