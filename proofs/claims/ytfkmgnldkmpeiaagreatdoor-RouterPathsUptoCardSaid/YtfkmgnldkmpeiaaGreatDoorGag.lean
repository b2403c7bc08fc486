/-
  Walks of layer 12: strconv.ParseUint and Unescape. Conditions: the library's error values; the text is within Go's own limit.
  Walks of layer 12: strings.Cut at one byte; a value's text. Conditions: the library's error values and its table; the text is within Go's own limit.
-/
import Derived.Test.YtfkmgnldkmpeiaaGreatDoorGaf
import Derived.Lib.CutLaws

namespace Go.Proofs.YtfkmgnldkmpeiaaGreatDoor.W12
open Go Go.RowKit P12

theorem hexP_two (x y : UInt8) : hexP 0 [x, y] = match hexV x, hexV y with | some a, some b => some (16 * a + b) | _, _ => none := by
  rw [hexV_nat, hexV_nat]
  unfold hexP
  cases hx : hexN x.toNat with
  | none => rfl
  | some a =>
    simp only [hexP]
    cases hy : hexN y.toNat with
    | none => rfl
    | some b => simp; omega
theorem hexN_lt {n v : Nat} (h : hexN n = some v) : v < 16 := by
  unfold hexN at h
  split at h
  · injection h with h; omega
  · split at h
    · injection h with h; omega
    · split at h
      · injection h with h; omega
      · cases h
theorem hexP_lt {x y : UInt8} {u : Nat} (h : hexP 0 [x, y] = some u) : u < 256 := by
  rw [hexP_two, hexV_nat, hexV_nat] at h
  cases hx : hexN x.toNat with
  | none => rw [hx] at h; cases h
  | some a =>
    cases hy : hexN y.toNat with
    | none => rw [hx, hy] at h; cases h
    | some b =>
      rw [hx, hy] at h
      injection h with h
      have := hexN_lt hx
      have := hexN_lt hy
      omega

set_option maxHeartbeats 800000 in
set_option maxRecDepth 100000 in
theorem ParseUint_ok (t : ByteArray) (h2 : t.size = 2) (u : Nat) (hu : hexP 0 t.data.toList = some u) (w : World) :
    Calls Tryz.prog 90 #[.string t, .int .i64 16, .int .i64 8] w fun e w' => e = .returned (.tuple #[.int .u64 u, .nilIface]) ∧ Below w.heap.size w w' := by
  have hcon := fun W => iParse16 t h2 W
  rw [hu] at hcon
  clear hu
  go_enter Tryz.func90, Tryz.ntmps90
  go_wp2_with (go_at_call 123; refine (hcon _).mono ?_; rintro e w1 ⟨rfl, hb1⟩; unfold hexEnd)
  go_ret2
  exact ⟨rfl, hb1⟩
set_option maxHeartbeats 800000 in
set_option maxRecDepth 100000 in
theorem ParseUint_bad (t : ByteArray) (h2 : t.size = 2) (hu : hexP 0 t.data.toList = none) (w : World) (hE : Env w) :
    Calls Tryz.prog 90 #[.string t, .int .i64 16, .int .i64 8] w fun e w' => (∃ N, e = .returned (.tuple #[.int .u64 0, .iface 167 (.pointer (some ⟨N, 0, none⟩))])) ∧ Below w.heap.size w w' := by
  have hcon := fun W => iParse16 t h2 W
  rw [hu] at hcon
  clear hu
  go_enter Tryz.func90, Tryz.ntmps90
  go_wp2_with (go_at_call 123; refine (hcon _).mono ?_; rintro e w1 ⟨rfl, hb1⟩; unfold hexEnd; refine Hid.out ?_)
  refine Lib.hid ?_
  obtain ⟨ev, hev, hev2⟩ := (hE.keep hb1).syn
  go_wp2_with (go_at_call 106; refine (Tryz.strconv_toError_syntax _ t 16 8 ev _ (by omega) hev hev2).mono ?_; rintro e w2 ⟨N, rfl, -, -, hb2⟩)
  go_ret2
  exact ⟨⟨N, rfl⟩, below_then hb1 hb2⟩

def unescEnd (r : Option By) : Value := match r with
  | some u => .tuple #[bs u, .bool true]
  | none => .tuple #[.string ⟨#[]⟩, .bool false]
theorem unesc_none {c : UInt8} (h : plainC c = false) (hc : c ≠ 37) (l : By) : unescL (c :: l) = none := by
  rw [unescL.eq_def]; simp [h, hc]
theorem unesc_short0 : unescL [37] = none := by
  have : plainC 37 = false := by decide
  rw [unescL.eq_def]; simp [this]
theorem unesc_short1 (a : UInt8) : unescL [37, a] = none := by
  have : plainC 37 = false := by decide
  rw [unescL.eq_def]; simp [this]
theorem unesc_two (a b : UInt8) (l : By) : unescL (37 :: a :: b :: l) = match hexP 0 [a, b] with | some u => (unescL l).map (u.toUInt8 :: ·) | none => none := by
  rw [hexP_two]
  cases ha : hexV a with
  | none =>
    have : plainC 37 = false := by decide
    rw [unescL.eq_def]; simp [this, ha]
  | some x =>
    cases hb : hexV b with
    | none =>
      have : plainC 37 = false := by decide
      rw [unescL.eq_def]; simp [this, ha, hb]
    | some y => rw [unesc_hex ha hb]

theorem drop_two (s : ByteArray) (k : Nat) (h : k + 2 < s.size) : s.data.toList.drop k = s[k]'(by omega) :: s[k + 1]'(by omega) :: s[k + 2]'h :: s.data.toList.drop (k + 3) := by
  rw [get_drop s k (by omega), get_drop s (k + 1) (by omega), get_drop s (k + 2) h]
theorem extract_two (s : ByteArray) (k : Nat) (h : k + 2 < s.size) : (s.extract (k + 1) (k + 3)).data.toList = [s[k + 1]'(by omega), s[k + 2]'h] ∧ (s.extract (k + 1) (k + 3)).size = 2 := by
  have h1 : (s.extract (k + 1) (k + 3)).data.toList = (s.data.toList.drop (k + 1)).take 2 := by simp
  have h2 : (s.extract (k + 1) (k + 3)).data.toList = [s[k + 1]'(by omega), s[k + 2]'h] := by
    rw [h1, get_drop s (k + 1) (by omega), get_drop s (k + 2) h]
    rfl
  exact ⟨h2, by rw [← size_data, h2]; rfl⟩

set_option maxHeartbeats 3200000 in
set_option maxRecDepth 100000 in
theorem Unescape_any (s : ByteArray) (w : World) (hE : Env w) (hs : s.size ≤ 140737488355328) :
    Calls Tryz.prog 63 #[.string s] w fun e w' => e = .returned (unescEnd (unescL s.data.toList)) ∧ Below w.heap.size w w' := by
  go_enter Tryz.func63, Tryz.ntmps63
  go_wp2_with fail
  go_loopw [5] (fun i wr => ∃ (k : Nat) (acc : By), k ≤ s.size ∧ i = .int .i64 k ∧ acc.length ≤ k ∧ Bld w.heap.size w.heap.size acc wr ∧ Below w.heap.size w wr ∧ unescL s.data.toList = (unescL (s.data.toList.drop k)).map (acc ++ ·)) (fun i _ => s.size - (intOf i).toNat)
  case atStart => exact ⟨0, [], by omega, rfl, by simp, fresh_bld w, below_alloc _ _, by simp⟩
  case round =>
    obtain ⟨k, acc, hk, rfl, hal, hI, hB, hun⟩ := hrel
    have hBs := hB.size
    have hEr := hE.keep hB
    by_cases hlt : k < s.size
    · have hlt' : (k : Int) < (s.size : Int) := by omega
      by_cases hp : plainC (s[k]'hlt) = true
      · have hnx : unescL s.data.toList = (unescL (s.data.toList.drop (k + 1))).map ((acc ++ [s[k]'hlt]) ++ ·) := by
          rw [hun, get_drop s k hlt, unesc_plain hp, Option.map_map]
          congr 1
          funext x
          simp
        have HNX := Lib.hid hnx
        have hcon := fun W => plain_any (s[k]'hlt) _ rfl W
        rw [hp] at hcon
        clear hp hnx hun
        go_wp2_with (go_at_call 35; refine (hcon _).mono ?_; rintro e w1 ⟨rfl, hb1⟩; refine Hid.out ?_)
        refine Lib.hid ?_
        have hI1 := hI.keep hb1
        have hs1 := hb1.size
        go_wp2_with (go_at_call 36; refine (WriteByte_any w.heap.size w.heap.size acc (s[k]'hlt) _ rfl w1 hI1 (by omega) (by omega)).mono ?_; rintro e w2 ⟨rfl, hI2, hb2, -⟩; refine Hid.out ?_)
        refine Lib.hid ?_
        go_wp2_with fail
        go_roundw
        case rel => exact ⟨k + 1, acc ++ [s[k]'hlt], by omega, by go_num, by simp; omega, hI2, (hB.trans (hb1.mono hBs)).trans hb2, HNX.out⟩
        case measure => simp [intOf]; omega
      · have hp' : plainC (s[k]'hlt) = false := by simpa using hp
        have hcon := fun W => plain_any (s[k]'hlt) _ rfl W
        rw [hp'] at hcon
        by_cases h37 : s[k]'hlt = 37
        · have hz : (((s[k]'hlt).toNat : Int) == 37) = true := by rw [h37]; rfl
          by_cases h2 : k + 2 < s.size
          · have h2' : (k : Int) + 2 < (s.size : Int) := by omega
            obtain ⟨ex, ez⟩ := extract_two s k h2
            have hd := drop_two s k h2
            rw [h37] at hd
            have hun2 : unescL s.data.toList = (match hexP 0 [s[k + 1]'(by omega), s[k + 2]'h2] with | some u => (unescL (s.data.toList.drop (k + 3))).map (u.toUInt8 :: ·) | none => none).map (acc ++ ·) := by
              rw [hun, hd, unesc_two]
            rw [← ex] at hun2
            obtain ⟨t, ht⟩ : ∃ t, t = s.extract (k + 1) (k + 3) := ⟨_, rfl⟩
            have hlt3 : ∀ u, hexP 0 t.data.toList = some u → u < 256 := by
              intro u hu
              rw [ht, ex] at hu
              exact hexP_lt hu
            rw [← ht] at hun2 ez
            have HT := Lib.hid ht
            clear hun hd ex ht
            cases hx : hexP 0 t.data.toList with
            | some u =>
              have hu256 := hlt3 u hx
              rw [hx] at hun2
              simp only [Option.map_map] at hun2
              have hnx : unescL s.data.toList = (unescL (s.data.toList.drop (k + 2 + 1))).map ((acc ++ [u.toUInt8]) ++ ·) := by
                rw [hun2]
                congr 1
                funext x
                simp
              have HNX := Lib.hid hnx
              have HX := Lib.hid hx
              have hwu : IntKind.u8.wrap (u : Int) = (u : Int) := wraps_u8 _ (by omega) (by omega)
              have hu8 : (u : Int) = (u.toUInt8.toNat : Int) := by simp; omega
              have HU8 := Lib.hid hu8
              clear hp hp' hun2 hnx hx hlt3 h37 hu8
              go_wp2_with (go_at_call 35; refine (hcon _).mono ?_; rintro e w1 ⟨rfl, hb1⟩; refine Hid.out ?_)
              refine Lib.hid ?_
              have hI1 := hI.keep hb1
              have hs1 := hb1.size
              go_wp2_with fail
              have q := ParseUint_ok t ez u HX.out w1
              rw [HT.out] at q
              refine q.mono ?_
              clear q
              rintro e w2 ⟨rfl, hb2⟩
              have hI2 := hI1.keep hb2
              have hs2 := hb2.size
              go_wp2_with (go_at_call 36; refine (WriteByte_any w.heap.size w.heap.size acc u.toUInt8 _ HU8.out w2 hI2 (by omega) (by omega)).mono ?_; rintro e w3 ⟨rfl, hI3, hb3, -⟩; refine Hid.out ?_)
              refine Lib.hid ?_
              go_wp2_with fail
              go_roundw
              case rel => exact ⟨k + 2 + 1, acc ++ [u.toUInt8], by omega, by go_num, by simp; omega, hI3, ((hB.trans (hb1.mono hBs)).trans (hb2.mono (by omega))).trans hb3, HNX.out⟩
              case measure => simp [intOf]; omega
            | none =>
              rw [hx] at hun2
              simp only [Option.map_none] at hun2
              have HX := Lib.hid hx
              have HN := Lib.hid hun2
              clear hp hp' hun2 hx hlt3 h37
              go_wp2_with (go_at_call 35; refine (hcon _).mono ?_; rintro e w1 ⟨rfl, hb1⟩; refine Hid.out ?_)
              refine Lib.hid ?_
              have hEw := hEr.keep hb1
              go_wp2_with fail
              have q := ParseUint_bad t ez HX.out w1 hEw
              rw [HT.out] at q
              refine q.mono ?_
              clear q
              rintro e w2 ⟨⟨N, rfl⟩, hb2⟩
              go_wp2_with fail
              go_ret2
              exact ⟨by rw [HN.out]; rfl, hB.trans ((below_then hb1 hb2).mono hBs)⟩
          · have hN : unescL s.data.toList = none := by
              rw [hun, get_drop s k hlt, h37]
              have hl : (s.data.toList.drop (k + 1)).length ≤ 1 := by rw [List.length_drop, size_data]; omega
              cases hd : s.data.toList.drop (k + 1) with
              | nil => rw [unesc_short0]; rfl
              | cons a l =>
                cases l with
                | nil => rw [unesc_short1]; rfl
                | cons b l => rw [hd] at hl; simp at hl
            have HN := Lib.hid hN
            clear hp hp' hun h37 hN
            go_wp2_with (go_at_call 35; refine (hcon _).mono ?_; rintro e w1 ⟨rfl, hb1⟩; refine Hid.out ?_)
            refine Lib.hid ?_
            go_wp2_with fail
            go_ret2
            exact ⟨by rw [HN.out]; rfl, hB.trans (hb1.mono hBs)⟩
        · have hN : unescL s.data.toList = none := by
            rw [hun, get_drop s k hlt, unesc_none hp' h37]
            rfl
          have hz : (((s[k]'hlt).toNat : Int) == 37) = false := by
            rw [beq_eq_false_iff_ne]
            intro e
            apply h37
            apply UInt8.toNat_inj.1
            have : ((37 : UInt8).toNat) = 37 := rfl
            omega
          have HN := Lib.hid hN
          clear hp hp' hun h37 hN
          go_wp2_with (go_at_call 35; refine (hcon _).mono ?_; rintro e w1 ⟨rfl, hb1⟩; refine Hid.out ?_)
          refine Lib.hid ?_
          go_wp2_with fail
          go_ret2
          exact ⟨by rw [HN.out]; rfl, hB.trans (hb1.mono hBs)⟩
    · obtain rfl : k = s.size := by omega
      rw [List.drop_eq_nil_of_le (by rw [size_data]; exact Nat.le_refl _), unesc_nil] at hun
      have HUN := Lib.hid hun
      clear hun
      go_wp2_with (go_at_call 38; refine (String_any w.heap.size w.heap.size _ _ hI (by omega)).mono ?_; rintro e w2 ⟨rfl, hb2, -⟩)
      go_ret2
      exact ⟨by rw [HUN.out]; simp [unescEnd], hB.trans hb2⟩
end Go.Proofs.YtfkmgnldkmpeiaaGreatDoor.W12

namespace Go.Proofs.YtfkmgnldkmpeiaaGreatDoor.W12
open Go Go.RowKit P12
open Dig hiding By

set_option maxHeartbeats 800000 in
set_option maxRecDepth 100000 in
theorem slCut_any (s : ByteArray) (c : UInt8) (w : World) (hs : s.size ≤ 9223372036854775000) :
    Calls Tryz.prog 81 #[.string s, .string ⟨#[c]⟩] w fun e w' => e = .returned (.tuple #[bs (cutL c s.data.toList).1, bs (cutL c s.data.toList).2.1, .bool (cutL c s.data.toList).2.2]) ∧ Below w.heap.size w w' := by
  have hidx : Lib.indexB s ⟨#[c]⟩ = Lib.indexByte s.data.toList c := Lib.index_one _ _
  have hcon := fun W => Tryz.stringslite_Index_one s c W
  rw [← hidx] at hcon
  have hcl := cut_one c s.data.toList
  rcases Lib.indexB_cases s ⟨#[c]⟩ with h | ⟨i, h, hi⟩
  · obtain ⟨h1, h2, h3⟩ := Lib.cutB_miss s ⟨#[c]⟩ h
    change (⟨(Lib.cut s.data.toList [c]).1.toArray⟩ : ByteArray) = _ at h1
    change (⟨(Lib.cut s.data.toList [c]).2.1.toArray⟩ : ByteArray) = _ at h2
    change (Lib.cut s.data.toList [c]).2.2 = _ at h3
    rw [hcl] at h1 h2 h3
    rw [h] at hcon
    have H1 := Lib.hid h1
    have H2 := Lib.hid h2
    have H3 := Lib.hid h3
    clear hcl h1 h2 h3 h hidx
    go_enter Tryz.func81, Tryz.ntmps81
    go_wp2_with (go_at_call 104; refine (hcon _).mono ?_; rintro e w' ⟨rfl, rfl⟩)
    go_ret3
    exact ⟨by unfold bs; rw [H1.out, H2.out, H3.out]; rfl, Below.refl _ _⟩
  · obtain ⟨h1, h2, h3⟩ := Lib.cutB_hit s ⟨#[c]⟩ i h
    change (⟨(Lib.cut s.data.toList [c]).1.toArray⟩ : ByteArray) = _ at h1
    change (⟨(Lib.cut s.data.toList [c]).2.1.toArray⟩ : ByteArray) = _ at h2
    change (Lib.cut s.data.toList [c]).2.2 = _ at h3
    rw [hcl] at h1 h2 h3
    rw [h] at hcon
    have hi1 : i + 1 ≤ s.size := hi
    have i0 : (0 : Int) ≤ (i : Int) := by omega
    have i1 : (i : Int) ≤ (s.size : Int) := by omega
    have i2 : (i : Int) + 1 ≤ (s.size : Int) := by omega
    have i3 : (0 : Int) ≤ (i : Int) + 1 := by omega
    have H1 := Lib.hid h1
    have H2 := Lib.hid h2
    have H3 := Lib.hid h3
    clear hcl h1 h2 h3 h hidx hi
    go_enter Tryz.func81, Tryz.ntmps81
    go_wp2_with (go_at_call 104; refine (hcon _).mono ?_; rintro e w' ⟨rfl, rfl⟩)
    go_quiet (fail)
    go_wp2_with fail
    go_ret3
    exact ⟨by unfold bs; rw [H1.out, H2.out, H3.out]; rfl, below_drewN _ _⟩

set_option maxHeartbeats 800000 in
theorem Cut_any (s : ByteArray) (c : UInt8) (w : World) (hs : s.size ≤ 9223372036854775000) :
    Calls Tryz.prog 49 #[.string s, .string ⟨#[c]⟩] w fun e w' => e = .returned (.tuple #[bs (cutL c s.data.toList).1, bs (cutL c s.data.toList).2.1, .bool (cutL c s.data.toList).2.2]) ∧ Below w.heap.size w w' := by
  have hcon := fun W => slCut_any s c W hs
  generalize cutL c s.data.toList = r at hcon ⊢
  obtain ⟨a, b, d⟩ := r
  simp only at hcon ⊢
  go_enter Tryz.func49, Tryz.ntmps49
  go_wp2_with (go_at_call 81; refine (hcon _).mono ?_; rintro e w' ⟨rfl, hb⟩)
  go_ret3
  exact ⟨rfl, hb⟩

def fldV (f : Fld) : Value := .agg #[bs f.name, .bool f.text, .int .i64 f.n, bs f.s]
theorem quote_yes {s : By} (h : s.head? = some 39) : Lib.hasPrefix s [39] = true ∧ Lib.trimPrefix s [39] = s.tail := by
  cases s with
  | nil => simp at h
  | cons c l =>
    simp at h
    subst h
    constructor
    · simp [Lib.hasPrefix]
    · simp [Lib.trimPrefix, Lib.hasPrefix]
theorem quote_no {s : By} (h : s.head? ≠ some 39) : Lib.hasPrefix s [39] = false ∧ Lib.trimPrefix s [39] = s := by
  have h1 : Lib.hasPrefix s [39] = false := by
    cases s with
    | nil => rfl
    | cons c l =>
      simp at h
      have h' : ((39 : UInt8) == c) = false := by rw [beq_eq_false_iff_ne]; exact Ne.symm h
      simp [Lib.hasPrefix, List.isPrefixOf, h']
  exact ⟨h1, by unfold Lib.trimPrefix; rw [h1]; rfl⟩
theorem unescL_len : ∀ (n : Nat) (l u : By), l.length ≤ n → unescL l = some u → u.length ≤ l.length
  | _, [], u, _, h => by rw [unesc_nil] at h; injection h with h; subst h; simp
  | 0, c :: l, u, hn, _ => by simp at hn
  | n + 1, c :: l, u, hn, h => by
    by_cases hp : plainC c = true
    · rw [unesc_plain hp] at h
      cases hl : unescL l with
      | none => rw [hl] at h; cases h
      | some v =>
        rw [hl] at h
        injection h with h
        subst h
        have := unescL_len n l v (by simp at hn; omega) hl
        simp; omega
    · by_cases h37 : c = 37
      · subst h37
        match l, h, hn with
        | [], h, _ => rw [unesc_short0] at h; cases h
        | [a], h, _ => rw [unesc_short1] at h; cases h
        | a :: b :: l', h, hn =>
          rw [unesc_two] at h
          cases hx : hexP 0 [a, b] with
          | none => rw [hx] at h; cases h
          | some v =>
            rw [hx] at h
            simp only at h
            cases hl : unescL l' with
            | none => rw [hl] at h; cases h
            | some v' =>
              rw [hl] at h
              injection h with h
              subst h
              have := unescL_len n l' v' (by simp at hn; omega) hl
              simp; omega
      · rw [unesc_none (by simpa using hp) h37] at h; cases h

set_option maxHeartbeats 1600000 in
set_option maxRecDepth 100000 in
theorem value_u1 (nm s t U : ByteArray) (w : World) (hE : Env w) (hcut : ∀ W, Calls Tryz.prog 61 #[.string s, .string ⟨#[39]⟩] W fun e w' => e = .returned (.tuple #[.string t, .bool true]) ∧ w' = W)
    (hun : ∀ W, Env W → Calls Tryz.prog 63 #[.string t] W fun e w' => e = .returned (.tuple #[.string U, .bool true]) ∧ Below W.heap.size W w') (hl : U.size ≤ 200) :
    Calls Tryz.prog 50 #[.string nm, .string s] w fun e w' => e = .returned (.tuple #[.agg #[.string nm, .bool true, .int .i64 0, .string U], .bool true]) ∧ Below w.heap.size w w' := by
  have hE1 := hE.new (.cells #[.string ⟨#[]⟩, .bool false, .int .i64 0, .string ⟨#[]⟩] 54)
  go_enter Tryz.func50, Tryz.ntmps50
  go_wp2_with (first
    | (go_at_call 61; refine (hcut _).mono ?_; rintro e w1 ⟨rfl, rfl⟩)
    | (go_at_call 63; refine (hun _ hE1).mono ?_; rintro e w2 ⟨rfl, hb2⟩; refine Hid.out ?_))
  refine Lib.hid ?_
  have hh : w2.heap[w.heap.size]? = some (.cells #[.string ⟨#[]⟩, .bool false, .int .i64 0, .string ⟨#[]⟩] 54 (0, 0)) := (hb2.block w.heap.size (by simp)).trans (heap_new w _)
  have z0 := Lib.cell_of_heap hh 0
  have z1 := Lib.cell_of_heap hh 1
  have z2 := Lib.cell_of_heap hh 2
  have z3 := Lib.cell_of_heap hh 3
  have f0 := Lib.frozen_of_heap hh 0
  have f1 := Lib.frozen_of_heap hh 1
  have f2 := Lib.frozen_of_heap hh 2
  have f3 := Lib.frozen_of_heap hh 3
  have hB : Below w.heap.size w w2 := below_then (below_alloc w _) hb2
  clear hh
  go_wp2_with fail
  exact bodyPost_ret (v := .tuple #[.agg #[.string nm, .bool true, .int .i64 0, .string U], .bool true]) (by simp [results, Tryz.results50, go_sem, z0, z1, z2, z3] <;> omega) rfl ⟨rfl, (((hB.setCell (p := ⟨w.heap.size, 0, none⟩) (by simp) _).setCell (p := ⟨w.heap.size, 1, none⟩) (by simp) _).setCell (p := ⟨w.heap.size, 2, none⟩) (by simp) _).setCell (p := ⟨w.heap.size, 3, none⟩) (by simp) _⟩

set_option maxHeartbeats 1600000 in
set_option maxRecDepth 100000 in
theorem value_u2 (nm s t U : ByteArray) (w : World) (hE : Env w) (hcut : ∀ W, Calls Tryz.prog 61 #[.string s, .string ⟨#[39]⟩] W fun e w' => e = .returned (.tuple #[.string t, .bool true]) ∧ w' = W)
    (hun : ∀ W, Env W → Calls Tryz.prog 63 #[.string t] W fun e w' => e = .returned (.tuple #[.string U, .bool true]) ∧ Below W.heap.size W w') (hl : ¬ U.size ≤ 200) :
    Calls Tryz.prog 50 #[.string nm, .string s] w fun e w' => e = .returned (.tuple #[.agg #[.string nm, .bool true, .int .i64 0, .string U], .bool false]) ∧ Below w.heap.size w w' := by
  have hE1 := hE.new (.cells #[.string ⟨#[]⟩, .bool false, .int .i64 0, .string ⟨#[]⟩] 54)
  go_enter Tryz.func50, Tryz.ntmps50
  go_wp2_with (first
    | (go_at_call 61; refine (hcut _).mono ?_; rintro e w1 ⟨rfl, rfl⟩)
    | (go_at_call 63; refine (hun _ hE1).mono ?_; rintro e w2 ⟨rfl, hb2⟩; refine Hid.out ?_))
  refine Lib.hid ?_
  have hh : w2.heap[w.heap.size]? = some (.cells #[.string ⟨#[]⟩, .bool false, .int .i64 0, .string ⟨#[]⟩] 54 (0, 0)) := (hb2.block w.heap.size (by simp)).trans (heap_new w _)
  have z0 := Lib.cell_of_heap hh 0
  have z1 := Lib.cell_of_heap hh 1
  have z2 := Lib.cell_of_heap hh 2
  have z3 := Lib.cell_of_heap hh 3
  have f0 := Lib.frozen_of_heap hh 0
  have f1 := Lib.frozen_of_heap hh 1
  have f2 := Lib.frozen_of_heap hh 2
  have f3 := Lib.frozen_of_heap hh 3
  have hB : Below w.heap.size w w2 := below_then (below_alloc w _) hb2
  clear hh
  go_wp2_with fail
  exact bodyPost_ret (v := .tuple #[.agg #[.string nm, .bool true, .int .i64 0, .string U], .bool false]) (by simp [results, Tryz.results50, go_sem, z0, z1, z2, z3] <;> omega) rfl ⟨rfl, (((hB.setCell (p := ⟨w.heap.size, 0, none⟩) (by simp) _).setCell (p := ⟨w.heap.size, 1, none⟩) (by simp) _).setCell (p := ⟨w.heap.size, 2, none⟩) (by simp) _).setCell (p := ⟨w.heap.size, 3, none⟩) (by simp) _⟩

set_option maxHeartbeats 1600000 in
set_option maxRecDepth 100000 in
theorem value_u3 (nm s t U : ByteArray) (w : World) (hE : Env w) (hcut : ∀ W, Calls Tryz.prog 61 #[.string s, .string ⟨#[39]⟩] W fun e w' => e = .returned (.tuple #[.string t, .bool true]) ∧ w' = W)
    (hun : ∀ W, Env W → Calls Tryz.prog 63 #[.string t] W fun e w' => e = .returned (.tuple #[.string U, .bool false]) ∧ Below W.heap.size W w') :
    Calls Tryz.prog 50 #[.string nm, .string s] w fun e w' => e = .returned (.tuple #[.agg #[.string nm, .bool true, .int .i64 0, .string U], .bool false]) ∧ Below w.heap.size w w' := by
  have hE1 := hE.new (.cells #[.string ⟨#[]⟩, .bool false, .int .i64 0, .string ⟨#[]⟩] 54)
  go_enter Tryz.func50, Tryz.ntmps50
  go_wp2_with (first
    | (go_at_call 61; refine (hcut _).mono ?_; rintro e w1 ⟨rfl, rfl⟩)
    | (go_at_call 63; refine (hun _ hE1).mono ?_; rintro e w2 ⟨rfl, hb2⟩; refine Hid.out ?_))
  refine Lib.hid ?_
  have hh : w2.heap[w.heap.size]? = some (.cells #[.string ⟨#[]⟩, .bool false, .int .i64 0, .string ⟨#[]⟩] 54 (0, 0)) := (hb2.block w.heap.size (by simp)).trans (heap_new w _)
  have z0 := Lib.cell_of_heap hh 0
  have z1 := Lib.cell_of_heap hh 1
  have z2 := Lib.cell_of_heap hh 2
  have z3 := Lib.cell_of_heap hh 3
  have f0 := Lib.frozen_of_heap hh 0
  have f1 := Lib.frozen_of_heap hh 1
  have f2 := Lib.frozen_of_heap hh 2
  have f3 := Lib.frozen_of_heap hh 3
  have hB : Below w.heap.size w w2 := below_then (below_alloc w _) hb2
  clear hh
  go_wp2_with fail
  exact bodyPost_ret (v := .tuple #[.agg #[.string nm, .bool true, .int .i64 0, .string U], .bool false]) (by simp [results, Tryz.results50, go_sem, z0, z1, z2, z3]) rfl ⟨rfl, (((hB.setCell (p := ⟨w.heap.size, 0, none⟩) (by simp) _).setCell (p := ⟨w.heap.size, 1, none⟩) (by simp) _).setCell (p := ⟨w.heap.size, 2, none⟩) (by simp) _).setCell (p := ⟨w.heap.size, 3, none⟩) (by simp) _⟩

set_option maxHeartbeats 1600000 in
set_option maxRecDepth 100000 in
theorem value_n1 (nm s : ByteArray) (n : Int) (w : World) (hE : Env w) (hcut : ∀ W, Calls Tryz.prog 61 #[.string s, .string ⟨#[39]⟩] W fun e w' => e = .returned (.tuple #[.string s, .bool false]) ∧ w' = W)
    (hat : ∀ W, Calls Tryz.prog 82 #[.string s] W fun e w' => e = .returned (.tuple #[.int .i64 n, .nilIface]) ∧ Below W.heap.size W w') (X : ByteArray) (hit : ∀ W, Env W → Calls Tryz.prog 83 #[.int .i64 n] W fun e w' => e = .returned (.string X) ∧ Below W.heap.size W w') (hX : (X.toList == s.toList) = true) :
    Calls Tryz.prog 50 #[.string nm, .string s] w fun e w' => e = .returned (.tuple #[.agg #[.string nm, .bool false, .int .i64 n, .string ⟨#[]⟩], .bool true]) ∧ Below w.heap.size w w' := by
  have hE1 := hE.new (.cells #[.string ⟨#[]⟩, .bool false, .int .i64 0, .string ⟨#[]⟩] 54)
  go_enter Tryz.func50, Tryz.ntmps50
  go_wp2_with (first
    | (go_at_call 61; refine (hcut _).mono ?_; rintro e w1 ⟨rfl, rfl⟩)
    | (go_at_call 82; refine (hat _).mono ?_; rintro e w3 ⟨rfl, hb3⟩; have hE3 := hE1.keep hb3)
    | (go_at_call 83; refine (hit _ hE3).mono ?_; rintro e w2 ⟨rfl, hb4⟩; have hb2 := below_then hb3 hb4; refine Hid.out ?_))
  refine Lib.hid ?_
  have hh : w2.heap[w.heap.size]? = some (.cells #[.string ⟨#[]⟩, .bool false, .int .i64 0, .string ⟨#[]⟩] 54 (0, 0)) := (hb2.block w.heap.size (by simp)).trans (heap_new w _)
  have z0 := Lib.cell_of_heap hh 0
  have z1 := Lib.cell_of_heap hh 1
  have z2 := Lib.cell_of_heap hh 2
  have z3 := Lib.cell_of_heap hh 3
  have f0 := Lib.frozen_of_heap hh 0
  have f1 := Lib.frozen_of_heap hh 1
  have f2 := Lib.frozen_of_heap hh 2
  have f3 := Lib.frozen_of_heap hh 3
  have hB : Below w.heap.size w w2 := below_then (below_alloc w _) hb2
  clear hh
  go_wp2_with fail
  exact bodyPost_ret (v := .tuple #[.agg #[.string nm, .bool false, .int .i64 n, .string ⟨#[]⟩], .bool true]) (by simp [results, Tryz.results50, go_sem, z0, z1, z2, z3]) rfl ⟨rfl, (((hB.setCell (p := ⟨w.heap.size, 0, none⟩) (by simp) _).setCell (p := ⟨w.heap.size, 1, none⟩) (by simp) _).setCell (p := ⟨w.heap.size, 2, none⟩) (by simp) _).setCell (p := ⟨w.heap.size, 3, none⟩) (by simp) _⟩

set_option maxHeartbeats 1600000 in
set_option maxRecDepth 100000 in
theorem value_n2 (nm s : ByteArray) (n : Int) (w : World) (hE : Env w) (hcut : ∀ W, Calls Tryz.prog 61 #[.string s, .string ⟨#[39]⟩] W fun e w' => e = .returned (.tuple #[.string s, .bool false]) ∧ w' = W)
    (hat : ∀ W, Calls Tryz.prog 82 #[.string s] W fun e w' => e = .returned (.tuple #[.int .i64 n, .nilIface]) ∧ Below W.heap.size W w') (X : ByteArray) (hit : ∀ W, Env W → Calls Tryz.prog 83 #[.int .i64 n] W fun e w' => e = .returned (.string X) ∧ Below W.heap.size W w') (hX : (X.toList == s.toList) = false) :
    Calls Tryz.prog 50 #[.string nm, .string s] w fun e w' => e = .returned (.tuple #[.agg #[.string nm, .bool false, .int .i64 n, .string ⟨#[]⟩], .bool false]) ∧ Below w.heap.size w w' := by
  have hE1 := hE.new (.cells #[.string ⟨#[]⟩, .bool false, .int .i64 0, .string ⟨#[]⟩] 54)
  go_enter Tryz.func50, Tryz.ntmps50
  go_wp2_with (first
    | (go_at_call 61; refine (hcut _).mono ?_; rintro e w1 ⟨rfl, rfl⟩)
    | (go_at_call 82; refine (hat _).mono ?_; rintro e w3 ⟨rfl, hb3⟩; have hE3 := hE1.keep hb3)
    | (go_at_call 83; refine (hit _ hE3).mono ?_; rintro e w2 ⟨rfl, hb4⟩; have hb2 := below_then hb3 hb4; refine Hid.out ?_))
  refine Lib.hid ?_
  have hh : w2.heap[w.heap.size]? = some (.cells #[.string ⟨#[]⟩, .bool false, .int .i64 0, .string ⟨#[]⟩] 54 (0, 0)) := (hb2.block w.heap.size (by simp)).trans (heap_new w _)
  have z0 := Lib.cell_of_heap hh 0
  have z1 := Lib.cell_of_heap hh 1
  have z2 := Lib.cell_of_heap hh 2
  have z3 := Lib.cell_of_heap hh 3
  have f0 := Lib.frozen_of_heap hh 0
  have f1 := Lib.frozen_of_heap hh 1
  have f2 := Lib.frozen_of_heap hh 2
  have f3 := Lib.frozen_of_heap hh 3
  have hB : Below w.heap.size w w2 := below_then (below_alloc w _) hb2
  clear hh
  go_wp2_with fail
  exact bodyPost_ret (v := .tuple #[.agg #[.string nm, .bool false, .int .i64 n, .string ⟨#[]⟩], .bool false]) (by simp [results, Tryz.results50, go_sem, z0, z1, z2, z3]) rfl ⟨rfl, (((hB.setCell (p := ⟨w.heap.size, 0, none⟩) (by simp) _).setCell (p := ⟨w.heap.size, 1, none⟩) (by simp) _).setCell (p := ⟨w.heap.size, 2, none⟩) (by simp) _).setCell (p := ⟨w.heap.size, 3, none⟩) (by simp) _⟩

set_option maxHeartbeats 1600000 in
set_option maxRecDepth 100000 in
theorem value_n3 (nm s : ByteArray) (n : Int) (w : World) (hE : Env w) (hcut : ∀ W, Calls Tryz.prog 61 #[.string s, .string ⟨#[39]⟩] W fun e w' => e = .returned (.tuple #[.string s, .bool false]) ∧ w' = W)
    (hat : ∀ W, Env W → Calls Tryz.prog 82 #[.string s] W fun e w' => (∃ N, e = .returned (.tuple #[.int .i64 n, .iface 167 (.pointer (some ⟨N, 0, none⟩))])) ∧ Below W.heap.size W w') :
    Calls Tryz.prog 50 #[.string nm, .string s] w fun e w' => e = .returned (.tuple #[.agg #[.string nm, .bool false, .int .i64 n, .string ⟨#[]⟩], .bool false]) ∧ Below w.heap.size w w' := by
  have hE1 := hE.new (.cells #[.string ⟨#[]⟩, .bool false, .int .i64 0, .string ⟨#[]⟩] 54)
  go_enter Tryz.func50, Tryz.ntmps50
  go_wp2_with (first
    | (go_at_call 61; refine (hcut _).mono ?_; rintro e w1 ⟨rfl, rfl⟩)
    | (go_at_call 82; refine (hat _ hE1).mono ?_; rintro e w2 ⟨⟨N, rfl⟩, hb2⟩; refine Hid.out ?_))
  refine Lib.hid ?_
  have hh : w2.heap[w.heap.size]? = some (.cells #[.string ⟨#[]⟩, .bool false, .int .i64 0, .string ⟨#[]⟩] 54 (0, 0)) := (hb2.block w.heap.size (by simp)).trans (heap_new w _)
  have z0 := Lib.cell_of_heap hh 0
  have z1 := Lib.cell_of_heap hh 1
  have z2 := Lib.cell_of_heap hh 2
  have z3 := Lib.cell_of_heap hh 3
  have f0 := Lib.frozen_of_heap hh 0
  have f1 := Lib.frozen_of_heap hh 1
  have f2 := Lib.frozen_of_heap hh 2
  have f3 := Lib.frozen_of_heap hh 3
  have hB : Below w.heap.size w w2 := below_then (below_alloc w _) hb2
  clear hh
  go_wp2_with fail
  exact bodyPost_ret (v := .tuple #[.agg #[.string nm, .bool false, .int .i64 n, .string ⟨#[]⟩], .bool false]) (by simp [results, Tryz.results50, go_sem, z0, z1, z2, z3]) rfl ⟨rfl, (((hB.setCell (p := ⟨w.heap.size, 0, none⟩) (by simp) _).setCell (p := ⟨w.heap.size, 1, none⟩) (by simp) _).setCell (p := ⟨w.heap.size, 2, none⟩) (by simp) _).setCell (p := ⟨w.heap.size, 3, none⟩) (by simp) _⟩


/-- A value's text, read: its field, or false. -/
theorem value_any (nm s : ByteArray) (w : World) (hE : Env w) (hs : s.size ≤ 140737488355328) :
    Calls Tryz.prog 50 #[.string nm, .string s] w fun e w' => (∃ (b : Bool) (n : Int) (u : ByteArray) (ok : Bool), e = .returned (.tuple #[.agg #[.string nm, .bool b, .int .i64 n, .string u], .bool ok]) ∧
      valueL nm.data.toList s.data.toList = if ok = true then some ⟨nm.data.toList, b, n, u.data.toList⟩ else none) ∧ Below w.heap.size w w' := by
  have hcut := fun W => Tryz.strings_CutPrefix s ⟨#[39]⟩ W
  change ∀ W, Calls _ _ _ _ fun e w' => e = .returned (.tuple #[.string ⟨(Lib.trimPrefix s.data.toList [39]).toArray⟩, .bool (Lib.hasPrefix s.data.toList [39])]) ∧ _ at hcut
  by_cases hq : s.data.toList.head? = some 39
  · obtain ⟨q1, q2⟩ := quote_yes hq
    rw [q1, q2] at hcut
    obtain ⟨t, ht⟩ : ∃ t : ByteArray, t = ⟨s.data.toList.tail.toArray⟩ := ⟨_, rfl⟩
    have htd : t.data.toList = s.data.toList.tail := by rw [ht]
    have hts : t.size ≤ 140737488355328 := by rw [← size_data, htd, List.length_tail, size_data]; omega
    rw [← ht] at hcut
    have hun := fun W hW => Unescape_any t W hW hts
    rw [htd] at hun
    cases hu : unescL s.data.toList.tail with
    | some u =>
      rw [hu] at hun
      simp only [unescEnd] at hun
      by_cases hl : u.length ≤ 200
      · refine (value_u1 nm s t ⟨u.toArray⟩ w hE hcut hun (by rw [size_mk]; exact hl)).mono fun e w' ⟨he, hb⟩ => ⟨⟨_, _, _, _, he, ?_⟩, hb⟩
        simp [valueL, hq, hu, hl]
      · refine (value_u2 nm s t ⟨u.toArray⟩ w hE hcut hun (by rw [size_mk]; exact hl)).mono fun e w' ⟨he, hb⟩ => ⟨⟨_, _, _, _, he, ?_⟩, hb⟩
        simp [valueL, hq, hu, hl]
    | none =>
      rw [hu] at hun
      simp only [unescEnd] at hun
      refine (value_u3 nm s t ⟨#[]⟩ w hE hcut hun).mono fun e w' ⟨he, hb⟩ => ⟨⟨_, _, _, _, he, ?_⟩, hb⟩
      simp [valueL, hq, hu]
  · obtain ⟨q1, q2⟩ := quote_no hq
    rw [q1, q2] at hcut
    rw [Lib.mk_data] at hcut
    cases ha : Lib.atoiAll s.data.toList
    case ok v =>
      obtain ⟨v0, v1⟩ := atoi_int ha
      have hat : ∀ W, Calls Tryz.prog 82 #[.string s] W fun e w' => e = .returned (.tuple #[.int .i64 v, .nilIface]) ∧ Below W.heap.size W w' := fun W =>
        (Tryz.strconv_Atoi_ok s (by omega) v ha W).mono fun e w' ⟨he, hw⟩ => ⟨he, by
          rcases hw with rfl | ⟨t, rfl⟩
          · exact Below.refl _ _
          · exact Lib.bytesWorld_below _ _ _⟩
      have hit : ∀ W, Env W → Calls Tryz.prog 83 #[.int .i64 v] W fun e w' => e = .returned (.string ⟨(Lib.itoa v).toArray⟩) ∧ Below W.heap.size W w' := fun W hW =>
        (Tryz.strconv_Itoa v v0 v1 W hW.tab).mono fun e w' ⟨he, k, os, hw⟩ => ⟨he, by rw [hw]; exact Proofs.below_grown W k os⟩
      by_cases hx : Lib.itoa v = s.data.toList
      · refine (value_n1 nm s v w hE hcut hat _ hit (by rw [beq_iff_eq, Lib.toList_data, Lib.toList_data]; exact hx)).mono fun e w' ⟨he, hb⟩ => ⟨⟨_, _, _, _, he, ?_⟩, hb⟩
        simp [valueL, hq, numL, ha, hx]
      · refine (value_n2 nm s v w hE hcut hat _ hit (by rw [beq_eq_false_iff_ne, Lib.toList_data, Lib.toList_data]; exact hx)).mono fun e w' ⟨he, hb⟩ => ⟨⟨_, _, _, _, he, ?_⟩, hb⟩
        simp [valueL, hq, numL, ha, hx]
    case range =>
      have hat : ∀ W, Env W → Calls Tryz.prog 82 #[.string s] W fun e w' => (∃ N, e = .returned (.tuple #[.int .i64 (Lib.atoiSat s.data.toList), .iface 167 (.pointer (some ⟨N, 0, none⟩))])) ∧ Below W.heap.size W w' := fun W hW => by
        obtain ⟨ev, h1, h2⟩ := hW.rng
        exact (Tryz.strconv_Atoi_range s (by omega) ha ev W h1 h2).mono fun e w' ⟨N, he, _, _, hb⟩ => ⟨⟨N, he⟩, hb⟩
      refine (value_n3 nm s _ w hE hcut hat).mono fun e w' ⟨he, hb⟩ => ⟨⟨_, _, _, _, he, ?_⟩, hb⟩
      simp [valueL, hq, numL, ha]
    · -- no numeral
      have hat : ∀ W, Env W → Calls Tryz.prog 82 #[.string s] W fun e w' => (∃ N, e = .returned (.tuple #[.int .i64 0, .iface 167 (.pointer (some ⟨N, 0, none⟩))])) ∧ Below W.heap.size W w' := fun W hW => by
        obtain ⟨ev, h1, h2⟩ := hW.syn
        exact (Any.strconv_Atoi_syntax Tryz.laysC172 s (by omega) ha ev W h1 h2).mono fun e w' ⟨N, he, _, _, hb⟩ => ⟨⟨N, he⟩, hb⟩
      refine (value_n3 nm s 0 w hE hcut hat).mono fun e w' ⟨he, hb⟩ => ⟨⟨_, _, _, _, he, ?_⟩, hb⟩
      simp [valueL, hq, numL, ha]
end Go.Proofs.YtfkmgnldkmpeiaaGreatDoor.W12
