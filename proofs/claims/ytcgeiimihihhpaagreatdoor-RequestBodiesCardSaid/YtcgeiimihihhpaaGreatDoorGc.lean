/-
  Walks of layer 18: the library's IndexRune in the two bytes CR, LF, of a rune beyond ASCII. Conditions: none.
  Walks of layer 18: the library's IndexAny of CR and LF in any text. Conditions: the text is within Go's own limit.
  Walks of layer 18: the library's IndexAny of CR and LF, every text. Conditions: the text is within Go's own limit.
  Walks of layer 18: the reader in memory; a line. Conditions: the text is within Go's own limit, the reader stands within it.
  Walks of layer 18: the program's line. Conditions: the text is within Go's own limit, the reader stands within it.
  Walks of layer 18: the library's Cut and Split at one byte. Conditions: the text is within the model's limit; the library's variable MaxLen holds an int.
-/
import Derived.Test.YtcgeiimihihhpaaGreatDoorGb
import Derived.Laws.RangeAny
import Derived.Laws.RangeString
import Derived.Laws.Runes
import Derived.Test.YtcgeiimihihhpaaGreatDoorGa
import Derived.Lib.OthersKept
import Derived.Lib.SpaceUEq
import Derived.Lib.MapLaws
import Derived.Deep.WholeRow
import Derived.OneCell
import Derived.Lib.CutLaws
import Derived.Lib.CountLaws
import Derived.Lib.Split
import Derived.Lib.IndexLaws

namespace Go.Proofs.YtcgeiimihihhpaaGreatDoor.W18
open Go Go.RowKit P12 P18

abbrev crlfB : ByteArray := ⟨#[13, 10]⟩
theorem below_iter (w : World) (s : ByteArray) (pos : Nat) : Below w.heap.size w (w.iter s pos) := (Below.refl _ _).alloc (Nat.le_refl _) _

set_option maxHeartbeats 2000000 in
set_option maxRecDepth 1000000 in
theorem IndexRune_error (w : World) : Calls Tryz.prog 90 #[.string ⟨#[13, 10]⟩, .int .i32 65533] w fun e w' => e = .returned (.int .i64 (-1)) ∧ Below w.heap.size w w' := by
  go_enter Tryz.func90, Tryz.ntmps90
  go_wp2_with fail
  go_loopg [5, 6] 2 (fun g _ _ wx => ∃ i : Nat, i + g = 2 ∧ wx = w.iter ⟨#[13, 10]⟩ i)
  case atStart => exact ⟨0, by omega, rfl⟩
  case round =>
    obtain ⟨i, hig, rfl⟩ := hrel
    match gk, i, hig with
    | 0, 2, _ =>
      have hnx := run_next_end (P := Tryz.prog) w ⟨#[13, 10]⟩ 2
      go_wp2
      go_ret
      exact ⟨rfl, below_iter _ _ _⟩
    | 1, 1, _ =>
      have hnx := fun ty => run_next_ascii (P := Tryz.prog) w ⟨#[13, 10]⟩ 1 ty (by decide) (by decide)
      go_wp2
      go_roundg 0
      case measure => omega
      case rel => exact ⟨2, by omega, rfl⟩
    | 2, 0, _ =>
      have hnx := fun ty => run_next_ascii (P := Tryz.prog) w ⟨#[13, 10]⟩ 0 ty (by decide) (by decide)
      go_wp2
      go_roundg 1
      case measure => omega
      case rel => exact ⟨1, by omega, rfl⟩

set_option maxHeartbeats 2000000 in
set_option maxRecDepth 1000000 in
theorem IndexRune_bad (r : Int) (hv : Lib.validRune r = false) (h1 : 128 ≤ r) (h2 : (r == 65533) = false) (w : World) : Calls Tryz.prog 90 #[.string ⟨#[13, 10]⟩, .int .i32 r] w fun e w' => e = .returned (.int .i64 (-1)) ∧ Below w.heap.size w w' := by
  have hcon := fun W => Tryz.utf8_ValidRune r W
  rw [hv] at hcon
  go_enter Tryz.func90, Tryz.ntmps90
  go_wp2_with (go_at_call 112; refine (hcon _).mono ?_; rintro e w' ⟨rfl, rfl⟩)
  go_ret
  exact ⟨rfl, Below.refl _ _⟩

set_option maxHeartbeats 2000000 in
set_option maxRecDepth 1000000 in
theorem IndexRune_good (r : Int) (hv : Lib.validRune r = true) (h1 : 128 ≤ r) (h2 : (r == 65533) = false) (w : World) : Calls Tryz.prog 90 #[.string ⟨#[13, 10]⟩, .int .i32 r] w fun e w' => e = .returned (.int .i64 (-1)) ∧ Below w.heap.size w w' := by
  have hcon := fun W => Tryz.utf8_ValidRune r W
  rw [hv] at hcon
  have hu : Utf8.valid r = true := by
    unfold Lib.validRune at hv
    have := of_decide_eq_true hv
    unfold Utf8.valid
    simp
    omega
  obtain ⟨e1, e2, e3⟩ := encode_facts r hu h1
  obtain ⟨E, hE⟩ : ∃ E, E = Utf8.encode r := ⟨_, rfl⟩
  rw [← hE] at e1 e2 e3
  have hcv := fun (W : World) => run_convert_int_string (P := Tryz.prog) W 21 9 .i32 r (by rw [Tryz.underlying21]; rfl) Tryz.underlying9
  rw [← hE] at hcv
  have HE := Lib.hid hE
  clear hE hu hv
  by_cases h : 3 ≤ E.size
  · clear e3
    go_enter Tryz.func90, Tryz.ntmps90
    go_wp2_with (go_at_call 112; refine (hcon _).mono ?_; rintro e w' ⟨rfl, rfl⟩)
    have h3 : ¬ (E.size : Int) - 1 < 2 := by omega
    go_step3
    go_wp2_with fail
    refine wp_loop_rounds 1 ?_
    rw [rounds_succ]
    go_wp2_with fail
    rw [Exit.noGoto_ret]
    go_ret
    exact ⟨rfl, Below.refl _ _⟩
  · have h2 : E.size = 2 := by omega
    have e4 : E[1]? = some (E[1]'(by omega)) := getElem?_pos E 1 (by omega)
    have e5 : 128 ≤ (E[1]'(by omega)).toNat := by have := e3 (by omega); simpa [h2] using this
    have hix : ∀ W : World, (Instr.index 9 (.string E) (.int .i64 1)).run Tryz.prog W = .ok (.int .u8 ((E[1]'(by omega)).toNat : Nat)) W := by
      intro W
      rw [run_index_string W 9 _ .i64 _ Tryz.underlying9, dif_pos (by omega)]
      rfl
    generalize E[1]'(by omega) = c at *
    clear e3 e4
    have hne : ((10 : Int) != (c.toNat : Int)) = true := by rw [bne_iff_ne]; omega
    have hz : E.size - 1 = 1 := by omega
    have hi := fun W => Tryz.strings_IndexByte ⟨#[]⟩ (c.toNat : Nat) W
    have hi0 : ∀ x : UInt8, Lib.indexByte (⟨#[]⟩ : ByteArray).data.toList x = -1 := fun _ => rfl
    rw [hi0] at hi
    clear hi0
    have hix0 : ∀ W : World, (Instr.index 9 (.string ⟨#[13, 10]⟩) (.int .i64 1)).run Tryz.prog W = .ok (.int .u8 10) W := fun W => by kernel_rfl
    have hsl : ∀ W : World, (Instr.slice 9 (.string ⟨#[13, 10]⟩) (some (.int .i64 2)) none none).run Tryz.prog W = .ok (.string ⟨#[]⟩) W := fun W => by kernel_rfl
    go_enter Tryz.func90, Tryz.ntmps90
    go_wp2_with (go_at_call 112; refine (hcon _).mono ?_; rintro e w' ⟨rfl, rfl⟩)
    go_step3
    go_wp2_with fail
    refine wp_loop_rounds 1 ?_
    rw [rounds_succ]
    go_wp2_with fail
    go_step3
    go_wp2_with fail
    go_quiet (fail)
    go_wp2_with fail
    go_quiet ((go_at_call 41; exact quiet_add_same (hi _)))
    go_wp2_with fail
    rw [Exit.noGoto_ret]
    go_wp2_with fail
    rw [Exit.noGoto_ret]
    go_ret
    exact ⟨rfl, below_drewN _ _⟩
end Go.Proofs.YtcgeiimihihhpaaGreatDoor.W18

namespace Go.Proofs.YtcgeiimihihhpaaGreatDoor.W18
open Go Go.RowKit P12 P18

theorem getD_at (s : ByteArray) (j : Nat) (h : j < s.size) : s.data.toList.getD j 0 = s[j]'h := by
  have hl : j < s.data.toList.length := by rw [size_data]; exact h
  rw [List.getD_eq_getElem?_getD, List.getElem?_eq_getElem hl]
  rfl
/-- What is decoded at a byte beyond ASCII: the rune, its bytes. -/
theorem dec_high (s : ByteArray) (i : Nat) (h : i < s.size) (hb : 128 ≤ (s[i]'h).toNat) :
    128 ≤ (Utf8.decode s i).1 ∧ 1 ≤ (Utf8.decode s i).2 ∧ i + (Utf8.decode s i).2 ≤ s.size ∧ ∀ j (hj : j < s.size), i ≤ j → j < i + (Utf8.decode s i).2 → 128 ≤ (s[j]'hj).toNat := by
  rw [Lib.decode_N, size_data, getD_at s i h]
  have hc := Lib.decodeN_conts (s.size - i) (s[i]'h).toNat (s.data.toList.getD (i + 1) 0).toNat (s.data.toList.getD (i + 2) 0).toNat (s.data.toList.getD (i + 3) 0).toNat
  have h1 := Lib.decodeN_ge1 (s.size - i) (s[i]'h).toNat (s.data.toList.getD (i + 1) 0).toNat (s.data.toList.getD (i + 2) 0).toNat (s.data.toList.getD (i + 3) 0).toNat
  have hs := Lib.decodeN_shape (s.size - i) (s[i]'h).toNat (s.data.toList.getD (i + 1) 0).toNat (s.data.toList.getD (i + 2) 0).toNat (s.data.toList.getD (i + 3) 0).toNat
  obtain ⟨c2, c3, c4, c5⟩ := hc
  have hr : 128 ≤ (Lib.decodeN (s.size - i) (s[i]'h).toNat (s.data.toList.getD (i + 1) 0).toNat (s.data.toList.getD (i + 2) 0).toNat (s.data.toList.getD (i + 3) 0).toNat).1 := by
    rcases hs with ⟨h', -⟩ | ⟨-, -, -, h', e⟩ | ⟨-, -, -, -, h', -, e⟩ | ⟨-, -, -, -, -, h', -, e⟩ | e
    · omega
    · rw [e]; exact h'
    · rw [e]; show 128 ≤ _; omega
    · rw [e]; show 128 ≤ _; omega
    · rw [e]; decide
  generalize (Lib.decodeN (s.size - i) (s[i]'h).toNat (s.data.toList.getD (i + 1) 0).toNat (s.data.toList.getD (i + 2) 0).toNat (s.data.toList.getD (i + 3) 0).toNat) = d at *
  clear hs
  refine ⟨hr, h1, by omega, fun j hj h2 h3 => ?_⟩
  rcases (show j = i ∨ j = i + 1 ∨ j = i + 2 ∨ j = i + 3 by omega) with rfl | rfl | rfl | rfl
  · exact hb
  · have := (c2 (by omega)).1
    rw [getD_at s _ hj] at this
    omega
  · have := (c3 (by omega)).1
    rw [getD_at s _ hj] at this
    omega
  · have := (c4 (by omega)).1
    rw [getD_at s _ hj] at this
    omega
theorem crlf_nat (c : UInt8) : crlf c = decide (c.toNat = 13 ∨ c.toNat = 10) := by
  have h : ((List.range 256).all fun n => crlf n.toUInt8 == decide (n = 13 ∨ n = 10)) = true := by decide +kernel
  have := List.all_eq_true.1 h c.toNat (List.mem_range.2 c.toNat_lt)
  simpa using this
theorem free_more (s : ByteArray) (i k : Nat) (hf : Free (s.data.toList.take i)) (h : ∀ j (hj : j < s.size), i ≤ j → j < k → crlf (s[j]'hj) = false) : Free (s.data.toList.take k) := by
  intro c hc
  obtain ⟨j, hj⟩ := List.mem_iff_getElem?.1 hc
  rw [List.getElem?_take] at hj
  split at hj
  · rename_i hjk
    have hjs : j < s.size := by
      have := (List.getElem?_eq_some_iff.1 hj).1
      rw [size_data] at this
      exact this
    have e : s[j]'hjs = c := by
      have h2 : s.data.toList[j]? = some (s[j]'hjs) := by
        rw [List.getElem?_eq_getElem (by rw [size_data]; exact hjs)]
        rfl
      rw [h2] at hj
      exact Option.some.inj hj
    by_cases hji : j < i
    · refine hf c (List.mem_iff_getElem?.2 ⟨j, ?_⟩)
      rw [List.getElem?_take, if_pos hji]
      exact hj
    · rw [← e]
      exact h j hjs (by omega) hjk
  · cases hj
theorem idx_at (s : ByteArray) (i : Nat) (h : i < s.size) (hf : Free (s.data.toList.take i)) (hc : crlf (s[i]'h) = true) : idxL s.data.toList = (i : Int) := by
  have := idxL_skip hf (by rw [size_data]; omega)
  rw [this]
  have hd : s.data.toList.drop i = s[i]'h :: s.data.toList.drop (i + 1) := by
    have hl : i < s.data.toList.length := by rw [size_data]; exact h
    rw [List.drop_eq_getElem_cons hl]
    rfl
  rw [hd, idxL, if_pos hc]
  simp
theorem idx_free {l : By} (h : Free l) : idxL l = -1 := by
  induction l with
  | nil => rfl
  | cons c l ih =>
    rw [idxL, if_neg (by rw [h c (by simp)]; decide), if_pos (ih fun x hx => h x (by simp [hx]))]
theorem IndexRune_any (r : Int) (h1 : 128 ≤ r) (w : World) : Calls Tryz.prog 90 #[.string ⟨#[13, 10]⟩, .int .i32 r] w fun e w' => e = .returned (.int .i64 (-1)) ∧ Below w.heap.size w w' := by
  by_cases h : r = 65533
  · subst h
    exact IndexRune_error w
  · have h2 : (r == 65533) = false := by rw [beq_eq_false_iff_ne]; exact h
    cases hv : Lib.validRune r
    · exact IndexRune_bad r hv h1 h2 w
    · exact IndexRune_good r hv h1 h2 w

set_option maxHeartbeats 2000000 in
set_option maxRecDepth 1000000 in
theorem IndexAny_short (s : ByteArray) (h8 : s.size ≤ 8) (w : World) :
    Calls Tryz.prog 63 #[.string s, .string ⟨#[13, 10]⟩] w fun e w' => e = .returned (.int .i64 (idxL s.data.toList)) ∧ Below w.heap.size w w' := by
  obtain ⟨R, hR⟩ : ∃ R, R = idxL s.data.toList := ⟨_, rfl⟩
  rw [← hR]
  have HR := Lib.hid hR
  clear hR
  have h8z : decide ((8 : Int) < (s.size : Int)) = false := decide_eq_false (by omega)
  have hcon := fun W => left_of (Tryz.strings_shouldUseASCIISet (s.size : Int) W)
  rw [h8z] at hcon
  go_enter Tryz.func63, Tryz.ntmps63
  go_wp2_with (go_at_call 91; refine (hcon _).mono ?_; rintro e w' ⟨rfl, rfl⟩)
  go_loopg [9, 10] s.size (fun g _ _ wx => ∃ i : Nat, i + g ≤ s.size ∧ s.size ≤ i + g ∧ i ≤ s.size ∧ wx.heap[w.heap.size]? = some (Obj.stringIter s i) ∧ Below w.heap.size w wx ∧ Free (s.data.toList.take i))
  case atStart => exact ⟨0, by omega, by omega, by omega, World.iter_heap _ _ _, below_iter _ _ _, fun c hc => by simp at hc⟩
  case round =>
    obtain ⟨i, hg1, hg2, hi, hit, hB, hf⟩ := hrel
    by_cases hlt : i < s.size
    · by_cases hb : (s[i]'hlt).toNat < 128
      · have hnx := fun ty => Lib.run_next_ascii_at (P := Tryz.prog) _ w.heap.size s i ty hit hlt hb
        obtain ⟨n, hn⟩ : ∃ n, n = (s[i]'hlt).toNat := ⟨_, rfl⟩
        have hit2 := Lib.iterAt_heap _ w.heap.size s i (i + 1) hit
        have hB2 := Lib.below_iterAt hB (Nat.le_refl _) s (i + 1)
        have hI := fun W => left_of (Tryz.strings_IndexRune_ascii ⟨#[13, 10]⟩ (n : Int) W (by omega) (by omega))
        have hcx : (crlf (s[i]'hlt) = true) ↔ 0 ≤ Lib.indexByte (⟨#[13, 10]⟩ : ByteArray).data.toList ((n : Int)).toNat.toUInt8 := by
          rw [hn, toNat_u8]
          refine Iff.trans ?_ (idx_contains [13, 10] (s[i]'hlt))
          simp [crlf]
        generalize Lib.indexByte (⟨#[13, 10]⟩ : ByteArray).data.toList ((n : Int)).toNat.toUInt8 = I at *
        by_cases hc : crlf (s[i]'hlt) = true
        · have hv : R = (i : Int) := by rw [HR.out]; exact idx_at s i hlt hf hc
          have h0 := hcx.1 hc
          have HV := Lib.hid hv
          rw [← hn] at hnx
          clear hv hf hit hcx hc hb hn hit2
          go_wp2_with (go_at_call 90; refine (hI _).mono ?_; rintro e w' ⟨rfl, rfl⟩)
          go_ret
          exact ⟨by rw [HV.out]; rfl, hB2⟩
        · have h0 : I < 0 := by
            rcases Int.lt_or_le I 0 with h | h
            · exact h
            · exact absurd (hcx.2 h) hc
          have hc' : crlf (s[i]'hlt) = false := by simpa using hc
          have hf2 := free_more s i (i + 1) hf (fun j hj h1 h2 => by obtain rfl : j = i := by omega
                                                                     exact hc')
          have HF := Lib.hid hf2
          rw [← hn] at hnx
          have HIT := Lib.hid hit2
          clear hf hit hcx hc hb hn hit2 hc' hf2
          obtain ⟨g, rfl⟩ : ∃ g, gk = g + 1 := ⟨gk - 1, by omega⟩
          go_wp2_with (go_at_call 90; refine (hI _).mono ?_; rintro e w' ⟨rfl, rfl⟩)
          go_roundg g
          case measure => omega
          case rel => exact ⟨i + 1, by omega, by omega, by omega, HIT.out, hB2, HF.out⟩
      · have hnx := fun ty => Lib.run_next_any_at (P := Tryz.prog) _ w.heap.size s i ty hit hlt
        obtain ⟨d1, d2, d3, d4⟩ := dec_high s i hlt (by omega)
        have hit2 := Lib.iterAt_heap _ w.heap.size s i (i + (Utf8.decode s i).2) hit
        have hB2 := Lib.below_iterAt hB (Nat.le_refl _) s (i + (Utf8.decode s i).2)
        have hf2 := free_more s i (i + (Utf8.decode s i).2) hf (fun j hj h1 h2 => by
          have := d4 j hj h1 h2
          rw [crlf_nat]
          refine decide_eq_false ?_
          omega)
        obtain ⟨r, hr⟩ : ∃ r, r = (Utf8.decode s i).1 := ⟨_, rfl⟩
        obtain ⟨k, hk⟩ : ∃ k, k = i + (Utf8.decode s i).2 := ⟨_, rfl⟩
        rw [← hr, ← hk] at hnx
        rw [← hr] at d1
        rw [← hk] at hit2 hB2 hf2 d3
        have hik : i < k := by omega
        have hI := fun W => IndexRune_any (r : Int) (by omega) W
        have HF := Lib.hid hf2
        have hlt2 := (Array.getElem?_eq_some_iff.1 hit2).1
        have HIT := Lib.hid hit2
        clear hf hit hb d2 d4 hr hk hf2 hit2
        go_wp2_with (go_at_call 90; refine (hI _).mono ?_; rintro e w' ⟨rfl, hb1⟩; refine Hid.out ?_)
        refine Lib.hid ?_
        have hit3 := (hb1.block _ hlt2).trans HIT.out
        have HI3 := Lib.hid hit3
        have hB3 := hB2.trans (hb1.mono hB2.size)
        clear hit3
        obtain ⟨g, hg⟩ : ∃ g, g = s.size - k := ⟨_, rfl⟩
        have hg3 : g + k ≤ s.size := by omega
        have hg4 : s.size ≤ g + k := by omega
        clear hg
        go_wp2_with fail
        go_roundg g
        case measure => omega
        case rel => exact ⟨k, by omega, by omega, by omega, HI3.out, hB3, HF.out⟩
    · obtain rfl : i = s.size := by omega
      have hnx := fun ty => Lib.run_next_end_at (P := Tryz.prog) _ w.heap.size s s.size ty hit hlt
      have hv : R = -1 := by
        rw [HR.out]
        rw [List.take_of_length_le (by rw [size_data]; exact Nat.le_refl _)] at hf
        exact idx_free hf
      have HV := Lib.hid hv
      clear hv hf hit
      go_wp2_with fail
      go_ret
      exact ⟨by rw [HV.out]; rfl, hB⟩
end Go.Proofs.YtcgeiimihihhpaaGreatDoor.W18

namespace Go.Proofs.YtcgeiimihihhpaaGreatDoor.W18
open Go Go.RowKit P12 P18

theorem set_at (x : UInt8) : (Lib.setCells [13, 10])[x.toNat]? = some (.bool (crlf x)) := by
  rw [Lib.setCells_at]
  rw [show ([13, 10] : By).contains x = crlf x by unfold crlf; rw [Bool.eq_iff_iff]; simp]
theorem zero88 : ∀ w, (zeroValue 88).run Tryz.prog w = .ok (.agg (Array.replicate 256 (.bool false))) w := fun w => by kernel_rfl
theorem size88 : (Tryz.prog.info? 88).map (·.size) = some 256 := by kernel_rfl
set_option maxHeartbeats 2000000 in
set_option maxRecDepth 1000000 in
theorem IndexAny_long (s : ByteArray) (h8 : 8 < s.size) (hs : s.size ≤ 281474976710656) (w : World) :
    Calls Tryz.prog 63 #[.string s, .string ⟨#[13, 10]⟩] w fun e w' => e = .returned (.int .i64 (idxL s.data.toList)) ∧ Below w.heap.size w w' := by
  obtain ⟨R, hR⟩ : ∃ R, R = idxL s.data.toList := ⟨_, rfl⟩
  rw [← hR]
  have HR := Lib.hid hR
  clear hR
  have h8z : decide ((8 : Int) < (s.size : Int)) = true := decide_eq_true (by omega)
  have hcon := fun W => left_of (Tryz.strings_shouldUseASCIISet (s.size : Int) W)
  rw [h8z] at hcon
  have hM := Tryz.strings_makeASCIISet zero88 ⟨#[13, 10]⟩ w (by decide) (fun j b hb => by
    have := List.mem_of_getElem? hb
    simp at this
    rcases this with rfl | rfl <;> decide)
  rw [show (⟨#[13, 10]⟩ : ByteArray).data.toList = [13, 10] from rfl] at hM
  have hC : ∀ x : UInt8, (Lib.setCells [13, 10])[x.toNat]? = some (.bool (crlf x)) := set_at
  have hz := Lib.setCells_size [13, 10]
  have h1c : (Lib.setCells [13, 10]).all (·.oneCell') = true := by decide +kernel
  generalize Lib.setCells [13, 10] = C at *
  have hzs : Tryz.zeroCells88.size = 256 := by kernel_rfl
  have hsc : (storeCells ⟨w.heap.size + 1, 0, none⟩ C.toList 0).run Tryz.prog ((w.alloc (.cells C 88)).alloc (.cells Tryz.zeroCells88 88)) = .ok () ((w.alloc (.cells C 88)).alloc (.cells C 88)) := by
    have := run_storeCells_new (P := Tryz.prog) (w.alloc (.cells C 88)) 88 Tryz.zeroCells88 C (by rw [hz]; exact size88) (by rw [hz, hzs]) h1c
    simpa using this
  have hcell : ∀ x : UInt8, ((w.alloc (.cells C 88)).alloc (.cells C 88)).cell? ⟨w.heap.size + 1, x.toNat, none⟩ = some (.bool (crlf x)) := fun x => by
    rw [World.cell?_alloc_at _ _ _ _ (by simp), hC]
  have HC := Lib.hid hcell
  have HZ := Lib.hid hz
  clear hcell hC hz h1c hzs
  go_enter Tryz.func63, Tryz.ntmps63
  go_wp2_with (first | (go_at_call 91; refine (hcon _).mono ?_; rintro e w' ⟨rfl, rfl⟩) | (go_at_call 69; refine hM.mono ?_; rintro e w' ⟨rfl, rfl⟩))
  have hB : Below w.heap.size w ((w.alloc (.cells C 88)).alloc (.cells C 88)) := (below_alloc w _).trans ((below_alloc _ _).mono (by simp))
  generalize ((w.alloc (.cells C 88)).alloc (.cells C 88)) = w1 at *
  clear hM hsc hcon
  go_wp2_with fail
  go_loop [8] (fun i => ∃ k : Nat, k ≤ s.size ∧ i = .int .i64 k ∧ Hid (Free (s.data.toList.take k))) (fun i => s.size - (intOf i).toNat)
  case atStart => exact ⟨0, by omega, rfl, Lib.hid (fun c hc => by simp at hc)⟩
  case round =>
    obtain ⟨k, hk, rfl, hf⟩ := hrel
    by_cases hlt : k < s.size
    · have hlt' : (k : Int) < (s.size : Int) := by omega
      have hc1 := HC.out (s[k]'hlt)
      cases hc : crlf (s[k]'hlt)
      · rw [hc] at hc1
        have hcc := fun W (h : W.cell? ⟨w.heap.size + 1, (s[k]'hlt).toNat, none⟩ = some (.bool false)) => left_of (Tryz.asciiSet_contains (w.heap.size + 1) (s[k]'hlt) false W h)
        have hf2 := free_more s k (k + 1) hf.out (fun j hj h1 h2 => by obtain rfl : j = k := by omega
                                                                       exact hc)
        have HF := Lib.hid hf2
        clear hc hf2
        go_wp2_with (go_at_call 92; refine (hcc _ hc1).mono ?_; rintro e w' ⟨rfl, rfl⟩)
        go_round
        case rel => exact ⟨k + 1, by omega, by go_num, HF⟩
        case measure => simp [intOf]; omega
      · rw [hc] at hc1
        have hcc := fun W (h : W.cell? ⟨w.heap.size + 1, (s[k]'hlt).toNat, none⟩ = some (.bool true)) => left_of (Tryz.asciiSet_contains (w.heap.size + 1) (s[k]'hlt) true W h)
        have hv : R = (k : Int) := by rw [HR.out]; exact idx_at s k hlt hf.out hc
        have HV := Lib.hid hv
        clear hc hv
        go_wp2_with (go_at_call 92; refine (hcc _ hc1).mono ?_; rintro e w' ⟨rfl, rfl⟩)
        go_ret
        exact ⟨by rw [HV.out]; rfl, hB⟩
    · obtain rfl : k = s.size := by omega
      have hv : R = -1 := by
        rw [HR.out]
        have hf2 := hf.out
        rw [List.take_of_length_le (by rw [size_data]; exact Nat.le_refl _)] at hf2
        exact idx_free hf2
      have HV := Lib.hid hv
      clear hv
      go_wp2_with fail
      go_ret
      exact ⟨by rw [HV.out]; rfl, hB⟩
theorem IndexAny_any (s : ByteArray) (hs : s.size ≤ 281474976710656) (w : World) :
    Calls Tryz.prog 63 #[.string s, .string ⟨#[13, 10]⟩] w fun e w' => e = .returned (.int .i64 (idxL s.data.toList)) ∧ Below w.heap.size w w' := by
  by_cases h : s.size ≤ 8
  · exact IndexAny_short s h w
  · exact IndexAny_long s (by omega) hs w
end Go.Proofs.YtcgeiimihihhpaaGreatDoor.W18

namespace Go.Proofs.YtcgeiimihihhpaaGreatDoor.W18
open Go Go.RowKit P12 P18

/-- The reader in block b. -/
def Rd (b : Nat) (c : Array Value) (w : World) : Prop := w.heap[b]? = some (.cells c 44 (0, 0))
/-- A call that writes block b alone of what was there. -/
structure Only (b : Nat) (w w' : World) : Prop where
  below : Below b w w'
  past : ∀ k, b < k → k < w.heap.size → w'.heap[k]? = w.heap[k]?
theorem Only.refl (b : Nat) (w : World) : Only b w w := ⟨Below.refl _ _, fun _ _ _ => rfl⟩
theorem Only.trans {b : Nat} {x y z : World} (h : Only b x y) (k : Only b y z) : Only b x z :=
  ⟨h.below.trans k.below, fun i h1 h2 => (k.past i h1 (Nat.lt_of_lt_of_le h2 h.below.size)).trans (h.past i h1 h2)⟩
theorem Only.of {b : Nat} {w w' : World} (hb : b < w.heap.size) (h : Below w.heap.size w w') : Only b w w' := ⟨h.mono (Nat.le_of_lt hb), fun k _ h2 => h.block k h2⟩
theorem Only.set {b : Nat} (w : World) (i : Nat) (v : Value) : Only b w (w.setCell ⟨b, i, none⟩ v) :=
  ⟨(Below.refl b w).setCell (p := ⟨b, i, none⟩) (Nat.le_refl _) v, fun k h1 _ => Below.heap_setCell w ⟨b, i, none⟩ v k (by show k ≠ b; omega)⟩
theorem Only.size {b : Nat} {w w' : World} (h : Only b w w') : w.heap.size ≤ w'.heap.size := h.below.size
theorem Only.other {b : Nat} {w w' : World} (h : Only b w w') {k : Nat} (hk : k ≠ b) (hs : k < w.heap.size) : w'.heap[k]? = w.heap[k]? := by
  rcases Nat.lt_or_gt_of_ne hk with h1 | h1
  · exact h.below.block k h1
  · exact h.past k h1 hs
theorem Only.to {b B : Nat} {w w' : World} (h : Only b w w') (hB : B ≤ b) : Below B w w' := h.below.mono hB
theorem Rd.lt {b : Nat} {c : Array Value} {w : World} (h : Rd b c w) : b < w.heap.size := lt_of_block h
theorem Rd.cell {b : Nat} {c : Array Value} {w : World} (h : Rd b c w) (i : Nat) : w.cell? ⟨b, i, none⟩ = c[i]? := by rw [Lib.cell_of_heap h]
theorem Rd.free {b : Nat} {c : Array Value} {w : World} (h : Rd b c w) (i : Nat) : w.frozen? ⟨b, i, none⟩ = false := Lib.frozen_of_heap h i
theorem Rd.keep {b : Nat} {c : Array Value} {w w' : World} (h : Rd b c w) (hb : Below w.heap.size w w') : Rd b c w' := (hb.block b h.lt).trans h
theorem Rd.set {b : Nat} {c : Array Value} {w : World} (h : Rd b c w) (i : Nat) (v : Value) (hi : i < c.size) : Rd b (c.set i v hi) (w.setCell ⟨b, i, none⟩ v) := by
  have hlt := h.lt
  have h' : w.heap[b] = .cells c 44 (0, 0) := by
    have := h
    unfold Rd at this
    rw [Array.getElem?_eq_getElem hlt] at this
    exact Option.some.inj this
  show (w.heap.modify b _)[b]? = _
  rw [Array.getElem?_eq_getElem (by simpa using hlt), Array.getElem_modify_self, h']
  simp [Array.setIfInBounds, hi]
end Go.Proofs.YtcgeiimihihhpaaGreatDoor.W18

namespace Go.Proofs.YtcgeiimihihhpaaGreatDoor.W18
open Go Go.RowKit P12 P18

abbrev rdr (d : ByteArray) (k : Nat) (m p q v y c z : Value) : Array Value := #[.string d, .int .i64 k, m, p, q, v, y, c, z]
theorem tail_data (d : ByteArray) (k : Nat) : (d.extract k d.size).data.toList = d.data.toList.drop k := Lib.extract_to_end d k
theorem tail_size (d : ByteArray) (k : Nat) : (d.extract k d.size).size = d.size - k := by rw [ByteArray.size_extract]; omega
theorem run_at (s : ByteArray) (i : Nat) (c : UInt8) (h : s.data.toList[i]? = some c) (W : World) : (Instr.index 9 (.string s) (.int .i64 i)).run Tryz.prog W = .ok (.int .u8 (c.toNat : Nat)) W := by
  have hl : i < s.data.toList.length := (List.getElem?_eq_some_iff.1 h).1
  have hs : i < s.size := by rw [size_data] at hl; exact hl
  rw [run_index_string W 9 _ .i64 _ Tryz.underlying9, dif_pos (by omega)]
  rw [List.getElem?_eq_getElem hl] at h
  have e : s[i]'hs = c := Option.some.inj h
  simp only [Int.toNat_natCast]
  rw [e]

set_option maxHeartbeats 4000000 in
set_option maxRecDepth 1000000 in
theorem line_none_short (b : Nat) (d : ByteArray) (k : Nat) (m p q v y c z : Value) (w : World) (hr : Rd b (rdr d k m p q v y c z) w) (hk : k ≤ d.size) (hd : d.size ≤ 281474976710656)
    (hi : idxL (d.data.toList.drop k) = -1) (h256 : d.size - k ≤ 256) :
    Calls Tryz.prog 31 #[.pointer (some ⟨b, 0, none⟩)] w fun e w' => e = gives 0 ∧ Below w.heap.size w w' := by
  have c0 : w.cell? ⟨b, 0, none⟩ = some (.string d) := hr.cell 0
  have c1 : w.cell? ⟨b, 1, none⟩ = some (.int .i64 k) := hr.cell 1
  have hk' : (k : Int) ≤ (d.size : Int) := by omega
  rw [← tail_data] at hi
  have hI := fun W => IndexAny_any (d.extract k d.size) (by rw [tail_size]; omega) W
  rw [hi] at hI
  have hsz := tail_size d k
  clear hi
  have h256' : (d.size : Int) - (k : Int) ≤ 256 := by omega
  clear hr
  go_enter Tryz.func31, Tryz.ntmps31
  go_wp2_with fail
  go_quiet (fail)
  go_wp2_with (first
      | (go_at_call 63; refine (hI _).mono ?_; rintro e w1 ⟨rfl, hb1⟩; refine Hid.out ?_)
      | (go_at_call 32; first | ((with_reducible refine (need_ok _ _).mono ?_); rintro e w' ⟨rfl, rfl⟩) | ((with_reducible refine (need_no _ _).mono ?_); rintro e w' ⟨rfl, rfl⟩)))
  refine Lib.hid ?_
  go_wp2_with (first
      | (go_at_call 63; refine (hI _).mono ?_; rintro e w1 ⟨rfl, hb1⟩; refine Hid.out ?_)
      | (go_at_call 32; first | ((with_reducible refine (need_ok _ _).mono ?_); rintro e w' ⟨rfl, rfl⟩) | ((with_reducible refine (need_no _ _).mono ?_); rintro e w' ⟨rfl, rfl⟩)))
  exact ⟨rfl, rfl, (below_then (below_drewN _ _) hb1)⟩

set_option maxHeartbeats 4000000 in
set_option maxRecDepth 1000000 in
theorem line_none_long (b : Nat) (d : ByteArray) (k : Nat) (m p q v y c z : Value) (w : World) (hr : Rd b (rdr d k m p q v y c z) w) (hk : k ≤ d.size) (hd : d.size ≤ 281474976710656)
    (hi : idxL (d.data.toList.drop k) = -1) (h256 : 256 < d.size - k) :
    Calls Tryz.prog 31 #[.pointer (some ⟨b, 0, none⟩)] w fun e w' => e = gives 431 ∧ Below w.heap.size w w' := by
  have c0 : w.cell? ⟨b, 0, none⟩ = some (.string d) := hr.cell 0
  have c1 : w.cell? ⟨b, 1, none⟩ = some (.int .i64 k) := hr.cell 1
  have hk' : (k : Int) ≤ (d.size : Int) := by omega
  rw [← tail_data] at hi
  have hI := fun W => IndexAny_any (d.extract k d.size) (by rw [tail_size]; omega) W
  rw [hi] at hI
  have hsz := tail_size d k
  clear hi
  have h256' : 256 < (d.size : Int) - (k : Int) := by omega
  clear hr
  go_enter Tryz.func31, Tryz.ntmps31
  go_wp2_with fail
  go_quiet (fail)
  go_wp2_with (first
      | (go_at_call 63; refine (hI _).mono ?_; rintro e w1 ⟨rfl, hb1⟩; refine Hid.out ?_)
      | (go_at_call 32; first | ((with_reducible refine (need_ok _ _).mono ?_); rintro e w' ⟨rfl, rfl⟩) | ((with_reducible refine (need_no _ _).mono ?_); rintro e w' ⟨rfl, rfl⟩)))
  refine Lib.hid ?_
  go_wp2_with (first
      | (go_at_call 63; refine (hI _).mono ?_; rintro e w1 ⟨rfl, hb1⟩; refine Hid.out ?_)
      | (go_at_call 32; first | ((with_reducible refine (need_ok _ _).mono ?_); rintro e w' ⟨rfl, rfl⟩) | ((with_reducible refine (need_no _ _).mono ?_); rintro e w' ⟨rfl, rfl⟩)))
  exact ⟨rfl, rfl, (below_then (below_drewN _ _) hb1)⟩

set_option maxHeartbeats 4000000 in
set_option maxRecDepth 1000000 in
theorem line_hit_far (b : Nat) (d : ByteArray) (k : Nat) (m p q v y c z : Value) (w : World) (hr : Rd b (rdr d k m p q v y c z) w) (hk : k ≤ d.size) (hd : d.size ≤ 281474976710656) (i : Nat) (hil : i < d.size - k)
    (hi : idxL (d.data.toList.drop k) = (i : Int)) (h256 : 256 < i) :
    Calls Tryz.prog 31 #[.pointer (some ⟨b, 0, none⟩)] w fun e w' => e = gives 431 ∧ Below w.heap.size w w' := by
  have c0 : w.cell? ⟨b, 0, none⟩ = some (.string d) := hr.cell 0
  have c1 : w.cell? ⟨b, 1, none⟩ = some (.int .i64 k) := hr.cell 1
  have hk' : (k : Int) ≤ (d.size : Int) := by omega
  rw [← tail_data] at hi
  have hI := fun W => IndexAny_any (d.extract k d.size) (by rw [tail_size]; omega) W
  rw [hi] at hI
  have hsz := tail_size d k
  clear hi
  clear hr
  go_enter Tryz.func31, Tryz.ntmps31
  go_wp2_with fail
  go_quiet (fail)
  go_wp2_with (first
      | (go_at_call 63; refine (hI _).mono ?_; rintro e w1 ⟨rfl, hb1⟩; refine Hid.out ?_)
      | (go_at_call 32; first | ((with_reducible refine (need_ok _ _).mono ?_); rintro e w' ⟨rfl, rfl⟩) | ((with_reducible refine (need_no _ _).mono ?_); rintro e w' ⟨rfl, rfl⟩)))
  refine Lib.hid ?_
  go_wp2_with (first
      | (go_at_call 63; refine (hI _).mono ?_; rintro e w1 ⟨rfl, hb1⟩; refine Hid.out ?_)
      | (go_at_call 32; first | ((with_reducible refine (need_ok _ _).mono ?_); rintro e w' ⟨rfl, rfl⟩) | ((with_reducible refine (need_no _ _).mono ?_); rintro e w' ⟨rfl, rfl⟩)))
  exact ⟨rfl, rfl, (below_then (below_drewN _ _) hb1)⟩

set_option maxHeartbeats 4000000 in
set_option maxRecDepth 1000000 in
theorem line_hit_lf (b : Nat) (d : ByteArray) (k : Nat) (m p q v y c z : Value) (w : World) (hr : Rd b (rdr d k m p q v y c z) w) (hk : k ≤ d.size) (hd : d.size ≤ 281474976710656) (i : Nat) (hil : i < d.size - k)
    (hi : idxL (d.data.toList.drop k) = (i : Int)) (h256 : i ≤ 256) (hc : (d.data.toList.drop k)[i]? = some 10) :
    Calls Tryz.prog 31 #[.pointer (some ⟨b, 0, none⟩)] w fun e w' => e = gives 400 ∧ Below w.heap.size w w' := by
  have c0 : w.cell? ⟨b, 0, none⟩ = some (.string d) := hr.cell 0
  have c1 : w.cell? ⟨b, 1, none⟩ = some (.int .i64 k) := hr.cell 1
  have hk' : (k : Int) ≤ (d.size : Int) := by omega
  rw [← tail_data] at hi
  have hI := fun W => IndexAny_any (d.extract k d.size) (by rw [tail_size]; omega) W
  rw [hi] at hI
  have hsz := tail_size d k
  clear hi
  have hx := run_at (d.extract k d.size) i 10 (by rw [tail_data]; exact hc)
  clear hc
  clear hr
  go_enter Tryz.func31, Tryz.ntmps31
  go_wp2_with fail
  go_quiet (fail)
  go_wp2_with (first
      | (go_at_call 63; refine (hI _).mono ?_; rintro e w1 ⟨rfl, hb1⟩; refine Hid.out ?_)
      | (go_at_call 32; first | ((with_reducible refine (need_ok _ _).mono ?_); rintro e w' ⟨rfl, rfl⟩) | ((with_reducible refine (need_no _ _).mono ?_); rintro e w' ⟨rfl, rfl⟩)))
  refine Lib.hid ?_
  go_wp2_with (first
      | (go_at_call 63; refine (hI _).mono ?_; rintro e w1 ⟨rfl, hb1⟩; refine Hid.out ?_)
      | (go_at_call 32; first | ((with_reducible refine (need_ok _ _).mono ?_); rintro e w' ⟨rfl, rfl⟩) | ((with_reducible refine (need_no _ _).mono ?_); rintro e w' ⟨rfl, rfl⟩)))
  exact ⟨rfl, rfl, (below_then (below_drewN _ _) hb1)⟩

set_option maxHeartbeats 4000000 in
set_option maxRecDepth 1000000 in
theorem line_hit_end (b : Nat) (d : ByteArray) (k : Nat) (m p q v y c z : Value) (w : World) (hr : Rd b (rdr d k m p q v y c z) w) (hk : k ≤ d.size) (hd : d.size ≤ 281474976710656) (i : Nat) (hil : i < d.size - k)
    (hi : idxL (d.data.toList.drop k) = (i : Int)) (h256 : i ≤ 256) (hc : (d.data.toList.drop k)[i]? = some 13) (he : i + 1 = d.size - k) :
    Calls Tryz.prog 31 #[.pointer (some ⟨b, 0, none⟩)] w fun e w' => e = gives 0 ∧ Below w.heap.size w w' := by
  have c0 : w.cell? ⟨b, 0, none⟩ = some (.string d) := hr.cell 0
  have c1 : w.cell? ⟨b, 1, none⟩ = some (.int .i64 k) := hr.cell 1
  have hk' : (k : Int) ≤ (d.size : Int) := by omega
  rw [← tail_data] at hi
  have hI := fun W => IndexAny_any (d.extract k d.size) (by rw [tail_size]; omega) W
  rw [hi] at hI
  have hsz := tail_size d k
  clear hi
  have hx := run_at (d.extract k d.size) i 13 (by rw [tail_data]; exact hc)
  clear hc
  have he' : decide ((i : Int) + 1 < ((d.size - k : Nat) : Int)) = false := decide_eq_false (by omega)
  clear hr
  go_enter Tryz.func31, Tryz.ntmps31
  go_wp2_with fail
  go_quiet (fail)
  go_wp2_with (first
      | (go_at_call 63; refine (hI _).mono ?_; rintro e w1 ⟨rfl, hb1⟩; refine Hid.out ?_)
      | (go_at_call 32; first | ((with_reducible refine (need_ok _ _).mono ?_); rintro e w' ⟨rfl, rfl⟩) | ((with_reducible refine (need_no _ _).mono ?_); rintro e w' ⟨rfl, rfl⟩)))
  refine Lib.hid ?_
  go_wp2_with (first
      | (go_at_call 63; refine (hI _).mono ?_; rintro e w1 ⟨rfl, hb1⟩; refine Hid.out ?_)
      | (go_at_call 32; first | ((with_reducible refine (need_ok _ _).mono ?_); rintro e w' ⟨rfl, rfl⟩) | ((with_reducible refine (need_no _ _).mono ?_); rintro e w' ⟨rfl, rfl⟩)))
  exact ⟨rfl, rfl, (below_then (below_drewN _ _) hb1)⟩

set_option maxHeartbeats 4000000 in
set_option maxRecDepth 1000000 in
theorem line_hit_bad (b : Nat) (d : ByteArray) (k : Nat) (m p q v y c z : Value) (w : World) (hr : Rd b (rdr d k m p q v y c z) w) (hk : k ≤ d.size) (hd : d.size ≤ 281474976710656) (i : Nat) (hil : i < d.size - k)
    (hi : idxL (d.data.toList.drop k) = (i : Int)) (h256 : i ≤ 256) (hc : (d.data.toList.drop k)[i]? = some 13) (x : UInt8) (hx1 : (d.data.toList.drop k)[i + 1]? = some x) (hx10 : x ≠ 10) :
    Calls Tryz.prog 31 #[.pointer (some ⟨b, 0, none⟩)] w fun e w' => e = gives 400 ∧ Below w.heap.size w w' := by
  have c0 : w.cell? ⟨b, 0, none⟩ = some (.string d) := hr.cell 0
  have c1 : w.cell? ⟨b, 1, none⟩ = some (.int .i64 k) := hr.cell 1
  have hk' : (k : Int) ≤ (d.size : Int) := by omega
  rw [← tail_data] at hi
  have hI := fun W => IndexAny_any (d.extract k d.size) (by rw [tail_size]; omega) W
  rw [hi] at hI
  have hsz := tail_size d k
  clear hi
  have hx := run_at (d.extract k d.size) i 13 (by rw [tail_data]; exact hc)
  have hx2 := run_at (d.extract k d.size) (i + 1) x (by rw [tail_data]; exact hx1)
  rw [show ((i + 1 : Nat) : Int) = (i : Int) + 1 by omega] at hx2
  have hz : ((x.toNat : Int) == 10) = false := by
    rw [beq_eq_false_iff_ne]; intro e; exact hx10 (UInt8.toNat_inj.1 (show x.toNat = 10 by omega))
  have he' : decide ((i : Int) + 1 < ((d.size - k : Nat) : Int)) = true := by
    have := (List.getElem?_eq_some_iff.1 hx1).1
    rw [List.length_drop, size_data] at this
    exact decide_eq_true (by omega)
  clear hc hx1 hx10
  clear hr
  go_enter Tryz.func31, Tryz.ntmps31
  go_wp2_with fail
  go_quiet (fail)
  go_wp2_with (first
      | (go_at_call 63; refine (hI _).mono ?_; rintro e w1 ⟨rfl, hb1⟩; refine Hid.out ?_)
      | (go_at_call 32; first | ((with_reducible refine (need_ok _ _).mono ?_); rintro e w' ⟨rfl, rfl⟩) | ((with_reducible refine (need_no _ _).mono ?_); rintro e w' ⟨rfl, rfl⟩)))
  refine Lib.hid ?_
  go_wp2_with (first
      | (go_at_call 63; refine (hI _).mono ?_; rintro e w1 ⟨rfl, hb1⟩; refine Hid.out ?_)
      | (go_at_call 32; first | ((with_reducible refine (need_ok _ _).mono ?_); rintro e w' ⟨rfl, rfl⟩) | ((with_reducible refine (need_no _ _).mono ?_); rintro e w' ⟨rfl, rfl⟩)))
  exact ⟨rfl, rfl, (below_then (below_drewN _ _) hb1)⟩

set_option maxHeartbeats 4000000 in
set_option maxRecDepth 1000000 in
theorem line_hit_ok (b : Nat) (d : ByteArray) (k : Nat) (m p q v y c z : Value) (w : World) (hr : Rd b (rdr d k m p q v y c z) w) (hk : k ≤ d.size) (hd : d.size ≤ 281474976710656) (i : Nat) (hil : i + 2 ≤ d.size - k)
    (hi : idxL (d.data.toList.drop k) = (i : Int)) (h256 : i ≤ 256) (hc : (d.data.toList.drop k)[i]? = some 13) (hx1 : (d.data.toList.drop k)[i + 1]? = some 10) (L : ByteArray) (hL : L = (d.extract k d.size).extract 0 i) :
    Calls Tryz.prog 31 #[.pointer (some ⟨b, 0, none⟩)] w fun e w' => e = .returned (.string L) ∧ Rd b (rdr d (k + (i + 2)) m p q v y c z) w' ∧ Only b w w' := by
  have c0 : w.cell? ⟨b, 0, none⟩ = some (.string d) := hr.cell 0
  have c1 : w.cell? ⟨b, 1, none⟩ = some (.int .i64 k) := hr.cell 1
  have hk' : (k : Int) ≤ (d.size : Int) := by omega
  rw [← tail_data] at hi
  have hI := fun W => IndexAny_any (d.extract k d.size) (by rw [tail_size]; omega) W
  rw [hi] at hI
  have hsz := tail_size d k
  clear hi
  have hx := run_at (d.extract k d.size) i 13 (by rw [tail_data]; exact hc)
  have hx2 := run_at (d.extract k d.size) (i + 1) 10 (by rw [tail_data]; exact hx1)
  rw [show ((i + 1 : Nat) : Int) = (i : Int) + 1 by omega] at hx2
  have he' : decide ((i : Int) + 1 < ((d.size - k : Nat) : Int)) = true := decide_eq_true (by omega)
  have f1 := hr.free 1
  have hlt := hr.lt
  clear hc hx1
  go_enter Tryz.func31, Tryz.ntmps31
  go_wp2_with fail
  go_quiet (fail)
  go_wp2_with (first
      | (go_at_call 63; refine (hI _).mono ?_; rintro e w1 ⟨rfl, hb1⟩; refine Hid.out ?_)
      | (go_at_call 32; first | ((with_reducible refine (need_ok _ _).mono ?_); rintro e w' ⟨rfl, rfl⟩) | ((with_reducible refine (need_no _ _).mono ?_); rintro e w' ⟨rfl, rfl⟩)))
  refine Lib.hid ?_
  have hB := below_then (below_drewN w nq) hb1
  have hr1 := hr.keep hB
  have d1 : w1.cell? ⟨b, 1, none⟩ = some (.int .i64 k) := hr1.cell 1
  have g1 := hr1.free 1
  have hS := hr1.set 1 (.int .i64 ((k : Int) + ((i : Int) + 2))) (by simp)
  have hO := (Only.of hlt hB).trans (Only.set w1 1 (.int .i64 ((k : Int) + ((i : Int) + 2))))
  have HS := Lib.hid hS
  have HL := Lib.hid hL
  clear hS hr hr1 hL c0 c1 f1
  go_wp2_with (first
      | (go_at_call 63; refine (hI _).mono ?_; rintro e w1 ⟨rfl, hb1⟩; refine Hid.out ?_)
      | (go_at_call 32; first | ((with_reducible refine (need_ok _ _).mono ?_); rintro e w' ⟨rfl, rfl⟩) | ((with_reducible refine (need_no _ _).mono ?_); rintro e w' ⟨rfl, rfl⟩)))
  go_ret
  refine ⟨by rw [HL.out]; rfl, ?_, hO⟩
  have := HS.out
  have e : ((k + (i + 2) : Nat) : Int) = (k : Int) + ((i : Int) + 2) := by omega
  show Rd b #[.string d, .int .i64 ((k + (i + 2) : Nat) : Int), m, p, q, v, y, c, z] _
  rw [e]
  simpa using this
theorem line_stop (b : Nat) (d : ByteArray) (k : Nat) (m p q v y c z : Value) (w : World) (hr : Rd b (rdr d k m p q v y c z) w) (hk : k ≤ d.size) (hd : d.size ≤ 281474976710656) (st : Int) (hst : lineL (d.data.toList.drop k) = .stop st) :
    Calls Tryz.prog 31 #[.pointer (some ⟨b, 0, none⟩)] w fun e w' => e = gives st ∧ Below w.heap.size w w' := by
  have hlen : (d.data.toList.drop k).length = d.size - k := by rw [List.length_drop, size_data]
  have hge := idxL_ge (d.data.toList.drop k)
  have hlt := idxL_lt (d.data.toList.drop k)
  by_cases hi : idxL (d.data.toList.drop k) = -1
  · rw [line_free (idxL_none hi), hlen] at hst
    by_cases h : d.size - k ≤ 256
    · rw [if_pos h] at hst
      injection hst with hst
      subst hst
      exact line_none_short b d k m p q v y c z w hr hk hd hi h
    · rw [if_neg h] at hst
      injection hst with hst
      subst hst
      exact line_none_long b d k m p q v y c z w hr hk hd hi (by omega)
  · obtain ⟨i, hi⟩ : ∃ i : Nat, idxL (d.data.toList.drop k) = (i : Int) := ⟨(idxL (d.data.toList.drop k)).toNat, by omega⟩
    have hil : i < d.size - k := by rw [← hlen]; omega
    rw [line_hit hi] at hst
    by_cases h : 256 < i
    · rw [if_pos h] at hst
      injection hst with hst
      subst hst
      exact line_hit_far b d k m p q v y c z w hr hk hd i hil hi h
    · rw [if_neg h] at hst
      have hdr : (d.data.toList.drop k).drop i = (d.data.toList.drop k)[i]'(by omega) :: (d.data.toList.drop k).drop (i + 1) := List.drop_eq_getElem_cons _
      have hg : (d.data.toList.drop k)[i]? = some ((d.data.toList.drop k)[i]'(by omega)) := List.getElem?_eq_getElem _
      obtain ⟨x, q', h1, -, h3, -⟩ := idxL_hit hi
      have hx : x = (d.data.toList.drop k)[i]'(by omega) := by
        have e := List.append_cancel_left ((List.take_append_drop i (d.data.toList.drop k)).trans h1)
        rw [hdr] at e
        exact (List.cons.inj e).1.symm
      rw [hdr] at hst
      simp only at hst
      rw [← hx] at hst hg
      by_cases h10 : x = 10
      · rw [if_pos h10] at hst
        injection hst with hst
        subst hst
        rw [h10] at hg
        exact line_hit_lf b d k m p q v y c z w hr hk hd i hil hi (by omega) hg
      · rw [if_neg h10] at hst
        have h13 : x = 13 := by unfold crlf at h3; simpa [h10] using h3
        rw [h13] at hg
        by_cases he : i + 1 < d.size - k
        · have hdr2 : (d.data.toList.drop k).drop (i + 1) = (d.data.toList.drop k)[i + 1]'(by omega) :: (d.data.toList.drop k).drop (i + 1 + 1) := List.drop_eq_getElem_cons _
          rw [hdr2] at hst
          simp only at hst
          by_cases hx10 : (d.data.toList.drop k)[i + 1]'(by omega) = 10
          · rw [if_pos hx10] at hst
            cases hst
          · rw [if_neg hx10] at hst
            injection hst with hst
            subst hst
            exact line_hit_bad b d k m p q v y c z w hr hk hd i hil hi (by omega) hg _ (List.getElem?_eq_getElem _) hx10
        · rw [List.drop_eq_nil_of_le (by omega)] at hst
          simp only at hst
          injection hst with hst
          subst hst
          exact line_hit_end b d k m p q v y c z w hr hk hd i hil hi (by omega) hg (by omega)
/-- A whole line: what is left of the text begins at a later place. -/
theorem line_ok_at {d : ByteArray} {k : Nat} {l r : By} (hk : k ≤ d.size) (h : lineL (d.data.toList.drop k) = .ok l r) : ∃ j, k < j ∧ j ≤ d.size ∧ r = d.data.toList.drop j ∧ j = k + (l.length + 2) := by
  obtain ⟨e, -, -⟩ := P18.line_ok.1 h
  have hl := congrArg List.length e
  rw [List.length_drop, size_data] at hl
  simp at hl
  refine ⟨k + (l.length + 2), by omega, by omega, ?_, rfl⟩
  rw [← List.drop_drop, e]
  rw [show l ++ 13 :: 10 :: r = (l ++ [13, 10]) ++ r by simp]
  rw [List.drop_left' (by simp)]
theorem line_whole (b : Nat) (d : ByteArray) (k : Nat) (m p q v y c z : Value) (w : World) (hr : Rd b (rdr d k m p q v y c z) w) (hk : k ≤ d.size) (hd : d.size ≤ 281474976710656) (l r : By) (h : lineL (d.data.toList.drop k) = .ok l r) (L : ByteArray) (hL : L = ⟨l.toArray⟩) (j : Nat) (hj : j = k + (l.length + 2)) :
    Calls Tryz.prog 31 #[.pointer (some ⟨b, 0, none⟩)] w fun e w' => e = .returned (.string L) ∧ Rd b (rdr d j m p q v y c z) w' ∧ Only b w w' := by
  have hlen : (d.data.toList.drop k).length = d.size - k := by rw [List.length_drop, size_data]
  obtain ⟨e1, e2, e3⟩ := P18.line_ok.1 h
  subst hj
  have hfree : Free l := fun x hx => by unfold crlf; simpa using e3 x hx
  have hl := congrArg List.length e1
  rw [hlen] at hl
  simp at hl
  have hskip := idxL_skip (l := d.data.toList.drop k) (k := l.length) (by rw [e1, List.take_left' rfl]; exact hfree) (by rw [hlen]; omega)
  rw [e1, List.drop_left' rfl, ← e1] at hskip
  have hi : idxL (d.data.toList.drop k) = (l.length : Int) := by rw [hskip]; simp [idxL, crlf]
  refine line_hit_ok b d k m p q v y c z w hr hk hd l.length (by omega) hi e2 ?_ ?_ L ?_
  · rw [e1]; simp
  · rw [e1, List.getElem?_append_right (by omega)]; simp
  · rw [hL]
    apply ba_ext
    rw [Lib.extract_data, tail_data, e1]
    simp
end Go.Proofs.YtcgeiimihihhpaaGreatDoor.W18

namespace Go.Proofs.YtcgeiimihihhpaaGreatDoor.W18
open Go Go.RowKit P12 P18

set_option maxHeartbeats 800000 in
set_option maxRecDepth 100000 in
theorem slCut_any (s : ByteArray) (c : UInt8) (w : World) (hs : s.size ≤ 9223372036854775000) :
    Calls Tryz.prog 65 #[.string s, .string ⟨#[c]⟩] w fun e w' => e = .returned (.tuple #[bs (cutL c s.data.toList).1, bs (cutL c s.data.toList).2.1, .bool (cutL c s.data.toList).2.2]) ∧ Below w.heap.size w w' := by
  have hidx : Lib.indexB s ⟨#[c]⟩ = Lib.indexByte s.data.toList c := Lib.index_one _ _
  have hcon := fun W => Tryz.stringslite_Index_one s c W
  rw [← hidx] at hcon
  have hcl := cut_one c s.data.toList
  rcases Lib.indexB_cases s ⟨#[c]⟩ with h | ⟨i, h, hi⟩
  · obtain ⟨h1, h2, h3⟩ := Lib.cutB_miss s ⟨#[c]⟩ h
    change (⟨(Lib.cut s.data.toList [c]).1.toArray⟩ : ByteArray) = _ at h1
    change (⟨(Lib.cut s.data.toList [c]).2.1.toArray⟩ : ByteArray) = _ at h2
    change (Lib.cut s.data.toList [c]).2.2 = _ at h3
    rw [hcl] at h1 h2 h3
    rw [h] at hcon
    have H1 := Lib.hid h1
    have H2 := Lib.hid h2
    have H3 := Lib.hid h3
    clear hcl h1 h2 h3 h hidx
    go_enter Tryz.func65, Tryz.ntmps65
    go_wp2_with (go_at_call 93; refine (hcon _).mono ?_; rintro e w' ⟨rfl, rfl⟩)
    go_ret3
    exact ⟨by unfold bs; rw [H1.out, H2.out, H3.out]; rfl, Below.refl _ _⟩
  · obtain ⟨h1, h2, h3⟩ := Lib.cutB_hit s ⟨#[c]⟩ i h
    change (⟨(Lib.cut s.data.toList [c]).1.toArray⟩ : ByteArray) = _ at h1
    change (⟨(Lib.cut s.data.toList [c]).2.1.toArray⟩ : ByteArray) = _ at h2
    change (Lib.cut s.data.toList [c]).2.2 = _ at h3
    rw [hcl] at h1 h2 h3
    rw [h] at hcon
    have hi1 : i + 1 ≤ s.size := hi
    have i0 : (0 : Int) ≤ (i : Int) := by omega
    have i1 : (i : Int) ≤ (s.size : Int) := by omega
    have i2 : (i : Int) + 1 ≤ (s.size : Int) := by omega
    have i3 : (0 : Int) ≤ (i : Int) + 1 := by omega
    have H1 := Lib.hid h1
    have H2 := Lib.hid h2
    have H3 := Lib.hid h3
    clear hcl h1 h2 h3 h hidx hi
    go_enter Tryz.func65, Tryz.ntmps65
    go_wp2_with (go_at_call 93; refine (hcon _).mono ?_; rintro e w' ⟨rfl, rfl⟩)
    go_quiet (fail)
    go_wp2_with fail
    go_ret3
    exact ⟨by unfold bs; rw [H1.out, H2.out, H3.out]; rfl, below_drewN _ _⟩

set_option maxHeartbeats 800000 in
theorem Cut_any (s : ByteArray) (c : UInt8) (w : World) (hs : s.size ≤ 9223372036854775000) :
    Calls Tryz.prog 36 #[.string s, .string ⟨#[c]⟩] w fun e w' => e = .returned (.tuple #[bs (cutL c s.data.toList).1, bs (cutL c s.data.toList).2.1, .bool (cutL c s.data.toList).2.2]) ∧ Below w.heap.size w w' := by
  have hcon := fun W => slCut_any s c W hs
  generalize cutL c s.data.toList = r at hcon ⊢
  obtain ⟨a, b, d⟩ := r
  simp only at hcon ⊢
  go_enter Tryz.func36, Tryz.ntmps36
  go_wp2_with (go_at_call 65; refine (hcon _).mono ?_; rintro e w' ⟨rfl, hb⟩)
  go_ret3
  exact ⟨rfl, hb⟩

theorem index_split (s : ByteArray) (c : UInt8) (i : Nat) (h : Lib.indexB s ⟨#[c]⟩ = i) : i < s.size ∧ c ∉ (s.extract 0 i).data.toList ∧ s.data.toList = (s.extract 0 i).data.toList ++ c :: (s.extract (i + 1) s.size).data.toList := by
  have h1 : Lib.indexByte s.data.toList c = i := by rw [← h]; exact (Lib.index_one _ _).symm
  obtain ⟨g1, g2⟩ := Lib.indexByte_some h1
  have hl : i < s.data.toList.length := (List.getElem?_eq_some_iff.1 g1).1
  have hs : i < s.size := by rw [size_data] at hl; exact hl
  have e0 : (s.extract 0 i).data.toList = s.data.toList.take i := by rw [Lib.extract_data]; simp
  have e1 : (s.extract (i + 1) s.size).data.toList = s.data.toList.drop (i + 1) := Lib.extract_to_end _ _
  rw [e0, e1]
  refine ⟨hs, ?_, ?_⟩
  · intro hm
    obtain ⟨k, hk⟩ := List.mem_iff_getElem?.1 hm
    rw [List.getElem?_take] at hk
    split at hk
    · rename_i hki; exact g2 k hki hk
    · cases hk
  · have := List.take_append_drop i s.data.toList
    rw [List.drop_eq_getElem_cons hl] at this
    have e : s.data.toList[i]'hl = c := by
      rw [List.getElem?_eq_getElem hl] at g1
      exact Option.some.inj g1
    rw [e] at this
    exact this.symm
theorem split_parts (c : UInt8) : ∀ (n : Nat) (s : ByteArray), s.size ≤ n → (Lib.splitB ⟨#[c]⟩ 0 (Lib.countB s ⟨#[c]⟩) s).map Value.string = (partsL c s.data.toList).map bs ∧ Lib.countB s ⟨#[c]⟩ + 1 = (partsL c s.data.toList).length
  | n, s, hn => by
    rcases Lib.indexB_cases s ⟨#[c]⟩ with h | ⟨i, h, hi⟩
    · have hnot : c ∉ s.data.toList := by
        intro hm
        obtain ⟨k, hk⟩ := List.mem_iff_getElem?.1 hm
        have h1 : Lib.indexByte s.data.toList c = -1 := by rw [← h]; exact (Lib.index_one _ _).symm
        exact Lib.indexByte_none h1 k hk
      rw [Lib.countB_miss _ _ h, Lib.splitB_zero, partsL_free hnot]
      simp [bs_data]
    · obtain ⟨h1, h2, h3⟩ := index_split s c i h
      have hc := Lib.countB_hit s ⟨#[c]⟩ i (Nat.le_refl 1) h
      have hz : (⟨#[c]⟩ : ByteArray).size = 1 := rfl
      rw [hz] at hc
      have hts : (s.extract (i + 1) s.size).size = s.size - (i + 1) := by rw [ByteArray.size_extract]; omega
      match n, hn with
      | 0, hn => omega
      | n + 1, hn =>
        obtain ⟨r1, r2⟩ := split_parts c n (s.extract (i + 1) s.size) (by omega)
        rw [hc, Nat.add_comm 1, Lib.splitB_hit _ _ _ _ i h, hz]
        conv => rhs; rw [h3]
        conv => lhs; rw [h3]
        rw [partsL_at h2]
        constructor
        · rw [List.map_cons, List.map_cons, r1, bs_data]
          simp
        · rw [List.length_cons]
          omega
theorem Split_any (s : ByteArray) (c : UInt8) (m : Int) (w : World) (hs : s.size < 4294967281) (hm : w.cell? ⟨1, 0, none⟩ = some (.int .i64 m)) :
    Calls Tryz.prog 30 #[.string s, .string ⟨#[c]⟩] w fun e w' => e = .returned (.slice (some ⟨w.heap.size, 0, none⟩) (partsL c s.data.toList).length (partsL c s.data.toList).length) ∧ w' = w.alloc (.cells ((partsL c s.data.toList).map bs).toArray 9) := by
  obtain ⟨h1, h2⟩ := split_parts c s.size s (Nat.le_refl _)
  have := Tryz.strings_Split s ⟨#[c]⟩ m w hs hm (Nat.le_refl 1)
  rw [h1, h2] at this
  exact this
end Go.Proofs.YtcgeiimihihhpaaGreatDoor.W18
