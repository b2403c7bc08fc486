/-
  Walks of layer 20: Rows, of the program and of the reference. Conditions: the library's error values; the rows' cells hold them; their numbers are ints.
-/
import Derived.Test.YtfkmgnldkmpeiaaGreatDoorGaw

namespace Go.Proofs.YtfkmgnldkmpeiaaGreatDoor.W20
open Go Go.RowKit P12 P18 P20 W12

/-- A slice of rows, as a value in a world. -/
def RowsR (v : Value) (l : List (By × Int)) (w : World) : Prop :=
  ∃ o c, v = .slice o l.length c ∧ (l = [] ∨ ∃ g off, o = some ⟨g, off, none⟩ ∧ ∀ (j : Nat) (x : By × Int), l[j]? = some x → w.cell? ⟨g, off + j * 2, none⟩ = some (bs x.1) ∧ w.cell? ⟨g, off + j * 2 + 1, none⟩ = some (.int .i64 x.2))
theorem RowsR.keep {v : Value} {l : List (By × Int)} {w w' : World} (h : RowsR v l w) (hb : Below w.heap.size w w') : RowsR v l w' := by
  obtain ⟨o, c, rfl, h0⟩ := h
  exact ⟨o, c, rfl, h0.imp id fun ⟨g, off, e, h⟩ => ⟨g, off, e, fun j x hj => ⟨keep_cell hb (h j x hj).1, keep_cell hb (h j x hj).2⟩⟩⟩
abbrev tRw : TypeId := 111
abbrev textC (n s : ByteArray) : Array Value := #[.string n, .bool true, .int .i64 0, .string s]
theorem line_named (l : List Fld) (hrange : ∀ f ∈ l, rangeF f) : ∃ F T : ByteArray, F.data.toList = recordL l ∧ F.size ≤ 20000 ∧ T.data.toList = recordL l ++ [10] ∧ T.size ≤ 20001 ∧ ∀ W, (Op.stringOp .add F ⟨#[10]⟩).run Tryz.prog W = .ok (.string T) W := by
  obtain ⟨F, hF, hs⟩ := record_named l hrange
  refine ⟨F, F ++ ⟨#[10]⟩, hF, hs, ?_, ?_, ?_⟩
  · rw [ByteArray.data_append, Array.toList_append, hF]
  · rw [ByteArray.size_append, show (⟨#[10]⟩ : ByteArray).size = 1 from rfl]; omega
  · exact fun W => run_string_add_sum W _ _ (by rw [show (⟨#[10]⟩ : ByteArray).size = 1 from rfl]; omega)
theorem row_range {x : By × Int} (h : -9223372036854775808 ≤ x.2 ∧ x.2 ≤ 9223372036854775807) : ∀ f ∈ [textFl nKey x.1, numF nN x.2], rangeF f := by
  intro f hf
  simp only [List.mem_cons, List.not_mem_nil, or_false] at hf
  rcases hf with rfl | rfl
  · exact range_text _ _
  · exact h
set_option maxHeartbeats 6400000 in
set_option maxRecDepth 100000 in
theorem rows_puts (bx : Nat) (v : Value) (l : List (By × Int)) (w0 : World) (hE : Env w0) (hx : w0.cell? ⟨bx, 0, none⟩ = some v) (hr : RowsR v l w0) (hlen : l.length ≤ 4611686018427387904) (hrange : ∀ x ∈ l, -9223372036854775808 ≤ x.2 ∧ x.2 ≤ 9223372036854775807) : Puts 60 #[.pointer (some ⟨bx, 0, none⟩)] (l.map lineR) w0 := by
  intro W B b out hW hB hBw hbl hout
  show Calls Tryz.prog 60 #[putF b, .pointer (some ⟨bx, 0, none⟩)] W _
  have hx1 := keep_cell hW hx
  obtain ⟨o, c, rfl, hcl⟩ := hr
  have HC := Lib.hid hcl
  have HRG := Lib.hid hrange
  have HE := Lib.hid hE
  have HB := Lib.hid hbl
  clear hcl hrange hE hbl hx
  go_enter Tryz.func60, Tryz.ntmps60
  go_wp2_with fail
  go_loopw [7] (fun i wr => ∃ (k : Nat) (O : By), k ≤ l.length ∧ i = .int .i64 k ∧ O.length ≤ 60000 ∧ Hid (Bld B b O wr) ∧ Hid (pageL out (l.map lineR) = pageL O ((l.drop k).map lineR)) ∧ B ≤ wr.heap.size ∧ Hid (Kpt B b W wr)) (fun i _ => l.length - (intOf i).toNat)
  case atStart => exact ⟨0, out, Nat.zero_le _, rfl, hout, HB, Lib.hid (by rw [List.drop_zero]), hBw, Lib.hid (kpt_of hBw (Below.refl _ W))⟩
  case round =>
    clear HB hx1
    obtain ⟨k, O, hk, rfl, hO, HB, HP, hBr, HK⟩ := hrel
    by_cases hlt : k < l.length
    · have hlt' : (k : Int) < (l.length : Int) := by omega
      have hwr : Below w0.heap.size w0 wr := hW.trans (HK.out.1.mono hB)
      rcases HC.out with h0 | ⟨g, off, rfl, hcell⟩
      · rw [h0] at hlt; exact absurd hlt (Nat.not_lt_zero _)
      obtain ⟨x, hx⟩ : ∃ x, l[k]? = some x := ⟨_, List.getElem?_eq_getElem hlt⟩
      obtain ⟨Ky, hKy⟩ : ∃ Ky : ByteArray, Ky.data.toList = x.1 := ⟨⟨x.1.toArray⟩, rfl⟩
      obtain ⟨n, hn⟩ : ∃ n : Int, n = x.2 := ⟨_, rfl⟩
      have hc0 := keep_cell hwr (hcell k x hx).1
      have hc1 := keep_cell hwr (hcell k x hx).2
      rw [← hKy, bs_data] at hc0
      rw [← hn] at hc1
      have hrx := HRG.out x (List.mem_of_getElem? hx)
      obtain ⟨F, T, hF, hFs, hT, hTs, p1⟩ := line_named [textFl nKey x.1, numF nN x.2] (row_range hrx)
      have HPk : Hid (pageL out (l.map lineR) = pageL O (T.data.toList :: (l.drop (k + 1)).map lineR)) := Lib.hid (by
        rw [HP.out, drop_cons hx, List.map_cons, hT]; rfl)
      have HF := Lib.hid (show F.data.toList = recordL [textFl nKey Ky.data.toList, numF nN n] by rw [hF, hKy, hn])
      have HRX := Lib.hid (show ∀ f ∈ [textFl nKey Ky.data.toList, numF nN n], rangeF f from by rw [hKy, hn]; exact row_range hrx)
      have hEr := HE.out.keep hwr
      have HW := Lib.hid hwr
      clear hcell hx hKy hn hrx hF hT HP hwr
      go_wp2_with fail
      have hx4 := new_at wr #[.string Ky, .int .i64 n] tRw
      have hbw := below_alloc wr (.cells #[.string Ky, .int .i64 n] tRw)
      have hE4 := hEr.keep hbw
      have hB4 := Lib.hid (HB.out.keep hbw)
      obtain ⟨w4, hw4⟩ : ∃ w4, w4 = wr.alloc (.cells #[.string Ky, .int .i64 n] tRw) := ⟨_, rfl⟩
      rw [← hw4] at hx4 hbw hE4 hB4 ⊢
      clear hw4 hc0 hc1
      refine wp_region_tame1 7 (fun V => Below w4.heap.size w4 V) (by kernel_rfl) (by kernel_rfl) (fun _ _ _ _ h => h) ((Below.refl _ w4).drew) ⟨putF b, Or.inl ⟨by rfl, fun W => by first | (go_simp; done) | (go_simp; with_reducible rfl) | rfl⟩, ?_⟩
      simp only [List.take_succ_cons, List.take_zero, List.drop_succ_cons, List.drop_zero, Act.put, List.setIfInBounds_toArray, List.set_cons_zero, List.set_cons_succ]
      refine Exists.intro (.pointer (some ⟨wr.heap.size, 0, none⟩)) (And.intro (Or.inl (And.intro (by rfl) (fun V hS => ?tg1))) ?_)
      case tg1 =>
        go_simp
        exact ⟨rfl, hS⟩
      simp only [Act.put, List.setIfInBounds_toArray, List.set_cons_zero, List.set_cons_succ]
      refine Exists.intro (.string Ky) (And.intro (Or.inl (And.intro (by rfl) (fun V hS => ?tg2))) ?_)
      case tg2 =>
        have h1 := Lib.cell_of_heap (keep_at hx4 hS) 0
        have h2 := Lib.frozen_of_heap (keep_at hx4 hS) 0
        go_simp
        exact ⟨rfl, hS⟩
      simp only [Act.put, List.setIfInBounds_toArray, List.set_cons_zero, List.set_cons_succ]
      refine Exists.intro (textV ⟨#[107, 101, 121]⟩ Ky) (And.intro (Or.inl (And.intro (by rfl) (fun V hS => ?tg3))) ?_)
      case tg3 =>
        go_simp
        refine (text_any _ _ _).mono ?_
        rintro e w' ⟨rfl, hb⟩
        exact ⟨rfl, below_then hS hb⟩
      simp only [Act.put, List.setIfInBounds_toArray, List.set_cons_zero, List.set_cons_succ]
      refine Exists.intro (.pointer (some ⟨wr.heap.size, 1, none⟩)) (And.intro (Or.inl (And.intro (by rfl) (fun V hS => ?tg4))) ?_)
      case tg4 =>
        go_simp
        exact ⟨rfl, hS⟩
      simp only [Act.put, List.setIfInBounds_toArray, List.set_cons_zero, List.set_cons_succ]
      refine Exists.intro (.int .i64 n) (And.intro (Or.inl (And.intro (by rfl) (fun V hS => ?tg5))) ?_)
      case tg5 =>
        have h1 := Lib.cell_of_heap (keep_at hx4 hS) 1
        have h2 := Lib.frozen_of_heap (keep_at hx4 hS) 1
        go_simp
        exact ⟨rfl, hS⟩
      simp only [Act.put, List.setIfInBounds_toArray, List.set_cons_zero, List.set_cons_succ]
      refine Exists.intro (numV ⟨#[110]⟩ n) (And.intro (Or.inl (And.intro (by rfl) (fun V hS => ?tg6))) ?_)
      case tg6 =>
        go_simp
        refine (num_any _ _ _).mono ?_
        rintro e w' ⟨rfl, hb⟩
        exact ⟨rfl, below_then hS hb⟩
      simp only [Act.put, List.setIfInBounds_toArray, List.set_cons_zero, List.set_cons_succ]
      intro V hS
      have hbV := below_then hS (below_alloc V (.cells #[.string ⟨#[107, 101, 121]⟩, .bool true, .int .i64 0, .string Ky, .string ⟨#[110]⟩, .bool false, .int .i64 n, .string ⟨#[]⟩] 54))
      have hrw := rows_lit (l := [textFl nKey Ky.data.toList, numF nN n]) (show StAt 54 V.heap.size _ (V.alloc (.cells #[.string ⟨#[107, 101, 121]⟩, .bool true, .int .i64 0, .string Ky, .string ⟨#[110]⟩, .bool false, .int .i64 n, .string ⟨#[]⟩] 54)) from new_at V _ _) 2
      have HRC := Lib.hid (record_any _ _ F HF.out _ (hE4.keep hbV) hrw (by simp) HRX.out)
      clear hrw hS
      go_wp2_with (go_at_call 43; refine HRC.out.mono ?_; rintro e w5 ⟨rfl, hb5⟩; refine Hid.out ?_)
      refine Lib.hid ?_
      have hb6 := below_then hbw (below_then hbV hb5)
      have hB6 := HB.out.keep hb6
      have hBr6 : B ≤ w5.heap.size := Nat.le_trans hBr hb6.size
      have HK6 := Lib.hid (kpt_then HK.out (kpt_of hBr hb6))
      by_cases hfit : O.length + T.size ≤ 60000
      · have HPP := Lib.hid (put_yes B b O T w5 hB6 hfit hBr6)
        have HPn : Hid (pageL out (l.map lineR) = pageL (O ++ T.data.toList) ((l.drop (k + 1)).map lineR)) := Lib.hid (by rw [HPk.out, pageL_go (by rw [size_data]; omega)])
        clear hB6 HRC hx4 hbw hE4 hB4 hbV hb5 hb6 HPk HB HK
        go_wp2_with (go_at_call 78; refine HPP.out.mono ?_; rintro e w7 ⟨rfl, hB7, hk7⟩; have HB7 := Lib.hid hB7; have HK7 := Lib.hid hk7; clear hB7 hk7)
        go_roundw
        case rel => exact ⟨k + 1, O ++ T.data.toList, by omega, by go_num, by rw [List.length_append, size_data]; exact hfit, HB7, HPn, Nat.le_trans hBr6 HK7.out.1.size, Lib.hid (kpt_then HK6.out HK7.out)⟩
        case measure => simp [intOf]; omega
      · have HPP := Lib.hid (put_no B b O T w5 hB6 (by omega) hO (by omega))
        have HPn : Hid (pageL out (l.map lineR) = O) := Lib.hid (by rw [HPk.out, pageL_stop (by rw [size_data]; omega)])
        have HB6 := Lib.hid hB6
        clear hB6 HRC hx4 hbw hE4 hB4 hbV hb5 hb6 HPk HB HK
        go_wp2_with (go_at_call 78; refine HPP.out.mono ?_; rintro e w7 ⟨rfl, rfl⟩)
        exact bodyPost_ret (v := .tuple #[]) (by simp [results, Tryz.results60, go_sem]) rfl ⟨rfl, by rw [HPn.out]; exact HB6.out, HK6.out⟩
    · obtain rfl : k = l.length := by omega
      have HPn : Hid (pageL out (l.map lineR) = O) := Lib.hid (by rw [HP.out, List.drop_length]; rfl)
      clear HC
      go_wp2_with fail
      go_end0
      exact ⟨rfl, by rw [HPn.out]; exact HB.out, HK.out⟩
set_option maxHeartbeats 3200000 in
set_option maxRecDepth 100000 in
theorem Rows_any (m : Int) (v : Value) (l : List (By × Int)) (w : World) (hE : Env w) (hr : RowsR v l w) (hlen : l.length ≤ 4611686018427387904) (hrange : ∀ x ∈ l, -9223372036854775808 ≤ x.2 ∧ x.2 ≤ 9223372036854775807) (hm : -9223372036854775808 ≤ m ∧ m ≤ 9223372036854775807) (X : ByteArray) (hX : X.data.toList = rowsL m l) :
    Calls Tryz.prog 27 #[.int .i64 m, v] w fun e w' => e = .returned (.agg #[.int .i64 200, .string X, .bool false]) ∧ Below w.heap.size w w' := by
  obtain ⟨o, c, rfl, -⟩ := id hr
  obtain ⟨w1, hw1⟩ : ∃ w1, w1 = (w.alloc (.cells #[.slice o l.length c] 61)).alloc (.cells zRp 40) := ⟨_, rfl⟩
  have hb1 : Below w.heap.size w w1 := by rw [hw1]; exact below_then (below_alloc _ _) (below_alloc _ _)
  have hx1 : w1.cell? ⟨w.heap.size, 0, none⟩ = some (.slice o l.length c) := by rw [hw1]; exact Lib.cell_of_heap (keep_at (new_at w #[.slice o l.length c] _) (below_alloc _ _)) 0
  have hy1 : StAt 40 (w.heap.size + 1) zRp w1 := by
    have := new_at (w.alloc (.cells #[.slice o l.length c] 61)) zRp 40
    rw [World.size_alloc] at this
    rw [hw1]
    exact this
  have HRW := Lib.hid (hr.keep hb1)
  have hE1 := hE.keep hb1
  have hone : ∀ f ∈ [numF nCursor m], rangeF f := by simp only [List.mem_singleton]; rintro f rfl; exact hm
  obtain ⟨F, T, hF, hFs, hT, hTs, p1⟩ := line_named [numF nCursor m] hone
  have HX : Hid (X.data.toList = pageL T.data.toList (l.map lineR)) := Lib.hid (by rw [hX, hT]; rfl)
  have HF := Lib.hid hF
  have HRG := Lib.hid hrange
  have HO := Lib.hid hone
  clear hT hX hF hrange hr hE hone
  go_enter Tryz.func27, Tryz.ntmps27
  go_wp2_with (go_at_call 44; rw [← hw1]; refine (num_any _ _ _).mono ?_; rintro e w2 ⟨rfl, hb2⟩; refine Hid.out ?_)
  refine Lib.hid ?_
  have hb3 := below_then hb2 (below_alloc w2 (.cells (oneF ⟨#[99, 117, 114, 115, 111, 114]⟩ m) 54))
  have hrw := rows_lit (l := [numF nCursor m]) (new_at w2 (oneF ⟨#[99, 117, 114, 115, 111, 114]⟩ m) 54) 1
  have HRC := Lib.hid (record_any _ _ F HF.out _ (hE1.keep hb3) hrw (by simp) HO.out)
  clear hrw hw1 hb2
  go_wp2_with (go_at_call 43; refine HRC.out.mono ?_; rintro e w3 ⟨rfl, hb4⟩; refine Hid.out ?_)
  refine Lib.hid ?_
  have hb5 := below_then hb3 hb4
  have hx5 := keep_cell hb5 hx1
  have HPG := Lib.hid (page_any T 60 #[.pointer (some ⟨w.heap.size, 0, none⟩)] (l.map lineR) w3 (fun args W => by simp [go_sem]) (rows_puts w.heap.size _ l w3 (hE1.keep hb5) hx5 (HRW.out.keep hb5) hlen HRG.out) (by omega) X HX.out)
  have hy5 := keep_at hy1 hb5
  clear hx1 hx5 hb3 hb4 HRC hTs
  go_wp2_with (go_at_call 41; refine HPG.out.mono ?_; rintro e w4 ⟨rfl, hb6⟩; refine Hid.out ?_)
  refine Lib.hid ?_
  have hy6 := keep_at hy5 hb6
  have hb7 := below_then hb1 (below_then hb5 hb6)
  go_wp2_with (refine put_st rfl _ _ _ rfl (w.heap.size + 1) #[.int .i64 200, .string X, .bool false] rfl rfl hy6 infoRp rfl (by simp [Value.oneCell']) ?_; intro w9 h1 h2 h3)
  exact bodyPost_ret (v := .agg #[.int .i64 200, .string X, .bool false]) (ret_st1 Tryz.results27 _ _ _ _ rfl (load_rp h1 rfl)) rfl ⟨rfl, hb7.trans (h2.mono (Nat.le_succ _))⟩

/-! ## The reference's -/
theorem map_take_snoc {α : Type} (f : α → By) {l : List α} {k : Nat} {x : α} (h : l[k]? = some x) : (l.map f).take (k + 1) = (l.map f).take k ++ [f x] := by
  rw [List.take_add_one, List.getElem?_map, h]
  rfl
set_option maxHeartbeats 6400000 in
set_option maxRecDepth 100000 in
theorem refRows_any (m : Int) (v : Value) (l : List (By × Int)) (w : World) (hE : Env w) (hr : RowsR v l w) (hlen : (l.length + 1) * 16 ≤ 140737488355328) (hrange : ∀ x ∈ l, -9223372036854775808 ≤ x.2 ∧ x.2 ≤ 9223372036854775807) (hm : -9223372036854775808 ≤ m ∧ m ≤ 9223372036854775807) (X : ByteArray) (hX : X.data.toList = rowsL m l) :
    Calls Tryz.prog 28 #[.int .i64 m, v] w fun e w' => e = .returned (.agg #[.int .i64 200, .string X, .bool false]) ∧ Below w.heap.size w w' := by
  obtain ⟨w1, hw1⟩ : ∃ w1, w1 = w.alloc (.cells zRp 40) := ⟨_, rfl⟩
  have hb1 : Below w.heap.size w w1 := by rw [hw1]; exact below_alloc _ _
  have hy1 : StAt 40 w.heap.size zRp w1 := by rw [hw1]; exact new_at w _ _
  obtain ⟨o, c, rfl, hcl⟩ := hr.keep hb1
  have HC := Lib.hid hcl
  have HE := Lib.hid (hE.keep hb1)
  have hone : ∀ f ∈ [numF nCursor m], rangeF f := by simp only [List.mem_singleton]; rintro f rfl; exact hm
  obtain ⟨F0, T0, hF0, hFs0, hT0, hTs0, p0⟩ := line_named [numF nCursor m] hone
  have HX : Hid (X.data.toList = pageL T0.data.toList (l.map lineR)) := Lib.hid (by rw [hX, hT0]; rfl)
  have HF0 := Lib.hid hF0
  have HRG := Lib.hid hrange
  have HO := Lib.hid hone
  have HLL : Hid (∀ b ∈ l.map lineR, b.length ≤ 1000000) := Lib.hid (by
    intro b hb
    obtain ⟨x, hx, rfl⟩ := List.mem_map.1 hb
    have := W12.write_size (row_range (hrange x hx))
    show (recordL _ ++ [10]).length ≤ _
    rw [List.length_append]
    show (writeL _).1.length + 1 ≤ _
    omega)
  obtain ⟨i0, hi, hz0, hz1, hz2⟩ := info_parts W12.infoS
  have HW := Lib.hid hw1
  clear hT0 hX hF0 hrange hr hE hone hcl hw1
  go_enter Tryz.func28, Tryz.ntmps28
  go_wp2_with fail
  rw [← HW.out]
  go_loopw [5, 6] (fun u i wr => ∃ (k : Nat), k ≤ l.length ∧ i = .int .i64 k ∧ wr.ownsRow w1.heap.size 9 1 u k (W12.cellsS ((l.map lineR).take k)) ∧ Below w1.heap.size w1 wr) (fun _ i _ => l.length - (intOf i).toNat)
  case atStart => exact ⟨0, Nat.zero_le _, rfl, World.ownsRow_nil _ _ _ _, Below.refl _ _⟩
  case round =>
    obtain ⟨k, hk, rfl, hI, hwr⟩ := hrel
    by_cases hlt : k < l.length
    · have hlt' : (k : Int) < (l.length : Int) := by omega
      rcases HC.out with h0 | ⟨g, off, rfl, hcell⟩
      · rw [h0] at hlt; exact absurd hlt (Nat.not_lt_zero _)
      obtain ⟨x, hx⟩ : ∃ x, l[k]? = some x := ⟨_, List.getElem?_eq_getElem hlt⟩
      obtain ⟨Ky, hKy⟩ : ∃ Ky : ByteArray, Ky.data.toList = x.1 := ⟨⟨x.1.toArray⟩, rfl⟩
      obtain ⟨n, hn⟩ : ∃ n : Int, n = x.2 := ⟨_, rfl⟩
      have hc0 := keep_cell hwr (hcell k x hx).1
      have hc1 := keep_cell hwr (hcell k x hx).2
      rw [← hKy, bs_data] at hc0
      rw [← hn] at hc1
      have hrx := HRG.out x (List.mem_of_getElem? hx)
      obtain ⟨F, T, hF, hFs, hT, hTs, p1⟩ := line_named [textFl nKey x.1, numF nN x.2] (row_range hrx)
      have HSN : Hid (W12.cellsS ((l.map lineR).take (k + 1)) = W12.cellsS ((l.map lineR).take k) ++ [.string T]) := Lib.hid (by
        rw [map_take_snoc lineR hx, W12.cellsS_snoc, show lineR x = T.data.toList from hT.symm, bs_data])
      have HF := Lib.hid (show F.data.toList = recordL [textFl nKey Ky.data.toList, numF nN n] by rw [hF, hKy, hn])
      have HRX := Lib.hid (show ∀ f ∈ [textFl nKey Ky.data.toList, numF nN n], rangeF f from by rw [hKy, hn]; exact row_range hrx)
      have hEr := HE.out.keep hwr
      have HIr := Lib.hid hI
      have HWR := Lib.hid hwr
      clear hcell hx hKy hn hrx hF hT hI hwr
      go_wp2_with fail
      refine wp_region_tame1 13 (fun V => Below wr.heap.size wr V) (by kernel_rfl) (by kernel_rfl) (fun _ _ _ _ h => h) ((Below.refl _ wr).drew) ⟨_, Or.inl ⟨by rfl, fun W => by first | (go_simp; done) | (go_simp; with_reducible rfl) | rfl⟩, ?_⟩
      simp only [List.take_succ_cons, List.take_zero, List.drop_succ_cons, List.drop_zero, Act.put, List.setIfInBounds_toArray, List.set_cons_zero, List.set_cons_succ]
      refine Exists.intro (.slice (some ⟨g, off, none⟩) l.length c) (And.intro (Or.inl (And.intro (by rfl) (fun V hS => ?tg7))) ?_)
      case tg7 =>
        go_simp
        exact ⟨rfl, hS⟩
      simp only [Act.put, List.setIfInBounds_toArray, List.set_cons_zero, List.set_cons_succ]
      refine Exists.intro (.int .i64 k) (And.intro (Or.inl (And.intro (by rfl) (fun V hS => ?tg8))) ?_)
      case tg8 =>
        go_simp
        exact ⟨rfl, hS⟩
      simp only [Act.put, List.setIfInBounds_toArray, List.set_cons_zero, List.set_cons_succ]
      refine Exists.intro (.pointer (some ⟨g, off + k * 2, none⟩)) (And.intro (Or.inl (And.intro (by rfl) (fun V hS => ?tg9))) ?_)
      case tg9 =>
        go_simp
        exact ⟨rfl, hS⟩
      simp only [Act.put, List.setIfInBounds_toArray, List.set_cons_zero, List.set_cons_succ]
      refine Exists.intro (.pointer (some ⟨g, off + k * 2, none⟩)) (And.intro (Or.inl (And.intro (by rfl) (fun V hS => ?tg10))) ?_)
      case tg10 =>
        go_simp
        exact ⟨rfl, hS⟩
      simp only [Act.put, List.setIfInBounds_toArray, List.set_cons_zero, List.set_cons_succ]
      refine Exists.intro (.string Ky) (And.intro (Or.inl (And.intro (by rfl) (fun V hS => ?tg11))) ?_)
      case tg11 =>
        have h1 := keep_cell hS hc0
        go_simp
        exact ⟨rfl, hS⟩
      simp only [Act.put, List.setIfInBounds_toArray, List.set_cons_zero, List.set_cons_succ]
      refine Exists.intro (textV ⟨#[107, 101, 121]⟩ Ky) (And.intro (Or.inl (And.intro (by rfl) (fun V hS => ?tg12))) ?_)
      case tg12 =>
        go_simp
        refine (refText_any _ _ _).mono ?_
        rintro e w' ⟨rfl, hb⟩
        exact ⟨rfl, below_then hS hb⟩
      simp only [Act.put, List.setIfInBounds_toArray, List.set_cons_zero, List.set_cons_succ]
      refine Exists.intro (.slice (some ⟨g, off, none⟩) l.length c) (And.intro (Or.inl (And.intro (by rfl) (fun V hS => ?tg13))) ?_)
      case tg13 =>
        go_simp
        exact ⟨rfl, hS⟩
      simp only [Act.put, List.setIfInBounds_toArray, List.set_cons_zero, List.set_cons_succ]
      refine Exists.intro (.int .i64 k) (And.intro (Or.inl (And.intro (by rfl) (fun V hS => ?tg14))) ?_)
      case tg14 =>
        go_simp
        exact ⟨rfl, hS⟩
      simp only [Act.put, List.setIfInBounds_toArray, List.set_cons_zero, List.set_cons_succ]
      refine Exists.intro (.pointer (some ⟨g, off + k * 2, none⟩)) (And.intro (Or.inl (And.intro (by rfl) (fun V hS => ?tg15))) ?_)
      case tg15 =>
        go_simp
        exact ⟨rfl, hS⟩
      simp only [Act.put, List.setIfInBounds_toArray, List.set_cons_zero, List.set_cons_succ]
      refine Exists.intro (.pointer (some ⟨g, off + k * 2 + 1, none⟩)) (And.intro (Or.inl (And.intro (by rfl) (fun V hS => ?tg16))) ?_)
      case tg16 =>
        go_simp
        exact ⟨rfl, hS⟩
      simp only [Act.put, List.setIfInBounds_toArray, List.set_cons_zero, List.set_cons_succ]
      refine Exists.intro (.int .i64 n) (And.intro (Or.inl (And.intro (by rfl) (fun V hS => ?tg17))) ?_)
      case tg17 =>
        have h1 := keep_cell hS hc1
        go_simp
        exact ⟨rfl, hS⟩
      simp only [Act.put, List.setIfInBounds_toArray, List.set_cons_zero, List.set_cons_succ]
      refine Exists.intro (numV ⟨#[110]⟩ n) (And.intro (Or.inl (And.intro (by rfl) (fun V hS => ?tg18))) ?_)
      case tg18 =>
        go_simp
        refine (refNum_any _ _ _).mono ?_
        rintro e w' ⟨rfl, hb⟩
        exact ⟨rfl, below_then hS hb⟩
      simp only [Act.put, List.setIfInBounds_toArray, List.set_cons_zero, List.set_cons_succ]
      intro V hS
      have hbV := below_then hS (below_alloc V (.cells #[.string ⟨#[107, 101, 121]⟩, .bool true, .int .i64 0, .string Ky, .string ⟨#[110]⟩, .bool false, .int .i64 n, .string ⟨#[]⟩] 54))
      have hrw := rows_lit (l := [textFl nKey Ky.data.toList, numF nN n]) (show StAt 54 V.heap.size _ (V.alloc (.cells #[.string ⟨#[107, 101, 121]⟩, .bool true, .int .i64 0, .string Ky, .string ⟨#[110]⟩, .bool false, .int .i64 n, .string ⟨#[]⟩] 54)) from new_at V _ _) 2
      have HRC := Lib.hid (refRecord_any _ _ F HF.out _ (hEr.keep hbV) hrw (by simp) HRX.out)
      clear hrw hS hc0 hc1
      go_wp2_with (go_at_call 55; refine HRC.out.mono ?_; rintro e w5 ⟨rfl, hb5⟩; refine Hid.out ?_)
      refine Lib.hid ?_
      have hb6 := below_then hbV hb5
      have hwr6 := below_then HWR.out hb6
      have hsz6 := hwr6.size
      have hI6 := W12.own_keep HIr.out hb6
      have HLK : Hid ((W12.cellsS ((l.map lineR).take k)).length = k) := Lib.hid (by simp [W12.cellsS]; omega)
      clear HRC hbV hb5
      go_wp2_with (at_builtin; refine wpList_append_own _ rfl _ _ 42 rfl w1.heap.size 9 i0 (.string ⟨#[]⟩) 1 16 Tryz.underlying42 hi hz0 hz1 hz2 rfl (by decide) _ _ _ rfl (hI6.alloc _) ⟨w5.heap.size, 0, none⟩ 1 1 [.string T] rfl rfl ?c1 ?c2 ?c3 ?c4 ?c5 ?_)
      case c1 =>
        intro j u hj
        match j, hj with
        | 0, hj => simp at hj; subst hj; simp [Addr.add]
      case c2 => intro u hu; simp at hu; subst hu; rfl
      case c3 => unfold maxLen; omega
      case c4 => omega
      case c5 => simp; omega
      intro v' w7 hown' hgrow _
      have hB7 : Below w1.heap.size w1 w7 := ((hwr6.alloc (by omega) _).grown hgrow (by simp; omega) (fun j e => (hI6.lt j e).1))
      have HOW := Lib.hid hown'
      clear hgrow hI6 hown' hb6 hwr6
      go_wp2_with fail
      go_roundw
      case rel => exact ⟨k + 1, by omega, by go_num, by rw [HSN.out]; exact HOW.out, hB7⟩
      case measure => simp [intOf]; omega
    · obtain rfl : k = l.length := by omega
      have hS0 : W12.Strs _ (l.map lineR) wr := W12.strs_own (l := l.map lineR) (by rw [← List.length_map (f := lineR), List.take_length] at hI; exact hI)
      have HS0 := Lib.hid hS0
      have hE6 := HE.out.keep hwr
      have hy6 := keep_at hy1 hwr
      have hb7 := below_then hb1 hwr
      clear hI hS0 HC hy1 hb1 hwr
      go_wp2_with (go_at_call 57; refine (refNum_any _ _ _).mono ?_; rintro e w2 ⟨rfl, hb2⟩; refine Hid.out ?_)
      refine Lib.hid ?_
      have hb3 := below_then hb2 (below_alloc w2 (.cells (oneF ⟨#[99, 117, 114, 115, 111, 114]⟩ m) 54))
      have hrw := rows_lit (l := [numF nCursor m]) (new_at w2 (oneF ⟨#[99, 117, 114, 115, 111, 114]⟩ m) 54) 1
      have HRC := Lib.hid (refRecord_any _ _ F0 HF0.out _ (hE6.keep hb3) hrw (by simp) HO.out)
      clear hrw hb2
      go_wp2_with (go_at_call 55; refine HRC.out.mono ?_; rintro e w3 ⟨rfl, hb4⟩; refine Hid.out ?_)
      refine Lib.hid ?_
      have hb5 := below_then hb3 hb4
      have HPG := Lib.hid (refPage_any T0 _ (l.map lineR) w3 (HS0.out.keep hb5) (by omega) HLL.out (by rw [List.length_map]; omega) X HX.out)
      have hy8 := keep_at hy6 hb5
      clear hb3 hb4 HRC hTs0
      go_wp2_with (go_at_call 58; refine HPG.out.mono ?_; rintro e w5 ⟨rfl, hb8⟩; refine Hid.out ?_)
      refine Lib.hid ?_
      have hy9 := keep_at hy8 hb8
      have hb9 := below_then hb7 (below_then hb5 hb8)
      go_wp2_with (refine put_st rfl _ _ _ rfl w.heap.size #[.int .i64 200, .string X, .bool false] rfl rfl hy9 infoRp rfl (by simp [Value.oneCell']) ?_; intro w9 h1 h2 h3)
      exact bodyPost_ret (v := .agg #[.int .i64 200, .string X, .bool false]) (ret_st1 Tryz.results28 _ _ _ _ rfl (load_rp h1 rfl)) rfl ⟨rfl, hb9.trans h2⟩
end Go.Proofs.YtfkmgnldkmpeiaaGreatDoor.W20
