/-
  Walks of layer 12: the reference's Value and Write. Conditions: the library's table; the list's cells hold the fields.
  Walks of layer 12: the reference's Same at two equal lists. Conditions: the lists' cells hold the fields.
  Walks of layer 12: the reference's hex and Unescaped. Conditions: the text is within Go's own limit.
-/
import Derived.Test.YtfkmgnldkmpeiaaGreatDoorGaj
import Derived.Test.YtfkmgnldkmpeiaaGreatDoorGai
import Derived.Test.YtfkmgnldkmpeiaaGreatDoorGag
import Derived.Test.YtfkmgnldkmpeiaaGreatDoorGaf

namespace Go.Proofs.YtfkmgnldkmpeiaaGreatDoor.W12
open Go Go.RowKit P12
open Dig hiding By

def valT (f : Fld) : By := if f.text = true then 39 :: escL f.s else Lib.itoa f.n
set_option maxHeartbeats 1600000 in
set_option maxRecDepth 100000 in
theorem refValue_any (nm s : ByteArray) (t : Bool) (n : Int) (w : World) (hE : Env w) (hs : s.size ≤ 200) (h0 : -9223372036854775808 ≤ n) (h1 : n ≤ 9223372036854775807) (V : ByteArray) (hV : V.data.toList = valT ⟨nm.data.toList, t, n, s.data.toList⟩) :
    Calls Tryz.prog 118 #[.agg #[.string nm, .bool t, .int .i64 n, .string s]] w fun e w' => e = .returned (.string V) ∧ Below w.heap.size w w' := by
  have hb0 := below_alloc w (.cells #[.string nm, .bool t, .int .i64 n, .string s] 54)
  have hE1 := hE.keep hb0
  have hh := heap_new w (.cells #[.string nm, .bool t, .int .i64 n, .string s] 54)
  have z1 := Lib.cell_of_heap hh 1
  have z2 := Lib.cell_of_heap hh 2
  have z3 := Lib.cell_of_heap hh 3
  clear hh
  cases t with
  | true =>
    have hesc : ∀ W, Calls Tryz.prog 145 #[.string s] W fun e w' => e = .returned (.string ⟨(escL s.data.toList).toArray⟩) ∧ Below W.heap.size W w' := fun W => refEscaped_any s W (by omega)
    obtain ⟨X, hX⟩ : ∃ X : ByteArray, X = ⟨(escL s.data.toList).toArray⟩ := ⟨_, rfl⟩
    have hXs : X.size ≤ 600 := by rw [hX, size_mk]; have := escL_len s.data.toList; rw [size_data] at this; omega
    rw [← hX] at hesc
    have hVX : V = ⟨#[39]⟩ ++ X := by
      apply ba_ext
      rw [hV, ByteArray.data_append, Array.toList_append, hX]
      simp [valT]
    have hadd : ∀ w, (Op.stringOp .add ⟨#[39]⟩ X).run Tryz.prog w = .ok (.string V) w := fun w => by rw [hVX]; exact run_string_add_sum w ⟨#[39]⟩ X (by have : (⟨#[39]⟩ : ByteArray).size = 1 := rfl; omega)
    clear hV hX hVX
    go_enter Tryz.func118, Tryz.ntmps118
    go_wp2_with (go_at_call 145; refine (hesc _).mono ?_; rintro e w1 ⟨rfl, hb1⟩)
    go_ret
    exact ⟨rfl, below_then hb0 hb1⟩
  | false =>
    have hit : ∀ W, Env W → Calls Tryz.prog 83 #[.int .i64 n] W fun e w' => e = .returned (.string V) ∧ Below W.heap.size W w' := fun W hW =>
      (Tryz.strconv_Itoa n h0 h1 W hW.tab).mono fun e w' ⟨he, k, os, hw⟩ => ⟨he.trans (ret1 (vba (by rw [hV]; simp [valT]))), by rw [hw]; exact Proofs.below_grown W k os⟩
    clear hV
    go_enter Tryz.func118, Tryz.ntmps118
    go_wp2_with (go_at_call 83; refine (hit _ hE1).mono ?_; rintro e w1 ⟨rfl, hb1⟩)
    go_ret
    exact ⟨rfl, below_then hb0 hb1⟩

set_option maxHeartbeats 3200000 in
set_option maxRecDepth 100000 in
theorem refWrite_bad (v : Value) (r : List Fld) (w : World) (hr : Rows v r w) (hlen : r.length ≤ 4611686018427387904) (hc : checkL r ≠ 0) :
    Calls Tryz.prog 87 #[v] w fun e w' => e = .returned (.tuple #[bs (writeL r).1, .int .i64 (writeL r).2]) ∧ Below w.heap.size w w' := by
  have hcon := refCheck_any v r w hr hlen
  have HW := Lib.hid (show writeL r = ([], checkL r) by unfold writeL; rw [if_pos hc])
  rw [HW.out]
  obtain ⟨E, hE⟩ : ∃ E, E = checkL r := ⟨_, rfl⟩
  rw [← hE] at hcon hc ⊢
  have hEb : (E == 0) = false := by rw [beq_eq_false_iff_ne]; exact hc
  obtain ⟨o, c, rfl, -⟩ := hr
  clear hE hc
  go_enter Tryz.func87, Tryz.ntmps87
  go_wp2_with (go_at_call 17; refine hcon.mono ?_; rintro e w1 ⟨rfl, hb1⟩)
  go_ret2
  exact ⟨rfl, hb1⟩

set_option maxHeartbeats 3200000 in
set_option maxRecDepth 100000 in
theorem refWrite_ok (v : Value) (r : List Fld) (w : World) (hE : Env w) (hr : Rows v r w) (hrange : ∀ f ∈ r, rangeF f) (hc : checkL r = 0) :
    Calls Tryz.prog 87 #[v] w fun e w' => e = .returned (.tuple #[bs (writeL r).1, .int .i64 (writeL r).2]) ∧ Below w.heap.size w w' := by
  obtain ⟨hlen, hfields, _⟩ := (check_iff r).1 hc
  have hall : ∀ f ∈ r, fieldL f = 0 ∧ rangeF f := fun f hf => ⟨hfields f hf, hrange f hf⟩
  have hcon := refCheck_any v r w hr (by omega)
  have HW := Lib.hid (show writeL r = (textsL r, 0) by unfold writeL; rw [if_neg (by simp [hc])])
  rw [HW.out]
  rw [hc] at hcon
  obtain ⟨o, c, rfl, hcells⟩ := hr
  obtain ⟨N, hN⟩ : ∃ N, N = r.length := ⟨_, rfl⟩
  have htl := textsL_len hall
  rw [← hN] at hlen hcon htl ⊢
  have HN := Lib.hid hN
  have HALL := Lib.hid hall
  have HTL := Lib.hid htl
  clear hN hc hfields hrange hall htl
  go_enter Tryz.func87, Tryz.ntmps87
  go_wp2_with (go_at_call 17; refine hcon.mono ?_; rintro e w1 ⟨rfl, hb1⟩; refine Hid.out ?_)
  refine Lib.hid ?_
  go_wp2_with fail
  go_loopw [5, 6] (fun t i wr => ∃ (k : Nat) (T : ByteArray), k ≤ N ∧ t = .string T ∧ i = .int .i64 k ∧ Hid (T.data.toList = textsL (r.take k)) ∧ T.size ≤ k * 701 ∧ Below w.heap.size w wr) (fun _ i _ => N - (intOf i).toNat)
  case atStart => exact ⟨0, ⟨#[]⟩, by omega, rfl, rfl, Lib.hid rfl, Nat.le_refl _, hb1⟩
  case round =>
    obtain ⟨k, T, hk, rfl, rfl, HT, hTs, hB⟩ := hrel
    have hBs := hB.size
    by_cases hlt : k < N
    · have hkr : k < r.length := by rw [← HN.out]; exact hlt
      obtain ⟨f, hf⟩ : ∃ f, r[k]? = some f := ⟨r[k]'hkr, List.getElem?_eq_getElem hkr⟩
      obtain ⟨hfld, hrg⟩ := HALL.out f (List.mem_of_getElem? hf)
      obtain ⟨g, off, rfl, hcl⟩ := hcells.resolve_left (by intro e; rw [e] at hkr; simp at hkr)
      obtain ⟨c0, c1, c2, c3⟩ := hcl k f hf
      replace c0 := keep_cell hB c0
      replace c1 := keep_cell hB c1
      replace c2 := keep_cell hB c2
      replace c3 := keep_cell hB c3
      obtain ⟨fl1, fl2, fl3⟩ := (fieldL_iff f).1 hfld
      have hnl := nameL_len fl1
      have hnx := texts_next hf
      have htf := textF_len hfld hrg
      obtain ⟨a, ha⟩ : ∃ a : ByteArray, a = ⟨f.name.toArray⟩ := ⟨_, rfl⟩
      obtain ⟨s, hs⟩ : ∃ s : ByteArray, s = ⟨f.s.toArray⟩ := ⟨_, rfl⟩
      have had : a.data.toList = f.name := by rw [ha]
      have hsd : s.data.toList = f.s := by rw [hs]
      have has : a.size ≤ 32 := by rw [← size_data, had]; exact hnl
      have hss : s.size ≤ 200 := by
        rw [← size_data, hsd]
        cases ht : f.text with
        | true => exact (fl2 ht).2
        | false => rw [fl3 ht]; simp
      rw [show bs f.name = .string a by rw [ha]] at c0
      rw [show bs f.s = .string s by rw [hs]] at c3
      have hfe : f = ⟨a.data.toList, f.text, f.n, s.data.toList⟩ := by rw [had, hsd]
      obtain ⟨V, hV⟩ : ∃ V : ByteArray, V = ⟨(valT f).toArray⟩ := ⟨_, rfl⟩
      have hVd : V.data.toList = valT f := by rw [hV]
      have htF : textF f = f.name ++ (61 :: valT f) := rfl
      have hVs : V.size ≤ 700 := by
        rw [← size_data, hVd]
        have := htf
        rw [htF, List.length_append, List.length_cons] at this
        omega
      have hval := fun W hW => refValue_any a s f.text f.n W hW hss hrg.1 hrg.2 V (by rw [← hfe]; exact hVd)
      obtain ⟨T1, hT1⟩ : ∃ T1 : ByteArray, T1 = if k = 0 then T else T ++ ⟨#[38]⟩ := ⟨_, rfl⟩
      have hT1s : T1.size ≤ k * 701 + 1 := by
        rw [hT1]
        split
        · omega
        · rw [ByteArray.size_append]; have : (⟨#[38]⟩ : ByteArray).size = 1 := rfl; omega
      have hT1d : T1.data.toList = T.data.toList ++ (if k = 0 then [] else [38]) := by
        rw [hT1]
        split
        · simp
        · rw [ByteArray.data_append, Array.toList_append]
      obtain ⟨T2, hT2⟩ : ∃ T2 : ByteArray, T2 = T1 ++ a := ⟨_, rfl⟩
      obtain ⟨T3, hT3⟩ : ∃ T3 : ByteArray, T3 = T2 ++ ⟨#[61]⟩ := ⟨_, rfl⟩
      obtain ⟨T4, hT4⟩ : ∃ T4 : ByteArray, T4 = T3 ++ V := ⟨_, rfl⟩
      have s1 : (⟨#[61]⟩ : ByteArray).size = 1 := rfl
      have s2 : T2.size = T1.size + a.size := by rw [hT2, ByteArray.size_append]
      have s3 : T3.size = T2.size + 1 := by rw [hT3, ByteArray.size_append, s1]
      have a2 : ∀ w, (Op.stringOp .add T1 a).run Tryz.prog w = .ok (.string T2) w := fun w => by rw [hT2]; exact run_string_add_sum w T1 a (by omega)
      have a3 : ∀ w, (Op.stringOp .add T2 ⟨#[61]⟩).run Tryz.prog w = .ok (.string T3) w := fun w => by rw [hT3]; exact run_string_add_sum w T2 ⟨#[61]⟩ (by omega)
      have a4 : ∀ w, (Op.stringOp .add T3 V).run Tryz.prog w = .ok (.string T4) w := fun w => by rw [hT4]; exact run_string_add_sum w T3 V (by omega)
      have hd4 : T4.data.toList = textsL (r.take (k + 1)) := by
        rw [hnx, ← HT.out, hT4, hT3, hT2]
        simp only [ByteArray.data_append, Array.toList_append]
        rw [hT1d, had, hVd, htF]
        simp
      have hs4 : T4.size ≤ (k + 1) * 701 := by
        have h1 := HTL.out (k + 1) (by omega)
        rw [← hd4, size_data] at h1
        exact h1
      have a1 : k ≠ 0 → ∀ w, (Op.stringOp .add T ⟨#[38]⟩).run Tryz.prog w = .ok (.string T1) w := fun h w => by rw [hT1, if_neg h]; exact run_string_add_sum w T ⟨#[38]⟩ (by have : (⟨#[38]⟩ : ByteArray).size = 1 := rfl; omega)
      have hk1 : k = 0 → T1 = T := fun h => by rw [hT1, if_pos h]
      have HD4 := Lib.hid hd4
      have hlt' : (k : Int) < (N : Int) := by omega
      have hk0 : (0 : Int) ≤ (k : Int) := by omega
      have hEr : Env wr.drew := (hE.keep hB).keep (below_drewN wr 1)
      generalize f.text = tx at c1 hval
      generalize f.n = n at c2 hval
      clear hd4 hT1 hT2 hT3 hT4 hT1d hT1s s1 s2 s3 hVd hV htF hVs had hsd ha hs hfe hnx htf fl1 fl2 fl3 hf hcl hfld hrg hnl has hss
      by_cases hkz : k = 0
      · have hkI : ¬ (0 : Int) < (k : Int) := by omega
        have e1 := hk1 hkz
        subst e1
        clear hk1 a1 hkz
        go_wp2_with fail
        go_region_held3 (fun w' => w'.cell? ⟨g, off + k * 4, none⟩ = some (.string a) ∧ w'.cell? ⟨g, off + k * 4 + 1, none⟩ = some (.bool tx) ∧ w'.cell? ⟨g, off + k * 4 + 2, none⟩ = some (.int .i64 n) ∧ w'.cell? ⟨g, off + k * 4 + 3, none⟩ = some (.string s))
          (first
            | go_keep
            | (go_split_ands
               exact ⟨keep_cell (by assumption) (by assumption), keep_cell (by assumption) (by assumption), keep_cell (by assumption) (by assumption), keep_cell (by assumption) (by assumption)⟩))
          (first
            | (go_at_call 118; refine (hval _ ?_).mono ?_; (with_reducible assumption); rintro e w2 ⟨rfl, hb2⟩)
            | skip)
        go_wp2_with fail
        go_roundw
        case rel => exact ⟨k + 1, T4, by omega, rfl, by go_num, HD4, hs4, hB.trans ((below_then (below_drewN wr 1) hb2).mono hBs)⟩
        case measure => simp [intOf]; omega
      · have hkI : (0 : Int) < (k : Int) := by omega
        have e1 := a1 hkz
        clear hk1 a1 hkz
        go_wp2_with fail
        go_region_held3 (fun w' => w'.cell? ⟨g, off + k * 4, none⟩ = some (.string a) ∧ w'.cell? ⟨g, off + k * 4 + 1, none⟩ = some (.bool tx) ∧ w'.cell? ⟨g, off + k * 4 + 2, none⟩ = some (.int .i64 n) ∧ w'.cell? ⟨g, off + k * 4 + 3, none⟩ = some (.string s))
          (first
            | go_keep
            | (go_split_ands
               exact ⟨keep_cell (by assumption) (by assumption), keep_cell (by assumption) (by assumption), keep_cell (by assumption) (by assumption), keep_cell (by assumption) (by assumption)⟩))
          (first
            | (go_at_call 118; refine (hval _ ?_).mono ?_; (with_reducible assumption); rintro e w2 ⟨rfl, hb2⟩)
            | skip)
        go_wp2_with fail
        go_roundw
        case rel => exact ⟨k + 1, T4, by omega, rfl, by go_num, HD4, hs4, hB.trans ((below_then (below_drewN wr 1) hb2).mono hBs)⟩
        case measure => simp [intOf]; omega
    · obtain rfl : k = N := by omega
      have hd : T.data.toList = textsL r := by rw [HT.out, List.take_of_length_le (by rw [← HN.out]; exact Nat.le_refl _)]
      have HD := Lib.hid hd
      clear hd
      go_wp2_with fail
      go_ret2
      exact ⟨by rw [← HD.out, bs_data]; rfl, hB⟩
end Go.Proofs.YtfkmgnldkmpeiaaGreatDoor.W12

namespace Go.Proofs.YtfkmgnldkmpeiaaGreatDoor.W12
open Go Go.RowKit P12

set_option maxRecDepth 100000 in
set_option maxHeartbeats 1600000 in
theorem Same_full (g1 o1 c1 g2 o2 c2 n : Nat) (l : List Fld) (w : World) (hn : l.length = n) (hm : n ≤ 4611686018427387904)
    (h1 : ∀ (j : Nat) (f : Fld), l[j]? = some f → w.cell? ⟨g1, o1 + j * 4, none⟩ = some (bs f.name) ∧ w.cell? ⟨g1, o1 + j * 4 + 1, none⟩ = some (.bool f.text) ∧ w.cell? ⟨g1, o1 + j * 4 + 2, none⟩ = some (.int .i64 f.n) ∧ w.cell? ⟨g1, o1 + j * 4 + 3, none⟩ = some (bs f.s))
    (h2 : ∀ (j : Nat) (f : Fld), l[j]? = some f → w.cell? ⟨g2, o2 + j * 4, none⟩ = some (bs f.name) ∧ w.cell? ⟨g2, o2 + j * 4 + 1, none⟩ = some (.bool f.text) ∧ w.cell? ⟨g2, o2 + j * 4 + 2, none⟩ = some (.int .i64 f.n) ∧ w.cell? ⟨g2, o2 + j * 4 + 3, none⟩ = some (bs f.s)) :
    Calls Tryz.prog 19 #[.slice (some ⟨g1, o1, none⟩) n c1, .slice (some ⟨g2, o2, none⟩) n c2] w fun e w' => e = .returned (.bool true) ∧ Below w.heap.size w w' := by
  have H1 := Lib.hid h1
  have H2 := Lib.hid h2
  have HN := Lib.hid hn
  clear h1 h2 hn
  go_enter Tryz.func19, Tryz.ntmps19
  go_wp2_with fail
  go_loopw [5] (fun i wr => ∃ k d : Nat, k ≤ n ∧ i = .int .i64 k ∧ wr = w.drewN d) (fun i _ => n - (intOf i).toNat)
  case atStart => exact ⟨0, 0, by omega, rfl, rfl⟩
  case round =>
    obtain ⟨k, d, hk, rfl, rfl⟩ := hrel
    by_cases hlt : k < n
    · obtain ⟨r, hr⟩ : ∃ r, l[k]? = some r := ⟨l[k]'(by rw [HN.out]; exact hlt), List.getElem?_eq_getElem _⟩
      obtain ⟨a0, a1, a2, a3⟩ := H1.out k r hr
      obtain ⟨b0, b1, b2, b3⟩ := H2.out k r hr
      have hk0 : (0 : Int) ≤ (k : Int) := by omega
      have hk1 : (k : Int) < (n : Int) := by omega
      clear hr
      go_wp2_with fail
      go_quiet (fail)
      rw [World.drewN_drewN]
      go_wp2_with fail
      go_roundw
      case rel => exact ⟨k + 1, _, by omega, by go_num, rfl⟩
      case measure => simp [intOf]; omega
    · obtain rfl : k = n := by omega
      go_wp2_with fail
      go_ret
      exact ⟨rfl, below_drewN w d⟩
set_option maxRecDepth 100000 in
theorem Same_none (o1 o2 : Option Addr) (c1 c2 : Nat) (w : World) :
    Calls Tryz.prog 19 #[.slice o1 0 c1, .slice o2 0 c2] w fun e w' => e = .returned (.bool true) ∧ Below w.heap.size w w' := by
  go_enter Tryz.func19, Tryz.ntmps19
  go_wp2_with fail
  refine wp_loop_rounds 1 ?_
  rw [rounds_succ]
  go_wp2_with fail
  go_ret
  exact ⟨rfl, Below.refl _ _⟩
theorem Same_any (v1 v2 : Value) (l : List Fld) (w : World) (hm : l.length ≤ 4611686018427387904) (h1 : Rows v1 l w) (h2 : Rows v2 l w) :
    Calls Tryz.prog 19 #[v1, v2] w fun e w' => e = .returned (.bool true) ∧ Below w.heap.size w w' := by
  obtain ⟨o1, c1, rfl, h1⟩ := h1
  obtain ⟨o2, c2, rfl, h2⟩ := h2
  rcases h1 with rfl | ⟨g1, f1, rfl, h1⟩
  · exact Same_none o1 o2 c1 c2 w
  · rcases h2 with rfl | ⟨g2, f2, rfl, h2⟩
    · exact Same_none _ o2 c1 c2 w
    · exact Same_full g1 f1 c1 g2 f2 c2 l.length l w rfl hm h1 h2
end Go.Proofs.YtfkmgnldkmpeiaaGreatDoor.W12

namespace Go.Proofs.YtfkmgnldkmpeiaaGreatDoor.W12
open Go Go.RowKit P12

def hexI (n : Nat) : Int := match hexN n with
  | some v => (v : Int)
  | none => -1
set_option maxHeartbeats 1000000 in
theorem refHex_any (c : UInt8) (C : Int) (hC : C = c.toNat) (w : World) :
    Calls Tryz.prog 127 #[.int .u8 C] w fun e w' => e = .returned (.int .i64 (hexI c.toNat)) ∧ Below w.heap.size w w' := by
  have hn := c.toNat_lt
  generalize c.toNat = n at hC hn ⊢
  subst hC
  have hcase : n < 48 ∨ (48 ≤ n ∧ n ≤ 57) ∨ (57 < n ∧ n < 65) ∨ (65 ≤ n ∧ n ≤ 70) ∨ (70 < n ∧ n < 97) ∨ (97 ≤ n ∧ n ≤ 102) ∨ 102 < n := by omega
  obtain ⟨R, hR⟩ : ∃ R, R = hexI n := ⟨_, rfl⟩
  rw [← hR]
  rcases hcase with h | h | h | h | h | h | h
  · have hv : R = -1 := by rw [hR]; unfold hexI hexN; rw [if_neg (by omega), if_neg (by omega), if_neg (by omega)]
    subst hv
    clear hR
    go_enter Tryz.func127, Tryz.ntmps127
    go_wp2_with fail
    go_ret
    exact ⟨rfl, Below.refl _ _⟩
  · have hv : R = ((n - 48 : Nat) : Int) := by rw [hR]; unfold hexI hexN; rw [if_pos (by omega)]
    subst hv
    clear hR
    have h1 : IntKind.u8.wrap ((n : Int) - 48) = (n : Int) - 48 := wraps_u8 _ (by omega) (by omega)
    go_enter Tryz.func127, Tryz.ntmps127
    go_wp2_with fail
    go_ret
    first | exact ⟨rfl, Below.refl _ _⟩ | (refine ⟨ret1 (vint ?_), Below.refl _ _⟩; first | omega | (simp <;> omega))
  · have hv : R = -1 := by rw [hR]; unfold hexI hexN; rw [if_neg (by omega), if_neg (by omega), if_neg (by omega)]
    subst hv
    clear hR
    go_enter Tryz.func127, Tryz.ntmps127
    go_wp2_with fail
    go_ret
    exact ⟨rfl, Below.refl _ _⟩
  · have hv : R = ((n - 55 : Nat) : Int) := by rw [hR]; unfold hexI hexN; rw [if_neg (by omega), if_neg (by omega), if_pos (by omega)]
    subst hv
    clear hR
    have h1 : IntKind.u8.wrap ((n : Int) - 65) = (n : Int) - 65 := wraps_u8 _ (by omega) (by omega)
    go_enter Tryz.func127, Tryz.ntmps127
    go_wp2_with fail
    go_ret
    first | exact ⟨rfl, Below.refl _ _⟩ | (refine ⟨ret1 (vint ?_), Below.refl _ _⟩; first | omega | (simp <;> omega))
  · have hv : R = -1 := by rw [hR]; unfold hexI hexN; rw [if_neg (by omega), if_neg (by omega), if_neg (by omega)]
    subst hv
    clear hR
    go_enter Tryz.func127, Tryz.ntmps127
    go_wp2_with fail
    go_ret
    exact ⟨rfl, Below.refl _ _⟩
  · have hv : R = ((n - 87 : Nat) : Int) := by rw [hR]; unfold hexI hexN; rw [if_neg (by omega), if_pos (by omega)]
    subst hv
    clear hR
    have h1 : IntKind.u8.wrap ((n : Int) - 97) = (n : Int) - 97 := wraps_u8 _ (by omega) (by omega)
    go_enter Tryz.func127, Tryz.ntmps127
    go_wp2_with fail
    go_ret
    first | exact ⟨rfl, Below.refl _ _⟩ | (refine ⟨ret1 (vint ?_), Below.refl _ _⟩; first | omega | (simp <;> omega))
  · have hv : R = -1 := by rw [hR]; unfold hexI hexN; rw [if_neg (by omega), if_neg (by omega), if_neg (by omega)]
    subst hv
    clear hR
    go_enter Tryz.func127, Tryz.ntmps127
    go_wp2_with fail
    go_ret
    exact ⟨rfl, Below.refl _ _⟩

set_option maxHeartbeats 3200000 in
set_option maxRecDepth 100000 in
theorem refUnescaped_any (s : ByteArray) (w : World) (hs : s.size ≤ 140737488355328) :
    Calls Tryz.prog 97 #[.string s] w fun e w' => e = .returned (unescEnd (unescL s.data.toList)) ∧ Below w.heap.size w w' := by
  obtain ⟨i0, hi, hz0, hz1, hz2⟩ := info_parts infoByte
  go_enter Tryz.func97, Tryz.ntmps97
  go_wp2_with fail
  go_loopw [4, 5] (fun v i wr => ∃ (k : Nat) (acc : By), k ≤ s.size ∧ i = .int .i64 k ∧ acc.length ≤ k ∧ wr.ownsRow w.heap.size 5 1 v acc.length (Lib.byteCells acc) ∧ Below w.heap.size w wr ∧ Hid (unescL s.data.toList = (unescL (s.data.toList.drop k)).map (acc ++ ·))) (fun _ i _ => s.size - (intOf i).toNat)
  case atStart => exact ⟨0, [], by omega, rfl, by simp, World.ownsRow_nil _ _ _ _, Below.refl _ _, Lib.hid (by simp)⟩
  case round =>
    obtain ⟨k, acc, hk, rfl, hal, hI, hB, hunH⟩ := hrel
    have hun := hunH.out
    clear hunH
    have hBs := hB.size
    by_cases hlt : k < s.size
    · have hlt' : (k : Int) < (s.size : Int) := by omega
      by_cases hp : plainC (s[k]'hlt) = true
      · have hnx : unescL s.data.toList = (unescL (s.data.toList.drop (k + 1))).map ((acc ++ [s[k]'hlt]) ++ ·) := by
          rw [hun, get_drop s k hlt, unesc_plain hp, Option.map_map]
          congr 1
          funext x
          simp
        have HNX := Lib.hid hnx
        have hcon := fun W => refPlain_any (s[k]'hlt) _ rfl W
        rw [hp] at hcon
        clear hp hnx hun
        go_wp2_with (go_at_call 126; refine (hcon _).mono ?_; rintro e w1 ⟨rfl, hb1⟩; refine Hid.out ?_)
        refine Lib.hid ?_
        have hI1 := own_keep hI hb1
        have hs1 := hb1.size
        go_wp2_with (at_builtin; refine wpList_append_own _ rfl _ _ 79 rfl w.heap.size 5 i0 (.int .u8 0) 1 1 Tryz.underlying79 hi hz0 hz1 hz2 rfl (by decide) _ _ _ rfl (hI1.alloc _) ⟨w1.heap.size, 0, none⟩ 1 1 [.int .u8 ((s[k]'hlt).toNat : Nat)] rfl rfl ?c1 ?c2 ?c3 ?c4 ?c5 ?_)
        case c1 =>
          intro j u hj
          match j, hj with
          | 0, hj => simp at hj; subst hj; simp [Addr.add]
        case c2 => intro u hu; simp at hu; subst hu; rfl
        case c3 => unfold maxLen; omega
        case c4 => omega
        case c5 => simp; omega
        intro v' w2 hown' hgrow _
        have hB2 : Below w.heap.size w w2 := (((hB.trans (hb1.mono hBs)).alloc (by omega) _).grown hgrow (by simp; omega) (fun j e => (hI1.lt j e).1))
        clear hgrow hI1
        go_wp2_with fail
        go_roundw
        case rel => exact ⟨k + 1, acc ++ [s[k]'hlt], by omega, by go_num, by simp; omega, by rw [Lib.byteCells_append, List.length_append]; exact hown', hB2, HNX⟩
        case measure => simp [intOf]; omega
      · have hp' : plainC (s[k]'hlt) = false := by simpa using hp
        have hcon := fun W => refPlain_any (s[k]'hlt) _ rfl W
        rw [hp'] at hcon
        by_cases h37 : s[k]'hlt = 37
        · have hz : (((s[k]'hlt).toNat : Int) != 37) = false := by rw [h37]; rfl
          by_cases h2 : k + 2 < s.size
          · have h2' : (k : Int) + 2 < (s.size : Int) := by omega
            have hd := drop_two s k h2
            rw [h37] at hd
            have hun2 : unescL s.data.toList = (match hexP 0 [s[k + 1]'(by omega), s[k + 2]'h2] with | some u => (unescL (s.data.toList.drop (k + 3))).map (u.toUInt8 :: ·) | none => none).map (acc ++ ·) := by
              rw [hun, hd, unesc_two]
              rfl
            rw [hexP_two, hexV_nat, hexV_nat] at hun2
            have k1 : k + 1 < s.size := by omega
            have hx1 := fun W => refHex_any (s[k + 1]'k1) _ rfl W
            have hx2 := fun W => refHex_any (s[k + 2]'h2) _ rfl W
            clear hun hd h37 hp
            unfold hexI at hx1 hx2
            cases ha : hexN (s[k + 1]'k1).toNat with
            | none =>
              rw [ha] at hun2 hx1
              simp only [Option.map_none] at hun2
              have HN := Lib.hid hun2
              obtain ⟨Y, hY⟩ : ∃ Y : Int, Y = (match hexN (s[k + 2]'h2).toNat with | some v => (v : Int) | none => -1) := ⟨_, rfl⟩
              rw [← hY] at hx2
              clear hun2 ha hY hp'
              go_wp2_with (first
                | (go_at_call 126; refine (hcon _).mono ?_; rintro e w1 ⟨rfl, hb1⟩)
                | (go_at_call 127; refine (hx1 _).mono ?_; rintro e w2 ⟨rfl, hb2⟩; refine Hid.out ?_))
              refine Lib.hid ?_
              have hb12 := below_then hb1 hb2
              go_wp2_with (go_at_call 127; refine (hx2 _).mono ?_; rintro e w3 ⟨rfl, hb3⟩)
              go_ret2
              exact ⟨by rw [HN.out]; rfl, hB.trans ((below_then hb12 hb3).mono hBs)⟩
            | some x =>
              have hxlt := hexN_lt ha
              rw [ha] at hun2 hx1
              simp only at hx1
              have hx0 : ¬ ((x : Int) < 0) := by omega
              cases hb : hexN (s[k + 2]'h2).toNat with
              | none =>
                rw [hb] at hun2 hx2
                simp only [Option.map_none] at hun2
                have HN := Lib.hid hun2
                clear hun2 ha hb hp'
                go_wp2_with (first
                  | (go_at_call 126; refine (hcon _).mono ?_; rintro e w1 ⟨rfl, hb1⟩)
                  | (go_at_call 127; refine (hx1 _).mono ?_; rintro e w2 ⟨rfl, hb2⟩; refine Hid.out ?_))
                refine Lib.hid ?_
                have hb12 := below_then hb1 hb2
                go_wp2_with (go_at_call 127; refine (hx2 _).mono ?_; rintro e w3 ⟨rfl, hb3⟩)
                go_ret2
                exact ⟨by rw [HN.out]; rfl, hB.trans ((below_then hb12 hb3).mono hBs)⟩
              | some y =>
                have hylt := hexN_lt hb
                rw [hb] at hun2 hx2
                simp only [Option.map_map] at hun2
                simp only at hx2
                have hnx : unescL s.data.toList = (unescL (s.data.toList.drop (k + 2 + 1))).map ((acc ++ [(16 * x + y).toUInt8]) ++ ·) := by
                  rw [hun2]
                  congr 1
                  funext z
                  simp
                have HNX := Lib.hid hnx
                obtain ⟨u, hu⟩ : ∃ u, u = 16 * x + y := ⟨_, rfl⟩
                have hu256 : u < 256 := by omega
                rw [← hu] at HNX
                have hwu : IntKind.u8.wrap (16 * (x : Int) + (y : Int)) = (u : Int) := by rw [wraps_u8 _ (by omega) (by omega)]; omega
                have hu8 : (u : Int) = (u.toUInt8.toNat : Int) := by simp; omega
                have hy0 : ¬ ((y : Int) < 0) := by omega
                have HU8 := Lib.hid hu8
                clear hun2 ha hb hnx hp' hu hu8
                go_wp2_with (first
                  | (go_at_call 126; refine (hcon _).mono ?_; rintro e w1 ⟨rfl, hb1⟩)
                  | (go_at_call 127; refine (hx1 _).mono ?_; rintro e w2 ⟨rfl, hb2⟩; refine Hid.out ?_))
                refine Lib.hid ?_
                have hb12 := below_then hb1 hb2
                go_wp2_with (go_at_call 127; refine (hx2 _).mono ?_; rintro e w3 ⟨rfl, hb3⟩; refine Hid.out ?_)
                refine Lib.hid ?_
                have hb13 := below_then hb12 hb3
                have hI1 := own_keep hI hb13
                have hs1 := hb13.size
                go_wp2_with (at_builtin; refine wpList_append_own _ rfl _ _ 79 rfl w.heap.size 5 i0 (.int .u8 0) 1 1 Tryz.underlying79 hi hz0 hz1 hz2 rfl (by decide) _ _ _ rfl (hI1.alloc _) ⟨w3.heap.size, 0, none⟩ 1 1 [.int .u8 (u : Int)] rfl rfl ?c1 ?c2 ?c3 ?c4 ?c5 ?_)
                case c1 =>
                  intro j v hj
                  match j, hj with
                  | 0, hj => simp at hj; subst hj; simp [Addr.add]
                case c2 => intro v hv; simp at hv; subst hv; rfl
                case c3 => unfold maxLen; omega
                case c4 => omega
                case c5 => simp; omega
                intro v' w4 hown' hgrow _
                have hB2 : Below w.heap.size w w4 := (((hB.trans (hb13.mono hBs)).alloc (by omega) _).grown hgrow (by simp; omega) (fun j e => (hI1.lt j e).1))
                clear hgrow hI1
                rw [HU8.out] at hown'
                go_wp2_with fail
                go_roundw
                case rel => exact ⟨k + 2 + 1, acc ++ [u.toUInt8], by omega, by go_num, by simp; omega, by rw [Lib.byteCells_append, List.length_append]; exact hown', hB2, HNX⟩
                case measure => simp [intOf]; omega
          · have hN : unescL s.data.toList = none := by
              rw [hun, get_drop s k hlt, h37]
              have hl : (s.data.toList.drop (k + 1)).length ≤ 1 := by rw [List.length_drop, size_data]; omega
              cases hd : s.data.toList.drop (k + 1) with
              | nil => rw [unesc_short0]; rfl
              | cons a l =>
                cases l with
                | nil => rw [unesc_short1]; rfl
                | cons b l => rw [hd] at hl; simp at hl
            have HN := Lib.hid hN
            have h2' : ¬ ((k : Int) + 2 < (s.size : Int)) := by omega
            clear hp hp' hun h37 hN
            go_wp2_with (go_at_call 126; refine (hcon _).mono ?_; rintro e w1 ⟨rfl, hb1⟩; refine Hid.out ?_)
            refine Lib.hid ?_
            go_wp2_with fail
            go_ret2
            exact ⟨by rw [HN.out]; rfl, hB.trans (hb1.mono hBs)⟩
        · have hN : unescL s.data.toList = none := by
            rw [hun, get_drop s k hlt, unesc_none hp' h37]
            rfl
          have hz : (((s[k]'hlt).toNat : Int) != 37) = true := by
            rw [bne_iff_ne]
            intro e
            apply h37
            apply UInt8.toNat_inj.1
            have : ((37 : UInt8).toNat) = 37 := rfl
            omega
          have HN := Lib.hid hN
          clear hp hp' hun h37 hN
          go_wp2_with (go_at_call 126; refine (hcon _).mono ?_; rintro e w1 ⟨rfl, hb1⟩; refine Hid.out ?_)
          refine Lib.hid ?_
          go_wp2_with fail
          go_ret2
          exact ⟨by rw [HN.out]; rfl, hB.trans (hb1.mono hBs)⟩
    · obtain rfl : k = s.size := by omega
      rw [List.drop_eq_nil_of_le (by rw [size_data]; exact Nat.le_refl _), unesc_nil] at hun
      have HUN := Lib.hid hun
      have hconv := conv_own hI
      clear hun
      go_wp2_with fail
      go_ret2
      exact ⟨by rw [HUN.out]; simp [unescEnd], hB⟩
end Go.Proofs.YtfkmgnldkmpeiaaGreatDoor.W12
