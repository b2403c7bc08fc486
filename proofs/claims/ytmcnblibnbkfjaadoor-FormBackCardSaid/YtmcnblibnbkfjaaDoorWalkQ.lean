/-
  Walks of layer 12: the reference's Value and Write. Conditions: the library's table; the list's cells hold the fields.
-/
import Derived.Test.YtmcnblibnbkfjaaDoorWalkM
import Derived.Test.YtmcnblibnbkfjaaDoorWalkLr
namespace Go.Proofs.YtmcnblibnbkfjaaDoor.W12
open Go Go.RowKit P12
open Dig hiding By

def valT (f : Fld) : By := if f.text = true then 39 :: escL f.s else Lib.itoa f.n
set_option maxHeartbeats 1600000 in
set_option maxRecDepth 100000 in
theorem refValue_any (nm s : ByteArray) (t : Bool) (n : Int) (w : World) (hE : Env w) (hs : s.size ≤ 200) (h0 : -9223372036854775808 ≤ n) (h1 : n ≤ 9223372036854775807) (V : ByteArray) (hV : V.data.toList = valT ⟨nm.data.toList, t, n, s.data.toList⟩) :
    Calls Tryd.prog 20 #[.agg #[.string nm, .bool t, .int .i64 n, .string s]] w fun e w' => e = .returned (.string V) ∧ Below w.heap.size w w' := by
  have hb0 := below_alloc w (.cells #[.string nm, .bool t, .int .i64 n, .string s] 38)
  have hE1 := hE.keep hb0
  have hh := heap_new w (.cells #[.string nm, .bool t, .int .i64 n, .string s] 38)
  have z1 := Lib.cell_of_heap hh 1
  have z2 := Lib.cell_of_heap hh 2
  have z3 := Lib.cell_of_heap hh 3
  clear hh
  cases t with
  | true =>
    have hesc : ∀ W, Calls Tryd.prog 36 #[.string s] W fun e w' => e = .returned (.string ⟨(escL s.data.toList).toArray⟩) ∧ Below W.heap.size W w' := fun W => refEscaped_any s W (by omega)
    obtain ⟨X, hX⟩ : ∃ X : ByteArray, X = ⟨(escL s.data.toList).toArray⟩ := ⟨_, rfl⟩
    have hXs : X.size ≤ 600 := by rw [hX, size_mk]; have := escL_len s.data.toList; rw [size_data] at this; omega
    rw [← hX] at hesc
    have hVX : V = ⟨#[39]⟩ ++ X := by
      apply ba_ext
      rw [hV, ByteArray.data_append, Array.toList_append, hX]
      simp [valT]
    have hadd : ∀ w, (Op.stringOp .add ⟨#[39]⟩ X).run Tryd.prog w = .ok (.string V) w := fun w => by rw [hVX]; exact run_string_add_sum w ⟨#[39]⟩ X (by have : (⟨#[39]⟩ : ByteArray).size = 1 := rfl; omega)
    clear hV hX hVX
    go_enter Tryd.func20, Tryd.ntmps20
    go_wp2_with (go_at_call 36; refine (hesc _).mono ?_; rintro e w1 ⟨rfl, hb1⟩)
    go_ret
    exact ⟨rfl, below_then hb0 hb1⟩
  | false =>
    have hit : ∀ W, Env W → Calls Tryd.prog 18 #[.int .i64 n] W fun e w' => e = .returned (.string V) ∧ Below W.heap.size W w' := fun W hW =>
      (Tryd.strconv_Itoa n h0 h1 W hW.tab).mono fun e w' ⟨he, k, os, hw⟩ => ⟨he.trans (ret1 (vba (by rw [hV]; simp [valT]))), by rw [hw]; exact Proofs.below_grown W k os⟩
    clear hV
    go_enter Tryd.func20, Tryd.ntmps20
    go_wp2_with (go_at_call 18; refine (hit _ hE1).mono ?_; rintro e w1 ⟨rfl, hb1⟩)
    go_ret
    exact ⟨rfl, below_then hb0 hb1⟩

set_option maxHeartbeats 3200000 in
set_option maxRecDepth 100000 in
theorem refWrite_bad (v : Value) (r : List Fld) (w : World) (hr : Rows v r w) (hlen : r.length ≤ 4611686018427387904) (hc : checkL r ≠ 0) :
    Calls Tryd.prog 9 #[v] w fun e w' => e = .returned (.tuple #[bs (writeL r).1, .int .i64 (writeL r).2]) ∧ Below w.heap.size w w' := by
  have hcon := refCheck_any v r w hr hlen
  have HW := Lib.hid (show writeL r = ([], checkL r) by unfold writeL; rw [if_pos hc])
  rw [HW.out]
  obtain ⟨E, hE⟩ : ∃ E, E = checkL r := ⟨_, rfl⟩
  rw [← hE] at hcon hc ⊢
  have hEb : (E == 0) = false := by rw [beq_eq_false_iff_ne]; exact hc
  obtain ⟨o, c, rfl, -⟩ := hr
  clear hE hc
  go_enter Tryd.func9, Tryd.ntmps9
  go_wp2_with (go_at_call 11; refine hcon.mono ?_; rintro e w1 ⟨rfl, hb1⟩)
  go_ret2
  exact ⟨rfl, hb1⟩

set_option maxHeartbeats 3200000 in
set_option maxRecDepth 100000 in
theorem refWrite_ok (v : Value) (r : List Fld) (w : World) (hE : Env w) (hr : Rows v r w) (hrange : ∀ f ∈ r, rangeF f) (hc : checkL r = 0) :
    Calls Tryd.prog 9 #[v] w fun e w' => e = .returned (.tuple #[bs (writeL r).1, .int .i64 (writeL r).2]) ∧ Below w.heap.size w w' := by
  obtain ⟨hlen, hfields, _⟩ := (check_iff r).1 hc
  have hall : ∀ f ∈ r, fieldL f = 0 ∧ rangeF f := fun f hf => ⟨hfields f hf, hrange f hf⟩
  have hcon := refCheck_any v r w hr (by omega)
  have HW := Lib.hid (show writeL r = (textsL r, 0) by unfold writeL; rw [if_neg (by simp [hc])])
  rw [HW.out]
  rw [hc] at hcon
  obtain ⟨o, c, rfl, hcells⟩ := hr
  obtain ⟨N, hN⟩ : ∃ N, N = r.length := ⟨_, rfl⟩
  have htl := textsL_len hall
  rw [← hN] at hlen hcon htl ⊢
  have HN := Lib.hid hN
  have HALL := Lib.hid hall
  have HTL := Lib.hid htl
  clear hN hc hfields hrange hall htl
  go_enter Tryd.func9, Tryd.ntmps9
  go_wp2_with (go_at_call 11; refine hcon.mono ?_; rintro e w1 ⟨rfl, hb1⟩; refine Hid.out ?_)
  refine Lib.hid ?_
  go_wp2_with fail
  go_loopw [5, 6] (fun t i wr => ∃ (k : Nat) (T : ByteArray), k ≤ N ∧ t = .string T ∧ i = .int .i64 k ∧ Hid (T.data.toList = textsL (r.take k)) ∧ T.size ≤ k * 701 ∧ Below w.heap.size w wr) (fun _ i _ => N - (intOf i).toNat)
  case atStart => exact ⟨0, ⟨#[]⟩, by omega, rfl, rfl, Lib.hid rfl, Nat.le_refl _, hb1⟩
  case round =>
    obtain ⟨k, T, hk, rfl, rfl, HT, hTs, hB⟩ := hrel
    have hBs := hB.size
    by_cases hlt : k < N
    · have hkr : k < r.length := by rw [← HN.out]; exact hlt
      obtain ⟨f, hf⟩ : ∃ f, r[k]? = some f := ⟨r[k]'hkr, List.getElem?_eq_getElem hkr⟩
      obtain ⟨hfld, hrg⟩ := HALL.out f (List.mem_of_getElem? hf)
      obtain ⟨g, off, rfl, hcl⟩ := hcells.resolve_left (by intro e; rw [e] at hkr; simp at hkr)
      obtain ⟨c0, c1, c2, c3⟩ := hcl k f hf
      replace c0 := keep_cell hB c0
      replace c1 := keep_cell hB c1
      replace c2 := keep_cell hB c2
      replace c3 := keep_cell hB c3
      obtain ⟨fl1, fl2, fl3⟩ := (fieldL_iff f).1 hfld
      have hnl := nameL_len fl1
      have hnx := texts_next hf
      have htf := textF_len hfld hrg
      obtain ⟨a, ha⟩ : ∃ a : ByteArray, a = ⟨f.name.toArray⟩ := ⟨_, rfl⟩
      obtain ⟨s, hs⟩ : ∃ s : ByteArray, s = ⟨f.s.toArray⟩ := ⟨_, rfl⟩
      have had : a.data.toList = f.name := by rw [ha]
      have hsd : s.data.toList = f.s := by rw [hs]
      have has : a.size ≤ 32 := by rw [← size_data, had]; exact hnl
      have hss : s.size ≤ 200 := by
        rw [← size_data, hsd]
        cases ht : f.text with
        | true => exact (fl2 ht).2
        | false => rw [fl3 ht]; simp
      rw [show bs f.name = .string a by rw [ha]] at c0
      rw [show bs f.s = .string s by rw [hs]] at c3
      have hfe : f = ⟨a.data.toList, f.text, f.n, s.data.toList⟩ := by rw [had, hsd]
      obtain ⟨V, hV⟩ : ∃ V : ByteArray, V = ⟨(valT f).toArray⟩ := ⟨_, rfl⟩
      have hVd : V.data.toList = valT f := by rw [hV]
      have htF : textF f = f.name ++ (61 :: valT f) := rfl
      have hVs : V.size ≤ 700 := by
        rw [← size_data, hVd]
        have := htf
        rw [htF, List.length_append, List.length_cons] at this
        omega
      have hval := fun W hW => refValue_any a s f.text f.n W hW hss hrg.1 hrg.2 V (by rw [← hfe]; exact hVd)
      obtain ⟨T1, hT1⟩ : ∃ T1 : ByteArray, T1 = if k = 0 then T else T ++ ⟨#[38]⟩ := ⟨_, rfl⟩
      have hT1s : T1.size ≤ k * 701 + 1 := by
        rw [hT1]
        split
        · omega
        · rw [ByteArray.size_append]; have : (⟨#[38]⟩ : ByteArray).size = 1 := rfl; omega
      have hT1d : T1.data.toList = T.data.toList ++ (if k = 0 then [] else [38]) := by
        rw [hT1]
        split
        · simp
        · rw [ByteArray.data_append, Array.toList_append]
      obtain ⟨T2, hT2⟩ : ∃ T2 : ByteArray, T2 = T1 ++ a := ⟨_, rfl⟩
      obtain ⟨T3, hT3⟩ : ∃ T3 : ByteArray, T3 = T2 ++ ⟨#[61]⟩ := ⟨_, rfl⟩
      obtain ⟨T4, hT4⟩ : ∃ T4 : ByteArray, T4 = T3 ++ V := ⟨_, rfl⟩
      have s1 : (⟨#[61]⟩ : ByteArray).size = 1 := rfl
      have s2 : T2.size = T1.size + a.size := by rw [hT2, ByteArray.size_append]
      have s3 : T3.size = T2.size + 1 := by rw [hT3, ByteArray.size_append, s1]
      have a2 : ∀ w, (Op.stringOp .add T1 a).run Tryd.prog w = .ok (.string T2) w := fun w => by rw [hT2]; exact run_string_add_sum w T1 a (by omega)
      have a3 : ∀ w, (Op.stringOp .add T2 ⟨#[61]⟩).run Tryd.prog w = .ok (.string T3) w := fun w => by rw [hT3]; exact run_string_add_sum w T2 ⟨#[61]⟩ (by omega)
      have a4 : ∀ w, (Op.stringOp .add T3 V).run Tryd.prog w = .ok (.string T4) w := fun w => by rw [hT4]; exact run_string_add_sum w T3 V (by omega)
      have hd4 : T4.data.toList = textsL (r.take (k + 1)) := by
        rw [hnx, ← HT.out, hT4, hT3, hT2]
        simp only [ByteArray.data_append, Array.toList_append]
        rw [hT1d, had, hVd, htF]
        simp
      have hs4 : T4.size ≤ (k + 1) * 701 := by
        have h1 := HTL.out (k + 1) (by omega)
        rw [← hd4, size_data] at h1
        exact h1
      have a1 : k ≠ 0 → ∀ w, (Op.stringOp .add T ⟨#[38]⟩).run Tryd.prog w = .ok (.string T1) w := fun h w => by rw [hT1, if_neg h]; exact run_string_add_sum w T ⟨#[38]⟩ (by have : (⟨#[38]⟩ : ByteArray).size = 1 := rfl; omega)
      have hk1 : k = 0 → T1 = T := fun h => by rw [hT1, if_pos h]
      have HD4 := Lib.hid hd4
      have hlt' : (k : Int) < (N : Int) := by omega
      have hk0 : (0 : Int) ≤ (k : Int) := by omega
      have hEr : Env wr.drew := (hE.keep hB).keep (below_drewN wr 1)
      generalize f.text = tx at c1 hval
      generalize f.n = n at c2 hval
      clear hd4 hT1 hT2 hT3 hT4 hT1d hT1s s1 s2 s3 hVd hV htF hVs had hsd ha hs hfe hnx htf fl1 fl2 fl3 hf hcl hfld hrg hnl has hss
      by_cases hkz : k = 0
      · have hkI : ¬ (0 : Int) < (k : Int) := by omega
        have e1 := hk1 hkz
        subst e1
        clear hk1 a1 hkz
        go_wp2_with fail
        go_region_held3 (fun w' => w'.cell? ⟨g, off + k * 4, none⟩ = some (.string a) ∧ w'.cell? ⟨g, off + k * 4 + 1, none⟩ = some (.bool tx) ∧ w'.cell? ⟨g, off + k * 4 + 2, none⟩ = some (.int .i64 n) ∧ w'.cell? ⟨g, off + k * 4 + 3, none⟩ = some (.string s))
          (first
            | go_keep
            | (go_split_ands
               exact ⟨keep_cell (by assumption) (by assumption), keep_cell (by assumption) (by assumption), keep_cell (by assumption) (by assumption), keep_cell (by assumption) (by assumption)⟩))
          (first
            | (go_at_call 20; refine (hval _ ?_).mono ?_; (with_reducible assumption); rintro e w2 ⟨rfl, hb2⟩)
            | skip)
        go_wp2_with fail
        go_roundw
        case rel => exact ⟨k + 1, T4, by omega, rfl, by go_num, HD4, hs4, hB.trans ((below_then (below_drewN wr 1) hb2).mono hBs)⟩
        case measure => simp [intOf]; omega
      · have hkI : (0 : Int) < (k : Int) := by omega
        have e1 := a1 hkz
        clear hk1 a1 hkz
        go_wp2_with fail
        go_region_held3 (fun w' => w'.cell? ⟨g, off + k * 4, none⟩ = some (.string a) ∧ w'.cell? ⟨g, off + k * 4 + 1, none⟩ = some (.bool tx) ∧ w'.cell? ⟨g, off + k * 4 + 2, none⟩ = some (.int .i64 n) ∧ w'.cell? ⟨g, off + k * 4 + 3, none⟩ = some (.string s))
          (first
            | go_keep
            | (go_split_ands
               exact ⟨keep_cell (by assumption) (by assumption), keep_cell (by assumption) (by assumption), keep_cell (by assumption) (by assumption), keep_cell (by assumption) (by assumption)⟩))
          (first
            | (go_at_call 20; refine (hval _ ?_).mono ?_; (with_reducible assumption); rintro e w2 ⟨rfl, hb2⟩)
            | skip)
        go_wp2_with fail
        go_roundw
        case rel => exact ⟨k + 1, T4, by omega, rfl, by go_num, HD4, hs4, hB.trans ((below_then (below_drewN wr 1) hb2).mono hBs)⟩
        case measure => simp [intOf]; omega
    · obtain rfl : k = N := by omega
      have hd : T.data.toList = textsL r := by rw [HT.out, List.take_of_length_le (by rw [← HN.out]; exact Nat.le_refl _)]
      have HD := Lib.hid hd
      clear hd
      go_wp2_with fail
      go_ret2
      exact ⟨by rw [← HD.out, bs_data]; rfl, hB⟩
end Go.Proofs.YtmcnblibnbkfjaaDoor.W12
