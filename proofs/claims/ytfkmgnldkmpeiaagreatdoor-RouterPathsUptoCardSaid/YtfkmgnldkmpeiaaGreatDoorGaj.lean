/-
  Walks of layer 12: Write. Conditions: the library's table; the list's cells hold the fields.
  Walks of layer 12: what is wrong with a field, in the reference. Conditions: none.
  Walks of layer 12: the reference's Check. Conditions: the list's cells hold the fields.
-/
import Derived.Test.YtfkmgnldkmpeiaaGreatDoorGai
import Derived.Test.YtfkmgnldkmpeiaaGreatDoorGae
import Derived.Test.YtfkmgnldkmpeiaaGreatDoorGaf

namespace Go.Proofs.YtfkmgnldkmpeiaaGreatDoor.W12
open Go Go.RowKit P12
open Dig hiding By

theorem textsL_snoc (l : List Fld) (f : Fld) : textsL (l ++ [f]) = textsL l ++ ((if l = [] then [] else [38]) ++ textF f) := by
  unfold textsL
  rw [List.map_append, List.flatten_append]
  cases l with
  | nil => simp
  | cons g l => simp
theorem texts_next {r : List Fld} {k : Nat} {f : Fld} (h : r[k]? = some f) : textsL (r.take (k + 1)) = textsL (r.take k) ++ ((if k = 0 then [] else [38]) ++ textF f) := by
  have hlt := (List.getElem?_eq_some_iff.1 h).1
  rw [List.take_add_one, h]
  show textsL (r.take k ++ [f]) = _
  rw [textsL_snoc]
  have : (r.take k = []) = (k = 0) := by
    rw [List.take_eq_nil_iff]
    simp
    intro e
    rw [e] at hlt
    simp at hlt
  simp only [this]
theorem nameL_len {s : By} (h : nameL s = true) : s.length ≤ 32 := by
  unfold nameL at h
  split at h
  · cases h
  · simp only [Bool.and_eq_true, decide_eq_true_eq] at h
    exact h.1.1
theorem textF_len {f : Fld} (h : fieldL f = 0) (hr : rangeF f) : (textF f).length ≤ 700 := by
  obtain ⟨h1, h2, h3⟩ := (fieldL_iff f).1 h
  have hn := nameL_len h1
  unfold textF
  cases ht : f.text with
  | true =>
    have := escL_len f.s
    have := (h2 ht).2
    simp
    omega
  | false =>
    have := Lib.itoa_length_le f.n hr.1 hr.2
    simp
    omega
theorem textsL_len : ∀ {r : List Fld}, (∀ f ∈ r, fieldL f = 0 ∧ rangeF f) → ∀ k, k ≤ r.length → (textsL (r.take k)).length ≤ k * 701
  | r, h, 0, _ => by simp [textsL]
  | r, h, k + 1, hk => by
    have ih := textsL_len h k (by omega)
    have hf : r[k]? = some (r[k]'(by omega)) := List.getElem?_eq_getElem (by omega)
    obtain ⟨h1, h2⟩ := h (r[k]'(by omega)) (List.getElem_mem _)
    have := textF_len h1 h2
    rw [texts_next hf, List.length_append, List.length_append]
    split <;> simp <;> omega
/-- A block of a field's four cells stays what it is while a builder is written. -/
theorem box_kept {b k : Nat} {w w' : World} {cs : Array Value} (h : Lib.OthersKept 5 (some b) w w') (hk : w.heap[k]? = some (.cells cs 54 (0, 0))) (hb : k ≠ b) : w'.heap[k]? = some (.cells cs 54 (0, 0)) :=
  h k _ hk (by simpa using hb) (by intro c fz e; injection e with _ e2 _; exact absurd e2 (by decide))

set_option maxHeartbeats 3200000 in
set_option maxRecDepth 100000 in
theorem Write_bad (v : Value) (r : List Fld) (w : World) (hr : Rows v r w) (hlen : r.length ≤ 4611686018427387904) (hc : checkL r ≠ 0) :
    Calls Tryz.prog 80 #[v] w fun e w' => e = .returned (.tuple #[bs (writeL r).1, .int .i64 (writeL r).2]) ∧ Below w.heap.size w w' := by
  have hcon := Check_any v r w hr hlen
  have HW := Lib.hid (show writeL r = ([], checkL r) by unfold writeL; rw [if_pos hc])
  rw [HW.out]
  obtain ⟨E, hE⟩ : ∃ E, E = checkL r := ⟨_, rfl⟩
  rw [← hE] at hcon hc ⊢
  have hEb : (E == 0) = false := by rw [beq_eq_false_iff_ne]; exact hc
  obtain ⟨o, c, rfl, -⟩ := hr
  clear hE hc
  go_enter Tryz.func80, Tryz.ntmps80
  go_wp2_with (go_at_call 103; refine hcon.mono ?_; rintro e w1 ⟨rfl, hb1⟩)
  go_ret2
  exact ⟨rfl, hb1⟩

set_option maxHeartbeats 3200000 in
set_option maxRecDepth 100000 in
theorem Write_ok (v : Value) (r : List Fld) (w : World) (hE : Env w) (hr : Rows v r w) (hrange : ∀ f ∈ r, rangeF f) (hc : checkL r = 0) :
    Calls Tryz.prog 80 #[v] w fun e w' => e = .returned (.tuple #[bs (writeL r).1, .int .i64 (writeL r).2]) ∧ Below w.heap.size w w' := by
  obtain ⟨hlen, hfields, _⟩ := (check_iff r).1 hc
  have hall : ∀ f ∈ r, fieldL f = 0 ∧ rangeF f := fun f hf => ⟨hfields f hf, hrange f hf⟩
  have hcon := Check_any v r w hr (by omega)
  have HW := Lib.hid (show writeL r = (textsL r, 0) by unfold writeL; rw [if_neg (by simp [hc])])
  rw [HW.out]
  rw [hc] at hcon
  obtain ⟨o, c, rfl, hcells⟩ := hr
  obtain ⟨N, hN⟩ : ∃ N, N = r.length := ⟨_, rfl⟩
  have htl := textsL_len hall
  rw [← hN] at hlen hcon htl ⊢
  have HN := Lib.hid hN
  have HALL := Lib.hid hall
  have HTL := Lib.hid htl
  clear hN hc hfields hrange hall htl
  go_enter Tryz.func80, Tryz.ntmps80
  go_wp2_with (go_at_call 103; refine hcon.mono ?_; rintro e w1 ⟨rfl, hb1⟩; refine Hid.out ?_)
  refine Lib.hid ?_
  go_wp2_with fail
  go_loopw [15] (fun i wr => ∃ k : Nat, k ≤ N ∧ i = .int .i64 k ∧ Bld w1.heap.size w1.heap.size (textsL (r.take k)) wr ∧ Below w1.heap.size w1 wr) (fun i _ => N - (intOf i).toNat)
  case atStart => exact ⟨0, by omega, rfl, fresh_bld w1, below_alloc _ _⟩
  case round =>
    obtain ⟨k, hk, rfl, hI, hB⟩ := hrel
    have hBs := hB.size
    by_cases hlt : k < N
    · have hkr : k < r.length := by rw [← HN.out]; exact hlt
      obtain ⟨f, hf⟩ : ∃ f, r[k]? = some f := ⟨r[k]'hkr, List.getElem?_eq_getElem hkr⟩
      obtain ⟨hfld, hrg⟩ := HALL.out f (List.mem_of_getElem? hf)
      obtain ⟨g, off, rfl, hcl⟩ := hcells.resolve_left (by intro e; rw [e] at hkr; simp at hkr)
      obtain ⟨c0, c1, c2, c3⟩ := hcl k f hf
      have hww := hb1.trans (hB.mono hb1.size)
      replace c0 := keep_cell hww c0
      replace c1 := keep_cell hww c1
      replace c2 := keep_cell hww c2
      replace c3 := keep_cell hww c3
      obtain ⟨fl1, fl2, fl3⟩ := (fieldL_iff f).1 hfld
      have hnl := nameL_len fl1
      have hnx := texts_next hf
      have htl := HTL.out k (by omega)
      have htf := textF_len hfld hrg
      obtain ⟨a, ha⟩ : ∃ a : ByteArray, a = ⟨f.name.toArray⟩ := ⟨_, rfl⟩
      obtain ⟨s, hs⟩ : ∃ s : ByteArray, s = ⟨f.s.toArray⟩ := ⟨_, rfl⟩
      have had : a.data.toList = f.name := by rw [ha]
      have hsd : s.data.toList = f.s := by rw [hs]
      have has : a.size ≤ 32 := by rw [← size_data, had]; exact hnl
      have hss : s.size ≤ 200 := by
        rw [← size_data, hsd]
        cases ht : f.text with
        | true => exact (fl2 ht).2
        | false => rw [fl3 ht]; simp
      rw [show bs f.name = .string a by rw [ha]] at c0
      rw [show bs f.s = .string s by rw [hs]] at c3
      obtain ⟨A, hA⟩ : ∃ A : ByteArray, A = a ++ ⟨#[61]⟩ := ⟨_, rfl⟩
      have hadd : ∀ w, (Op.stringOp .add a ⟨#[61]⟩).run Tryz.prog w = .ok (.string A) w := fun w => by rw [hA]; exact run_string_add_sum w a ⟨#[61]⟩ (by have : (⟨#[61]⟩ : ByteArray).size = 1 := rfl; omega)
      have hAd : A.data.toList = f.name ++ [61] := by rw [hA, ByteArray.data_append, Array.toList_append, had]
      have hAs : A.size ≤ 33 := by rw [← size_data, hAd]; simp; omega
      have HNX := Lib.hid hnx
      have HAD := Lib.hid hAd
      have HSD := Lib.hid hsd
      have HF := Lib.hid hf
      have hlt' : (k : Int) < (N : Int) := by omega
      obtain ⟨W1, hW1⟩ : ∃ W1, W1 = wr.alloc (.cells #[.string a, .bool f.text, .int .i64 f.n, .string s] 54) := ⟨_, rfl⟩
      have hbx : W1.heap[wr.heap.size]? = some (.cells #[.string a, .bool f.text, .int .i64 f.n, .string s] 54 (0, 0)) := by rw [hW1]; exact heap_new wr _
      have hbW : Below wr.heap.size wr W1 := by rw [hW1]; exact below_alloc wr _
      have hI1 := hI.keep hbW
      have hB1 := hB.trans (hbW.mono hBs)
      have hb0 : wr.heap.size ≠ w1.heap.size := by have := BuilderLt hI; omega
      have hEw := hE.keep hb1
      have hw1s := hb1.size
      generalize textsL (r.take k) = acc at hI1 htl HNX
      subst hW1
      clear hI hbW hA hnx hAd hf hcl fl1 fl2 fl3 hfld had ha hs hsd
      have hk01 : k = 0 ∨ k ≠ 0 := by omega
      cases ht : f.text with
      | true =>
        rw [ht] at hbx hI1 hB1 c1
        have hesc : ∀ W, Calls Tryz.prog 13 #[.string s] W fun e w' => e = .returned (.string ⟨(escL s.data.toList).toArray⟩) ∧ Below W.heap.size W w' := fun W => Escape_any s W (by omega)
        obtain ⟨X, hX⟩ : ∃ X : ByteArray, X = ⟨(escL s.data.toList).toArray⟩ := ⟨_, rfl⟩
        have hXs : X.size ≤ 600 := by rw [hX, size_mk]; have := escL_len s.data.toList; rw [size_data] at this; omega
        rw [← hX] at hesc
        obtain ⟨Z, hZ⟩ : ∃ Z : ByteArray, Z = ⟨#[39]⟩ ++ X := ⟨_, rfl⟩
        have hadd2 : ∀ w, (Op.stringOp .add ⟨#[39]⟩ X).run Tryz.prog w = .ok (.string Z) w := fun w => by rw [hZ]; exact run_string_add_sum w ⟨#[39]⟩ X (by have : (⟨#[39]⟩ : ByteArray).size = 1 := rfl; omega)
        have hZd : Z.data.toList = 39 :: escL f.s := by rw [hZ, ByteArray.data_append, Array.toList_append, hX, HSD.out]; simp
        have hZs : Z.size ≤ 601 := by
          rw [hZ, ByteArray.size_append]
          have : (⟨#[39]⟩ : ByteArray).size = 1 := rfl
          omega
        have HZ := Lib.hid hZd
        clear hX hZ hZd
        rcases hk01 with hk0 | hk0
        · -- the first field
          have hkI : ¬ (0 : Int) < (k : Int) := by omega
          have HK0 := Lib.hid hk0
          clear hk0
          · skip
            have y0 := Lib.cell_of_heap hbx 0
            have y1 := Lib.cell_of_heap hbx 1
            have y2 := Lib.cell_of_heap hbx 2
            have y3 := Lib.cell_of_heap hbx 3
            have hsz2 := hB1.size
            go_wp2_with (go_at_call 77; refine (WriteString_any w1.heap.size w1.heap.size acc A _ hI1 (by first | omega | (simp; omega)) hsz2).mono ?_; rintro e w3 ⟨rfl, hI3, hk3⟩; refine Hid.out ?_)
            refine Lib.hid ?_
            have hbx3 := box_kept hk3.2 hbx hb0
            have hB3 := hB1.trans hk3.1
            have hE3 := hEw.keep hB3
            have hsz3 := hB3.size
            replace y0 := Lib.cell_of_heap hbx3 0
            replace y1 := Lib.cell_of_heap hbx3 1
            replace y2 := Lib.cell_of_heap hbx3 2
            replace y3 := Lib.cell_of_heap hbx3 3
            go_wp2_with (go_at_call 13; refine (hesc _).mono ?_; rintro e w4 ⟨rfl, hb4⟩; refine Hid.out ?_)
            refine Lib.hid ?_
            have hI4 := hI3.keep hb4
            have hB4 := hB3.trans (hb4.mono hsz3)
            have hsz4 := hB4.size
            go_wp2_with (go_at_call 77; refine (WriteString_any w1.heap.size w1.heap.size (acc ++ A.data.toList) Z _ hI4 (by first | omega | (simp; omega)) hsz4).mono ?_; rintro e w5 ⟨rfl, hI5, hk5⟩; refine Hid.out ?_)
            refine Lib.hid ?_
            go_wp2_with fail
            go_roundw
            case rel =>
              have heq : acc ++ ((if k = 0 then [] else [38]) ++ textF f) = (acc ++ A.data.toList) ++ Z.data.toList := by
                rw [if_pos HK0.out, HAD.out, HZ.out]
                unfold textF
                rw [if_pos ht]
                simp
              exact ⟨k + 1, by omega, by go_num, by rw [HNX.out, heq]; exact hI5, hB4.trans hk5.1⟩
            case measure => simp [intOf]; omega
        · have hkI : (0 : Int) < (k : Int) := by omega
          · skip
            have y0 := Lib.cell_of_heap hbx 0
            have y1 := Lib.cell_of_heap hbx 1
            have y2 := Lib.cell_of_heap hbx 2
            have y3 := Lib.cell_of_heap hbx 3
            go_wp2_with (go_at_call 36; refine (WriteByte_any w1.heap.size w1.heap.size acc 38 38 rfl _ hI1 (by omega) (by first | omega | (simp; omega))).mono ?_; rintro e w2 ⟨rfl, hI2, hk2⟩; refine Hid.out ?_)
            refine Lib.hid ?_
            have hbx2 := box_kept hk2.2 hbx hb0
            have hB2 := hB1.trans hk2.1
            replace y0 := Lib.cell_of_heap hbx2 0
            replace y1 := Lib.cell_of_heap hbx2 1
            replace y2 := Lib.cell_of_heap hbx2 2
            replace y3 := Lib.cell_of_heap hbx2 3
            have hsz2 := hB2.size
            go_wp2_with (go_at_call 77; refine (WriteString_any w1.heap.size w1.heap.size (acc ++ [38]) A _ hI2 (by first | omega | (simp; omega)) hsz2).mono ?_; rintro e w3 ⟨rfl, hI3, hk3⟩; refine Hid.out ?_)
            refine Lib.hid ?_
            have hbx3 := box_kept hk3.2 hbx2 hb0
            have hB3 := hB2.trans hk3.1
            have hE3 := hEw.keep hB3
            have hsz3 := hB3.size
            replace y0 := Lib.cell_of_heap hbx3 0
            replace y1 := Lib.cell_of_heap hbx3 1
            replace y2 := Lib.cell_of_heap hbx3 2
            replace y3 := Lib.cell_of_heap hbx3 3
            go_wp2_with (go_at_call 13; refine (hesc _).mono ?_; rintro e w4 ⟨rfl, hb4⟩; refine Hid.out ?_)
            refine Lib.hid ?_
            have hI4 := hI3.keep hb4
            have hB4 := hB3.trans (hb4.mono hsz3)
            have hsz4 := hB4.size
            go_wp2_with (go_at_call 77; refine (WriteString_any w1.heap.size w1.heap.size ((acc ++ [38]) ++ A.data.toList) Z _ hI4 (by first | omega | (simp; omega)) hsz4).mono ?_; rintro e w5 ⟨rfl, hI5, hk5⟩; refine Hid.out ?_)
            refine Lib.hid ?_
            go_wp2_with fail
            go_roundw
            case rel =>
              have heq : acc ++ ((if k = 0 then [] else [38]) ++ textF f) = ((acc ++ [38]) ++ A.data.toList) ++ Z.data.toList := by
                rw [if_neg hk0, HAD.out, HZ.out]
                unfold textF
                rw [if_pos ht]
                simp
              exact ⟨k + 1, by omega, by go_num, by rw [HNX.out, heq]; exact hI5, hB4.trans hk5.1⟩
            case measure => simp [intOf]; omega
      | false =>
        rw [ht] at hbx hI1 hB1 c1
        have hit : ∀ W, Env W → Calls Tryz.prog 83 #[.int .i64 f.n] W fun e w' => e = .returned (.string ⟨(Lib.itoa f.n).toArray⟩) ∧ Below W.heap.size W w' := fun W hW =>
          (Tryz.strconv_Itoa f.n hrg.1 hrg.2 W hW.tab).mono fun e w' ⟨he, k, os, hw⟩ => ⟨he, by rw [hw]; exact Proofs.below_grown W k os⟩
        obtain ⟨X, hX⟩ : ∃ X : ByteArray, X = ⟨(Lib.itoa f.n).toArray⟩ := ⟨_, rfl⟩
        have hXs : X.size ≤ 21 := by rw [hX, size_mk]; exact Lib.itoa_length_le f.n hrg.1 hrg.2
        have hXd : X.data.toList = Lib.itoa f.n := by rw [hX]
        rw [← hX] at hit
        have HX := Lib.hid hXd
        clear hX hXd
        rcases hk01 with hk0 | hk0
        · have hkI : ¬ (0 : Int) < (k : Int) := by omega
          have HK0 := Lib.hid hk0
          clear hk0
          · skip
            have y0 := Lib.cell_of_heap hbx 0
            have y1 := Lib.cell_of_heap hbx 1
            have y2 := Lib.cell_of_heap hbx 2
            have y3 := Lib.cell_of_heap hbx 3
            have hsz2 := hB1.size
            go_wp2_with (go_at_call 77; refine (WriteString_any w1.heap.size w1.heap.size acc A _ hI1 (by first | omega | (simp; omega)) hsz2).mono ?_; rintro e w3 ⟨rfl, hI3, hk3⟩; refine Hid.out ?_)
            refine Lib.hid ?_
            have hbx3 := box_kept hk3.2 hbx hb0
            have hB3 := hB1.trans hk3.1
            have hE3 := hEw.keep hB3
            have hsz3 := hB3.size
            replace y0 := Lib.cell_of_heap hbx3 0
            replace y1 := Lib.cell_of_heap hbx3 1
            replace y2 := Lib.cell_of_heap hbx3 2
            replace y3 := Lib.cell_of_heap hbx3 3
            go_wp2_with (go_at_call 83; refine (hit _ hE3).mono ?_; rintro e w4 ⟨rfl, hb4⟩; refine Hid.out ?_)
            refine Lib.hid ?_
            have hI4 := hI3.keep hb4
            have hB4 := hB3.trans (hb4.mono hsz3)
            have hsz4 := hB4.size
            go_wp2_with (go_at_call 77; refine (WriteString_any w1.heap.size w1.heap.size (acc ++ A.data.toList) X _ hI4 (by first | omega | (simp; omega)) hsz4).mono ?_; rintro e w5 ⟨rfl, hI5, hk5⟩; refine Hid.out ?_)
            refine Lib.hid ?_
            go_wp2_with fail
            go_roundw
            case rel =>
              have heq : acc ++ ((if k = 0 then [] else [38]) ++ textF f) = (acc ++ A.data.toList) ++ X.data.toList := by
                rw [if_pos HK0.out, HAD.out, HX.out]
                unfold textF
                rw [if_neg (by simp [ht])]
                simp
              exact ⟨k + 1, by omega, by go_num, by rw [HNX.out, heq]; exact hI5, hB4.trans hk5.1⟩
            case measure => simp [intOf]; omega
        · have hkI : (0 : Int) < (k : Int) := by omega
          · skip
            have y0 := Lib.cell_of_heap hbx 0
            have y1 := Lib.cell_of_heap hbx 1
            have y2 := Lib.cell_of_heap hbx 2
            have y3 := Lib.cell_of_heap hbx 3
            go_wp2_with (go_at_call 36; refine (WriteByte_any w1.heap.size w1.heap.size acc 38 38 rfl _ hI1 (by omega) (by first | omega | (simp; omega))).mono ?_; rintro e w2 ⟨rfl, hI2, hk2⟩; refine Hid.out ?_)
            refine Lib.hid ?_
            have hbx2 := box_kept hk2.2 hbx hb0
            have hB2 := hB1.trans hk2.1
            replace y0 := Lib.cell_of_heap hbx2 0
            replace y1 := Lib.cell_of_heap hbx2 1
            replace y2 := Lib.cell_of_heap hbx2 2
            replace y3 := Lib.cell_of_heap hbx2 3
            have hsz2 := hB2.size
            go_wp2_with (go_at_call 77; refine (WriteString_any w1.heap.size w1.heap.size (acc ++ [38]) A _ hI2 (by first | omega | (simp; omega)) hsz2).mono ?_; rintro e w3 ⟨rfl, hI3, hk3⟩; refine Hid.out ?_)
            refine Lib.hid ?_
            have hbx3 := box_kept hk3.2 hbx2 hb0
            have hB3 := hB2.trans hk3.1
            have hE3 := hEw.keep hB3
            have hsz3 := hB3.size
            replace y0 := Lib.cell_of_heap hbx3 0
            replace y1 := Lib.cell_of_heap hbx3 1
            replace y2 := Lib.cell_of_heap hbx3 2
            replace y3 := Lib.cell_of_heap hbx3 3
            go_wp2_with (go_at_call 83; refine (hit _ hE3).mono ?_; rintro e w4 ⟨rfl, hb4⟩; refine Hid.out ?_)
            refine Lib.hid ?_
            have hI4 := hI3.keep hb4
            have hB4 := hB3.trans (hb4.mono hsz3)
            have hsz4 := hB4.size
            go_wp2_with (go_at_call 77; refine (WriteString_any w1.heap.size w1.heap.size ((acc ++ [38]) ++ A.data.toList) X _ hI4 (by first | omega | (simp; omega)) hsz4).mono ?_; rintro e w5 ⟨rfl, hI5, hk5⟩; refine Hid.out ?_)
            refine Lib.hid ?_
            go_wp2_with fail
            go_roundw
            case rel =>
              have heq : acc ++ ((if k = 0 then [] else [38]) ++ textF f) = ((acc ++ [38]) ++ A.data.toList) ++ X.data.toList := by
                rw [if_neg hk0, HAD.out, HX.out]
                unfold textF
                rw [if_neg (by simp [ht])]
                simp
              exact ⟨k + 1, by omega, by go_num, by rw [HNX.out, heq]; exact hI5, hB4.trans hk5.1⟩
            case measure => simp [intOf]; omega
    · obtain rfl : k = N := by omega
      rw [List.take_of_length_le (by rw [← HN.out]; exact Nat.le_refl _)] at hI
      go_wp2_with (go_at_call 38; refine (String_any w1.heap.size w1.heap.size _ _ hI (by omega)).mono ?_; rintro e w2 ⟨rfl, hb2, -⟩)
      go_ret2
      exact ⟨rfl, hb1.trans ((hB.trans hb2).mono hb1.size)⟩
end Go.Proofs.YtfkmgnldkmpeiaaGreatDoor.W12

namespace Go.Proofs.YtfkmgnldkmpeiaaGreatDoor.W12
open Go Go.RowKit P12

set_option maxHeartbeats 1600000 in
set_option maxRecDepth 100000 in
theorem refField_any (nm s : ByteArray) (t : Bool) (n : Int) (w : World) :
    Calls Tryz.prog 46 #[.agg #[.string nm, .bool t, .int .i64 n, .string s]] w fun e w' => e = .returned (.int .i64 (fieldL ⟨nm.data.toList, t, n, s.data.toList⟩)) ∧ Below w.heap.size w w' := by
  have hname := fun W => refName_any nm W
  obtain ⟨R, hR⟩ : ∃ R, R = fieldL ⟨nm.data.toList, t, n, s.data.toList⟩ := ⟨_, rfl⟩
  rw [← hR]
  have hb0 := below_alloc w (.cells #[.string nm, .bool t, .int .i64 n, .string s] 54)
  have hh := heap_new w (.cells #[.string nm, .bool t, .int .i64 n, .string s] 54)
  have z0 := Lib.cell_of_heap hh 0
  have z1 := Lib.cell_of_heap hh 1
  have z2 := Lib.cell_of_heap hh 2
  have z3 := Lib.cell_of_heap hh 3
  clear hh
  cases hn : nameL nm.data.toList with
  | false =>
    have hv : R = 121 := by rw [hR]; unfold fieldL; rw [if_pos hn]
    rw [hn] at hname
    subst hv
    clear hR hn
    go_enter Tryz.func46, Tryz.ntmps46
    go_wp2_with (go_at_call 70; refine (hname _).mono ?_; rintro e w1 ⟨rfl, hb1⟩; replace z0 := keep_cell hb1 z0; replace z1 := keep_cell hb1 z1; replace z2 := keep_cell hb1 z2; replace z3 := keep_cell hb1 z3)
    go_ret
    exact ⟨rfl, below_then hb0 hb1⟩
  | true =>
    rw [hn] at hname
    have hR2 : R = if (t = true ∧ (n ≠ 0 ∨ 200 < s.size)) ∨ (t = false ∧ s.size ≠ 0) then 122 else 0 := by
      rw [hR]
      unfold fieldL
      rw [if_neg (by simp [hn])]
      simp only [size_data]
      have : s.data.toList ≠ [] ↔ s.size ≠ 0 := by
        constructor
        · intro h e; exact h (empty_list s e)
        · intro h e; apply h; rw [← size_data, e]; rfl
      simp only [this]
    clear hR hn
    cases t with
    | true =>
      by_cases hn0 : n = 0
      · have hq : (n != 0) = false := by rw [bne_eq_false_iff_eq]; exact hn0
        by_cases h200 : 200 < s.size
        · have hv : R = 122 := by rw [hR2, if_pos (.inl ⟨rfl, .inr h200⟩)]
          subst hv
          clear hR2 hn0
          go_enter Tryz.func46, Tryz.ntmps46
          go_wp2_with (go_at_call 70; refine (hname _).mono ?_; rintro e w1 ⟨rfl, hb1⟩; replace z0 := keep_cell hb1 z0; replace z1 := keep_cell hb1 z1; replace z2 := keep_cell hb1 z2; replace z3 := keep_cell hb1 z3)
          go_ret
          exact ⟨rfl, below_then hb0 hb1⟩
        · have hv : R = 0 := by rw [hR2, if_neg (by simp [hn0, h200])]
          subst hv
          clear hR2 hn0
          go_enter Tryz.func46, Tryz.ntmps46
          go_wp2_with (go_at_call 70; refine (hname _).mono ?_; rintro e w1 ⟨rfl, hb1⟩; replace z0 := keep_cell hb1 z0; replace z1 := keep_cell hb1 z1; replace z2 := keep_cell hb1 z2; replace z3 := keep_cell hb1 z3)
          go_ret
          exact ⟨rfl, below_then hb0 hb1⟩
      · have hq : (n != 0) = true := by rw [bne_iff_ne]; exact hn0
        have hv : R = 122 := by rw [hR2, if_pos (.inl ⟨rfl, .inl hn0⟩)]
        subst hv
        clear hR2 hn0
        go_enter Tryz.func46, Tryz.ntmps46
        go_wp2_with (go_at_call 70; refine (hname _).mono ?_; rintro e w1 ⟨rfl, hb1⟩; replace z0 := keep_cell hb1 z0; replace z1 := keep_cell hb1 z1; replace z2 := keep_cell hb1 z2; replace z3 := keep_cell hb1 z3)
        go_ret
        exact ⟨rfl, below_then hb0 hb1⟩
    | false =>
      by_cases h0 : s.size = 0
      · have hE := toList_nil s h0
        have hv : R = 0 := by rw [hR2, if_neg (by simp [h0])]
        subst hv
        clear hR2 h0
        go_enter Tryz.func46, Tryz.ntmps46
        go_wp2_with (go_at_call 70; refine (hname _).mono ?_; rintro e w1 ⟨rfl, hb1⟩; replace z0 := keep_cell hb1 z0; replace z1 := keep_cell hb1 z1; replace z2 := keep_cell hb1 z2; replace z3 := keep_cell hb1 z3)
        go_ret
        exact ⟨rfl, below_then hb0 hb1⟩
      · have hE := toList_cons s (by omega)
        have hv : R = 122 := by rw [hR2, if_pos (.inr ⟨rfl, h0⟩)]
        subst hv
        clear hR2 h0
        go_enter Tryz.func46, Tryz.ntmps46
        go_wp2_with (go_at_call 70; refine (hname _).mono ?_; rintro e w1 ⟨rfl, hb1⟩; replace z0 := keep_cell hb1 z0; replace z1 := keep_cell hb1 z1; replace z2 := keep_cell hb1 z2; replace z3 := keep_cell hb1 z3)
        go_ret
        exact ⟨rfl, below_then hb0 hb1⟩
end Go.Proofs.YtfkmgnldkmpeiaaGreatDoor.W12

namespace Go.Proofs.YtfkmgnldkmpeiaaGreatDoor.W12
open Go Go.RowKit P12


set_option maxHeartbeats 3200000 in
set_option maxRecDepth 100000 in
theorem refCheck_any (v : Value) (r : List Fld) (w : World) (hr : Rows v r w) (hlen : r.length ≤ 4611686018427387904) :
    Calls Tryz.prog 17 #[v] w fun e w' => e = .returned (.int .i64 (checkL r)) ∧ Below w.heap.size w w' := by
  obtain ⟨o, c, rfl, hcells⟩ := hr
  by_cases h16 : 16 < r.length
  · have HV := Lib.hid (show checkL r = 120 by unfold checkL; rw [if_pos h16])
    have h16' : (16 : Int) < (r.length : Int) := by omega
    rw [HV.out]
    clear hcells
    go_enter Tryz.func17, Tryz.ntmps17
    go_wp2_with fail
    go_ret
    exact ⟨rfl, Below.refl _ _⟩
  · have HV := Lib.hid (show checkL r = chk none r by unfold checkL; rw [if_neg h16])
    have h16' : ¬ (16 : Int) < (r.length : Int) := by omega
    obtain ⟨R, hR⟩ : ∃ R, R = checkL r := ⟨_, rfl⟩
    rw [← hR]
    have HR := Lib.hid hR
    clear hR
    obtain ⟨N, hN⟩ : ∃ N, N = r.length := ⟨_, rfl⟩
    rw [← hN] at h16 h16' hlen ⊢
    have HN := Lib.hid hN
    clear hN
    go_enter Tryz.func17, Tryz.ntmps17
    go_wp2_with fail
    go_loopw [3] (fun i wr => ∃ k : Nat, k ≤ N ∧ i = .int .i64 k ∧ Below w.heap.size w wr ∧ R = chk (prevN r k) (r.drop k)) (fun i _ => N - (intOf i).toNat)
    case atStart => exact ⟨0, by omega, rfl, Below.refl _ _, by rw [HR.out, HV.out]; rfl⟩
    case round =>
      obtain ⟨k, hk, rfl, hB, hres⟩ := hrel
      have hBs := hB.size
      by_cases hlt : k < N
      · have hkr : k < r.length := by rw [← HN.out]; exact hlt
        obtain ⟨f, hf⟩ : ∃ f, r[k]? = some f := ⟨r[k]'hkr, List.getElem?_eq_getElem hkr⟩
        have hdrop : r.drop k = f :: r.drop (k + 1) := by
          rw [List.drop_eq_getElem_cons hkr]
          congr 1
          rw [List.getElem?_eq_getElem hkr] at hf
          exact Option.some.inj hf
        rw [hdrop] at hres
        obtain ⟨g, off, rfl, hcl⟩ := hcells.resolve_left (by intro e; rw [e] at hkr; simp at hkr)
        obtain ⟨c0, c1, c2, c3⟩ := hcl k f hf
        replace c0 := keep_cell hB c0
        replace c1 := keep_cell hB c1
        replace c2 := keep_cell hB c2
        replace c3 := keep_cell hB c3
        obtain ⟨a, ha⟩ : ∃ a : ByteArray, a = ⟨f.name.toArray⟩ := ⟨_, rfl⟩
        obtain ⟨s, hs⟩ : ∃ s : ByteArray, s = ⟨f.s.toArray⟩ := ⟨_, rfl⟩
        have had : a.data.toList = f.name := by rw [ha]
        have hsd : s.data.toList = f.s := by rw [hs]
        rw [show bs f.name = .string a by rw [ha]] at c0
        rw [show bs f.s = .string s by rw [hs]] at c3
        have hfe : f = ⟨a.data.toList, f.text, f.n, s.data.toList⟩ := by rw [had, hsd]
        have hcon := fun W => refField_any a s f.text f.n W
        rw [← hfe] at hcon
        clear ha hs hsd hfe
        generalize f.text = tx at c1 hcon
        generalize f.n = n at c2 hcon
        have hlt' : (k : Int) < (N : Int) := by omega
        have hb1 := Below.refl wr.heap.size wr
        have HF := Lib.hid hf
        have HRES := Lib.hid hres
        have HCL := Lib.hid hcl
        have HAD := Lib.hid had
        clear hf hres hdrop hcells had hcl
        by_cases he : fieldL f = 0
        · rw [he] at hcon
          have hnx : prevN r (k + 1) = some f.name := by unfold prevN; rw [if_neg (by omega)]; simp [HF.out]
          have HNX := Lib.hid hnx
          have HE := Lib.hid he
          clear hnx he
          by_cases hk0 : k = 0
          · subst hk0
            simp only [Nat.zero_mul, Nat.add_zero] at c0 c1 c2 c3
            have hstep : R = chk (prevN r 1) (r.drop 1) := by
              rw [HRES.out, HNX.out]
              exact chk_none HE.out
            have HST := Lib.hid hstep
            clear hstep
            go_wp2_with (go_at_call 46; refine (hcon _).mono ?_; rintro e w2 ⟨rfl, hb2⟩; replace c0 := keep_cell hb2 c0; refine Hid.out ?_)
            refine Lib.hid ?_
            have hB2 := hB.trans ((below_then hb1 hb2).mono hBs)
            go_wp2_with fail
            go_quiet (fail)
            go_wp2_with fail
            go_roundw
            case rel => exact ⟨1, by omega, by go_num, hB2.trans (below_drewN _ _ |>.mono (by have := hB2.size; omega)), HST.out⟩
            case measure => simp [intOf]; omega
          · obtain ⟨p, rfl⟩ : ∃ p, k = p + 1 := ⟨k - 1, by omega⟩
            have hpr : p < r.length := by omega
            obtain ⟨f', hf'⟩ : ∃ f', r[p]? = some f' := ⟨r[p]'hpr, List.getElem?_eq_getElem hpr⟩
            have d0 := keep_cell hB (HCL.out p f' hf').1
            obtain ⟨b, hb⟩ : ∃ b : ByteArray, b = ⟨f'.name.toArray⟩ := ⟨_, rfl⟩
            have hbd : b.data.toList = f'.name := by rw [hb]
            rw [show bs f'.name = .string b by rw [hb]] at d0
            replace d0 := keep_cell hb1 d0
            have hpv : prevN r (p + 1) = some f'.name := by unfold prevN; rw [if_neg (by omega)]; simp [hf']
            have hp0 : (0 : Int) < (p : Int) + 1 := by omega
            have hstep : R = if f.name ≤ f'.name then 123 else chk (prevN r (p + 1 + 1)) (r.drop (p + 1 + 1)) := by
              rw [HRES.out, hpv, chk_some HE.out, HNX.out]
            have k1 : a.toList = f.name := by rw [Lib.toList_data]; exact HAD.out
            have k2 : b.toList = f'.name := by rw [Lib.toList_data]; exact hbd
            have HST := Lib.hid hstep
            have hpN : (p : Int) < (N : Int) := by omega
            clear hb hbd hpv hstep hf' hk0
            by_cases hle : f.name ≤ f'.name
            · have hv : R = 123 := by rw [HST.out, if_pos hle]
              have HVV := Lib.hid hv
              have hz : (Op.bytesLess a.toList b.toList || a.toList == b.toList) = true := by rw [k1, k2, bytesLeq]; simpa using hle
              have hz2 : Op.bytesLess a.toList b.toList = true ∨ (a.toList == b.toList) = true := by simpa using hz
              clear k1 k2 hle hv hz
              rcases hz2 with hz | hz
              all_goals
                go_wp2_with (go_at_call 46; refine (hcon _).mono ?_; rintro e w2 ⟨rfl, hb2⟩; replace c0 := keep_cell hb2 c0; replace d0 := keep_cell hb2 d0; refine Hid.out ?_)
                refine Lib.hid ?_
                have hB2 := hB.trans ((below_then hb1 hb2).mono hBs)
                go_wp2_with fail
                go_quiet (fail)
                go_wp2_with fail
                go_ret
                exact ⟨by rw [HVV.out]; rfl, hB2.trans (below_drewN _ _ |>.mono (by have := hB2.size; omega))⟩
            · have hv : R = chk (prevN r (p + 1 + 1)) (r.drop (p + 1 + 1)) := by rw [HST.out, if_neg hle]
              have HVV := Lib.hid hv
              have hz : (Op.bytesLess a.toList b.toList || a.toList == b.toList) = false := by rw [k1, k2, bytesLeq]; simpa using hle
              obtain ⟨hz1, hz2⟩ := Bool.or_eq_false_iff.1 hz
              clear k1 k2 hle hv hz
              go_wp2_with (go_at_call 46; refine (hcon _).mono ?_; rintro e w2 ⟨rfl, hb2⟩; replace c0 := keep_cell hb2 c0; replace d0 := keep_cell hb2 d0; refine Hid.out ?_)
              refine Lib.hid ?_
              have hB2 := hB.trans ((below_then hb1 hb2).mono hBs)
              go_wp2_with fail
              go_quiet (fail)
              go_wp2_with fail
              go_roundw
              case rel => exact ⟨p + 1 + 1, by omega, by go_num, hB2.trans (below_drewN _ _ |>.mono (by have := hB2.size; omega)), HVV.out⟩
              case measure => simp [intOf]; omega
        · obtain ⟨E, hE⟩ : ∃ E, E = fieldL f := ⟨_, rfl⟩
          have hv : R = E := by rw [HRES.out, chk_bad he, hE]
          rw [← hE] at hcon he
          have hEb : (E == 0) = false := by rw [beq_eq_false_iff_ne]; exact he
          have HVV := Lib.hid hv
          clear hv hE he
          go_wp2_with (go_at_call 46; refine (hcon _).mono ?_; rintro e w2 ⟨rfl, hb2⟩)
          go_ret
          exact ⟨by rw [HVV.out]; rfl, hB.trans ((below_then hb1 hb2).mono hBs)⟩
      · obtain rfl : k = N := by omega
        have hv : R = 0 := by
          rw [hres, List.drop_eq_nil_of_le (by rw [← HN.out]; exact Nat.le_refl _)]
          rfl
        have HVV := Lib.hid hv
        clear hv hres
        go_wp2_with fail
        go_ret
        exact ⟨by rw [HVV.out]; rfl, hB⟩
end Go.Proofs.YtfkmgnldkmpeiaaGreatDoor.W12
