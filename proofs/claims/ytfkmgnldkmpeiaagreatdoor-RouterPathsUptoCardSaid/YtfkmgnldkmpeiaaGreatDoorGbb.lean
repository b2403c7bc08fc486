/-
  Walks of layer 20: RouterStreams, RouterAnswers. Conditions: the library's error values and its variable MaxLen; what is told lies in its cells; its numbers are ints.
-/
import Derived.Test.YtfkmgnldkmpeiaaGreatDoorGaw
import Derived.Test.YtfkmgnldkmpeiaaGreatDoorGay
import Derived.Test.YtfkmgnldkmpeiaaGreatDoorGaz
import Derived.Test.YtfkmgnldkmpeiaaGreatDoorGba

namespace Go.Proofs.YtfkmgnldkmpeiaaGreatDoor.W20
open Go Go.RowKit P12 P18 P20 W12

set_option maxHeartbeats 3200000 in
set_option maxRecDepth 100000 in
theorem streams_law (v u : Value) (ns : List By) (vs : List Int) (w : World) (hE : Env w) (hM : MaxL w) (hr : W12.Strs v ns w) (hu : IntsV u vs w) (hlen : (ns.length + 1) * 16 ≤ 140737488355328) (hlen2 : vs.length ≤ 9223372036854775807) (hrange : ∀ x ∈ vs, -9223372036854775808 ≤ x ∧ x ≤ 9223372036854775807) :
    Calls Tryz.prog 7 #[v, u] w fun e w' => e = .returned (.bool true) ∧ Below w.heap.size w w' := by
  obtain ⟨X, hX⟩ : ∃ X : ByteArray, X.data.toList = streamsL ns vs := ⟨⟨(streamsL ns vs).toArray⟩, rfl⟩
  have H0 := Lib.hid (awake_any w hE hM)
  have H1 := Lib.hid (fun W hE hr hu => Streams_any v u ns vs W hE hr hu (by omega) hlen2 hrange X hX)
  have H2 := Lib.hid (fun W hE hr hu => refStreams_any v u ns vs W hE hr hu hlen hlen2 hrange X hX)
  have HE := Lib.hid hE
  have HR := Lib.hid hr
  have HU := Lib.hid hu
  clear hX hE hM hr hu hrange
  go_enter Tryz.func7, Tryz.ntmps7
  go_wp2_with (go_at_call 9; refine H0.out.mono ?_; rintro e w1 ⟨rfl, hb1⟩; refine Hid.out ?_)
  refine Lib.hid ?_
  have HC1 := Lib.hid (H1.out w1 (HE.out.keep hb1) (HR.out.keep hb1) (HU.out.keep hb1))
  go_wp2_with (go_at_call 20; refine HC1.out.mono ?_; rintro e w2 ⟨rfl, hb2⟩; refine Hid.out ?_)
  refine Lib.hid ?_
  have hbA := below_then hb1 hb2
  have HC2 := Lib.hid (H2.out w2 (HE.out.keep hbA) (HR.out.keep hbA) (HU.out.keep hbA))
  clear hb1 hb2 HC1 H0 H1 H2
  go_wp2_with (go_at_call 21; refine HC2.out.mono ?_; rintro e w3 ⟨rfl, hb3⟩; refine Hid.out ?_)
  refine Lib.hid ?_
  go_wp2_with fail
  go_ret
  exact ⟨rfl, below_then hbA hb3⟩
set_option maxHeartbeats 12000000 in
set_option maxRecDepth 100000 in
theorem answers_law (k f p c : Int) (R : ByteArray) (e : Int) (n : Int) (sv ev rv : Value) (ls : List Fld) (le : List En) (lr : List (By × Int)) (w : World) (hE : Env w) (hM : MaxL w)
    (hf : -9223372036854775808 ≤ f ∧ f ≤ 9223372036854775807) (hp : -9223372036854775808 ≤ p ∧ p ≤ 9223372036854775807) (hc : -9223372036854775808 ≤ c ∧ c ≤ 9223372036854775807) (he : -9223372036854775808 ≤ e ∧ e ≤ 9223372036854775807) (hn : -9223372036854775808 ≤ n ∧ n ≤ 9223372036854775807)
    (hs : W12.Rows sv ls w) (hsl : ls.length ≤ 4611686018427387904) (hsr : ∀ x ∈ ls, rangeF x)
    (hev : RowsE ev le w) (hel : (le.length + 1) * 16 ≤ 140737488355328) (her : ∀ x ∈ le, rangeE x ∧ x.fields.length ≤ 4611686018427387904)
    (hrv : RowsR rv lr w) (hrl : (lr.length + 1) * 16 ≤ 140737488355328) (hrr : ∀ x ∈ lr, -9223372036854775808 ≤ x.2 ∧ x.2 ≤ 9223372036854775807) :
    Calls Tryz.prog 8 #[.agg (dnC k f p c R e), .int .i64 n, sv, ev, rv] w fun e w' => e = .returned (.bool true) ∧ Below w.heap.size w w' := by
  obtain ⟨XA, hXA⟩ : ∃ X : ByteArray, X.data.toList = (answerL ⟨k, f, p, c, R.data.toList, e⟩).2 := ⟨⟨(answerL ⟨k, f, p, c, R.data.toList, e⟩).2.toArray⟩, rfl⟩
  obtain ⟨st, hst⟩ : ∃ st : Int, st = (answerL ⟨k, f, p, c, R.data.toList, e⟩).1 := ⟨_, rfl⟩
  obtain ⟨XS, hXS⟩ : ∃ X : ByteArray, X.data.toList = stateL n ls := ⟨⟨(stateL n ls).toArray⟩, rfl⟩
  obtain ⟨XE, hXE⟩ : ∃ X : ByteArray, X.data.toList = entriesL le := ⟨⟨(entriesL le).toArray⟩, rfl⟩
  obtain ⟨XR, hXR⟩ : ∃ X : ByteArray, X.data.toList = rowsL n lr := ⟨⟨(rowsL n lr).toArray⟩, rfl⟩
  obtain ⟨w1, hw1⟩ : ∃ w1, w1 = w.alloc (.cells (dnC k f p c R e) tDn) := ⟨_, rfl⟩
  have hb1 : Below w.heap.size w w1 := by rw [hw1]; exact below_alloc _ _
  have hx1 : StAt tDn w.heap.size (dnC k f p c R e) w1 := by rw [hw1]; exact new_at _ _ _
  have H0 := Lib.hid (awake_any w1 (hE.keep hb1) (hM.keep hb1))
  have A1 := Lib.hid (fun W hE => Answer_any k f p c R e W hE hf hp hc he XA hXA st hst)
  have A2 := Lib.hid (fun W hE => refAnswer_any k f p c R e W hE hf hp hc he XA hXA st hst)
  have S1 := Lib.hid (fun W hE hr => State_any n sv ls W hE hr hsl hsr hn XS hXS)
  have S2 := Lib.hid (fun W hE hr => refState_any n sv ls W hE hr hsl hsr hn XS hXS)
  have E1 := Lib.hid (fun W hE hr => Entries_any ev le W hE hr (by omega) her XE hXE)
  have E2 := Lib.hid (fun W hE hr => refEntries_any ev le W hE hr hel her XE hXE)
  have R1 := Lib.hid (fun W hE hr => Rows_any n rv lr W hE hr (by omega) hrr hn XR hXR)
  have R2 := Lib.hid (fun W hE hr => refRows_any n rv lr W hE hr hrl hrr hn XR hXR)
  have HE := Lib.hid (hE.keep hb1)
  have HS := Lib.hid (hs.keep hb1)
  have HEV := Lib.hid (hev.keep hb1)
  have HRV := Lib.hid (hrv.keep hb1)
  have HW := Lib.hid hw1
  rw [hw1] at H0
  clear hXA hst hXS hXE hXR hE hM hs hsr hev her hrv hrr hw1
  go_enter Tryz.func8, Tryz.ntmps8
  go_wp2_with (go_at_call 9; refine H0.out.mono ?_; rintro e w2 ⟨rfl, hb2⟩; refine Hid.out ?_)
  refine Lib.hid ?_
  rw [← HW.out] at hb2
  have hx2 := keep_at hx1 hb2
  have hE2 := HE.out.keep hb2
  have hbA := below_then hb1 hb2
  clear hx1 H0 hb1
  go_upto_region 2 with (fail)
  refine wp_region_tame 4 (fun V => Below w2.heap.size w2 V) (by kernel_rfl) (by kernel_rfl) ((Below.refl _ w2).drew) ?_
  simp only [List.take_succ_cons, List.take_zero, List.drop_succ_cons, List.drop_zero]
  refine Exists.intro (.agg (dnC k f p c R e)) (And.intro (Or.inl (And.intro (by rfl) (fun V hS => ?tg1))) ?_)
  case tg1 =>
    have hv := keep_at hx2 hS
    have g0 : V.cell? ⟨w.heap.size, 0, none⟩ = some (.int .i64 k) := Lib.cell_of_heap hv 0
    have g1 : V.cell? ⟨w.heap.size, 1, none⟩ = some (.int .i64 f) := Lib.cell_of_heap hv 1
    have g2 : V.cell? ⟨w.heap.size, 2, none⟩ = some (.int .i64 p) := Lib.cell_of_heap hv 2
    have g3 : V.cell? ⟨w.heap.size, 3, none⟩ = some (.int .i64 c) := Lib.cell_of_heap hv 3
    have g4 : V.cell? ⟨w.heap.size, 4, none⟩ = some (.string R) := Lib.cell_of_heap hv 4
    have g5 : V.cell? ⟨w.heap.size, 5, none⟩ = some (.int .i64 e) := Lib.cell_of_heap hv 5
    go_simp
    exact ⟨rfl, hS⟩
  simp only [Act.put, List.setIfInBounds_toArray, List.set_cons_zero, List.set_cons_succ]
  refine Exists.intro (.agg #[.int .i64 st, .string XA, .bool false]) (And.intro (Or.inl (And.intro (by rfl) (fun V hS => ?tg2))) ?_)
  case tg2 =>
    go_simp
    refine (A1.out _ (hE2.keep hS)).mono ?_
    rintro e w' ⟨rfl, hb⟩
    exact ⟨rfl, below_then hS hb⟩
  simp only [Act.put, List.setIfInBounds_toArray, List.set_cons_zero, List.set_cons_succ]
  refine Exists.intro (.agg (dnC k f p c R e)) (And.intro (Or.inl (And.intro (by rfl) (fun V hS => ?tg3))) ?_)
  case tg3 =>
    have hv := keep_at hx2 hS
    have g0 : V.cell? ⟨w.heap.size, 0, none⟩ = some (.int .i64 k) := Lib.cell_of_heap hv 0
    have g1 : V.cell? ⟨w.heap.size, 1, none⟩ = some (.int .i64 f) := Lib.cell_of_heap hv 1
    have g2 : V.cell? ⟨w.heap.size, 2, none⟩ = some (.int .i64 p) := Lib.cell_of_heap hv 2
    have g3 : V.cell? ⟨w.heap.size, 3, none⟩ = some (.int .i64 c) := Lib.cell_of_heap hv 3
    have g4 : V.cell? ⟨w.heap.size, 4, none⟩ = some (.string R) := Lib.cell_of_heap hv 4
    have g5 : V.cell? ⟨w.heap.size, 5, none⟩ = some (.int .i64 e) := Lib.cell_of_heap hv 5
    go_simp
    exact ⟨rfl, hS⟩
  simp only [Act.put, List.setIfInBounds_toArray, List.set_cons_zero, List.set_cons_succ]
  refine Exists.intro (.agg #[.int .i64 st, .string XA, .bool false]) (And.intro (Or.inl (And.intro (by rfl) (fun V hS => ?tg4))) ?_)
  case tg4 =>
    go_simp
    refine (A2.out _ (hE2.keep hS)).mono ?_
    rintro e w' ⟨rfl, hb⟩
    exact ⟨rfl, below_then hS hb⟩
  simp only [Act.put, List.setIfInBounds_toArray, List.set_cons_zero, List.set_cons_succ]
  intro w3 hb3
  have hbB := below_then hbA hb3
  have hcB := below_then hb2 hb3
  have HC := Lib.hid (S1.out w3 (HE.out.keep hcB) (HS.out.keep hcB))
  clear hb2 hb3 hbA hx2 A1 A2 S1
  go_wp2_with (go_at_call 24; refine HC.out.mono ?_; rintro e w4 ⟨rfl, hb4⟩; refine Hid.out ?_)
  refine Lib.hid ?_
  have hbC := below_then hbB hb4
  have hcC := below_then hcB hb4
  have HC2 := Lib.hid (S2.out w4 (HE.out.keep hcC) (HS.out.keep hcC))
  clear hb4 hbB hcB HC S2
  go_wp2_with (go_at_call 25; refine HC2.out.mono ?_; rintro e w5 ⟨rfl, hb5⟩; refine Hid.out ?_)
  refine Lib.hid ?_
  have hbD := below_then hbC hb5
  have hcD := below_then hcC hb5
  have HC := Lib.hid (E1.out w5 (HE.out.keep hcD) (HEV.out.keep hcD))
  clear hb5 hbC hcC HC2 E1
  go_wp2_with (go_at_call 15; refine HC.out.mono ?_; rintro e w6 ⟨rfl, hb6⟩; refine Hid.out ?_)
  refine Lib.hid ?_
  have hbE := below_then hbD hb6
  have hcE := below_then hcD hb6
  have HC2 := Lib.hid (E2.out w6 (HE.out.keep hcE) (HEV.out.keep hcE))
  clear hb6 hbD hcD HC E2
  go_wp2_with (go_at_call 26; refine HC2.out.mono ?_; rintro e w7 ⟨rfl, hb7⟩; refine Hid.out ?_)
  refine Lib.hid ?_
  have hbF := below_then hbE hb7
  have hcF := below_then hcE hb7
  have HC := Lib.hid (R1.out w7 (HE.out.keep hcF) (HRV.out.keep hcF))
  clear hb7 hbE hcE HC2 R1
  go_wp2_with (go_at_call 27; refine HC.out.mono ?_; rintro e w8 ⟨rfl, hb8⟩; refine Hid.out ?_)
  refine Lib.hid ?_
  have hbG := below_then hbF hb8
  have hcG := below_then hcF hb8
  have HC2 := Lib.hid (R2.out w8 (HE.out.keep hcG) (HRV.out.keep hcG))
  clear hb8 hbF hcF HC R2
  go_wp2_with (go_at_call 28; refine HC2.out.mono ?_; rintro e w9 ⟨rfl, hb9⟩; refine Hid.out ?_)
  refine Lib.hid ?_
  go_wp2_with fail
  go_ret
  exact ⟨rfl, below_then hbG hb9⟩
end Go.Proofs.YtfkmgnldkmpeiaaGreatDoor.W20
