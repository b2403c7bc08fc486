/-
  Walks of layer 12: the laws FormWrites and FormBack. Conditions: the library's error values and its table; the text is within Go's own limit.
-/
import Derived.Test.YtmcnblibnbkfjaaDoorWalkQ
import Derived.Test.YtmcnblibnbkfjaaDoorWalkP
import Derived.Test.YtmcnblibnbkfjaaDoorWalkN
namespace Go.Proofs.YtmcnblibnbkfjaaDoor.W12
open Go Go.RowKit P12
open Dig hiding By

theorem Write_any (v : Value) (r : List Fld) (w : World) (hE : Env w) (hr : Rows v r w) (hlen : r.length ≤ 4611686018427387904) (hrange : ∀ f ∈ r, rangeF f) :
    Calls Tryd.prog 8 #[v] w fun e w' => e = .returned (.tuple #[bs (writeL r).1, .int .i64 (writeL r).2]) ∧ Below w.heap.size w w' := by
  by_cases hc : checkL r = 0
  · exact Write_ok v r w hE hr hrange hc
  · exact Write_bad v r w hr hlen hc
theorem refWrite_any (v : Value) (r : List Fld) (w : World) (hE : Env w) (hr : Rows v r w) (hlen : r.length ≤ 4611686018427387904) (hrange : ∀ f ∈ r, rangeF f) :
    Calls Tryd.prog 9 #[v] w fun e w' => e = .returned (.tuple #[bs (writeL r).1, .int .i64 (writeL r).2]) ∧ Below w.heap.size w w' := by
  by_cases hc : checkL r = 0
  · exact refWrite_ok v r w hE hr hrange hc
  · exact refWrite_bad v r w hr hlen hc

set_option maxHeartbeats 1600000 in
set_option maxRecDepth 100000 in
theorem writes_law (v : Value) (r : List Fld) (w : World) (hE : Env w) (hr : Rows v r w) (hlen : r.length ≤ 4611686018427387904) (hrange : ∀ f ∈ r, rangeF f) :
    Calls Tryd.prog 4 #[v] w fun e w' => e = .returned (.bool true) ∧ Below w.heap.size w w' := by
  obtain ⟨X, hX⟩ : ∃ X : ByteArray, X = ⟨(writeL r).1.toArray⟩ := ⟨_, rfl⟩
  obtain ⟨E, hEE⟩ : ∃ E, E = (writeL r).2 := ⟨_, rfl⟩
  obtain ⟨C, hC⟩ : ∃ C, C = checkL r := ⟨_, rfl⟩
  have h1 := fun W hW hr => Write_any v r W hW hr hlen hrange
  have h2 := fun W hW hr => refWrite_any v r W hW hr hlen hrange
  have h3 := fun W hr => Check_any v r W hr hlen
  have h4 := fun W hr => refCheck_any v r W hr hlen
  unfold bs at h1 h2
  rw [← hX, ← hEE] at h1 h2
  rw [← hC] at h3 h4
  have HR := Lib.hid hr
  clear hX hEE hC hr
  go_enter Tryd.func4, Tryd.ntmps4
  go_wp2_with fail
  refine (awake_any _ hE).mono ?_
  rintro e w1 ⟨rfl, hb1⟩
  go_wp2_with fail
  refine (h1 w1 (hE.keep hb1) (HR.out.keep hb1)).mono ?_
  rintro e w2 ⟨rfl, hb2⟩
  have hb12 := below_then hb1 hb2
  go_wp2_with fail
  refine (h2 w2 (hE.keep hb12) (HR.out.keep hb12)).mono ?_
  rintro e w3 ⟨rfl, hb3⟩
  have hb13 := below_then hb12 hb3
  go_wp2_with fail
  refine (h3 w3 (HR.out.keep hb13)).mono ?_
  rintro e w4 ⟨rfl, hb4⟩
  have hb14 := below_then hb13 hb4
  go_wp2_with fail
  refine (h4 w4 (HR.out.keep hb14)).mono ?_
  rintro e w5 ⟨rfl, hb5⟩
  have hb15 := below_then hb14 hb5
  go_wp2_with fail
  go_ret
  exact ⟨rfl, hb15⟩

theorem write_size {r : List Fld} (hrange : ∀ f ∈ r, rangeF f) : (writeL r).1.length ≤ 20000 := by
  unfold writeL
  by_cases hc : checkL r = 0
  · rw [if_neg (by simp [hc])]
    obtain ⟨h1, h2, _⟩ := (check_iff r).1 hc
    have := textsL_len (r := r) (fun f hf => ⟨h2 f hf, hrange f hf⟩) r.length (Nat.le_refl _)
    rw [List.take_length] at this
    show (textsL r).length ≤ _
    omega
  · rw [if_pos hc]; simp

set_option maxHeartbeats 3200000 in
set_option maxRecDepth 100000 in
/-- What FormBack does behind its first half. -/
theorem back_law (v : Value) (r : List Fld) (text : ByteArray) (w : World) (hE : Env w) (hr : Rows v r w) (hlen : r.length ≤ 4611686018427387904) (hrange : ∀ f ∈ r, rangeF f) (htext : text.size ≤ 140737488355328) :
    Calls Tryd.prog 5 #[v, .string text] w fun e w' => e = .returned (.bool true) ∧ Below w.heap.size w w' := by
  obtain ⟨X, hX⟩ : ∃ X : ByteArray, X = ⟨(writeL r).1.toArray⟩ := ⟨_, rfl⟩
  have hXd : X.data.toList = (writeL r).1 := by rw [hX]
  have hXs : X.size ≤ 140737488355328 := by rw [← size_data, hXd]; have := write_size hrange; omega
  obtain ⟨E, hEE⟩ : ∃ E, E = (writeL r).2 := ⟨_, rfl⟩
  have h1 := fun W hW hr => Write_any v r W hW hr hlen hrange
  unfold bs at h1
  rw [← hX, ← hEE] at h1
  have hEc : E = 0 → checkL r = 0 := by
    intro h
    rw [hEE] at h
    unfold writeL at h
    split at h
    · rename_i hc; exact absurd h hc
    · rename_i hc; simpa using hc
  have h2 : E = 0 → ∀ W, Env W → Calls Tryd.prog 12 #[.string X] W fun e w' => ∃ v, e = .returned (.tuple #[v, .int .i64 0]) ∧ Rows v r w' ∧ Below W.heap.size W w' := by
    intro h W hW
    have := Read_any X W hW hXs
    rw [hXd, read_write (hEc h) hrange] at this
    exact this
  -- the second half
  obtain ⟨L, Ea, hL⟩ : ∃ L Ea, readL text.data.toList = (L, Ea) := ⟨_, _, rfl⟩
  have h3 := fun W hW => Read_any text W hW htext
  rw [hL] at h3
  simp only at h3
  have hbad : Ea ≠ 0 → L = [] := fun h => by have := read_bad (s := text.data.toList) (by rw [hL]; exact h); rw [hL] at this; exact this
  obtain ⟨k1, k2, k3⟩ := read_ok text.data.toList
  have k4 := read_check text.data.toList
  obtain ⟨k5, k6⟩ := read_write_read text.data.toList
  rw [hL] at k1 k2 k3 k4 k5 k6
  simp only at k1 k2 k3 k4 k5 k6
  obtain ⟨Y, hY⟩ : ∃ Y : ByteArray, Y = ⟨(writeL L).1.toArray⟩ := ⟨_, rfl⟩
  have hYd : Y.data.toList = (writeL L).1 := by rw [hY]
  have hYs : Y.size ≤ 140737488355328 := by rw [← size_data, hYd]; have := write_size (fun f hf => (k2 f hf).2); omega
  have h4 := fun va W hW hr => Write_any va L W hW hr (by omega) (fun f hf => (k2 f hf).2)
  unfold bs at h4
  rw [← hY, k6] at h4
  have h5 := fun W hW => Read_any Y W hW hYs
  rw [hYd, k5] at h5
  simp only at h5
  have h6 := fun va vb W ha hb => Same_any va vb L W (by omega) ha hb
  have h7 := fun va W ha => Check_any va L W ha (by omega)
  rw [k4] at h7
  have h8 := fun va vb W ha hb => Same_any va vb r W hlen ha hb
  have HR := Lib.hid hr
  have H3 := Lib.hid h3
  have H4 := Lib.hid h4
  have H5 := Lib.hid h5
  have H6 := Lib.hid h6
  have H7 := Lib.hid h7
  have H8 := Lib.hid h8
  have H2 := Lib.hid h2
  have HBAD := Lib.hid hbad
  have hL16 : L.length ≤ 16 := k1
  clear hX hXd hXs hEE hEc h2 h3 h4 h5 h6 h7 h8 hL hbad k1 k2 k3 k4 k5 k6 hY hYd hYs hr
  go_enter Tryd.func5, Tryd.ntmps5
  go_wp2_with fail
  refine (awake_any _ hE).mono ?_
  rintro e w1 ⟨rfl, hb1⟩
  go_wp2_with fail
  refine (h1 w1 (hE.keep hb1) (HR.out.keep hb1)).mono ?_
  rintro e w2 ⟨rfl, hb2⟩
  have hb12 := below_then hb1 hb2
  by_cases hE0 : E = 0
  · have h2 := H2.out hE0
    subst hE0
    go_wp2_with fail
    refine (h2 w2 (hE.keep hb12)).mono ?_
    rintro e w3 ⟨v3, rfl, hr3, hb3⟩
    have hb13 := below_then hb12 hb3
    go_wp2_with fail
    refine (H8.out v3 v w3 hr3 (HR.out.keep hb13)).mono ?_
    rintro e w4 ⟨rfl, hb4⟩
    have hb14 := below_then hb13 hb4
    clear hr3
    go_wp2_with fail
    refine (H3.out w4 (hE.keep hb14)).mono ?_
    rintro e w5 ⟨v5, rfl, hr5, hb5⟩
    have hb15 := below_then hb14 hb5
    by_cases ha0 : Ea = 0
    · subst ha0
      go_wp2_with fail
      refine (H4.out v5 w5 (hE.keep hb15) hr5).mono ?_
      rintro e w6 ⟨rfl, hb6⟩
      have hb16 := below_then hb15 hb6
      go_wp2_with fail
      refine (H5.out w6 (hE.keep hb16)).mono ?_
      rintro e w7 ⟨v7, rfl, hr7, hb7⟩
      have hb17 := below_then hb16 hb7
      have hr57 := (hr5.keep hb6).keep hb7
      go_wp2_with fail
      refine (H6.out v5 v7 w7 hr57 hr7).mono ?_
      rintro e w8 ⟨rfl, hb8⟩
      have hb18 := below_then hb17 hb8
      have hr58 := hr57.keep hb8
      clear hr5 hr57 hr7
      go_wp2_with fail
      refine (H7.out v5 w8 hr58).mono ?_
      rintro e w9 ⟨rfl, hb9⟩
      have hb19 := below_then hb18 hb9
      go_wp2_with fail
      go_ret
      exact ⟨rfl, hb19⟩
    · have haB : (Ea == 0) = false := by rw [beq_eq_false_iff_ne]; exact ha0
      obtain rfl := HBAD.out ha0
      obtain ⟨o5, c5, rfl, -⟩ := hr5
      clear ha0
      go_wp2_with fail
      go_ret
      exact ⟨rfl, hb15⟩
  · have hEB : (E == 0) = false := by rw [beq_eq_false_iff_ne]; exact hE0
    clear hE0
    go_wp2_with fail
    refine (H3.out w2 (hE.keep hb12)).mono ?_
    rintro e w5 ⟨v5, rfl, hr5, hb5⟩
    have hb15 := below_then hb12 hb5
    by_cases ha0 : Ea = 0
    · subst ha0
      go_wp2_with fail
      refine (H4.out v5 w5 (hE.keep hb15) hr5).mono ?_
      rintro e w6 ⟨rfl, hb6⟩
      have hb16 := below_then hb15 hb6
      go_wp2_with fail
      refine (H5.out w6 (hE.keep hb16)).mono ?_
      rintro e w7 ⟨v7, rfl, hr7, hb7⟩
      have hb17 := below_then hb16 hb7
      have hr57 := (hr5.keep hb6).keep hb7
      go_wp2_with fail
      refine (H6.out v5 v7 w7 hr57 hr7).mono ?_
      rintro e w8 ⟨rfl, hb8⟩
      have hb18 := below_then hb17 hb8
      have hr58 := hr57.keep hb8
      clear hr5 hr57 hr7
      go_wp2_with fail
      refine (H7.out v5 w8 hr58).mono ?_
      rintro e w9 ⟨rfl, hb9⟩
      have hb19 := below_then hb18 hb9
      go_wp2_with fail
      go_ret
      exact ⟨rfl, hb19⟩
    · have haB : (Ea == 0) = false := by rw [beq_eq_false_iff_ne]; exact ha0
      obtain rfl := HBAD.out ha0
      obtain ⟨o5, c5, rfl, -⟩ := hr5
      clear ha0
      go_wp2_with fail
      go_ret
      exact ⟨rfl, hb15⟩
end Go.Proofs.YtmcnblibnbkfjaaDoor.W12
