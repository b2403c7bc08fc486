/-
  Walks of layer 19: the reference's head and Write. Conditions: the library's table; the status is an int; the body's own bound.
-/
import Derived.Test.YtakbejphbnbepaaDoorWalkE
namespace Go.Proofs.YtakbejphbnbepaaDoor.W19
open Go Go.RowKit P19
attribute [local go_sem ↓] Go.wp_at_zero Go.wp_at_succ

theorem refReason_str (s : Int) (X : ByteArray) (hX : X = ⟨(reason s).toArray⟩) (w : World) :
    Calls Tryd.prog 10 #[.int .i64 s] w fun e w' => e = .returned (.string X) ∧ w = w' := by
  subst hX
  exact refReason s w

set_option maxHeartbeats 1000000 in
theorem refHead (st : Int) (n : Nat) (c : Bool) (w : World) (h0 : -9223372036854775808 ≤ st) (h1 : st ≤ 9223372036854775807) (hn : n ≤ 9223372036854775807) (hT : Tab w) :
    Calls Tryd.prog 22 #[.int .i64 st, .int .i64 n, .bool c] w fun e w' => e = .returned (bs (headL st n c)) ∧ Below w.heap.size w w' := by
  obtain ⟨X, hX, sX⟩ := itoa_name st h0 h1
  obtain ⟨Y, hY, sY⟩ := itoa_name n (by omega) (by omega)
  obtain ⟨Z, hZ⟩ : ∃ Z : ByteArray, Z = ⟨(reason st).toArray⟩ := ⟨_, rfl⟩
  have sZ : Z.size ≤ 31 := by rw [hZ, size_mk]; exact reason_len st
  have HX := Lib.hid hX
  have HY := Lib.hid hY
  have HZ := Lib.hid hZ
  clear hX hY hZ
  go_enter Tryd.func22, Tryd.ntmps22
  go_wp2_with fail
  refine (Itoa_str st h0 h1 X HX.out _ hT).mono ?_
  rintro e w1 ⟨rfl, hb1⟩
  go_wp2_with fail
  refine (refReason_str st Z HZ.out _).mono ?_
  rintro e w2 ⟨rfl, rfl⟩
  go_wp2_with fail
  refine (Itoa_str n (by omega) (by omega) Y HY.out _ (hT.keep hb1)).mono ?_
  rintro e w3 ⟨rfl, hb3⟩
  go_wp2_with fail
  all_goals go_ret
  all_goals refine ⟨ret1 (vba ?_), below_then hb1 hb3⟩
  · rw [show c = true by assumption, HX.out, HY.out, HZ.out]; simp [headL, startOf, first, closing, verB, lenB, closeB, crlf]
  · rw [show c = false by assumption, HX.out, HY.out, HZ.out]; simp [headL, startOf, first, closing, verB, lenB, crlf]

theorem headL_len (st : Int) (n : Nat) (c : Bool) (h0 : -9223372036854775808 ≤ st) (h1 : st ≤ 9223372036854775807) (hn : n ≤ 9223372036854775807) : (headL st n c).length ≤ 1000 := by
  have l1 := first_len st h0 h1
  have l2 := itoa_len n (by omega) (by omega)
  cases c <;> simp [headL, startOf, closing, lenB, crlf, closeB] <;> omega

theorem refHead_str (st : Int) (n : Nat) (c : Bool) (X : ByteArray) (hX : X = ⟨(headL st n c).toArray⟩) (w : World) (h0 : -9223372036854775808 ≤ st) (h1 : st ≤ 9223372036854775807) (hn : n ≤ 9223372036854775807) (hT : Tab w) :
    Calls Tryd.prog 22 #[.int .i64 st, .int .i64 n, .bool c] w fun e w' => e = .returned (.string X) ∧ Below w.heap.size w w' := by
  subst hX
  exact refHead st n c w h0 h1 hn hT

/-! ## the reference's Write -/
set_option maxHeartbeats 1000000 in
theorem refWrite_none (st : Int) (b : ByteArray) (c : Bool) (w : World) (h : reason st = []) :
    Calls Tryd.prog 12 #[.agg #[.int .i64 st, .string b, .bool c]] w fun e w' => e = .returned (.tuple #[bs [], .int .i64 190]) ∧ Below w.heap.size w w' := by
  have H := Lib.hid h
  clear h
  go_enter Tryd.func12, Tryd.ntmps12
  go_wp2_with (go_at_call 10; refine (refReason st _).mono ?_; rintro e w2 ⟨rfl, rfl⟩; rw [H.out])
  go_ret2
  exact ⟨rfl, below_alloc w _⟩

set_option maxHeartbeats 1000000 in
theorem refWrite_long (st : Int) (b : ByteArray) (c : Bool) (w : World) (he : (reason st).isEmpty = false) (hb : 100000 < b.size) (hm : b.size ≤ maxLen) :
    Calls Tryd.prog 12 #[.agg #[.int .i64 st, .string b, .bool c]] w fun e w' => e = .returned (.tuple #[bs [], .int .i64 191]) ∧ Below w.heap.size w w' := by
  unfold maxLen at hm
  go_enter Tryd.func12, Tryd.ntmps12
  go_wp2_with (go_at_call 10; refine (refReason st _).mono ?_; rintro e w2 ⟨rfl, rfl⟩)
  go_ret2
  exact ⟨rfl, below_alloc w _⟩

set_option maxRecDepth 100000 in
set_option maxHeartbeats 3200000 in
theorem refWrite_ok (st : Int) (b : ByteArray) (c : Bool) (w : World) (h0 : -9223372036854775808 ≤ st) (h1 : st ≤ 9223372036854775807) (he : (reason st).isEmpty = false) (hb : b.size ≤ 100000) (hT : Tab w) :
    Calls Tryd.prog 12 #[.agg #[.int .i64 st, .string b, .bool c]] w fun e w' => e = .returned (.tuple #[bs (writeL ⟨st, b.data.toList, c⟩).1, .int .i64 0]) ∧ Below w.heap.size w w' := by
  have hb' : (b.size : Int) ≤ 100000 := by omega
  obtain ⟨X, hX⟩ : ∃ X : ByteArray, X = ⟨(headL st b.size c).toArray⟩ := ⟨_, rfl⟩
  have sX : X.size ≤ 1000 := by rw [hX, size_mk]; exact headL_len st b.size c h0 h1 (by omega)
  have HX := Lib.hid hX
  clear hX
  have hadd : ∀ w, (Op.stringOp .add X b).run Tryd.prog w = .ok (.string (X ++ b)) w := fun w => run_string_add_sum w X b (by omega)
  have hT2 : Tab (w.alloc (.cells #[.int .i64 st, .string b, .bool c] 25)).drew := (hT.new _).drew
  go_enter Tryd.func12, Tryd.ntmps12
  go_wp2_with (go_at_call 10; refine (refReason st _).mono ?_; rintro e w2 ⟨rfl, rfl⟩)
  go_region_held3 (fun w' => w'.cell? ⟨w.heap.size, 0, none⟩ = some (.int .i64 st) ∧ w'.cell? ⟨w.heap.size, 1, none⟩ = some (.string b) ∧ w'.cell? ⟨w.heap.size, 2, none⟩ = some (.bool c))
    (first
      | go_keep
      | (go_split_ands
         exact ⟨keep_cell (by assumption) (by assumption), keep_cell (by assumption) (by assumption), keep_cell (by assumption) (by assumption)⟩))
    (first
      | (go_at_call 22; refine (refHead_str st b.size c X HX.out _ h0 h1 (by omega) ?_).mono ?_; (with_reducible assumption); rintro e w1 ⟨rfl, hb1⟩)
      | skip)
  go_wp2_with fail
  go_ret2
  refine ⟨ret2 (vba ?_) rfl, below_then (below_alloc w _) (below_then (below_drewN _ 1) hb1)⟩
  rw [writeL_ok st _ c he (by simpa using hb), HX.out, size_data]
  simp

/-- THE REFERENCE's WRITE, at every reply. -/
theorem refWrite_any (st : Int) (b : ByteArray) (c : Bool) (w : World) (h0 : -9223372036854775808 ≤ st) (h1 : st ≤ 9223372036854775807) (hm : b.size ≤ maxLen) (hT : Tab w) :
    Calls Tryd.prog 12 #[.agg #[.int .i64 st, .string b, .bool c]] w fun e w' => e = .returned (.tuple #[bs (writeL ⟨st, b.data.toList, c⟩).1, .int .i64 (writeL ⟨st, b.data.toList, c⟩).2]) ∧ Below w.heap.size w w' := by
  by_cases h : reason st = []
  · have hw : writeL ⟨st, b.data.toList, c⟩ = ([], 190) := by unfold writeL; rw [if_pos h]
    rw [hw]
    exact refWrite_none st b c w h
  · have he : (reason st).isEmpty = false := by simpa using h
    by_cases hb : 100000 < b.size
    · have hw : writeL ⟨st, b.data.toList, c⟩ = ([], 191) := by unfold writeL; rw [if_neg h, if_pos (by simpa using hb)]
      rw [hw]
      exact refWrite_long st b c w he hb hm
    · have hw : (writeL ⟨st, b.data.toList, c⟩).2 = 0 := by rw [writeL_ok st _ c he (by simpa using hb)]
      rw [hw]
      exact refWrite_ok st b c w h0 h1 he (by omega) hT
end Go.Proofs.YtakbejphbnbepaaDoor.W19
