/-
  Walks of layer 19: Write and the reference's Write. Conditions: the library's table; the status is an int; the body's own bound.
-/
import Derived.Test.YtakbejphbnbepaaDoorWalkD
import Derived.Deep.RegionHeld3
import Derived.Deep.DrawnRows
namespace Go.Proofs.YtakbejphbnbepaaDoor.W19
open Go Go.RowKit P19
attribute [local go_sem ↓] Go.wp_at_zero Go.wp_at_succ

def repV (r : Rep) : Value := .agg #[.int .i64 r.status, bs r.body, .bool r.close]

set_option maxHeartbeats 1000000 in
theorem Write_none (st : Int) (b : ByteArray) (c : Bool) (w : World) (h : reason st = []) :
    Calls Tryd.prog 11 #[.agg #[.int .i64 st, .string b, .bool c]] w fun e w' => e = .returned (.tuple #[bs [], .int .i64 190]) ∧ Below w.heap.size w w' := by
  have H := Lib.hid h
  clear h
  go_enter Tryd.func11, Tryd.ntmps11
  go_wp2_with (go_at_call 9; refine (Reason_any st _).mono ?_; rintro e w2 ⟨rfl, rfl⟩; rw [H.out])
  go_ret2
  exact ⟨rfl, below_then (below_alloc w _) (below_alloc _ _)⟩

set_option maxHeartbeats 1000000 in
theorem Write_long (st : Int) (b : ByteArray) (c : Bool) (w : World) (he : (reason st).isEmpty = false) (hb : 100000 < b.size) (hm : b.size ≤ maxLen) :
    Calls Tryd.prog 11 #[.agg #[.int .i64 st, .string b, .bool c]] w fun e w' => e = .returned (.tuple #[bs [], .int .i64 191]) ∧ Below w.heap.size w w' := by
  unfold maxLen at hm
  go_enter Tryd.func11, Tryd.ntmps11
  go_wp2_with (go_at_call 9; refine (Reason_any st _).mono ?_; rintro e w2 ⟨rfl, rfl⟩)
  go_ret2
  exact ⟨rfl, below_then (below_alloc w _) (below_alloc _ _)⟩

theorem keep_cell {W w1 : World} {b o : Nat} {v : Value} (hb : Below W.heap.size W w1) (h : W.cell? ⟨b, o, none⟩ = some v) : w1.cell? ⟨b, o, none⟩ = some v :=
  (hb.cell (p := ⟨b, o, none⟩) (World.block_lt_of_cell? W _ h)).trans h

def headB (st : Int) (n : Nat) : By := first st ++ (lenB ++ (Lib.itoa n ++ crlf))
theorem headB_len (st : Int) (h0 : -9223372036854775808 ≤ st) (h1 : st ≤ 9223372036854775807) (n : Nat) (hb : n ≤ 100000) : (headB st n).length ≤ 1000 := by
  have l1 := first_len st h0 h1
  have l2 := itoa_len n (by omega) (by omega)
  simp [headB, lenB, crlf]
  omega
theorem writeL_ok (st : Int) (b : By) (c : Bool) (he : (reason st).isEmpty = false) (hb : b.length ≤ 100000) : writeL ⟨st, b, c⟩ = (headL st b.length c ++ b, 0) := by
  unfold writeL
  rw [if_neg (by intro e; simp [show reason st = [] from e] at he), if_neg (by simpa using hb)]
theorem head_end (st : Int) (b : By) (c : Bool) : (headB st b.length ++ closing c) ++ (crlf ++ b) = headL st b.length c ++ b := by
  unfold headL headB startOf; simp only [List.append_assoc]

set_option maxRecDepth 100000 in
set_option maxHeartbeats 3200000 in
theorem Write_ok (st : Int) (b : ByteArray) (c : Bool) (w : World) (h0 : -9223372036854775808 ≤ st) (h1 : st ≤ 9223372036854775807) (he : (reason st).isEmpty = false) (hb : b.size ≤ 100000) (hT : Tab w) :
    Calls Tryd.prog 11 #[.agg #[.int .i64 st, .string b, .bool c]] w fun e w' => e = .returned (.tuple #[bs (writeL ⟨st, b.data.toList, c⟩).1, .int .i64 0]) ∧ Below w.heap.size w w' := by
  have hb' : (b.size : Int) ≤ 100000 := by omega
  obtain ⟨R, hR⟩ : ∃ R : ByteArray, R = ⟨(headB st b.size).toArray⟩ := ⟨_, rfl⟩
  have hRs : R.size ≤ 1000 := by rw [hR, size_mk]; exact headB_len st h0 h1 b.size hb
  have HR := Lib.hid (show R.data.toList = (([⟨(first st).toArray⟩, ⟨lenB.toArray⟩, ⟨(Lib.itoa b.size).toArray⟩, ⟨crlf.toArray⟩] : List ByteArray).map (·.data.toList)).flatten by rw [hR]; simp [headB])
  have HR0 := Lib.hid hR
  clear hR
  obtain ⟨Rt, hRt⟩ : ∃ Rt : ByteArray, Rt = ⟨(writeL ⟨st, b.data.toList, true⟩).1.toArray⟩ := ⟨_, rfl⟩
  obtain ⟨Rf, hRf⟩ : ∃ Rf : ByteArray, Rf = ⟨(writeL ⟨st, b.data.toList, false⟩).1.toArray⟩ := ⟨_, rfl⟩
  have hbl : b.data.toList.length ≤ 100000 := by simpa using hb
  have hsz : b.data.toList.length = b.size := by simp
  have HRt := Lib.hid (show Rt.data.toList = (([R ++ ⟨closeB.toArray⟩, ⟨crlf.toArray⟩, b] : List ByteArray).map (·.data.toList)).flatten by
    rw [hRt, writeL_ok st _ true he hbl, ← head_end, hsz, HR0.out]; simp [closing])
  have HRf := Lib.hid (show Rf.data.toList = (([R, ⟨crlf.toArray⟩, b] : List ByteArray).map (·.data.toList)).flatten by
    rw [hRf, writeL_ok st _ false he hbl, ← head_end, hsz, HR0.out]; simp [closing])
  have hRts : Rt.size ≤ 140737488355328 := by
    have := congrArg List.length HRt.out
    simp [closeB, crlf] at this
    omega
  have hRfs : Rf.size ≤ 140737488355328 := by
    have := congrArg List.length HRf.out
    simp [crlf] at this
    omega
  have HRt0 := Lib.hid hRt
  have HRf0 := Lib.hid hRf
  clear hRt hRf hsz hbl
  have hT2 : Tab ((w.alloc (.cells #[.int .i64 st, .string b, .bool c] 25)).alloc (.map (rea 11) 11)).drew := ((hT.new _).new _).drew
  go_enter Tryd.func11, Tryd.ntmps11
  go_wp2_with (go_at_call 9; refine (Reason_any st _).mono ?_; rintro e w2 ⟨rfl, rfl⟩)
  go_region_held3 (fun w' => w'.cell? ⟨w.heap.size, 0, none⟩ = some (.int .i64 st) ∧ w'.cell? ⟨w.heap.size, 1, none⟩ = some (.string b) ∧ w'.cell? ⟨w.heap.size, 2, none⟩ = some (.bool c))
    (first
      | go_keep
      | (go_split_ands
         exact ⟨keep_cell (by assumption) (by assumption), keep_cell (by assumption) (by assumption), keep_cell (by assumption) (by assumption)⟩))
    (first
      | (go_at_call 20; refine (first_any st h0 h1 _ ?_).mono ?_; (with_reducible assumption); rintro e w1 ⟨rfl, hb1⟩; have hT1 := hT2.keep hb1)
      | (go_at_call 21; refine (Itoa_any b.size (by omega) (by omega) _ ?_).mono ?_; (with_reducible assumption); rintro e w3 ⟨rfl, hb3⟩)
      | (go_at_call 19; refine (text_any [⟨(first st).toArray⟩, ⟨lenB.toArray⟩, ⟨(Lib.itoa b.size).toArray⟩, ⟨crlf.toArray⟩] _ 9 _ 4 _ rfl rfl rfl (Nat.le_of_ble_eq_true rfl) R HR.out (Nat.le_trans hRs (Nat.le_of_ble_eq_true rfl))).mono ?_; rintro e w4 ⟨rfl, hb4⟩)
      | skip)
  go_wp2_with fail
  · refine (text_any [R ++ ⟨closeB.toArray⟩, ⟨crlf.toArray⟩, b] _ 9 _ 3 _ rfl rfl rfl (Nat.le_of_ble_eq_true rfl) Rt HRt.out hRts).mono ?_
    rintro e w5 ⟨rfl, hb5⟩
    go_wp2_with fail
    go_ret2
    exact ⟨ret2 (by rw [show c = true by assumption]; exact congrArg Value.string HRt0.out) rfl, below_then (below_alloc w _) (below_then (below_alloc _ _) (below_then (below_drewN _ 1) (below_then hb1 (below_then hb3 (below_then (below_alloc _ _) (below_then hb4 (below_then (below_alloc _ _) hb5)))))))⟩
  · refine (text_any [R, ⟨crlf.toArray⟩, b] _ 9 _ 3 _ rfl rfl rfl (Nat.le_of_ble_eq_true rfl) Rf HRf.out hRfs).mono ?_
    rintro e w5 ⟨rfl, hb5⟩
    go_wp2_with fail
    go_ret2
    exact ⟨ret2 (by rw [show c = false by assumption]; exact congrArg Value.string HRf0.out) rfl, below_then (below_alloc w _) (below_then (below_alloc _ _) (below_then (below_drewN _ 1) (below_then hb1 (below_then hb3 (below_then (below_alloc _ _) (below_then hb4 (below_then (below_alloc _ _) hb5)))))))⟩

/-- WRITE, at every reply. -/
theorem Write_any (st : Int) (b : ByteArray) (c : Bool) (w : World) (h0 : -9223372036854775808 ≤ st) (h1 : st ≤ 9223372036854775807) (hm : b.size ≤ maxLen) (hT : Tab w) :
    Calls Tryd.prog 11 #[.agg #[.int .i64 st, .string b, .bool c]] w fun e w' => e = .returned (.tuple #[bs (writeL ⟨st, b.data.toList, c⟩).1, .int .i64 (writeL ⟨st, b.data.toList, c⟩).2]) ∧ Below w.heap.size w w' := by
  by_cases h : reason st = []
  · have hw : writeL ⟨st, b.data.toList, c⟩ = ([], 190) := by unfold writeL; rw [if_pos h]
    rw [hw]
    exact Write_none st b c w h
  · have he : (reason st).isEmpty = false := by simpa using h
    by_cases hb : 100000 < b.size
    · have hw : writeL ⟨st, b.data.toList, c⟩ = ([], 191) := by unfold writeL; rw [if_neg h, if_pos (by simpa using hb)]
      rw [hw]
      exact Write_long st b c w he hb hm
    · have hw : (writeL ⟨st, b.data.toList, c⟩).2 = 0 := by rw [writeL_ok st _ c he (by simpa using hb)]
      rw [hw]
      exact Write_ok st b c w h0 h1 he (by omega) hT
end Go.Proofs.YtakbejphbnbepaaDoor.W19
