/-
  Walks of layer 19: the laws ResponseNames and ResponseWrites. Conditions: the library's table.
-/
import Derived.Test.YtakbejphbnbepaaDoorWalkN
namespace Go.Proofs.YtakbejphbnbepaaDoor.W19
open Go Go.RowKit P19
attribute [local go_sem ↓] Go.wp_at_zero Go.wp_at_succ

theorem reason_at (k : Int) : ∃ R : ByteArray, bs (reason k) = .string R := ⟨⟨(reason k).toArray⟩, rfl⟩
theorem Reason_as (k : Int) (R : ByteArray) (h : bs (reason k) = .string R) (w : World) :
    Calls Tryd.prog 9 #[.int .i64 k] w fun e w' => e = .returned (.string R) ∧ w.alloc (.map (rea 11) 11) = w' := by
  rw [← h]; exact Reason_any k w
theorem refReason_as (k : Int) (R : ByteArray) (h : bs (reason k) = .string R) (w : World) :
    Calls Tryd.prog 10 #[.int .i64 k] w fun e w' => e = .returned (.string R) ∧ w = w' := by
  rw [← h]; exact refReason k w

set_option maxRecDepth 100000 in
set_option maxHeartbeats 1600000 in
theorem names_law (w : World) (hT : Tab w) :
    Calls Tryd.prog 3 #[] w fun e w' => e = .returned (.bool true) ∧ Below w.heap.size w w' := by
  go_enter Tryd.func3, Tryd.ntmps3
  go_wp2_with fail
  refine (awake_any w hT).mono ?_
  rintro e w1 ⟨rfl, hb⟩
  go_wp2_with fail
  go_loopw [2] (fun i wr => ∃ k : Nat, k ≤ 700 ∧ i = .int .i64 k ∧ Below w.heap.size w wr) (fun i _ => 700 - (intOf i).toNat)
  case atStart => exact ⟨0, by omega, rfl, hb⟩
  case round =>
    obtain ⟨k, hk, rfl, hB⟩ := hrel
    have hT1 := hT.keep hB
    by_cases hlt : k < 700
    · have hk0 : (0 : Int) ≤ (k : Int) := by omega
      have hk1 : (k : Int) < 700 := by omega
      go_wp2_with fail
      obtain ⟨R, hR⟩ := reason_at k
      refine (Reason_as k R hR _).mono ?_
      rintro e w2 ⟨rfl, rfl⟩
      go_wp2_with fail
      refine (refReason_as k R hR _).mono ?_
      rintro e w2 ⟨rfl, rfl⟩
      clear hR
      go_wp2_with fail
      go_roundw
      case rel => exact ⟨k + 1, by omega, by go_num, hB.alloc hB.size _⟩
      case measure => simp [intOf]; omega
    · obtain rfl : k = 700 := by omega
      go_wp2_with fail
      go_ret
      exact ⟨rfl, hB⟩

theorem refWrite_as (st : Int) (b : ByteArray) (c : Bool) (R : ByteArray) (E : Int) (h : writeL ⟨st, b.data.toList, c⟩ = (R.data.toList, E)) (w : World) (h0 : -9223372036854775808 ≤ st) (h1 : st ≤ 9223372036854775807) (hm : b.size ≤ maxLen) (hT : Tab w) :
    Calls Tryd.prog 12 #[.agg #[.int .i64 st, .string b, .bool c]] w fun e w' => e = .returned (.tuple #[.string R, .int .i64 E]) ∧ Below w.heap.size w w' := by
  have := refWrite_any st b c w h0 h1 hm hT
  rw [h] at this
  exact this.mono fun _ _ ⟨he, hw⟩ => ⟨he.trans (ret2 (bs_data R) rfl), hw⟩
theorem write_named (r : Rep) : ∃ (R : ByteArray) (E : Int), writeL r = (R.data.toList, E) := ⟨⟨(writeL r).1.toArray⟩, (writeL r).2, rfl⟩

set_option maxRecDepth 100000 in
set_option maxHeartbeats 1600000 in
theorem writes_law (st : Int) (b : ByteArray) (c : Bool) (w : World) (h0 : -9223372036854775808 ≤ st) (h1 : st ≤ 9223372036854775807) (hm : b.size ≤ maxLen) (hT : Tab w) :
    Calls Tryd.prog 4 #[.agg #[.int .i64 st, .string b, .bool c]] w fun e w' => e = .returned (.bool true) ∧ Below w.heap.size w w' := by
  obtain ⟨X, E, hX⟩ := write_named ⟨st, b.data.toList, c⟩
  obtain ⟨R, hR⟩ := reason_at st
  have HX := Lib.hid hX
  clear hX
  have hT0 := hT.new (.cells #[.int .i64 st, .string b, .bool c] 25)
  have hc := heap_new w (.cells #[.int .i64 st, .string b, .bool c] 25)
  have d0 := Lib.cell_of_heap hc 0
  have d1 := Lib.cell_of_heap hc 1
  have d2 := Lib.cell_of_heap hc 2
  clear hc
  go_enter Tryd.func4, Tryd.ntmps4
  go_wp2_with fail
  refine (awake_any _ hT0).mono ?_
  rintro e w1 ⟨rfl, hb1⟩
  have hT1 := hT0.keep hb1
  have e0 := keep_cell hb1 d0
  have e1 := keep_cell hb1 d1
  have e2 := keep_cell hb1 d2
  go_wp2_with fail
  refine (Write_as st b c X E HX.out _ h0 h1 hm hT1).mono ?_
  rintro e w2 ⟨rfl, hb2⟩
  have hT2 := hT1.keep hb2
  have f0 := keep_cell hb2 e0
  have f1 := keep_cell hb2 e1
  have f2 := keep_cell hb2 e2
  go_wp2_with fail
  refine (refWrite_as st b c X E HX.out _ h0 h1 hm hT2).mono ?_
  rintro e w3 ⟨rfl, hb3⟩
  have g0 := keep_cell hb3 f0
  have g1 := keep_cell hb3 f1
  have g2 := keep_cell hb3 f2
  clear d0 d1 d2 e0 e1 e2 f0 f1 f2
  go_wp2_with fail
  go_region_held3 (fun w' => w'.cell? ⟨w.heap.size, 0, none⟩ = some (.int .i64 st))
    (first
      | go_keep
      | exact keep_cell (by assumption) (by assumption))
    (first
      | (go_at_call 9; refine (Reason_as st R ?_ _).mono ?_; (with_reducible assumption); rintro e w4 ⟨rfl, rfl⟩)
      | (go_at_call 10; refine (refReason_as st R ?_ _).mono ?_; (with_reducible assumption); rintro e w4 ⟨rfl, rfl⟩)
      | skip)
  go_wp2_with fail
  go_ret
  exact ⟨rfl, below_then (below_alloc w _) (below_then hb1 (below_then hb2 (below_then hb3 (below_then (below_alloc w3 _) (below_drewN _ 1)))))⟩
end Go.Proofs.YtakbejphbnbepaaDoor.W19
