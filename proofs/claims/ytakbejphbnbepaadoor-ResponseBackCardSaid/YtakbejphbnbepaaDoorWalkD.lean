/-
  Walks of layer 19: text, the first line, the reference's head. Conditions: the library's table; lengths below 2 to the 40.
-/
import Derived.Test.YtakbejphbnbepaaDoorWalkC
import Derived.Test.YtakbejphbnbepaaDoorEnv
import Derived.Lib.Join
namespace Go.Proofs.YtakbejphbnbepaaDoor.W19
open Go Go.RowKit P19

theorem join_flat (xs : List (List UInt8)) : Lib.join xs [] = xs.flatten := by
  cases xs with
  | nil => rfl
  | cons x r => rw [Lib.join_cons]; simp [Lib.joinTail]

theorem new_cells (w : World) (xs : List ByteArray) (T : TypeId) (j : Nat) (x : ByteArray) (h : xs[j]? = some x) :
    (w.alloc (.cells (xs.map Value.string).toArray T)).cell? ⟨w.heap.size, 0 + j, none⟩ = some (.string x) := by
  rw [Lib.cell_of_heap (heap_new w _)]
  simp [h]

set_option maxHeartbeats 400000 in
theorem text_at (xs : List ByteArray) (w : World) (T : TypeId) (hN : xs.length ≤ 1000) (hl : (xs.map (·.data.toList)).flatten.length ≤ 140737488355328) :
    Calls Tryd.prog 19 #[.slice (some ⟨w.heap.size, 0, none⟩) xs.length xs.length] (w.alloc (.cells (xs.map Value.string).toArray T)) fun e w' =>
      e = .returned (bs (xs.map (·.data.toList)).flatten) ∧ Below (w.alloc (.cells (xs.map Value.string).toArray T)).heap.size (w.alloc (.cells (xs.map Value.string).toArray T)) w' := by
  have hj := Tryd.strings_Join w.heap.size 0 xs.length xs ⟨#[]⟩ (w.alloc (.cells (xs.map Value.string).toArray T)) (new_cells w xs T) (by simp) (by omega) (Nat.le_refl _) (by
    show (Lib.join _ []).length ≤ _
    rw [join_flat]; exact hl)
  have HJ := Lib.hid hj
  clear hj
  go_enter Tryd.func19, Tryd.ntmps19
  go_wp2_with (go_at_call 33; refine HJ.out.mono ?_; rintro e w' ⟨rfl, hb⟩)
  go_ret
  exact ⟨ret1 (vstr (join_flat _)), hb⟩
theorem text_any (xs : List ByteArray) (w : World) (T : TypeId) (H n : Nat) (cs : Array Value) (hH : w.heap.size = H) (hn : xs.length = n) (hcs : (xs.map Value.string).toArray = cs) (hN : xs.length ≤ 1000) (R : ByteArray) (hR : R.data.toList = (xs.map (·.data.toList)).flatten) (hl : R.size ≤ 140737488355328) :
    Calls Tryd.prog 19 #[.slice (some ⟨H, 0, none⟩) n n] (w.alloc (.cells cs T)) fun e w' =>
      e = .returned (.string R) ∧ Below (w.alloc (.cells cs T)).heap.size (w.alloc (.cells cs T)) w' := by
  subst hH hn hcs
  have := text_at xs w T hN (by rw [← hR]; simpa using hl)
  rw [← hR] at this
  exact this.mono fun e w' ⟨he, hb⟩ => ⟨he.trans (ret1 (bs_data R)), hb⟩

theorem itoa_len (s : Int) (h0 : -9223372036854775808 ≤ s) (h1 : s ≤ 9223372036854775807) : (Lib.itoa s).length ≤ 21 := Lib.itoa_length_le s h0 h1
theorem reason_len (s : Int) : (reason s).length ≤ 31 := by
  by_cases h : reason s = []
  · rw [h]; decide
  · have := (reason_stats s).1 h
    simp only [stats, List.mem_cons, List.mem_nil_iff, or_false] at this
    rcases this with rfl | rfl | rfl | rfl | rfl | rfl | rfl | rfl | rfl | rfl | rfl <;> decide
theorem first_len (s : Int) (h0 : -9223372036854775808 ≤ s) (h1 : s ≤ 9223372036854775807) : (first s).length ≤ 64 := by
  have := itoa_len s h0 h1
  have := reason_len s
  simp [first, verB, crlf]
  omega

set_option maxHeartbeats 400000 in
theorem first_any (s : Int) (h0 : -9223372036854775808 ≤ s) (h1 : s ≤ 9223372036854775807) (w : World) (hT : Tab w) :
    Calls Tryd.prog 20 #[.int .i64 s] w fun e w' => e = .returned (bs (first s)) ∧ Below w.heap.size w w' := by
  have l1 := itoa_len s h0 h1
  have l2 := reason_len s
  go_enter Tryd.func20, Tryd.ntmps20
  go_wp2_with (go_at_call 21; refine (Itoa_any s h0 h1 _ hT).mono ?_; rintro e w1 ⟨rfl, hb1⟩)
  go_wp2_with (go_at_call 9; refine (Reason_any s _).mono ?_; rintro e w2 ⟨rfl, rfl⟩)
  go_wp2_with fail
  refine (text_any [⟨verB.toArray⟩, ⟨(Lib.itoa s).toArray⟩, ⟨#[32]⟩, ⟨(reason s).toArray⟩, ⟨crlf.toArray⟩] _ 9 _ 5 _ (by simp) rfl rfl (by simp) ⟨(first s).toArray⟩ (by simp [first]) (by have := first_len s h0 h1; rw [size_mk]; omega)).mono ?_
  rintro e w3 ⟨rfl, hb3⟩
  go_wp2_with fail
  go_ret
  exact ⟨rfl, below_then hb1 (below_then (below_alloc w1 _) (below_then (below_alloc _ _) hb3))⟩
end Go.Proofs.YtakbejphbnbepaaDoor.W19
