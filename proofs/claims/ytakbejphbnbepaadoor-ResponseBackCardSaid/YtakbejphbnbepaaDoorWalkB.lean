/-
  Walks of layer 19: the program's Reason; the reference's begins, number, Statuses. Conditions: none but the strings' own bound.
-/
import Derived.Test.YtakbejphbnbepaaDoorWalkA
namespace Go.Proofs.YtakbejphbnbepaaDoor.W19
open Go Go.RowKit P19

/-! ## Reason -/
theorem findNow_cons (k : Int) (v : Value) (n : Nat) (es : List MapEntry) (i : Nat) (s : Int) :
    Instr.findNow (.int .i64) (.int .i64 s) ({ key := .int .i64 k, val := v, born := n } :: es) i = if s = k then some (some (i, v)) else Instr.findNow (.int .i64) (.int .i64 s) es (i + 1) := by
  rw [Instr.findNow]
  by_cases h : s = k
  · simp [Instr.sameNow, h]
  · have : (s == k) = false := by simpa using h
    simp [Instr.sameNow, h, this]
theorem find_rea (s : Int) : ∃ r, Instr.findNow (.int .i64) (.int .i64 s) (rea 11).toList 0 = some r ∧ (r.map (·.2)).getD (.string ⟨#[]⟩) = bs (reason s) := by
  rw [rea_list]
  simp only [List.range, List.range.loop, List.map_cons, List.map_nil, ent, stats, List.getD_eq_getElem?_getD, List.getElem?_cons_zero, List.getElem?_cons_succ, Option.getD_some, findNow_cons]
  simp only [Instr.findNow]
  have hr : ∀ k, s = k → bs (reason k) = bs (reason s) := fun k h => by rw [h]
  by_cases h1 : s = 200; · rw [if_pos h1]; exact ⟨_, rfl, hr _ h1⟩
  rw [if_neg h1]; by_cases h2 : s = 400; · rw [if_pos h2]; exact ⟨_, rfl, hr _ h2⟩
  rw [if_neg h2]; by_cases h3 : s = 404; · rw [if_pos h3]; exact ⟨_, rfl, hr _ h3⟩
  rw [if_neg h3]; by_cases h4 : s = 405; · rw [if_pos h4]; exact ⟨_, rfl, hr _ h4⟩
  rw [if_neg h4]; by_cases h5 : s = 409; · rw [if_pos h5]; exact ⟨_, rfl, hr _ h5⟩
  rw [if_neg h5]; by_cases h6 : s = 413; · rw [if_pos h6]; exact ⟨_, rfl, hr _ h6⟩
  rw [if_neg h6]; by_cases h7 : s = 422; · rw [if_pos h7]; exact ⟨_, rfl, hr _ h7⟩
  rw [if_neg h7]; by_cases h8 : s = 431; · rw [if_pos h8]; exact ⟨_, rfl, hr _ h8⟩
  rw [if_neg h8]; by_cases h9 : s = 501; · rw [if_pos h9]; exact ⟨_, rfl, hr _ h9⟩
  rw [if_neg h9]; by_cases h10 : s = 503; · rw [if_pos h10]; exact ⟨_, rfl, hr _ h10⟩
  rw [if_neg h10]; by_cases h11 : s = 507; · rw [if_pos h11]; exact ⟨_, rfl, hr _ h11⟩
  rw [if_neg h11]
  refine ⟨none, rfl, ?_⟩
  unfold reason
  rw [if_neg h1, if_neg h2, if_neg h3, if_neg h4, if_neg h5, if_neg h6, if_neg h7, if_neg h8, if_neg h9, if_neg h10, if_neg h11]
  rfl

theorem heap_new (w : World) (o : Obj) : (w.alloc o).heap[w.heap.size]? = some o := by show (w.heap.push o)[w.heap.size]? = _; simp
theorem look_rea (w : World) (s : Int) : (Instr.lookup 39 (.map (some w.heap.size)) (.int .i64 s) false).run Tryd.prog (w.alloc (.map (rea 11) 11)) = .ok (bs (reason s)) (w.alloc (.map (rea 11) 11)) := by
  obtain ⟨r, h1, h2⟩ := find_rea s
  rw [← h2]
  exact MapL.run_lookup_int 39 3 9 .i64 Tryd.underlying39 Tryd.underlying3 _ _ _ _ (heap_new w _) s r h1 _ (Tryd.zeroValue9 _)

set_option maxHeartbeats 1000000 in
theorem Reason_any (s : Int) (w : World) :
    Calls Tryd.prog 9 #[.int .i64 s] w fun e w' => e = .returned (bs (reason s)) ∧ w.alloc (.map (rea 11) 11) = w' := by
  have hl := look_rea w s
  go_enter Tryd.func9, Tryd.ntmps9
  go_wp2_with (go_at_call 18; refine (reasons_any _).mono ?_; rintro e w' ⟨rfl, rfl⟩)
  go_ret
  exact ⟨rfl, rfl⟩

/-! ## begins -/
set_option maxHeartbeats 1000000 in
theorem begins_any (s p : ByteArray) (w : World) :
    Calls Tryd.prog 31 #[.string s, .string p] w fun e w' => e = .returned (.bool (Lib.hasPrefix s.data.toList p.data.toList)) ∧ w = w' := by
  have hx := Lib.hasPrefix_raw s p
  have HX := Lib.hid hx
  clear hx
  by_cases h : p.size ≤ s.size
  · go_enter Tryd.func31, Tryd.ntmps31
    go_wp2
    go_ret
    refine ⟨?_, rfl⟩
    rw [← HX.out]
    simp [h]
  · go_enter Tryd.func31, Tryd.ntmps31
    go_wp2
    go_ret
    refine ⟨?_, rfl⟩
    rw [← HX.out]
    simp [h]
end Go.Proofs.YtakbejphbnbepaaDoor.W19
