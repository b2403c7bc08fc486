/-
  Walks of layer 19: the words of the statuses. Conditions: none.
-/
import Derived.Test.YtakbejphbnbepaaDoorChecked
import Derived.Test.YtakbejphbnbepaaDoorPlainD
import Derived.Test.YtakbejphbnbepaaDoorMap
import Derived.Test.YtakbejphbnbepaaDoorHelp
namespace Go.Proofs.YtakbejphbnbepaaDoor.W19
open Go Go.RowKit P19

set_option maxHeartbeats 1000000 in
theorem refReason (s : Int) (w : World) :
    Calls Tryd.prog 10 #[.int .i64 s] w fun e w' => e = .returned (bs (reason s)) ∧ w = w' := by
  go_enter Tryd.func10, Tryd.ntmps10
  go_wp2
  all_goals
    simp only [beq_iff_eq, beq_eq_false_iff_ne, ne_eq] at *
    go_ret
    exact ⟨by simp [bs, reason, *], rfl⟩

/-- The map of the words, with n entries laid. -/
def ent (n : Nat) : MapEntry := { key := .int .i64 (stats.getD n 0), val := bs (reason (stats.getD n 0)), born := n }
def rea : Nat → Array MapEntry
  | 0 => #[]
  | n + 1 => (rea n).push (ent n)

theorem rea_list : (rea 11).toList = (List.range 11).map ent := by rfl
theorem ins0 (w : World) : (Instr.mapUpdate 39 (.map (some w.heap.size)) (.int .i64 200) (.string ⟨#[79, 75]⟩)).run Tryd.prog (w.alloc (.map (rea 0) 0)) = .ok () (w.alloc (.map (rea 1) 1)) :=
  MapL.run_insert_int 39 3 9 .i64 Tryd.underlying39 Tryd.underlying3 w (rea 0) 0 200 _ (by rfl)
theorem ins1 (w : World) : (Instr.mapUpdate 39 (.map (some w.heap.size)) (.int .i64 400) (.string ⟨#[66, 97, 100, 32, 82, 101, 113, 117, 101, 115, 116]⟩)).run Tryd.prog (w.alloc (.map (rea 1) 1)) = .ok () (w.alloc (.map (rea 2) 2)) :=
  MapL.run_insert_int 39 3 9 .i64 Tryd.underlying39 Tryd.underlying3 w (rea 1) 1 400 _ (by rfl)
theorem ins2 (w : World) : (Instr.mapUpdate 39 (.map (some w.heap.size)) (.int .i64 404) (.string ⟨#[78, 111, 116, 32, 70, 111, 117, 110, 100]⟩)).run Tryd.prog (w.alloc (.map (rea 2) 2)) = .ok () (w.alloc (.map (rea 3) 3)) :=
  MapL.run_insert_int 39 3 9 .i64 Tryd.underlying39 Tryd.underlying3 w (rea 2) 2 404 _ (by rfl)
theorem ins3 (w : World) : (Instr.mapUpdate 39 (.map (some w.heap.size)) (.int .i64 405) (.string ⟨#[77, 101, 116, 104, 111, 100, 32, 78, 111, 116, 32, 65, 108, 108, 111, 119, 101, 100]⟩)).run Tryd.prog (w.alloc (.map (rea 3) 3)) = .ok () (w.alloc (.map (rea 4) 4)) :=
  MapL.run_insert_int 39 3 9 .i64 Tryd.underlying39 Tryd.underlying3 w (rea 3) 3 405 _ (by rfl)
theorem ins4 (w : World) : (Instr.mapUpdate 39 (.map (some w.heap.size)) (.int .i64 409) (.string ⟨#[67, 111, 110, 102, 108, 105, 99, 116]⟩)).run Tryd.prog (w.alloc (.map (rea 4) 4)) = .ok () (w.alloc (.map (rea 5) 5)) :=
  MapL.run_insert_int 39 3 9 .i64 Tryd.underlying39 Tryd.underlying3 w (rea 4) 4 409 _ (by rfl)
theorem ins5 (w : World) : (Instr.mapUpdate 39 (.map (some w.heap.size)) (.int .i64 413) (.string ⟨#[67, 111, 110, 116, 101, 110, 116, 32, 84, 111, 111, 32, 76, 97, 114, 103, 101]⟩)).run Tryd.prog (w.alloc (.map (rea 5) 5)) = .ok () (w.alloc (.map (rea 6) 6)) :=
  MapL.run_insert_int 39 3 9 .i64 Tryd.underlying39 Tryd.underlying3 w (rea 5) 5 413 _ (by rfl)
theorem ins6 (w : World) : (Instr.mapUpdate 39 (.map (some w.heap.size)) (.int .i64 422) (.string ⟨#[85, 110, 112, 114, 111, 99, 101, 115, 115, 97, 98, 108, 101, 32, 67, 111, 110, 116, 101, 110, 116]⟩)).run Tryd.prog (w.alloc (.map (rea 6) 6)) = .ok () (w.alloc (.map (rea 7) 7)) :=
  MapL.run_insert_int 39 3 9 .i64 Tryd.underlying39 Tryd.underlying3 w (rea 6) 6 422 _ (by rfl)
theorem ins7 (w : World) : (Instr.mapUpdate 39 (.map (some w.heap.size)) (.int .i64 431) (.string ⟨#[82, 101, 113, 117, 101, 115, 116, 32, 72, 101, 97, 100, 101, 114, 32, 70, 105, 101, 108, 100, 115, 32, 84, 111, 111, 32, 76, 97, 114, 103, 101]⟩)).run Tryd.prog (w.alloc (.map (rea 7) 7)) = .ok () (w.alloc (.map (rea 8) 8)) :=
  MapL.run_insert_int 39 3 9 .i64 Tryd.underlying39 Tryd.underlying3 w (rea 7) 7 431 _ (by rfl)
theorem ins8 (w : World) : (Instr.mapUpdate 39 (.map (some w.heap.size)) (.int .i64 501) (.string ⟨#[78, 111, 116, 32, 73, 109, 112, 108, 101, 109, 101, 110, 116, 101, 100]⟩)).run Tryd.prog (w.alloc (.map (rea 8) 8)) = .ok () (w.alloc (.map (rea 9) 9)) :=
  MapL.run_insert_int 39 3 9 .i64 Tryd.underlying39 Tryd.underlying3 w (rea 8) 8 501 _ (by rfl)
theorem ins9 (w : World) : (Instr.mapUpdate 39 (.map (some w.heap.size)) (.int .i64 503) (.string ⟨#[83, 101, 114, 118, 105, 99, 101, 32, 85, 110, 97, 118, 97, 105, 108, 97, 98, 108, 101]⟩)).run Tryd.prog (w.alloc (.map (rea 9) 9)) = .ok () (w.alloc (.map (rea 10) 10)) :=
  MapL.run_insert_int 39 3 9 .i64 Tryd.underlying39 Tryd.underlying3 w (rea 9) 9 503 _ (by rfl)
theorem ins10 (w : World) : (Instr.mapUpdate 39 (.map (some w.heap.size)) (.int .i64 507) (.string ⟨#[73, 110, 115, 117, 102, 102, 105, 99, 105, 101, 110, 116, 32, 83, 116, 111, 114, 97, 103, 101]⟩)).run Tryd.prog (w.alloc (.map (rea 10) 10)) = .ok () (w.alloc (.map (rea 11) 11)) :=
  MapL.run_insert_int 39 3 9 .i64 Tryd.underlying39 Tryd.underlying3 w (rea 10) 10 507 _ (by rfl)

set_option maxHeartbeats 1000000 in
theorem reasons_any (w : World) :
    Calls Tryd.prog 18 #[] w fun e w' => e = .returned (.map (some w.heap.size)) ∧ w.alloc (.map (rea 11) 11) = w' := by
  have hmm : ∀ w : World, (Instr.makeMap 39 none).run Tryd.prog w = .ok (.map (some w.heap.size)) (w.alloc (.map (rea 0) 0)) := fun w => run_makeMap _ w
  have h0 := ins0 w; have h1 := ins1 w; have h2 := ins2 w; have h3 := ins3 w; have h4 := ins4 w; have h5 := ins5 w; have h6 := ins6 w; have h7 := ins7 w; have h8 := ins8 w; have h9 := ins9 w; have h10 := ins10 w
  go_enter Tryd.func18, Tryd.ntmps18
  go_wp2
  go_ret
  exact ⟨rfl, rfl⟩
end Go.Proofs.YtakbejphbnbepaaDoor.W19
