/-
  Walks of layer 12: Get, of the program and of the reference; slices.Clone. Conditions: the list's cells hold the fields; it is within Go's own limit.
-/
import Derived.Test.YtmcnblibnbkfjaaGreatDoorSetA
import Derived.Lib.SliceRun
namespace Go.Proofs.YtmcnblibnbkfjaaGreatDoor.W12
open Go Go.RowKit P12

set_option maxHeartbeats 1600000 in
set_option maxRecDepth 100000 in
theorem Get_any (v : Value) (l : List Fld) (k : ByteArray) (w : World) (hm : l.length ≤ 4611686018427387904) (h : Rows v l w) :
    Calls Tryz.prog 16 #[v, .string k] w fun e w' => e = .returned (.tuple #[fldV (getF k.data.toList l), .bool (has l k.data.toList)]) ∧ Below w.heap.size w w' := by
  have hb0 := below_alloc w (.cells #[.string ⟨#[]⟩, .bool false, .int .i64 0, .string ⟨#[]⟩] 33)
  have hat := fun W h => at_any v l k W hm h
  by_cases hh : has l k.data.toList = true
  · rw [hh]
    obtain ⟨j, hj⟩ : ∃ j : Nat, findI k.data.toList l = (j : Int) := by
      have h1 := findI_ge k.data.toList l
      have h2 : findI k.data.toList l ≠ -1 := fun e => by rw [findI_none.1 e] at hh; cases hh
      exact ⟨(findI k.data.toList l).toNat, by omega⟩
    obtain ⟨hg, -⟩ := getF_at hj
    have hjl : j < l.length := (List.getElem?_eq_some_iff.1 hg).1
    rw [hj] at hat
    obtain ⟨F, hF⟩ : ∃ F, F = getF k.data.toList l := ⟨_, rfl⟩
    rw [← hF] at hg ⊢
    have HR := Lib.hid h
    obtain ⟨o, c, rfl, h⟩ := h
    obtain ⟨g, off, rfl, hc⟩ := h.resolve_left (fun e => by rw [e] at hjl; simp at hjl)
    obtain ⟨a0, a1, a2, a3⟩ := hc j F hg
    obtain ⟨a, ha⟩ : ∃ a : ByteArray, bs F.name = .string a := ⟨_, rfl⟩
    obtain ⟨s, hs⟩ : ∃ s : ByteArray, bs F.s = .string s := ⟨_, rfl⟩
    unfold fldV
    rw [ha] at a0 ⊢
    rw [hs] at a3 ⊢
    obtain ⟨N, hN⟩ : ∃ N, N = l.length := ⟨_, rfl⟩
    rw [← hN] at HR hjl hat ⊢
    have hj0 : (0 : Int) ≤ (j : Int) := by omega
    have hj1 : (j : Int) < (N : Int) := by omega
    clear ha hs hh hj hg hc hF hN h
    go_enter Tryz.func16, Tryz.ntmps16
    go_wp2_with (go_at_call 43; refine (hat _ (HR.out.keep hb0)).mono ?_; rintro e w2 ⟨rfl, hb2⟩; refine Hid.out ?_)
    refine Lib.hid ?_
    have hh : w2.heap[w.heap.size]? = some (.cells #[.string ⟨#[]⟩, .bool false, .int .i64 0, .string ⟨#[]⟩] 33 (0, 0)) := (hb2.block w.heap.size (by simp)).trans (heap_new w _)
    have z0 := Lib.cell_of_heap hh 0
    have z1 := Lib.cell_of_heap hh 1
    have z2 := Lib.cell_of_heap hh 2
    have z3 := Lib.cell_of_heap hh 3
    have f0 := Lib.frozen_of_heap hh 0
    have f1 := Lib.frozen_of_heap hh 1
    have f2 := Lib.frozen_of_heap hh 2
    have f3 := Lib.frozen_of_heap hh 3
    have hB : Below w.heap.size w w2 := below_then hb0 hb2
    replace a0 := keep_cell hB a0
    replace a1 := keep_cell hB a1
    replace a2 := keep_cell hB a2
    replace a3 := keep_cell hB a3
    clear hh
    go_wp2_with fail
    exact bodyPost_ret (v := .tuple #[.agg #[.string a, .bool F.text, .int .i64 F.n, .string s], .bool true]) (by simp [results, Tryz.results16, go_sem, z0, z1, z2, z3]) rfl ⟨rfl, (((hB.setCell (p := ⟨w.heap.size, 0, none⟩) (by simp) _).setCell (p := ⟨w.heap.size, 1, none⟩) (by simp) _).setCell (p := ⟨w.heap.size, 2, none⟩) (by simp) _).setCell (p := ⟨w.heap.size, 3, none⟩) (by simp) _⟩
  · have hh' : has l k.data.toList = false := by simpa using hh
    rw [findI_none.2 hh'] at hat
    rw [hh', getF_none hh']
    show Calls _ _ _ _ fun e w' => e = .returned (.tuple #[.agg #[.string ⟨#[]⟩, .bool false, .int .i64 0, .string ⟨#[]⟩], .bool false]) ∧ _
    have HR := Lib.hid h
    obtain ⟨o, c, rfl, -⟩ := h
    clear hh hh'
    go_enter Tryz.func16, Tryz.ntmps16
    go_wp2_with (go_at_call 43; refine (hat _ (HR.out.keep hb0)).mono ?_; rintro e w2 ⟨rfl, hb2⟩; refine Hid.out ?_)
    refine Lib.hid ?_
    have hh : w2.heap[w.heap.size]? = some (.cells #[.string ⟨#[]⟩, .bool false, .int .i64 0, .string ⟨#[]⟩] 33 (0, 0)) := (hb2.block w.heap.size (by simp)).trans (heap_new w _)
    have z0 := Lib.cell_of_heap hh 0
    have z1 := Lib.cell_of_heap hh 1
    have z2 := Lib.cell_of_heap hh 2
    have z3 := Lib.cell_of_heap hh 3
    have f0 := Lib.frozen_of_heap hh 0
    have f1 := Lib.frozen_of_heap hh 1
    have f2 := Lib.frozen_of_heap hh 2
    have f3 := Lib.frozen_of_heap hh 3
    have hB : Below w.heap.size w w2 := below_then hb0 hb2
    clear hh
    go_wp2_with fail
    exact bodyPost_ret (v := .tuple #[.agg #[.string ⟨#[]⟩, .bool false, .int .i64 0, .string ⟨#[]⟩], .bool false]) (by simp [results, Tryz.results16, go_sem, z0, z1, z2, z3]) rfl ⟨rfl, (((hB.setCell (p := ⟨w.heap.size, 0, none⟩) (by simp) _).setCell (p := ⟨w.heap.size, 1, none⟩) (by simp) _).setCell (p := ⟨w.heap.size, 2, none⟩) (by simp) _).setCell (p := ⟨w.heap.size, 3, none⟩) (by simp) _⟩

set_option maxHeartbeats 1600000 in
set_option maxRecDepth 100000 in
theorem refGet_any (v : Value) (l : List Fld) (k : ByteArray) (w : World) (hm : l.length ≤ 4611686018427387904) (h : Rows v l w) :
    Calls Tryz.prog 17 #[v, .string k] w fun e w' => e = .returned (.tuple #[fldV (getF k.data.toList l), .bool (has l k.data.toList)]) ∧ Below w.heap.size w w' := by
  have hb0 := below_alloc w (.cells #[.string ⟨#[]⟩, .bool false, .int .i64 0, .string ⟨#[]⟩] 33)
  have hat := fun W h => find_any v l k W hm h
  by_cases hh : has l k.data.toList = true
  · rw [hh]
    obtain ⟨j, hj⟩ : ∃ j : Nat, findI k.data.toList l = (j : Int) := by
      have h1 := findI_ge k.data.toList l
      have h2 : findI k.data.toList l ≠ -1 := fun e => by rw [findI_none.1 e] at hh; cases hh
      exact ⟨(findI k.data.toList l).toNat, by omega⟩
    obtain ⟨hg, -⟩ := getF_at hj
    have hjl : j < l.length := (List.getElem?_eq_some_iff.1 hg).1
    rw [hj] at hat
    obtain ⟨F, hF⟩ : ∃ F, F = getF k.data.toList l := ⟨_, rfl⟩
    rw [← hF] at hg ⊢
    have HR := Lib.hid h
    obtain ⟨o, c, rfl, h⟩ := h
    obtain ⟨g, off, rfl, hc⟩ := h.resolve_left (fun e => by rw [e] at hjl; simp at hjl)
    obtain ⟨a0, a1, a2, a3⟩ := hc j F hg
    obtain ⟨a, ha⟩ : ∃ a : ByteArray, bs F.name = .string a := ⟨_, rfl⟩
    obtain ⟨s, hs⟩ : ∃ s : ByteArray, bs F.s = .string s := ⟨_, rfl⟩
    unfold fldV
    rw [ha] at a0 ⊢
    rw [hs] at a3 ⊢
    obtain ⟨N, hN⟩ : ∃ N, N = l.length := ⟨_, rfl⟩
    rw [← hN] at HR hjl hat ⊢
    have hj0 : (0 : Int) ≤ (j : Int) := by omega
    have hj1 : (j : Int) < (N : Int) := by omega
    clear ha hs hh hj hg hc hF hN h
    go_enter Tryz.func17, Tryz.ntmps17
    go_wp2_with (go_at_call 33; refine (hat _ (HR.out.keep hb0)).mono ?_; rintro e w2 ⟨rfl, hb2⟩; refine Hid.out ?_)
    refine Lib.hid ?_
    have hh : w2.heap[w.heap.size]? = some (.cells #[.string ⟨#[]⟩, .bool false, .int .i64 0, .string ⟨#[]⟩] 33 (0, 0)) := (hb2.block w.heap.size (by simp)).trans (heap_new w _)
    have z0 := Lib.cell_of_heap hh 0
    have z1 := Lib.cell_of_heap hh 1
    have z2 := Lib.cell_of_heap hh 2
    have z3 := Lib.cell_of_heap hh 3
    have f0 := Lib.frozen_of_heap hh 0
    have f1 := Lib.frozen_of_heap hh 1
    have f2 := Lib.frozen_of_heap hh 2
    have f3 := Lib.frozen_of_heap hh 3
    have hB : Below w.heap.size w w2 := below_then hb0 hb2
    replace a0 := keep_cell hB a0
    replace a1 := keep_cell hB a1
    replace a2 := keep_cell hB a2
    replace a3 := keep_cell hB a3
    clear hh
    go_wp2_with fail
    exact bodyPost_ret (v := .tuple #[.agg #[.string a, .bool F.text, .int .i64 F.n, .string s], .bool true]) (by simp [results, Tryz.results17, go_sem, z0, z1, z2, z3]) rfl ⟨rfl, (((hB.setCell (p := ⟨w.heap.size, 0, none⟩) (by simp) _).setCell (p := ⟨w.heap.size, 1, none⟩) (by simp) _).setCell (p := ⟨w.heap.size, 2, none⟩) (by simp) _).setCell (p := ⟨w.heap.size, 3, none⟩) (by simp) _⟩
  · have hh' : has l k.data.toList = false := by simpa using hh
    rw [findI_none.2 hh'] at hat
    rw [hh', getF_none hh']
    show Calls _ _ _ _ fun e w' => e = .returned (.tuple #[.agg #[.string ⟨#[]⟩, .bool false, .int .i64 0, .string ⟨#[]⟩], .bool false]) ∧ _
    have HR := Lib.hid h
    obtain ⟨o, c, rfl, -⟩ := h
    clear hh hh'
    go_enter Tryz.func17, Tryz.ntmps17
    go_wp2_with (go_at_call 33; refine (hat _ (HR.out.keep hb0)).mono ?_; rintro e w2 ⟨rfl, hb2⟩; refine Hid.out ?_)
    refine Lib.hid ?_
    have hh : w2.heap[w.heap.size]? = some (.cells #[.string ⟨#[]⟩, .bool false, .int .i64 0, .string ⟨#[]⟩] 33 (0, 0)) := (hb2.block w.heap.size (by simp)).trans (heap_new w _)
    have z0 := Lib.cell_of_heap hh 0
    have z1 := Lib.cell_of_heap hh 1
    have z2 := Lib.cell_of_heap hh 2
    have z3 := Lib.cell_of_heap hh 3
    have f0 := Lib.frozen_of_heap hh 0
    have f1 := Lib.frozen_of_heap hh 1
    have f2 := Lib.frozen_of_heap hh 2
    have f3 := Lib.frozen_of_heap hh 3
    have hB : Below w.heap.size w w2 := below_then hb0 hb2
    clear hh
    go_wp2_with fail
    exact bodyPost_ret (v := .tuple #[.agg #[.string ⟨#[]⟩, .bool false, .int .i64 0, .string ⟨#[]⟩], .bool false]) (by simp [results, Tryz.results17, go_sem, z0, z1, z2, z3]) rfl ⟨rfl, (((hB.setCell (p := ⟨w.heap.size, 0, none⟩) (by simp) _).setCell (p := ⟨w.heap.size, 1, none⟩) (by simp) _).setCell (p := ⟨w.heap.size, 2, none⟩) (by simp) _).setCell (p := ⟨w.heap.size, 3, none⟩) (by simp) _⟩

set_option maxHeartbeats 1600000 in
set_option maxRecDepth 100000 in
theorem Clone_any (v : Value) (l : List Fld) (w : World) (h : RowsC v l w) (hbd : l.length * 48 ≤ 140737488355328) :
    Calls Tryz.prog 44 #[v] w fun e w' => ∃ v', e = .returned v' ∧ w'.ownsRow w.heap.size 33 4 v' l.length (cellsF l) ∧ Below w.heap.size w w' := by
  have HR := Lib.hid h.rows
  have q22 : ∀ (w : World) (a : Option Addr) (n c n' c' : Nat), (binOp .eql 23 (.slice a n c) (.slice none n' c')).run Tryz.prog w = .ok (.bool a.isNone) w := fun w a n c n' c' => Lib.run_eql_slice_nil w _ _ a n c n' c' Tryz.underlying23
  rcases h with ⟨rfl, rfl⟩ | ⟨g, off, c, rfl, hlc, -⟩
  · go_enter Tryz.func44, Tryz.ntmps44
    go_wp2_with fail
    go_ret
    exact ⟨_, rfl, World.ownsRow_nil _ _ _ _, Below.refl _ _⟩
  · go_enter Tryz.func44, Tryz.ntmps44
    go_wp2_with (at_builtin; refine wpList_app rfl _ _ rfl w (below_alloc _ _) _ [] l rfl _ (Below.refl _ _) (own_made _ _ _ rfl (Nat.le_refl _)) _ rfl w (below_alloc _ _) HR.out (by simp only [List.length_nil]; omega) ?_; intro v1 w1 hown1 hb1 hgr1)
    go_wp2_with fail
    go_ret
    exact ⟨_, rfl, hown1, hb1⟩
end Go.Proofs.YtmcnblibnbkfjaaGreatDoor.W12
