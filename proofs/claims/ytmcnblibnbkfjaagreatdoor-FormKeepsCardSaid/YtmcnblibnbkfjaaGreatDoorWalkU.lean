/-
  Walks of layer 12: the reference's value. Conditions: the text is within Go's own limit.
-/
import Derived.Test.YtmcnblibnbkfjaaGreatDoorWalkT
import Derived.Test.YtmcnblibnbkfjaaGreatDoorWalkG
namespace Go.Proofs.YtmcnblibnbkfjaaGreatDoor.W12
open Go Go.RowKit P12
open Dig hiding By

set_option maxHeartbeats 1600000 in
set_option maxRecDepth 100000 in
theorem refValue_u (nm s U : ByteArray) (ok : Bool) (w : World) (hpos : 0 < s.size) (hq : s[0]'hpos = 39)
    (hun : ∀ W, Calls Tryz.prog 11 #[.string (s.extract 1 s.size)] W fun e w' => e = .returned (.tuple #[.string U, .bool ok]) ∧ Below W.heap.size W w') :
    Calls Tryz.prog 32 #[.string nm, .string s] w fun e w' => e = .returned (.tuple #[.agg #[.string nm, .bool true, .int .i64 0, .string U], .bool (ok && decide (U.size ≤ 200))]) ∧ Below w.heap.size w w' := by
  have hmin : (((s[0]'hpos).toNat : Int) == 39) = true := by rw [hq]; rfl
  clear hq
  obtain ⟨okk, hok⟩ : ∃ b, b = (ok && decide (U.size ≤ 200)) := ⟨_, rfl⟩
  rw [← hok]
  cases ok with
  | false =>
    simp only [Bool.false_and] at hok
    subst hok
    go_enter Tryz.func32, Tryz.ntmps32
    go_wp2_with (first
      | (go_at_call 11; refine (hun _).mono ?_; rintro e w2 ⟨rfl, hb2⟩; refine Hid.out ?_))
    refine Lib.hid ?_
    have hh : w2.heap[w.heap.size]? = some (.cells #[.string ⟨#[]⟩, .bool false, .int .i64 0, .string ⟨#[]⟩] 33 (0, 0)) := (hb2.block w.heap.size (by simp)).trans (heap_new w _)
    have z0 := Lib.cell_of_heap hh 0
    have z1 := Lib.cell_of_heap hh 1
    have z2 := Lib.cell_of_heap hh 2
    have z3 := Lib.cell_of_heap hh 3
    have f0 := Lib.frozen_of_heap hh 0
    have f1 := Lib.frozen_of_heap hh 1
    have f2 := Lib.frozen_of_heap hh 2
    have f3 := Lib.frozen_of_heap hh 3
    have hB : Below w.heap.size w w2 := below_then (below_alloc w _) hb2
    clear hh
    go_wp2_with fail
    exact bodyPost_ret (v := .tuple #[.agg #[.string nm, .bool true, .int .i64 0, .string U], .bool false]) (by simp [results, Tryz.results32, go_sem, z0, z1, z2, z3]) rfl ⟨rfl, (((hB.setCell (p := ⟨w.heap.size, 0, none⟩) (by simp) _).setCell (p := ⟨w.heap.size, 1, none⟩) (by simp) _).setCell (p := ⟨w.heap.size, 2, none⟩) (by simp) _).setCell (p := ⟨w.heap.size, 3, none⟩) (by simp) _⟩
  | true =>
    simp only [Bool.true_and] at hok
    by_cases hl : U.size ≤ 200
    · rw [decide_eq_true hl] at hok
      subst hok
      go_enter Tryz.func32, Tryz.ntmps32
      go_wp2_with (first
        | (go_at_call 11; refine (hun _).mono ?_; rintro e w2 ⟨rfl, hb2⟩; refine Hid.out ?_))
      refine Lib.hid ?_
      have hh : w2.heap[w.heap.size]? = some (.cells #[.string ⟨#[]⟩, .bool false, .int .i64 0, .string ⟨#[]⟩] 33 (0, 0)) := (hb2.block w.heap.size (by simp)).trans (heap_new w _)
      have z0 := Lib.cell_of_heap hh 0
      have z1 := Lib.cell_of_heap hh 1
      have z2 := Lib.cell_of_heap hh 2
      have z3 := Lib.cell_of_heap hh 3
      have f0 := Lib.frozen_of_heap hh 0
      have f1 := Lib.frozen_of_heap hh 1
      have f2 := Lib.frozen_of_heap hh 2
      have f3 := Lib.frozen_of_heap hh 3
      have hB : Below w.heap.size w w2 := below_then (below_alloc w _) hb2
      clear hh
      go_wp2_with fail
      exact bodyPost_ret (v := .tuple #[.agg #[.string nm, .bool true, .int .i64 0, .string U], .bool true]) (by simp [results, Tryz.results32, go_sem, z0, z1, z2, z3] <;> omega) rfl ⟨rfl, (((hB.setCell (p := ⟨w.heap.size, 0, none⟩) (by simp) _).setCell (p := ⟨w.heap.size, 1, none⟩) (by simp) _).setCell (p := ⟨w.heap.size, 2, none⟩) (by simp) _).setCell (p := ⟨w.heap.size, 3, none⟩) (by simp) _⟩
    · rw [decide_eq_false hl] at hok
      subst hok
      go_enter Tryz.func32, Tryz.ntmps32
      go_wp2_with (first
        | (go_at_call 11; refine (hun _).mono ?_; rintro e w2 ⟨rfl, hb2⟩; refine Hid.out ?_))
      refine Lib.hid ?_
      have hh : w2.heap[w.heap.size]? = some (.cells #[.string ⟨#[]⟩, .bool false, .int .i64 0, .string ⟨#[]⟩] 33 (0, 0)) := (hb2.block w.heap.size (by simp)).trans (heap_new w _)
      have z0 := Lib.cell_of_heap hh 0
      have z1 := Lib.cell_of_heap hh 1
      have z2 := Lib.cell_of_heap hh 2
      have z3 := Lib.cell_of_heap hh 3
      have f0 := Lib.frozen_of_heap hh 0
      have f1 := Lib.frozen_of_heap hh 1
      have f2 := Lib.frozen_of_heap hh 2
      have f3 := Lib.frozen_of_heap hh 3
      have hB : Below w.heap.size w w2 := below_then (below_alloc w _) hb2
      clear hh
      go_wp2_with fail
      exact bodyPost_ret (v := .tuple #[.agg #[.string nm, .bool true, .int .i64 0, .string U], .bool false]) (by simp [results, Tryz.results32, go_sem, z0, z1, z2, z3] <;> omega) rfl ⟨rfl, (((hB.setCell (p := ⟨w.heap.size, 0, none⟩) (by simp) _).setCell (p := ⟨w.heap.size, 1, none⟩) (by simp) _).setCell (p := ⟨w.heap.size, 2, none⟩) (by simp) _).setCell (p := ⟨w.heap.size, 3, none⟩) (by simp) _⟩

set_option maxHeartbeats 1600000 in
set_option maxRecDepth 100000 in
theorem refValue_n (nm s : ByteArray) (n : Int) (ok : Bool) (w : World) (hq : s.data.toList.head? ≠ some 39)
    (hun : ∀ W, Calls Tryz.prog 58 #[.string s] W fun e w' => e = .returned (.tuple #[.int .i64 n, .bool ok]) ∧ Below W.heap.size W w') :
    Calls Tryz.prog 32 #[.string nm, .string s] w fun e w' => e = .returned (.tuple #[.agg #[.string nm, .bool false, .int .i64 n, .string ⟨#[]⟩], .bool ok]) ∧ Below w.heap.size w w' := by
  by_cases hpos : 0 < s.size
  · have hhead := head_at s hpos
    rw [hhead] at hq
    have hmin : (((s[0]'hpos).toNat : Int) == 39) = false := by
      rw [beq_eq_false_iff_ne]
      intro e
      apply hq
      congr 1
      apply UInt8.toNat_inj.1
      have : ((39 : UInt8).toNat) = 39 := rfl
      omega
    clear hq hhead
    go_enter Tryz.func32, Tryz.ntmps32
    go_wp2_with (first
      | (go_at_call 58; refine (hun _).mono ?_; rintro e w2 ⟨rfl, hb2⟩; refine Hid.out ?_))
    refine Lib.hid ?_
    have hh : w2.heap[w.heap.size]? = some (.cells #[.string ⟨#[]⟩, .bool false, .int .i64 0, .string ⟨#[]⟩] 33 (0, 0)) := (hb2.block w.heap.size (by simp)).trans (heap_new w _)
    have z0 := Lib.cell_of_heap hh 0
    have z1 := Lib.cell_of_heap hh 1
    have z2 := Lib.cell_of_heap hh 2
    have z3 := Lib.cell_of_heap hh 3
    have f0 := Lib.frozen_of_heap hh 0
    have f1 := Lib.frozen_of_heap hh 1
    have f2 := Lib.frozen_of_heap hh 2
    have f3 := Lib.frozen_of_heap hh 3
    have hB : Below w.heap.size w w2 := below_then (below_alloc w _) hb2
    clear hh
    go_wp2_with fail
    exact bodyPost_ret (v := .tuple #[.agg #[.string nm, .bool false, .int .i64 n, .string ⟨#[]⟩], .bool ok]) (by simp [results, Tryz.results32, go_sem, z0, z1, z2, z3]) rfl ⟨rfl, (((hB.setCell (p := ⟨w.heap.size, 0, none⟩) (by simp) _).setCell (p := ⟨w.heap.size, 1, none⟩) (by simp) _).setCell (p := ⟨w.heap.size, 2, none⟩) (by simp) _).setCell (p := ⟨w.heap.size, 3, none⟩) (by simp) _⟩
  · have hz : s.size = 0 := by omega
    clear hq
    go_enter Tryz.func32, Tryz.ntmps32
    go_wp2_with (first
      | (go_at_call 58; refine (hun _).mono ?_; rintro e w2 ⟨rfl, hb2⟩; refine Hid.out ?_))
    refine Lib.hid ?_
    have hh : w2.heap[w.heap.size]? = some (.cells #[.string ⟨#[]⟩, .bool false, .int .i64 0, .string ⟨#[]⟩] 33 (0, 0)) := (hb2.block w.heap.size (by simp)).trans (heap_new w _)
    have z0 := Lib.cell_of_heap hh 0
    have z1 := Lib.cell_of_heap hh 1
    have z2 := Lib.cell_of_heap hh 2
    have z3 := Lib.cell_of_heap hh 3
    have f0 := Lib.frozen_of_heap hh 0
    have f1 := Lib.frozen_of_heap hh 1
    have f2 := Lib.frozen_of_heap hh 2
    have f3 := Lib.frozen_of_heap hh 3
    have hB : Below w.heap.size w w2 := below_then (below_alloc w _) hb2
    clear hh
    go_wp2_with fail
    exact bodyPost_ret (v := .tuple #[.agg #[.string nm, .bool false, .int .i64 n, .string ⟨#[]⟩], .bool ok]) (by simp [results, Tryz.results32, go_sem, z0, z1, z2, z3]) rfl ⟨rfl, (((hB.setCell (p := ⟨w.heap.size, 0, none⟩) (by simp) _).setCell (p := ⟨w.heap.size, 1, none⟩) (by simp) _).setCell (p := ⟨w.heap.size, 2, none⟩) (by simp) _).setCell (p := ⟨w.heap.size, 3, none⟩) (by simp) _⟩

theorem refValueOf_any (nm s : ByteArray) (w : World) (hs : s.size ≤ 140737488355328) :
    Calls Tryz.prog 32 #[.string nm, .string s] w fun e w' => (∃ (b : Bool) (n : Int) (u : ByteArray) (ok : Bool), e = .returned (.tuple #[.agg #[.string nm, .bool b, .int .i64 n, .string u], .bool ok]) ∧
      valueL nm.data.toList s.data.toList = if ok = true then some ⟨nm.data.toList, b, n, u.data.toList⟩ else none) ∧ Below w.heap.size w w' := by
  by_cases hq : s.data.toList.head? = some 39
  · have hpos : 0 < s.size := by
      rw [← size_data]
      cases hl : s.data.toList with
      | nil => rw [hl] at hq; cases hq
      | cons a l => simp
    have hh := head_at s hpos
    rw [hq] at hh
    obtain ⟨t1, t2⟩ := tail_extract s hpos
    have hun := fun W => refUnescaped_any (s.extract 1 s.size) W (by omega)
    rw [t1] at hun
    cases hu : unescL s.data.toList.tail with
    | some u =>
      rw [hu] at hun
      refine (refValue_u nm s ⟨u.toArray⟩ true w hpos (Option.some.inj hh).symm hun).mono fun e w' ⟨he, hb⟩ => ⟨⟨_, _, _, _, he, ?_⟩, hb⟩
      by_cases hl : u.length ≤ 200
      · have : (⟨u.toArray⟩ : ByteArray).size ≤ 200 := by rw [size_mk]; exact hl
        simp [valueL, hq, hu, hl, size_mk]
      · simp [valueL, hq, hu, hl, size_mk]
    | none =>
      rw [hu] at hun
      refine (refValue_u nm s ⟨#[]⟩ false w hpos (Option.some.inj hh).symm hun).mono fun e w' ⟨he, hb⟩ => ⟨⟨_, _, _, _, he, ?_⟩, hb⟩
      simp [valueL, hq, hu]
  · have hun := fun W => Number_any s W hs
    cases hu : numL s.data.toList with
    | some n =>
      rw [hu] at hun
      refine (refValue_n nm s n true w hq hun).mono fun e w' ⟨he, hb⟩ => ⟨⟨_, _, _, _, he, ?_⟩, hb⟩
      simp [valueL, hq, hu]
    | none =>
      rw [hu] at hun
      refine (refValue_n nm s 0 false w hq hun).mono fun e w' ⟨he, hb⟩ => ⟨⟨_, _, _, _, he, ?_⟩, hb⟩
      simp [valueL, hq, hu]
end Go.Proofs.YtmcnblibnbkfjaaGreatDoor.W12
