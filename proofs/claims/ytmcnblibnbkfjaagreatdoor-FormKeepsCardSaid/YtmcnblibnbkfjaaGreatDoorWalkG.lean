/-
  Walks of layer 12: strings.Cut at one byte; a value's text. Conditions: the library's error values and its table; the text is within Go's own limit.
-/
import Derived.Test.YtmcnblibnbkfjaaGreatDoorWalkF
import Derived.Lib.CutLaws
namespace Go.Proofs.YtmcnblibnbkfjaaGreatDoor.W12
open Go Go.RowKit P12
open Dig hiding By

set_option maxHeartbeats 800000 in
set_option maxRecDepth 100000 in
theorem slCut_any (s : ByteArray) (c : UInt8) (w : World) (hs : s.size ≤ 9223372036854775000) :
    Calls Tryz.prog 52 #[.string s, .string ⟨#[c]⟩] w fun e w' => e = .returned (.tuple #[bs (cutL c s.data.toList).1, bs (cutL c s.data.toList).2.1, .bool (cutL c s.data.toList).2.2]) ∧ Below w.heap.size w w' := by
  have hidx : Lib.indexB s ⟨#[c]⟩ = Lib.indexByte s.data.toList c := Lib.index_one _ _
  have hcon := fun W => Tryz.stringslite_Index_one s c W
  rw [← hidx] at hcon
  have hcl := cut_one c s.data.toList
  rcases Lib.indexB_cases s ⟨#[c]⟩ with h | ⟨i, h, hi⟩
  · obtain ⟨h1, h2, h3⟩ := Lib.cutB_miss s ⟨#[c]⟩ h
    change (⟨(Lib.cut s.data.toList [c]).1.toArray⟩ : ByteArray) = _ at h1
    change (⟨(Lib.cut s.data.toList [c]).2.1.toArray⟩ : ByteArray) = _ at h2
    change (Lib.cut s.data.toList [c]).2.2 = _ at h3
    rw [hcl] at h1 h2 h3
    rw [h] at hcon
    have H1 := Lib.hid h1
    have H2 := Lib.hid h2
    have H3 := Lib.hid h3
    clear hcl h1 h2 h3 h hidx
    go_enter Tryz.func52, Tryz.ntmps52
    go_wp2_with (go_at_call 68; refine (hcon _).mono ?_; rintro e w' ⟨rfl, rfl⟩)
    go_ret3
    exact ⟨by unfold bs; rw [H1.out, H2.out, H3.out]; rfl, Below.refl _ _⟩
  · obtain ⟨h1, h2, h3⟩ := Lib.cutB_hit s ⟨#[c]⟩ i h
    change (⟨(Lib.cut s.data.toList [c]).1.toArray⟩ : ByteArray) = _ at h1
    change (⟨(Lib.cut s.data.toList [c]).2.1.toArray⟩ : ByteArray) = _ at h2
    change (Lib.cut s.data.toList [c]).2.2 = _ at h3
    rw [hcl] at h1 h2 h3
    rw [h] at hcon
    have hi1 : i + 1 ≤ s.size := hi
    have i0 : (0 : Int) ≤ (i : Int) := by omega
    have i1 : (i : Int) ≤ (s.size : Int) := by omega
    have i2 : (i : Int) + 1 ≤ (s.size : Int) := by omega
    have i3 : (0 : Int) ≤ (i : Int) + 1 := by omega
    have H1 := Lib.hid h1
    have H2 := Lib.hid h2
    have H3 := Lib.hid h3
    clear hcl h1 h2 h3 h hidx hi
    go_enter Tryz.func52, Tryz.ntmps52
    go_wp2_with (go_at_call 68; refine (hcon _).mono ?_; rintro e w' ⟨rfl, rfl⟩)
    go_quiet (fail)
    go_wp2_with fail
    go_ret3
    exact ⟨by unfold bs; rw [H1.out, H2.out, H3.out]; rfl, below_drewN _ _⟩

set_option maxHeartbeats 800000 in
theorem Cut_any (s : ByteArray) (c : UInt8) (w : World) (hs : s.size ≤ 9223372036854775000) :
    Calls Tryz.prog 26 #[.string s, .string ⟨#[c]⟩] w fun e w' => e = .returned (.tuple #[bs (cutL c s.data.toList).1, bs (cutL c s.data.toList).2.1, .bool (cutL c s.data.toList).2.2]) ∧ Below w.heap.size w w' := by
  have hcon := fun W => slCut_any s c W hs
  generalize cutL c s.data.toList = r at hcon ⊢
  obtain ⟨a, b, d⟩ := r
  simp only at hcon ⊢
  go_enter Tryz.func26, Tryz.ntmps26
  go_wp2_with (go_at_call 52; refine (hcon _).mono ?_; rintro e w' ⟨rfl, hb⟩)
  go_ret3
  exact ⟨rfl, hb⟩

def fldV (f : Fld) : Value := .agg #[bs f.name, .bool f.text, .int .i64 f.n, bs f.s]
theorem quote_yes {s : By} (h : s.head? = some 39) : Lib.hasPrefix s [39] = true ∧ Lib.trimPrefix s [39] = s.tail := by
  cases s with
  | nil => simp at h
  | cons c l =>
    simp at h
    subst h
    constructor
    · simp [Lib.hasPrefix]
    · simp [Lib.trimPrefix, Lib.hasPrefix]
theorem quote_no {s : By} (h : s.head? ≠ some 39) : Lib.hasPrefix s [39] = false ∧ Lib.trimPrefix s [39] = s := by
  have h1 : Lib.hasPrefix s [39] = false := by
    cases s with
    | nil => rfl
    | cons c l =>
      simp at h
      have h' : ((39 : UInt8) == c) = false := by rw [beq_eq_false_iff_ne]; exact Ne.symm h
      simp [Lib.hasPrefix, List.isPrefixOf, h']
  exact ⟨h1, by unfold Lib.trimPrefix; rw [h1]; rfl⟩
theorem unescL_len : ∀ (n : Nat) (l u : By), l.length ≤ n → unescL l = some u → u.length ≤ l.length
  | _, [], u, _, h => by rw [unesc_nil] at h; injection h with h; subst h; simp
  | 0, c :: l, u, hn, _ => by simp at hn
  | n + 1, c :: l, u, hn, h => by
    by_cases hp : plainC c = true
    · rw [unesc_plain hp] at h
      cases hl : unescL l with
      | none => rw [hl] at h; cases h
      | some v =>
        rw [hl] at h
        injection h with h
        subst h
        have := unescL_len n l v (by simp at hn; omega) hl
        simp; omega
    · by_cases h37 : c = 37
      · subst h37
        match l, h, hn with
        | [], h, _ => rw [unesc_short0] at h; cases h
        | [a], h, _ => rw [unesc_short1] at h; cases h
        | a :: b :: l', h, hn =>
          rw [unesc_two] at h
          cases hx : hexP 0 [a, b] with
          | none => rw [hx] at h; cases h
          | some v =>
            rw [hx] at h
            simp only at h
            cases hl : unescL l' with
            | none => rw [hl] at h; cases h
            | some v' =>
              rw [hl] at h
              injection h with h
              subst h
              have := unescL_len n l' v' (by simp at hn; omega) hl
              simp; omega
      · rw [unesc_none (by simpa using hp) h37] at h; cases h

set_option maxHeartbeats 1600000 in
set_option maxRecDepth 100000 in
theorem value_u1 (nm s t U : ByteArray) (w : World) (hE : Env w) (hcut : ∀ W, Calls Tryz.prog 53 #[.string s, .string ⟨#[39]⟩] W fun e w' => e = .returned (.tuple #[.string t, .bool true]) ∧ w' = W)
    (hun : ∀ W, Env W → Calls Tryz.prog 10 #[.string t] W fun e w' => e = .returned (.tuple #[.string U, .bool true]) ∧ Below W.heap.size W w') (hl : U.size ≤ 200) :
    Calls Tryz.prog 27 #[.string nm, .string s] w fun e w' => e = .returned (.tuple #[.agg #[.string nm, .bool true, .int .i64 0, .string U], .bool true]) ∧ Below w.heap.size w w' := by
  have hE1 := hE.new (.cells #[.string ⟨#[]⟩, .bool false, .int .i64 0, .string ⟨#[]⟩] 33)
  go_enter Tryz.func27, Tryz.ntmps27
  go_wp2_with (first
    | (go_at_call 53; refine (hcut _).mono ?_; rintro e w1 ⟨rfl, rfl⟩)
    | (go_at_call 10; refine (hun _ hE1).mono ?_; rintro e w2 ⟨rfl, hb2⟩; refine Hid.out ?_))
  refine Lib.hid ?_
  have hh : w2.heap[w.heap.size]? = some (.cells #[.string ⟨#[]⟩, .bool false, .int .i64 0, .string ⟨#[]⟩] 33 (0, 0)) := (hb2.block w.heap.size (by simp)).trans (heap_new w _)
  have z0 := Lib.cell_of_heap hh 0
  have z1 := Lib.cell_of_heap hh 1
  have z2 := Lib.cell_of_heap hh 2
  have z3 := Lib.cell_of_heap hh 3
  have f0 := Lib.frozen_of_heap hh 0
  have f1 := Lib.frozen_of_heap hh 1
  have f2 := Lib.frozen_of_heap hh 2
  have f3 := Lib.frozen_of_heap hh 3
  have hB : Below w.heap.size w w2 := below_then (below_alloc w _) hb2
  clear hh
  go_wp2_with fail
  exact bodyPost_ret (v := .tuple #[.agg #[.string nm, .bool true, .int .i64 0, .string U], .bool true]) (by simp [results, Tryz.results27, go_sem, z0, z1, z2, z3] <;> omega) rfl ⟨rfl, (((hB.setCell (p := ⟨w.heap.size, 0, none⟩) (by simp) _).setCell (p := ⟨w.heap.size, 1, none⟩) (by simp) _).setCell (p := ⟨w.heap.size, 2, none⟩) (by simp) _).setCell (p := ⟨w.heap.size, 3, none⟩) (by simp) _⟩

set_option maxHeartbeats 1600000 in
set_option maxRecDepth 100000 in
theorem value_u2 (nm s t U : ByteArray) (w : World) (hE : Env w) (hcut : ∀ W, Calls Tryz.prog 53 #[.string s, .string ⟨#[39]⟩] W fun e w' => e = .returned (.tuple #[.string t, .bool true]) ∧ w' = W)
    (hun : ∀ W, Env W → Calls Tryz.prog 10 #[.string t] W fun e w' => e = .returned (.tuple #[.string U, .bool true]) ∧ Below W.heap.size W w') (hl : ¬ U.size ≤ 200) :
    Calls Tryz.prog 27 #[.string nm, .string s] w fun e w' => e = .returned (.tuple #[.agg #[.string nm, .bool true, .int .i64 0, .string U], .bool false]) ∧ Below w.heap.size w w' := by
  have hE1 := hE.new (.cells #[.string ⟨#[]⟩, .bool false, .int .i64 0, .string ⟨#[]⟩] 33)
  go_enter Tryz.func27, Tryz.ntmps27
  go_wp2_with (first
    | (go_at_call 53; refine (hcut _).mono ?_; rintro e w1 ⟨rfl, rfl⟩)
    | (go_at_call 10; refine (hun _ hE1).mono ?_; rintro e w2 ⟨rfl, hb2⟩; refine Hid.out ?_))
  refine Lib.hid ?_
  have hh : w2.heap[w.heap.size]? = some (.cells #[.string ⟨#[]⟩, .bool false, .int .i64 0, .string ⟨#[]⟩] 33 (0, 0)) := (hb2.block w.heap.size (by simp)).trans (heap_new w _)
  have z0 := Lib.cell_of_heap hh 0
  have z1 := Lib.cell_of_heap hh 1
  have z2 := Lib.cell_of_heap hh 2
  have z3 := Lib.cell_of_heap hh 3
  have f0 := Lib.frozen_of_heap hh 0
  have f1 := Lib.frozen_of_heap hh 1
  have f2 := Lib.frozen_of_heap hh 2
  have f3 := Lib.frozen_of_heap hh 3
  have hB : Below w.heap.size w w2 := below_then (below_alloc w _) hb2
  clear hh
  go_wp2_with fail
  exact bodyPost_ret (v := .tuple #[.agg #[.string nm, .bool true, .int .i64 0, .string U], .bool false]) (by simp [results, Tryz.results27, go_sem, z0, z1, z2, z3] <;> omega) rfl ⟨rfl, (((hB.setCell (p := ⟨w.heap.size, 0, none⟩) (by simp) _).setCell (p := ⟨w.heap.size, 1, none⟩) (by simp) _).setCell (p := ⟨w.heap.size, 2, none⟩) (by simp) _).setCell (p := ⟨w.heap.size, 3, none⟩) (by simp) _⟩

set_option maxHeartbeats 1600000 in
set_option maxRecDepth 100000 in
theorem value_u3 (nm s t U : ByteArray) (w : World) (hE : Env w) (hcut : ∀ W, Calls Tryz.prog 53 #[.string s, .string ⟨#[39]⟩] W fun e w' => e = .returned (.tuple #[.string t, .bool true]) ∧ w' = W)
    (hun : ∀ W, Env W → Calls Tryz.prog 10 #[.string t] W fun e w' => e = .returned (.tuple #[.string U, .bool false]) ∧ Below W.heap.size W w') :
    Calls Tryz.prog 27 #[.string nm, .string s] w fun e w' => e = .returned (.tuple #[.agg #[.string nm, .bool true, .int .i64 0, .string U], .bool false]) ∧ Below w.heap.size w w' := by
  have hE1 := hE.new (.cells #[.string ⟨#[]⟩, .bool false, .int .i64 0, .string ⟨#[]⟩] 33)
  go_enter Tryz.func27, Tryz.ntmps27
  go_wp2_with (first
    | (go_at_call 53; refine (hcut _).mono ?_; rintro e w1 ⟨rfl, rfl⟩)
    | (go_at_call 10; refine (hun _ hE1).mono ?_; rintro e w2 ⟨rfl, hb2⟩; refine Hid.out ?_))
  refine Lib.hid ?_
  have hh : w2.heap[w.heap.size]? = some (.cells #[.string ⟨#[]⟩, .bool false, .int .i64 0, .string ⟨#[]⟩] 33 (0, 0)) := (hb2.block w.heap.size (by simp)).trans (heap_new w _)
  have z0 := Lib.cell_of_heap hh 0
  have z1 := Lib.cell_of_heap hh 1
  have z2 := Lib.cell_of_heap hh 2
  have z3 := Lib.cell_of_heap hh 3
  have f0 := Lib.frozen_of_heap hh 0
  have f1 := Lib.frozen_of_heap hh 1
  have f2 := Lib.frozen_of_heap hh 2
  have f3 := Lib.frozen_of_heap hh 3
  have hB : Below w.heap.size w w2 := below_then (below_alloc w _) hb2
  clear hh
  go_wp2_with fail
  exact bodyPost_ret (v := .tuple #[.agg #[.string nm, .bool true, .int .i64 0, .string U], .bool false]) (by simp [results, Tryz.results27, go_sem, z0, z1, z2, z3]) rfl ⟨rfl, (((hB.setCell (p := ⟨w.heap.size, 0, none⟩) (by simp) _).setCell (p := ⟨w.heap.size, 1, none⟩) (by simp) _).setCell (p := ⟨w.heap.size, 2, none⟩) (by simp) _).setCell (p := ⟨w.heap.size, 3, none⟩) (by simp) _⟩

set_option maxHeartbeats 1600000 in
set_option maxRecDepth 100000 in
theorem value_n1 (nm s : ByteArray) (n : Int) (w : World) (hE : Env w) (hcut : ∀ W, Calls Tryz.prog 53 #[.string s, .string ⟨#[39]⟩] W fun e w' => e = .returned (.tuple #[.string s, .bool false]) ∧ w' = W)
    (hat : ∀ W, Calls Tryz.prog 54 #[.string s] W fun e w' => e = .returned (.tuple #[.int .i64 n, .nilIface]) ∧ Below W.heap.size W w') (X : ByteArray) (hit : ∀ W, Env W → Calls Tryz.prog 51 #[.int .i64 n] W fun e w' => e = .returned (.string X) ∧ Below W.heap.size W w') (hX : (X.toList == s.toList) = true) :
    Calls Tryz.prog 27 #[.string nm, .string s] w fun e w' => e = .returned (.tuple #[.agg #[.string nm, .bool false, .int .i64 n, .string ⟨#[]⟩], .bool true]) ∧ Below w.heap.size w w' := by
  have hE1 := hE.new (.cells #[.string ⟨#[]⟩, .bool false, .int .i64 0, .string ⟨#[]⟩] 33)
  go_enter Tryz.func27, Tryz.ntmps27
  go_wp2_with (first
    | (go_at_call 53; refine (hcut _).mono ?_; rintro e w1 ⟨rfl, rfl⟩)
    | (go_at_call 54; refine (hat _).mono ?_; rintro e w3 ⟨rfl, hb3⟩; have hE3 := hE1.keep hb3)
    | (go_at_call 51; refine (hit _ hE3).mono ?_; rintro e w2 ⟨rfl, hb4⟩; have hb2 := below_then hb3 hb4; refine Hid.out ?_))
  refine Lib.hid ?_
  have hh : w2.heap[w.heap.size]? = some (.cells #[.string ⟨#[]⟩, .bool false, .int .i64 0, .string ⟨#[]⟩] 33 (0, 0)) := (hb2.block w.heap.size (by simp)).trans (heap_new w _)
  have z0 := Lib.cell_of_heap hh 0
  have z1 := Lib.cell_of_heap hh 1
  have z2 := Lib.cell_of_heap hh 2
  have z3 := Lib.cell_of_heap hh 3
  have f0 := Lib.frozen_of_heap hh 0
  have f1 := Lib.frozen_of_heap hh 1
  have f2 := Lib.frozen_of_heap hh 2
  have f3 := Lib.frozen_of_heap hh 3
  have hB : Below w.heap.size w w2 := below_then (below_alloc w _) hb2
  clear hh
  go_wp2_with fail
  exact bodyPost_ret (v := .tuple #[.agg #[.string nm, .bool false, .int .i64 n, .string ⟨#[]⟩], .bool true]) (by simp [results, Tryz.results27, go_sem, z0, z1, z2, z3]) rfl ⟨rfl, (((hB.setCell (p := ⟨w.heap.size, 0, none⟩) (by simp) _).setCell (p := ⟨w.heap.size, 1, none⟩) (by simp) _).setCell (p := ⟨w.heap.size, 2, none⟩) (by simp) _).setCell (p := ⟨w.heap.size, 3, none⟩) (by simp) _⟩

set_option maxHeartbeats 1600000 in
set_option maxRecDepth 100000 in
theorem value_n2 (nm s : ByteArray) (n : Int) (w : World) (hE : Env w) (hcut : ∀ W, Calls Tryz.prog 53 #[.string s, .string ⟨#[39]⟩] W fun e w' => e = .returned (.tuple #[.string s, .bool false]) ∧ w' = W)
    (hat : ∀ W, Calls Tryz.prog 54 #[.string s] W fun e w' => e = .returned (.tuple #[.int .i64 n, .nilIface]) ∧ Below W.heap.size W w') (X : ByteArray) (hit : ∀ W, Env W → Calls Tryz.prog 51 #[.int .i64 n] W fun e w' => e = .returned (.string X) ∧ Below W.heap.size W w') (hX : (X.toList == s.toList) = false) :
    Calls Tryz.prog 27 #[.string nm, .string s] w fun e w' => e = .returned (.tuple #[.agg #[.string nm, .bool false, .int .i64 n, .string ⟨#[]⟩], .bool false]) ∧ Below w.heap.size w w' := by
  have hE1 := hE.new (.cells #[.string ⟨#[]⟩, .bool false, .int .i64 0, .string ⟨#[]⟩] 33)
  go_enter Tryz.func27, Tryz.ntmps27
  go_wp2_with (first
    | (go_at_call 53; refine (hcut _).mono ?_; rintro e w1 ⟨rfl, rfl⟩)
    | (go_at_call 54; refine (hat _).mono ?_; rintro e w3 ⟨rfl, hb3⟩; have hE3 := hE1.keep hb3)
    | (go_at_call 51; refine (hit _ hE3).mono ?_; rintro e w2 ⟨rfl, hb4⟩; have hb2 := below_then hb3 hb4; refine Hid.out ?_))
  refine Lib.hid ?_
  have hh : w2.heap[w.heap.size]? = some (.cells #[.string ⟨#[]⟩, .bool false, .int .i64 0, .string ⟨#[]⟩] 33 (0, 0)) := (hb2.block w.heap.size (by simp)).trans (heap_new w _)
  have z0 := Lib.cell_of_heap hh 0
  have z1 := Lib.cell_of_heap hh 1
  have z2 := Lib.cell_of_heap hh 2
  have z3 := Lib.cell_of_heap hh 3
  have f0 := Lib.frozen_of_heap hh 0
  have f1 := Lib.frozen_of_heap hh 1
  have f2 := Lib.frozen_of_heap hh 2
  have f3 := Lib.frozen_of_heap hh 3
  have hB : Below w.heap.size w w2 := below_then (below_alloc w _) hb2
  clear hh
  go_wp2_with fail
  exact bodyPost_ret (v := .tuple #[.agg #[.string nm, .bool false, .int .i64 n, .string ⟨#[]⟩], .bool false]) (by simp [results, Tryz.results27, go_sem, z0, z1, z2, z3]) rfl ⟨rfl, (((hB.setCell (p := ⟨w.heap.size, 0, none⟩) (by simp) _).setCell (p := ⟨w.heap.size, 1, none⟩) (by simp) _).setCell (p := ⟨w.heap.size, 2, none⟩) (by simp) _).setCell (p := ⟨w.heap.size, 3, none⟩) (by simp) _⟩

set_option maxHeartbeats 1600000 in
set_option maxRecDepth 100000 in
theorem value_n3 (nm s : ByteArray) (n : Int) (w : World) (hE : Env w) (hcut : ∀ W, Calls Tryz.prog 53 #[.string s, .string ⟨#[39]⟩] W fun e w' => e = .returned (.tuple #[.string s, .bool false]) ∧ w' = W)
    (hat : ∀ W, Env W → Calls Tryz.prog 54 #[.string s] W fun e w' => (∃ N, e = .returned (.tuple #[.int .i64 n, .iface 105 (.pointer (some ⟨N, 0, none⟩))])) ∧ Below W.heap.size W w') :
    Calls Tryz.prog 27 #[.string nm, .string s] w fun e w' => e = .returned (.tuple #[.agg #[.string nm, .bool false, .int .i64 n, .string ⟨#[]⟩], .bool false]) ∧ Below w.heap.size w w' := by
  have hE1 := hE.new (.cells #[.string ⟨#[]⟩, .bool false, .int .i64 0, .string ⟨#[]⟩] 33)
  go_enter Tryz.func27, Tryz.ntmps27
  go_wp2_with (first
    | (go_at_call 53; refine (hcut _).mono ?_; rintro e w1 ⟨rfl, rfl⟩)
    | (go_at_call 54; refine (hat _ hE1).mono ?_; rintro e w2 ⟨⟨N, rfl⟩, hb2⟩; refine Hid.out ?_))
  refine Lib.hid ?_
  have hh : w2.heap[w.heap.size]? = some (.cells #[.string ⟨#[]⟩, .bool false, .int .i64 0, .string ⟨#[]⟩] 33 (0, 0)) := (hb2.block w.heap.size (by simp)).trans (heap_new w _)
  have z0 := Lib.cell_of_heap hh 0
  have z1 := Lib.cell_of_heap hh 1
  have z2 := Lib.cell_of_heap hh 2
  have z3 := Lib.cell_of_heap hh 3
  have f0 := Lib.frozen_of_heap hh 0
  have f1 := Lib.frozen_of_heap hh 1
  have f2 := Lib.frozen_of_heap hh 2
  have f3 := Lib.frozen_of_heap hh 3
  have hB : Below w.heap.size w w2 := below_then (below_alloc w _) hb2
  clear hh
  go_wp2_with fail
  exact bodyPost_ret (v := .tuple #[.agg #[.string nm, .bool false, .int .i64 n, .string ⟨#[]⟩], .bool false]) (by simp [results, Tryz.results27, go_sem, z0, z1, z2, z3]) rfl ⟨rfl, (((hB.setCell (p := ⟨w.heap.size, 0, none⟩) (by simp) _).setCell (p := ⟨w.heap.size, 1, none⟩) (by simp) _).setCell (p := ⟨w.heap.size, 2, none⟩) (by simp) _).setCell (p := ⟨w.heap.size, 3, none⟩) (by simp) _⟩


/-- A value's text, read: its field, or false. -/
theorem value_any (nm s : ByteArray) (w : World) (hE : Env w) (hs : s.size ≤ 140737488355328) :
    Calls Tryz.prog 27 #[.string nm, .string s] w fun e w' => (∃ (b : Bool) (n : Int) (u : ByteArray) (ok : Bool), e = .returned (.tuple #[.agg #[.string nm, .bool b, .int .i64 n, .string u], .bool ok]) ∧
      valueL nm.data.toList s.data.toList = if ok = true then some ⟨nm.data.toList, b, n, u.data.toList⟩ else none) ∧ Below w.heap.size w w' := by
  have hcut := fun W => Tryz.strings_CutPrefix s ⟨#[39]⟩ W
  change ∀ W, Calls _ _ _ _ fun e w' => e = .returned (.tuple #[.string ⟨(Lib.trimPrefix s.data.toList [39]).toArray⟩, .bool (Lib.hasPrefix s.data.toList [39])]) ∧ _ at hcut
  by_cases hq : s.data.toList.head? = some 39
  · obtain ⟨q1, q2⟩ := quote_yes hq
    rw [q1, q2] at hcut
    obtain ⟨t, ht⟩ : ∃ t : ByteArray, t = ⟨s.data.toList.tail.toArray⟩ := ⟨_, rfl⟩
    have htd : t.data.toList = s.data.toList.tail := by rw [ht]
    have hts : t.size ≤ 140737488355328 := by rw [← size_data, htd, List.length_tail, size_data]; omega
    rw [← ht] at hcut
    have hun := fun W hW => Unescape_any t W hW hts
    rw [htd] at hun
    cases hu : unescL s.data.toList.tail with
    | some u =>
      rw [hu] at hun
      simp only [unescEnd] at hun
      by_cases hl : u.length ≤ 200
      · refine (value_u1 nm s t ⟨u.toArray⟩ w hE hcut hun (by rw [size_mk]; exact hl)).mono fun e w' ⟨he, hb⟩ => ⟨⟨_, _, _, _, he, ?_⟩, hb⟩
        simp [valueL, hq, hu, hl]
      · refine (value_u2 nm s t ⟨u.toArray⟩ w hE hcut hun (by rw [size_mk]; exact hl)).mono fun e w' ⟨he, hb⟩ => ⟨⟨_, _, _, _, he, ?_⟩, hb⟩
        simp [valueL, hq, hu, hl]
    | none =>
      rw [hu] at hun
      simp only [unescEnd] at hun
      refine (value_u3 nm s t ⟨#[]⟩ w hE hcut hun).mono fun e w' ⟨he, hb⟩ => ⟨⟨_, _, _, _, he, ?_⟩, hb⟩
      simp [valueL, hq, hu]
  · obtain ⟨q1, q2⟩ := quote_no hq
    rw [q1, q2] at hcut
    rw [Lib.mk_data] at hcut
    cases ha : Lib.atoiAll s.data.toList
    case ok v =>
      obtain ⟨v0, v1⟩ := atoi_int ha
      have hat : ∀ W, Calls Tryz.prog 54 #[.string s] W fun e w' => e = .returned (.tuple #[.int .i64 v, .nilIface]) ∧ Below W.heap.size W w' := fun W =>
        (Tryz.strconv_Atoi_ok s (by omega) v ha W).mono fun e w' ⟨he, hw⟩ => ⟨he, by
          rcases hw with rfl | ⟨t, rfl⟩
          · exact Below.refl _ _
          · exact Lib.bytesWorld_below _ _ _⟩
      have hit : ∀ W, Env W → Calls Tryz.prog 51 #[.int .i64 v] W fun e w' => e = .returned (.string ⟨(Lib.itoa v).toArray⟩) ∧ Below W.heap.size W w' := fun W hW =>
        (Tryz.strconv_Itoa v v0 v1 W hW.tab).mono fun e w' ⟨he, k, os, hw⟩ => ⟨he, by rw [hw]; exact Proofs.below_grown W k os⟩
      by_cases hx : Lib.itoa v = s.data.toList
      · refine (value_n1 nm s v w hE hcut hat _ hit (by rw [beq_iff_eq, Lib.toList_data, Lib.toList_data]; exact hx)).mono fun e w' ⟨he, hb⟩ => ⟨⟨_, _, _, _, he, ?_⟩, hb⟩
        simp [valueL, hq, numL, ha, hx]
      · refine (value_n2 nm s v w hE hcut hat _ hit (by rw [beq_eq_false_iff_ne, Lib.toList_data, Lib.toList_data]; exact hx)).mono fun e w' ⟨he, hb⟩ => ⟨⟨_, _, _, _, he, ?_⟩, hb⟩
        simp [valueL, hq, numL, ha, hx]
    case range =>
      have hat : ∀ W, Env W → Calls Tryz.prog 54 #[.string s] W fun e w' => (∃ N, e = .returned (.tuple #[.int .i64 (Lib.atoiSat s.data.toList), .iface 105 (.pointer (some ⟨N, 0, none⟩))])) ∧ Below W.heap.size W w' := fun W hW => by
        obtain ⟨ev, h1, h2⟩ := hW.rng
        exact (Tryz.strconv_Atoi_range s (by omega) ha ev W h1 h2).mono fun e w' ⟨N, he, _, _, hb⟩ => ⟨⟨N, he⟩, hb⟩
      refine (value_n3 nm s _ w hE hcut hat).mono fun e w' ⟨he, hb⟩ => ⟨⟨_, _, _, _, he, ?_⟩, hb⟩
      simp [valueL, hq, numL, ha]
    · -- no numeral
      have hat : ∀ W, Env W → Calls Tryz.prog 54 #[.string s] W fun e w' => (∃ N, e = .returned (.tuple #[.int .i64 0, .iface 105 (.pointer (some ⟨N, 0, none⟩))])) ∧ Below W.heap.size W w' := fun W hW => by
        obtain ⟨ev, h1, h2⟩ := hW.syn
        exact (Any.strconv_Atoi_syntax Tryz.laysC172 s (by omega) ha ev W h1 h2).mono fun e w' ⟨N, he, _, _, hb⟩ => ⟨⟨N, he⟩, hb⟩
      refine (value_n3 nm s 0 w hE hcut hat).mono fun e w' ⟨he, hb⟩ => ⟨⟨_, _, _, _, he, ?_⟩, hb⟩
      simp [valueL, hq, numL, ha]
end Go.Proofs.YtmcnblibnbkfjaaGreatDoor.W12
