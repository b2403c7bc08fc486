/-
  Walks of layer 19: the laws ResponseUnlike and ResponseReads. Conditions: the library's table.
-/
import Derived.Test.YtakbejphbnbepaaDoorWalkO
import Derived.Test.YtakbejphbnbepaaDoorPlainE
namespace Go.Proofs.YtakbejphbnbepaaDoor.W19
open Go Go.RowKit P19
attribute [local go_sem ↓] Go.wp_at_zero Go.wp_at_succ

set_option maxRecDepth 100000 in
set_option maxHeartbeats 1600000 in
theorem unlike_law (st : Int) (b : ByteArray) (c : Bool) (st' : Int) (b' : ByteArray) (c' : Bool) (w : World) (h0 : -9223372036854775808 ≤ st) (h1 : st ≤ 9223372036854775807) (hm : b.size ≤ maxLen)
    (h0' : -9223372036854775808 ≤ st') (h1' : st' ≤ 9223372036854775807) (hm' : b'.size ≤ maxLen) (hT : Tab w) :
    Calls Tryd.prog 5 #[.agg #[.int .i64 st, .string b, .bool c], .agg #[.int .i64 st', .string b', .bool c']] w fun e w' => e = .returned (.bool true) ∧ Below w.heap.size w w' := by
  obtain ⟨X, E, hX⟩ := write_named ⟨st, b.data.toList, c⟩
  obtain ⟨Y, F, hY⟩ := write_named ⟨st', b'.data.toList, c'⟩
  have hfree : E = 0 → F = 0 → ∀ y z : By, X.data.toList ++ y = Y.data.toList ++ z → st = st' ∧ b = b' ∧ c = c' := by
    intro hE hF y z h
    have := writeL_free (a := ⟨st, b.data.toList, c⟩) (b := ⟨st', b'.data.toList, c'⟩) (by rw [hX]; exact hE) (by rw [hY]; exact hF) (y := y) (z := z) (by rw [hX, hY]; exact h)
    simp only [Rep.mk.injEq] at this
    exact ⟨this.1, ba_ext this.2.1, this.2.2⟩
  have HX := Lib.hid hX
  have HY := Lib.hid hY
  have HF := Lib.hid hfree
  clear hX hY hfree
  have hT0 := (hT.new (.cells #[.int .i64 st, .string b, .bool c] 25)).new (.cells #[.int .i64 st', .string b', .bool c'] 25)
  have hc := heap_new w (.cells #[.int .i64 st, .string b, .bool c] 25)
  have hd := heap_new (w.alloc (.cells #[.int .i64 st, .string b, .bool c] 25)) (.cells #[.int .i64 st', .string b', .bool c'] 25)
  have d0 := keep_cell (below_alloc _ (.cells #[.int .i64 st', .string b', .bool c'] 25)) (Lib.cell_of_heap hc 0)
  have d1 := keep_cell (below_alloc _ (.cells #[.int .i64 st', .string b', .bool c'] 25)) (Lib.cell_of_heap hc 1)
  have d2 := keep_cell (below_alloc _ (.cells #[.int .i64 st', .string b', .bool c'] 25)) (Lib.cell_of_heap hc 2)
  have d3 := Lib.cell_of_heap hd 0
  have d4 := Lib.cell_of_heap hd 1
  have d5 := Lib.cell_of_heap hd 2
  rw [World.size_alloc] at d3 d4 d5
  clear hc hd
  go_enter Tryd.func5, Tryd.ntmps5
  go_wp2_with fail
  refine (awake_any _ hT0).mono ?_
  rintro e w1 ⟨rfl, hb1⟩
  have hT1 := hT0.keep hb1
  replace d0 := keep_cell hb1 d0
  replace d1 := keep_cell hb1 d1
  replace d2 := keep_cell hb1 d2
  replace d3 := keep_cell hb1 d3
  replace d4 := keep_cell hb1 d4
  replace d5 := keep_cell hb1 d5
  go_wp2_with fail
  refine (Write_as st b c X E HX.out _ h0 h1 hm hT1).mono ?_
  rintro e w2 ⟨rfl, hb2⟩
  have hT2 := hT1.keep hb2
  replace d0 := keep_cell hb2 d0
  replace d1 := keep_cell hb2 d1
  replace d2 := keep_cell hb2 d2
  replace d3 := keep_cell hb2 d3
  replace d4 := keep_cell hb2 d4
  replace d5 := keep_cell hb2 d5
  go_wp2_with fail
  refine (Write_as st' b' c' Y F HY.out _ h0' h1' hm' hT2).mono ?_
  rintro e w3 ⟨rfl, hb3⟩
  replace d0 := keep_cell hb3 d0
  replace d1 := keep_cell hb3 d1
  replace d2 := keep_cell hb3 d2
  replace d3 := keep_cell hb3 d3
  replace d4 := keep_cell hb3 d4
  replace d5 := keep_cell hb3 d5
  have hB : Below w.heap.size w w3 := below_then (below_alloc w _) (below_then (below_alloc _ _) (below_then hb1 (below_then hb2 hb3)))
  by_cases hE : E = 0
  · subst hE
    by_cases hF : F = 0
    · subst hF
      by_cases he : st = st' ∧ b = b' ∧ c = c'
      · obtain ⟨rfl, rfl, rfl⟩ := he
        have hXY : X = Y := ba_ext (by have := HX.out; rw [HY.out] at this; exact (Prod.mk.inj this).1.symm)
        subst hXY
        clear HF HX HY
        go_wp2_with fail
        go_ret
        exact ⟨rfl, hB⟩
      · have hXY : (X.toList == Y.toList) = false := by
          rw [beq_eq_false_iff_ne]
          intro h
          exact he (HF.out rfl rfl [] [] (by rw [← Lib.toList_data X, ← Lib.toList_data Y, h]))
        have hpre : X.size < Y.size → ((Y.extract 0 X.size).toList == X.toList) = false := by
          intro hlt
          rw [beq_eq_false_iff_ne]
          intro h
          rw [Lib.toList_data, Lib.toList_data] at h
          refine he (HF.out rfl rfl (Y.data.toList.drop X.size) [] ?_)
          rw [← h]
          simp
        clear HF HX HY
        have hd : (st == st') = false ∨ (st = st' ∧ (b.toList == b'.toList) = false) ∨ (st = st' ∧ b = b' ∧ (c == c') = false) := by
          by_cases e1 : st = st'
          · by_cases e2 : b = b'
            · exact .inr (.inr ⟨e1, e2, by rw [beq_eq_false_iff_ne]; exact fun e3 => he ⟨e1, e2, e3⟩⟩)
            · exact .inr (.inl ⟨e1, by rw [beq_eq_false_iff_ne]; exact fun e3 => e2 (ba_ext (by rw [← Lib.toList_data, ← Lib.toList_data, e3]))⟩)
          · exact .inl (by rw [beq_eq_false_iff_ne]; exact e1)
        by_cases hlt : X.size < Y.size
        · have hp := hpre hlt
          have hlt' : (X.size : Int) < Y.size := by omega
          clear hpre he hlt
          rcases hd with hd | ⟨rfl, hd⟩ | ⟨rfl, rfl, hd⟩
          all_goals
            go_wp2_with fail
            go_ret
            exact ⟨rfl, hB⟩
        · have hlt' : ¬ (X.size : Int) < Y.size := by omega
          clear hpre he hlt
          rcases hd with hd | ⟨rfl, hd⟩ | ⟨rfl, rfl, hd⟩
          all_goals
            go_wp2_with fail
            go_ret
            exact ⟨rfl, hB⟩
    · have hFb : (F == 0) = false := ne_bool hF
      clear hF
      go_wp2_with fail
      go_ret
      exact ⟨rfl, hB⟩
  · have hEb : (E == 0) = false := ne_bool hE
    clear hE
    go_wp2_with fail
    go_ret
    exact ⟨rfl, hB⟩

set_option maxRecDepth 100000 in
set_option maxHeartbeats 1600000 in
theorem reads_law (s : ByteArray) (w : World) (hm : s.size ≤ 140737488355328) (hT : Tab w) :
    Calls Tryd.prog 6 #[.string s] w fun e w' => e = .returned (.bool true) ∧ Below w.heap.size w w' := by
  obtain ⟨st, body, c, n, E, hr⟩ := read_named s.data.toList
  have hcap : (allL s.data.toList).1.length * 32 ≤ 140737488355328 := Nat.le_trans (allL_32 _ _ (Nat.lt_succ_self _)) (by rw [size_data]; exact hm)
  have hms : s.size ≤ 9223372036854770000 := by omega
  have hk : (allL s.data.toList).2 ≤ 140737488355328 := Nat.le_trans (allL_le _ _ (Nat.lt_succ_self _)).1 (by rw [size_data]; exact hm)
  obtain ⟨k, L, hL⟩ : ∃ k L, allL s.data.toList = (L, k) := ⟨_, _, rfl⟩
  have HR := Lib.hid hr
  have HL := Lib.hid hL
  rw [hL] at hk
  simp only at hk
  clear hr
  have hlen : L.length ≤ 4611686018427387904 := by rw [hL] at hcap; simp only at hcap; omega
  go_enter Tryd.func6, Tryd.ntmps6
  go_wp2_with fail
  refine (awake_any _ hT).mono ?_
  rintro e w1 ⟨rfl, hb1⟩
  have hT1 := hT.keep hb1
  go_wp2_with fail
  refine (Read_as s st body c n E HR.out _ hT1 hms).mono ?_
  rintro e w2 ⟨rfl, hb2⟩
  have hT2 := (hT1.keep hb2).new (.cells #[.int .i64 st, .string body, .bool c] 25)
  have a0 := Lib.cell_of_heap (heap_new w2 (.cells #[.int .i64 st, .string body, .bool c] 25)) 0
  have a1 := Lib.cell_of_heap (heap_new w2 (.cells #[.int .i64 st, .string body, .bool c] 25)) 1
  have a2 := Lib.cell_of_heap (heap_new w2 (.cells #[.int .i64 st, .string body, .bool c] 25)) 2
  go_wp2_with fail
  have q3 := refRead_as s st body c n E HR.out _ hT2 hms
  refine q3.mono ?_
  clear q3
  rintro e w3 ⟨rfl, hb3⟩
  have hT3 := (hT2.keep hb3).new (.cells #[.int .i64 st, .string body, .bool c] 25)
  replace a0 := keep_cell (below_alloc w3 (.cells #[.int .i64 st, .string body, .bool c] 25)) (keep_cell hb3 a0)
  replace a1 := keep_cell (below_alloc w3 (.cells #[.int .i64 st, .string body, .bool c] 25)) (keep_cell hb3 a1)
  replace a2 := keep_cell (below_alloc w3 (.cells #[.int .i64 st, .string body, .bool c] 25)) (keep_cell hb3 a2)
  have b0 := Lib.cell_of_heap (heap_new w3 (.cells #[.int .i64 st, .string body, .bool c] 25)) 0
  have b1 := Lib.cell_of_heap (heap_new w3 (.cells #[.int .i64 st, .string body, .bool c] 25)) 1
  have b2 := Lib.cell_of_heap (heap_new w3 (.cells #[.int .i64 st, .string body, .bool c] 25)) 2
  go_wp2_with fail
  have q4 := All_any s _ hT3 hms hcap
  refine q4.mono ?_
  clear q4
  rintro e w4 ⟨v4, rfl, hO4, hb4⟩
  rw [hL] at hO4 ⊢
  simp only at hO4 ⊢
  have hT4 := hT3.keep hb4
  replace a0 := keep_cell hb4 a0
  replace a1 := keep_cell hb4 a1
  replace a2 := keep_cell hb4 a2
  replace b0 := keep_cell hb4 b0
  replace b1 := keep_cell hb4 b1
  replace b2 := keep_cell hb4 b2
  go_wp2_with fail
  have q5 := refAll_any s _ hT4 hms hcap
  refine q5.mono ?_
  clear q5
  rintro e w5 ⟨v5, rfl, hO5, hb5⟩
  rw [hL] at hO5 ⊢
  simp only at hO5 ⊢
  replace hO4 := own_keep hO4 hb5
  replace a0 := keep_cell hb5 a0
  replace a1 := keep_cell hb5 a1
  replace a2 := keep_cell hb5 a2
  replace b0 := keep_cell hb5 b0
  replace b1 := keep_cell hb5 b1
  replace b2 := keep_cell hb5 b2
  go_wp2_with fail
  refine (Same_any v4 v5 L _ hlen (rows_of_own hO4) (rows_of_own hO5)).mono ?_
  rintro e w6 ⟨rfl, hb6⟩
  replace a0 := keep_cell hb6 a0
  replace a1 := keep_cell hb6 a1
  replace a2 := keep_cell hb6 a2
  replace b0 := keep_cell hb6 b0
  replace b1 := keep_cell hb6 b1
  replace b2 := keep_cell hb6 b2
  clear hO4 hO5 hL hcap
  go_wp2_with fail
  go_ret
  exact ⟨rfl, below_then hb1 (below_then hb2 (below_then (below_alloc w2 _) (below_then hb3 (below_then (below_alloc w3 _) (below_then hb4 (below_then hb5 hb6))))))⟩
end Go.Proofs.YtakbejphbnbepaaDoor.W19
