/-
  Walks of layer 19: the reference's Read: its list of statuses, one round of its loop. Conditions: the library's table; the text's own bound.
-/
import Derived.Test.YtakbejphbnbepaaDoorWalkK
namespace Go.Proofs.YtakbejphbnbepaaDoor.W19
open Go Go.RowKit P19
attribute [local go_sem ↓] Go.wp_at_zero Go.wp_at_succ

def statV : Array Value := #[.int .i64 200, .int .i64 400, .int .i64 404, .int .i64 405, .int .i64 409, .int .i64 413, .int .i64 422, .int .i64 431, .int .i64 501, .int .i64 503, .int .i64 507]
theorem statV_at (k : Nat) (h : k < 11) : statV[k]? = some (.int .i64 (stats.getD k 0)) := by
  have : ∀ k : Fin 11, statV[k.val]? = some (.int .i64 (stats.getD k.val 0)) := by
    intro k
    match k with
    | 0 => rfl | 1 => rfl | 2 => rfl | 3 => rfl | 4 => rfl | 5 => rfl | 6 => rfl | 7 => rfl | 8 => rfl | 9 => rfl | 10 => rfl
  exact this ⟨k, h⟩

set_option maxHeartbeats 400000 in
theorem Statuses_any (w : World) :
    Calls Tryd.prog 30 #[] w fun e w' => e = .returned (.slice (some ⟨w.heap.size, 0, none⟩) 11 11) ∧ w.alloc (.cells statV 3) = w' := by
  go_enter Tryd.func30, Tryd.ntmps30
  go_wp2
  go_ret
  exact ⟨rfl, rfl⟩

theorem begins_as (s p : ByteArray) (b : Bool) (h : Lib.hasPrefix s.data.toList p.data.toList = b) (w : World) :
    Calls Tryd.prog 31 #[.string s, .string p] w fun e w' => e = .returned (.bool b) ∧ w = w' := by
  subst h
  exact begins_any s p w
theorem refNumber_as (s : ByteArray) (N K : Nat) (h : refNumber s.data.toList = (N, K)) (w : World) (hs : s.size ≤ maxLen) :
    Calls Tryd.prog 32 #[.string s] w fun e w' => e = .returned (.tuple #[.int .i64 N, .int .i64 K]) ∧ w = w' := by
  have := number_ref s w hs
  rw [h] at this
  exact this

/-- Between two rounds: the result's box, the statuses, nothing else has turned. -/
structure InRef (w : World) (wr : World) : Prop where
  zero : wr.heap[w.heap.size]? = some (.cells #[.int .i64 0, .string ⟨#[]⟩, .bool false] 25 (0, 0))
  list : wr.heap[w.heap.size + 1]? = some (.cells statV 3 (0, 0))
  below : Below w.heap.size w wr
theorem InRef.keep {w wr w1 : World} (h : InRef w wr) (hb : Below wr.heap.size wr w1) : InRef w w1 :=
  ⟨(hb.block _ (lt_of_some h.zero)).trans h.zero, (hb.block _ (lt_of_some h.list)).trans h.list, h.below.trans (hb.mono h.below.size)⟩
theorem InRef.at {w wr : World} (h : InRef w wr) (k : Nat) (hk : k < 11) : wr.cell? ⟨w.heap.size + 1, k, none⟩ = some (.int .i64 (stats.getD k 0)) :=
  (Lib.cell_of_heap h.list k).trans (statV_at k hk)

theorem drop_at (k : Nat) (h : k < 11) : stats.drop k = stats.getD k 0 :: stats.drop (k + 1) := by
  have hl : k < stats.length := by simpa [stats] using h
  rw [List.drop_eq_getElem_cons hl, List.getD_eq_getElem?_getD, List.getElem?_eq_getElem hl]
  rfl
theorem ref_none {l : By} {k : Nat} {b x : Bool} {n : Int} (h : k < 11) (hn : n = stats.getD k 0) (hL : refReadL l = refLoop l (stats.drop k) b) (ha : refAt l n = (none, x)) : refReadL l = refLoop l (stats.drop (k + 1)) (b || x) := by
  rw [hL, drop_at k h, ← hn, refLoop, ha]
theorem ref_some {l : By} {k : Nat} {b : Bool} {n : Int} {r : Rep × Nat × Int} (h : k < 11) (hn : n = stats.getD k 0) (hL : refReadL l = refLoop l (stats.drop k) b) (ha : (refAt l n).1 = some r) : refReadL l = r := by
  rw [hL, drop_at k h, ← hn, refLoop, ha]

/-- The text that a reply of a status begins with, put together as the reference does. -/
theorem start_parts (n : Int) (h0 : 200 ≤ n) (h1 : n ≤ 507) : ∃ X Z S1 S2 S3 S : ByteArray, X = ⟨(Lib.itoa n).toArray⟩ ∧ Z = ⟨(reason n).toArray⟩ ∧ S.data.toList = startOf n ∧ S.size ≤ 1000 ∧
    (∀ w, (Op.stringOp .add ⟨#[72, 84, 84, 80, 47, 49, 46, 49, 32]⟩ X).run Tryd.prog w = .ok (.string S1) w) ∧ (∀ w, (Op.stringOp .add S1 ⟨#[32]⟩).run Tryd.prog w = .ok (.string S2) w) ∧
    (∀ w, (Op.stringOp .add S2 Z).run Tryd.prog w = .ok (.string S3) w) ∧ (∀ w, (Op.stringOp .add S3 ⟨#[13, 10, 67, 111, 110, 116, 101, 110, 116, 45, 76, 101, 110, 103, 116, 104, 58, 32]⟩).run Tryd.prog w = .ok (.string S) w) := by
  obtain ⟨X, hX, sX⟩ := itoa_name n (by omega) (by omega)
  obtain ⟨Z, hZ⟩ : ∃ Z : ByteArray, Z = ⟨(reason n).toArray⟩ := ⟨_, rfl⟩
  have sZ : Z.size ≤ 31 := by rw [hZ, size_mk]; exact reason_len n
  have s0 : (⟨#[72, 84, 84, 80, 47, 49, 46, 49, 32]⟩ : ByteArray).size = 9 := rfl
  have s1 : (⟨#[32]⟩ : ByteArray).size = 1 := rfl
  have s2 : (⟨#[13, 10, 67, 111, 110, 116, 101, 110, 116, 45, 76, 101, 110, 103, 116, 104, 58, 32]⟩ : ByteArray).size = 18 := rfl
  refine ⟨X, Z, _, _, _, _, hX, hZ, ?_, ?_, fun w => run_string_add_sum w _ _ (by omega), fun w => run_string_add_sum w _ _ (by rw [ByteArray.size_append]; omega), fun w => run_string_add_sum w _ _ (by rw [ByteArray.size_append, ByteArray.size_append]; omega),
    fun w => run_string_add_sum w _ _ (by rw [ByteArray.size_append, ByteArray.size_append, ByteArray.size_append]; omega)⟩
  · rw [hX, hZ]; simp [startOf, first, verB, lenB, crlf]
  · rw [ByteArray.size_append, ByteArray.size_append, ByteArray.size_append, ByteArray.size_append]; omega

/-! What the reference comes to at a status whose start the text begins with: r is the rest. -/
theorem refAt_nil {l : By} {n : Int} (hA : Lib.hasPrefix l (startOf n) = true) (h : l.drop (startOf n).length = []) : (refAt l n).1 = some (zeroRep, 0, 192) := by
  unfold refAt; rw [if_pos hA, if_pos h]
theorem refAt_bad {l : By} {n : Int} {N K : Nat} (hA : Lib.hasPrefix l (startOf n) = true) (h : l.drop (startOf n).length ≠ []) (hN : refNumber (l.drop (startOf n).length) = (N, K)) (hb : K = 0 ∨ 100000 < N) : (refAt l n).1 = some (zeroRep, 0, 193) := by
  unfold refAt; rw [if_pos hA, if_neg h, hN, if_pos hb]
theorem refAt_end {l : By} {n : Int} {N K : Nat} (hA : Lib.hasPrefix l (startOf n) = true) (h : l.drop (startOf n).length ≠ []) (hN : refNumber (l.drop (startOf n).length) = (N, K)) (hb : ¬ (K = 0 ∨ 100000 < N)) (hK : K = (l.drop (startOf n).length).length) : (refAt l n).1 = some (zeroRep, 0, 192) := by
  unfold refAt; rw [if_pos hA, if_neg h, hN, if_neg hb, if_pos hK]
theorem refAt_no {l : By} {n : Int} {N K : Nat} (hA : Lib.hasPrefix l (startOf n) = true) (h : l.drop (startOf n).length ≠ []) (hN : refNumber (l.drop (startOf n).length) = (N, K)) (hb : ¬ (K = 0 ∨ 100000 < N)) (hK : K ≠ (l.drop (startOf n).length).length)
    (hf : Lib.hasPrefix l (headL n N false) = true) : (refAt l n).1 = some (refBody l n N false) := by
  unfold refAt; rw [if_pos hA, if_neg h, hN, if_neg hb, if_neg hK, if_pos hf]
theorem refAt_yes {l : By} {n : Int} {N K : Nat} (hA : Lib.hasPrefix l (startOf n) = true) (h : l.drop (startOf n).length ≠ []) (hN : refNumber (l.drop (startOf n).length) = (N, K)) (hb : ¬ (K = 0 ∨ 100000 < N)) (hK : K ≠ (l.drop (startOf n).length).length)
    (hf : Lib.hasPrefix l (headL n N false) = false) (ht : Lib.hasPrefix l (headL n N true) = true) : (refAt l n).1 = some (refBody l n N true) := by
  unfold refAt; rw [if_pos hA, if_neg h, hN, if_neg hb, if_neg hK, if_neg (by rw [hf]; simp), if_pos ht]
theorem refAt_short {l : By} {n : Int} {N K : Nat} (hA : Lib.hasPrefix l (startOf n) = true) (h : l.drop (startOf n).length ≠ []) (hN : refNumber (l.drop (startOf n).length) = (N, K)) (hb : ¬ (K = 0 ∨ 100000 < N)) (hK : K ≠ (l.drop (startOf n).length).length)
    (hf : Lib.hasPrefix l (headL n N false) = false) (ht : Lib.hasPrefix l (headL n N true) = false) : refAt l n = (none, Lib.hasPrefix (headL n N false) l || Lib.hasPrefix (headL n N true) l) := by
  unfold refAt; rw [if_pos hA, if_neg h, hN, if_neg hb, if_neg hK, if_neg (by rw [hf]; simp), if_neg (by rw [ht]; simp)]
theorem refNumber_le (l : By) : (refNumber l).2 ≤ l.length := by
  unfold refNumber
  split
  · simp
  · rw [digs_take, List.length_take]
    have h := congrArg List.length (digs_split l)
    rw [List.length_append] at h
    simp only
    omega
theorem zero_reads {w wr : World} (h : InRef w wr) : (wr.cell? ⟨w.heap.size, 0, none⟩ = some (.int .i64 0) ∧ wr.cell? ⟨w.heap.size, 1, none⟩ = some (.string ⟨#[]⟩) ∧ wr.cell? ⟨w.heap.size, 2, none⟩ = some (.bool false)) ∧
    (wr.frozen? ⟨w.heap.size, 0, none⟩ = false ∧ wr.frozen? ⟨w.heap.size, 1, none⟩ = false ∧ wr.frozen? ⟨w.heap.size, 2, none⟩ = false) :=
  ⟨⟨Lib.cell_of_heap h.zero 0, Lib.cell_of_heap h.zero 1, Lib.cell_of_heap h.zero 2⟩, ⟨frozen_of_heap h.zero 0, frozen_of_heap h.zero 1, frozen_of_heap h.zero 2⟩⟩

set_option maxRecDepth 100000 in
set_option maxHeartbeats 3200000 in
theorem refRead_any (s : ByteArray) (w : World) (hT : Tab w) (hm : s.size ≤ 9223372036854770000) :
    Calls Tryd.prog 14 #[.string s] w fun e w' => e = .returned (.tuple #[repV (refReadL s.data.toList).1, .int .i64 (refReadL s.data.toList).2.1, .int .i64 (refReadL s.data.toList).2.2]) ∧ Below w.heap.size w w' := by
  go_enter Tryd.func14, Tryd.ntmps14
  go_wp2_with (go_at_call 30; refine (Statuses_any _).mono ?_; rintro e w1 ⟨rfl, rfl⟩)
  go_loopw [6, 7] (fun sh i wr => ∃ (k : Nat) (b : Bool), k ≤ 11 ∧ i = .int .i64 k ∧ sh = .bool b ∧ InRef w wr ∧ refReadL s.data.toList = refLoop s.data.toList (stats.drop k) b) (fun _ i _ => 11 - (intOf i).toNat)
  case atStart =>
    refine ⟨0, false, by omega, rfl, rfl, ⟨?_, ?_, below_then (below_alloc w _) (below_alloc _ _)⟩, rfl⟩
    · rw [heap_al _ _ _ (by simp)]; exact heap_new w _
    · exact heap_al_at _ _ _ (by simp)
  case round =>
    obtain ⟨k, b, hk, rfl, rfl, hI, hL⟩ := hrel
    by_cases hlt : k < 11
    · have hc := hI.at k hlt
      obtain ⟨n, hn⟩ : ∃ n, n = stats.getD k 0 := ⟨_, rfl⟩
      rw [← hn] at hc
      obtain ⟨hn1, hn2⟩ := stats_int n (by rw [hn]; exact stats_get k hlt)
      have hT1 := hT.keep hI.below
      have hk0 : (0 : Int) ≤ (k : Int) := by omega
      have hk1 : (k : Int) < (11 : Int) := by omega
      have HI := Lib.hid hI
      have HL := Lib.hid hL
      have HN := Lib.hid hn
      clear hI hL hn hT
      have hT2 := hT1.drew
      obtain ⟨X, Z, S1, S2, S3, S, hX, hZ, hS, sS, a1, a2, a3, a4⟩ := start_parts n hn1 hn2
      have HX := Lib.hid hX
      have HZ := Lib.hid hZ
      have HS := Lib.hid hS
      clear hX hZ hS
      go_wp2_with fail
      go_region_held3 (fun w' => w'.cell? ⟨w.heap.size + 1, k, none⟩ = some (.int .i64 n))
        (first | go_keep | (go_split_ands; exact keep_cell (by assumption) (by assumption)))
        (first
          | (go_at_call 21; refine (Itoa_str n (by omega) (by omega) X HX.out _ ?_).mono ?_; (with_reducible assumption); rintro e w1 ⟨rfl, hb1⟩)
          | (go_at_call 10; refine (refReason_str n Z HZ.out _).mono ?_; rintro e w2 ⟨rfl, rfl⟩)
          | skip)
      clear a1 a2 a3 a4
      have hI2 := (HI.out.keep (below_drewN wr 1)).keep hb1
      go_wp2_with fail
      cases hA : Lib.hasPrefix s.data.toList (startOf n) with
      | false =>
        have hA' : Lib.hasPrefix s.data.toList S.data.toList = false := by rw [HS.out]; exact hA
        cases hB : Lib.hasPrefix (startOf n) s.data.toList with
        | true =>
          have hB' : Lib.hasPrefix S.data.toList s.data.toList = true := by rw [HS.out]; exact hB
          have HR := Lib.hid (ref_none hlt HN.out HL.out (show refAt s.data.toList n = (none, true) by simp [refAt, hA, hB]))
          have HA := Lib.hid hA'
          have HB := Lib.hid hB'
          clear hA hB hA' hB'
          refine (begins_as s S false HA.out _).mono ?_
          rintro e w3 ⟨rfl, rfl⟩
          go_wp2_with fail
          refine (begins_as S s true HB.out _).mono ?_
          rintro e w3 ⟨rfl, rfl⟩
          go_wp2_with fail
          go_roundw
          case rel => exact ⟨k + 1, true, by omega, by go_num, rfl, hI2, by rw [HR.out, Bool.or_true]⟩
          case measure => simp [intOf]; omega
        | false =>
          have hB' : Lib.hasPrefix S.data.toList s.data.toList = false := by rw [HS.out]; exact hB
          have HR := Lib.hid (ref_none hlt HN.out HL.out (show refAt s.data.toList n = (none, false) by simp [refAt, hA, hB]))
          have HA := Lib.hid hA'
          have HB := Lib.hid hB'
          clear hA hB hA' hB'
          refine (begins_as s S false HA.out _).mono ?_
          rintro e w3 ⟨rfl, rfl⟩
          go_wp2_with fail
          refine (begins_as S s false HB.out _).mono ?_
          rintro e w3 ⟨rfl, rfl⟩
          go_wp2_with fail
          go_roundw
          case rel => exact ⟨k + 1, b, by omega, by go_num, rfl, hI2, by rw [HR.out, Bool.or_false]⟩
          case measure => simp [intOf]; omega
      | true =>
        have hA' : Lib.hasPrefix s.data.toList S.data.toList = true := by rw [HS.out]; exact hA
        have hle : S.size ≤ s.size := by
          have := congrArg List.length (hp_split hA')
          rw [List.length_append, size_data, size_data] at this
          omega
        have HA := Lib.hid hA'
        refine (begins_as s S true HA.out _).mono ?_
        rintro e w3 ⟨rfl, rfl⟩
        clear hA hA'
        obtain ⟨⟨z0, z1, z2⟩, ⟨y0, y1, y2⟩⟩ := zero_reads hI2
        have hEd : (s.extract S.size s.size).data.toList = s.data.toList.drop (startOf n).length := by rw [drop_data, ← HS.out, size_data]
        have hEl : (s.data.toList.drop (startOf n).length).length = s.size - S.size := by rw [List.length_drop, size_data, ← HS.out, size_data]
        by_cases hz : s.size ≤ S.size
        · have hE : (s.extract S.size s.size).toList.isEmpty = true := toList_nil _ (by rw [← size_data, hEd, hEl]; omega)
          have HR := Lib.hid (ref_some hlt HN.out HL.out (refAt_nil (by rw [← HS.out]; exact HA.out) (List.length_eq_zero_iff.1 (by rw [hEl]; omega))))
          clear hEd hEl
          go_wp2_with fail
          rw [HR.out]
          exact bodyPost_ret (v := .tuple #[.agg #[.int .i64 0, .string ⟨#[]⟩, .bool false], .int .i64 0, .int .i64 192]) (by simp [results, Tryd.results14, go_sem, z0, z1, z2]) rfl ⟨rfl, ((hI2.below.setCell (by simp) _).setCell (by simp) _).setCell (by simp) _⟩
        · have hE : (s.extract S.size s.size).toList.isEmpty = false := toList_cons _ (by rw [← size_data, hEd, hEl]; omega)
          have hne : s.data.toList.drop (startOf n).length ≠ [] := by intro e; rw [e] at hEl; simp at hEl; omega
          obtain ⟨N, K, hNK⟩ : ∃ N K, refNumber (s.data.toList.drop (startOf n).length) = (N, K) := ⟨_, _, rfl⟩
          have hKle : K ≤ s.size - S.size := by
            have := refNumber_le (s.data.toList.drop (startOf n).length)
            rw [hNK, hEl] at this
            exact this
          have hAl : Lib.hasPrefix s.data.toList (startOf n) = true := by rw [← HS.out]; exact HA.out
          have HNK := Lib.hid (show refNumber (s.extract S.size s.size).data.toList = (N, K) by rw [hEd]; exact hNK)
          have hEs : (s.extract S.size s.size).size ≤ maxLen := by unfold maxLen; rw [← size_data, hEd, hEl]; omega
          have HES := Lib.hid hEs
          clear hEs hEd
          by_cases hbad : K = 0 ∨ 100000 < N
          · have HR := Lib.hid (ref_some hlt HN.out HL.out (refAt_bad hAl hne hNK hbad))
            clear hEl hne hNK hAl
            rcases hbad with hbad | hbad
            · have kb : ((K : Int) == 0) = true := by rw [beq_iff_eq]; omega
              clear hbad
              go_wp2_with fail
              refine (refNumber_as _ N K HNK.out _ HES.out).mono ?_
              rintro e w3 ⟨rfl, rfl⟩
              go_wp2_with fail
              rw [HR.out]
              exact bodyPost_ret (v := .tuple #[.agg #[.int .i64 0, .string ⟨#[]⟩, .bool false], .int .i64 0, .int .i64 193]) (by simp [results, Tryd.results14, go_sem, z0, z1, z2]) rfl ⟨rfl, ((hI2.below.setCell (by simp) _).setCell (by simp) _).setCell (by simp) _⟩
            · by_cases k0 : K = 0
              · have kb : ((K : Int) == 0) = true := by rw [beq_iff_eq]; omega
                clear k0
                go_wp2_with fail
                refine (refNumber_as _ N K HNK.out _ HES.out).mono ?_
                rintro e w3 ⟨rfl, rfl⟩
                go_wp2_with fail
                rw [HR.out]
                exact bodyPost_ret (v := .tuple #[.agg #[.int .i64 0, .string ⟨#[]⟩, .bool false], .int .i64 0, .int .i64 193]) (by simp [results, Tryd.results14, go_sem, z0, z1, z2]) rfl ⟨rfl, ((hI2.below.setCell (by simp) _).setCell (by simp) _).setCell (by simp) _⟩
              · have kb : ((K : Int) == 0) = false := by rw [beq_eq_false_iff_ne]; omega
                clear k0
                go_wp2_with fail
                refine (refNumber_as _ N K HNK.out _ HES.out).mono ?_
                rintro e w3 ⟨rfl, rfl⟩
                go_wp2_with fail
                rw [HR.out]
                exact bodyPost_ret (v := .tuple #[.agg #[.int .i64 0, .string ⟨#[]⟩, .bool false], .int .i64 0, .int .i64 193]) (by simp [results, Tryd.results14, go_sem, z0, z1, z2]) rfl ⟨rfl, ((hI2.below.setCell (by simp) _).setCell (by simp) _).setCell (by simp) _⟩
          · have kb : ((K : Int) == 0) = false := by rw [beq_eq_false_iff_ne]; omega
            have hN : (N : Int) ≤ 100000 := by omega
            by_cases hKe : K = s.size - S.size
            · have HR := Lib.hid (ref_some hlt HN.out HL.out (refAt_end hAl hne hNK hbad (by rw [hEl]; exact hKe)))
              have hKe1 : (s.size : Int) ≤ K + S.size := by omega
              have hKe2 : (K : Int) + S.size ≤ s.size := by omega
              clear hEl hne hNK hAl hKe hbad
              go_wp2_with fail
              refine (refNumber_as _ N K HNK.out _ HES.out).mono ?_
              rintro e w3 ⟨rfl, rfl⟩
              go_wp2_with fail
              rw [HR.out]
              exact bodyPost_ret (v := .tuple #[.agg #[.int .i64 0, .string ⟨#[]⟩, .bool false], .int .i64 0, .int .i64 192]) (by simp [results, Tryd.results14, go_sem, z0, z1, z2]) rfl ⟨rfl, ((hI2.below.setCell (by simp) _).setCell (by simp) _).setCell (by simp) _⟩
            · have hKe' : K ≠ (s.data.toList.drop (startOf n).length).length := by rw [hEl]; exact hKe
              have hKl : (K : Int) + S.size < s.size := by omega
              have hT3 := hT2.keep hb1
              obtain ⟨H0, hH0⟩ : ∃ H0 : ByteArray, H0 = ⟨(headL n N false).toArray⟩ := ⟨_, rfl⟩
              obtain ⟨H1, hH1⟩ : ∃ H1 : ByteArray, H1 = ⟨(headL n N true).toArray⟩ := ⟨_, rfl⟩
              have sH0 : H0.size ≤ 1000 := by rw [hH0, size_mk]; exact headL_len n N false (by omega) (by omega) (by omega)
              have sH1 : H1.size ≤ 1000 := by rw [hH1, size_mk]; exact headL_len n N true (by omega) (by omega) (by omega)
              have dH0 : H0.data.toList = headL n N false := by rw [hH0]
              have dH1 : H1.data.toList = headL n N true := by rw [hH1]
              have HH0 := Lib.hid hH0
              have HH1 := Lib.hid hH1
              clear hH0 hH1 hEl
              cases hb0 : Lib.hasPrefix s.data.toList (headL n N false) with
              | true =>
                have hb0' : Lib.hasPrefix s.data.toList H0.data.toList = true := by rw [dH0]; exact hb0
                have HR := Lib.hid (ref_some hlt HN.out HL.out (refAt_no hAl hne hNK hbad hKe' hb0))
                have HB0 := Lib.hid hb0'
                clear hb0 hb0' hne hNK hAl hKe hKe' hbad dH1 z0 z1 z2 y0 y1 y2
                go_wp2_with fail
                refine (refNumber_as _ N K HNK.out _ HES.out).mono ?_
                rintro e w3 ⟨rfl, rfl⟩
                go_wp2_with fail
                refine wp_loop_rounds 3 ?_
                rw [rounds_succ]
                go_wp2_with fail
                refine (refHead_str n N false H0 HH0.out _ (by omega) (by omega) (by omega) hT3).mono ?_
                rintro e w4 ⟨rfl, hb4⟩
                have hI4 := hI2.keep hb4
                have hc4 := (hI4.at k hlt).trans (congrArg (fun x => some (Value.int .i64 x)) HN.out.symm)
                go_wp2_with fail
                refine (begins_as s H0 true HB0.out _).mono ?_
                rintro e w3 ⟨rfl, rfl⟩
                obtain ⟨⟨z0, z1, z2⟩, ⟨y0, y1, y2⟩⟩ := zero_reads hI4
                by_cases hsh : s.size < H0.size + N
                · go_wp2_with fail
                  rw [HR.out, show refBody s.data.toList n N false = (zeroRep, 0, 192) by unfold refBody; rw [if_pos (by rw [← dH0, size_data, size_data]; exact hsh)]]
                  exact bodyPost_ret (v := .tuple #[.agg #[.int .i64 0, .string ⟨#[]⟩, .bool false], .int .i64 0, .int .i64 192]) (by simp [results, Tryd.results14, go_sem, z0, z1, z2]) rfl ⟨rfl, ((hI4.below.setCell (by simp) _).setCell (by simp) _).setCell (by simp) _⟩
                · have wrp : IntKind.i64.wrap ((H0.size : Int) + (N : Int)) = (H0.size : Int) + (N : Int) := IntWalk.i64_in _ (by omega)
                  have tn : ((H0.size : Int) + (N : Int)).toNat = H0.size + N := by omega
                  have b1 : (0 : Int) ≤ (H0.size : Int) + (N : Int) := by omega
                  have b2 : (H0.size : Int) + (N : Int) ≤ (s.size : Int) := by omega
                  have b3 : (0 : Int) ≤ (H0.size : Int) := by omega
                  have b4 : (H0.size : Int) ≤ (H0.size : Int) + (N : Int) := by omega
                  have DH := Lib.hid dH0
                  clear dH0
                  go_wp2_with fail
                  go_region_held3 (fun w' => w'.cell? ⟨w.heap.size + 1, k, none⟩ = some (.int .i64 n)) (go_keep) (fail)
                  clear wrp tn b1 b2 b3 b4
                  all_goals (go_wp2_with fail)
                  all_goals rw [HR.out, show refBody s.data.toList n N false = (⟨n, (s.data.toList.drop H0.size).take N, false⟩, H0.size + N, 0) by unfold refBody; rw [if_neg (by rw [← DH.out, size_data, size_data]; exact hsh), ← DH.out, size_data]]
                  all_goals exact bodyPost_ret (v := .tuple #[.agg #[.int .i64 n, .string (s.extract H0.size (H0.size + N)), .bool false], .int .i64 ((H0.size : Int) + N), .int .i64 0]) (by simp [results, Tryd.results14, go_sem, z0, z1, z2]) rfl ⟨ret3 (by unfold repV; rw [show Value.string (s.extract H0.size (H0.size + N)) = bs ((s.data.toList.drop H0.size).take N) from vba (by rw [Lib.extract_data, Nat.add_sub_cancel_left])]) (vint (by simp)) rfl, (((hI4.below.drew).setCell (by simp) _).setCell (by simp) _).setCell (by simp) _⟩
              | false =>
                have hb0' : Lib.hasPrefix s.data.toList H0.data.toList = false := by rw [dH0]; exact hb0
                cases hbt : Lib.hasPrefix s.data.toList (headL n N true) with
                | true =>
                  have hbt' : Lib.hasPrefix s.data.toList H1.data.toList = true := by rw [dH1]; exact hbt
                  have HR := Lib.hid (ref_some hlt HN.out HL.out (refAt_yes hAl hne hNK hbad hKe' hb0 hbt))
                  obtain ⟨p0, hp0⟩ : ∃ p0, Lib.hasPrefix (headL n N false) s.data.toList = p0 := ⟨_, rfl⟩
                  have HP0 := Lib.hid (show Lib.hasPrefix H0.data.toList s.data.toList = p0 by rw [dH0]; exact hp0)
                  have HB0 := Lib.hid hb0'
                  have HB1 := Lib.hid hbt'
                  clear hb0 hbt hb0' hbt' hp0 dH0 hne hNK hAl hKe hKe' hbad z0 z1 z2 y0 y1 y2
                  cases p0
                  all_goals
                    go_wp2_with fail
                    refine (refNumber_as _ N K HNK.out _ HES.out).mono ?_
                    rintro e w3 ⟨rfl, rfl⟩
                    go_wp2_with fail
                    refine wp_loop_rounds 3 ?_
                    rw [rounds_succ]
                    go_wp2_with fail
                    refine (refHead_str n N false H0 HH0.out _ (by omega) (by omega) (by omega) hT3).mono ?_
                    rintro e w4 ⟨rfl, hb4⟩
                    have hI4 := hI2.keep hb4
                    have hT4 := hT3.keep hb4
                    have hc4 := (hI4.at k hlt).trans (congrArg (fun x => some (Value.int .i64 x)) HN.out.symm)
                    go_wp2_with fail
                    refine (begins_as s H0 false HB0.out _).mono ?_
                    rintro e w3 ⟨rfl, rfl⟩
                    go_wp2_with fail
                    refine (begins_as H0 s _ HP0.out _).mono ?_
                    rintro e w3 ⟨rfl, rfl⟩
                    go_wp2_with fail
                    rw [rounds_succ]
                    go_wp2_with fail
                    refine (refHead_str n N true H1 HH1.out _ (by omega) (by omega) (by omega) hT4).mono ?_
                    rintro e w5 ⟨rfl, hb5⟩
                    have hI5 := hI4.keep hb5
                    have hc5 := (hI5.at k hlt).trans (congrArg (fun x => some (Value.int .i64 x)) HN.out.symm)
                    go_wp2_with fail
                    refine (begins_as s H1 true HB1.out _).mono ?_
                    rintro e w3 ⟨rfl, rfl⟩
                    obtain ⟨⟨z0, z1, z2⟩, ⟨y0, y1, y2⟩⟩ := zero_reads hI5
                    by_cases hsh : s.size < H1.size + N
                    · go_wp2_with fail
                      rw [HR.out, show refBody s.data.toList n N true = (zeroRep, 0, 192) by unfold refBody; rw [if_pos (by rw [← dH1, size_data, size_data]; exact hsh)]]
                      exact bodyPost_ret (v := .tuple #[.agg #[.int .i64 0, .string ⟨#[]⟩, .bool false], .int .i64 0, .int .i64 192]) (by simp [results, Tryd.results14, go_sem, z0, z1, z2]) rfl ⟨rfl, ((hI5.below.setCell (by simp) _).setCell (by simp) _).setCell (by simp) _⟩
                    · have wrp : IntKind.i64.wrap ((H1.size : Int) + (N : Int)) = (H1.size : Int) + (N : Int) := IntWalk.i64_in _ (by omega)
                      have tn : ((H1.size : Int) + (N : Int)).toNat = H1.size + N := by omega
                      have b1 : (0 : Int) ≤ (H1.size : Int) + (N : Int) := by omega
                      have b2 : (H1.size : Int) + (N : Int) ≤ (s.size : Int) := by omega
                      have b3 : (0 : Int) ≤ (H1.size : Int) := by omega
                      have b4 : (H1.size : Int) ≤ (H1.size : Int) + (N : Int) := by omega
                      have DH := Lib.hid dH1
                      clear dH1
                      go_wp2_with fail
                      go_region_held3 (fun w' => w'.cell? ⟨w.heap.size + 1, k, none⟩ = some (.int .i64 n)) (go_keep) (fail)
                      clear wrp tn b1 b2 b3 b4
                      all_goals (go_wp2_with fail)
                      all_goals rw [HR.out, show refBody s.data.toList n N true = (⟨n, (s.data.toList.drop H1.size).take N, true⟩, H1.size + N, 0) by unfold refBody; rw [if_neg (by rw [← DH.out, size_data, size_data]; exact hsh), ← DH.out, size_data]]
                      all_goals exact bodyPost_ret (v := .tuple #[.agg #[.int .i64 n, .string (s.extract H1.size (H1.size + N)), .bool true], .int .i64 ((H1.size : Int) + N), .int .i64 0]) (by simp [results, Tryd.results14, go_sem, z0, z1, z2]) rfl ⟨ret3 (by unfold repV; rw [show Value.string (s.extract H1.size (H1.size + N)) = bs ((s.data.toList.drop H1.size).take N) from vba (by rw [Lib.extract_data, Nat.add_sub_cancel_left])]) (vint (by simp)) rfl, (((hI5.below.drew).setCell (by simp) _).setCell (by simp) _).setCell (by simp) _⟩
                | false =>
                  have hbt' : Lib.hasPrefix s.data.toList H1.data.toList = false := by rw [dH1]; exact hbt
                  have HR := Lib.hid (ref_none hlt HN.out HL.out (refAt_short hAl hne hNK hbad hKe' hb0 hbt))
                  obtain ⟨p0, hp0⟩ : ∃ p0, Lib.hasPrefix (headL n N false) s.data.toList = p0 := ⟨_, rfl⟩
                  obtain ⟨p1, hp1⟩ : ∃ p1, Lib.hasPrefix (headL n N true) s.data.toList = p1 := ⟨_, rfl⟩
                  have HP0 := Lib.hid (show Lib.hasPrefix H0.data.toList s.data.toList = p0 by rw [dH0]; exact hp0)
                  have HP1 := Lib.hid (show Lib.hasPrefix H1.data.toList s.data.toList = p1 by rw [dH1]; exact hp1)
                  rw [hp0, hp1] at HR
                  have HB0 := Lib.hid hb0'
                  have HB1 := Lib.hid hbt'
                  clear hb0 hbt hb0' hbt' hp0 hp1 dH0 dH1 hne hNK hAl hKe hKe' hbad
                  cases p0
                  all_goals
                    go_wp2_with fail
                    refine (refNumber_as _ N K HNK.out _ HES.out).mono ?_
                    rintro e w3 ⟨rfl, rfl⟩
                    go_wp2_with fail
                    refine wp_loop_rounds 3 ?_
                    rw [rounds_succ]
                    go_wp2_with fail
                    refine (refHead_str n N false H0 HH0.out _ (by omega) (by omega) (by omega) hT3).mono ?_
                    rintro e w4 ⟨rfl, hb4⟩
                    have hI4 := hI2.keep hb4
                    have hT4 := hT3.keep hb4
                    have hc4 := (hI4.at k hlt).trans (congrArg (fun x => some (Value.int .i64 x)) HN.out.symm)
                    go_wp2_with fail
                    refine (begins_as s H0 false HB0.out _).mono ?_
                    rintro e w3 ⟨rfl, rfl⟩
                    go_wp2_with fail
                    refine (begins_as H0 s _ HP0.out _).mono ?_
                    rintro e w3 ⟨rfl, rfl⟩
                    go_wp2_with fail
                    rw [rounds_succ]
                    go_wp2_with fail
                    refine (refHead_str n N true H1 HH1.out _ (by omega) (by omega) (by omega) hT4).mono ?_
                    rintro e w5 ⟨rfl, hb5⟩
                    have hI5 := hI4.keep hb5
                    go_wp2_with fail
                    refine (begins_as s H1 false HB1.out _).mono ?_
                    rintro e w3 ⟨rfl, rfl⟩
                    go_wp2_with fail
                    cases p1
                    all_goals
                      refine (begins_as H1 s _ HP1.out _).mono ?_
                      rintro e w3 ⟨rfl, rfl⟩
                      go_wp2_with fail
                      rw [rounds_succ]
                      go_wp2_with fail
                      go_roundw
                      case rel => exact ⟨k + 1, _, by omega, by go_num, rfl, hI5, by rw [HR.out]; first | rfl | (cases b <;> rfl)⟩
                      case measure => simp [intOf]; omega
    · have hk11 : refReadL s.data.toList = (zeroRep, 0, if b then 192 else 193) := by
        obtain rfl : k = 11 := by omega
        rw [hL]; rfl
      have HR := Lib.hid hk11
      obtain ⟨⟨z0, z1, z2⟩, ⟨y0, y1, y2⟩⟩ := zero_reads hI
      have HI := Lib.hid hI
      clear hI hL hk11
      cases b
      all_goals
        go_wp2_with fail
        rw [HR.out]
      · exact bodyPost_ret (v := .tuple #[.agg #[.int .i64 0, .string ⟨#[]⟩, .bool false], .int .i64 0, .int .i64 193]) (by simp [results, Tryd.results14, go_sem, z0, z1, z2]) rfl ⟨rfl, ((HI.out.below.setCell (by simp) _).setCell (by simp) _).setCell (by simp) _⟩
      · exact bodyPost_ret (v := .tuple #[.agg #[.int .i64 0, .string ⟨#[]⟩, .bool false], .int .i64 0, .int .i64 192]) (by simp [results, Tryd.results14, go_sem, z0, z1, z2]) rfl ⟨rfl, ((HI.out.below.setCell (by simp) _).setCell (by simp) _).setCell (by simp) _⟩
end Go.Proofs.YtakbejphbnbepaaDoor.W19
