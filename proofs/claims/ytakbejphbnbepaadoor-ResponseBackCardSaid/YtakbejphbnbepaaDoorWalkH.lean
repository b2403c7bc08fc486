/-
  Walks of layer 19: status, a loop over the map of the words in whatever order the tape says. Conditions: the library's table.
-/
import Derived.Test.YtakbejphbnbepaaDoorWalkG
import Derived.Maps.RangeRun
namespace Go.Proofs.YtakbejphbnbepaaDoor.W19
open Go Go.RowKit P19
open Go.ChangeMaps (setBlock)

theorem first_str (s : Int) (F : ByteArray) (hF : F = ⟨(first s).toArray⟩) (h0 : -9223372036854775808 ≤ s) (h1 : s ≤ 9223372036854775807) (w : World) (hT : Tab w) :
    Calls Tryd.prog 20 #[.int .i64 s] w fun e w' => e = .returned (.string F) ∧ Below w.heap.size w w' := by
  subst hF
  exact first_any s h0 h1 w hT

/-- Is a status among those whose first lines the text is a beginning of, and that have come? -/
def code (l : By) (seen : Array Nat) : Int := if (List.range 11).any (fun i => seen.contains i && Lib.hasPrefix (first (stats.getD i 0)) l) then 192 else 193
theorem code_none (l : By) : code l #[] = 193 := by unfold code; rw [if_neg (by simp)]
theorem contains_pushed (seen : Array Nat) (i j : Nat) : (seen.push i).contains j = (seen.contains j || j == i) := by
  rw [Bool.eq_iff_iff]
  simp
theorem code_short (l : By) (seen : Array Nat) (i : Nat) (hi : i < 11) (h : Lib.hasPrefix (first (stats.getD i 0)) l = true) : code l (seen.push i) = 192 := by
  unfold code
  rw [if_pos]
  rw [List.any_eq_true]
  exact ⟨i, List.mem_range.2 hi, by rw [contains_pushed, h]; simp⟩
theorem code_form (l : By) (seen : Array Nat) (i : Nat) (h : Lib.hasPrefix (first (stats.getD i 0)) l = false) : code l (seen.push i) = code l seen := by
  unfold code
  have : ((List.range 11).any fun j => (seen.push i).contains j && Lib.hasPrefix (first (stats.getD j 0)) l) = ((List.range 11).any fun j => seen.contains j && Lib.hasPrefix (first (stats.getD j 0)) l) := by
    congr 1
    funext j
    rw [contains_pushed]
    by_cases e : j = i
    · subst e; rw [h]; simp
    · rw [show (j == i) = false by simpa using e, Bool.or_false]
  rw [this]
theorem stats_get (i : Nat) (hi : i < 11) : stats.getD i 0 ∈ stats := by
  have : stats.getD i 0 = stats[i]'(by simpa [stats] using hi) := by rw [List.getD_eq_getElem?_getD, List.getElem?_eq_getElem (by simpa [stats] using hi)]; rfl
  rw [this]
  exact List.getElem_mem _
theorem stats_at (n : Int) (h : n ∈ stats) : ∃ i, i < 11 ∧ n = stats.getD i 0 := by
  obtain ⟨i, hi, rfl⟩ := List.getElem_of_mem h
  exact ⟨i, by simpa [stats] using hi, by rw [List.getD_eq_getElem?_getD, List.getElem?_eq_getElem hi]; rfl⟩
theorem code_all (l : By) (seen : Array Nat) (h : ∀ i, i < 11 → seen.contains i = true) : code l seen = if stats.any (fun n => Lib.hasPrefix (first n) l) then 192 else 193 := by
  unfold code
  have : ((List.range 11).any fun j => seen.contains j && Lib.hasPrefix (first (stats.getD j 0)) l) = stats.any fun n => Lib.hasPrefix (first n) l := by
    rw [Bool.eq_iff_iff, List.any_eq_true, List.any_eq_true]
    constructor
    · rintro ⟨i, hi, he⟩
      exact ⟨_, stats_get i (List.mem_range.1 hi), by simp at he; exact he.2⟩
    · rintro ⟨n, hn, he⟩
      obtain ⟨i, hi, rfl⟩ := stats_at n hn
      exact ⟨i, List.mem_range.2 hi, by rw [h i hi, he]; rfl⟩
  rw [this]
theorem stats_int (n : Int) (h : n ∈ stats) : 200 ≤ n ∧ n ≤ 507 := by
  simp only [stats, List.mem_cons, List.mem_nil_iff, or_false] at h
  omega

theorem rea_mem (e : MapEntry) (h : e ∈ (rea 11).toList) : ∃ i, i < 11 ∧ e = ent i := by
  rw [rea_list] at h
  obtain ⟨i, hi, rfl⟩ := List.mem_map.1 h
  exact ⟨i, List.mem_range.1 hi, rfl⟩
theorem rea_in (i : Nat) (h : i < 11) : ent i ∈ (rea 11).toList := by
  rw [rea_list]
  exact List.mem_map.2 ⟨i, List.mem_range.2 h, rfl⟩
theorem rea_old : ∀ x ∈ (rea 11).toList, x.born < 11 := fun x hx => by
  obtain ⟨i, hi, rfl⟩ := rea_mem x hx
  exact hi
theorem rea_nodup : ((rea 11).toList.map (·.born)).Nodup := by
  rw [rea_list, List.map_map]
  have : ((fun e : MapEntry => e.born) ∘ ent) = id := rfl
  rw [this, List.map_id]
  exact List.nodup_range
theorem left_mem (seen : Array Nat) (e : MapEntry) (h : e ∈ (leftOf (rea 11) seen).toList) : ∃ i, i < 11 ∧ e = ent i ∧ seen.contains i = false := by
  have h1 := mem_left h
  obtain ⟨i, hi, rfl⟩ := rea_mem e h1.1
  exact ⟨i, hi, rfl, h1.2⟩
theorem left_none (seen : Array Nat) (h : (leftOf (rea 11) seen).size = 0) : ∀ i, i < 11 → seen.contains i = true := by
  intro i hi
  cases hc : seen.contains i with
  | true => rfl
  | false =>
    have : ent i ∈ leftOf (rea 11) seen := by
      unfold leftOf
      rw [Array.mem_filter]
      refine ⟨Array.mem_toList_iff.1 (rea_in i hi), ?_⟩
      show (!seen.contains i) = true
      rw [hc]; rfl
    have h0 : leftOf (rea 11) seen = #[] := Array.eq_empty_of_size_eq_zero h
    rw [h0] at this
    simp at this

theorem iterSeen_at {w : World} {r b s c : Nat} {seen : Array Nat} (h : w.heap[r]? = some (.mapIter (some b) s seen c)) : w.iterSeen r = seen := by
  unfold World.iterSeen
  rw [h]
theorem setBlock_same {w : World} {r : Nat} {o : Obj} (h : r < w.heap.size) : (setBlock w r o).heap[r]? = some o := by simp [setBlock, h]
theorem setBlock_other {w : World} {r k : Nat} {o : Obj} (h : k ≠ r) : (setBlock w r o).heap[k]? = w.heap[k]? := by
  simp only [setBlock]
  rw [Array.getElem?_setIfInBounds_ne (Ne.symm h)]
theorem setBlock_size {w : World} {r : Nat} {o : Obj} : (setBlock w r o).heap.size = w.heap.size := by simp [setBlock]
theorem below_setBlock {a w : World} {B r : Nat} {o : Obj} (h : Below B a w) (hr : B ≤ r) : Below B a (setBlock w r o) :=
  h.trans ⟨rfl, rfl, rfl, by rw [setBlock_size]; exact Nat.le_refl _, fun k hk => setBlock_other (by omega)⟩
theorem lt_of_some {w : World} {r : Nat} {o : Obj} (h : w.heap[r]? = some o) : r < w.heap.size := by
  rcases Nat.lt_or_ge r w.heap.size with h' | h'
  · exact h'
  · simp [Array.getElem?_eq_none h'] at h

/-- The loop's state: the map and its iterator lie as they were laid, those that have come are no beginnings of the text. -/
def InLoop (w : World) (l : By) (e : Value) (wr : World) (seen : Array Nat) : Prop :=
  wr.heap[w.heap.size]? = some (.map (rea 11) 11) ∧ wr.heap[w.heap.size + 1]? = some (.mapIter (some w.heap.size) 11 seen 11) ∧ Below w.heap.size w wr ∧ e = .int .i64 (code l seen) ∧
  ∀ i, i < 11 → seen.contains i = true → Lib.hasPrefix l (first (stats.getD i 0)) = false

set_option maxHeartbeats 1600000 in
theorem status_any (s : ByteArray) (w : World) (hT : Tab w) :
    Calls Tryd.prog 24 #[.string s] w fun e w' => e = .returned (.tuple #[.int .i64 (statusL s.data.toList).1, bs (statusL s.data.toList).2.1, .int .i64 (statusL s.data.toList).2.2]) ∧ Below w.heap.size w w' := by
  have hrg := run_range_map (P := Tryd.prog) (w.alloc (.map (rea 11) 11)) 39 3 9 w.heap.size (rea 11) 11 Tryd.underlying39 (heap_new w _)
  have hsz : (w.alloc (.map (rea 11) 11)).heap.size = w.heap.size + 1 := by simp
  rw [hsz] at hrg
  clear hsz
  go_enter Tryd.func24, Tryd.ntmps24
  go_wp2_with (go_at_call 18; refine (reasons_any _).mono ?_; rintro e w' ⟨rfl, rfl⟩)
  clear hrg
  go_loopw [5] (fun e wr => ∃ seen : Array Nat, InLoop w s.data.toList e wr seen) (fun _ wr => (leftOf (rea 11) (wr.iterSeen (w.heap.size + 1))).size)
  case atStart =>
    refine ⟨#[], ?_, ?_, below_then (below_alloc w _) (below_alloc _ _), by rw [code_none], fun i _ h => by simp at h⟩
    · rw [Below.heap_alloc _ _ _ (by simp)]; exact heap_new w _
    · have := heap_new (w.alloc (.map (rea 11) 11)) (.mapIter (some w.heap.size) 11 #[] 11)
      rwa [World.size_alloc] at this
  case round =>
    obtain ⟨seen, hM, hI, hB, rfl, hno⟩ := hrel
    have hseen := iterSeen_at hI
    rcases run_next_at (P := Tryd.prog) wr 0 (w.heap.size + 1) w.heap.size 11 11 seen (rea 11) 11 hI hM rea_old (Nat.le_refl _) with ⟨h0, hrun⟩ | ⟨en, hen, w1, hw1, hrun⟩
    · have hrun' : ∀ ty, (Instr.next (.pointer (some ⟨w.heap.size + 1, 0, none⟩)) false ty).run Tryd.prog wr = .ok (.tuple #[.bool false]) wr := fun _ => hrun
      have hall := left_none seen h0
      have HL := Lib.hid (show statusL s.data.toList = (0, [], code s.data.toList seen) by
        rw [code_all _ _ hall]
        exact statusL_miss (fun n hn => by obtain ⟨i, hi, rfl⟩ := stats_at n hn; exact hno i hi (hall i hi)))
      clear hseen hrun hall hno h0
      go_wp2
      go_ret3
      exact ⟨by rw [HL.out]; rfl, hB⟩
    · obtain ⟨i, hi, rfl, hnew⟩ := left_mem seen en hen
      have hshrink := left_shrinks (rea 11) seen (ent i) hen
      have hBd : Below w.heap.size w w1 := by
        rcases hw1 with rfl | rfl
        · exact hB
        · exact hB.drew
      have hw1h : w1.heap = wr.heap := by rcases hw1 with rfl | rfl <;> rfl
      have hIlt : w.heap.size + 1 < w1.heap.size := by rw [hw1h]; exact lt_of_some hI
      obtain ⟨W2, hW2⟩ : ∃ W2, W2 = setBlock w1 (w.heap.size + 1) (.mapIter (some w.heap.size) 11 (seen.push (ent i).born) 11) := ⟨_, rfl⟩
      have hM2 : W2.heap[w.heap.size]? = some (.map (rea 11) 11) := by rw [hW2, setBlock_other (by omega), hw1h]; exact hM
      have hI2 : W2.heap[w.heap.size + 1]? = some (.mapIter (some w.heap.size) 11 (seen.push i) 11) := by rw [hW2]; exact setBlock_same hIlt
      have hB2 : Below w.heap.size w W2 := by rw [hW2]; exact below_setBlock hBd (by omega)
      have hrun' : ∀ ty, (Instr.next (.pointer (some ⟨w.heap.size + 1, 0, none⟩)) false ty).run Tryd.prog wr = .ok (.tuple #[.bool true, (ent i).key, (ent i).val]) W2 := fun _ => by rw [hW2]; exact hrun
      have hent := run_entry_at (P := Tryd.prog) W2 (w.heap.size + 1) w.heap.size 11 seen (rea 11) 11 (ent i) hI2 hM2 (rea_in i hi) rea_nodup
      obtain ⟨n, hn⟩ : ∃ n, n = stats.getD i 0 := ⟨_, rfl⟩
      have hns : n ∈ stats := by rw [hn]; exact stats_get i hi
      obtain ⟨hn1, hn2⟩ := stats_int n hns
      have hkey : (ent i).key = .int .i64 n := by rw [hn]; rfl
      rw [hkey] at hrun' hent
      clear hkey hrun hw1 hw1h hW2 hBd hIlt
      obtain ⟨F, hF⟩ : ∃ F : ByteArray, F = ⟨(first n).toArray⟩ := ⟨_, rfl⟩
      have hFl : F.data.toList = first n := by rw [hF]
      have HF := Lib.hid hF
      have hT2 := hT.keep hB2
      have HN := Lib.hid hn
      have HS := Lib.hid hseen
      have HNO := Lib.hid hno
      clear hF hn hseen hno hns
      cases h1 : Lib.hasPrefix s.data.toList (first n) with
      | true =>
        obtain ⟨R, hR⟩ : ∃ R : ByteArray, R.data.toList = s.data.toList.drop (first n).length := ⟨⟨(s.data.toList.drop (first n).length).toArray⟩, by simp⟩
        have HW := Lib.hid (show wordL s.data.toList F.data.toList = (R.data.toList, 0) by rw [hFl, hR]; simp [wordL, h1])
        have HL := Lib.hid (show statusL s.data.toList = (n, R.data.toList, 0) by
          have e := hp_split h1
          rw [hR]
          conv => lhs; rw [e]
          exact statusL_hit (by rw [HN.out]; exact stats_get i hi) _)
        clear h1 hR hFl
        go_wp2_with (first | (go_at_call 20; refine (first_str n F HF.out (by omega) (by omega) _ hT2).mono ?_; rintro e w3 ⟨rfl, hb3⟩) | (go_at_call 26; refine (word_as s F R 0 HW.out _).mono ?_; rintro e w4 ⟨rfl, rfl⟩))
        go_ret3
        exact ⟨by rw [HL.out]; exact ret3 rfl (bs_data R).symm rfl, hB2.trans (hb3.mono hB2.size)⟩
      | false =>
        have hnext : ∀ j, j < 11 → (seen.push i).contains j = true → Lib.hasPrefix s.data.toList (first (stats.getD j 0)) = false := by
          intro j hj hc
          rw [contains_pushed] at hc
          by_cases e : j = i
          · rw [e, ← HN.out]; exact h1
          · rw [show (j == i) = false by simpa using e, Bool.or_false] at hc
            exact HNO.out j hj hc
        have HX := Lib.hid hnext
        clear hnext
        cases h2 : Lib.hasPrefix (first n) s.data.toList with
        | true =>
          have HW := Lib.hid (show wordL s.data.toList F.data.toList = ((⟨#[]⟩ : ByteArray).data.toList, 192) by rw [hFl]; simp [wordL, h1, h2])
          have HC := Lib.hid (show code s.data.toList (seen.push i) = 192 from code_short _ _ i hi (by rw [← HN.out]; exact h2))
          clear h1 h2 hFl
          go_wp2_with (first | (go_at_call 20; refine (first_str n F HF.out (by omega) (by omega) _ hT2).mono ?_; rintro e w3 ⟨rfl, hb3⟩) | (go_at_call 26; refine (word_as s F ⟨#[]⟩ 192 HW.out _).mono ?_; rintro e w4 ⟨rfl, rfl⟩))
          go_roundw
          case rel =>
            refine ⟨seen.push i, ?_, ?_, hB2.trans (hb3.mono hB2.size), by rw [HC.out], HX.out⟩
            · rw [hb3.block _ (lt_of_some hM2)]; exact hM2
            · rw [hb3.block _ (lt_of_some hI2)]; exact hI2
          case measure =>
            rw [HS.out, iterSeen_at (show w3.heap[w.heap.size + 1]? = _ by rw [hb3.block _ (lt_of_some hI2)]; exact hI2)]
            exact hshrink
        | false =>
          have HW := Lib.hid (show wordL s.data.toList F.data.toList = ((⟨#[]⟩ : ByteArray).data.toList, 193) by rw [hFl]; simp [wordL, h1, h2])
          have HC := Lib.hid (show code s.data.toList (seen.push i) = code s.data.toList seen from code_form _ _ i (by rw [← HN.out]; exact h2))
          clear h1 h2 hFl
          go_wp2_with (first | (go_at_call 20; refine (first_str n F HF.out (by omega) (by omega) _ hT2).mono ?_; rintro e w3 ⟨rfl, hb3⟩) | (go_at_call 26; refine (word_as s F ⟨#[]⟩ 193 HW.out _).mono ?_; rintro e w4 ⟨rfl, rfl⟩))
          go_roundw
          case rel =>
            refine ⟨seen.push i, ?_, ?_, hB2.trans (hb3.mono hB2.size), by rw [HC.out], HX.out⟩
            · rw [hb3.block _ (lt_of_some hM2)]; exact hM2
            · rw [hb3.block _ (lt_of_some hI2)]; exact hI2
          case measure =>
            rw [HS.out, iterSeen_at (show w3.heap[w.heap.size + 1]? = _ by rw [hb3.block _ (lt_of_some hI2)]; exact hI2)]
            exact hshrink
end Go.Proofs.YtakbejphbnbepaaDoor.W19
