/-
  Walks of layer 19: the statements' awake; the reference's Same at two equal lists. Conditions: the library's table.
-/
import Derived.Test.YtakbejphbnbepaaDoorWalkM
namespace Go.Proofs.YtakbejphbnbepaaDoor.W19
open Go Go.RowKit P19
attribute [local go_sem ↓] Go.wp_at_zero Go.wp_at_succ

theorem read_201 : readL [72, 84, 84, 80, 47, 49, 46, 49, 32, 50, 48, 49] = (zeroRep, 0, 193) := by
  have h : (stats.all fun i => !(Lib.hasPrefix [72, 84, 84, 80, 47, 49, 46, 49, 32, 50, 48, 49] (firstC i)) && !(Lib.hasPrefix (firstC i) [72, 84, 84, 80, 47, 49, 46, 49, 32, 50, 48, 49])) = true := by decide +kernel
  have h' : ∀ i ∈ stats, Lib.hasPrefix [72, 84, 84, 80, 47, 49, 46, 49, 32, 50, 48, 49] (first i) = false ∧ Lib.hasPrefix (first i) [72, 84, 84, 80, 47, 49, 46, 49, 32, 50, 48, 49] = false := by
    intro i hi
    have := List.all_eq_true.1 h i hi
    rw [first_eq i hi]
    simpa using this
  unfold readL
  rw [statusL_miss (fun i hi => (h' i hi).1)]
  have ha : (stats.any fun n => Lib.hasPrefix (first n) [72, 84, 84, 80, 47, 49, 46, 49, 32, 50, 48, 49]) = false := by
    rw [List.any_eq_false]
    intro i hi
    rw [(h' i hi).2]
    simp
  rw [ha]
  simp
def okRep : Rep := ⟨200, [111, 107], false⟩
theorem write_ok : (writeL okRep).2 = 0 := by unfold writeL okRep; rw [if_neg (by decide), if_neg (by decide)]
theorem write_len : (writeL okRep).1.length = 40 := by
  unfold writeL okRep
  rw [if_neg (by decide), if_neg (by decide)]
  simp [headL, startOf, first_eq 200 (by decide), closing, firstC, verB, lenB, crlf, reason, Lib.itoa, Lib.decDigits]

theorem Write_as (st : Int) (b : ByteArray) (c : Bool) (R : ByteArray) (E : Int) (h : writeL ⟨st, b.data.toList, c⟩ = (R.data.toList, E)) (w : World) (h0 : -9223372036854775808 ≤ st) (h1 : st ≤ 9223372036854775807) (hm : b.size ≤ maxLen) (hT : Tab w) :
    Calls Tryd.prog 11 #[.agg #[.int .i64 st, .string b, .bool c]] w fun e w' => e = .returned (.tuple #[.string R, .int .i64 E]) ∧ Below w.heap.size w w' := by
  have := Write_any st b c w h0 h1 hm hT
  rw [h] at this
  exact this.mono fun _ _ ⟨he, hw⟩ => ⟨he.trans (ret2 (bs_data R) rfl), hw⟩

set_option maxRecDepth 100000 in
set_option maxHeartbeats 400000 in
theorem awake_any (w : World) (hT : Tab w) :
    Calls Tryd.prog 8 #[] w fun e w' => e = .returned (.bool true) ∧ Below w.heap.size w w' := by
  obtain ⟨R, hR⟩ : ∃ R : ByteArray, R = ⟨(writeL okRep).1.toArray⟩ := ⟨_, rfl⟩
  have hRd : R.data.toList = (writeL okRep).1 := by rw [hR]
  have hRs : (R.size : Int) = 40 := by rw [← size_data, hRd, write_len]; rfl
  have HW := Lib.hid (show writeL ⟨200, (⟨#[111, 107]⟩ : ByteArray).data.toList, false⟩ = (R.data.toList, 0) by rw [hRd]; exact Prod.ext rfl write_ok)
  have HR1 := Lib.hid (show readL (R ++ ⟨#[120]⟩).data.toList = (⟨200, (⟨#[111, 107]⟩ : ByteArray).data.toList, false⟩, 40, 0) by
    have h := readL_back write_ok [120]
    rw [write_len, ← hRd] at h
    simpa [okRep] using h)
  have HR2 := Lib.hid (show readL (⟨#[72, 84, 84, 80, 47, 49, 46, 49, 32, 50, 48, 49]⟩ : ByteArray).data.toList = (⟨0, (⟨#[]⟩ : ByteArray).data.toList, false⟩, 0, 193) from read_201)
  have HS := Lib.hid (show (R ++ ⟨#[120]⟩).size ≤ 9223372036854770000 by rw [ByteArray.size_append]; have : (⟨#[120]⟩ : ByteArray).size = 1 := rfl; omega)
  have HZ2 := Lib.hid (show (⟨#[111, 107]⟩ : ByteArray).size ≤ maxLen by show 2 ≤ maxLen; unfold maxLen; omega)
  have HZ12 := Lib.hid (show (⟨#[72, 84, 84, 80, 47, 49, 46, 49, 32, 50, 48, 49]⟩ : ByteArray).size ≤ 9223372036854770000 by show 12 ≤ 9223372036854770000; omega)
  clear hR hRd
  go_enter Tryd.func8, Tryd.ntmps8
  go_wp2_with fail
  refine (Write_as 200 ⟨#[111, 107]⟩ false R 0 HW.out _ (by omega) (by omega) HZ2.out hT).mono ?_
  rintro e w1 ⟨rfl, hb1⟩
  have hT1 := hT.keep hb1
  go_wp2_with fail
  have q1 := Read_as (R ++ ⟨#[120]⟩) 200 ⟨#[111, 107]⟩ false 40 0 HR1.out w1 hT1 HS.out
  refine q1.mono ?_
  clear q1
  rintro e w2 ⟨rfl, hb2⟩
  have hT2 := (hT1.keep hb2).new (.cells #[.int .i64 200, .string ⟨#[111, 107]⟩, .bool false] 25)
  go_wp2_with fail
  have q2 := Read_as ⟨#[72, 84, 84, 80, 47, 49, 46, 49, 32, 50, 48, 49]⟩ 0 ⟨#[]⟩ false 0 193 HR2.out _ hT2 HZ12.out
  refine q2.mono ?_
  clear q2
  rintro e w3 ⟨rfl, hb3⟩
  have hc0 := keep_cell (below_alloc w3 (.cells #[.int .i64 0, .string ⟨#[]⟩, .bool false] 25)) (keep_cell hb3 (Lib.cell_of_heap (heap_new w2 (.cells #[.int .i64 200, .string ⟨#[111, 107]⟩, .bool false] 25)) 0))
  have hc1 := keep_cell (below_alloc w3 (.cells #[.int .i64 0, .string ⟨#[]⟩, .bool false] 25)) (keep_cell hb3 (Lib.cell_of_heap (heap_new w2 (.cells #[.int .i64 200, .string ⟨#[111, 107]⟩, .bool false] 25)) 1))
  have hc2 := keep_cell (below_alloc w3 (.cells #[.int .i64 0, .string ⟨#[]⟩, .bool false] 25)) (keep_cell hb3 (Lib.cell_of_heap (heap_new w2 (.cells #[.int .i64 200, .string ⟨#[111, 107]⟩, .bool false] 25)) 2))
  go_wp2_with fail
  go_ret
  exact ⟨rfl, below_then hb1 (below_then hb2 (below_then (below_alloc w2 _) (below_then hb3 (below_alloc w3 _))))⟩

/-! ## Same, at two equal lists -/
/-- A slice that reads as a list of replies. -/
def RowsR (w : World) (v : Value) (l : List Rep) : Prop :=
  ∃ o cap, v = .slice o l.length cap ∧ (l = [] ∨ ∃ g, o = some ⟨g, 0, none⟩ ∧ ∀ (j : Nat) (r : Rep), l[j]? = some r → w.cell? ⟨g, j * 3, none⟩ = some (.int .i64 r.status) ∧ w.cell? ⟨g, j * 3 + 1, none⟩ = some (bs r.body) ∧ w.cell? ⟨g, j * 3 + 2, none⟩ = some (.bool r.close))

set_option maxRecDepth 100000 in
set_option maxHeartbeats 1600000 in
theorem Same_full (g1 c1 g2 c2 n : Nat) (l : List Rep) (w : World) (hn : l.length = n) (hm : n ≤ 4611686018427387904)
    (h1 : ∀ (j : Nat) (r : Rep), l[j]? = some r → w.cell? ⟨g1, j * 3, none⟩ = some (.int .i64 r.status) ∧ w.cell? ⟨g1, j * 3 + 1, none⟩ = some (bs r.body) ∧ w.cell? ⟨g1, j * 3 + 2, none⟩ = some (.bool r.close))
    (h2 : ∀ (j : Nat) (r : Rep), l[j]? = some r → w.cell? ⟨g2, j * 3, none⟩ = some (.int .i64 r.status) ∧ w.cell? ⟨g2, j * 3 + 1, none⟩ = some (bs r.body) ∧ w.cell? ⟨g2, j * 3 + 2, none⟩ = some (.bool r.close)) :
    Calls Tryd.prog 17 #[.slice (some ⟨g1, 0, none⟩) n c1, .slice (some ⟨g2, 0, none⟩) n c2] w fun e w' => e = .returned (.bool true) ∧ Below w.heap.size w w' := by
  have H1 := Lib.hid h1
  have H2 := Lib.hid h2
  have HN := Lib.hid hn
  clear h1 h2 hn
  go_enter Tryd.func17, Tryd.ntmps17
  go_wp2_with fail
  go_loopw [5] (fun i wr => ∃ k d : Nat, k ≤ n ∧ i = .int .i64 k ∧ wr = w.drewN d) (fun i _ => n - (intOf i).toNat)
  case atStart => exact ⟨0, 0, by omega, rfl, rfl⟩
  case round =>
    obtain ⟨k, d, hk, rfl, rfl⟩ := hrel
    by_cases hlt : k < n
    · obtain ⟨r, hr⟩ : ∃ r, l[k]? = some r := ⟨l[k]'(by rw [HN.out]; exact hlt), List.getElem?_eq_getElem _⟩
      obtain ⟨a0, a1, a2⟩ := H1.out k r hr
      obtain ⟨b0, b1, b2⟩ := H2.out k r hr
      have hk0 : (0 : Int) ≤ (k : Int) := by omega
      have hk1 : (k : Int) < (n : Int) := by omega
      clear hr
      go_wp2_with fail
      go_quiet (fail)
      rw [World.drewN_drewN]
      go_wp2_with fail
      go_roundw
      case rel => exact ⟨k + 1, _, by omega, by go_num, rfl⟩
      case measure => simp [intOf]; omega
    · obtain rfl : k = n := by omega
      go_wp2_with fail
      go_ret
      exact ⟨rfl, below_drewN w d⟩

theorem Same_none (o1 o2 : Option Addr) (c1 c2 : Nat) (w : World) :
    Calls Tryd.prog 17 #[.slice o1 0 c1, .slice o2 0 c2] w fun e w' => e = .returned (.bool true) ∧ Below w.heap.size w w' := by
  go_enter Tryd.func17, Tryd.ntmps17
  go_wp2_with fail
  refine wp_loop_rounds 1 ?_
  rw [rounds_succ]
  go_wp2_with fail
  go_ret
  exact ⟨rfl, Below.refl _ _⟩

theorem Same_any (v1 v2 : Value) (l : List Rep) (w : World) (hm : l.length ≤ 4611686018427387904) (h1 : RowsR w v1 l) (h2 : RowsR w v2 l) :
    Calls Tryd.prog 17 #[v1, v2] w fun e w' => e = .returned (.bool true) ∧ Below w.heap.size w w' := by
  obtain ⟨o1, c1, rfl, h1⟩ := h1
  obtain ⟨o2, c2, rfl, h2⟩ := h2
  rcases h1 with rfl | ⟨g1, rfl, h1⟩
  · exact Same_none o1 o2 c1 c2 w
  · rcases h2 with rfl | ⟨g2, rfl, h2⟩
    · exact Same_none _ o2 c1 c2 w
    · exact Same_full g1 c1 g2 c2 l.length l w rfl hm h1 h2

theorem cellsL_get (L : List Rep) (j : Nat) (r : Rep) (h : L[j]? = some r) : (cellsL L)[j * 3]? = some (.int .i64 r.status) ∧ (cellsL L)[j * 3 + 1]? = some (bs r.body) ∧ (cellsL L)[j * 3 + 2]? = some (.bool r.close) := by
  induction L generalizing j with
  | nil => simp at h
  | cons a L ih =>
    have hc : cellsL (a :: L) = .int .i64 a.status :: bs a.body :: .bool a.close :: cellsL L := by simp [cellsL, cellsR]
    rw [hc]
    cases j with
    | zero =>
      simp at h
      subst h
      exact ⟨rfl, rfl, rfl⟩
    | succ j =>
      have := ih j (by simpa using h)
      simpa [Nat.succ_mul] using this

/-- An own row of replies reads as its list. -/
theorem rows_of_own {w : World} {B : Nat} {v : Value} {L : List Rep} (h : w.ownsRow B 25 3 v L.length (cellsL L)) : RowsR w v L := by
  cases L with
  | nil =>
    rcases h.2 with ⟨rfl, _⟩ | ⟨g, cap, cur, rfl, _⟩
    · exact ⟨_, _, rfl, .inl rfl⟩
    · exact ⟨_, _, rfl, .inl rfl⟩
  | cons a L =>
    obtain ⟨g, cap, rfl⟩ : ∃ g cap, v = .slice (some ⟨g, 0, none⟩) (a :: L).length cap := by
      rcases h.2 with ⟨_, h0⟩ | ⟨g, cap, cur, hv, _⟩
      · simp at h0
      · exact ⟨g, cap, hv⟩
    refine ⟨_, _, rfl, .inr ⟨g, rfl, ?_⟩⟩
    intro j r hj
    have hlt : j < (a :: L).length := (List.getElem?_eq_some_iff.1 hj).1
    obtain ⟨e0, e1, e2⟩ := cellsL_get (a :: L) j r hj
    exact ⟨(h.cellAt (j * 3) (by omega)).trans e0, (h.cellAt (j * 3 + 1) (by omega)).trans e1, (h.cellAt (j * 3 + 2) (by omega)).trans e2⟩
end Go.Proofs.YtakbejphbnbepaaDoor.W19
