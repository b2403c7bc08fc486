/-
  Read at every text: it answers readL. Conditions: the library's table; the text's own bound.
-/
import Derived.Test.YtakbejphbnbepaaDoorWalkJ
namespace Go.Proofs.YtakbejphbnbepaaDoor.W19
open Go Go.RowKit P19

theorem wordL_le (s w : By) : (wordL s w).1.length ≤ s.length := by
  unfold wordL
  split
  · simp
  · split <;> simp
theorem statusL_le (s : By) : (statusL s).2.1.length ≤ s.length := by
  unfold statusL
  split <;> simp
theorem numberL_le (s : By) : (numberL s).2.1.length ≤ s.length := by
  unfold numberL
  split
  · simp
  · split
    · simp
    · split
      · simp
      · exact Nat.le_trans (wordL_le _ _) (by simp)
theorem tailL_le (s : By) : (tailL s).2.1.length ≤ s.length := by
  unfold tailL
  split
  · exact Nat.le_trans (wordL_le _ _) (wordL_le _ _)
  · split
    · simp
    · exact wordL_le _ _
theorem numberL_ok {s : By} (h : (numberL s).2.2 = 0) : (numberL s).1 ≤ 100000 := by
  by_cases h0 : s = []
  · rw [h0, numberL_nil] at h; cases h
  · rcases number_cases h0 with ⟨hn, -⟩ | ⟨n, r3, hn, hr, hp, -, -⟩
    · rw [hn] at h; cases h
    · rw [hp]; exact hn

theorem as_list (l : By) : ∃ R : ByteArray, R.data.toList = l := ⟨⟨l.toArray⟩, by simp⟩
theorem ne_bool {E : Int} (h : E ≠ 0) : (E == 0) = false := by rw [beq_eq_false_iff_ne]; exact h

theorem Read_any (s : ByteArray) (w : World) (hT : Tab w) (hm : s.size ≤ 9223372036854770000) :
    Calls Tryd.prog 13 #[.string s] w fun e w' => e = .returned (.tuple #[repV (readL s.data.toList).1, .int .i64 (readL s.data.toList).2.1, .int .i64 (readL s.data.toList).2.2]) ∧ Below w.heap.size w w' := by
  obtain ⟨R1, hR1⟩ := as_list (statusL s.data.toList).2.1
  have h1 : statusL s.data.toList = ((statusL s.data.toList).1, R1.data.toList, (statusL s.data.toList).2.2) := by rw [hR1]
  have l1 := statusL_le s.data.toList
  rw [← hR1, size_data, size_data] at l1
  have hz : repV zeroRep = .agg #[.int .i64 0, .string ⟨#[]⟩, .bool false] := rfl
  unfold readL
  generalize (statusL s.data.toList).1 = m at h1 ⊢
  generalize (statusL s.data.toList).2.2 = E1 at h1 ⊢
  rw [← hR1]
  by_cases e1 : E1 = 0
  · subst e1
    rw [if_neg (by simp)]
    obtain ⟨R2, hR2⟩ := as_list (wordL R1.data.toList lenB).1
    have h2 : wordL R1.data.toList lenB = (R2.data.toList, (wordL R1.data.toList lenB).2) := by rw [hR2]
    have l2 := wordL_le R1.data.toList lenB
    rw [← hR2, size_data, size_data] at l2
    generalize (wordL R1.data.toList lenB).2 = E2 at h2 ⊢
    rw [← hR2]
    by_cases e2 : E2 = 0
    · subst e2
      rw [if_neg (by simp)]
      obtain ⟨R3, hR3⟩ := as_list (numberL R2.data.toList).2.1
      have h3 : numberL R2.data.toList = ((numberL R2.data.toList).1, R3.data.toList, (numberL R2.data.toList).2.2) := by rw [hR3]
      have l3 := numberL_le R2.data.toList
      have n3 := @numberL_ok R2.data.toList
      rw [← hR3, size_data, size_data] at l3
      generalize (numberL R2.data.toList).1 = n at h3 n3 ⊢
      generalize (numberL R2.data.toList).2.2 = E3 at h3 n3 ⊢
      rw [← hR3]
      by_cases e3 : E3 = 0
      · subst e3
        rw [if_neg (by simp)]
        have n3 := n3 rfl
        obtain ⟨R4, hR4⟩ := as_list (tailL R3.data.toList).2.1
        have h4 : tailL R3.data.toList = ((tailL R3.data.toList).1, R4.data.toList, (tailL R3.data.toList).2.2) := by rw [hR4]
        have l4 := tailL_le R3.data.toList
        rw [← hR4, size_data, size_data] at l4
        by_cases e4 : (tailL R3.data.toList).2.2 = 0
        · rw [if_neg (by simp [e4])]
          rw [e4] at h4
          rw [← hR4]
          generalize (tailL R3.data.toList).1 = c at h4 ⊢
          unfold bodyL
          rw [size_data, size_data]
          by_cases hlt : R4.size < n
          · rw [if_pos hlt]
            exact Read_short s w hT m R1 h1 R2 h2 n R3 h3 (by omega) c R4 h4 (by omega) hlt
          · rw [if_neg hlt]
            refine (Read_ok s w hT m R1 h1 R2 h2 n R3 h3 (by omega) c R4 h4 (by omega) (by omega) hm n3).mono fun e w' ⟨he, hb⟩ => ⟨he.trans (ret3 ?_ (vint ?_) rfl), hb⟩
            · unfold repV
              have : Value.string (R4.extract 0 n) = bs (R4.data.toList.take n) := vba (by rw [Lib.extract_data]; simp)
              rw [this]
            · simp only
              omega
        · rw [if_pos e4]
          exact Read_e4 s w hT _ (ne_bool e4) m R1 h1 R2 h2 n R3 h3 (by omega) rfl
      · rw [if_pos e3]
        exact Read_e3 s w hT E3 (ne_bool e3) m R1 h1 R2 h2 n R3 h3 (by omega)
    · rw [if_pos e2]
      exact Read_e2 s w hT E2 (ne_bool e2) m R1 h1 R2 h2
  · rw [if_pos e1]
    exact Read_e1 s w hT E1 (ne_bool e1) m R1 h1
end Go.Proofs.YtakbejphbnbepaaDoor.W19
