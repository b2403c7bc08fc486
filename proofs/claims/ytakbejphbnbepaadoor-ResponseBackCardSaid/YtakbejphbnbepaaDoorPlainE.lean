/-
  Plain law of layer 19: a reply's text has at least 32 bytes, so a text of n bytes begins with at most n / 32 replies. No condition.
-/
import Derived.Test.YtakbejphbnbepaaDoorPlainD
namespace Go.Proofs.YtakbejphbnbepaaDoor.P19
open Go

theorem writeL_32 {r : Rep} (h : (writeL r).2 = 0) : 32 ≤ (writeL r).1.length := by
  unfold writeL at h ⊢
  by_cases h1 : reason r.status = []
  · rw [if_pos h1] at h; cases h
  · by_cases h2 : 100000 < r.body.length
    · rw [if_neg h1, if_pos h2] at h; cases h
    · rw [if_neg h1, if_neg h2]
      simp [headL, startOf, first, verB, lenB, crlf]
      omega
theorem readL_32 {s : By} (h : (readL s).2.2 = 0) : 32 ≤ (readL s).2.1 ∧ (readL s).2.1 ≤ s.length := by
  obtain ⟨h1, h2, t, h3⟩ := readL_was (s := s) (r := (readL s).1) (k := (readL s).2.1) (by rw [← h])
  refine ⟨by rw [h2]; exact writeL_32 h1, (readL_pos h).2⟩
theorem allL_32 : ∀ (n : Nat) (s : By), s.length < n → (allL s).1.length * 32 ≤ s.length
  | 0, _, h => by omega
  | n + 1, s, h => by
    by_cases h0 : (readL s).2.2 = 0
    · have hp := readL_32 h0
      have := allL_32 n (s.drop (readL s).2.1) (by rw [List.length_drop]; omega)
      rw [allL_step h0]
      rw [List.length_drop] at this
      simp only [List.length_cons]
      omega
    · rw [allL_stop h0]; simp
theorem texts_32 : ∀ (l : List Rep), (∀ r ∈ l, (writeL r).2 = 0) → l.length * 32 ≤ (texts l).length
  | [], _ => by simp
  | r :: l, h => by
    have := texts_32 l (fun q hq => h q (by simp [hq]))
    have h1 := writeL_32 (h r (by simp))
    have e : texts (r :: l) = (writeL r).1 ++ texts l := by simp [texts]
    rw [e, List.length_append, List.length_cons]
    omega
end Go.Proofs.YtakbejphbnbepaaDoor.P19
