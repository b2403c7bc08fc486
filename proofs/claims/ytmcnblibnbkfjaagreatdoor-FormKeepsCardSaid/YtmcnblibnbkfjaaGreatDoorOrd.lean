/-
  Strings in order: what the program's comparison says of the lists of their bytes. Conditions: none.
-/
import Derived.Test.YtmcnblibnbkfjaaGreatDoorHelp
namespace Go.Proofs.YtmcnblibnbkfjaaGreatDoor
open Go Go.RowKit

theorem bytesLess_iff : ∀ a b : List UInt8, Op.bytesLess a b = true ↔ a < b
  | [], [] => by simp [Op.bytesLess]
  | _ :: _, [] => by simp [Op.bytesLess]
  | [], _ :: _ => by simp [Op.bytesLess]
  | a :: x, b :: y => by
    rw [Op.bytesLess, Bool.or_eq_true, Bool.and_eq_true, bytesLess_iff x y, List.cons_lt_cons_iff]
    simp
theorem bytesLess_eq (a b : List UInt8) : Op.bytesLess a b = decide (a < b) := by
  rw [Bool.eq_iff_iff, bytesLess_iff, decide_eq_true_iff]
theorem bytesLeq (a b : List UInt8) : (Op.bytesLess a b || a == b) = decide (a ≤ b) := by
  rw [Bool.eq_iff_iff, Bool.or_eq_true, bytesLess_iff, decide_eq_true_iff, beq_iff_eq, List.le_iff_lt_or_eq]
end Go.Proofs.YtmcnblibnbkfjaaGreatDoor
