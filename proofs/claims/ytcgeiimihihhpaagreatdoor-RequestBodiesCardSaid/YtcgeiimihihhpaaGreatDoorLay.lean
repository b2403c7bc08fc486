/-
  A world in which every variable that the rows list holds what they list: for the rows' witnesses. No condition.
-/
import Derived.Test.YtcgeiimihihhpaaGreatDoorCards
import Derived.WalkKit
import Derived.ProofKit
import Derived.LaidLaws
namespace Go.Proofs.YtcgeiimihihhpaaGreatDoor
open Go Go.RowKit

def lits1 : DataW Unit → List Value | .lit (.int k z) => [.int k z] | .lit (.bool b) => [.bool b] | _ => []
def lits2 : DataW Unit → List Value | .agg l => l.flatMap lits1 | x => lits1 x
/-- The cells of a listed table (numbers; at most two levels of arrays and structs). -/
def lits : DataW Unit → List Value | .agg l => l.flatMap lits2 | x => lits1 x
def put (h : Array Obj) (g : Nat) (cs : Array Value) : Array Obj := h.modify g fun
  | .cells _ t frozen => .cells cs t frozen
  | o => o
noncomputable def low : Nat := (World.holding Tryz.prog default ⟨#[], #[], []⟩).heap.size
noncomputable def laidWorld (os : Os) : World :=
  { World.holding Tryz.prog os ⟨#[.cells #[.string ⟨#[118, 97, 108, 117, 101, 32, 111, 117, 116, 32, 111, 102, 32, 114, 97, 110, 103, 101]⟩] 138, .cells #[.string ⟨#[105, 110, 118, 97, 108, 105, 100, 32, 115, 121, 110, 116, 97, 120]⟩] 138], #[], []⟩ with heap := put (put (put (put (put (put (put ((World.holding Tryz.prog os ⟨#[.cells #[.string ⟨#[118, 97, 108, 117, 101, 32, 111, 117, 116, 32, 111, 102, 32, 114, 97, 110, 103, 101]⟩] 138, .cells #[.string ⟨#[105, 110, 118, 97, 108, 105, 100, 32, 115, 121, 110, 116, 97, 120]⟩] 138], #[], []⟩).heap) 6 (lits Rows.laid_math_bits_deBruijn32tab).toArray) 7 (lits Rows.laid_math_bits_deBruijn64tab).toArray) 0 (lits Rows.laid_internal_strconv_uint64pow10).toArray) 5 (lits Rows.laid_unicode_utf8_acceptRanges).toArray) 3 #[.iface 136 (.pointer (some ⟨low + 0, 0, none⟩))]) 2 #[.iface 136 (.pointer (some ⟨low + 1, 0, none⟩))]) 4 (lits Rows.laid_unicode_utf8_first).toArray }
theorem laid_met (os : Os) (args : Array Value) : laidMet Tryz.prog Rows.requestParsesRow.laid ((laidWorld os).forCall (fun _ _ => 0) ⟨#[], args, []⟩).memory :=
  laidMet_of_run' 8 (by kernel_rfl) (by kernel_rfl)
end Go.Proofs.YtcgeiimihihhpaaGreatDoor
