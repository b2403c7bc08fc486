/-
  What the library's table of powers of ten holds, and that it stays so; strconv.Itoa at every int. Conditions: the table is as its initialiser lays it.
-/
import Derived.Test.YtakbejphbnbepaaDoorChecked
import Derived.Test.YtakbejphbnbepaaDoorShelf
import Derived.Test.YtakbejphbnbepaaDoorHelp
import Derived.Lib.AppendIntMem
import Derived.Lib.ItoaLen
namespace Go.Proofs.YtakbejphbnbepaaDoor
open Go Go.RowKit

/-- The table internal/strconv.uint64pow10 holds what its initialiser lays. -/
def Tab (w : World) : Prop := Lib.TabIs Tryd.prog w "internal/strconv.uint64pow10" .u64 Lib.pow10Tab
theorem Tab.keep {w w' : World} (h : Tab w) (hb : Below w.heap.size w w') : Tab w' := Lib.tabBelow_of_tabIs h w' hb
theorem Tab.new {w : World} (h : Tab w) (o : Obj) : Tab (w.alloc o) := h.keep (below_alloc w o)
theorem Tab.drew {w : World} (h : Tab w) : Tab w.drew := h.keep (below_drewN w 1)
theorem Tab.drewN {w : World} (h : Tab w) (n : Nat) : Tab (w.drewN n) := h.keep (below_drewN w n)

theorem below_grow (w : World) (k : Nat) (os : Array Obj) : Below w.heap.size w (Sort.grow (w.drewN k) os) := by
  refine ⟨rfl, rfl, rfl, ?_, fun i hi => ?_⟩
  · show w.heap.size ≤ (w.heap ++ os).size
    rw [Array.size_append]; omega
  · show (w.heap ++ os)[i]? = _
    rw [Array.getElem?_append_left hi]

theorem Itoa_any (n : Int) (h0 : -9223372036854775808 ≤ n) (h1 : n ≤ 9223372036854775807) (w : World) (hT : Tab w) :
    Calls Tryd.prog 21 #[.int .i64 n] w fun e w' => e = .returned (bs (Lib.itoa n)) ∧ Below w.heap.size w w' :=
  (Tryd.strconv_Itoa n h0 h1 w hT).mono fun _ _ ⟨he, k, os, hw⟩ => ⟨he, by rw [hw]; exact below_grow w k os⟩
theorem Itoa_str (n : Int) (h0 : -9223372036854775808 ≤ n) (h1 : n ≤ 9223372036854775807) (X : ByteArray) (hX : X = ⟨(Lib.itoa n).toArray⟩) (w : World) (hT : Tab w) :
    Calls Tryd.prog 21 #[.int .i64 n] w fun e w' => e = .returned (.string X) ∧ Below w.heap.size w w' := by
  subst hX
  exact Itoa_any n h0 h1 w hT
theorem itoa_name (n : Int) (h0 : -9223372036854775808 ≤ n) (h1 : n ≤ 9223372036854775807) : ∃ X : ByteArray, X = ⟨(Lib.itoa n).toArray⟩ ∧ X.size ≤ 21 :=
  ⟨_, rfl, by rw [size_mk]; exact Lib.itoa_length_le n h0 h1⟩
end Go.Proofs.YtakbejphbnbepaaDoor
