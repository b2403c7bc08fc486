/-
  Walks of layer 12: the reference's Same at two equal lists. Conditions: the lists' cells hold the fields.
-/
import Derived.Test.YtmcnblibnbkfjaaGreatDoorWalkJ
namespace Go.Proofs.YtmcnblibnbkfjaaGreatDoor.W12
open Go Go.RowKit P12

set_option maxRecDepth 100000 in
set_option maxHeartbeats 1600000 in
theorem Same_full (g1 o1 c1 g2 o2 c2 n : Nat) (l : List Fld) (w : World) (hn : l.length = n) (hm : n ≤ 4611686018427387904)
    (h1 : ∀ (j : Nat) (f : Fld), l[j]? = some f → w.cell? ⟨g1, o1 + j * 4, none⟩ = some (bs f.name) ∧ w.cell? ⟨g1, o1 + j * 4 + 1, none⟩ = some (.bool f.text) ∧ w.cell? ⟨g1, o1 + j * 4 + 2, none⟩ = some (.int .i64 f.n) ∧ w.cell? ⟨g1, o1 + j * 4 + 3, none⟩ = some (bs f.s))
    (h2 : ∀ (j : Nat) (f : Fld), l[j]? = some f → w.cell? ⟨g2, o2 + j * 4, none⟩ = some (bs f.name) ∧ w.cell? ⟨g2, o2 + j * 4 + 1, none⟩ = some (.bool f.text) ∧ w.cell? ⟨g2, o2 + j * 4 + 2, none⟩ = some (.int .i64 f.n) ∧ w.cell? ⟨g2, o2 + j * 4 + 3, none⟩ = some (bs f.s)) :
    Calls Tryz.prog 9 #[.slice (some ⟨g1, o1, none⟩) n c1, .slice (some ⟨g2, o2, none⟩) n c2] w fun e w' => e = .returned (.bool true) ∧ Below w.heap.size w w' := by
  have H1 := Lib.hid h1
  have H2 := Lib.hid h2
  have HN := Lib.hid hn
  clear h1 h2 hn
  go_enter Tryz.func9, Tryz.ntmps9
  go_wp2_with fail
  go_loopw [5] (fun i wr => ∃ k d : Nat, k ≤ n ∧ i = .int .i64 k ∧ wr = w.drewN d) (fun i _ => n - (intOf i).toNat)
  case atStart => exact ⟨0, 0, by omega, rfl, rfl⟩
  case round =>
    obtain ⟨k, d, hk, rfl, rfl⟩ := hrel
    by_cases hlt : k < n
    · obtain ⟨r, hr⟩ : ∃ r, l[k]? = some r := ⟨l[k]'(by rw [HN.out]; exact hlt), List.getElem?_eq_getElem _⟩
      obtain ⟨a0, a1, a2, a3⟩ := H1.out k r hr
      obtain ⟨b0, b1, b2, b3⟩ := H2.out k r hr
      have hk0 : (0 : Int) ≤ (k : Int) := by omega
      have hk1 : (k : Int) < (n : Int) := by omega
      clear hr
      go_wp2_with fail
      go_quiet (fail)
      rw [World.drewN_drewN]
      go_wp2_with fail
      go_roundw
      case rel => exact ⟨k + 1, _, by omega, by go_num, rfl⟩
      case measure => simp [intOf]; omega
    · obtain rfl : k = n := by omega
      go_wp2_with fail
      go_ret
      exact ⟨rfl, below_drewN w d⟩
set_option maxRecDepth 100000 in
theorem Same_none (o1 o2 : Option Addr) (c1 c2 : Nat) (w : World) :
    Calls Tryz.prog 9 #[.slice o1 0 c1, .slice o2 0 c2] w fun e w' => e = .returned (.bool true) ∧ Below w.heap.size w w' := by
  go_enter Tryz.func9, Tryz.ntmps9
  go_wp2_with fail
  refine wp_loop_rounds 1 ?_
  rw [rounds_succ]
  go_wp2_with fail
  go_ret
  exact ⟨rfl, Below.refl _ _⟩
theorem Same_any (v1 v2 : Value) (l : List Fld) (w : World) (hm : l.length ≤ 4611686018427387904) (h1 : Rows v1 l w) (h2 : Rows v2 l w) :
    Calls Tryz.prog 9 #[v1, v2] w fun e w' => e = .returned (.bool true) ∧ Below w.heap.size w w' := by
  obtain ⟨o1, c1, rfl, h1⟩ := h1
  obtain ⟨o2, c2, rfl, h2⟩ := h2
  rcases h1 with rfl | ⟨g1, f1, rfl, h1⟩
  · exact Same_none o1 o2 c1 c2 w
  · rcases h2 with rfl | ⟨g2, f2, rfl, h2⟩
    · exact Same_none _ o2 c1 c2 w
    · exact Same_full g1 f1 c1 g2 f2 c2 l.length l w rfl hm h1 h2
end Go.Proofs.YtmcnblibnbkfjaaGreatDoor.W12
