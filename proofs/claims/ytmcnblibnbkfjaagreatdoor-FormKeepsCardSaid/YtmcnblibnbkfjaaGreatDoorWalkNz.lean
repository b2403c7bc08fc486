/-
  Walks of layer 12: the law package's awake. Conditions: the library's error values and its table; what is escaped fits.
-/
import Derived.Test.YtmcnblibnbkfjaaGreatDoorWalkM
namespace Go.Proofs.YtmcnblibnbkfjaaGreatDoor.W12
open Go Go.RowKit P12
open Dig hiding By

def recA : List Fld := [⟨[97], false, 7, []⟩, ⟨[98], true, 0, [65, 46]⟩]
theorem num7 : numL [55] = some 7 := by rw [← refNum_eq]; decide
theorem num07 : numL [48, 55] = none := by rw [← refNum_eq]; decide
theorem unescA : unescL [37, 52, 49, 46] = some [65, 46] := by
  have h1 : hexV 52 = some 4 := by decide
  have h2 : hexV 49 = some 1 := by decide
  rw [unesc_hex h1 h2, unesc_plain (by decide), unesc_nil]
  rfl
theorem oneB : oneL [] [98, 61, 39, 37, 52, 49, 46] = (0, ⟨[98], true, 0, [65, 46]⟩) := by
  have hc : cutL 61 [98, 61, 39, 37, 52, 49, 46] = ([98], [39, 37, 52, 49, 46], true) := by decide
  have hn : nameL [98] = true := by decide
  have hv : valueL [98] [39, 37, 52, 49, 46] = some ⟨[98], true, 0, [65, 46]⟩ := by
    unfold valueL
    simp [unescA]
  unfold oneL
  rw [hc]
  simp [hn, hv]
theorem oneA : oneL [⟨[98], true, 0, [65, 46]⟩] [97, 61, 55] = (0, ⟨[97], false, 7, []⟩) := by
  have hc : cutL 61 [97, 61, 55] = ([97], [55], true) := by decide
  have hn : nameL [97] = true := by decide
  have hv : valueL [97] [55] = some ⟨[97], false, 7, []⟩ := by
    unfold valueL
    simp [num7]
  unfold oneL
  rw [hc]
  simp [hn, hv]
theorem readA : readL [98, 61, 39, 37, 52, 49, 46, 38, 97, 61, 55] = (recA, 0) := by
  have hp : partsL 38 [98, 61, 39, 37, 52, 49, 46, 38, 97, 61, 55] = [[98, 61, 39, 37, 52, 49, 46], [97, 61, 55]] := by decide
  have hf : foldP [] [[98, 61, 39, 37, 52, 49, 46], [97, 61, 55]] = ([⟨[98], true, 0, [65, 46]⟩, ⟨[97], false, 7, []⟩], 0) := by
    rw [foldP, oneB, if_neg (by decide)]
    show foldP [⟨[98], true, 0, [65, 46]⟩] [[97, 61, 55]] = _
    rw [foldP, oneA, if_neg (by decide)]
    rfl
  unfold readL
  rw [if_neg (by simp), hp, hf]
  have : sortL [⟨[98], true, 0, [65, 46]⟩, ⟨[97], false, 7, []⟩] = recA := by decide
  rw [this]
theorem readA2 : (readL [97, 61, 48, 55]).2 = 122 := by
  have hp : partsL 38 [97, 61, 48, 55] = [[97, 61, 48, 55]] := by decide
  have hc : cutL 61 [97, 61, 48, 55] = ([97], [48, 55], true) := by decide
  have hn : nameL [97] = true := by decide
  have hv : valueL [97] [48, 55] = none := by
    unfold valueL
    simp [num07]
  have ho : (oneL [] [97, 61, 48, 55]).1 = 122 := oneL_val (by simp) (by rw [hc]; simp [hn]) (by rw [hc]; exact hv)
  unfold readL
  rw [if_neg (by simp), hp, foldP, ho, if_pos (by decide)]
theorem checkA : checkL recA = 0 := by decide
theorem writeA : writeL recA = ([97, 61, 55, 38, 98, 61, 39, 65, 46], 0) := by
  unfold writeL
  rw [if_neg (by simp [checkA])]
  have h1 : Lib.itoa 7 = [55] := by simp [Lib.itoa, Lib.decDigits]
  have h2 : escL [65, 46] = [65, 46] := by decide
  have : textsL recA = [97, 61, 55, 38, 98, 61, 39, 65, 46] := by
    unfold textsL recA textF
    simp [h1, h2]
  rw [this]
theorem rangeA : ∀ f ∈ recA, rangeF f := by
  intro f hf
  simp only [recA, List.mem_cons, List.mem_nil_iff, or_false] at hf
  rcases hf with rfl | rfl <;> (unfold rangeF; decide)

set_option maxRecDepth 100000 in
set_option maxHeartbeats 1600000 in
theorem awake_any (w : World) (hE : Env w) :
    Calls Tryz.prog 6 #[] w fun e w' => e = .returned (.bool true) ∧ Below w.heap.size w w' := by
  have hr1 := Read_any ⟨#[98, 61, 39, 37, 52, 49, 46, 38, 97, 61, 55]⟩ w hE (Nat.le_of_ble_eq_true rfl)
  change Calls _ _ _ _ fun e w' => ∃ v, e = .returned (.tuple #[v, .int .i64 (readL [98, 61, 39, 37, 52, 49, 46, 38, 97, 61, 55]).2]) ∧ Rows v (readL [98, 61, 39, 37, 52, 49, 46, 38, 97, 61, 55]).1 w' ∧ _ at hr1
  rw [readA] at hr1
  have hr2 := fun W hW => Read_any ⟨#[97, 61, 48, 55]⟩ W hW (Nat.le_of_ble_eq_true rfl)
  change ∀ W hW, Calls _ _ _ _ fun e w' => ∃ v, e = .returned (.tuple #[v, .int .i64 (readL [97, 61, 48, 55]).2]) ∧ Rows v (readL [97, 61, 48, 55]).1 w' ∧ _ at hr2
  rw [readA2] at hr2
  have hwr := fun v W hW hr => Write_ok v recA W hW hr rangeA checkA
  rw [writeA] at hwr
  have HR1 := Lib.hid hr1
  have HR2 := Lib.hid hr2
  have HWR := Lib.hid hwr
  clear hr1 hr2 hwr
  go_enter Tryz.func6, Tryz.ntmps6
  go_wp2_with fail
  refine HR1.out.mono ?_
  rintro e w1 ⟨v, rfl, hrow, hb1⟩
  have hE1 := hE.keep hb1
  go_wp2_with fail
  refine (HWR.out v w1 hE1 hrow).mono ?_
  rintro e w2 ⟨rfl, hb2⟩
  have hE2 := hE1.keep hb2
  go_wp2_with fail
  refine (HR2.out w2 hE2).mono ?_
  rintro e w3 ⟨v3, rfl, -, hb3⟩
  have hrow3 := (hrow.keep hb2).keep hb3
  obtain ⟨o, c, rfl, hcl⟩ := hrow3
  obtain ⟨g, off, rfl, hcs⟩ := hcl.resolve_left (by simp [recA])
  have n0 := (hcs 0 _ rfl).2.2.1
  have n1 := (hcs 1 _ rfl).2.2.2
  clear hcl hcs hrow
  simp only [recA, List.length_cons, List.length_nil, Nat.zero_mul, Nat.one_mul, Nat.add_zero, Nat.zero_add] at n0 n1 ⊢
  go_wp2_with fail
  go_ret
  exact ⟨rfl, below_then hb1 (below_then hb2 hb3)⟩

end Go.Proofs.YtmcnblibnbkfjaaGreatDoor.W12
