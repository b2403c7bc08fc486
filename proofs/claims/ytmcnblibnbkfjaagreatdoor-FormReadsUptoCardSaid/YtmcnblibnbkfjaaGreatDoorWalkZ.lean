/-
  Walks of layer 12: the law FormReads. Conditions: the library's error values and its table; three times the text's length is within Go's own limit.
-/
import Derived.Test.YtmcnblibnbkfjaaGreatDoorWalkNz
import Derived.Test.YtmcnblibnbkfjaaGreatDoorWalkY
import Derived.Test.YtmcnblibnbkfjaaGreatDoorWalkP
namespace Go.Proofs.YtmcnblibnbkfjaaGreatDoor.W12
open Go Go.RowKit P12
open Dig hiding By

set_option maxHeartbeats 3200000 in
set_option maxRecDepth 100000 in
theorem reads_law (text : ByteArray) (w : World) (hE : Env w) (hs : text.size ≤ 1000000000000) :
    Calls Tryz.prog 3 #[.string text] w fun e w' => e = .returned (.bool true) ∧ Below w.heap.size w w' := by
  obtain ⟨L, Ea, hL⟩ : ∃ L Ea, readL text.data.toList = (L, Ea) := ⟨_, _, rfl⟩
  have hL16 : L.length ≤ 16 := by have := (read_ok text.data.toList).1; rw [hL] at this; exact this
  have h1 := fun W hW => Read_any text W hW (by omega)
  have h2 := fun W => refRead_any text W hs
  rw [refRead_eq] at h2
  rw [hL] at h1 h2
  simp only at h1 h2
  have h3 := fun va vb W ha hb => Same_any va vb L W (by omega) ha hb
  obtain ⟨X, B, hX, hB⟩ : ∃ (X : ByteArray) (B : Bool), unescEnd (unescL text.data.toList) = .tuple #[.string X, .bool B] ∧ (B = false → X = ⟨#[]⟩) := by
    cases unescL text.data.toList with
    | some u => exact ⟨_, true, rfl, fun h => by cases h⟩
    | none => exact ⟨_, false, rfl, fun _ => rfl⟩
  have h4 := fun W hW => Unescape_any text W hW (by omega)
  have h5 := fun W => refUnescaped_any text W (by omega)
  rw [hX] at h4 h5
  obtain ⟨Z, hZ⟩ : ∃ Z : ByteArray, bs (escL text.data.toList) = .string Z := ⟨_, rfl⟩
  have h6 := fun W => Escape_any text W (by omega)
  have h7 := fun W => refEscaped_any text W (by omega)
  rw [hZ] at h6 h7
  obtain ⟨nm, hnm⟩ : ∃ nm, nm = nameL text.data.toList := ⟨_, rfl⟩
  have h8 := fun W => Name_any text W
  have h9 := fun W => refName_any text W
  rw [← hnm] at h8 h9
  have H3 := Lib.hid h3
  clear hL hX hZ hnm h3
  go_enter Tryz.func3, Tryz.ntmps3
  go_wp2_with fail
  refine (awake_any _ hE).mono ?_
  rintro e w1 ⟨rfl, hb1⟩
  go_wp2_with fail
  refine (h1 w1 (hE.keep hb1)).mono ?_
  rintro e w2 ⟨va, rfl, hra, hb2⟩
  have hb12 := below_then hb1 hb2
  go_wp2_with fail
  refine (h2 w2).mono ?_
  rintro e w3 ⟨vb, rfl, hrb, hb3⟩
  have hb13 := below_then hb12 hb3
  have hra3 := hra.keep hb3
  clear hra
  go_wp2_with fail
  refine (H3.out va vb w3 hra3 hrb).mono ?_
  rintro e w4 ⟨rfl, hb4⟩
  have hb14 := below_then hb13 hb4
  clear hra3 hrb
  go_wp2_with fail
  refine (h4 w4 (hE.keep hb14)).mono ?_
  rintro e w5 ⟨rfl, hb5⟩
  have hb15 := below_then hb14 hb5
  go_wp2_with fail
  refine (h5 w5).mono ?_
  rintro e w6 ⟨rfl, hb6⟩
  have hb16 := below_then hb15 hb6
  cases B with
  | true =>
    clear hB
    go_wp2_with fail
    refine (h6 w6).mono ?_
    rintro e w7 ⟨rfl, hb7⟩
    have hb17 := below_then hb16 hb7
    go_wp2_with fail
    refine (h7 w7).mono ?_
    rintro e w8 ⟨rfl, hb8⟩
    have hb18 := below_then hb17 hb8
    go_wp2_with fail
    refine (h8 w8).mono ?_
    rintro e w9 ⟨rfl, hb9⟩
    have hb19 := below_then hb18 hb9
    go_wp2_with fail
    refine (h9 w9).mono ?_
    rintro e w10 ⟨rfl, hb10⟩
    have hb110 := below_then hb19 hb10
    go_wp2_with fail
    go_ret
    exact ⟨rfl, hb110⟩
  | false =>
    obtain rfl := hB rfl
    clear hB
    go_wp2_with fail
    refine (h6 w6).mono ?_
    rintro e w7 ⟨rfl, hb7⟩
    have hb17 := below_then hb16 hb7
    go_wp2_with fail
    refine (h7 w7).mono ?_
    rintro e w8 ⟨rfl, hb8⟩
    have hb18 := below_then hb17 hb8
    go_wp2_with fail
    refine (h8 w8).mono ?_
    rintro e w9 ⟨rfl, hb9⟩
    have hb19 := below_then hb18 hb9
    go_wp2_with fail
    refine (h9 w9).mono ?_
    rintro e w10 ⟨rfl, hb10⟩
    have hb110 := below_then hb19 hb10
    go_wp2_with fail
    go_ret
    exact ⟨rfl, hb110⟩
end Go.Proofs.YtmcnblibnbkfjaaGreatDoor.W12
