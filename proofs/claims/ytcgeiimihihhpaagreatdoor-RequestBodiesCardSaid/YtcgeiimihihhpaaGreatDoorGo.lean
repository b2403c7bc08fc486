/-
  A slice of ints as an argument, opened; the library's tables, as the rows list them. No condition.
-/
import Derived.Test.YtcgeiimihihhpaaGreatDoorGm
import Derived.Test.YtcgeiimihihhpaaGreatDoorGn
import Derived.Deep.Slices
import Derived.Deep.Grids
import Derived.Stop.LaidErr

namespace Go.Proofs.YtcgeiimihihhpaaGreatDoor.W18
open Go Go.ChangeShapes Go.WideShapes Go.ChangeAt Go.RowKit Go.Deep

theorem cellsIt : Tryz.prog.cellsOf 3 = 1 := by kernel_rfl
theorem gPow : Tryz.prog.globalNamed "internal/strconv.uint64pow10" = some 0 := by kernel_rfl
theorem gPowType : (Tryz.prog.globals[0]?).map (·.type) = some 120 := by kernel_rfl
theorem cellsPow : Tryz.prog.cellsOf 120 = 20 := by kernel_rfl
theorem cellsU64 : Tryz.prog.cellsOf 98 = 1 := by kernel_rfl
theorem gBrj : Tryz.prog.globalNamed "math/bits.deBruijn64tab" = some 7 := by kernel_rfl
theorem gBrjType : (Tryz.prog.globals[7]?).map (·.type) = some 140 := by kernel_rfl
theorem cellsBrj : Tryz.prog.cellsOf 140 = 64 := by kernel_rfl
theorem cellsU8 : Tryz.prog.cellsOf 5 = 1 := by kernel_rfl
def brjTab : List Int := [0, 1, 56, 2, 57, 49, 28, 3, 61, 58, 42, 50, 38, 29, 17, 4, 62, 47, 59, 36, 45, 43, 51, 22, 53, 39, 33, 30, 24, 18, 12, 5, 63, 55, 48, 27, 60, 41, 37, 16, 46, 35, 44, 21, 52, 32, 23, 11, 54, 26, 40, 15, 34, 20, 31, 10, 25, 14, 19, 9, 13, 8, 7, 6]
/-- What the rows' list gives: the library's table of powers of ten; of deBruijn64tab, its fifteenth. -/
theorem tab_of_laid {W : World} (h : laidMetH Tryz.prog Rows.requestBodiesRow.laid W) : Tab W :=
  Lib.tabIs_of_head gPow gPowType Tryz.underlying120 Tryz.underlying98 cellsU64 cellsPow (laidMet.tail (laidMet.tail h))
theorem brj_of_laid {W : World} (h : laidMetH Tryz.prog Rows.requestBodiesRow.laid W) : Brj W := by
  have hb : Lib.TabIs Tryz.prog W "math/bits.deBruijn64tab" .u8 brjTab := Lib.tabIs_of_head gBrj gBrjType Tryz.underlying140 Tryz.underlying5 cellsU8 cellsBrj (laidMet.tail h)
  exact hb.cell gBrj 15 (by decide)
section
variable {H : Type} {enc : TypeId × Value → H} {w : World} {held : Bool}
set_option maxRecDepth 100000 in
theorem open_its {r : Reach} {b0 : Nat} {v : Value} {d : DataW H} {p : List MemPlace} (hval : Value.okWide Tryz.prog w r b0 36 v) (h : DataW.Trod enc Tryz.prog w 0 (fun _ => true) held 36 v d p) : ∃ l : List Int, l.length ≤ maxLen ∧ Ints v l w := by
  obtain ⟨a', l', c', rfl⟩ := okWide_slice Tryz.underlying36 hval
  obtain ⟨fuel, h⟩ := h
  rcases open_ints Tryz.underlying36 Tryz.underlying3 cellsIt h with ⟨hv, -⟩ | ⟨a, len, cap, B, hv, -, hl, hm, hB, -, hc, -⟩
  · have hv' : Value.slice a' l' c' = .slice none 0 0 := by simpa [Value.cells] using hv
    exact ⟨[], Nat.zero_le _, none, 0, hv', .inl rfl⟩
  · have hv' : Value.slice a' l' c' = .slice (some a) len cap := by simpa [Value.cells] using hv
    have hB' : B.length = cap := by rw [hB, if_pos rfl]
    refine ⟨B.take len, by rw [List.length_take]; omega, some a, cap, by rw [hv', List.length_take, hB', Nat.min_eq_left hl], ?_⟩
    by_cases h0 : len = 0
    · left
      rw [h0]
      rfl
    · obtain ⟨g, off, spot⟩ := a
      have hsp : spot = none := by
        have := World.cell?_spot (hc 0 (by omega))
        simpa [Addr.add] using this
      subst hsp
      refine .inr ⟨g, off, rfl, fun j hj => ?_⟩
      rw [List.length_take] at hj
      have := hc j (by omega)
      rw [Lib.add_plain] at this
      rw [this, List.getElem_take, List.getD_eq_getElem?_getD, List.getElem?_eq_getElem (by omega)]
      rfl
end
end Go.Proofs.YtcgeiimihihhpaaGreatDoor.W18
