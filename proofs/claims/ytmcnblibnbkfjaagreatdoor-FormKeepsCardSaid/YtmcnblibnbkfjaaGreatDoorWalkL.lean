/-
  Walks of layer 12: Check. Conditions: the list's cells hold the fields.
-/
import Derived.Test.YtmcnblibnbkfjaaGreatDoorWalkK
import Derived.Test.YtmcnblibnbkfjaaGreatDoorWalkJ
namespace Go.Proofs.YtmcnblibnbkfjaaGreatDoor.W12
open Go Go.RowKit P12

theorem chk_bad {p : Option By} {f : Fld} {r : List Fld} (h : fieldL f ≠ 0) : chk p (f :: r) = fieldL f := by unfold chk; rw [if_pos h]
theorem chk_none {f : Fld} {r : List Fld} (h : fieldL f = 0) : chk none (f :: r) = chk (some f.name) r := by conv => lhs; unfold chk; rw [if_neg (by simp [h])]
theorem chk_some {q : By} {f : Fld} {r : List Fld} (h : fieldL f = 0) : chk (some q) (f :: r) = if f.name ≤ q then 123 else chk (some f.name) r := by conv => lhs; unfold chk; rw [if_neg (by simp [h])]
/-- The name ahead of the field k. -/
def prevN (r : List Fld) (k : Nat) : Option By := if k = 0 then none else (r[k - 1]?).map (·.name)

set_option maxHeartbeats 3200000 in
set_option maxRecDepth 100000 in
theorem Check_any (v : Value) (r : List Fld) (w : World) (hr : Rows v r w) (hlen : r.length ≤ 4611686018427387904) :
    Calls Tryz.prog 22 #[v] w fun e w' => e = .returned (.int .i64 (checkL r)) ∧ Below w.heap.size w w' := by
  obtain ⟨o, c, rfl, hcells⟩ := hr
  by_cases h16 : 16 < r.length
  · have HV := Lib.hid (show checkL r = 120 by unfold checkL; rw [if_pos h16])
    have h16' : (16 : Int) < (r.length : Int) := by omega
    rw [HV.out]
    clear hcells
    go_enter Tryz.func22, Tryz.ntmps22
    go_wp2_with fail
    go_ret
    exact ⟨rfl, Below.refl _ _⟩
  · have HV := Lib.hid (show checkL r = chk none r by unfold checkL; rw [if_neg h16])
    have h16' : ¬ (16 : Int) < (r.length : Int) := by omega
    obtain ⟨R, hR⟩ : ∃ R, R = checkL r := ⟨_, rfl⟩
    rw [← hR]
    have HR := Lib.hid hR
    clear hR
    obtain ⟨N, hN⟩ : ∃ N, N = r.length := ⟨_, rfl⟩
    rw [← hN] at h16 h16' hlen ⊢
    have HN := Lib.hid hN
    clear hN
    go_enter Tryz.func22, Tryz.ntmps22
    go_wp2_with fail
    go_loopw [11] (fun i wr => ∃ k : Nat, k ≤ N ∧ i = .int .i64 k ∧ Below w.heap.size w wr ∧ R = chk (prevN r k) (r.drop k)) (fun i _ => N - (intOf i).toNat)
    case atStart => exact ⟨0, by omega, rfl, Below.refl _ _, by rw [HR.out, HV.out]; rfl⟩
    case round =>
      obtain ⟨k, hk, rfl, hB, hres⟩ := hrel
      have hBs := hB.size
      by_cases hlt : k < N
      · have hkr : k < r.length := by rw [← HN.out]; exact hlt
        obtain ⟨f, hf⟩ : ∃ f, r[k]? = some f := ⟨r[k]'hkr, List.getElem?_eq_getElem hkr⟩
        have hdrop : r.drop k = f :: r.drop (k + 1) := by
          rw [List.drop_eq_getElem_cons hkr]
          congr 1
          rw [List.getElem?_eq_getElem hkr] at hf
          exact Option.some.inj hf
        rw [hdrop] at hres
        obtain ⟨g, off, rfl, hcl⟩ := hcells.resolve_left (by intro e; rw [e] at hkr; simp at hkr)
        obtain ⟨c0, c1, c2, c3⟩ := hcl k f hf
        replace c0 := keep_cell hB c0
        replace c1 := keep_cell hB c1
        replace c2 := keep_cell hB c2
        replace c3 := keep_cell hB c3
        obtain ⟨a, ha⟩ : ∃ a : ByteArray, a = ⟨f.name.toArray⟩ := ⟨_, rfl⟩
        obtain ⟨s, hs⟩ : ∃ s : ByteArray, s = ⟨f.s.toArray⟩ := ⟨_, rfl⟩
        have had : a.data.toList = f.name := by rw [ha]
        have hsd : s.data.toList = f.s := by rw [hs]
        rw [show bs f.name = .string a by rw [ha]] at c0
        rw [show bs f.s = .string s by rw [hs]] at c3
        have hfe : f = ⟨a.data.toList, f.text, f.n, s.data.toList⟩ := by rw [had, hsd]
        have hcon := fun W => may_any a s f.text f.n W
        rw [← hfe] at hcon
        clear ha hs hsd hfe
        generalize f.text = tx at c1 hcon
        generalize f.n = n at c2 hcon
        have hlt' : (k : Int) < (N : Int) := by omega
        have hb1 := below_alloc wr (.cells #[.string a, .bool tx, .int .i64 n, .string s] 33)
        have hh := heap_new wr (.cells #[.string a, .bool tx, .int .i64 n, .string s] 33)
        have y0 := Lib.cell_of_heap hh 0
        have y1 := Lib.cell_of_heap hh 1
        have y2 := Lib.cell_of_heap hh 2
        have y3 := Lib.cell_of_heap hh 3
        clear hh
        have HF := Lib.hid hf
        have HRES := Lib.hid hres
        have HCL := Lib.hid hcl
        have HAD := Lib.hid had
        clear hf hres hdrop hcells had hcl
        by_cases he : fieldL f = 0
        · rw [he] at hcon
          have hnx : prevN r (k + 1) = some f.name := by unfold prevN; rw [if_neg (by omega)]; simp [HF.out]
          have HNX := Lib.hid hnx
          have HE := Lib.hid he
          clear hnx he
          by_cases hk0 : k = 0
          · subst hk0
            simp only [Nat.zero_mul, Nat.add_zero] at c0 c1 c2 c3
            have hstep : R = chk (prevN r 1) (r.drop 1) := by
              rw [HRES.out, HNX.out]
              exact chk_none HE.out
            have HST := Lib.hid hstep
            clear hstep
            go_wp2_with (go_at_call 49; refine (hcon _).mono ?_; rintro e w2 ⟨rfl, hb2⟩; replace y0 := keep_cell hb2 y0; refine Hid.out ?_)
            refine Lib.hid ?_
            have hB2 := hB.trans ((below_then hb1 hb2).mono hBs)
            go_wp2_with fail
            go_quiet (fail)
            go_wp2_with fail
            go_roundw
            case rel => exact ⟨1, by omega, by go_num, hB2.trans (below_drewN _ _ |>.mono (by have := hB2.size; omega)), HST.out⟩
            case measure => simp [intOf]; omega
          · obtain ⟨p, rfl⟩ : ∃ p, k = p + 1 := ⟨k - 1, by omega⟩
            have hpr : p < r.length := by omega
            obtain ⟨f', hf'⟩ : ∃ f', r[p]? = some f' := ⟨r[p]'hpr, List.getElem?_eq_getElem hpr⟩
            have d0 := keep_cell hB (HCL.out p f' hf').1
            obtain ⟨b, hb⟩ : ∃ b : ByteArray, b = ⟨f'.name.toArray⟩ := ⟨_, rfl⟩
            have hbd : b.data.toList = f'.name := by rw [hb]
            rw [show bs f'.name = .string b by rw [hb]] at d0
            replace d0 := keep_cell hb1 d0
            have hpv : prevN r (p + 1) = some f'.name := by unfold prevN; rw [if_neg (by omega)]; simp [hf']
            have hp0 : (0 : Int) < (p : Int) + 1 := by omega
            have hstep : R = if f.name ≤ f'.name then 123 else chk (prevN r (p + 1 + 1)) (r.drop (p + 1 + 1)) := by
              rw [HRES.out, hpv, chk_some HE.out, HNX.out]
            have k1 : a.toList = f.name := by rw [Lib.toList_data]; exact HAD.out
            have k2 : b.toList = f'.name := by rw [Lib.toList_data]; exact hbd
            have HST := Lib.hid hstep
            have hpN : (p : Int) < (N : Int) := by omega
            clear hb hbd hpv hstep hf' hk0
            by_cases hle : f.name ≤ f'.name
            · have hv : R = 123 := by rw [HST.out, if_pos hle]
              have HVV := Lib.hid hv
              have hz : (Op.bytesLess a.toList b.toList || a.toList == b.toList) = true := by rw [k1, k2, bytesLeq]; simpa using hle
              have hz2 : Op.bytesLess a.toList b.toList = true ∨ (a.toList == b.toList) = true := by simpa using hz
              clear k1 k2 hle hv hz
              rcases hz2 with hz | hz
              all_goals
                go_wp2_with (go_at_call 49; refine (hcon _).mono ?_; rintro e w2 ⟨rfl, hb2⟩; replace y0 := keep_cell hb2 y0; replace d0 := keep_cell hb2 d0; refine Hid.out ?_)
                refine Lib.hid ?_
                have hB2 := hB.trans ((below_then hb1 hb2).mono hBs)
                go_wp2_with fail
                go_quiet (fail)
                go_wp2_with fail
                go_ret
                exact ⟨by rw [HVV.out]; rfl, hB2.trans (below_drewN _ _ |>.mono (by have := hB2.size; omega))⟩
            · have hv : R = chk (prevN r (p + 1 + 1)) (r.drop (p + 1 + 1)) := by rw [HST.out, if_neg hle]
              have HVV := Lib.hid hv
              have hz : (Op.bytesLess a.toList b.toList || a.toList == b.toList) = false := by rw [k1, k2, bytesLeq]; simpa using hle
              obtain ⟨hz1, hz2⟩ := Bool.or_eq_false_iff.1 hz
              clear k1 k2 hle hv hz
              go_wp2_with (go_at_call 49; refine (hcon _).mono ?_; rintro e w2 ⟨rfl, hb2⟩; replace y0 := keep_cell hb2 y0; replace d0 := keep_cell hb2 d0; refine Hid.out ?_)
              refine Lib.hid ?_
              have hB2 := hB.trans ((below_then hb1 hb2).mono hBs)
              go_wp2_with fail
              go_quiet (fail)
              go_wp2_with fail
              go_roundw
              case rel => exact ⟨p + 1 + 1, by omega, by go_num, hB2.trans (below_drewN _ _ |>.mono (by have := hB2.size; omega)), HVV.out⟩
              case measure => simp [intOf]; omega
        · obtain ⟨E, hE⟩ : ∃ E, E = fieldL f := ⟨_, rfl⟩
          have hv : R = E := by rw [HRES.out, chk_bad he, hE]
          rw [← hE] at hcon he
          have hEb : (E == 0) = false := by rw [beq_eq_false_iff_ne]; exact he
          have HVV := Lib.hid hv
          clear hv hE he
          go_wp2_with (go_at_call 49; refine (hcon _).mono ?_; rintro e w2 ⟨rfl, hb2⟩)
          go_ret
          exact ⟨by rw [HVV.out]; rfl, hB.trans ((below_then hb1 hb2).mono hBs)⟩
      · obtain rfl : k = N := by omega
        have hv : R = 0 := by
          rw [hres, List.drop_eq_nil_of_le (by rw [← HN.out]; exact Nat.le_refl _)]
          rfl
        have HVV := Lib.hid hv
        clear hv hres
        go_wp2_with fail
        go_ret
        exact ⟨by rw [HVV.out]; rfl, hB⟩
end Go.Proofs.YtmcnblibnbkfjaaGreatDoor.W12
