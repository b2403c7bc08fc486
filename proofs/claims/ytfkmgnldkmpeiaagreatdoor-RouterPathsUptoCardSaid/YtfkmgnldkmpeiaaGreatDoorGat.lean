/-
  Walks of layer 20: ranged, of the program. Conditions: the call lies in a block of its own; the library's error values; the query is within Go's own limit.
-/
import Derived.Test.YtfkmgnldkmpeiaaGreatDoorGao
import Derived.Test.YtfkmgnldkmpeiaaGreatDoorGas

namespace Go.Proofs.YtfkmgnldkmpeiaaGreatDoor.W20
open Go Go.RowKit P12 P18 P20 W12

abbrev Dc (c : Cl) (x : Int × Int) : Cl := { c with frm := x.1, most := x.2 }
theorem range_stop {f : Fld} {l : List Fld} {x : Int × Int} (h : f.text = true ∨ (f.name ≠ kFrom ∧ f.name ≠ kMost)) : rangeGo (f :: l) x = none := by
  unfold rangeGo
  rcases h with h | ⟨h1, h2⟩
  · rw [if_pos h]
  · by_cases ht : f.text = true
    · rw [if_pos ht]
    · rw [if_neg ht, if_neg h1, if_neg h2]
theorem range_from {f : Fld} {l : List Fld} {x : Int × Int} (h : f.text = false) (h1 : f.name = kFrom) : rangeGo (f :: l) x = rangeGo l (f.n, x.2) := by
  conv => lhs; unfold rangeGo
  rw [if_neg (by simp [h]), if_pos h1]
theorem range_most {f : Fld} {l : List Fld} {x : Int × Int} (h : f.text = false) (h1 : f.name ≠ kFrom) (h2 : f.name = kMost) : rangeGo (f :: l) x = rangeGo l (x.1, f.n) := by
  conv => lhs; unfold rangeGo
  rw [if_neg (by simp [h]), if_neg h1, if_pos h2]
def capR : Option (Int × Int) → Option (Int × Int)
  | none => none
  | some x => if 0 ≤ x.1 ∧ 1 ≤ x.2 ∧ x.2 ≤ 50 then some x else none
theorem ranged_eq (most : Int) (q : By) : rangedL most q = if (readL q).2 ≠ 0 then none else capR (rangeGo (readL q).1 (0, most)) := by
  unfold rangedL
  by_cases h : (readL q).2 ≠ 0
  · rw [if_pos h, if_pos h]
  · rw [if_neg h, if_neg h]
    cases rangeGo (readL q).1 (0, most) <;> rfl
/-- What ranged leaves of the call in block P. -/
def RangedPost (P : Nat) (C : Cl) (q : By) (w : World) (e : Ending) (w' : World) : Prop :=
  ∃ (x : Int × Int) (ok : Bool), e = .returned (.bool ok) ∧ StAt tCl P (clC (Dc C x) (.slice none 0 0)) w' ∧ Below P w w' ∧ (ok = true → rangedL C.most q = some x) ∧ (ok = false → rangedL C.most q = none)
theorem below_in {B P : Nat} {w w' : World} (h : Below B w w') (hP : P ≤ B) : Below P w w' := h.mono hP
theorem set_frm {P : Nat} {C : Cl} {x : Int × Int} {w : World} {n : Int} (h : StAt tCl P (clC (Dc C x) (.slice none 0 0)) w) : StAt tCl P (clC (Dc C (n, x.2)) (.slice none 0 0)) (w.setCell ⟨P, 7, none⟩ (.int .i64 n)) := by
  have := heap_setCell_same w P 7 _ _ (.int .i64 n) h
  simpa using this
theorem set_most {P : Nat} {C : Cl} {x : Int × Int} {w : World} {n : Int} (h : StAt tCl P (clC (Dc C x) (.slice none 0 0)) w) : StAt tCl P (clC (Dc C (x.1, n)) (.slice none 0 0)) (w.setCell ⟨P, 8, none⟩ (.int .i64 n)) := by
  have := heap_setCell_same w P 8 _ _ (.int .i64 n) h
  simpa using this
theorem rows_set {P k : Nat} {u : Value} {v : Value} {l : List Fld} {w : World} (h : W12.Rows v l w) (hf : Fresh (P + 1) v) : W12.Rows v l (w.setCell ⟨P, k, none⟩ u) := by
  obtain ⟨o, c, rfl, h0⟩ := h
  refine ⟨o, c, rfl, h0.imp id ?_⟩
  rintro ⟨g, off, rfl, h1⟩
  have hg : P + 1 ≤ g := hf ⟨g, off, none⟩ _ _ rfl
  refine ⟨g, off, rfl, fun j f hj => ?_⟩
  obtain ⟨a, b, c, d⟩ := h1 j f hj
  have hne : ∀ i, (⟨P, k, none⟩ : Addr) ≠ ⟨g, i, none⟩ := fun i e => by injection e with e1; omega
  exact ⟨by rw [World.cell?_setCell_other _ _ _ _ (hne _)]; exact a, by rw [World.cell?_setCell_other _ _ _ _ (hne _)]; exact b, by rw [World.cell?_setCell_other _ _ _ _ (hne _)]; exact c, by rw [World.cell?_setCell_other _ _ _ _ (hne _)]; exact d⟩
set_option maxHeartbeats 6400000 in
set_option maxRecDepth 100000 in
theorem ranged_any (P : Nat) (C : Cl) (q : ByteArray) (w : World) (hE : Env w) (hq : q.size ≤ 140737488355328) (hC : StAt tCl P (clC (Dc C (0, C.most)) (.slice none 0 0)) w) :
    Calls Tryz.prog 30 #[.pointer (some ⟨P, 0, none⟩), .string q] w (RangedPost P C q.data.toList w) := by
  have hrd := Read_new q w hE hq
  obtain ⟨l, hl⟩ : ∃ l, l = (readL q.data.toList).1 := ⟨_, rfl⟩
  obtain ⟨er, her⟩ : ∃ er, er = (readL q.data.toList).2 := ⟨_, rfl⟩
  rw [← hl, ← her] at hrd
  have h16 : l.length ≤ 16 := by rw [hl]; exact (read_ok q.data.toList).1
  have hlt := at_lt hC
  have hres := ranged_eq C.most q.data.toList
  rw [← hl, ← her] at hres
  have HR := Lib.hid hres
  have HRD := Lib.hid hrd
  have HC := Lib.hid hC
  clear hl her hrd hres hC
  obtain ⟨n, hn⟩ : ∃ n, n = l.length := ⟨_, rfl⟩
  rw [← hn] at h16
  have HN := Lib.hid hn
  clear hn
  go_enter Tryz.func30, Tryz.ntmps30
  go_wp2_with (go_at_call 18; refine HRD.out.mono ?_; rintro e w1 ⟨v, rfl, hrw, hfr, hb1⟩; refine Hid.out ?_)
  refine Lib.hid ?_
  have hC1 := keep_at HC.out hb1
  obtain ⟨o, cp, rfl, hcl⟩ := id hrw
  rw [← HN.out] at hrw hfr ⊢
  have HRW := Lib.hid hrw
  have HFR := Lib.hid hfr
  have HCL := Lib.hid hcl
  clear hrw hfr hcl
  go_wp2_with fail
  go_loopw [16] (fun i wr => ∃ (k : Nat) (x : Int × Int), k ≤ n ∧ i = .int .i64 k ∧ StAt tCl P (clC (Dc C x) (.slice none 0 0)) wr ∧ Below P w wr ∧ W12.Rows (.slice o n cp) l wr ∧ w.heap.size ≤ wr.heap.size ∧ Hid (rangeGo l (0, C.most) = rangeGo (l.drop k) x)) (fun i _ => n - (intOf i).toNat)
  case atStart => exact ⟨0, (0, C.most), by omega, rfl, hC1, hb1.mono (by omega), HRW.out, hb1.size, Lib.hid rfl⟩
  case round =>
    clear hC1 hb1
    obtain ⟨k, x, hk, rfl, hc, hb, hr, hsz, HG⟩ := hrel
    by_cases hkn : k < n
    · obtain ⟨f, hf⟩ : ∃ f, l[k]? = some f := ⟨_, List.getElem?_eq_getElem (by rw [← HN.out]; exact hkn)⟩
      have hdr : l.drop k = f :: l.drop (k + 1) := by
        rw [List.drop_eq_getElem_cons (by rw [← HN.out]; exact hkn)]
        congr 1
        rw [List.getElem?_eq_getElem (by rw [← HN.out]; exact hkn)] at hf
        exact Option.some.inj hf
      obtain ⟨g, off, rfl, hcl⟩ : ∃ g off, o = some ⟨g, off, none⟩ ∧ ∀ (j : Nat) (f : Fld), l[j]? = some f → wr.cell? ⟨g, off + j * 4, none⟩ = some (bs f.name) ∧ wr.cell? ⟨g, off + j * 4 + 1, none⟩ = some (.bool f.text) ∧ wr.cell? ⟨g, off + j * 4 + 2, none⟩ = some (.int .i64 f.n) ∧ wr.cell? ⟨g, off + j * 4 + 3, none⟩ = some (bs f.s) := by
        obtain ⟨o', c', e', h⟩ := hr
        injection e' with e1 e2 e3
        subst e1
        exact h.resolve_left (by rintro rfl; simp at hf)
      obtain ⟨a0, a1, a2, a3⟩ := hcl k f hf
      have hgP : P + 1 ≤ g := by have := HFR.out ⟨g, off, none⟩ n cp rfl; show P + 1 ≤ g; have h2 : w.heap.size ≤ g := this; omega
      have hfr2 : Fresh (P + 1) (.slice (some ⟨g, off, none⟩) n cp) := fun a m d e => by
        injection e with e1
        injection e1 with e1
        subst e1
        exact hgP
      obtain ⟨A, hA⟩ : ∃ A : ByteArray, A = ⟨f.name.toArray⟩ := ⟨_, rfl⟩
      obtain ⟨S, hS⟩ : ∃ A : ByteArray, A = ⟨f.s.toArray⟩ := ⟨_, rfl⟩
      simp only [bs] at a0 a3
      rw [← hA] at a0
      rw [← hS] at a3
      have hAd : A.toList = f.name := by rw [Lib.toList_data, hA]
      have hk1 : (k : Int) < (n : Int) := by omega
      have hk0 : (0 : Int) ≤ (k : Int) := by omega
      have hPw := at_lt hc
      have h7 : wr.cell? ⟨P, 7, none⟩ = some (.int .i64 x.1) := Lib.cell_of_heap hc 7
      have h8 : wr.cell? ⟨P, 8, none⟩ = some (.int .i64 x.2) := Lib.cell_of_heap hc 8
      have hz7 := Lib.frozen_of_heap hc 7
      have hz8 := Lib.frozen_of_heap hc 8
      have hc2 := keep_at hc (below_alloc wr (.cells #[.string A, .bool f.text, .int .i64 f.n, .string S] 54))
      have hr2 := W12.Rows.keep hr (below_alloc wr (.cells #[.string A, .bool f.text, .int .i64 f.n, .string S] 54))
      have hb2 := hb.trans ((below_alloc wr (.cells #[.string A, .bool f.text, .int .i64 f.n, .string S] 54)).mono (by omega : P ≤ wr.heap.size))
      obtain ⟨ft, hft⟩ : ∃ ft, ft = f.text := ⟨_, rfl⟩
      obtain ⟨fn, hfn⟩ : ∃ fn, fn = f.n := ⟨_, rfl⟩
      rw [← hft] at a1 hc2 hr2 hb2
      rw [← hfn] at a2 hc2 hr2 hb2
      have HC2 := Lib.hid hc2
      have HC1 := Lib.hid hc
      have HR1 := Lib.hid hr
      have HR2 := Lib.hid hr2
      have HF2 := Lib.hid hfr2
      have HFT := Lib.hid hft
      have HFN := Lib.hid hfn
      have HDR := Lib.hid hdr
      have HAD := Lib.hid hAd
      have HFF := Lib.hid hf
      clear hc hc2 hr hr2 hfr2 hft hfn hdr hAd hA hS hf hcl
      have hnone : (f.text = true ∨ (f.name ≠ kFrom ∧ f.name ≠ kMost)) → rangedL C.most q.data.toList = none := fun h => by
        rw [HR.out]
        by_cases he : er ≠ 0
        · rw [if_pos he]
        · rw [if_neg he, HG.out, HDR.out, range_stop h]
          rfl
      have HNO := Lib.hid hnone
      clear hnone
      cases ft with
      | true =>
        go_wp2_with fail
        go_ret
        exact ⟨x, false, rfl, HC2.out, hb2, fun h => (by cases h), fun _ => HNO.out (.inl HFT.out.symm)⟩
      | false =>
        by_cases h1 : f.name = kFrom
        · have hz : A.toList = [102, 114, 111, 109] := by rw [HAD.out, h1]; rfl
          have HS := Lib.hid (keep_at (set_frm (n := fn) HC1.out) (below_alloc (wr.setCell ⟨P, 7, none⟩ (.int .i64 fn)) (.cells #[.string A, .bool false, .int .i64 fn, .string S] 54)))
          have HRS := Lib.hid (W12.Rows.keep (rows_set (k := 7) (u := .int .i64 fn) HR1.out HF2.out) (below_alloc (wr.setCell ⟨P, 7, none⟩ (.int .i64 fn)) (.cells #[.string A, .bool false, .int .i64 fn, .string S] 54)))
          have HG2 := Lib.hid ((HG.out.trans (congrArg (fun z => rangeGo z x) HDR.out)).trans (range_from HFT.out.symm h1))
          rw [← HFN.out] at HG2
          have hss : (wr.setCell ⟨P, 7, none⟩ (.int .i64 fn)).heap.size = wr.heap.size := by simp [World.setCell]
          have hb3 : Below P w ((wr.setCell ⟨P, 7, none⟩ (.int .i64 fn)).alloc (.cells #[.string A, .bool false, .int .i64 fn, .string S] 54)) := (hb.setCell (p := ⟨P, 7, none⟩) (Nat.le_refl _) _).trans ((below_alloc _ _).mono (by omega))
          have hsz3 : w.heap.size ≤ ((wr.setCell ⟨P, 7, none⟩ (.int .i64 fn)).alloc (.cells #[.string A, .bool false, .int .i64 fn, .string S] 54)).heap.size := by rw [World.size_alloc]; omega
          clear hss
          go_wp2_with fail
          go_roundw
          case rel => exact ⟨k + 1, (fn, x.2), by omega, by go_num, HS.out, hb3, HRS.out, hsz3, HG2⟩
          case measure => simp [intOf]; omega
        · have hz : ¬ A.toList = [102, 114, 111, 109] := by rw [HAD.out]; exact h1
          have hzb : (A.toList == [102, 114, 111, 109]) = false := beq_eq_false_iff_ne.2 hz
          by_cases h2 : f.name = kMost
          · have hz2 : A.toList = [109, 111, 115, 116] := by rw [HAD.out, h2]; rfl
            have HS := Lib.hid (keep_at (set_most (n := fn) HC1.out) (below_alloc (wr.setCell ⟨P, 8, none⟩ (.int .i64 fn)) (.cells #[.string A, .bool false, .int .i64 fn, .string S] 54)))
            have HRS := Lib.hid (W12.Rows.keep (rows_set (k := 8) (u := .int .i64 fn) HR1.out HF2.out) (below_alloc (wr.setCell ⟨P, 8, none⟩ (.int .i64 fn)) (.cells #[.string A, .bool false, .int .i64 fn, .string S] 54)))
            have HG2 := Lib.hid ((HG.out.trans (congrArg (fun z => rangeGo z x) HDR.out)).trans (range_most HFT.out.symm h1 h2))
            rw [← HFN.out] at HG2
            have hss : (wr.setCell ⟨P, 8, none⟩ (.int .i64 fn)).heap.size = wr.heap.size := by simp [World.setCell]
            have hb3 : Below P w ((wr.setCell ⟨P, 8, none⟩ (.int .i64 fn)).alloc (.cells #[.string A, .bool false, .int .i64 fn, .string S] 54)) := (hb.setCell (p := ⟨P, 8, none⟩) (Nat.le_refl _) _).trans ((below_alloc _ _).mono (by omega))
            have hsz3 : w.heap.size ≤ ((wr.setCell ⟨P, 8, none⟩ (.int .i64 fn)).alloc (.cells #[.string A, .bool false, .int .i64 fn, .string S] 54)).heap.size := by rw [World.size_alloc]; omega
            clear hss
            go_wp2_with fail
            go_roundw
            case rel => exact ⟨k + 1, (x.1, fn), by omega, by go_num, HS.out, hb3, HRS.out, hsz3, HG2⟩
            case measure => simp [intOf]; omega
          · have hz2 : ¬ A.toList = [109, 111, 115, 116] := by rw [HAD.out]; exact h2
            have hzb2 : (A.toList == [109, 111, 115, 116]) = false := beq_eq_false_iff_ne.2 hz2
            have HN2 := Lib.hid (HNO.out (.inr ⟨h1, h2⟩))
            clear h1 h2
            go_wp2_with fail
            go_ret
            exact ⟨x, false, rfl, HC2.out, hb2, fun h => (by cases h), fun _ => HN2.out⟩
    · obtain rfl : k = n := by omega
      have hfin : rangeGo l (0, C.most) = some x := by rw [HG.out, List.drop_eq_nil_of_le (by rw [← HN.out]; exact Nat.le_refl _)]; rfl
      have hrg : rangedL C.most q.data.toList = if er ≠ 0 then none else if 0 ≤ x.1 ∧ 1 ≤ x.2 ∧ x.2 ≤ 50 then some x else none := by rw [HR.out, hfin]; rfl
      have HRG := Lib.hid hrg
      have HC2 := Lib.hid hc
      have h7 : wr.cell? ⟨P, 7, none⟩ = some (.int .i64 x.1) := Lib.cell_of_heap hc 7
      have h8 : wr.cell? ⟨P, 8, none⟩ = some (.int .i64 x.2) := Lib.cell_of_heap hc 8
      clear hfin hrg hc hr HR HRD HC HRW HFR HCL HG
      obtain ⟨x1, x2⟩ := x
      simp only at h7 h8
      by_cases he : er = 0
      · subst he
        by_cases g1 : 0 ≤ x1
        · by_cases g2 : 1 ≤ x2
          · by_cases g3 : x2 ≤ 50
            · go_wp2_with fail
              go_ret
              exact ⟨(x1, x2), true, rfl, HC2.out, hb, fun _ => by rw [HRG.out, if_neg (by simp), if_pos ⟨g1, g2, g3⟩], fun h => (by cases h)⟩
            · go_wp2_with fail
              go_ret
              exact ⟨(x1, x2), false, rfl, HC2.out, hb, fun h => (by cases h), fun _ => by rw [HRG.out, if_neg (by simp), if_neg (fun h => absurd h.2.2 (by omega))]⟩
          · go_wp2_with fail
            go_ret
            exact ⟨(x1, x2), false, rfl, HC2.out, hb, fun h => (by cases h), fun _ => by rw [HRG.out, if_neg (by simp), if_neg (fun h => absurd h.2.1 (by omega))]⟩
        · go_wp2_with fail
          go_ret
          exact ⟨(x1, x2), false, rfl, HC2.out, hb, fun h => (by cases h), fun _ => by rw [HRG.out, if_neg (by simp), if_neg (fun h => absurd h.1 (by omega))]⟩
      · have hez : (er == 0) = false := by rw [beq_eq_false_iff_ne]; exact he
        have HE := Lib.hid he
        clear he
        go_wp2_with fail
        go_ret
        exact ⟨(x1, x2), false, rfl, HC2.out, hb, fun h => (by cases h), fun _ => by rw [HRG.out, if_pos HE.out]⟩
end Go.Proofs.YtfkmgnldkmpeiaaGreatDoor.W20
