/-
  Walks of layer 12: the reference's Read. Conditions: sixteen times the text's length is within Go's own limit.
  Walks of layer 12: Write at any list; how long a record is. Conditions: a field's number is an int.
  Walks of layer 20: structs in blocks of their own (stored whole, loaded whole, handed back); fits; num, text; record. Conditions: the blocks hold such rows; a record's numbers are ints.
  Laws on maps whose entries are written out: an insertion of a new key, a look-up. No program is in sight here. Conditions: the types are the map's.
-/
import Derived.Test.YtfkmgnldkmpeiaaGreatDoorGam
import Derived.Test.YtfkmgnldkmpeiaaGreatDoorGak
import Derived.Test.YtfkmgnldkmpeiaaGreatDoorGac
import Derived.Laws.Rows
import Derived.Laws.Tables
import Derived.WalkKit
import Derived.Carry

namespace Go.Proofs.YtfkmgnldkmpeiaaGreatDoor.W12
open Go Go.RowKit P12

theorem cutL_free {c : UInt8} : ∀ {s : By}, c ∉ s → cutL c s = (s, [], false)
  | [], _ => rfl
  | d :: l, h => by
    have e : d ≠ c := fun e => h (by simp [e])
    rw [cutL, if_neg e, cutL_free (fun h' => h (by simp [h']))]
theorem cut_pos (q : ByteArray) (p : Nat) (hp : p < q.size) (hc : q[p]'hp = 61) (hn : (61 : UInt8) ∉ q.data.toList.take p) : cutL 61 q.data.toList = ((q.extract 0 p).data.toList, (q.extract (p + 1) q.size).data.toList, true) := by
  have h := seg_split q 0 p (Nat.zero_le _) hp
  rw [List.drop_zero, hc] at h
  have h0 : (q.extract 0 p).data.toList = q.data.toList.take p := by rw [seg_data q 0 p (by omega), List.drop_zero, Nat.sub_zero]
  rw [← seg_last q (p + 1) (by omega)]
  conv => lhs; rw [h]
  exact cutL_at (by rw [h0]; exact hn) _
theorem cut_nil (q : ByteArray) (hn : (61 : UInt8) ∉ q.data.toList.take q.size) : cutL 61 q.data.toList = ((q.extract 0 q.size).data.toList, [], false) := by
  rw [take_all] at hn
  have h0 : (q.extract 0 q.size).data.toList = q.data.toList := by rw [← seg_last q 0 (Nat.zero_le _), List.drop_zero]
  rw [h0]
  exact cutL_free hn
theorem parts_le {c : UInt8} : ∀ {s : By} {p : By}, p ∈ partsL c s → p.length ≤ s.length
  | [], p, h => by simp [partsL] at h; simp [h]
  | d :: l, p, h => by
    have ih : ∀ {q : By}, q ∈ partsL c l → q.length ≤ l.length := parts_le
    unfold partsL at h
    split at h
    · rcases List.mem_cons.1 h with h | h
      · subst h; simp
      · have := ih h; simp; omega
    · cases hq : partsL c l with
      | nil => rw [hq] at h; simp at h; subst h; simp
      | cons q qs =>
        rw [hq] at h
        rcases List.mem_cons.1 h with h | h
        · subst h
          have := ih (q := q) (by rw [hq]; simp)
          simp; omega
        · have := ih (q := p) (by rw [hq]; simp [h])
          simp; omega
theorem rf_16 {L : List Fld} {k : Nat} {p : By} {ps : List By} (h : 16 ≤ k) : refFold L k (p :: ps) = ([], 120) := by rw [refFold, if_pos h]
theorem rf_121 {L : List Fld} {k : Nat} {p : By} {ps : List By} (h : ¬ 16 ≤ k) (h2 : nameL (cutL 61 p).1 = false ∨ (cutL 61 p).2.2 = false) : refFold L k (p :: ps) = ([], 121) := by rw [refFold, if_neg h, if_pos h2]
theorem rf_122 {L : List Fld} {k : Nat} {p : By} {ps : List By} (h : ¬ 16 ≤ k) (h2 : ¬ (nameL (cutL 61 p).1 = false ∨ (cutL 61 p).2.2 = false)) (h3 : valueL (cutL 61 p).1 (cutL 61 p).2.1 = none) : refFold L k (p :: ps) = ([], 122) := by rw [refFold, if_neg h, if_neg h2, h3]
theorem rf_124 {L : List Fld} {k : Nat} {p : By} {ps : List By} {f : Fld} (h : ¬ 16 ≤ k) (h2 : ¬ (nameL (cutL 61 p).1 = false ∨ (cutL 61 p).2.2 = false)) (h3 : valueL (cutL 61 p).1 (cutL 61 p).2.1 = some f) (h4 : has L f.name = true) : refFold L k (p :: ps) = ([], 124) := by rw [refFold, if_neg h, if_neg h2, h3]; exact if_pos h4
theorem rf_next {L : List Fld} {k : Nat} {p : By} {ps : List By} {f : Fld} (h : ¬ 16 ≤ k) (h2 : ¬ (nameL (cutL 61 p).1 = false ∨ (cutL 61 p).2.2 = false)) (h3 : valueL (cutL 61 p).1 (cutL 61 p).2.1 = some f) (h4 : has L f.name = false) : refFold L k (p :: ps) = refFold (insL f L) (k + 1) ps := by rw [refFold, if_neg h, if_neg h2, h3]; exact if_neg (by show ¬ (has L f.name = true); rw [h4]; decide)

theorem held1_of {wb w' : World} {p : Addr} {v : Value} (hb : Below wb.heap.size wb w') (z0 : wb.cell? p = some v) : w'.cell? p = some v ∧ Below wb.heap.size wb w' := ⟨keep_cell hb z0, hb⟩
/-- A world becomes a letter: a field's cells are all that is known, and what was there. -/
theorem wp_fld {G : Exit → Act → World → Prop} {e : Exit} {a : Act} {W : World} (wr : World) (N : Nat) (x y : ByteArray) (b : Bool) (n : Int) (hb : Below wr.heap.size wr W)
    (h0 : W.cell? ⟨N, 0, none⟩ = some (.string x)) (h1 : W.cell? ⟨N, 1, none⟩ = some (.bool b)) (h2 : W.cell? ⟨N, 2, none⟩ = some (.int .i64 n)) (h3 : W.cell? ⟨N, 3, none⟩ = some (.string y))
    (h : ∀ w4 : World, Below wr.heap.size wr w4 → w4.cell? ⟨N, 0, none⟩ = some (.string x) → w4.cell? ⟨N, 1, none⟩ = some (.bool b) → w4.cell? ⟨N, 2, none⟩ = some (.int .i64 n) → w4.cell? ⟨N, 3, none⟩ = some (.string y) → G e a w4) : G e a W :=
  h W hb h0 h1 h2 h3

set_option maxHeartbeats 3000000 in
set_option maxRecDepth 100000 in
theorem refRead_any (text : ByteArray) (w : World) (hs : text.size ≤ 1000000000000) :
    Calls Tryz.prog 71 #[.string text] w fun e w' => ∃ v, e = .returned (.tuple #[v, .int .i64 (refReadL text.data.toList).2]) ∧ Rows v (refReadL text.data.toList).1 w' ∧ Below w.heap.size w w' := by
  by_cases h0 : text.size = 0
  · have hl := empty_list text h0
    have ht := toList_nil text h0
    have hv : refReadL text.data.toList = ([], 0) := by rw [hl]; rfl
    rw [hv]
    clear hv hl
    go_enter Tryz.func71, Tryz.ntmps71
    go_wp2_with fail
    go_ret2
    exact ⟨_, rfl, rows_nil _, Below.refl _ _⟩
  have hpos : 0 < text.size := by omega
  have ht := toList_cons text hpos
  have hne := toList_ne text hpos
  have hcut : ∀ W, Calls Tryz.prog 16 #[.string text, .int .u8 38] W fun e w' => ∃ v, e = .returned v ∧ Strs v (partsL 38 text.data.toList) w' ∧ Below W.heap.size W w' := fun W => refCut_any text 38 W hs
  have hres : refReadL text.data.toList = refFold [] 0 (partsL 38 text.data.toList) := by unfold refReadL; rw [if_neg hne]
  have hpn := partsL_ne 38 text.data.toList
  have hpl : ∀ p ∈ partsL 38 text.data.toList, p.length ≤ 1000000000000 := fun p hp => by
    have := parts_le hp
    rw [size_data] at this
    omega
  obtain ⟨R, hR⟩ : ∃ R, R = refReadL text.data.toList := ⟨_, rfl⟩
  rw [← hR]
  rw [← hR] at hres
  generalize partsL 38 text.data.toList = P at hcut hres hpn hpl
  have HPL := Lib.hid hpl
  have HRES := Lib.hid hres
  clear hR hres hne hs hpl
  go_enter Tryz.func71, Tryz.ntmps71
  go_wp2_with (go_at_call 16; refine (hcut _).mono ?_; rintro e w1 ⟨vl, rfl, hst, hb1⟩; refine Hid.out ?_)
  refine Lib.hid ?_
  clear hcut
  obtain ⟨o, c, rfl, hcl⟩ := hst
  obtain ⟨g, off, rfl, hcl2⟩ := hcl.resolve_left hpn
  clear hcl
  obtain ⟨N, hN⟩ : ∃ N, N = P.length := ⟨_, rfl⟩
  rw [← hN]
  have HN := Lib.hid hN
  have HCL := Lib.hid hcl2
  clear hN hcl2 hpn
  go_wp2_with fail
  go_loopw [4, 6] (fun v i wr => ∃ (k : Nat) (L : List Fld), k ≤ N ∧ k ≤ 16 ∧ i = .int .i64 k ∧ L.length ≤ k ∧ Hid (R = refFold L k (P.drop k)) ∧ wr.ownsRow w1.heap.size 54 4 v L.length (cellsF L) ∧ Below w1.heap.size w1 wr) (fun _ i _ => N - (intOf i).toNat)
  case atStart => exact ⟨0, [], by omega, by omega, rfl, by simp, Lib.hid (by rw [HRES.out]; simp), World.ownsRow_nil _ _ _ _, Below.refl _ _⟩
  case round =>
    obtain ⟨k, L, hkN, hk16, rfl, hL, HF, hI, hB⟩ := hrel
    have hBs := hB.size
    by_cases hlt : k < N
    · obtain ⟨pl, hpk⟩ : ∃ pl, P[k]? = some pl := ⟨P[k]'(by rw [← HN.out]; exact hlt), List.getElem?_eq_getElem _⟩
      have c0 := keep_cell hB (HCL.out k pl hpk)
      obtain ⟨q, hq⟩ : ∃ q : ByteArray, q = ⟨pl.toArray⟩ := ⟨_, rfl⟩
      have hqd : q.data.toList = pl := by rw [hq]
      rw [show bs pl = .string q by rw [hq]] at c0
      have hqs : q.size ≤ 1000000000000 := by rw [← size_data, hqd]; exact HPL.out pl (List.mem_of_getElem? hpk)
      have hdrop : P.drop k = pl :: P.drop (k + 1) := by
        rw [List.drop_eq_getElem_cons (by rw [← HN.out]; exact hlt)]
        congr 1
        rw [List.getElem?_eq_getElem (by rw [← HN.out]; exact hlt)] at hpk
        exact Option.some.inj hpk
      have hF := HF.out
      rw [hdrop, ← hqd] at hF
      have HF2 := Lib.hid hF
      clear hF HF hdrop hqd hq hpk
      have hkI : (0 : Int) ≤ (k : Int) := by omega
      have hkN' : (k : Int) < (N : Int) := by omega
      by_cases h16 : 16 ≤ k
      · have hV := HF2.out
        rw [rf_16 h16] at hV
        have HV := Lib.hid hV
        have h16' : (16 : Int) ≤ (k : Int) := by omega
        clear hV h16
        go_wp2_with fail
        go_ret2
        exact ⟨_, by rw [HV.out]; rfl, by rw [HV.out]; exact rows_nil _, below_then hb1 hB⟩
      · have h16' : ¬ (16 : Int) ≤ (k : Int) := by omega
        have H16 := Lib.hid h16
        clear h16
        go_wp2_with fail
        go_loopw [7] (fun i wr2 => ∃ (p : Nat), p ≤ q.size ∧ i = .int .i64 p ∧ wr2 = wr ∧ Hid ((61 : UInt8) ∉ q.data.toList.take p)) (fun i _ => q.size - (intOf i).toNat)
        case atStart => exact ⟨0, by omega, rfl, rfl, Lib.hid (by simp)⟩
        case round =>
          obtain ⟨p, hp, rfl, rfl, H61⟩ := hrel
          by_cases hpl : p < q.size
          · have hpI : (p : Int) < (q.size : Int) := by omega
            by_cases hc : q[p]'hpl = 61
            · have hz : (((q[p]'hpl).toNat : Int) != 61) = false := by rw [hc]; rfl
              have hcut := cut_pos q p hpl hc H61.out
              have HCUT := Lib.hid hcut
              clear hcut hc H61
              have hYs : (q.extract (p + 1) q.size).size ≤ 140737488355328 := by rw [ByteArray.size_extract]; omega
              have hp0 : (0 : Int) ≤ (p : Int) := by omega
              have hp1 : (p : Int) + 1 ≤ (q.size : Int) := by omega
              have hp10 : (0 : Int) ≤ (p : Int) + 1 := by omega
              have hpt : ((p : Int) + 1).toNat = p + 1 := by omega
              have hwr : IntKind.i64.wrap ((p : Int) + 1) = (p : Int) + 1 := by rw [IntKind.wrap_i64]; omega
              have hpe : ((p : Int) == (q.size : Int)) = false := by rw [beq_eq_false_iff_ne]; omega
              have hname := fun W => refName_any (q.extract 0 p) W
              have hval := fun W => refValueOf_any (q.extract 0 p) (q.extract (p + 1) q.size) W hYs
              obtain ⟨X, hX⟩ : ∃ X, X = (q.extract 0 p).data.toList := ⟨_, rfl⟩
              obtain ⟨Y, hY⟩ : ∃ Y, Y = (q.extract (p + 1) q.size).data.toList := ⟨_, rfl⟩
              rw [← hX] at hname
              rw [← hX, ← hY] at hval
              have HX := Lib.hid hX
              have hCUT := HCUT.out
              rw [← hX, ← hY] at hCUT
              have HCUT2 := Lib.hid hCUT
              clear HCUT hCUT hX hY hYs
              by_cases hnm : nameL X = false
              · have hV := HF2.out
                rw [rf_121 H16.out (.inl (by rw [HCUT2.out]; exact hnm))] at hV
                have HV := Lib.hid hV
                rw [hnm] at hname
                clear hV HF2 HCUT2 hnm hval
                go_wp2_with (go_at_call 70; refine (hname _).mono ?_; rintro e w2 ⟨rfl, hb2⟩; refine Hid.out ?_)
                refine Lib.hid ?_
                go_wp2_with fail
                go_ret2
                exact ⟨_, by rw [HV.out]; rfl, by rw [HV.out]; exact rows_nil _, below_then hb1 (hB.trans (hb2.mono hBs))⟩
              · have hnm' : nameL X = true := by simpa using hnm
                rw [hnm'] at hname
                have HNOT : Hid (¬ (nameL (cutL 61 q.data.toList).1 = false ∨ (cutL 61 q.data.toList).2.2 = false)) := by
                  refine Lib.hid ?_
                  rw [HCUT2.out, hnm']
                  simp
                clear hnm hnm'
                go_wp2_with (go_at_call 70; refine (hname _).mono ?_; rintro e w2 ⟨rfl, hb2⟩; replace c0 := keep_cell hb2 c0; refine Hid.out ?_)
                refine Lib.hid ?_
                have hs2 := hb2.size
                go_wp2_with fail
                go_region_held3 (fun w' => w'.cell? ⟨g, off + k, none⟩ = some (.string q) ∧ Below w2.heap.size w2 w')
                  ((refine held1_of ?_ c0; first | assumption | (go_split_ands; refine below_then ?_ (below_alloc _ _); assumption) | exact below_drewN w2 1 | exact below_then (below_alloc w2 _) (below_drewN _ 1) | exact hb23 | (refine below_then ?_ (below_alloc _ _); exact hb23) | (go_split_ands; exact ((((by assumption : Below w2.heap.size w2 _).setCell (p := ⟨_, 0, none⟩) (by first | simp | (simp; omega)) _).setCell (p := ⟨_, 1, none⟩) (by first | simp | (simp; omega)) _).setCell (p := ⟨_, 2, none⟩) (by first | simp | (simp; omega)) _).setCell (p := ⟨_, 3, none⟩) (by first | simp | (simp; omega)) _)))
                  (first
                    | (go_at_call 98; refine (hval _).mono ?_; rintro e w3 ⟨⟨b, n, u, ok, rfl, hv⟩, hb3⟩; have hb23 : Below w2.heap.size w2 w3 := (by go_split_ands; exact below_then (by assumption) hb3); have hs3 := hb23.size; (try (have hh : w3.heap[w2.heap.size]? = some (.cells #[.string ⟨#[]⟩, .bool false, .int .i64 0, .string ⟨#[]⟩] 54 (0, 0)) := (hb3.block w2.heap.size (by simp)).trans (heap_new w2 _); have q0 := Lib.cell_of_heap hh 0; have q1 := Lib.cell_of_heap hh 1; have q2 := Lib.cell_of_heap hh 2; have q3 := Lib.cell_of_heap hh 3; have f0 := Lib.frozen_of_heap hh 0; have f1 := Lib.frozen_of_heap hh 1; have f2 := Lib.frozen_of_heap hh 2; have f3 := Lib.frozen_of_heap hh 3; clear hh))))
                all_goals first
                  | (refine wp_fld w2 w2.heap.size (q.extract 0 p) u b n (by go_split_ands; assumption) (by simp [go_sem, q0]) (by simp [go_sem, q1]) (by simp [go_sem, q2]) (by simp [go_sem, q3]) ?_)
                  | (refine wp_fld w2 w3.heap.size (q.extract 0 p) u b n (by go_split_ands; assumption) (Lib.cell_of_heap (heap_new w3 _) 0) (Lib.cell_of_heap (heap_new w3 _) 1) (Lib.cell_of_heap (heap_new w3 _) 2) (Lib.cell_of_heap (heap_new w3 _) 3) ?_)
                all_goals
                  clear hb23 hs3 hb3
                  intro w4 hb4 x0 x1 x2 x3
                  have hb24 := below_then hb2 hb4
                  have hI4 := own_keep hI hb24
                  have hBw4 := hB.trans (hb24.mono hBs)
                  have hL16 : L.length ≤ 16 := by omega
                  cases ok with
                  | false =>
                    have hV := HF2.out
                    rw [rf_122 H16.out HNOT.out (by rw [HCUT2.out, hv]; rfl)] at hV
                    have HV := Lib.hid hV
                    clear hV HF2 HCUT2 HNOT hv hI hI4
                    go_wp2_with fail
                    go_ret2
                    exact ⟨_, by rw [HV.out]; rfl, by rw [HV.out]; exact rows_nil _, below_then hb1 hBw4⟩
                  | true =>
                    simp only [if_true] at hv
                    have hfind := find_any _ L (q.extract 0 p) w4 (by omega) (rowsC_own hI4).rows
                    rw [← HX.out] at hfind
                    by_cases hhas : has L X = true
                    · have hV := HF2.out
                      rw [rf_124 H16.out HNOT.out (by rw [HCUT2.out]; exact hv) hhas] at hV
                      have HV := Lib.hid hV
                      have hf0 : 0 ≤ findI X L := by
                        have h1 := findI_ge X L
                        have h2 : findI X L ≠ -1 := fun e => by rw [findI_none.1 e] at hhas; cases hhas
                        omega
                      generalize findI X L = I at hfind hf0
                      clear hV HF2 HCUT2 HNOT hv hhas hI hI4
                      go_wp2_with (go_at_call 99; refine hfind.mono ?_; rintro e w5 ⟨rfl, hb5⟩; refine Hid.out ?_)
                      refine Lib.hid ?_
                      go_wp2_with fail
                      go_ret2
                      exact ⟨_, by rw [HV.out]; rfl, by rw [HV.out]; exact rows_nil _, below_then hb1 (hBw4.trans (hb5.mono (by have := hBw4.size; omega)))⟩
                    · have hhas' : has L X = false := by simpa using hhas
                      have hV := HF2.out
                      rw [rf_next H16.out HNOT.out (by rw [HCUT2.out]; exact hv) hhas'] at hV
                      have HV := Lib.hid hV
                      rw [findI_none.2 hhas'] at hfind
                      have hset := fun V W (h : World.ownsRow W w1.heap.size 54 4 V L.length (cellsF L)) => refSet_ins V L (q.extract 0 p) u b n W (rowsC_own h) (by omega) (by rw [← HX.out]; exact hhas')
                      rw [← HX.out] at hset
                      have HIN := Lib.hid hI4
                      clear hV HF2 HCUT2 HNOT hv hhas hhas' hI hI4
                      go_wp2_with (go_at_call 99; refine hfind.mono ?_; rintro e w5 ⟨rfl, hb5⟩; refine Hid.out ?_)
                      refine Lib.hid ?_
                      replace x0 := keep_cell hb5 x0
                      replace x1 := keep_cell hb5 x1
                      replace x2 := keep_cell hb5 x2
                      replace x3 := keep_cell hb5 x3
                      have hBw5 := hBw4.trans (hb5.mono (by have := hBw4.size; omega))
                      go_wp2_with (go_at_call 100; refine (hset _ _ (own_keep HIN.out hb5)).mono ?_; rintro e w6 ⟨v6, rfl, hown6, hb6⟩; refine Hid.out ?_)
                      refine Lib.hid ?_
                      have hown := own_base (B' := w1.heap.size) hown6 (by have := hBw5.size; omega)
                      clear hown6
                      go_wp2_with fail
                      go_roundw
                      case rel => exact ⟨k + 1, _, by omega, by omega, by go_num, by rw [insL_length]; omega, HV, hown, hBw5.trans (hb6.mono (by have := hBw5.size; omega))⟩
                      case measure => simp [intOf]; omega
            · have hz : (((q[p]'hpl).toNat : Int) != 61) = true := by
                rw [bne_iff_ne]
                intro e
                apply hc
                apply UInt8.toNat_inj.1
                have : ((61 : UInt8).toNat) = 61 := rfl
                omega
              have HN61 : Hid ((61 : UInt8) ∉ q.data.toList.take (p + 1)) := by
                refine Lib.hid ?_
                rw [take_next q p hpl, List.mem_append, List.mem_singleton, not_or]
                exact ⟨H61.out, fun e => hc e.symm⟩
              clear hc H61
              go_wp2_with fail
              go_roundw
              case rel => exact ⟨p + 1, by omega, by go_num, trivial, HN61⟩
              case measure => simp [intOf]; omega
          · obtain rfl : p = q.size := by omega
            have hcut := cut_nil q H61.out
            have hV := HF2.out
            rw [rf_121 H16.out (.inr (by rw [hcut]))] at hV
            have HV := Lib.hid hV
            obtain ⟨nb, hnb⟩ : ∃ nb, nb = nameL q.data.toList := ⟨_, rfl⟩
            have hname := fun W => refName_any q W
            rw [← hnb] at hname
            clear hV hcut H61 hnb HF2
            cases nb
            all_goals
              go_wp2_with (go_at_call 70; refine (hname _).mono ?_; rintro e w2 ⟨rfl, hb2⟩; replace c0 := keep_cell hb2 c0; refine Hid.out ?_)
              refine Lib.hid ?_
              go_wp2_with fail
              go_ret2
              exact ⟨_, by rw [HV.out]; rfl, by rw [HV.out]; exact rows_nil _, below_then hb1 (hB.trans (hb2.mono hBs))⟩
    · obtain rfl : k = N := by omega
      have hV := HF.out
      rw [List.drop_eq_nil_of_le (by rw [← HN.out]; exact Nat.le_refl _)] at hV
      have HV := Lib.hid (show R = (L, 0) from hV)
      have HR := Lib.hid (rowsC_own hI).rows
      clear hV HF hI
      go_wp2_with fail
      go_ret2
      exact ⟨_, by rw [HV.out]; rfl, by rw [HV.out]; exact HR.out, below_then hb1 hB⟩
end Go.Proofs.YtfkmgnldkmpeiaaGreatDoor.W12

namespace Go.Proofs.YtfkmgnldkmpeiaaGreatDoor.W12
open Go Go.RowKit P12

theorem Write_any (v : Value) (r : List Fld) (w : World) (hE : Env w) (hr : Rows v r w) (hlen : r.length ≤ 4611686018427387904) (hrange : ∀ f ∈ r, rangeF f) :
    Calls Tryz.prog 80 #[v] w fun e w' => e = .returned (.tuple #[bs (writeL r).1, .int .i64 (writeL r).2]) ∧ Below w.heap.size w w' := by
  by_cases hc : checkL r = 0
  · exact Write_ok v r w hE hr hrange hc
  · exact Write_bad v r w hr hlen hc
theorem refWrite_any (v : Value) (r : List Fld) (w : World) (hE : Env w) (hr : Rows v r w) (hlen : r.length ≤ 4611686018427387904) (hrange : ∀ f ∈ r, rangeF f) :
    Calls Tryz.prog 87 #[v] w fun e w' => e = .returned (.tuple #[bs (writeL r).1, .int .i64 (writeL r).2]) ∧ Below w.heap.size w w' := by
  by_cases hc : checkL r = 0
  · exact refWrite_ok v r w hE hr hrange hc
  · exact refWrite_bad v r w hr hlen hc

theorem write_size {r : List Fld} (hrange : ∀ f ∈ r, rangeF f) : (writeL r).1.length ≤ 20000 := by
  unfold writeL
  by_cases hc : checkL r = 0
  · rw [if_neg (by simp [hc])]
    obtain ⟨h1, h2, _⟩ := (check_iff r).1 hc
    have := textsL_len (r := r) (fun f hf => ⟨h2 f hf, hrange f hf⟩) r.length (Nat.le_refl _)
    rw [List.take_length] at this
    show (textsL r).length ≤ _
    omega
  · rw [if_pos hc]; simp

end Go.Proofs.YtfkmgnldkmpeiaaGreatDoor.W12

namespace Go.Proofs.YtfkmgnldkmpeiaaGreatDoor.W20
open Go Go.RowKit P12 P18 P20 W12

/-- Block N holds the cells c, of type t. -/
abbrev StAt (t : TypeId) (N : Nat) (c : Array Value) (w : World) : Prop := w.heap[N]? = some (.cells c t (0, 0))
theorem new_at (w : World) (c : Array Value) (t : TypeId) : StAt t w.heap.size c (w.alloc (.cells c t)) := heap_new w _
theorem at_lt {t : TypeId} {N : Nat} {c : Array Value} {w : World} (h : StAt t N c w) : N < w.heap.size := (Array.getElem?_eq_some_iff.1 h).1
theorem keep_at {N : Nat} {c : Array Value} {t : TypeId} {w w' : World} (h : StAt t N c w) (hb : Below w.heap.size w w') : StAt t N c w' := (hb.block N (at_lt h)).trans h
theorem below_row {B N : Nat} {w w' : World} (hb : Below B w w') (hN : B ≤ N) (c : Array Value) : Below B w (w'.setRow N c) :=
  ⟨hb.os, hb.tape, hb.output, by rw [size_setRow]; exact hb.size, fun k hk => (setRow_other w' N k c (by omega)).trans (hb.block k hk)⟩
theorem put_st {ops : Array Oper} {rest : List Oper} {o : Oper} {a : Act} {w : World} {Q : Exit → Act → World → Prop} (hgd : o.guard = none) (t : TypeId) (x y : Operand) (ho : o.op = .store t x y)
    (N : Nat) (c : Array Value) (hx : a.eval x = .pointer (some ⟨N, 0, none⟩)) (hy : a.eval y = .agg c) {old : Array Value} (hg : StAt t N old w) (hi : (Tryz.prog.info? t).map (·.size) = some c.size) (hs : old.size = c.size) (h1 : c.all (·.oneCell') = true)
    (h : ∀ w', StAt t N c w' → Below N w w' → (∀ k, k ≠ N → w'.heap[k]? = w.heap[k]?) → wpList Tryz.prog ops Q rest (a.put o.dst undef) w') : wpList Tryz.prog ops Q (o :: rest) a w :=
  wpList_store_row hgd _ x y ho N c hx hy _ old hg hi hs h1 (h _ (setRow_heap w N old c t (0, 0) hg) (below_row (Below.refl _ _) (Nat.le_refl _) _) (fun k hk => setRow_other w N k c hk))
theorem ret_st1 {fn : Func} {p : Tmp} {t : TypeId} (h : fn.results = #[.cell p t]) (tmps : Array Value) (w : World) (N : Nat) (c : Array Value) (hp : tmps.getD p undef = .pointer (some ⟨N, 0, none⟩)) (hl : (loadVar t ⟨N, 0, none⟩).run Tryz.prog w = .ok (.agg c) w) :
    (results fn tmps).run Tryz.prog w = .ok (.agg c) w := by
  have hp' : tmps[p]?.getD undef = .pointer (some ⟨N, 0, none⟩) := by simpa using hp
  simp [results, h, hp', asAddr, hl]
theorem ret_st2 {fn : Func} {p u : Tmp} {t : TypeId} (h : fn.results = #[.cell p t, .tmp u]) (tmps : Array Value) (w : World) (N : Nat) (c : Array Value) (hp : tmps.getD p undef = .pointer (some ⟨N, 0, none⟩)) (hl : (loadVar t ⟨N, 0, none⟩).run Tryz.prog w = .ok (.agg c) w) :
    (results fn tmps).run Tryz.prog w = .ok (.tuple #[.agg c, tmps.getD u undef]) w := by
  have hp' : tmps[p]?.getD undef = .pointer (some ⟨N, 0, none⟩) := by simpa using hp
  simp [results, h, hp', asAddr, hl]
theorem ret_st3 {fn : Func} {p u v : Tmp} {t : TypeId} (h : fn.results = #[.cell p t, .tmp u, .tmp v]) (tmps : Array Value) (w : World) (N : Nat) (c : Array Value) (hp : tmps.getD p undef = .pointer (some ⟨N, 0, none⟩)) (hl : (loadVar t ⟨N, 0, none⟩).run Tryz.prog w = .ok (.agg c) w) :
    (results fn tmps).run Tryz.prog w = .ok (.tuple #[.agg c, tmps.getD u undef, tmps.getD v undef]) w := by
  have hp' : tmps[p]?.getD undef = .pointer (some ⟨N, 0, none⟩) := by simpa using hp
  simp [results, h, hp', asAddr, hl]
theorem infoCl : (Tryz.prog.info? 30).map (·.size) = some 11 := by kernel_rfl
theorem infoRp : (Tryz.prog.info? 40).map (·.size) = some 3 := by kernel_rfl
theorem infoPa : (Tryz.prog.info? 118).map (·.size) = some 2 := by kernel_rfl
theorem infoRq : (Tryz.prog.info? 25).map (·.size) = some 6 := by kernel_rfl

theorem load_cl {N : Nat} {c : Array Value} {w : World} (h : StAt 30 N c w) (hc : c.size = 11) : (loadVar 30 ⟨N, 0, none⟩).run Tryz.prog w = .ok (.agg c) w :=
  run_loadVar_row w N _ _ c (0, 0) _ h Tryz.underlying30 rfl (by rw [hc]; exact infoCl)
theorem load_rp {N : Nat} {c : Array Value} {w : World} (h : StAt 40 N c w) (hc : c.size = 3) : (loadVar 40 ⟨N, 0, none⟩).run Tryz.prog w = .ok (.agg c) w :=
  run_loadVar_row w N _ _ c (0, 0) _ h Tryz.underlying40 rfl (by rw [hc]; exact infoRp)
theorem load_rq {N : Nat} {c : Array Value} {w : World} (h : StAt 25 N c w) (hc : c.size = 6) : (loadVar 25 ⟨N, 0, none⟩).run Tryz.prog w = .ok (.agg c) w :=
  run_loadVar_row w N _ _ c (0, 0) _ h Tryz.underlying25 rfl (by rw [hc]; exact infoRq)
theorem load_pa {N : Nat} {c : Array Value} {w : World} (h : StAt 118 N c w) (hc : c.size = 2) : (loadVar 118 ⟨N, 0, none⟩).run Tryz.prog w = .ok (.agg c) w :=
  run_loadVar_row w N _ _ c (0, 0) _ h Tryz.underlying118 rfl (by rw [hc]; exact infoPa)

/-! ## fits -/
theorem fitsL_nil {l : By} (h : l = []) : fitsL l = false := by subst h; rfl
theorem fitsL_one {l : By} (h : l ≠ []) (k : l.length ≤ 60) : fitsL l = true := by unfold fitsL; simp [h, k]
theorem fitsL_long {l : By} (k : ¬ l.length ≤ 60) : fitsL l = false := by unfold fitsL; simp [k]
set_option maxRecDepth 100000 in
theorem fits_any (s : ByteArray) (w : World) : Calls Tryz.prog 66 #[.string s] w fun e w' => e = .returned (.bool (fitsL s.data.toList)) ∧ w = w' := by
  by_cases h0 : s.data.toList = []
  · have hz : (s.toList == []) = true := by rw [Lib.toList_data, h0]; rfl
    have hz' : s.toList = [] := by rw [Lib.toList_data, h0]
    have H := Lib.hid (fitsL_nil h0)
    clear h0
    go_enter Tryz.func66, Tryz.ntmps66
    go_wp2_with fail
    go_ret
    exact ⟨by rw [H.out]; rfl, rfl⟩
  · have hz : s.toList.isEmpty = false := by rw [Lib.toList_data]; simpa using h0
    by_cases h6 : s.size ≤ 60
    · have hd : (s.size : Int) ≤ 60 := by omega
      have H := Lib.hid (fitsL_one h0 (by rw [size_data]; exact h6))
      clear h0
      go_enter Tryz.func66, Tryz.ntmps66
      go_wp2_with fail
      go_ret
      exact ⟨by rw [H.out]; rfl, rfl⟩
    · have hd : ¬ (s.size : Int) ≤ 60 := by omega
      have H := Lib.hid (fitsL_long (l := s.data.toList) (by rw [size_data]; exact h6))
      clear h0
      go_enter Tryz.func66, Tryz.ntmps66
      go_wp2_with fail
      go_ret
      exact ⟨by rw [H.out]; rfl, rfl⟩
set_option maxRecDepth 100000 in
theorem refFits_any (s : ByteArray) (w : World) : Calls Tryz.prog 69 #[.string s] w fun e w' => e = .returned (.bool (fitsL s.data.toList)) ∧ w = w' := by
  by_cases h0 : 1 ≤ s.size
  · have h0' : s.data.toList ≠ [] := by intro h; have := size_data s; rw [h] at this; simp at this; omega
    have hd0 : (1 : Int) ≤ (s.size : Int) := by omega
    by_cases h6 : s.size ≤ 60
    · have hd : (s.size : Int) ≤ 60 := by omega
      have H := Lib.hid (fitsL_one h0' (by rw [size_data]; exact h6))
      clear h0'
      go_enter Tryz.func69, Tryz.ntmps69
      go_wp2_with fail
      go_ret
      exact ⟨by rw [H.out]; rfl, rfl⟩
    · have hd : ¬ (s.size : Int) ≤ 60 := by omega
      have H := Lib.hid (fitsL_long (l := s.data.toList) (by rw [size_data]; exact h6))
      clear h0'
      go_enter Tryz.func69, Tryz.ntmps69
      go_wp2_with fail
      go_ret
      exact ⟨by rw [H.out]; rfl, rfl⟩
  · have h0' : s.data.toList = [] := List.eq_nil_of_length_eq_zero (by rw [size_data]; omega)
    have hd0 : ¬ (1 : Int) ≤ (s.size : Int) := by omega
    have H := Lib.hid (fitsL_nil h0')
    clear h0'
    go_enter Tryz.func69, Tryz.ntmps69
    go_wp2_with fail
    go_ret
    exact ⟨by rw [H.out]; rfl, rfl⟩

/-! ## num, text, record -/
abbrev numV (s : ByteArray) (n : Int) : Value := .agg #[.string s, .bool false, .int .i64 n, .string ⟨#[]⟩]
abbrev textV (s t : ByteArray) : Value := .agg #[.string s, .bool true, .int .i64 0, .string t]
set_option maxRecDepth 100000 in
theorem num_any (s : ByteArray) (n : Int) (w : World) : Calls Tryz.prog 44 #[.string s, .int .i64 n] w fun e w' => e = .returned (numV s n) ∧ Below w.heap.size w w' := by
  go_enter Tryz.func44, Tryz.ntmps44
  go_wp2
  exact bodyPost_ret (v := numV s n) (by simp [results, Tryz.results44, go_sem]) rfl ⟨rfl, below_alloc _ _⟩
set_option maxRecDepth 100000 in
theorem refNum_any (s : ByteArray) (n : Int) (w : World) : Calls Tryz.prog 57 #[.string s, .int .i64 n] w fun e w' => e = .returned (numV s n) ∧ Below w.heap.size w w' := by
  go_enter Tryz.func57, Tryz.ntmps57
  go_wp2
  exact bodyPost_ret (v := numV s n) (by simp [results, Tryz.results57, go_sem]) rfl ⟨rfl, below_alloc _ _⟩
set_option maxRecDepth 100000 in
theorem text_any (s t : ByteArray) (w : World) : Calls Tryz.prog 45 #[.string s, .string t] w fun e w' => e = .returned (textV s t) ∧ Below w.heap.size w w' := by
  go_enter Tryz.func45, Tryz.ntmps45
  go_wp2
  exact bodyPost_ret (v := textV s t) (by simp [results, Tryz.results45, go_sem]) rfl ⟨rfl, below_alloc _ _⟩
set_option maxRecDepth 100000 in
theorem refText_any (s t : ByteArray) (w : World) : Calls Tryz.prog 56 #[.string s, .string t] w fun e w' => e = .returned (textV s t) ∧ Below w.heap.size w w' := by
  go_enter Tryz.func56, Tryz.ntmps56
  go_wp2
  exact bodyPost_ret (v := textV s t) (by simp [results, Tryz.results56, go_sem]) rfl ⟨rfl, below_alloc _ _⟩
set_option maxRecDepth 100000 in
/-- A record's text, under any name X. -/
theorem record_any (v : Value) (r : List Fld) (X : ByteArray) (hX : X.data.toList = recordL r) (w : World) (hE : Env w) (hr : W12.Rows v r w) (hlen : r.length ≤ 4611686018427387904) (hrange : ∀ f ∈ r, rangeF f) :
    Calls Tryz.prog 43 #[v] w fun e w' => e = .returned (.string X) ∧ Below w.heap.size w w' := by
  have hw := W12.Write_any v r w hE hr hlen hrange
  have e1 : bs (writeL r).1 = .string X := by unfold recordL at hX; rw [← hX, bs_data X]
  rw [e1] at hw
  clear hX e1
  go_enter Tryz.func43, Tryz.ntmps43
  go_wp2_with (go_at_call 80; refine hw.mono ?_; rintro e w1 ⟨rfl, hb⟩)
  go_ret
  exact ⟨rfl, hb⟩
set_option maxRecDepth 100000 in
theorem refRecord_any (v : Value) (r : List Fld) (X : ByteArray) (hX : X.data.toList = recordL r) (w : World) (hE : Env w) (hr : W12.Rows v r w) (hlen : r.length ≤ 4611686018427387904) (hrange : ∀ f ∈ r, rangeF f) :
    Calls Tryz.prog 55 #[v] w fun e w' => e = .returned (.string X) ∧ Below w.heap.size w w' := by
  have hw := W12.refWrite_any v r w hE hr hlen hrange
  have e1 : bs (writeL r).1 = .string X := by unfold recordL at hX; rw [← hX, bs_data X]
  rw [e1] at hw
  clear hX e1
  go_enter Tryz.func55, Tryz.ntmps55
  go_wp2_with (go_at_call 87; refine hw.mono ?_; rintro e w1 ⟨rfl, hb⟩)
  go_ret
  exact ⟨rfl, hb⟩
end Go.Proofs.YtfkmgnldkmpeiaaGreatDoor.W20

namespace Go.Proofs.YtfkmgnldkmpeiaaGreatDoor.MapL
open Go Go.RowKit

variable {P : Program}

theorem checkKey_int (w : World) (b : Bool) (k : TypeId) (q : IntKind) (x : Int) (hk : P.underlying k = some (.int q)) (n : Nat) : (Instr.checkKey b (n + 1) k (.int q x)).run P w = .ok () w := by
  simp [Instr.checkKey, run_underlying hk]
theorem checkKey_str (w : World) (b : Bool) (k : TypeId) (x : ByteArray) (hk : P.underlying k = some .string) (n : Nat) : (Instr.checkKey b (n + 1) k (.string x)).run P w = .ok () w := by
  simp [Instr.checkKey, run_underlying hk]
theorem getObj_at {w : World} {b : Nat} {es : Array MapEntry} {c : Nat} (h : w.heap[b]? = some (.map es c)) : (getObj b).run P w = .ok (.map es c) w := MapKept.run_getObj_map h
theorem setObj_last (w : World) (es : Array MapEntry) (c : Nat) (o' : Obj) : (setObj w.heap.size o').run P (w.alloc (.map es c)) = .ok () (w.alloc o') := by
  simp only [setObj, Sem.run]
  have h1 : (w.alloc (.map es c)).heap[w.heap.size]? = some (.map es c) := by show (w.heap.push _)[w.heap.size]? = _; simp
  rw [h1]
  show Result.ok () ({ w.alloc (.map es c) with heap := (w.heap.push (.map es c)).setIfInBounds w.heap.size o' } : World) = _
  have hp : (w.heap.push (.map es c)).setIfInBounds w.heap.size o' = w.heap.push o' := by apply Array.toList_inj.1; simp
  rw [hp]
  rfl
theorem findKey_none (w : World) (k : TypeId) (d : TypeDesc) (hk : P.underlying k = some d) (key : Value) (es : List MapEntry) (h : Instr.findNow d key es 0 = some none) : (Instr.findKey k key es).run P w = .ok none w := by
  simp [Instr.findKey, run_underlying hk, h]
theorem findKey_some (w : World) (k : TypeId) (d : TypeDesc) (hk : P.underlying k = some d) (key : Value) (es : List MapEntry) (r : Nat × Value) (h : Instr.findNow d key es 0 = some (some r)) : (Instr.findKey k key es).run P w = .ok (some r) w := by
  simp [Instr.findKey, run_underlying hk, h]

/-- A NEW KEY (an integer) into the map that is the last block. -/
theorem run_insert_int (t k e : TypeId) (q : IntKind) (ht : P.underlying t = some (.map k e)) (hk : P.underlying k = some (.int q)) (w : World) (es : Array MapEntry) (c : Nat) (x : Int) (v : Value) (hno : Instr.findNow (.int q) (.int q x) es.toList 0 = some none) :
    (Instr.mapUpdate t (.map (some w.heap.size)) (.int q x) v).run P (w.alloc (.map es c)) = .ok () (w.alloc (.map (es.push { key := .int q x, val := v, born := c }) (c + 1))) := by
  have h1 : (w.alloc (.map es c)).heap[w.heap.size]? = some (.map es c) := by show (w.heap.push _)[w.heap.size]? = _; simp
  have hc := checkKey_int (P := P) (w.alloc (.map es c)) false k q x hk 9999
  simp [Instr.mapUpdate, run_underlying ht, getObj_at h1, hc, findKey_none _ k _ hk _ _ hno, Result.andThen, setObj_last]
theorem run_insert_str (t k e : TypeId) (ht : P.underlying t = some (.map k e)) (hk : P.underlying k = some .string) (w : World) (es : Array MapEntry) (c : Nat) (x : ByteArray) (v : Value) (hno : Instr.findNow .string (.string x) es.toList 0 = some none) :
    (Instr.mapUpdate t (.map (some w.heap.size)) (.string x) v).run P (w.alloc (.map es c)) = .ok () (w.alloc (.map (es.push { key := .string x, val := v, born := c }) (c + 1))) := by
  have h1 : (w.alloc (.map es c)).heap[w.heap.size]? = some (.map es c) := by show (w.heap.push _)[w.heap.size]? = _; simp
  have hc := checkKey_str (P := P) (w.alloc (.map es c)) false k x hk 9999
  simp [Instr.mapUpdate, run_underlying ht, getObj_at h1, hc, findKey_none _ k _ hk _ _ hno, Result.andThen, setObj_last]

/-- 'm[x]': the element that is found, or the element type's zero. -/
theorem run_lookup_int (t k e : TypeId) (q : IntKind) (ht : P.underlying t = some (.map k e)) (hk : P.underlying k = some (.int q)) (w : World) (b : Nat) (es : Array MapEntry) (c : Nat) (hb : w.heap[b]? = some (.map es c)) (x : Int) (r : Option (Nat × Value)) (hf : Instr.findNow (.int q) (.int q x) es.toList 0 = some r)
    (z : Value) (hz : (zeroValue e).run P w = .ok z w) :
    (Instr.lookup t (.map (some b)) (.int q x) false).run P w = .ok ((r.map (·.2)).getD z) w := by
  have hc := checkKey_int (P := P) w es.isEmpty k q x hk 9999
  cases r with
  | none => simp [Instr.lookup, run_underlying ht, getObj_at hb, hc, findKey_none _ k _ hk _ _ hf, hz, Result.andThen]
  | some r => simp [Instr.lookup, run_underlying ht, getObj_at hb, hc, findKey_some _ k _ hk _ _ r hf, Result.andThen]
end Go.Proofs.YtfkmgnldkmpeiaaGreatDoor.MapL
