/-
  Walks of layer 12: Read. Conditions: the library's error values and its table; the text is within Go's own limit.
  Walks of layer 12: Check. Conditions: the list's cells hold the fields.
-/
import Derived.Test.YtfkmgnldkmpeiaaGreatDoorGah
import Derived.Test.YtfkmgnldkmpeiaaGreatDoorGaf

namespace Go.Proofs.YtfkmgnldkmpeiaaGreatDoor.W12
open Go Go.RowKit P12 Go.Sort
open Dig hiding By

theorem cellsF1_len (f : Fld) : (cellsF1 f).length = 4 := rfl
theorem cellsF1_one (f : Fld) : ∀ v ∈ cellsF1 f, v.oneCell' = true := by
  intro v hv
  unfold cellsF1 at hv
  simp only [List.mem_cons, List.mem_nil_iff, or_false] at hv
  rcases hv with rfl | rfl | rfl | rfl <;> rfl
theorem cellsF_get : ∀ (L : List Fld) (t : Nat), t < L.length * 4 → (cellsF L)[t]? = some ((cellsF1 (L.getD (t / 4) zeroF))[t % 4]!)
  | [], t, h => by simp at h
  | f :: L, t, h => by
    have e : cellsF (f :: L) = cellsF1 f ++ cellsF L := by simp [cellsF]
    rw [e]
    by_cases ht : t < 4
    · rw [List.getElem?_append_left (by rw [cellsF1_len]; exact ht), show t / 4 = 0 by omega, show t % 4 = t by omega]
      have : t = 0 ∨ t = 1 ∨ t = 2 ∨ t = 3 := by omega
      rcases this with rfl | rfl | rfl | rfl <;> rfl
    · rw [List.getElem?_append_right (by rw [cellsF1_len]; omega), cellsF1_len, cellsF_get L (t - 4) (by simp at h; omega)]
      have e1 : t / 4 = (t - 4) / 4 + 1 := by omega
      have e2 : t % 4 = (t - 4) % 4 := by omega
      rw [e1, e2]
      rfl
theorem getD_toArray (L : List Fld) (i : Nat) (h : i < L.length) : L.toArray[i]! = L.getD i zeroF := by
  rw [getElem!_pos L.toArray i (by simpa using h)]
  simp [List.getD, h]
theorem holdsK_own {w : World} {B g n cap : Nat} {L : List Fld} (h : w.ownsRow B 54 4 (.slice (some ⟨g, 0, none⟩) n cap) L.length (cellsF L)) : HoldsK cellsF1 4 w g 0 L.toArray := by
  intro t ht
  rw [size_flatK] at ht
  rw [get_flatK _ _ _ _ ht]
  have ht' : t < L.length * 4 := by simpa using ht
  rcases h.2 with ⟨h1, h2⟩ | ⟨g', cap', cur, hv, hg, hb, h1, h2, h3, h4⟩
  · rw [h2] at ht'; omega
  · injection hv with e1 e2 e3
    injection e1 with e1
    injection e1 with e1
    subst e1
    refine ⟨?_, by simp [World.frozen?, hb]⟩
    rw [Nat.zero_add, Lib.cell_of_heap hb, ← Array.getElem?_toList]
    have : (cur.toList.take (L.length * 4))[t]? = cur.toList[t]? := List.getElem?_take_of_lt ht'
    rw [← this, h4, cellsF_get L t ht', getD_toArray L (t / 4) (by omega)]
    rfl

/-- A list of fields, held by a slice. -/
def Rows (v : Value) (l : List Fld) (w : World) : Prop :=
  ∃ o c, v = .slice o l.length c ∧ (l = [] ∨ ∃ g off, o = some ⟨g, off, none⟩ ∧ ∀ (j : Nat) (f : Fld), l[j]? = some f → w.cell? ⟨g, off + j * 4, none⟩ = some (bs f.name) ∧ w.cell? ⟨g, off + j * 4 + 1, none⟩ = some (.bool f.text) ∧ w.cell? ⟨g, off + j * 4 + 2, none⟩ = some (.int .i64 f.n) ∧ w.cell? ⟨g, off + j * 4 + 3, none⟩ = some (bs f.s))
theorem Rows.keep {v : Value} {l : List Fld} {w w' : World} (h : Rows v l w) (hb : RowKit.Below w.heap.size w w') : Rows v l w' := by
  obtain ⟨o, c, h1, h2⟩ := h
  refine ⟨o, c, h1, ?_⟩
  rcases h2 with h2 | ⟨g, off, h2, h3⟩
  · exact .inl h2
  · refine .inr ⟨g, off, h2, fun j f hj => ?_⟩
    obtain ⟨a, b, c, d⟩ := h3 j f hj
    exact ⟨keep_cell hb a, keep_cell hb b, keep_cell hb c, keep_cell hb d⟩
theorem rows_nil (w : World) : Rows (.slice none 0 0) [] w := ⟨none, 0, rfl, .inl rfl⟩
theorem rows_holds {w : World} {g cap : Nat} {d : Array Fld} (h : HoldsK cellsF1 4 w g 0 d) : Rows (.slice (some ⟨g, 0, none⟩) d.size cap) d.toList w := by
  refine ⟨some ⟨g, 0, none⟩, cap, by simp, .inr ⟨g, 0, rfl, fun j f hj => ?_⟩⟩
  have hlt : j < d.size := by
    have := (List.getElem?_eq_some_iff.1 hj).1
    simpa using this
  have hf : d[j]! = f := by
    rw [getElem!_pos d j hlt]
    have : d[j]? = some f := by simpa using hj
    rw [Array.getElem?_eq_getElem hlt] at this
    exact Option.some.inj this
  have h0 := (h.cell (i := j) (c := 0) hlt (by decide)).1
  have h1 := (h.cell (i := j) (c := 1) hlt (by decide)).1
  have h2 := (h.cell (i := j) (c := 2) hlt (by decide)).1
  have h3 := (h.cell (i := j) (c := 3) hlt (by decide)).1
  rw [hf] at h0 h1 h2 h3
  exact ⟨h0, h1, h2, h3⟩
theorem sorted_is {L : List Fld} {d' : Array Fld} (hd : Dst L) (hp : PermIn 0 L.toArray.size L.toArray d') (hs : SortedIn (ltOf cmpF) 0 L.toArray.size d') : d'.toList = sortL L := by
  obtain ⟨h1, _, h3⟩ := hp
  have hsz : d'.size = L.length := by simpa using h1
  have e1 : (d'.extract 0 L.toArray.size).toList = d'.toList := by
    rw [← h1]; simp
  have e2 : (L.toArray.extract 0 L.toArray.size).toList = L := by simp
  rw [e1, e2] at h3
  refine sort_is hd h3.symm ?_
  rw [List.pairwise_iff_getElem]
  intro i j hi hj hij
  have hi' : i < d'.size := by simpa using hi
  have hj' : j < d'.size := by simpa using hj
  have := hs i j (Nat.zero_le _) hij (by simp; omega)
  rw [ltOf_cmpF, getElem!_pos d' i hi', getElem!_pos d' j hj'] at this
  simpa using this
theorem below_sorted {B : Nat} {w0 w : World} {g n : Nat} {d : Array Fld} {os : Array Obj} (h : RowKit.Below B w0 w) (hg : B ≤ g) (hBw : B ≤ w.heap.size) : RowKit.Below B w0 (sortWorldK cellsF1 4 w g 0 n d os) := by
  have h1 : RowKit.Below B w0 (putRowK cellsF1 4 (Sort.ahead w n) g 0 d) := Lib.below_putRow h hg
  have hsz : w.heap.size ≤ (putRowK cellsF1 4 (Sort.ahead w n) g 0 d).heap.size := by simp [putRowK, putRow, mapBlock, Sort.ahead]
  refine ⟨h1.os, h1.tape, h1.output, ?_, fun i hi => ?_⟩
  · have := h1.size
    show w0.heap.size ≤ (_ ++ os).size
    rw [Array.size_append]
    omega
  · rw [← h1.block i hi]
    show ((putRowK cellsF1 4 (Sort.ahead w n) g 0 d).heap ++ os)[i]? = _
    rw [Array.getElem?_append_left (by omega)]
theorem foldP_length : ∀ (ps : List By) (L : List Fld), (foldP L ps).2 = 0 → (foldP L ps).1.length = L.length + ps.length
  | [], L, _ => rfl
  | p :: ps, L, h => by
    unfold foldP at h ⊢
    split
    · rename_i h1
      rw [if_pos h1] at h
      exact absurd h h1
    · rename_i h1
      rw [if_neg h1] at h
      rw [foldP_length ps _ h]
      simp; omega
theorem toList_ne (s : ByteArray) (h : 0 < s.size) : s.data.toList ≠ [] := by
  intro e
  have := size_data s
  rw [e] at this
  simp at this
  omega

set_option maxHeartbeats 3200000 in
set_option maxRecDepth 100000 in
theorem Read_any (text : ByteArray) (w : World) (hE : Env w) (htext : text.size ≤ 140737488355328) :
    Calls Tryz.prog 18 #[.string text] w fun e w' => ∃ v, e = .returned (.tuple #[v, .int .i64 (readL text.data.toList).2]) ∧ Rows v (readL text.data.toList).1 w' ∧ RowKit.Below w.heap.size w w' := by
  by_cases h0 : text.size = 0
  · have hemp := toList_nil text h0
    have HN := Lib.hid (show readL text.data.toList = ([], 0) by rw [empty_list text h0]; rfl)
    rw [HN.out]
    clear h0
    go_enter Tryz.func18, Tryz.ntmps18
    go_wp2_with fail
    go_ret2
    exact ⟨_, rfl, rows_nil _, RowKit.Below.refl _ _⟩
  · have hp : 0 < text.size := by omega
    have hemp := toList_cons text hp
    have hne := toList_ne text hp
    have hrd : readL text.data.toList = (sortL (foldP [] (partsL 38 text.data.toList)).1, (foldP [] (partsL 38 text.data.toList)).2) := by unfold readL; rw [if_neg hne]
    have hmm := @run_makeMap Tryz.prog
    obtain ⟨W3, hW3⟩ : ∃ W3, W3 = ((w.alloc (.cells #[.slice none 0 0] 26)).alloc (.map #[] 0)).alloc (.cells #[.map (some (w.heap.size + 1))] 98) := ⟨_, rfl⟩
    have hS : St w.heap.size w.heap.size (w.heap.size + 1 + 1) (w.heap.size + 1) [] W3 := by
      have h1 := heap_new w (.cells #[.slice none 0 0] 26)
      have h3 := heap_new ((w.alloc (.cells #[.slice none 0 0] 26)).alloc (.map #[] 0)) (.cells #[.map (some (w.heap.size + 1))] 98)
      have hs := seen_made (w.alloc (.cells #[.slice none 0 0] 26))
      rw [World.size_alloc] at hs
      rw [World.size_alloc, World.size_alloc] at h3
      have hk1 : RowKit.Below (w.alloc (.cells #[.slice none 0 0] 26)).heap.size (w.alloc (.cells #[.slice none 0 0] 26)) W3 := by rw [hW3]; exact below_then (below_alloc _ _) (below_alloc _ _)
      refine ⟨⟨.slice none 0 0, ?_, World.ownsRow_nil _ _ _ _⟩, by rw [hW3]; exact h3, by rw [hW3]; exact hs.keep (below_alloc _ _), Nat.le_refl _, by omega, by omega, by omega, by omega⟩
      rw [hk1.block _ (by simp)]
      exact h1
    have hB3 : RowKit.Below w.heap.size w W3 := by rw [hW3]; exact below_then (below_alloc _ _) (below_then (below_alloc _ _) (below_alloc _ _))
    have hcon := parts_any w w.heap.size (w.heap.size + 1 + 1) (w.heap.size + 1) text W3 hE hB3 hS htext
    have hok := foldP_ok (partsL 38 text.data.toList) [] (by simp) (by simp) List.Pairwise.nil
    have hfl := foldP_length (partsL 38 text.data.toList) []
    have hpne := partsL_ne 38 text.data.toList
    unfold PartsPost at hcon
    rw [hrd]
    rw [hW3] at hcon
    have hB3' := hB3
    rw [hW3] at hB3'
    obtain ⟨L, E, hLE⟩ : ∃ L E, foldP [] (partsL 38 text.data.toList) = (L, E) := ⟨_, _, rfl⟩
    rw [hLE] at hcon hok hfl ⊢
    simp only at hcon hok hfl ⊢
    have HOK := Lib.hid hok
    have HFL := Lib.hid hfl
    have HPN := Lib.hid hpne
    have HCON := Lib.hid hcon
    have hbad : E ≠ 0 → L = [] := fun h => by
      have := foldP_bad (partsL 38 text.data.toList) [] (by rw [hLE]; exact h)
      rw [hLE] at this
      exact this
    have HBAD := Lib.hid hbad
    clear hLE hrd hok hfl hpne hcon hne h0 hW3 hS hB3 hbad
    by_cases hE0 : E = 0
    · subst hE0
      go_enter Tryz.func18, Tryz.ntmps18
      go_wp2_with (go_at_call 47; refine HCON.out.mono ?_; rintro e w2 ⟨rfl, hb2, hS2⟩; refine Hid.out ?_)
      refine Lib.hid ?_
      have hS3 := hS2 trivial
      obtain ⟨v, x1, hown⟩ := hS3.out
      have hlen : 1 ≤ L.length := by
        have h1 := HFL.out trivial
        have h2 : (partsL 38 text.data.toList).length ≠ 0 := fun h => HPN.out (List.length_eq_zero_iff.1 h)
        simp at h1
        omega
      obtain ⟨g, cap, rfl, hgB, hgw⟩ : ∃ g cap, v = .slice (some ⟨g, 0, none⟩) L.length cap ∧ w.heap.size ≤ g ∧ g < w2.heap.size := by
        rcases hown.2 with ⟨h1, h2⟩ | ⟨g, cap, cur, h1, h2, h3, _⟩
        · omega
        · exact ⟨g, cap, h1, h2, lt_of_block h3⟩
      have hH := holdsK_own hown
      have hgne : g ≠ w.heap.size := by
        intro e
        rcases hown.2 with ⟨h1, h2⟩ | ⟨g', cap', cur, hv, hg, hb, _⟩
        · omega
        · injection hv with e1 e2 e3
          injection e1 with e1
          injection e1 with e1
          rw [← e1, e, x1] at hb
          simp at hb
      have hB2 := hB3'.trans hb2
      have hbw2 : w.heap.size ≤ w2.heap.size := hB2.size
      have hsort := AnyQ.slices_SortFunc Tryz.sortF 4 Tryz.isAgg54 Tryz.sizeOf54 cellsF1 cellsF1_len cellsF1_one cmpF swo_cmpF 52 #[] g 0 cap L.toArray w2 (enters_of Tryz.func52 (by kernel_rfl) rfl) (lays_closure g 0 L.toArray.size w2) hH hgw (by simp; have := HOK.out.1; omega)
      rw [List.size_toArray] at hsort
      change Calls Tryz.prog 51 _ _ _ at hsort
      have c1 := cell_of_one x1
      have HS := Lib.hid hsort
      have HH := Lib.hid hH
      have hx1 := Lib.hid x1
      clear hsort hH hS2 hS3 hown x1
      go_wp2_with (go_at_call 51; refine HS.out.mono ?_; rintro e w3 ⟨rfl, d', n, os, hperm, hsrt, rfl⟩; refine Hid.out ?_)
      refine Lib.hid ?_
      have hd := sorted_is HOK.out.2.2 (by simpa using hperm) (by simpa using hsrt)
      have hsz : d'.size = L.length := by have := hperm.1; simpa using this
      have hH3 := holdsK_sortWorldK_c cellsF1 4 w2 g 0 L.toArray d' n os HH.out hgw (by simpa using hsz)
      have hrows := rows_holds (cap := cap) hH3
      rw [hd, hsz] at hrows
      have hB4 := below_sorted (n := n) (d := d') (os := os) hB2 hgB hbw2
      have c2 : (sortWorldK cellsF1 4 w2 g 0 n d' os).cell? ⟨w.heap.size, 0, none⟩ = some (.slice (some ⟨g, 0, none⟩) L.length cap) := by
        have h1 := cell?_putRowK_other cellsF1 4 (Sort.ahead w2 n) g 0 d' ⟨w.heap.size, 0, none⟩ (Ne.symm hgne)
        have hlt := lt_of_block hx1.out
        have h2 : (sortWorldK cellsF1 4 w2 g 0 n d' os).cell? ⟨w.heap.size, 0, none⟩ = (putRowK cellsF1 4 (Sort.ahead w2 n) g 0 d').cell? ⟨w.heap.size, 0, none⟩ := by
          exact cell?_grow _ os _ (by simp [putRowK, putRow, mapBlock, Sort.ahead]; exact hlt)
        rw [h2, h1]
        exact c1
      have HRW := Lib.hid hrows
      generalize sortWorldK cellsF1 4 w2 g 0 n d' os = W4 at *
      clear hperm hsrt hrows hd hH3 hsz
      go_wp2_with fail
      go_ret2
      exact ⟨_, rfl, HRW.out, hB4⟩
    · have hEb : (E == 0) = false := by rw [beq_eq_false_iff_ne]; exact hE0
      obtain rfl := HBAD.out hE0
      clear hE0
      go_enter Tryz.func18, Tryz.ntmps18
      go_wp2_with (go_at_call 47; refine HCON.out.mono ?_; rintro e w2 ⟨rfl, hb2, hS2⟩)
      go_ret2
      exact ⟨_, rfl, rows_nil _, hB3'.trans hb2⟩
end Go.Proofs.YtfkmgnldkmpeiaaGreatDoor.W12

namespace Go.Proofs.YtfkmgnldkmpeiaaGreatDoor.W12
open Go Go.RowKit P12

theorem chk_bad {p : Option By} {f : Fld} {r : List Fld} (h : fieldL f ≠ 0) : chk p (f :: r) = fieldL f := by unfold chk; rw [if_pos h]
theorem chk_none {f : Fld} {r : List Fld} (h : fieldL f = 0) : chk none (f :: r) = chk (some f.name) r := by conv => lhs; unfold chk; rw [if_neg (by simp [h])]
theorem chk_some {q : By} {f : Fld} {r : List Fld} (h : fieldL f = 0) : chk (some q) (f :: r) = if f.name ≤ q then 123 else chk (some f.name) r := by conv => lhs; unfold chk; rw [if_neg (by simp [h])]
/-- The name ahead of the field k. -/
def prevN (r : List Fld) (k : Nat) : Option By := if k = 0 then none else (r[k - 1]?).map (·.name)

set_option maxHeartbeats 3200000 in
set_option maxRecDepth 100000 in
theorem Check_any (v : Value) (r : List Fld) (w : World) (hr : Rows v r w) (hlen : r.length ≤ 4611686018427387904) :
    Calls Tryz.prog 103 #[v] w fun e w' => e = .returned (.int .i64 (checkL r)) ∧ Below w.heap.size w w' := by
  obtain ⟨o, c, rfl, hcells⟩ := hr
  by_cases h16 : 16 < r.length
  · have HV := Lib.hid (show checkL r = 120 by unfold checkL; rw [if_pos h16])
    have h16' : (16 : Int) < (r.length : Int) := by omega
    rw [HV.out]
    clear hcells
    go_enter Tryz.func103, Tryz.ntmps103
    go_wp2_with fail
    go_ret
    exact ⟨rfl, Below.refl _ _⟩
  · have HV := Lib.hid (show checkL r = chk none r by unfold checkL; rw [if_neg h16])
    have h16' : ¬ (16 : Int) < (r.length : Int) := by omega
    obtain ⟨R, hR⟩ : ∃ R, R = checkL r := ⟨_, rfl⟩
    rw [← hR]
    have HR := Lib.hid hR
    clear hR
    obtain ⟨N, hN⟩ : ∃ N, N = r.length := ⟨_, rfl⟩
    rw [← hN] at h16 h16' hlen ⊢
    have HN := Lib.hid hN
    clear hN
    go_enter Tryz.func103, Tryz.ntmps103
    go_wp2_with fail
    go_loopw [11] (fun i wr => ∃ k : Nat, k ≤ N ∧ i = .int .i64 k ∧ Below w.heap.size w wr ∧ R = chk (prevN r k) (r.drop k)) (fun i _ => N - (intOf i).toNat)
    case atStart => exact ⟨0, by omega, rfl, Below.refl _ _, by rw [HR.out, HV.out]; rfl⟩
    case round =>
      obtain ⟨k, hk, rfl, hB, hres⟩ := hrel
      have hBs := hB.size
      by_cases hlt : k < N
      · have hkr : k < r.length := by rw [← HN.out]; exact hlt
        obtain ⟨f, hf⟩ : ∃ f, r[k]? = some f := ⟨r[k]'hkr, List.getElem?_eq_getElem hkr⟩
        have hdrop : r.drop k = f :: r.drop (k + 1) := by
          rw [List.drop_eq_getElem_cons hkr]
          congr 1
          rw [List.getElem?_eq_getElem hkr] at hf
          exact Option.some.inj hf
        rw [hdrop] at hres
        obtain ⟨g, off, rfl, hcl⟩ := hcells.resolve_left (by intro e; rw [e] at hkr; simp at hkr)
        obtain ⟨c0, c1, c2, c3⟩ := hcl k f hf
        replace c0 := keep_cell hB c0
        replace c1 := keep_cell hB c1
        replace c2 := keep_cell hB c2
        replace c3 := keep_cell hB c3
        obtain ⟨a, ha⟩ : ∃ a : ByteArray, a = ⟨f.name.toArray⟩ := ⟨_, rfl⟩
        obtain ⟨s, hs⟩ : ∃ s : ByteArray, s = ⟨f.s.toArray⟩ := ⟨_, rfl⟩
        have had : a.data.toList = f.name := by rw [ha]
        have hsd : s.data.toList = f.s := by rw [hs]
        rw [show bs f.name = .string a by rw [ha]] at c0
        rw [show bs f.s = .string s by rw [hs]] at c3
        have hfe : f = ⟨a.data.toList, f.text, f.n, s.data.toList⟩ := by rw [had, hsd]
        have hcon := fun W => may_any a s f.text f.n W
        rw [← hfe] at hcon
        clear ha hs hsd hfe
        generalize f.text = tx at c1 hcon
        generalize f.n = n at c2 hcon
        have hlt' : (k : Int) < (N : Int) := by omega
        have hb1 := below_alloc wr (.cells #[.string a, .bool tx, .int .i64 n, .string s] 54)
        have hh := heap_new wr (.cells #[.string a, .bool tx, .int .i64 n, .string s] 54)
        have y0 := Lib.cell_of_heap hh 0
        have y1 := Lib.cell_of_heap hh 1
        have y2 := Lib.cell_of_heap hh 2
        have y3 := Lib.cell_of_heap hh 3
        clear hh
        have HF := Lib.hid hf
        have HRES := Lib.hid hres
        have HCL := Lib.hid hcl
        have HAD := Lib.hid had
        clear hf hres hdrop hcells had hcl
        by_cases he : fieldL f = 0
        · rw [he] at hcon
          have hnx : prevN r (k + 1) = some f.name := by unfold prevN; rw [if_neg (by omega)]; simp [HF.out]
          have HNX := Lib.hid hnx
          have HE := Lib.hid he
          clear hnx he
          by_cases hk0 : k = 0
          · subst hk0
            simp only [Nat.zero_mul, Nat.add_zero] at c0 c1 c2 c3
            have hstep : R = chk (prevN r 1) (r.drop 1) := by
              rw [HRES.out, HNX.out]
              exact chk_none HE.out
            have HST := Lib.hid hstep
            clear hstep
            go_wp2_with (go_at_call 130; refine (hcon _).mono ?_; rintro e w2 ⟨rfl, hb2⟩; replace y0 := keep_cell hb2 y0; refine Hid.out ?_)
            refine Lib.hid ?_
            have hB2 := hB.trans ((below_then hb1 hb2).mono hBs)
            go_wp2_with fail
            go_quiet (fail)
            go_wp2_with fail
            go_roundw
            case rel => exact ⟨1, by omega, by go_num, hB2.trans (below_drewN _ _ |>.mono (by have := hB2.size; omega)), HST.out⟩
            case measure => simp [intOf]; omega
          · obtain ⟨p, rfl⟩ : ∃ p, k = p + 1 := ⟨k - 1, by omega⟩
            have hpr : p < r.length := by omega
            obtain ⟨f', hf'⟩ : ∃ f', r[p]? = some f' := ⟨r[p]'hpr, List.getElem?_eq_getElem hpr⟩
            have d0 := keep_cell hB (HCL.out p f' hf').1
            obtain ⟨b, hb⟩ : ∃ b : ByteArray, b = ⟨f'.name.toArray⟩ := ⟨_, rfl⟩
            have hbd : b.data.toList = f'.name := by rw [hb]
            rw [show bs f'.name = .string b by rw [hb]] at d0
            replace d0 := keep_cell hb1 d0
            have hpv : prevN r (p + 1) = some f'.name := by unfold prevN; rw [if_neg (by omega)]; simp [hf']
            have hp0 : (0 : Int) < (p : Int) + 1 := by omega
            have hstep : R = if f.name ≤ f'.name then 123 else chk (prevN r (p + 1 + 1)) (r.drop (p + 1 + 1)) := by
              rw [HRES.out, hpv, chk_some HE.out, HNX.out]
            have k1 : a.toList = f.name := by rw [Lib.toList_data]; exact HAD.out
            have k2 : b.toList = f'.name := by rw [Lib.toList_data]; exact hbd
            have HST := Lib.hid hstep
            have hpN : (p : Int) < (N : Int) := by omega
            clear hb hbd hpv hstep hf' hk0
            by_cases hle : f.name ≤ f'.name
            · have hv : R = 123 := by rw [HST.out, if_pos hle]
              have HVV := Lib.hid hv
              have hz : (Op.bytesLess a.toList b.toList || a.toList == b.toList) = true := by rw [k1, k2, bytesLeq]; simpa using hle
              have hz2 : Op.bytesLess a.toList b.toList = true ∨ (a.toList == b.toList) = true := by simpa using hz
              clear k1 k2 hle hv hz
              rcases hz2 with hz | hz
              all_goals
                go_wp2_with (go_at_call 130; refine (hcon _).mono ?_; rintro e w2 ⟨rfl, hb2⟩; replace y0 := keep_cell hb2 y0; replace d0 := keep_cell hb2 d0; refine Hid.out ?_)
                refine Lib.hid ?_
                have hB2 := hB.trans ((below_then hb1 hb2).mono hBs)
                go_wp2_with fail
                go_quiet (fail)
                go_wp2_with fail
                go_ret
                exact ⟨by rw [HVV.out]; rfl, hB2.trans (below_drewN _ _ |>.mono (by have := hB2.size; omega))⟩
            · have hv : R = chk (prevN r (p + 1 + 1)) (r.drop (p + 1 + 1)) := by rw [HST.out, if_neg hle]
              have HVV := Lib.hid hv
              have hz : (Op.bytesLess a.toList b.toList || a.toList == b.toList) = false := by rw [k1, k2, bytesLeq]; simpa using hle
              obtain ⟨hz1, hz2⟩ := Bool.or_eq_false_iff.1 hz
              clear k1 k2 hle hv hz
              go_wp2_with (go_at_call 130; refine (hcon _).mono ?_; rintro e w2 ⟨rfl, hb2⟩; replace y0 := keep_cell hb2 y0; replace d0 := keep_cell hb2 d0; refine Hid.out ?_)
              refine Lib.hid ?_
              have hB2 := hB.trans ((below_then hb1 hb2).mono hBs)
              go_wp2_with fail
              go_quiet (fail)
              go_wp2_with fail
              go_roundw
              case rel => exact ⟨p + 1 + 1, by omega, by go_num, hB2.trans (below_drewN _ _ |>.mono (by have := hB2.size; omega)), HVV.out⟩
              case measure => simp [intOf]; omega
        · obtain ⟨E, hE⟩ : ∃ E, E = fieldL f := ⟨_, rfl⟩
          have hv : R = E := by rw [HRES.out, chk_bad he, hE]
          rw [← hE] at hcon he
          have hEb : (E == 0) = false := by rw [beq_eq_false_iff_ne]; exact he
          have HVV := Lib.hid hv
          clear hv hE he
          go_wp2_with (go_at_call 130; refine (hcon _).mono ?_; rintro e w2 ⟨rfl, hb2⟩)
          go_ret
          exact ⟨by rw [HVV.out]; rfl, hB.trans ((below_then hb1 hb2).mono hBs)⟩
      · obtain rfl : k = N := by omega
        have hv : R = 0 := by
          rw [hres, List.drop_eq_nil_of_le (by rw [← HN.out]; exact Nat.le_refl _)]
          rfl
        have HVV := Lib.hid hv
        clear hv hres
        go_wp2_with fail
        go_ret
        exact ⟨by rw [HVV.out]; rfl, hB⟩
end Go.Proofs.YtfkmgnldkmpeiaaGreatDoor.W12
