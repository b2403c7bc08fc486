/-
  Walks of layer 12: slices.IndexFunc at fields, at, Get, slices.Clone. Conditions: the list's cells hold the fields; it is within Go's own limit.
-/
import Derived.Test.YtmcnblibnbkfjaaGreatDoorRowA
namespace Go.Proofs.YtmcnblibnbkfjaaGreatDoor.W12
open Go Go.RowKit P12

/-- The first index that a predicate takes; -1: none. -/
def idxL (p : Fld → Bool) : List Fld → Int
  | [] => -1
  | f :: l => if p f = true then 0 else if idxL p l = -1 then -1 else idxL p l + 1
theorem idxL_ge (p : Fld → Bool) : ∀ l : List Fld, -1 ≤ idxL p l
  | [] => by simp [idxL]
  | f :: l => by
    have := idxL_ge p l
    unfold idxL
    split
    · omega
    · split <;> omega
theorem idxL_lt (p : Fld → Bool) : ∀ l : List Fld, idxL p l < l.length
  | [] => by simp [idxL]
  | f :: l => by
    have := idxL_lt p l
    unfold idxL
    simp only [List.length_cons]
    split
    · omega
    · split <;> omega
theorem find_idx (k : By) : ∀ l : List Fld, findI k l = idxL (fun f => decide (f.name = k)) l
  | [] => rfl
  | f :: l => by
    unfold findI idxL
    rw [find_idx k l]
    by_cases h : f.name = k <;> simp [h]
theorem idxL_hit {p : Fld → Bool} : ∀ {l : List Fld} {i : Nat}, idxL p l = (i : Int) → ∃ f, l[i]? = some f ∧ p f = true ∧ ∀ (j : Nat) (g : Fld), j < i → l[j]? = some g → p g = false
  | [], i, h => by simp only [idxL] at h; omega
  | f :: l, i, h => by
    unfold idxL at h
    by_cases hp : p f = true
    · rw [if_pos hp] at h
      obtain rfl : i = 0 := by omega
      exact ⟨f, rfl, hp, fun j g hj => by omega⟩
    · rw [if_neg hp] at h
      have hge := idxL_ge p l
      by_cases e : idxL p l = -1
      · rw [if_pos e] at h; omega
      · rw [if_neg e] at h
        obtain ⟨m, rfl⟩ : ∃ m, i = m + 1 := ⟨i - 1, by omega⟩
        obtain ⟨g, h1, h2, h3⟩ := idxL_hit (p := p) (l := l) (i := m) (by omega)
        refine ⟨g, by simpa using h1, h2, fun j g' hj hg' => ?_⟩
        match j with
        | 0 => simp at hg'; subst hg'; simpa using hp
        | j + 1 => exact h3 j g' (by omega) (by simpa using hg')
theorem idxL_none {p : Fld → Bool} : ∀ {l : List Fld}, idxL p l = -1 → ∀ f ∈ l, p f = false
  | [], _, f, hf => by cases hf
  | f :: l, h, g, hg => by
    unfold idxL at h
    have hge := idxL_ge p l
    by_cases hp : p f = true
    · rw [if_pos hp] at h; omega
    · rw [if_neg hp] at h
      by_cases e : idxL p l = -1
      · rcases List.mem_cons.1 hg with rfl | hg
        · simpa using hp
        · exact idxL_none e g hg
      · rw [if_neg e] at h; omega
theorem idxL_skip {p : Fld → Bool} : ∀ {l : List Fld} {k : Nat}, (∀ (j : Nat) (f : Fld), j < k → l[j]? = some f → p f = false) → k ≤ l.length → idxL p l = if idxL p (l.drop k) = -1 then -1 else idxL p (l.drop k) + (k : Int)
  | l, 0, _, _ => by simp
  | [], k + 1, _, h => by simp at h
  | f :: l, k + 1, h, hk => by
    have h0 := h 0 f (by omega) rfl
    have ih := idxL_skip (p := p) (l := l) (k := k) (fun j g hj hg => h (j + 1) g (by omega) (by simpa using hg)) (by simpa using hk)
    have hge := idxL_ge p (l.drop k)
    rw [idxL, if_neg (by rw [h0]; decide), ih]
    simp only [List.drop_succ_cons]
    by_cases e : idxL p (List.drop k l) = -1
    · simp [e]
    · simp only [e, if_false]
      rw [if_neg (by omega)]
      omega

set_option maxHeartbeats 1600000 in
set_option maxRecDepth 100000 in
theorem indexFunc_full (g off c n : Nat) (l : List Fld) (q : Nat) (lb : Array Value) (eg : ∀ args w, (callFunc q args).run Tryz.prog w = .ok (.enter q args) w) (p : Fld → Bool) (w : World) (hn : l.length = n) (hm : n ≤ 4611686018427387904)
    (h1 : ∀ (j : Nat) (f : Fld), l[j]? = some f → w.cell? ⟨g, off + j * 4, none⟩ = some (bs f.name) ∧ w.cell? ⟨g, off + j * 4 + 1, none⟩ = some (.bool f.text) ∧ w.cell? ⟨g, off + j * 4 + 2, none⟩ = some (.int .i64 f.n) ∧ w.cell? ⟨g, off + j * 4 + 3, none⟩ = some (bs f.s))
    (hp : ∀ (W : World) (f : Fld), Below w.heap.size w W → f ∈ l → Calls Tryz.prog q (#[fldV f] ++ lb) W fun e w' => e = .returned (.bool (p f)) ∧ Below W.heap.size W w') :
    Calls Tryz.prog 45 #[.slice (some ⟨g, off, none⟩) n c, .func (.func q) #[] lb] w fun e w' => e = .returned (.int .i64 (idxL p l)) ∧ Below w.heap.size w w' := by
  have H1 := Lib.hid h1
  have HN := Lib.hid hn
  have HP := Lib.hid hp
  clear h1 hn hp
  go_enter Tryz.func45, Tryz.ntmps45
  go_wp2_with fail
  go_loopw [5, 8] (fun _ i wr => ∃ k : Nat, k ≤ n ∧ i = .int .i64 k ∧ Below w.heap.size w wr ∧ Hid (idxL p l = if idxL p (l.drop k) = -1 then -1 else idxL p (l.drop k) + (k : Int))) (fun _ i _ => n - (intOf i).toNat)
  case atStart => exact ⟨0, by omega, rfl, Below.refl _ _, Lib.hid (by simp)⟩
  case round =>
    obtain ⟨k, hk, rfl, hB, HF⟩ := hrel
    have hBs := hB.size
    by_cases hlt : k < n
    · obtain ⟨r, hr⟩ : ∃ r, l[k]? = some r := ⟨l[k]'(by rw [HN.out]; exact hlt), List.getElem?_eq_getElem _⟩
      obtain ⟨a0, a1, a2, a3⟩ := H1.out k r hr
      replace a0 := keep_cell hB a0
      replace a1 := keep_cell hB a1
      replace a2 := keep_cell hB a2
      replace a3 := keep_cell hB a3
      have hcon := HP.out wr r hB (List.mem_of_getElem? hr)
      have hp0 : (0 : Int) ≤ (k : Int) := by omega
      have hp1 : (k : Int) < (n : Int) := by omega
      have hdrop : l.drop k = r :: l.drop (k + 1) := by
        rw [List.drop_eq_getElem_cons (by rw [HN.out]; exact hlt)]
        congr 1
        rw [List.getElem?_eq_getElem (by rw [HN.out]; exact hlt)] at hr
        exact Option.some.inj hr
      have hF := HF.out
      rw [hdrop, idxL] at hF
      unfold fldV at hcon
      obtain ⟨nm, hnm⟩ : ∃ x, x = bs r.name := ⟨_, rfl⟩
      obtain ⟨sv, hsv⟩ : ∃ x, x = bs r.s := ⟨_, rfl⟩
      rw [← hnm] at a0 hcon
      rw [← hsv] at a3 hcon
      clear hr hdrop HF hnm hsv
      by_cases he : p r = true
      · rw [he] at hcon
        rw [if_pos he, if_neg (by decide)] at hF
        have HV := Lib.hid hF
        clear he hF
        go_wp2_with (go_at_fn q; refine hcon.mono ?_; rintro e w1 ⟨rfl, hb1⟩)
        go_ret
        exact ⟨by rw [HV.out]; simp, hB.trans (hb1.mono hBs)⟩
      · have he' : p r = false := by simpa using he
        rw [he'] at hcon
        rw [if_neg he] at hF
        have hge := idxL_ge p (l.drop (k + 1))
        have hF2 : idxL p l = if idxL p (l.drop (k + 1)) = -1 then -1 else idxL p (l.drop (k + 1)) + ((k + 1 : Nat) : Int) := by
          rw [hF]
          by_cases e : idxL p (l.drop (k + 1)) = -1
          · simp [e]
          · simp only [e, if_false]
            rw [if_neg (by omega)]
            omega
        have HV := Lib.hid hF2
        clear he he' hF hF2 hge
        go_wp2_with (go_at_fn q; refine hcon.mono ?_; rintro e w1 ⟨rfl, hb1⟩)
        go_roundw
        case rel => exact ⟨k + 1, by omega, by go_num, hB.trans (hb1.mono hBs), HV⟩
        case measure => simp [intOf]; omega
    · obtain rfl : k = n := by omega
      have hF := HF.out
      rw [List.drop_eq_nil_of_le (by rw [HN.out]; exact Nat.le_refl _)] at hF
      simp only [idxL, if_true] at hF
      have HV := Lib.hid hF
      clear hF HF
      go_wp2_with fail
      go_ret
      exact ⟨by rw [HV.out]; rfl, hB⟩
set_option maxRecDepth 100000 in
theorem indexFunc_none (o : Option Addr) (c : Nat) (q : Nat) (lb : Array Value) (w : World) :
    Calls Tryz.prog 45 #[.slice o 0 c, .func (.func q) #[] lb] w fun e w' => e = .returned (.int .i64 (-1)) ∧ Below w.heap.size w w' := by
  go_enter Tryz.func45, Tryz.ntmps45
  go_wp2_with fail
  refine wp_loop_rounds 1 ?_
  rw [rounds_succ]
  go_wp2_with fail
  go_ret
  exact ⟨rfl, Below.refl _ _⟩
theorem indexFunc_any (v : Value) (l : List Fld) (q : Nat) (lb : Array Value) (eg : ∀ args w, (callFunc q args).run Tryz.prog w = .ok (.enter q args) w) (p : Fld → Bool) (w : World) (hm : l.length ≤ 4611686018427387904) (h : Rows v l w)
    (hp : ∀ (W : World) (f : Fld), Below w.heap.size w W → f ∈ l → Calls Tryz.prog q (#[fldV f] ++ lb) W fun e w' => e = .returned (.bool (p f)) ∧ Below W.heap.size W w') :
    Calls Tryz.prog 45 #[v, .func (.func q) #[] lb] w fun e w' => e = .returned (.int .i64 (idxL p l)) ∧ Below w.heap.size w w' := by
  obtain ⟨o, c, rfl, h⟩ := h
  rcases h with rfl | ⟨g, off, rfl, h⟩
  · exact indexFunc_none o c q lb w
  · exact indexFunc_full g off c l.length l q lb eg p w rfl hm h hp

set_option maxRecDepth 100000 in
theorem atC_any (x k s : ByteArray) (t : Bool) (n : Int) (b : Nat) (W : World) (hk : W.cell? ⟨b, 0, none⟩ = some (.string k)) :
    Calls Tryz.prog 64 #[.agg #[.string x, .bool t, .int .i64 n, .string s], .pointer (some ⟨b, 0, none⟩)] W fun e w' => e = .returned (.bool (decide (x.data.toList = k.data.toList))) ∧ Below W.heap.size W w' := by
  have hk1 := keep_cell (below_alloc W (.cells #[.string x, .bool t, .int .i64 n, .string s] 33)) hk
  obtain ⟨z, hz⟩ : ∃ z, z = (x.toList == k.toList) := ⟨_, rfl⟩
  have hzd : decide (x.data.toList = k.data.toList) = z := by rw [hz, Lib.toList_data, Lib.toList_data, Bool.eq_iff_iff, decide_eq_true_iff, beq_iff_eq]
  rw [hzd]
  have hz2 := hz.symm
  clear hz hzd hk
  have hb := below_alloc W (.cells #[.string x, .bool t, .int .i64 n, .string s] 33)
  go_enter Tryz.func64, Tryz.ntmps64
  go_wp2_with fail
  go_ret
  exact ⟨rfl, hb⟩
set_option maxRecDepth 100000 in
theorem setC_any (x s : ByteArray) (t : Bool) (n : Int) (k : ByteArray) (b : Nat) (W : World) (hk : W.cell? ⟨b, 0, none⟩ = some (.string k)) :
    Calls Tryz.prog 46 #[.agg #[.string x, .bool t, .int .i64 n, .string s], .pointer (some ⟨b, 0, none⟩)] W fun e w' => e = .returned (.bool (decide (k.data.toList < x.data.toList))) ∧ Below W.heap.size W w' := by
  have hk1 := keep_cell (below_alloc W (.cells #[.string x, .bool t, .int .i64 n, .string s] 33)) hk
  obtain ⟨z1, hz1⟩ : ∃ z, Op.bytesLess x.toList k.toList = z := ⟨_, rfl⟩
  obtain ⟨z2, hz2⟩ : ∃ z, (x.toList == k.toList) = z := ⟨_, rfl⟩
  have hzd : decide (k.data.toList < x.data.toList) = (!z1 && !z2) := by
    rw [← hz1, ← hz2, ← Bool.not_or, bytesLeq, Lib.toList_data, Lib.toList_data, Bool.eq_iff_iff]
    simp
  rw [hzd]
  clear hzd hk
  have hb := below_alloc W (.cells #[.string x, .bool t, .int .i64 n, .string s] 33)
  go_enter Tryz.func46, Tryz.ntmps46
  go_wp2_with fail
  go_ret
  exact ⟨rfl, hb⟩
theorem eg_at : ∀ args w, (callFunc 64 args).run Tryz.prog w = .ok (.enter 64 args) w := fun args w => by simp [go_sem]
theorem eg_set : ∀ args w, (callFunc 46 args).run Tryz.prog w = .ok (.enter 46 args) w := fun args w => by simp [go_sem]

set_option maxRecDepth 100000 in
theorem at_any (v : Value) (l : List Fld) (k : ByteArray) (w : World) (hm : l.length ≤ 4611686018427387904) (h : Rows v l w) :
    Calls Tryz.prog 43 #[v, .string k] w fun e w' => e = .returned (.int .i64 (findI k.data.toList l)) ∧ Below w.heap.size w w' := by
  have hb := below_alloc w (.cells #[.string k] 9)
  have hk := Lib.cell_of_heap (heap_new w (.cells #[.string k] 9)) 0
  have hcon := indexFunc_any v l 64 #[.pointer (some ⟨w.heap.size, 0, none⟩)] eg_at (fun f => decide (f.name = k.data.toList)) (w.alloc (.cells #[.string k] 9)) hm (h.keep hb)
    (fun W f hB _ => atC_any ⟨f.name.toArray⟩ k ⟨f.s.toArray⟩ f.text f.n w.heap.size W (keep_cell hB hk))
  rw [← find_idx] at hcon
  obtain ⟨o, c, rfl, -⟩ := h
  clear hk
  go_enter Tryz.func43, Tryz.ntmps43
  go_wp2_with (go_at_call 45; refine hcon.mono ?_; rintro e w1 ⟨rfl, hb1⟩)
  go_ret
  exact ⟨rfl, below_then hb hb1⟩

def getF (k : By) (l : List Fld) : Fld := (l.find? fun f => decide (f.name = k)).getD zeroF
theorem getF_at {k : By} : ∀ {l : List Fld} {i : Nat}, findI k l = (i : Int) → l[i]? = some (getF k l) ∧ (getF k l).name = k
  | [], i, h => by simp only [findI] at h; omega
  | f :: l, i, h => by
    unfold findI at h
    by_cases hp : f.name = k
    · rw [if_pos hp] at h
      obtain rfl : i = 0 := by omega
      simp [getF, hp]
    · rw [if_neg hp] at h
      have hge := findI_ge k l
      by_cases e : findI k l = -1
      · rw [if_pos e] at h; omega
      · rw [if_neg e] at h
        obtain ⟨m, rfl⟩ : ∃ m, i = m + 1 := ⟨i - 1, by omega⟩
        obtain ⟨h1, h2⟩ := getF_at (k := k) (l := l) (i := m) (by omega)
        have e2 : getF k (f :: l) = getF k l := by simp [getF, hp]
        rw [e2]
        exact ⟨by simpa using h1, h2⟩
theorem getF_none {k : By} {l : List Fld} (h : has l k = false) : getF k l = zeroF := by
  unfold getF
  rw [List.find?_eq_none.2]
  · rfl
  · intro f hf
    have := List.any_eq_false.1 h f hf
    simpa using this
end Go.Proofs.YtmcnblibnbkfjaaGreatDoor.W12
