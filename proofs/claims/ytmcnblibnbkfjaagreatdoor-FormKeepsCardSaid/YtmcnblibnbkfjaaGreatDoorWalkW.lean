/-
  Walks of layer 12: the reference's find, and its Set at a name that is not there. Conditions: the list's cells hold the fields; it is within Go's own limit.
-/
import Derived.Test.YtmcnblibnbkfjaaGreatDoorWalkV
namespace Go.Proofs.YtmcnblibnbkfjaaGreatDoor.W12
open Go Go.RowKit P12

/-- Where a name stands first; -1: nowhere. -/
def findI (k : By) : List Fld → Int
  | [] => -1
  | f :: l => if f.name = k then 0 else if findI k l = -1 then -1 else findI k l + 1
theorem findI_ge (k : By) : ∀ l : List Fld, -1 ≤ findI k l
  | [] => by simp [findI]
  | f :: l => by
    have := findI_ge k l
    unfold findI
    split
    · omega
    · split <;> omega
theorem findI_none {k : By} : ∀ {l : List Fld}, (findI k l = -1 ↔ has l k = false)
  | [] => by simp [findI, has]
  | f :: l => by
    have := findI_ge k l
    have ih := findI_none (k := k) (l := l)
    unfold findI
    by_cases h : f.name = k
    · simp [h, has]
    · rw [if_neg h]
      have e : has (f :: l) k = has l k := by simp [has, h]
      rw [e, ← ih]
      split <;> omega
/-- Nothing ahead: the name stands first at place k, or further on. -/
theorem findI_skip {k : By} : ∀ {l : List Fld} {p : Nat}, (∀ (j : Nat) (f : Fld), j < p → l[j]? = some f → f.name ≠ k) → p ≤ l.length → findI k l = if findI k (l.drop p) = -1 then -1 else findI k (l.drop p) + (p : Int)
  | l, 0, _, _ => by simp
  | [], p + 1, _, h => by simp at h
  | f :: l, p + 1, h, hp => by
    have h0 := h 0 f (by omega) rfl
    have ih := findI_skip (k := k) (l := l) (p := p) (fun j g hj hg => h (j + 1) g (by omega) (by simpa using hg)) (by simpa using hp)
    have hge := findI_ge k (l.drop p)
    rw [findI, if_neg h0, ih]
    simp only [List.drop_succ_cons]
    by_cases e : findI k (List.drop p l) = -1
    · simp [e]
    · simp only [e, if_false]
      rw [if_neg (by omega)]
      omega

/-- A slice of fields, nil or with its capacity. -/
def RowsC (v : Value) (l : List Fld) (w : World) : Prop :=
  (v = .slice none 0 0 ∧ l = []) ∨ ∃ g off c, v = .slice (some ⟨g, off, none⟩) l.length c ∧ l.length ≤ c ∧ ∀ (j : Nat) (f : Fld), l[j]? = some f → w.cell? ⟨g, off + j * 4, none⟩ = some (bs f.name) ∧ w.cell? ⟨g, off + j * 4 + 1, none⟩ = some (.bool f.text) ∧ w.cell? ⟨g, off + j * 4 + 2, none⟩ = some (.int .i64 f.n) ∧ w.cell? ⟨g, off + j * 4 + 3, none⟩ = some (bs f.s)
theorem RowsC.rows {v : Value} {l : List Fld} {w : World} (h : RowsC v l w) : Rows v l w := by
  rcases h with ⟨rfl, rfl⟩ | ⟨g, off, c, rfl, _, hc⟩
  · exact rows_nil w
  · exact ⟨_, c, rfl, .inr ⟨g, off, rfl, hc⟩⟩
theorem RowsC.keep {v : Value} {l : List Fld} {w w' : World} (h : RowsC v l w) (hb : RowKit.Below w.heap.size w w') : RowsC v l w' := by
  rcases h with ⟨h1, h2⟩ | ⟨g, off, c, h1, h2, h3⟩
  · exact .inl ⟨h1, h2⟩
  · refine .inr ⟨g, off, c, h1, h2, fun j f hj => ?_⟩
    obtain ⟨a, b, c, d⟩ := h3 j f hj
    exact ⟨keep_cell hb a, keep_cell hb b, keep_cell hb c, keep_cell hb d⟩
theorem cellsF_at (L : List Fld) (j : Nat) (f : Fld) (h : L[j]? = some f) : (cellsF L)[j * 4]? = some (bs f.name) ∧ (cellsF L)[j * 4 + 1]? = some (.bool f.text) ∧ (cellsF L)[j * 4 + 2]? = some (.int .i64 f.n) ∧ (cellsF L)[j * 4 + 3]? = some (bs f.s) := by
  have hj : j < L.length := (List.getElem?_eq_some_iff.1 h).1
  have hg : L.getD j zeroF = f := by rw [List.getD_eq_getElem?_getD, h]; rfl
  refine ⟨?_, ?_, ?_, ?_⟩
  · rw [cellsF_get L (j * 4) (by omega), show j * 4 / 4 = j by omega, show j * 4 % 4 = 0 by omega, hg]; rfl
  · rw [cellsF_get L (j * 4 + 1) (by omega), show (j * 4 + 1) / 4 = j by omega, show (j * 4 + 1) % 4 = 1 by omega, hg]; rfl
  · rw [cellsF_get L (j * 4 + 2) (by omega), show (j * 4 + 2) / 4 = j by omega, show (j * 4 + 2) % 4 = 2 by omega, hg]; rfl
  · rw [cellsF_get L (j * 4 + 3) (by omega), show (j * 4 + 3) / 4 = j by omega, show (j * 4 + 3) % 4 = 3 by omega, hg]; rfl
theorem rowsC_own {w : World} {B : Nat} {v : Value} {L : List Fld} (h : w.ownsRow B 33 4 v L.length (cellsF L)) : RowsC v L w := by
  rcases h.2 with ⟨hv, hn⟩ | ⟨g, cap, cur, hv, _, _, hc, _⟩
  · exact .inl ⟨hv, List.length_eq_zero_iff.1 (by omega)⟩
  · refine .inr ⟨g, 0, cap, hv, hc, fun j f hj => ?_⟩
    obtain ⟨a, b, c, d⟩ := cellsF_at L j f hj
    have hc := h.cells (g := g) (by rw [hv]; rfl)
    have ha := hc _ _ a
    have hb := hc _ _ b
    have hcc := hc _ _ c
    have hd := hc _ _ d
    rw [Lib.add_plain, Nat.zero_add] at ha hb hcc hd
    rw [Nat.zero_add]
    exact ⟨ha, hb, hcc, hd⟩

set_option maxHeartbeats 1600000 in
set_option maxRecDepth 100000 in
theorem find_full (g off c n : Nat) (l : List Fld) (k : ByteArray) (w : World) (hn : l.length = n) (hm : n ≤ 4611686018427387904)
    (h1 : ∀ (j : Nat) (f : Fld), l[j]? = some f → w.cell? ⟨g, off + j * 4, none⟩ = some (bs f.name)) :
    Calls Tryz.prog 33 #[.slice (some ⟨g, off, none⟩) n c, .string k] w fun e w' => e = .returned (.int .i64 (findI k.data.toList l)) ∧ Below w.heap.size w w' := by
  have H1 := Lib.hid h1
  have HN := Lib.hid hn
  clear h1 hn
  go_enter Tryz.func33, Tryz.ntmps33
  go_wp2_with fail
  go_loopw [5] (fun i wr => ∃ p d : Nat, p ≤ n ∧ i = .int .i64 p ∧ wr = w.drewN d ∧ Hid (findI k.data.toList l = if findI k.data.toList (l.drop p) = -1 then -1 else findI k.data.toList (l.drop p) + (p : Int))) (fun i _ => n - (intOf i).toNat)
  case atStart => exact ⟨0, 0, by omega, rfl, rfl, Lib.hid (by simp)⟩
  case round =>
    obtain ⟨p, d, hp, rfl, rfl, HF⟩ := hrel
    by_cases hlt : p < n
    · obtain ⟨r, hr⟩ : ∃ r, l[p]? = some r := ⟨l[p]'(by rw [HN.out]; exact hlt), List.getElem?_eq_getElem _⟩
      have a0 := H1.out p r hr
      have hp0 : (0 : Int) ≤ (p : Int) := by omega
      have hp1 : (p : Int) < (n : Int) := by omega
      obtain ⟨b, hb⟩ : ∃ b : ByteArray, b = ⟨r.name.toArray⟩ := ⟨_, rfl⟩
      have hbd : b.data.toList = r.name := by rw [hb]
      rw [show bs r.name = .string b by rw [hb]] at a0
      have hdrop : l.drop p = r :: l.drop (p + 1) := by
        rw [List.drop_eq_getElem_cons (by rw [HN.out]; exact hlt)]
        congr 1
        rw [List.getElem?_eq_getElem (by rw [HN.out]; exact hlt)] at hr
        exact Option.some.inj hr
      have hF := HF.out
      rw [hdrop, findI] at hF
      clear hb hr hdrop HF
      by_cases he : r.name = k.data.toList
      · have hz : (b.toList == k.toList) = true := by rw [Lib.toList_data, Lib.toList_data, hbd, he]; simp
        rw [if_pos he, if_neg (by decide)] at hF
        have HV := Lib.hid hF
        clear he hbd hF
        go_wp2_with fail
        go_ret
        exact ⟨by rw [HV.out]; simp, below_drewN w d⟩
      · have hz : (b.toList == k.toList) = false := by rw [Lib.toList_data, Lib.toList_data, hbd, beq_eq_false_iff_ne]; exact he
        rw [if_neg he] at hF
        have hge := findI_ge k.data.toList (l.drop (p + 1))
        have hF2 : findI k.data.toList l = if findI k.data.toList (l.drop (p + 1)) = -1 then -1 else findI k.data.toList (l.drop (p + 1)) + ((p + 1 : Nat) : Int) := by
          rw [hF]
          by_cases e : findI k.data.toList (l.drop (p + 1)) = -1
          · simp [e]
          · simp only [e, if_false]
            rw [if_neg (by omega)]
            omega
        have HV := Lib.hid hF2
        clear he hbd hF hF2 hge
        go_wp2_with fail
        go_roundw
        case rel => exact ⟨p + 1, _, by omega, by go_num, rfl, HV⟩
        case measure => simp [intOf]; omega
    · obtain rfl : p = n := by omega
      have hF := HF.out
      rw [List.drop_eq_nil_of_le (by rw [HN.out]; exact Nat.le_refl _)] at hF
      simp only [findI, if_true] at hF
      have HV := Lib.hid hF
      clear hF HF
      go_wp2_with fail
      go_ret
      exact ⟨by rw [HV.out]; rfl, below_drewN w d⟩
set_option maxRecDepth 100000 in
theorem find_none (o : Option Addr) (c : Nat) (k : ByteArray) (w : World) :
    Calls Tryz.prog 33 #[.slice o 0 c, .string k] w fun e w' => e = .returned (.int .i64 (-1)) ∧ Below w.heap.size w w' := by
  go_enter Tryz.func33, Tryz.ntmps33
  go_wp2_with fail
  refine wp_loop_rounds 1 ?_
  rw [rounds_succ]
  go_wp2_with fail
  go_ret
  exact ⟨rfl, Below.refl _ _⟩
theorem find_any (v : Value) (l : List Fld) (k : ByteArray) (w : World) (hm : l.length ≤ 4611686018427387904) (h : Rows v l w) :
    Calls Tryz.prog 33 #[v, .string k] w fun e w' => e = .returned (.int .i64 (findI k.data.toList l)) ∧ Below w.heap.size w w' := by
  obtain ⟨o, c, rfl, h⟩ := h
  rcases h with rfl | ⟨g, off, rfl, h⟩
  · exact find_none o c k w
  · exact find_full g off c l.length l k w rfl hm (fun j f hj => (h j f hj).1)
end Go.Proofs.YtmcnblibnbkfjaaGreatDoor.W12
