/-
  Walks of layer 12: the reference's find, and its Set at a name that is not there. Conditions: the list's cells hold the fields; it is within Go's own limit.
  Walks of layer 12: the reference's Set at a name that is not there. Conditions: the list's cells hold the fields; it is within Go's own limit.
-/
import Derived.Test.YtfkmgnldkmpeiaaGreatDoorGal
import Derived.Laws.OwnMore
import Derived.BigQuiet

namespace Go.Proofs.YtfkmgnldkmpeiaaGreatDoor.W12
open Go Go.RowKit P12

/-- Where a name stands first; -1: nowhere. -/
def findI (k : By) : List Fld → Int
  | [] => -1
  | f :: l => if f.name = k then 0 else if findI k l = -1 then -1 else findI k l + 1
theorem findI_ge (k : By) : ∀ l : List Fld, -1 ≤ findI k l
  | [] => by simp [findI]
  | f :: l => by
    have := findI_ge k l
    unfold findI
    split
    · omega
    · split <;> omega
theorem findI_none {k : By} : ∀ {l : List Fld}, (findI k l = -1 ↔ has l k = false)
  | [] => by simp [findI, has]
  | f :: l => by
    have := findI_ge k l
    have ih := findI_none (k := k) (l := l)
    unfold findI
    by_cases h : f.name = k
    · simp [h, has]
    · rw [if_neg h]
      have e : has (f :: l) k = has l k := by simp [has, h]
      rw [e, ← ih]
      split <;> omega
/-- Nothing ahead: the name stands first at place k, or further on. -/
theorem findI_skip {k : By} : ∀ {l : List Fld} {p : Nat}, (∀ (j : Nat) (f : Fld), j < p → l[j]? = some f → f.name ≠ k) → p ≤ l.length → findI k l = if findI k (l.drop p) = -1 then -1 else findI k (l.drop p) + (p : Int)
  | l, 0, _, _ => by simp
  | [], p + 1, _, h => by simp at h
  | f :: l, p + 1, h, hp => by
    have h0 := h 0 f (by omega) rfl
    have ih := findI_skip (k := k) (l := l) (p := p) (fun j g hj hg => h (j + 1) g (by omega) (by simpa using hg)) (by simpa using hp)
    have hge := findI_ge k (l.drop p)
    rw [findI, if_neg h0, ih]
    simp only [List.drop_succ_cons]
    by_cases e : findI k (List.drop p l) = -1
    · simp [e]
    · simp only [e, if_false]
      rw [if_neg (by omega)]
      omega

/-- A slice of fields, nil or with its capacity. -/
def RowsC (v : Value) (l : List Fld) (w : World) : Prop :=
  (v = .slice none 0 0 ∧ l = []) ∨ ∃ g off c, v = .slice (some ⟨g, off, none⟩) l.length c ∧ l.length ≤ c ∧ ∀ (j : Nat) (f : Fld), l[j]? = some f → w.cell? ⟨g, off + j * 4, none⟩ = some (bs f.name) ∧ w.cell? ⟨g, off + j * 4 + 1, none⟩ = some (.bool f.text) ∧ w.cell? ⟨g, off + j * 4 + 2, none⟩ = some (.int .i64 f.n) ∧ w.cell? ⟨g, off + j * 4 + 3, none⟩ = some (bs f.s)
theorem RowsC.rows {v : Value} {l : List Fld} {w : World} (h : RowsC v l w) : Rows v l w := by
  rcases h with ⟨rfl, rfl⟩ | ⟨g, off, c, rfl, _, hc⟩
  · exact rows_nil w
  · exact ⟨_, c, rfl, .inr ⟨g, off, rfl, hc⟩⟩
theorem RowsC.keep {v : Value} {l : List Fld} {w w' : World} (h : RowsC v l w) (hb : RowKit.Below w.heap.size w w') : RowsC v l w' := by
  rcases h with ⟨h1, h2⟩ | ⟨g, off, c, h1, h2, h3⟩
  · exact .inl ⟨h1, h2⟩
  · refine .inr ⟨g, off, c, h1, h2, fun j f hj => ?_⟩
    obtain ⟨a, b, c, d⟩ := h3 j f hj
    exact ⟨keep_cell hb a, keep_cell hb b, keep_cell hb c, keep_cell hb d⟩
theorem cellsF_at (L : List Fld) (j : Nat) (f : Fld) (h : L[j]? = some f) : (cellsF L)[j * 4]? = some (bs f.name) ∧ (cellsF L)[j * 4 + 1]? = some (.bool f.text) ∧ (cellsF L)[j * 4 + 2]? = some (.int .i64 f.n) ∧ (cellsF L)[j * 4 + 3]? = some (bs f.s) := by
  have hj : j < L.length := (List.getElem?_eq_some_iff.1 h).1
  have hg : L.getD j zeroF = f := by rw [List.getD_eq_getElem?_getD, h]; rfl
  refine ⟨?_, ?_, ?_, ?_⟩
  · rw [cellsF_get L (j * 4) (by omega), show j * 4 / 4 = j by omega, show j * 4 % 4 = 0 by omega, hg]; rfl
  · rw [cellsF_get L (j * 4 + 1) (by omega), show (j * 4 + 1) / 4 = j by omega, show (j * 4 + 1) % 4 = 1 by omega, hg]; rfl
  · rw [cellsF_get L (j * 4 + 2) (by omega), show (j * 4 + 2) / 4 = j by omega, show (j * 4 + 2) % 4 = 2 by omega, hg]; rfl
  · rw [cellsF_get L (j * 4 + 3) (by omega), show (j * 4 + 3) / 4 = j by omega, show (j * 4 + 3) % 4 = 3 by omega, hg]; rfl
theorem rowsC_own {w : World} {B : Nat} {v : Value} {L : List Fld} (h : w.ownsRow B 54 4 v L.length (cellsF L)) : RowsC v L w := by
  rcases h.2 with ⟨hv, hn⟩ | ⟨g, cap, cur, hv, _, _, hc, _⟩
  · exact .inl ⟨hv, List.length_eq_zero_iff.1 (by omega)⟩
  · refine .inr ⟨g, 0, cap, hv, hc, fun j f hj => ?_⟩
    obtain ⟨a, b, c, d⟩ := cellsF_at L j f hj
    have hc := h.cells (g := g) (by rw [hv]; rfl)
    have ha := hc _ _ a
    have hb := hc _ _ b
    have hcc := hc _ _ c
    have hd := hc _ _ d
    rw [Lib.add_plain, Nat.zero_add] at ha hb hcc hd
    rw [Nat.zero_add]
    exact ⟨ha, hb, hcc, hd⟩

set_option maxHeartbeats 1600000 in
set_option maxRecDepth 100000 in
theorem find_full (g off c n : Nat) (l : List Fld) (k : ByteArray) (w : World) (hn : l.length = n) (hm : n ≤ 4611686018427387904)
    (h1 : ∀ (j : Nat) (f : Fld), l[j]? = some f → w.cell? ⟨g, off + j * 4, none⟩ = some (bs f.name)) :
    Calls Tryz.prog 99 #[.slice (some ⟨g, off, none⟩) n c, .string k] w fun e w' => e = .returned (.int .i64 (findI k.data.toList l)) ∧ Below w.heap.size w w' := by
  have H1 := Lib.hid h1
  have HN := Lib.hid hn
  clear h1 hn
  go_enter Tryz.func99, Tryz.ntmps99
  go_wp2_with fail
  go_loopw [5] (fun i wr => ∃ p d : Nat, p ≤ n ∧ i = .int .i64 p ∧ wr = w.drewN d ∧ Hid (findI k.data.toList l = if findI k.data.toList (l.drop p) = -1 then -1 else findI k.data.toList (l.drop p) + (p : Int))) (fun i _ => n - (intOf i).toNat)
  case atStart => exact ⟨0, 0, by omega, rfl, rfl, Lib.hid (by simp)⟩
  case round =>
    obtain ⟨p, d, hp, rfl, rfl, HF⟩ := hrel
    by_cases hlt : p < n
    · obtain ⟨r, hr⟩ : ∃ r, l[p]? = some r := ⟨l[p]'(by rw [HN.out]; exact hlt), List.getElem?_eq_getElem _⟩
      have a0 := H1.out p r hr
      have hp0 : (0 : Int) ≤ (p : Int) := by omega
      have hp1 : (p : Int) < (n : Int) := by omega
      obtain ⟨b, hb⟩ : ∃ b : ByteArray, b = ⟨r.name.toArray⟩ := ⟨_, rfl⟩
      have hbd : b.data.toList = r.name := by rw [hb]
      rw [show bs r.name = .string b by rw [hb]] at a0
      have hdrop : l.drop p = r :: l.drop (p + 1) := by
        rw [List.drop_eq_getElem_cons (by rw [HN.out]; exact hlt)]
        congr 1
        rw [List.getElem?_eq_getElem (by rw [HN.out]; exact hlt)] at hr
        exact Option.some.inj hr
      have hF := HF.out
      rw [hdrop, findI] at hF
      clear hb hr hdrop HF
      by_cases he : r.name = k.data.toList
      · have hz : (b.toList == k.toList) = true := by rw [Lib.toList_data, Lib.toList_data, hbd, he]; simp
        rw [if_pos he, if_neg (by decide)] at hF
        have HV := Lib.hid hF
        clear he hbd hF
        go_wp2_with fail
        go_ret
        exact ⟨by rw [HV.out]; simp, below_drewN w d⟩
      · have hz : (b.toList == k.toList) = false := by rw [Lib.toList_data, Lib.toList_data, hbd, beq_eq_false_iff_ne]; exact he
        rw [if_neg he] at hF
        have hge := findI_ge k.data.toList (l.drop (p + 1))
        have hF2 : findI k.data.toList l = if findI k.data.toList (l.drop (p + 1)) = -1 then -1 else findI k.data.toList (l.drop (p + 1)) + ((p + 1 : Nat) : Int) := by
          rw [hF]
          by_cases e : findI k.data.toList (l.drop (p + 1)) = -1
          · simp [e]
          · simp only [e, if_false]
            rw [if_neg (by omega)]
            omega
        have HV := Lib.hid hF2
        clear he hbd hF hF2 hge
        go_wp2_with fail
        go_roundw
        case rel => exact ⟨p + 1, _, by omega, by go_num, rfl, HV⟩
        case measure => simp [intOf]; omega
    · obtain rfl : p = n := by omega
      have hF := HF.out
      rw [List.drop_eq_nil_of_le (by rw [HN.out]; exact Nat.le_refl _)] at hF
      simp only [findI, if_true] at hF
      have HV := Lib.hid hF
      clear hF HF
      go_wp2_with fail
      go_ret
      exact ⟨by rw [HV.out]; rfl, below_drewN w d⟩
set_option maxRecDepth 100000 in
theorem find_none (o : Option Addr) (c : Nat) (k : ByteArray) (w : World) :
    Calls Tryz.prog 99 #[.slice o 0 c, .string k] w fun e w' => e = .returned (.int .i64 (-1)) ∧ Below w.heap.size w w' := by
  go_enter Tryz.func99, Tryz.ntmps99
  go_wp2_with fail
  refine wp_loop_rounds 1 ?_
  rw [rounds_succ]
  go_wp2_with fail
  go_ret
  exact ⟨rfl, Below.refl _ _⟩
theorem find_any (v : Value) (l : List Fld) (k : ByteArray) (w : World) (hm : l.length ≤ 4611686018427387904) (h : Rows v l w) :
    Calls Tryz.prog 99 #[v, .string k] w fun e w' => e = .returned (.int .i64 (findI k.data.toList l)) ∧ Below w.heap.size w w' := by
  obtain ⟨o, c, rfl, h⟩ := h
  rcases h with rfl | ⟨g, off, rfl, h⟩
  · exact find_none o c k w
  · exact find_full g off c l.length l k w rfl hm (fun j f hj => (h j f hj).1)
end Go.Proofs.YtfkmgnldkmpeiaaGreatDoor.W12

namespace Go.Proofs.YtfkmgnldkmpeiaaGreatDoor.W12
open Go Go.RowKit P12

theorem insL_length (f : Fld) : ∀ l : List Fld, (insL f l).length = l.length + 1
  | [] => rfl
  | g :: l => by
    unfold insL
    split
    · simp [insL_length f l]
    · simp
theorem cellsF_len : ∀ l : List Fld, (cellsF l).length = l.length * 4
  | [] => rfl
  | f :: l => by
    have : cellsF (f :: l) = cellsF1 f ++ cellsF l := by simp [cellsF]
    rw [this, List.length_append, cellsF_len l, cellsF1_len]
    simp
    omega
theorem insL_step {f g : Fld} {l : List Fld} {k : Nat} (hk : l[k]? = some g) (h : insL f l = l.take k ++ insL f (l.drop k)) (hle : g.name ≤ f.name) : insL f l = l.take (k + 1) ++ insL f (l.drop (k + 1)) := by
  obtain ⟨hlt, hg⟩ := List.getElem?_eq_some_iff.1 hk
  rw [List.drop_eq_getElem_cons hlt, hg, insL, if_pos hle] at h
  rw [h, List.take_succ_eq_append_getElem hlt, hg]
  simp
theorem insL_stop {f g : Fld} {l : List Fld} {k : Nat} (hk : l[k]? = some g) (h : insL f l = l.take k ++ insL f (l.drop k)) (hle : ¬ g.name ≤ f.name) : insL f l = (l.take k ++ [f]) ++ l.drop k := by
  obtain ⟨hlt, hg⟩ := List.getElem?_eq_some_iff.1 hk
  rw [List.drop_eq_getElem_cons hlt, hg, insL, if_neg hle] at h
  rw [h, List.drop_eq_getElem_cons hlt, hg]
  simp
theorem insL_last {f : Fld} {l : List Fld} (h : insL f l = l.take l.length ++ insL f (l.drop l.length)) : insL f l = (l.take l.length ++ [f]) ++ l.drop l.length := by
  rw [List.drop_length] at h
  rw [h, List.drop_length]
  simp [insL]

/-- Nothing is appended to a row of the call's own: a nil slice. -/
theorem run_append_owned_nilc {P : Program} (w : World) (base : Nat) (t ty e : TypeId) (i : TypeInfo) (size c : Nat) (ht : P.underlying t = some (.slice e)) (hi : P.info? e = some i)
    (v : Value) (n : Nat) (xs : List Value) (hown : w.ownsRow base e size v n xs) :
    (Builtin.append_ #[t, t] ty #[v, .slice none 0 c]).run P w = .ok v w := by
  rcases hown.2 with ⟨rfl, rfl⟩ | ⟨g, cap, cur, rfl, _, _, hnc, _⟩
  · simp [Builtin.append_, run_underlying ht, sizeOf, typeInfo, hi, Builtin.lenOf, Builtin.firstCells]
  · simp [Builtin.append_, run_underlying ht, sizeOf, typeInfo, hi, Builtin.lenOf, Builtin.firstCells, hnc, storeCells]

theorem rows_news {g off : Nat} {l : List Fld} {w : World} (h : ∀ (j : Nat) (f : Fld), l[j]? = some f → w.cell? ⟨g, off + j * 4, none⟩ = some (bs f.name) ∧ w.cell? ⟨g, off + j * 4 + 1, none⟩ = some (.bool f.text) ∧ w.cell? ⟨g, off + j * 4 + 2, none⟩ = some (.int .i64 f.n) ∧ w.cell? ⟨g, off + j * 4 + 3, none⟩ = some (bs f.s)) :
    ∀ (j : Nat) (u : Value), (cellsF l)[j]? = some u → w.cell? ((⟨g, off, none⟩ : Addr).add j) = some u := by
  intro j u hj
  have hlt : j < (cellsF l).length := (List.getElem?_eq_some_iff.1 hj).1
  have hlen : (cellsF l).length = l.length * 4 := cellsF_len l
  have hq : j / 4 < l.length := by omega
  obtain ⟨f, hf⟩ : ∃ f, l[j / 4]? = some f := ⟨l[j / 4]'hq, List.getElem?_eq_getElem hq⟩
  obtain ⟨a, b, c, d⟩ := h _ f hf
  obtain ⟨e0, e1, e2, e3⟩ := cellsF_at l _ f hf
  rw [Lib.add_plain]
  have hm : j % 4 = 0 ∨ j % 4 = 1 ∨ j % 4 = 2 ∨ j % 4 = 3 := by omega
  rcases hm with hm | hm | hm | hm
  · have rfl' : j = j / 4 * 4 := by omega
    rw [rfl'] at hj ⊢
    rw [e0] at hj
    rw [a]; exact hj
  · have rfl' : j = j / 4 * 4 + 1 := by omega
    rw [rfl'] at hj ⊢
    rw [e1] at hj
    rw [← Nat.add_assoc, b]; exact hj
  · have rfl' : j = j / 4 * 4 + 2 := by omega
    rw [rfl'] at hj ⊢
    rw [e2] at hj
    rw [← Nat.add_assoc, c]; exact hj
  · have rfl' : j = j / 4 * 4 + 3 := by omega
    rw [rfl'] at hj ⊢
    rw [e3] at hj
    rw [← Nat.add_assoc, d]; exact hj
theorem cellsF_one (l : List Fld) : ∀ u ∈ cellsF l, u.oneCell' = true := by
  intro u hu
  obtain ⟨c, hc, huc⟩ := List.mem_flatten.1 hu
  obtain ⟨f, _, rfl⟩ := List.mem_map.1 hc
  exact cellsF1_one f u huc

/-- Fields appended to a row of the call's own: whatever slice they come out of. -/
theorem run_app (w : World) (B : Nat) (ty : TypeId) (v : Value) (L0 L1 : List Fld) (hown : w.ownsRow B 54 4 v L0.length (cellsF L0)) (xv : Value) (hr : Rows xv L1 w) (hbd : (L0.length + L1.length) * 48 ≤ 140737488355328) (hbase : B ≤ w.heap.size) :
    ∃ v' w', (Builtin.append_ #[26, 26] ty #[v, xv]).run Tryz.prog w = .ok v' w' ∧ w'.ownsRow B 54 4 v' (L0 ++ L1).length (cellsF (L0 ++ L1)) ∧ w.grownBy w' v.ownBlock := by
  obtain ⟨i0, hi, hz0, hz1, hz2⟩ := info_parts infoF
  have happ : cellsF (L0 ++ L1) = cellsF L0 ++ cellsF L1 := by simp [cellsF]
  rw [happ, List.length_append]
  obtain ⟨o, c, rfl, hr⟩ := hr
  cases o with
  | none =>
    have : L1 = [] := by
      rcases hr with h | ⟨g, off, h, _⟩
      · exact h
      · cases h
    subst this
    refine ⟨v, w, run_append_owned_nilc w B _ ty _ i0 4 c Tryz.underlying26 hi v _ _ hown, ?_, rfl, rfl, rfl, Nat.le_refl _, fun _ _ _ => rfl⟩
    simpa [cellsF] using hown
  | some ad =>
    have hnews : ∀ (j : Nat) (u : Value), (cellsF L1)[j]? = some u → w.cell? (ad.add j) = some u := by
      rcases hr with h | ⟨g, off, h, hc⟩
      · subst h; intro j u hj; simp [cellsF] at hj
      · obtain rfl := Option.some.inj h
        exact rows_news hc
    obtain ⟨v', w', hrun, r1, r2, _⟩ := run_append_own (P := Tryz.prog) w B 26 ty 54 i0 _ 4 48 Tryz.underlying26 hi hz0 hz1 hz2 rfl (by decide) v _ _ hown ad L1.length c (cellsF L1) (cellsF_len L1) hnews (cellsF_one L1) (by unfold maxLen; omega) hbd hbase
    exact ⟨v', w', hrun, r1, r2⟩

theorem step_app {ops : Array Oper} {o : Oper} {a : Act} {w : World} {K : Act → World → Prop} {Q : Exit → Act → World → Prop} {E : Prop}
    (hg : o.guard = none) (s x : Operand) (hop : o.op = Op.call { callee := Callee.builtin Builtin.append, args := #[s, x], argTypes := #[26, 26] })
    (wb : World) (hB : Below wb.heap.size wb w) (v : Value) (L0 L1 : List Fld) (hs : a.eval s = v) (w0 : World) (hk0 : Below w0.heap.size w0 w) (hown : w0.ownsRow wb.heap.size 54 4 v L0.length (cellsF L0))
    (xv : Value) (hx : a.eval x = xv) (w1 : World) (hk1 : Below w1.heap.size w1 w) (hr : Rows xv L1 w1) (hbd : (L0.length + L1.length) * 48 ≤ 140737488355328)
    (hK : ∀ v' w', w'.ownsRow wb.heap.size 54 4 v' (L0 ++ L1).length (cellsF (L0 ++ L1)) → Below wb.heap.size wb w' → w.grownBy w' v.ownBlock → K (a.put o.dst v') w') :
    if Region.wanted o (yielded ops a.tmps) = true then Oper.wp Tryz.prog o a w K Q else E := by
  have hw : Region.wanted o (yielded ops a.tmps) = true := by simp [Region.wanted, hg]
  rw [if_pos hw]
  have hown' := own_keep hown hk0
  obtain ⟨v', w', hrun, r1, r2⟩ := run_app w wb.heap.size o.type v L0 L1 hown' xv (hr.keep hk1) hbd hB.size
  unfold Oper.wp
  simp [execOp, hop, resolve, invoke, builtin, hs, hx, hrun, Result.andThen]
  exact hK v' w' r1 (hB.grown r2 hB.size (fun j e => (hown'.lt j e).1)) r2
theorem wpList_app {w : World} {ops : Array Oper} {rest : List Oper} {o : Oper} {a : Act} {Q : Exit → Act → World → Prop} (hgd : o.guard = none) (s x : Operand)
    (ho : o.op = .call { callee := .builtin .append, args := #[s, x], argTypes := #[26, 26] })
    (wb : World) (hB : Below wb.heap.size wb w) (v : Value) (L0 L1 : List Fld) (hs : a.eval s = v) (w0 : World) (hk0 : Below w0.heap.size w0 w) (hown : w0.ownsRow wb.heap.size 54 4 v L0.length (cellsF L0))
    (xv : Value) (hx : a.eval x = xv) (w1 : World) (hk1 : Below w1.heap.size w1 w) (hr : Rows xv L1 w1) (hbd : (L0.length + L1.length) * 48 ≤ 140737488355328)
    (hK : ∀ v' w', w'.ownsRow wb.heap.size 54 4 v' (L0 ++ L1).length (cellsF (L0 ++ L1)) → Below wb.heap.size wb w' → w.grownBy w' v.ownBlock → wpList Tryz.prog ops Q rest (a.put o.dst v') w') : wpList Tryz.prog ops Q (o :: rest) a w := by
  refine wpList_plain hgd fun K hK' => ?_
  have hown' := own_keep hown hk0
  obtain ⟨v', w', hrun, r1, r2⟩ := run_app w wb.heap.size o.type v L0 L1 hown' xv (hr.keep hk1) hbd hB.size
  unfold Oper.wp
  simp [execOp, ho, resolve, invoke, builtin, hs, hx, hrun, Result.andThen]
  exact hK' _ _ (hK v' w' r1 (hB.grown r2 hB.size (fun j e => (hown'.lt j e).1)) r2)

theorem own_made (w : World) (B N : Nat) (hN : w.heap.size = N) (hB : B ≤ w.heap.size) : (w.alloc (.cells #[] 54)).ownsRow B 54 4 (.slice (some ⟨N, 0, none⟩) 0 0) ([] : List Fld).length (cellsF []) := by
  subst hN
  exact World.ownsRow_made w #[] 0 hB (by decide) rfl
theorem rows_one (w : World) (a s : ByteArray) (t : Bool) (n : Int) (N : Nat) (hN : w.heap.size = N) : Rows (.slice (some ⟨N, 0, none⟩) 1 1) [⟨a.data.toList, t, n, s.data.toList⟩] (w.alloc (.cells #[.string a, .bool t, .int .i64 n, .string s] 54)) := by
  subst hN
  refine ⟨_, 1, rfl, .inr ⟨_, 0, rfl, fun j f hj => ?_⟩⟩
  have hh := heap_new w (.cells #[.string a, .bool t, .int .i64 n, .string s] 54)
  match j, hj with
  | 0, hj =>
    obtain rfl := Option.some.inj hj
    rw [bs_data, bs_data]
    exact ⟨Lib.cell_of_heap hh 0, Lib.cell_of_heap hh 1, Lib.cell_of_heap hh 2, Lib.cell_of_heap hh 3⟩
theorem Rows.grown {g c n : Nat} {l : List Fld} {w w' : World} {row : Option Nat} (h : Rows (.slice (some ⟨g, 0, none⟩) n c) l w) (hg : w.grownBy w' row) (hne : some g ≠ row) : Rows (.slice (some ⟨g, 0, none⟩) n c) l w' := by
  obtain ⟨o, c', h1, h2⟩ := h
  refine ⟨o, c', h1, ?_⟩
  rcases h2 with h2 | ⟨g', off, h2, h3⟩
  · exact .inl h2
  · injection h1 with e1 e2 e3
    rw [h2] at e1
    injection e1 with e1
    injection e1 with e1 e4
    subst e1
    refine .inr ⟨_, off, h2, fun j f hj => ?_⟩
    obtain ⟨a, b, c, d⟩ := h3 j f hj
    exact ⟨hg.cell a hne, hg.cell b hne, hg.cell c hne, hg.cell d hne⟩
theorem own_base {w : World} {B B' : Nat} {e : TypeId} {size n : Nat} {v : Value} {xs : List Value} (h : w.ownsRow B e size v n xs) (hb : B' ≤ B) : w.ownsRow B' e size v n xs := by
  refine ⟨h.1, ?_⟩
  rcases h.2 with h | ⟨g, cap, cur, h1, h2, h3⟩
  · exact .inl h
  · exact .inr ⟨g, cap, cur, h1, by omega, h3⟩
theorem rows_take {g off c : Nat} {l : List Fld} {w : World} {k : Nat} (hk : k ≤ l.length) (h : ∀ (j : Nat) (f : Fld), l[j]? = some f → w.cell? ⟨g, off + j * 4, none⟩ = some (bs f.name) ∧ w.cell? ⟨g, off + j * 4 + 1, none⟩ = some (.bool f.text) ∧ w.cell? ⟨g, off + j * 4 + 2, none⟩ = some (.int .i64 f.n) ∧ w.cell? ⟨g, off + j * 4 + 3, none⟩ = some (bs f.s)) : Rows (.slice (some ⟨g, off, none⟩) k c) (l.take k) w := by
  refine ⟨_, c, by rw [List.length_take, Nat.min_eq_left hk], .inr ⟨g, off, rfl, fun j f hj => h j f ?_⟩⟩
  rw [List.getElem?_take] at hj
  split at hj
  · exact hj
  · cases hj
theorem rows_drop {g off c n : Nat} {l : List Fld} {w : World} {k : Nat} (hn : n = l.length - k) (h : ∀ (j : Nat) (f : Fld), l[j]? = some f → w.cell? ⟨g, off + j * 4, none⟩ = some (bs f.name) ∧ w.cell? ⟨g, off + j * 4 + 1, none⟩ = some (.bool f.text) ∧ w.cell? ⟨g, off + j * 4 + 2, none⟩ = some (.int .i64 f.n) ∧ w.cell? ⟨g, off + j * 4 + 3, none⟩ = some (bs f.s)) : Rows (.slice (some ⟨g, off + k * 4, none⟩) n c) (l.drop k) w := by
  refine ⟨_, c, by rw [List.length_drop, hn], .inr ⟨g, off + k * 4, rfl, fun j f hj => ?_⟩⟩
  rw [List.getElem?_drop] at hj
  have := h (k + j) f hj
  rw [show off + k * 4 + j * 4 = off + (k + j) * 4 by omega]
  exact this
theorem rows_dropAny {g off c n : Nat} {l : List Fld} {w : World} {k : Nat} (hn : n = l.length - k) (hk : k ≤ l.length) (hlc : l.length ≤ c) (h : ∀ (j : Nat) (f : Fld), l[j]? = some f → w.cell? ⟨g, off + j * 4, none⟩ = some (bs f.name) ∧ w.cell? ⟨g, off + j * 4 + 1, none⟩ = some (.bool f.text) ∧ w.cell? ⟨g, off + j * 4 + 2, none⟩ = some (.int .i64 f.n) ∧ w.cell? ⟨g, off + j * 4 + 3, none⟩ = some (bs f.s))
    (o' : Option Addr) (c' : Nat) (ho : c ≠ k → o' = some ⟨g, off + k * 4, none⟩) : Rows (.slice o' n c') (l.drop k) w := by
  by_cases hck : c = k
  · have : l.drop k = [] := List.drop_eq_nil_of_le (by omega)
    rw [this]
    exact ⟨o', c', by rw [hn, List.length_nil]; congr 1; omega, .inl rfl⟩
  · rw [ho hck]
    exact rows_drop hn h
/-- What a region holds: the variable's cells, and all that was there. -/
def Held (wb : World) (p : Nat) (a s : ByteArray) (t : Bool) (n : Int) (w' : World) : Prop :=
  w'.cell? ⟨p, 0, none⟩ = some (.string a) ∧ w'.cell? ⟨p, 1, none⟩ = some (.bool t) ∧ w'.cell? ⟨p, 2, none⟩ = some (.int .i64 n) ∧ w'.cell? ⟨p, 3, none⟩ = some (.string s) ∧ Below wb.heap.size wb w'
theorem held_of {wb w' : World} {p : Nat} {a s : ByteArray} {t : Bool} {n : Int} (hb : Below wb.heap.size wb w') (z0 : wb.cell? ⟨p, 0, none⟩ = some (.string a)) (z1 : wb.cell? ⟨p, 1, none⟩ = some (.bool t)) (z2 : wb.cell? ⟨p, 2, none⟩ = some (.int .i64 n)) (z3 : wb.cell? ⟨p, 3, none⟩ = some (.string s)) :
    w'.cell? ⟨p, 0, none⟩ = some (.string a) ∧ w'.cell? ⟨p, 1, none⟩ = some (.bool t) ∧ w'.cell? ⟨p, 2, none⟩ = some (.int .i64 n) ∧ w'.cell? ⟨p, 3, none⟩ = some (.string s) ∧ Below wb.heap.size wb w' :=
  ⟨keep_cell hb z0, keep_cell hb z1, keep_cell hb z2, keep_cell hb z3, hb⟩

set_option maxHeartbeats 6400000 in
set_option maxRecDepth 100000 in
theorem refSet_ins (v : Value) (l : List Fld) (a s : ByteArray) (t : Bool) (n : Int) (w : World) (hr : RowsC v l w) (hm : (l.length + 1) * 48 ≤ 140737488355328) (hno : has l a.data.toList = false) :
    Calls Tryz.prog 100 #[v, .agg #[.string a, .bool t, .int .i64 n, .string s]] w fun e w' => ∃ v', e = .returned v' ∧ w'.ownsRow w.heap.size 54 4 v' (insL ⟨a.data.toList, t, n, s.data.toList⟩ l).length (cellsF (insL ⟨a.data.toList, t, n, s.data.toList⟩ l)) ∧ Below w.heap.size w w' := by
  have hb0 := below_alloc w (.cells #[.string a, .bool t, .int .i64 n, .string s] 54)
  have hh := heap_new w (.cells #[.string a, .bool t, .int .i64 n, .string s] 54)
  have z0 := Lib.cell_of_heap hh 0
  have z1 := Lib.cell_of_heap hh 1
  have z2 := Lib.cell_of_heap hh 2
  have z3 := Lib.cell_of_heap hh 3
  have hr1 := hr.keep hb0
  have hfind := find_any v l a (w.alloc (.cells #[.string a, .bool t, .int .i64 n, .string s] 54)) (by omega) hr1.rows
  rw [findI_none.2 hno] at hfind
  obtain ⟨F, hF⟩ : ∃ F : Fld, F = ⟨a.data.toList, t, n, s.data.toList⟩ := ⟨_, rfl⟩
  have hFn : F.name = a.data.toList := by rw [hF]
  have HF := Lib.hid hF
  rw [← hF]
  clear hh hno hF
  rcases hr1 with ⟨rfl, rfl⟩ | ⟨g, off, c, rfl, hlc, hcl⟩
  · go_enter Tryz.func100, Tryz.ntmps100
    go_wp2_with (go_at_call 99; refine hfind.mono ?_; rintro e w2 ⟨rfl, hb2⟩; refine Hid.out ?_)
    refine Lib.hid ?_
    have y0 := keep_cell hb2 z0
    have y1 := keep_cell hb2 z1
    have y2 := keep_cell hb2 z2
    have y3 := keep_cell hb2 z3
    clear z0 z1 z2 z3
    have hbw := below_then hb0 hb2
    go_wp2_with fail
    refine wp_loop_rounds 1 ?_
    rw [rounds_succ]
    go_wp2_with fail
    go_quiet (fail)
    go_wp2_with fail
    go_region_held3 (fun w' => w'.cell? ⟨w.heap.size, 0, none⟩ = some (.string a) ∧ w'.cell? ⟨w.heap.size, 1, none⟩ = some (.bool t) ∧ w'.cell? ⟨w.heap.size, 2, none⟩ = some (.int .i64 n) ∧ w'.cell? ⟨w.heap.size, 3, none⟩ = some (.string s) ∧ Below w2.heap.size w2 w')
      ((refine held_of ?_ y0 y1 y2 y3; first | assumption | (go_split_ands; refine below_then ?_ (below_alloc _ _); assumption) | exact below_then (below_drewN w2 _) (below_drewN _ 1) | exact below_drewN w2 1))
      (first
        | (refine step_app (by rfl) (.tmp 38) (.tmp 41) (by rfl) w2 (by go_split_ands; assumption) _ [] [] (by rfl) _ (Below.refl _ _) (own_made _ _ _ (by simp) (by simp)) _ (by rfl) w2 (by go_split_ands; assumption) (rows_nil _) (by simp) ?_; intro v5 w5 hown5 hb5 hgr5)
        | (refine step_app (by rfl) (.tmp 38) (.tmp 41) (by rfl) w2 (by go_split_ands; assumption) _ [] [] (by rfl) _ (below_alloc _ _) (own_made _ _ _ (by simp) (by simp)) _ (by rfl) w2 (by go_split_ands; assumption) (rows_nil _) (by simp) ?_; intro v5 w5 hown5 hb5 hgr5)
        | (refine step_app (by rfl) (.tmp 42) (.tmp 44) (by rfl) w2 (by go_split_ands; assumption) v5 _ _ (by rfl) w5 (below_alloc _ _) hown5 _ (by rfl) _ (Below.refl _ _) (rows_one _ a s t n _ (by simp)) (by simp) ?_; intro v6 w6 hown6 hb6 hgr6)
        | (refine step_app (by rfl) (.tmp 42) (.tmp 44) (by rfl) w2 (by go_split_ands; assumption) v5 _ _ (by rfl) w5 (Below.refl _ _) hown5 _ (by rfl) w5 (Below.refl _ _) ((rows_one _ a s t n _ (by simp)).grown hgr5 (by simp [Value.ownBlock])) (by simp) ?_; intro v6 w6 hown6 hb6 hgr6)
        | (refine step_app (by rfl) (.tmp 42) (.tmp 44) (by rfl) w2 (by go_split_ands; assumption) v5 _ _ (by rfl) w5 (Below.refl _ _) hown5 _ (by rfl) w5 (Below.refl _ _) (((rows_one _ a s t n _ (by simp)).keep (below_alloc _ _)).grown hgr5 (by simp [Value.ownBlock])) (by simp) ?_; intro v6 w6 hown6 hb6 hgr6)
        | (refine step_app (by rfl) (.tmp 45) (.tmp 48) (by rfl) w2 (by go_split_ands; assumption) v6 _ [] (by rfl) w6 (Below.refl _ _) hown6 _ (by rfl) w2 (by go_split_ands; assumption) (rows_nil _) (by simp) ?_; intro v7 w7 hown7 hb7 hgr7))
    all_goals
      go_wp2_with fail
      go_ret
      exact ⟨_, rfl, by rw [← HF.out] at hown7; exact own_base hown7 (by have := hbw.size; omega), below_then hbw hb7⟩
  · obtain ⟨N, hN⟩ : ∃ N, N = l.length := ⟨_, rfl⟩
    rw [← hN] at hlc hm hfind ⊢
    have HN := Lib.hid hN
    have HCL := Lib.hid hcl
    clear hN hcl hr
    go_enter Tryz.func100, Tryz.ntmps100
    go_wp2_with (go_at_call 99; refine hfind.mono ?_; rintro e w2 ⟨rfl, hb2⟩; refine Hid.out ?_)
    refine Lib.hid ?_
    have y0 := keep_cell hb2 z0
    have y1 := keep_cell hb2 z1
    have y2 := keep_cell hb2 z2
    have y3 := keep_cell hb2 z3
    have HCL2 : Hid (∀ (j : Nat) (f : Fld), l[j]? = some f → w2.cell? ⟨g, off + j * 4, none⟩ = some (bs f.name) ∧ w2.cell? ⟨g, off + j * 4 + 1, none⟩ = some (.bool f.text) ∧ w2.cell? ⟨g, off + j * 4 + 2, none⟩ = some (.int .i64 f.n) ∧ w2.cell? ⟨g, off + j * 4 + 3, none⟩ = some (bs f.s)) := Lib.hid fun j f hj => by
      obtain ⟨a, b, c, d⟩ := HCL.out j f hj
      exact ⟨keep_cell hb2 a, keep_cell hb2 b, keep_cell hb2 c, keep_cell hb2 d⟩
    clear z0 z1 z2 z3 hfind HCL
    have hbw := below_then hb0 hb2
    go_wp2_with fail
    go_loopw [7] (fun i wr => ∃ k d : Nat, k ≤ N ∧ i = .int .i64 k ∧ wr = w2.drewN d ∧ Hid (insL F l = l.take k ++ insL F (l.drop k))) (fun i _ => N - (intOf i).toNat)
    case atStart => exact ⟨0, 0, by omega, rfl, rfl, Lib.hid (by simp)⟩
    case round =>
      obtain ⟨k, d, hk, rfl, rfl, HI⟩ := hrel
      have hk0 : (0 : Int) ≤ (k : Int) := by omega
      have hkN : (k : Int) ≤ (N : Int) := by omega
      have hkc : (k : Int) ≤ (c : Int) := by omega
      have hNc : (N : Int) ≤ (c : Int) := by omega
      by_cases hlt : k < N
      · have hlt' : (k : Int) < (N : Int) := by omega
        obtain ⟨r, hrk⟩ : ∃ r, l[k]? = some r := ⟨l[k]'(by rw [← HN.out]; exact hlt), List.getElem?_eq_getElem _⟩
        obtain ⟨a0, _, _, _⟩ := HCL2.out k r hrk
        obtain ⟨b, hb⟩ : ∃ b : ByteArray, b = ⟨r.name.toArray⟩ := ⟨_, rfl⟩
        have hbd : b.data.toList = r.name := by rw [hb]
        rw [show bs r.name = .string b by rw [hb]] at a0
        have k1 : b.toList = r.name := by rw [Lib.toList_data]; exact hbd
        have k2 : a.toList = F.name := by rw [Lib.toList_data]; exact hFn.symm
        by_cases hle : r.name ≤ F.name
        · have HS := Lib.hid (insL_step hrk HI.out hle)
          have hz : (Op.bytesLess b.toList a.toList || b.toList == a.toList) = true := by rw [k1, k2, bytesLeq]; simpa using hle
          have hz2 : Op.bytesLess b.toList a.toList = true ∨ (b.toList == a.toList) = true := by simpa using hz
          clear hb hbd k1 k2 hle hrk HI hz
          rcases hz2 with hz | hz
          all_goals
            go_wp2_with fail
            go_quiet (fail)
            rw [World.drewN_drewN]
            go_wp2_with fail
            go_roundw
            case rel => exact ⟨k + 1, _, by omega, by go_num, rfl, HS⟩
            case measure => simp [intOf]; omega
        · have HS := Lib.hid (insL_stop hrk HI.out hle)
          have hz : (Op.bytesLess b.toList a.toList || b.toList == a.toList) = false := by rw [k1, k2, bytesLeq]; simpa using hle
          obtain ⟨hz1, hz2⟩ := Bool.or_eq_false_iff.1 hz
          have hr1 := Lib.hid (rows_take (c := c) (w := w2) (k := k) (by rw [← HN.out]; omega) HCL2.out)
          have hr2 := Lib.hid (rows_dropAny (c := c) (n := N - k) (w := w2) (k := k) (by rw [← HN.out]) (by rw [← HN.out]; omega) (by rw [← HN.out]; omega) HCL2.out)
          have hbd1 : ((l.take k).length + 1) * 48 ≤ 140737488355328 := by rw [List.length_take]; omega
          have hbd2 : ((l.take k ++ [F]).length + (l.drop k).length) * 48 ≤ 140737488355328 := by rw [List.length_append, List.length_take, List.length_drop, ← HN.out]; simp; omega
          have HB1 := Lib.hid hbd1
          have HB2 := Lib.hid hbd2
          clear hb hbd k1 k2 hle hrk HI hz hbd1 hbd2
          go_wp2_with fail
          go_quiet (fail)
          rw [World.drewN_drewN]
          go_wp2_with fail
          go_region_held3 (fun w' => w'.cell? ⟨w.heap.size, 0, none⟩ = some (.string a) ∧ w'.cell? ⟨w.heap.size, 1, none⟩ = some (.bool t) ∧ w'.cell? ⟨w.heap.size, 2, none⟩ = some (.int .i64 n) ∧ w'.cell? ⟨w.heap.size, 3, none⟩ = some (.string s) ∧ Below w2.heap.size w2 w')
            ((refine held_of ?_ y0 y1 y2 y3; first | assumption | (go_split_ands; refine below_then ?_ (below_alloc _ _); assumption) | exact below_then (below_drewN w2 _) (below_drewN _ 1) | exact below_drewN w2 1))
            (first
              | (refine step_app (by rfl) (.tmp 38) (.tmp 41) (by rfl) w2 (by go_split_ands; assumption) _ [] (l.take k) (by rfl) _ (Below.refl _ _) (own_made _ _ _ (by simp) (by simp)) _ (by rfl) w2 (by go_split_ands; assumption) hr1.out (by have := HB1.out; simp only [List.length_nil]; omega) ?_; intro v5 w5 hown5 hb5 hgr5)
              | (refine step_app (by rfl) (.tmp 38) (.tmp 41) (by rfl) w2 (by go_split_ands; assumption) _ [] (l.take k) (by rfl) _ (below_alloc _ _) (own_made _ _ _ (by simp) (by simp)) _ (by rfl) w2 (by go_split_ands; assumption) hr1.out (by have := HB1.out; simp only [List.length_nil]; omega) ?_; intro v5 w5 hown5 hb5 hgr5)
              | (refine step_app (by rfl) (.tmp 42) (.tmp 44) (by rfl) w2 (by go_split_ands; assumption) v5 _ _ (by rfl) w5 (below_alloc _ _) hown5 _ (by rfl) _ (Below.refl _ _) (rows_one _ a s t n _ (by simp)) (by have := HB1.out; simp only [List.nil_append, List.length_cons, List.length_nil]; omega) ?_; intro v6 w6 hown6 hb6 hgr6)
              | (refine step_app (by rfl) (.tmp 42) (.tmp 44) (by rfl) w2 (by go_split_ands; assumption) v5 _ _ (by rfl) w5 (Below.refl _ _) hown5 _ (by rfl) w5 (Below.refl _ _) ((rows_one _ a s t n _ (by simp)).grown hgr5 (by simp [Value.ownBlock])) (by have := HB1.out; simp only [List.nil_append, List.length_cons, List.length_nil]; omega) ?_; intro v6 w6 hown6 hb6 hgr6)
              | (refine step_app (by rfl) (.tmp 42) (.tmp 44) (by rfl) w2 (by go_split_ands; assumption) v5 _ _ (by rfl) w5 (Below.refl _ _) hown5 _ (by rfl) w5 (Below.refl _ _) (((rows_one _ a s t n _ (by simp)).keep (below_alloc _ _)).grown hgr5 (by simp [Value.ownBlock])) (by have := HB1.out; simp only [List.nil_append, List.length_cons, List.length_nil]; omega) ?_; intro v6 w6 hown6 hb6 hgr6)
              | (refine step_app (by rfl) (.tmp 45) (.tmp 48) (by rfl) w2 (by go_split_ands; assumption) v6 _ (l.drop k) (by rfl) w6 (Below.refl _ _) hown6 _ (by rfl) w2 (by go_split_ands; assumption) (hr2.out _ _ (by intro h; simp [h])) (by have := HB2.out; rw [← HF.out, List.nil_append]; exact this) ?_; intro v7 w7 hown7 hb7 hgr7))
          all_goals
            go_wp2_with fail
            go_ret
            exact ⟨_, rfl, by rw [← HF.out, List.nil_append, ← HS.out] at hown7; exact own_base hown7 (by have := hbw.size; omega), below_then hbw hb7⟩
      · obtain rfl : k = N := by omega
        have HI2 := HI.out
        rw [HN.out] at HI2
        have HS := Lib.hid (insL_last HI2)
        rw [← HN.out] at HS
        have hr1 := Lib.hid (rows_take (c := c) (w := w2) (k := k) (by rw [← HN.out]; omega) HCL2.out)
        have hr2 := Lib.hid (rows_dropAny (c := c) (n := 0) (w := w2) (k := k) (by rw [← HN.out]; omega) (by rw [← HN.out]; omega) (by rw [← HN.out]; omega) HCL2.out)
        have hbd1 : ((l.take k).length + 1) * 48 ≤ 140737488355328 := by rw [List.length_take]; omega
        have hbd2 : ((l.take k ++ [F]).length + (l.drop k).length) * 48 ≤ 140737488355328 := by rw [List.length_append, List.length_take, List.length_drop, ← HN.out]; simp; omega
        have HB1 := Lib.hid hbd1
        have HB2 := Lib.hid hbd2
        clear HI HI2 hbd1 hbd2
        go_wp2_with fail
        go_quiet (fail)
        rw [World.drewN_drewN]
        go_wp2_with fail
        go_region_held3 (fun w' => w'.cell? ⟨w.heap.size, 0, none⟩ = some (.string a) ∧ w'.cell? ⟨w.heap.size, 1, none⟩ = some (.bool t) ∧ w'.cell? ⟨w.heap.size, 2, none⟩ = some (.int .i64 n) ∧ w'.cell? ⟨w.heap.size, 3, none⟩ = some (.string s) ∧ Below w2.heap.size w2 w')
          ((refine held_of ?_ y0 y1 y2 y3; first | assumption | (go_split_ands; refine below_then ?_ (below_alloc _ _); assumption) | exact below_then (below_drewN w2 _) (below_drewN _ 1) | exact below_drewN w2 1))
          (first
            | (refine step_app (by rfl) (.tmp 38) (.tmp 41) (by rfl) w2 (by go_split_ands; assumption) _ [] (l.take k) (by rfl) _ (Below.refl _ _) (own_made _ _ _ (by simp) (by simp)) _ (by rfl) w2 (by go_split_ands; assumption) hr1.out (by have := HB1.out; simp only [List.length_nil]; omega) ?_; intro v5 w5 hown5 hb5 hgr5)
            | (refine step_app (by rfl) (.tmp 38) (.tmp 41) (by rfl) w2 (by go_split_ands; assumption) _ [] (l.take k) (by rfl) _ (below_alloc _ _) (own_made _ _ _ (by simp) (by simp)) _ (by rfl) w2 (by go_split_ands; assumption) hr1.out (by have := HB1.out; simp only [List.length_nil]; omega) ?_; intro v5 w5 hown5 hb5 hgr5)
            | (refine step_app (by rfl) (.tmp 42) (.tmp 44) (by rfl) w2 (by go_split_ands; assumption) v5 _ _ (by rfl) w5 (below_alloc _ _) hown5 _ (by rfl) _ (Below.refl _ _) (rows_one _ a s t n _ (by simp)) (by have := HB1.out; simp only [List.nil_append, List.length_cons, List.length_nil]; omega) ?_; intro v6 w6 hown6 hb6 hgr6)
            | (refine step_app (by rfl) (.tmp 42) (.tmp 44) (by rfl) w2 (by go_split_ands; assumption) v5 _ _ (by rfl) w5 (Below.refl _ _) hown5 _ (by rfl) w5 (Below.refl _ _) ((rows_one _ a s t n _ (by simp)).grown hgr5 (by simp [Value.ownBlock])) (by have := HB1.out; simp only [List.nil_append, List.length_cons, List.length_nil]; omega) ?_; intro v6 w6 hown6 hb6 hgr6)
            | (refine step_app (by rfl) (.tmp 42) (.tmp 44) (by rfl) w2 (by go_split_ands; assumption) v5 _ _ (by rfl) w5 (Below.refl _ _) hown5 _ (by rfl) w5 (Below.refl _ _) (((rows_one _ a s t n _ (by simp)).keep (below_alloc _ _)).grown hgr5 (by simp [Value.ownBlock])) (by have := HB1.out; simp only [List.nil_append, List.length_cons, List.length_nil]; omega) ?_; intro v6 w6 hown6 hb6 hgr6)
            | (refine step_app (by rfl) (.tmp 45) (.tmp 48) (by rfl) w2 (by go_split_ands; assumption) v6 _ (l.drop k) (by rfl) w6 (Below.refl _ _) hown6 _ (by rfl) w2 (by go_split_ands; assumption) (hr2.out _ _ (by intro h; simp [h])) (by have := HB2.out; rw [← HF.out, List.nil_append]; exact this) ?_; intro v7 w7 hown7 hb7 hgr7))
        all_goals
          go_wp2_with fail
        all_goals
          go_ret
          exact ⟨_, rfl, by rw [← HF.out, List.nil_append, ← HS.out] at hown7; exact own_base hown7 (by have := hbw.size; omega), below_then hbw hb7⟩
end Go.Proofs.YtfkmgnldkmpeiaaGreatDoor.W12
