/-
  Walks of layer 12: the function literal within Read: one part is taken. Conditions: the library's error values and its table; the part is within Go's own limit.
  Walks of layer 12: the comparison that Read hands to the sort; parts. Conditions: the library's error values and its table; the text is within Go's own limit.
-/
import Derived.Test.YtfkmgnldkmpeiaaGreatDoorGag
import Derived.Maps.Own
import Derived.OneCell
import Derived.Shelf.SlSortCmp.WholeK
import Derived.Lib.OwnBridge

namespace Go.Proofs.YtfkmgnldkmpeiaaGreatDoor.W12
open Go Go.RowKit Go.WideMaps Go.Maps P12
open Dig hiding By

def cellsF1 (f : Fld) : List Value := [bs f.name, .bool f.text, .int .i64 f.n, bs f.s]
def cellsF (l : List Fld) : List Value := (l.map cellsF1).flatten
theorem cellsF_snoc (l : List Fld) (f : Fld) : cellsF (l ++ [f]) = cellsF l ++ cellsF1 f := by simp [cellsF]
theorem infoF : (Tryz.prog.info? 54).map (fun i => (i.zero, i.size, i.bytes)) = some (some (.agg #[.string ⟨#[]⟩, .bool false, .int .i64 0, .string ⟨#[]⟩]), 4, 48) := by kernel_rfl
theorem law : Keyed Tryz.prog 9 := string_keyed Tryz.underlying9
theorem zero3 (w : World) : (zeroValue 3).run Tryz.prog w = .ok (.int .i64 0) w := by kernel_rfl
abbrev has (L : List Fld) (k : By) : Bool := L.any fun g => decide (g.name = k)

theorem ownsMap_setCell_other {H : Type} {w : World} {P : Program} {k : TypeId} {R : Value → Option (DataW H × List MemPlace)} {b n : Nat} {D : DataW H} (h : w.ownsMap P k R b n D) {a : Addr} (ha : b ≠ a.block) (u : Value) : (w.setCell a u).ownsMap P k R b n D := by
  obtain ⟨es, clock, hb, r⟩ := h
  exact ⟨es, clock, by rw [Below.heap_setCell _ _ _ _ ha]; exact hb, r⟩

/-- The map that counts the names: each name of L once. -/
def Seen (bm : Nat) (L : List Fld) (w : World) : Prop :=
  ∃ n D, w.ownsMap Tryz.prog 9 (plainElem (H := Unit) Tryz.prog 3) bm n D ∧ n ≤ L.length ∧ ∀ k : By, D.atKey (.string k) (.lit (.int .i64 0)) = .lit (.int .i64 (if has L k = true then 1 else 0))
theorem Seen.kept {bm : Nat} {L : List Fld} {w w' : World} {row : Option Nat} (h : Seen bm L w) (hg : w.grownBy w' row) (hne : some bm ≠ row) : Seen bm L w' := by
  obtain ⟨n, D, h1, h2, h3⟩ := h
  exact ⟨n, D, h1.kept hg hne, h2, h3⟩
theorem Seen.keep {bm : Nat} {L : List Fld} {w w' : World} (h : Seen bm L w) (hb : Below w.heap.size w w') : Seen bm L w' := h.kept (below_grown hb none) (by simp)
theorem Seen.set {bm : Nat} {L : List Fld} {w : World} (h : Seen bm L w) {a : Addr} (ha : bm ≠ a.block) (u : Value) : Seen bm L (w.setCell a u) := by
  obtain ⟨n, D, h1, h2, h3⟩ := h
  exact ⟨n, D, ownsMap_setCell_other h1 ha u, h2, h3⟩
theorem Seen.lt {bm : Nat} {L : List Fld} {w : World} (h : Seen bm L w) : bm < w.heap.size := by
  obtain ⟨n, D, h1, h2, h3⟩ := h
  exact h1.lt
theorem seen_made (w : World) : Seen w.heap.size [] (w.alloc (.map #[] 0)) :=
  ⟨0, .map [], World.ownsMap_made _ _ _ _, Nat.le_refl _, fun k => rfl⟩
/-- A name is counted on: what is found ahead, what is found behind, the map behind. -/
theorem Seen.count {bm : Nat} {L : List Fld} {w : World} (h : Seen bm L w) (s : ByteArray) (hs : s.size ≤ maxLen) (hL : L.length ≤ 16) :
    (Instr.lookup 98 (.map (some bm)) (.string s) false).run Tryz.prog w = .ok (.int .i64 (if has L s.data.toList = true then 1 else 0)) w ∧
    ∃ w', (Instr.mapUpdate 98 (.map (some bm)) (.string s) (.int .i64 ((if has L s.data.toList = true then 1 else 0) + 1))).run Tryz.prog w = .ok () w' ∧ w.grownBy w' (some bm) ∧
      (Instr.lookup 98 (.map (some bm)) (.string s) false).run Tryz.prog w' = .ok (.int .i64 ((if has L s.data.toList = true then 1 else 0) + 1)) w' ∧
      (has L s.data.toList = false → ∀ f : Fld, f.name = s.data.toList → Seen bm (L ++ [f]) w') := by
  obtain ⟨n, D, h1, h2, h3⟩ := h
  have hkey := keyOf_string_mk (P := Tryz.prog) Tryz.underlying9 hs
  obtain ⟨c, hrun, hat, -⟩ := h1.lookup_int law Tryz.underlying98 Tryz.underlying3 (zero3 _) hkey
  rw [h3] at hat
  have hc : c = if has L s.data.toList = true then 1 else 0 := by simpa using hat.symm
  subst hc
  refine ⟨hrun, ?_⟩
  obtain ⟨w', hup, hown', hgrow⟩ := h1.update law Tryz.underlying98 (by unfold maxLen; omega) hkey (plainElem_int Tryz.underlying3 (a := (if has L s.data.toList = true then 1 else 0) + 1) (by split <;> decide))
  have hD : IsMap D := by
    obtain ⟨es, clock, _, _, _, hD⟩ := h1
    exact ⟨_, hD⟩
  refine ⟨w', hup, hgrow, ?_, ?_⟩
  · obtain ⟨c2, hrun2, hat2, -⟩ := hown'.lookup_int law Tryz.underlying98 Tryz.underlying3 (zero3 _) hkey
    rw [atKey_put_same hD (by trivial)] at hat2
    have hc2 : c2 = (if has L s.data.toList = true then 1 else 0) + 1 := by simpa using hat2.symm
    rw [← hc2]
    exact hrun2
  · intro hno f hf
    refine ⟨n + 1, _, hown', by simp; omega, ?_⟩
    intro k
    by_cases hk : k = s.data.toList
    · subst hk
      rw [atKey_put_same hD (by trivial), hno]
      simp [has, hf]
    · rw [atKey_put_other (by simpa using hk), h3]
      have : (f.name = k) = False := by rw [hf]; simp [Ne.symm hk]
      simp [has, this]

/-- The two captured variables, and what they lead to. -/
structure St (B b1 b2 bm : Nat) (L : List Fld) (w : World) : Prop where
  out : ∃ v, w.heap[b1]? = some (.cells #[v] 26 (0, 0)) ∧ w.ownsRow B 54 4 v L.length (cellsF L)
  var : w.heap[b2]? = some (.cells #[.map (some bm)] 98 (0, 0))
  seen : Seen bm L w
  le1 : B ≤ b1
  le2 : B ≤ b2
  le3 : B ≤ bm
  ne : bm ≠ b1
  ne2 : bm ≠ b2
theorem St.keep {B b1 b2 bm : Nat} {L : List Fld} {w w' : World} (h : St B b1 b2 bm L w) (hb : Below w.heap.size w w') : St B b1 b2 bm L w' := by
  obtain ⟨v, h1, h2⟩ := h.out
  exact ⟨⟨v, (hb.block b1 (lt_of_block h1)).trans h1, own_keep h2 hb⟩, (hb.block b2 (lt_of_block h.var)).trans h.var, h.seen.keep hb, h.le1, h.le2, h.le3, h.ne, h.ne2⟩
theorem own_shape {w : World} {B : Nat} {e : TypeId} {size : Nat} {v : Value} {n : Nat} {xs : List Value} (h : w.ownsRow B e size v n xs) : ∃ o c, v = .slice o n c := by
  rcases h.2 with ⟨rfl, rfl⟩ | ⟨g, cap, cur, rfl, _⟩
  · exact ⟨none, 0, rfl⟩
  · exact ⟨_, _, rfl⟩

theorem wpList_mapUpdate_run {P : Program} (w : World) {ops : Array Oper} {rest : List Oper} {o : Oper} {a : Act} {Q : Exit → Act → World → Prop}
    (hg : o.guard = none) (m x v : Operand) (t : TypeId) (hop : o.op = Op.mapUpdate t m x v) (mv key val : Value) (hm : a.eval m = mv) (hx : a.eval x = key) (hv : a.eval v = val)
    (w' : World) (hrun : (Instr.mapUpdate t mv key val).run P w = .ok () w') (hK : wpList P ops Q rest (a.put o.dst undef) w') :
    wpList P ops Q (o :: rest) a w := by
  refine wpList_plain hg fun K' hK' => ?_
  unfold Oper.wp
  simp [execOp, hop, hm, hx, hv, hrun, Result.andThen]
  exact hK' _ _ hK

theorem oneL_16 {L : List Fld} {p : By} (h : L.length = 16) : (oneL L p).1 = 120 := by unfold oneL; rw [if_pos h]
theorem oneL_cut {L : List Fld} {p : By} (h : L.length ≠ 16) (h2 : (cutL 61 p).2.2 = false ∨ nameL (cutL 61 p).1 = false) : (oneL L p).1 = 121 := by unfold oneL; rw [if_neg h, if_pos h2]
theorem oneL_val {L : List Fld} {p : By} (h : L.length ≠ 16) (h2 : ¬ ((cutL 61 p).2.2 = false ∨ nameL (cutL 61 p).1 = false)) (h3 : valueL (cutL 61 p).1 (cutL 61 p).2.1 = none) : (oneL L p).1 = 122 := by unfold oneL; rw [if_neg h, if_neg h2, h3]
theorem oneL_dup {L : List Fld} {p : By} {f : Fld} (h : L.length ≠ 16) (h2 : ¬ ((cutL 61 p).2.2 = false ∨ nameL (cutL 61 p).1 = false)) (h3 : valueL (cutL 61 p).1 (cutL 61 p).2.1 = some f) (h4 : has L f.name = true) : (oneL L p).1 = 124 := by unfold oneL; rw [if_neg h, if_neg h2, h3]; simp only; rw [if_pos h4]
theorem oneL_ok {L : List Fld} {p : By} {f : Fld} (h : L.length ≠ 16) (h2 : ¬ ((cutL 61 p).2.2 = false ∨ nameL (cutL 61 p).1 = false)) (h3 : valueL (cutL 61 p).1 (cutL 61 p).2.1 = some f) (h4 : has L f.name = false) : oneL L p = (0, f) := by unfold oneL; rw [if_neg h, if_neg h2, h3]; simp only; rw [if_neg (by intro h; rw [show (L.any fun g => decide (g.name = f.name)) = false from h4] at h; cases h)]

/-- How the literal ends. -/
def OnePost (B b1 b2 bm : Nat) (L : List Fld) (p : By) (w : World) (e : Ending) (w' : World) : Prop :=
  e = .returned (.int .i64 (oneL L p).1) ∧ Below B w w' ∧ ((oneL L p).1 = 0 → St B b1 b2 bm (L ++ [(oneL L p).2]) w')

set_option maxHeartbeats 3200000 in
set_option maxRecDepth 100000 in
theorem take_any (B b1 b2 bm : Nat) (L : List Fld) (p : ByteArray) (w : World) (hE : Env w) (hBw : B ≤ w.heap.size) (hL : L.length ≤ 16) (hS : St B b1 b2 bm L w) (hp : p.size ≤ 140737488355328) :
    Calls Tryz.prog 48 #[.string p, .pointer (some ⟨b1, 0, none⟩), .pointer (some ⟨b2, 0, none⟩)] w (OnePost B b1 b2 bm L p.data.toList w) := by
  obtain ⟨v, hb1, hown⟩ := hS.out
  obtain ⟨o, c, rfl⟩ := own_shape hown
  have z1 := cell_of_one hb1
  have z2 := cell_of_one hS.var
  have HS := Lib.hid hS
  have HO := Lib.hid hown
  have HB1 := Lib.hid hb1
  clear hS hown hb1
  by_cases h16 : L.length = 16
  · have HE := Lib.hid (oneL_16 (p := p.data.toList) h16)
    have h16' : ((L.length : Int) == 16) = true := by rw [beq_iff_eq]; omega
    unfold OnePost
    rw [HE.out]
    clear h16
    go_enter Tryz.func48, Tryz.ntmps48
    go_wp2_with fail
    go_ret
    exact ⟨rfl, Below.refl _ _, fun h => by cases h⟩
  · have h16' : ((L.length : Int) == 16) = false := by rw [beq_eq_false_iff_ne]; omega
    obtain ⟨nm, hnm⟩ : ∃ nm : ByteArray, nm = ⟨(cutL 61 p.data.toList).1.toArray⟩ := ⟨_, rfl⟩
    obtain ⟨rest, hrest⟩ : ∃ r : ByteArray, r = ⟨(cutL 61 p.data.toList).2.1.toArray⟩ := ⟨_, rfl⟩
    obtain ⟨is, his⟩ : ∃ is, is = (cutL 61 p.data.toList).2.2 := ⟨_, rfl⟩
    have hnmd : nm.data.toList = (cutL 61 p.data.toList).1 := by rw [hnm]
    have hrd : rest.data.toList = (cutL 61 p.data.toList).2.1 := by rw [hrest]
    have hlen : (cutL 61 p.data.toList).1.length ≤ p.size ∧ (cutL 61 p.data.toList).2.1.length ≤ p.size := by
      have hsz := size_data p
      cases hi : (cutL 61 p.data.toList).2.2 with
      | true =>
        have := congrArg List.length (cutL_hit hi).1
        rw [List.length_append, List.length_cons] at this
        omega
      | false =>
        obtain ⟨e1, e2, _⟩ := cutL_miss hi
        rw [e1, e2]
        simp at hsz ⊢
    have hnms : nm.size ≤ 140737488355328 := by rw [← size_data, hnmd]; omega
    have hrs : rest.size ≤ 140737488355328 := by rw [← size_data, hrd]; omega
    have hcut : ∀ W, Calls Tryz.prog 49 #[.string p, .string ⟨#[61]⟩] W fun e w' => e = .returned (.tuple #[.string nm, .string rest, .bool is]) ∧ Below W.heap.size W w' := by
      intro W
      have := Cut_any p 61 W (by omega)
      rw [← his] at this
      unfold bs at this
      rw [← hnm, ← hrest] at this
      exact this
    have hname := fun W => Name_any nm W
    rw [hnmd] at hname
    clear hnm hrest hlen
    cases is with
    | false =>
      have HE := Lib.hid (oneL_cut (p := p.data.toList) h16 (.inl his.symm))
      unfold OnePost
      rw [HE.out]
      clear h16 his hnmd hrd
      go_enter Tryz.func48, Tryz.ntmps48
      go_wp2_with (go_at_call 49; refine (hcut _).mono ?_; rintro e w1 ⟨rfl, hb1⟩)
      go_ret
      exact ⟨rfl, hb1.mono hBw, fun h => by cases h⟩
    | true =>
      cases hn : nameL (cutL 61 p.data.toList).1 with
      | false =>
        have HE := Lib.hid (oneL_cut (p := p.data.toList) h16 (.inr hn))
        rw [hn] at hname
        unfold OnePost
        rw [HE.out]
        clear h16 his hnmd hrd hn
        go_enter Tryz.func48, Tryz.ntmps48
        go_wp2_with (first
          | (go_at_call 49; refine (hcut _).mono ?_; rintro e w1 ⟨rfl, hb1⟩)
          | (go_at_call 14; refine (hname _).mono ?_; rintro e w2 ⟨rfl, hb2⟩))
        go_ret
        exact ⟨rfl, (below_then hb1 hb2).mono hBw, fun h => by cases h⟩
      | true =>
        have h2 : ¬ ((cutL 61 p.data.toList).2.2 = false ∨ nameL (cutL 61 p.data.toList).1 = false) := by rw [← his, hn]; simp
        rw [hn] at hname
        have hval := fun W hW => value_any nm rest W hW hrs
        rw [hnmd, hrd] at hval
        have H16 := Lib.hid h16
        have H2 := Lib.hid h2
        have HVAL := Lib.hid hval
        clear h16 his hn h2 hrd hval
        go_enter Tryz.func48, Tryz.ntmps48
        go_wp2_with (first
          | (go_at_call 49; refine (hcut _).mono ?_; rintro e w1 ⟨rfl, hb1⟩)
          | (go_at_call 14; refine (hname _).mono ?_; rintro e w2 ⟨rfl, hb2⟩; have hE2 := hE.keep (below_then hb1 hb2); refine Hid.out ?_))
        refine Lib.hid ?_
        go_wp2_with fail
        refine (HVAL.out _ hE2).mono ?_
        rintro e w3 ⟨⟨tb, n, u, ok, rfl, hv⟩, hb3⟩
        have hBB := below_then (below_then hb1 hb2) hb3
        replace z1 := keep_cell hBB z1
        replace z2 := keep_cell hBB z2
        have hB3 : B ≤ w3.heap.size := Nat.le_trans hBw hBB.size
        cases ok with
        | false =>
          have HE := Lib.hid (oneL_val (p := p.data.toList) H16.out H2.out (by simpa using hv))
          unfold OnePost
          clear hv
          go_wp2_with fail
          go_ret
          exact ⟨by rw [HE.out]; rfl, (below_then hBB (below_alloc _ _)).mono hBw, fun h => by rw [HE.out] at h; cases h⟩
        | true =>
          simp only [if_true] at hv
          have HV := Lib.hid hv
          clear hv
          obtain ⟨W3, hW3⟩ : ∃ W3, W3 = w3.alloc (.cells #[.string nm, .bool tb, .int .i64 n, .string u] 54) := ⟨_, rfl⟩
          have hB4 : Below w3.heap.size w3 W3 := by rw [hW3]; exact below_alloc w3 _
          have hS3 := (HS.out.keep hBB).keep hB4
          have hF : W3.heap[w3.heap.size]? = some (.cells #[.string nm, .bool tb, .int .i64 n, .string u] 54 (0, 0)) := by rw [hW3]; exact heap_new w3 _
          have hsz : W3.heap.size = w3.heap.size + 1 := by rw [hW3]; simp
          replace z1 := keep_cell hB4 z1
          replace z2 := keep_cell hB4 z2
          obtain ⟨hlook, w4, hup, hgrow, hlook2, hseen⟩ := hS3.seen.count nm (by unfold maxLen; omega) hL
          obtain ⟨cnt, hcnt⟩ : ∃ cnt : Int, cnt = if has L nm.data.toList = true then 1 else 0 := ⟨_, rfl⟩
          rw [← hcnt] at hlook hup hlook2
          have hc01 : 0 ≤ cnt ∧ cnt ≤ 1 := by rw [hcnt]; split <;> decide
          obtain ⟨hc0, hc1⟩ := hc01
          have hbm1 : bm ≠ b1 := hS3.ne
          have hbm2 : bm ≠ b2 := hS3.ne2
          have hB5 : Below B w w4 := ((below_then hBB hB4).mono hBw).grown hgrow (by have := hBB.size; have := hB4.size; omega) (fun j e => by cases e; exact hS3.le3)
          have hown4 : w4.ownsRow B 54 4 (.slice o L.length c) L.length (cellsF L) := by
            refine (own_keep (own_keep HO.out hBB) hB4).kept hgrow ?_
            right
            intro e
            obtain ⟨n', D', hm, -⟩ := hS3.seen
            obtain ⟨es, clock, hb, -⟩ := hm
            rcases (own_keep (own_keep HO.out hBB) hB4).2 with ⟨h1, -⟩ | ⟨g, cap, cur, h1, -, h2, -⟩
            · rw [h1] at e; simp [Value.ownBlock] at e
            · rw [h1] at e
              simp [Value.ownBlock] at e
              rw [e, hb] at h2
              simp at h2
          have y1 : w4.heap[b1]? = some (.cells #[.slice o L.length c] 26 (0, 0)) := by
            rw [hgrow.block b1 (lt_of_block hS3.out.choose_spec.1) (by simpa using Ne.symm hbm1), hB4.block b1 (by have := lt_of_block HB1.out; have := hBB.size; omega), hBB.block b1 (lt_of_block HB1.out)]
            exact HB1.out
          have y2 : w4.heap[b2]? = some (.cells #[.map (some bm)] 98 (0, 0)) := by
            rw [hgrow.block b2 (lt_of_block hS3.var) (by simpa using Ne.symm hbm2)]
            exact hS3.var
          have hFne : w3.heap.size ≠ bm := by
            intro e
            obtain ⟨n', D', hm, -⟩ := hS3.seen
            obtain ⟨es, clock, hb, -⟩ := hm
            rw [← e, hF] at hb
            simp at hb
          have yF : w4.heap[w3.heap.size]? = some (.cells #[.string nm, .bool tb, .int .i64 n, .string u] 54 (0, 0)) := by
            rw [hgrow.block _ (by omega) (by simpa using hFne)]
            exact hF
          have c1 := cell_of_one y1
          have c2 := cell_of_one y2
          have g0 := Lib.cell_of_heap yF 0
          have g1 := Lib.cell_of_heap yF 1
          have g2 := Lib.cell_of_heap yF 2
          have g3 := Lib.cell_of_heap yF 3
          have hle := hS3.le1
          have hle2 := hS3.le2
          have hle3 := hS3.le3
          have hs4 : W3.heap.size ≤ w4.heap.size := hgrow.size
          rw [hW3] at z1 z2 hlook hup
          have HO4 := Lib.hid hown4
          have HY1 := Lib.hid y1
          have HY2 := Lib.hid y2
          have HCNT := Lib.hid hcnt
          have HSE := Lib.hid hseen
          have HS3 := Lib.hid hS3
          clear hown4 y1 y2 yF hcnt hseen hS3 hF hW3 hgrow
          by_cases hd : has L nm.data.toList = true
          · have hcg : 1 ≤ cnt := by rw [HCNT.out, if_pos hd]; decide
            have HE := Lib.hid (oneL_dup (p := p.data.toList) H16.out H2.out HV.out (by rw [← hnmd]; exact hd))
            unfold OnePost
            go_wp2_with (at_mapUpdate; refine wpList_mapUpdate_run _ rfl _ _ _ _ rfl _ _ _ rfl rfl rfl w4 hup ?_)
            go_ret
            exact ⟨by rw [HE.out]; rfl, hB5, fun h => by rw [HE.out] at h; cases h⟩
          · have hd' : has L nm.data.toList = false := by simpa using hd
            have hcl : cnt < 1 := by rw [HCNT.out, if_neg hd]; decide
            have HE := Lib.hid (oneL_ok (p := p.data.toList) H16.out H2.out HV.out (by rw [← hnmd]; exact hd'))
            obtain ⟨i0, hi, hz0, hz1, hz2⟩ := info_parts infoF
            have hlt16 : L.length < 16 := by have := H16.out; omega
            have hn1 : ∀ (j : Nat) (x : Value), ([.string nm, .bool tb, .int .i64 n, .string u] : List Value)[j]? = some x → (w4.alloc (.cells #[.string nm, .bool tb, .int .i64 n, .string u] 54)).cell? ((⟨w4.heap.size, 0, none⟩ : Addr).add j) = some x := by
              intro j x hj
              rw [Lib.add_plain, Nat.zero_add, Lib.cell_of_heap (heap_new w4 _)]
              simpa using hj
            have hn2 : ∀ x ∈ ([.string nm, .bool tb, .int .i64 n, .string u] : List Value), x.oneCell' = true := by
              intro x hx
              simp only [List.mem_cons, List.mem_nil_iff, or_false] at hx
              rcases hx with rfl | rfl | rfl | rfl <;> rfl
            have hn5 : B ≤ (w4.alloc (.cells #[.string nm, .bool tb, .int .i64 n, .string u] 54)).heap.size := by simp; omega
            have HN1 := Lib.hid hn1
            have HN2 := Lib.hid hn2
            have HN5 := Lib.hid hn5
            clear hn1 hn2 hn5
            unfold OnePost
            go_wp2_with (first
              | (at_mapUpdate; refine wpList_mapUpdate_run _ rfl _ _ _ _ rfl _ _ _ rfl rfl rfl w4 hup ?_)
              | (at_builtin; refine wpList_append_own _ rfl _ _ 26 rfl B 54 i0 (.agg #[.string ⟨#[]⟩, .bool false, .int .i64 0, .string ⟨#[]⟩]) 4 48 Tryz.underlying26 hi hz0 hz1 hz2 rfl (by decide) _ _ _ rfl (HO4.out.alloc _) ⟨w4.heap.size, 0, none⟩ 1 1 [.string nm, .bool tb, .int .i64 n, .string u] rfl rfl HN1.out HN2.out (by unfold maxLen; omega) (by omega) HN5.out ?_; intro v' w5 hown5 hgrow5 _; refine Hid.out ?_))
            refine Lib.hid ?_
            have hb1ne : (Value.slice o L.length c).ownBlock ≠ some b1 := by
              intro e
              rcases HO4.out.2 with ⟨h1, -⟩ | ⟨g, cap, cur, h1, -, h2, -⟩
              · rw [h1] at e; simp [Value.ownBlock] at e
              · rw [h1] at e
                simp [Value.ownBlock] at e
                rw [e, HY1.out] at h2
                simp at h2
            have hb2ne : (Value.slice o L.length c).ownBlock ≠ some b2 := by
              intro e
              rcases HO4.out.2 with ⟨h1, -⟩ | ⟨g, cap, cur, h1, -, h2, -⟩
              · rw [h1] at e; simp [Value.ownBlock] at e
              · rw [h1] at e
                simp [Value.ownBlock] at e
                rw [e, HY2.out] at h2
                simp at h2
            have hsn : Seen bm (L ++ [⟨nm.data.toList, tb, n, u.data.toList⟩]) w4 := HSE.out hd' _ rfl
            have hbmne : (Value.slice o L.length c).ownBlock ≠ some bm := by
              intro e
              obtain ⟨n', D', hm, -⟩ := hsn
              obtain ⟨es, clock, hb, -⟩ := hm
              rcases HO4.out.2 with ⟨h1, -⟩ | ⟨g, cap, cur, h1, -, h2, -⟩
              · rw [h1] at e; simp [Value.ownBlock] at e
              · rw [h1] at e
                simp [Value.ownBlock] at e
                rw [e, hb] at h2
                simp at h2
            have hl1 := lt_of_block HY1.out
            have hl2 := lt_of_block HY2.out
            have x1 : w5.heap[b1]? = some (.cells #[.slice o L.length c] 26 (0, 0)) := by
              rw [hgrow5.block b1 (by simp; omega) (fun e => hb1ne e.symm), Lib.alloc_old w4 _ b1 hl1]
              exact HY1.out
            have x2 : w5.heap[b2]? = some (.cells #[.map (some bm)] 98 (0, 0)) := by
              rw [hgrow5.block b2 (by simp; omega) (fun e => hb2ne e.symm), Lib.alloc_old w4 _ b2 hl2]
              exact HY2.out
            have hsn5 : Seen bm (L ++ [⟨nm.data.toList, tb, n, u.data.toList⟩]) w5 := (hsn.keep (below_alloc w4 _)).kept hgrow5 (fun e => hbmne e.symm)
            have hB6 : Below B w w5 := (hB5.alloc (by omega) _).grown hgrow5 (by simp; omega) (fun j e => (HO4.out.lt j e).1)
            have d1 := cell_of_one x1
            have e1 := free_of_one x1
            obtain ⟨o5, c5, rfl⟩ := own_shape hown5
            have HX1 := Lib.hid x1
            have HX2 := Lib.hid x2
            have HO5 := Lib.hid hown5
            clear x1 x2 hgrow5 hown5 hb1ne hb2ne hbmne c1 c2 g0 g1 g2 g3 hlook hlook2 hup z1 z2
            go_wp2_with fail
            go_ret
            refine ⟨by rw [HE.out]; rfl, hB6.setCell (p := ⟨b1, 0, none⟩) hle _, fun _ => ?_⟩
            rw [HE.out]
            have hnot : (Value.slice o5 (L.length + 1) c5).ownBlock ≠ some b1 := by
              intro e
              rcases HO5.out.2 with ⟨h1, -⟩ | ⟨g, cap, cur, h1, -, h2, -⟩
              · rw [h1] at e; simp [Value.ownBlock] at e
              · rw [h1] at e
                simp [Value.ownBlock] at e
                rw [e, HX1.out] at h2
                simp at h2
            have hbne : b2 ≠ b1 := by
              intro e
              have hx := HX1.out
              rw [← e, HX2.out] at hx
              simp at hx
            refine ⟨⟨_, one_setCell HX1.out, ?_⟩, ?_, by rw [← hnmd]; exact hsn5.set (a := ⟨b1, 0, none⟩) hbm1 _, hle, hle2, hle3, hbm1, hbm2⟩
            · have := ownsRow_setCell_other HO5.out (a := ⟨b1, 0, none⟩) hnot (.slice o5 (L.length + 1) c5)
              rw [cellsF_snoc, List.length_append]
              have ec : cellsF1 ⟨(cutL 61 p.data.toList).1, tb, n, u.data.toList⟩ = [.string nm, .bool tb, .int .i64 n, .string u] := by
                unfold cellsF1
                simp only
                rw [← hnmd, bs_data, bs_data]
              rw [ec]
              exact this
            · rw [Below.heap_setCell _ _ _ _ hbne]
              exact HX2.out
end Go.Proofs.YtfkmgnldkmpeiaaGreatDoor.W12

namespace Go.Proofs.YtfkmgnldkmpeiaaGreatDoor.W12
open Go Go.RowKit P12 Go.Sort
open Dig hiding By

/-- -1, 0 or 1: how two texts lie to each other. -/
def cmpL (a b : By) : Int := if a < b then -1 else if b < a then 1 else 0
def cmpF (a b : Fld) : Int := cmpL a.name b.name

set_option maxHeartbeats 800000 in
theorem isNaN_str (a : ByteArray) (w : World) : Calls Tryz.prog 86 #[.string a] w fun e w' => e = .returned (.bool false) ∧ w' = w := by
  go_enter Tryz.func86, Tryz.ntmps86
  go_wp2_with fail
  go_ret
  exact ⟨ret1 (vbool (by simp)), rfl⟩
set_option maxHeartbeats 1600000 in
theorem Compare_str (a b : ByteArray) (w : World) : Calls Tryz.prog 53 #[.string a, .string b] w fun e w' => e = .returned (.int .i64 (cmpL a.data.toList b.data.toList)) ∧ w' = w := by
  have e1 := bytesLess_eq a.data.toList b.data.toList
  have e2 := bytesLeq a.data.toList b.data.toList
  rw [← Lib.toList_data, ← Lib.toList_data] at e1 e2
  have k1 : a.toList = a.data.toList := Lib.toList_data a
  have k2 : b.toList = b.data.toList := Lib.toList_data b
  by_cases h1 : a.data.toList < b.data.toList
  · have hr : cmpL a.data.toList b.data.toList = -1 := by unfold cmpL; rw [if_pos h1]
    have z1 : Op.bytesLess a.toList b.toList = true := by rw [k1, k2, bytesLess_eq]; simpa using h1
    rw [hr]
    clear e1 e2 k1 k2 hr h1
    go_enter Tryz.func53, Tryz.ntmps53
    go_wp2_with (go_at_call 86; refine (isNaN_str _ _).mono ?_; rintro e w' ⟨rfl, rfl⟩)
    go_ret
    exact ⟨rfl, rfl⟩
  · have z1 : Op.bytesLess a.toList b.toList = false := by rw [k1, k2, bytesLess_eq]; simpa using h1
    by_cases h2 : b.data.toList < a.data.toList
    · have hr : cmpL a.data.toList b.data.toList = 1 := by unfold cmpL; rw [if_neg h1, if_pos h2]
      have z2 : (a.toList == b.toList) = false := by
        rw [beq_eq_false_iff_ne, k1, k2]
        intro e
        rw [e] at h2
        exact lt_irrefl' _ h2
      rw [hr]
      clear e1 e2 k1 k2 hr h1 h2
      go_enter Tryz.func53, Tryz.ntmps53
      go_wp2_with (go_at_call 86; refine (isNaN_str _ _).mono ?_; rintro e w' ⟨rfl, rfl⟩)
      go_ret
      exact ⟨rfl, rfl⟩
    · have hr : cmpL a.data.toList b.data.toList = 0 := by unfold cmpL; rw [if_neg h1, if_neg h2]
      have z2 : (a.toList == b.toList) = true := by
        rw [beq_iff_eq, k1, k2]
        rcases le_or_lt a.data.toList b.data.toList with h | h
        · rcases le_or_lt b.data.toList a.data.toList with h' | h'
          · exact List.le_antisymm h h'
          · exact absurd h' h1
        · exact absurd h h2
      rw [hr]
      clear e1 e2 k1 k2 hr h1 h2
      go_enter Tryz.func53, Tryz.ntmps53
      go_wp2_with (go_at_call 86; refine (isNaN_str _ _).mono ?_; rintro e w' ⟨rfl, rfl⟩)
      go_ret
      exact ⟨rfl, rfl⟩

set_option maxHeartbeats 1600000 in
theorem less_closure (x y : Fld) (W : World) : Calls Tryz.prog 52 #[.agg #[bs x.name, .bool x.text, .int .i64 x.n, bs x.s], .agg #[bs y.name, .bool y.text, .int .i64 y.n, bs y.s]] W fun e w' => e = .returned (.int .i64 (cmpF x y)) ∧ ∃ q os', w' = grow (W.drewN q) os' := by
  have hcon := fun W' => Compare_str ⟨x.name.toArray⟩ ⟨y.name.toArray⟩ W'
  change ∀ W', Calls _ _ _ _ fun e w' => e = .returned (.int .i64 (cmpF x y)) ∧ _ at hcon
  unfold bs at *
  generalize cmpF x y = r at hcon ⊢
  generalize (⟨x.name.toArray⟩ : ByteArray) = X at hcon ⊢
  generalize (⟨y.name.toArray⟩ : ByteArray) = Y at hcon ⊢
  go_enter Tryz.func52, Tryz.ntmps52
  go_wp2_with (go_at_call 53; refine (hcon _).mono ?_; rintro e w' ⟨rfl, rfl⟩)
  go_ret
  exact ⟨rfl, 0, _, by rw [alloc_eq_grow, alloc_eq_grow, grow_grow]; rfl⟩
instance : Inhabited Fld := ⟨zeroF⟩
theorem lays_closure (blk off size : Nat) (w : World) : CmpLays Tryz.prog 52 #[] cellsF1 4 cmpF blk off size w :=
  fun _ _ _ _ x y => less_closure x y _
theorem ltOf_cmpF (x y : Fld) : ltOf cmpF x y = decide (x.name < y.name) := by
  unfold ltOf cmpF cmpL
  by_cases h : x.name < y.name
  · simp [h]
  · by_cases h2 : y.name < x.name <;> simp [h, h2]
theorem swo_cmpF : SWO (ltOf cmpF) where
  irrefl x := by rw [ltOf_cmpF]; simp [lt_irrefl']
  trans x y z h1 h2 := by rw [ltOf_cmpF] at *; simp only [decide_eq_true_eq] at *; exact lt_trans' h1 h2
  ntrans x y z h1 h2 := by
    rw [ltOf_cmpF] at *
    simp only [decide_eq_false_iff_not] at *
    intro h
    rcases le_or_lt y.name z.name with h3 | h3
    · by_cases e : y.name = z.name
      · rw [← e] at h; exact h1 h
      · exact h2 (lt_of_le_ne h3 e)
    · exact h1 (lt_trans' h h3)

def mz (t m : Value) : Nat := match t, m with
  | .string T, .bool true => T.size + 1
  | _, _ => 0
def PartsPost (B b1 b2 bm : Nat) (r : List Fld × Int) (w : World) (e : Ending) (w' : World) : Prop :=
  e = .returned (.int .i64 r.2) ∧ Below B w w' ∧ (r.2 = 0 → St B b1 b2 bm r.1 w')
theorem foldP_cons_bad {L : List Fld} {p : By} {ps : List By} (h : (oneL L p).1 ≠ 0) : foldP L (p :: ps) = ([], (oneL L p).1) := by rw [foldP, if_pos h]
theorem foldP_cons_ok {L : List Fld} {p : By} {ps : List By} (h : (oneL L p).1 = 0) : foldP L (p :: ps) = foldP (L ++ [(oneL L p).2]) ps := by rw [foldP, if_neg (by simp [h])]

set_option maxHeartbeats 3200000 in
set_option maxRecDepth 100000 in
theorem parts_any (w0 : World) (b1 b2 bm : Nat) (text : ByteArray) (w : World) (hE0 : Env w0) (hw : Below w0.heap.size w0 w) (hS : St w0.heap.size b1 b2 bm [] w) (htext : text.size ≤ 140737488355328) :
    Calls Tryz.prog 47 #[.string text, .func (.func 48) #[] #[.pointer (some ⟨b1, 0, none⟩), .pointer (some ⟨b2, 0, none⟩)]] w (PartsPost w0.heap.size b1 b2 bm (foldP [] (partsL 38 text.data.toList)) w) := by
  unfold PartsPost
  obtain ⟨R, hR⟩ : ∃ R, R = foldP [] (partsL 38 text.data.toList) := ⟨_, rfl⟩
  rw [← hR]
  have HR := Lib.hid hR
  clear hR
  go_enter Tryz.func47, Tryz.ntmps47
  go_wp2_with fail
  go_loopw [0, 5] (fun t m wr => ∃ (T : ByteArray) (L : List Fld) (mm : Bool), t = .string T ∧ m = .bool mm ∧ T.size ≤ 140737488355328 ∧ L.length ≤ 16 ∧ St w0.heap.size b1 b2 bm L wr ∧ Below w0.heap.size w wr ∧ (if mm = true then R = foldP L (partsL 38 T.data.toList) else R = (L, 0))) (fun t m _ => mz t m)
  case atStart => exact ⟨text, [], true, rfl, rfl, htext, by simp, hS, Below.refl _ _, by rw [if_pos rfl]; exact HR.out⟩
  case round =>
    obtain ⟨T, L, mm, rfl, rfl, hT, hL, hSr, hB, hrest⟩ := hrel
    cases mm with
    | false =>
      have hr : R = (L, 0) := by simpa using hrest
      have HRR := Lib.hid hr
      clear hrest hr
      go_wp2_with fail
      go_ret
      exact ⟨by rw [HRR.out]; rfl, hB, fun _ => by rw [HRR.out]; exact hSr⟩
    | true =>
      have hr : R = foldP L (partsL 38 T.data.toList) := by simpa using hrest
      have HRR := Lib.hid hr
      clear hrest hr
      obtain ⟨P, hP⟩ : ∃ P : ByteArray, P = ⟨(cutL 38 T.data.toList).1.toArray⟩ := ⟨_, rfl⟩
      obtain ⟨Q, hQ⟩ : ∃ Q : ByteArray, Q = ⟨(cutL 38 T.data.toList).2.1.toArray⟩ := ⟨_, rfl⟩
      obtain ⟨is, his⟩ : ∃ is, is = (cutL 38 T.data.toList).2.2 := ⟨_, rfl⟩
      have hPd : P.data.toList = (cutL 38 T.data.toList).1 := by rw [hP]
      have hQd : Q.data.toList = (cutL 38 T.data.toList).2.1 := by rw [hQ]
      have hlen : (cutL 38 T.data.toList).1.length ≤ T.size ∧ (cutL 38 T.data.toList).2.1.length ≤ T.size ∧ (is = true → (cutL 38 T.data.toList).2.1.length < T.size) := by
        have hsz := size_data T
        cases hi : (cutL 38 T.data.toList).2.2 with
        | true =>
          have := congrArg List.length (cutL_hit hi).1
          rw [List.length_append, List.length_cons] at this
          omega
        | false =>
          obtain ⟨e1, e2, _⟩ := cutL_miss hi
          rw [e1, e2]
          rw [hi] at his
          rw [his]
          simp at hsz ⊢
      obtain ⟨hl1, hl2, hl3⟩ := hlen
      have hPs : P.size ≤ 140737488355328 := by rw [← size_data, hPd]; omega
      have hQs : Q.size ≤ 140737488355328 := by rw [← size_data, hQd]; omega
      have hQlt : is = true → Q.size < T.size := fun h => by rw [← size_data Q, hQd]; exact hl3 h
      have hcut : ∀ W, Calls Tryz.prog 49 #[.string T, .string ⟨#[38]⟩] W fun e w' => e = .returned (.tuple #[.string P, .string Q, .bool is]) ∧ Below W.heap.size W w' := by
        intro W
        have := Cut_any T 38 W (by omega)
        rw [← his] at this
        unfold bs at this
        rw [← hP, ← hQ] at this
        exact this
      have hEr := fun w1 (hb1 : Below wr.heap.size wr w1) => hE0.keep (hw.trans (hB.trans (hb1.mono (by have := hw.size; have := hB.size; omega))))
      have hBs : w0.heap.size ≤ wr.heap.size := by have := hw.size; have := hB.size; omega
      have hparts : partsL 38 T.data.toList = if is = true then P.data.toList :: partsL 38 Q.data.toList else [P.data.toList] := by
        cases is with
        | true => rw [if_pos rfl, partsL_hit his.symm, hPd, hQd]
        | false =>
          rw [if_neg (by simp), partsL_miss his.symm, hPd, (cutL_miss his.symm).1]
      have HPA := Lib.hid hparts
      clear hP hQ hPd hQd hl1 hl2 hl3 his hparts
      obtain ⟨E, hEE⟩ : ∃ E : Int, E = (oneL L P.data.toList).1 := ⟨_, rfl⟩
      have htake : ∀ w1, Below wr.heap.size wr w1 → Calls Tryz.prog 48 #[.string P, .pointer (some ⟨b1, 0, none⟩), .pointer (some ⟨b2, 0, none⟩)] w1 fun e w' => e = .returned (.int .i64 E) ∧ Below w0.heap.size w1 w' ∧ (E = 0 → St w0.heap.size b1 b2 bm (L ++ [(oneL L P.data.toList).2]) w') := by
        intro w1 hb1
        have := take_any w0.heap.size b1 b2 bm L P w1 (hEr w1 hb1) (by have := hb1.size; omega) hL (hSr.keep hb1) hPs
        unfold OnePost at this
        rw [← hEE] at this
        exact this
      have HEE := Lib.hid hEE
      by_cases hE0' : E = 0
      · have hne16 : L.length ≠ 16 := (oneL_zero (p := P.data.toList) (by rw [← hEE]; exact hE0')).1
        have HOK := Lib.hid (foldP_cons_ok (L := L) (p := P.data.toList) (ps := if is = true then partsL 38 Q.data.toList else []) (by rw [← hEE]; exact hE0'))
        subst hE0'
        clear hEE
        go_wp2_with (first
          | (go_at_call 49; refine (hcut _).mono ?_; rintro e w1 ⟨rfl, hb1⟩; have ht1 := htake w1 hb1)
          | (go_at_call 48; refine ht1.mono ?_; rintro e w2 ⟨rfl, hb2, hS2⟩))
        go_roundw
        case rel =>
          refine ⟨Q, L ++ [(oneL L P.data.toList).2], is, rfl, rfl, hQs, by simp; omega, hS2 trivial, (hB.trans (hb1.mono hBs)).trans hb2, ?_⟩
          cases is with
          | true => rw [if_pos rfl, HRR.out, HPA.out, if_pos rfl]; exact HOK.out
          | false =>
            rw [if_neg (by simp), HRR.out, HPA.out, if_neg (by simp)]
            have := HOK.out
            simp only [Bool.false_eq_true, if_false] at this
            rw [this]
            rfl
        case measure =>
          cases is with
          | true => have := hQlt rfl; simp [mz]; omega
          | false => simp [mz]
      · have hEb : (E == 0) = false := by rw [beq_eq_false_iff_ne]; exact hE0'
        have HBAD := Lib.hid (foldP_cons_bad (L := L) (p := P.data.toList) (ps := if is = true then partsL 38 Q.data.toList else []) (by rw [← hEE]; exact hE0'))
        have HRE : R = ([], E) := by
          rw [HRR.out, HPA.out, hEE]
          cases is with
          | true => rw [if_pos rfl]; exact HBAD.out
          | false => rw [if_neg (by simp)]; exact HBAD.out
        have HRE2 := Lib.hid HRE
        have hne := Lib.hid hE0'
        clear hEE hE0' HRE
        go_wp2_with (first
          | (go_at_call 49; refine (hcut _).mono ?_; rintro e w1 ⟨rfl, hb1⟩; have ht1 := htake w1 hb1)
          | (go_at_call 48; refine ht1.mono ?_; rintro e w2 ⟨rfl, hb2, hS2⟩))
        go_ret
        exact ⟨by rw [HRE2.out]; rfl, (hB.trans (hb1.mono hBs)).trans hb2, fun h => absurd (by rw [HRE2.out] at h; exact h) hne.out⟩
end Go.Proofs.YtfkmgnldkmpeiaaGreatDoor.W12
