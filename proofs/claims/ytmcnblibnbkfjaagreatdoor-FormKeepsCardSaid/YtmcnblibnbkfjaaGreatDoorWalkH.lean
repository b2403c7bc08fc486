/-
  Walks of layer 12: the function literal within Read: one part is taken. Conditions: the library's error values and its table; the part is within Go's own limit.
-/
import Derived.Test.YtmcnblibnbkfjaaGreatDoorWalkG
import Derived.Maps.Own
import Derived.OneCell
namespace Go.Proofs.YtmcnblibnbkfjaaGreatDoor.W12
open Go Go.RowKit Go.WideMaps Go.Maps P12
open Dig hiding By

def cellsF1 (f : Fld) : List Value := [bs f.name, .bool f.text, .int .i64 f.n, bs f.s]
def cellsF (l : List Fld) : List Value := (l.map cellsF1).flatten
theorem cellsF_snoc (l : List Fld) (f : Fld) : cellsF (l ++ [f]) = cellsF l ++ cellsF1 f := by simp [cellsF]
theorem infoF : (Tryz.prog.info? 33).map (fun i => (i.zero, i.size, i.bytes)) = some (some (.agg #[.string ⟨#[]⟩, .bool false, .int .i64 0, .string ⟨#[]⟩]), 4, 48) := by kernel_rfl
theorem law : Keyed Tryz.prog 9 := string_keyed Tryz.underlying9
theorem zero3 (w : World) : (zeroValue 3).run Tryz.prog w = .ok (.int .i64 0) w := by kernel_rfl
abbrev has (L : List Fld) (k : By) : Bool := L.any fun g => decide (g.name = k)

theorem ownsMap_setCell_other {H : Type} {w : World} {P : Program} {k : TypeId} {R : Value → Option (DataW H × List MemPlace)} {b n : Nat} {D : DataW H} (h : w.ownsMap P k R b n D) {a : Addr} (ha : b ≠ a.block) (u : Value) : (w.setCell a u).ownsMap P k R b n D := by
  obtain ⟨es, clock, hb, r⟩ := h
  exact ⟨es, clock, by rw [Below.heap_setCell _ _ _ _ ha]; exact hb, r⟩

/-- The map that counts the names: each name of L once. -/
def Seen (bm : Nat) (L : List Fld) (w : World) : Prop :=
  ∃ n D, w.ownsMap Tryz.prog 9 (plainElem (H := Unit) Tryz.prog 3) bm n D ∧ n ≤ L.length ∧ ∀ k : By, D.atKey (.string k) (.lit (.int .i64 0)) = .lit (.int .i64 (if has L k = true then 1 else 0))
theorem Seen.kept {bm : Nat} {L : List Fld} {w w' : World} {row : Option Nat} (h : Seen bm L w) (hg : w.grownBy w' row) (hne : some bm ≠ row) : Seen bm L w' := by
  obtain ⟨n, D, h1, h2, h3⟩ := h
  exact ⟨n, D, h1.kept hg hne, h2, h3⟩
theorem Seen.keep {bm : Nat} {L : List Fld} {w w' : World} (h : Seen bm L w) (hb : Below w.heap.size w w') : Seen bm L w' := h.kept (below_grown hb none) (by simp)
theorem Seen.set {bm : Nat} {L : List Fld} {w : World} (h : Seen bm L w) {a : Addr} (ha : bm ≠ a.block) (u : Value) : Seen bm L (w.setCell a u) := by
  obtain ⟨n, D, h1, h2, h3⟩ := h
  exact ⟨n, D, ownsMap_setCell_other h1 ha u, h2, h3⟩
theorem Seen.lt {bm : Nat} {L : List Fld} {w : World} (h : Seen bm L w) : bm < w.heap.size := by
  obtain ⟨n, D, h1, h2, h3⟩ := h
  exact h1.lt
theorem seen_made (w : World) : Seen w.heap.size [] (w.alloc (.map #[] 0)) :=
  ⟨0, .map [], World.ownsMap_made _ _ _ _, Nat.le_refl _, fun k => rfl⟩
/-- A name is counted on: what is found ahead, what is found behind, the map behind. -/
theorem Seen.count {bm : Nat} {L : List Fld} {w : World} (h : Seen bm L w) (s : ByteArray) (hs : s.size ≤ maxLen) (hL : L.length ≤ 16) :
    (Instr.lookup 43 (.map (some bm)) (.string s) false).run Tryz.prog w = .ok (.int .i64 (if has L s.data.toList = true then 1 else 0)) w ∧
    ∃ w', (Instr.mapUpdate 43 (.map (some bm)) (.string s) (.int .i64 ((if has L s.data.toList = true then 1 else 0) + 1))).run Tryz.prog w = .ok () w' ∧ w.grownBy w' (some bm) ∧
      (Instr.lookup 43 (.map (some bm)) (.string s) false).run Tryz.prog w' = .ok (.int .i64 ((if has L s.data.toList = true then 1 else 0) + 1)) w' ∧
      (has L s.data.toList = false → ∀ f : Fld, f.name = s.data.toList → Seen bm (L ++ [f]) w') := by
  obtain ⟨n, D, h1, h2, h3⟩ := h
  have hkey := keyOf_string_mk (P := Tryz.prog) Tryz.underlying9 hs
  obtain ⟨c, hrun, hat, -⟩ := h1.lookup_int law Tryz.underlying43 Tryz.underlying3 (zero3 _) hkey
  rw [h3] at hat
  have hc : c = if has L s.data.toList = true then 1 else 0 := by simpa using hat.symm
  subst hc
  refine ⟨hrun, ?_⟩
  obtain ⟨w', hup, hown', hgrow⟩ := h1.update law Tryz.underlying43 (by unfold maxLen; omega) hkey (plainElem_int Tryz.underlying3 (a := (if has L s.data.toList = true then 1 else 0) + 1) (by split <;> decide))
  have hD : IsMap D := by
    obtain ⟨es, clock, _, _, _, hD⟩ := h1
    exact ⟨_, hD⟩
  refine ⟨w', hup, hgrow, ?_, ?_⟩
  · obtain ⟨c2, hrun2, hat2, -⟩ := hown'.lookup_int law Tryz.underlying43 Tryz.underlying3 (zero3 _) hkey
    rw [atKey_put_same hD (by trivial)] at hat2
    have hc2 : c2 = (if has L s.data.toList = true then 1 else 0) + 1 := by simpa using hat2.symm
    rw [← hc2]
    exact hrun2
  · intro hno f hf
    refine ⟨n + 1, _, hown', by simp; omega, ?_⟩
    intro k
    by_cases hk : k = s.data.toList
    · subst hk
      rw [atKey_put_same hD (by trivial), hno]
      simp [has, hf]
    · rw [atKey_put_other (by simpa using hk), h3]
      have : (f.name = k) = False := by rw [hf]; simp [Ne.symm hk]
      simp [has, this]

/-- The two captured variables, and what they lead to. -/
structure St (B b1 b2 bm : Nat) (L : List Fld) (w : World) : Prop where
  out : ∃ v, w.heap[b1]? = some (.cells #[v] 23 (0, 0)) ∧ w.ownsRow B 33 4 v L.length (cellsF L)
  var : w.heap[b2]? = some (.cells #[.map (some bm)] 43 (0, 0))
  seen : Seen bm L w
  le1 : B ≤ b1
  le2 : B ≤ b2
  le3 : B ≤ bm
  ne : bm ≠ b1
  ne2 : bm ≠ b2
theorem St.keep {B b1 b2 bm : Nat} {L : List Fld} {w w' : World} (h : St B b1 b2 bm L w) (hb : Below w.heap.size w w') : St B b1 b2 bm L w' := by
  obtain ⟨v, h1, h2⟩ := h.out
  exact ⟨⟨v, (hb.block b1 (lt_of_block h1)).trans h1, own_keep h2 hb⟩, (hb.block b2 (lt_of_block h.var)).trans h.var, h.seen.keep hb, h.le1, h.le2, h.le3, h.ne, h.ne2⟩
theorem own_shape {w : World} {B : Nat} {e : TypeId} {size : Nat} {v : Value} {n : Nat} {xs : List Value} (h : w.ownsRow B e size v n xs) : ∃ o c, v = .slice o n c := by
  rcases h.2 with ⟨rfl, rfl⟩ | ⟨g, cap, cur, rfl, _⟩
  · exact ⟨none, 0, rfl⟩
  · exact ⟨_, _, rfl⟩

theorem wpList_mapUpdate_run {P : Program} (w : World) {ops : Array Oper} {rest : List Oper} {o : Oper} {a : Act} {Q : Exit → Act → World → Prop}
    (hg : o.guard = none) (m x v : Operand) (t : TypeId) (hop : o.op = Op.mapUpdate t m x v) (mv key val : Value) (hm : a.eval m = mv) (hx : a.eval x = key) (hv : a.eval v = val)
    (w' : World) (hrun : (Instr.mapUpdate t mv key val).run P w = .ok () w') (hK : wpList P ops Q rest (a.put o.dst undef) w') :
    wpList P ops Q (o :: rest) a w := by
  refine wpList_plain hg fun K' hK' => ?_
  unfold Oper.wp
  simp [execOp, hop, hm, hx, hv, hrun, Result.andThen]
  exact hK' _ _ hK

theorem oneL_16 {L : List Fld} {p : By} (h : L.length = 16) : (oneL L p).1 = 120 := by unfold oneL; rw [if_pos h]
theorem oneL_cut {L : List Fld} {p : By} (h : L.length ≠ 16) (h2 : (cutL 61 p).2.2 = false ∨ nameL (cutL 61 p).1 = false) : (oneL L p).1 = 121 := by unfold oneL; rw [if_neg h, if_pos h2]
theorem oneL_val {L : List Fld} {p : By} (h : L.length ≠ 16) (h2 : ¬ ((cutL 61 p).2.2 = false ∨ nameL (cutL 61 p).1 = false)) (h3 : valueL (cutL 61 p).1 (cutL 61 p).2.1 = none) : (oneL L p).1 = 122 := by unfold oneL; rw [if_neg h, if_neg h2, h3]
theorem oneL_dup {L : List Fld} {p : By} {f : Fld} (h : L.length ≠ 16) (h2 : ¬ ((cutL 61 p).2.2 = false ∨ nameL (cutL 61 p).1 = false)) (h3 : valueL (cutL 61 p).1 (cutL 61 p).2.1 = some f) (h4 : has L f.name = true) : (oneL L p).1 = 124 := by unfold oneL; rw [if_neg h, if_neg h2, h3]; simp only; rw [if_pos h4]
theorem oneL_ok {L : List Fld} {p : By} {f : Fld} (h : L.length ≠ 16) (h2 : ¬ ((cutL 61 p).2.2 = false ∨ nameL (cutL 61 p).1 = false)) (h3 : valueL (cutL 61 p).1 (cutL 61 p).2.1 = some f) (h4 : has L f.name = false) : oneL L p = (0, f) := by unfold oneL; rw [if_neg h, if_neg h2, h3]; simp only; rw [if_neg (by intro h; rw [show (L.any fun g => decide (g.name = f.name)) = false from h4] at h; cases h)]

/-- How the literal ends. -/
def OnePost (B b1 b2 bm : Nat) (L : List Fld) (p : By) (w : World) (e : Ending) (w' : World) : Prop :=
  e = .returned (.int .i64 (oneL L p).1) ∧ Below B w w' ∧ ((oneL L p).1 = 0 → St B b1 b2 bm (L ++ [(oneL L p).2]) w')

set_option maxHeartbeats 3200000 in
set_option maxRecDepth 100000 in
theorem take_any (B b1 b2 bm : Nat) (L : List Fld) (p : ByteArray) (w : World) (hE : Env w) (hBw : B ≤ w.heap.size) (hL : L.length ≤ 16) (hS : St B b1 b2 bm L w) (hp : p.size ≤ 140737488355328) :
    Calls Tryz.prog 25 #[.string p, .pointer (some ⟨b1, 0, none⟩), .pointer (some ⟨b2, 0, none⟩)] w (OnePost B b1 b2 bm L p.data.toList w) := by
  obtain ⟨v, hb1, hown⟩ := hS.out
  obtain ⟨o, c, rfl⟩ := own_shape hown
  have z1 := cell_of_one hb1
  have z2 := cell_of_one hS.var
  have HS := Lib.hid hS
  have HO := Lib.hid hown
  have HB1 := Lib.hid hb1
  clear hS hown hb1
  by_cases h16 : L.length = 16
  · have HE := Lib.hid (oneL_16 (p := p.data.toList) h16)
    have h16' : ((L.length : Int) == 16) = true := by rw [beq_iff_eq]; omega
    unfold OnePost
    rw [HE.out]
    clear h16
    go_enter Tryz.func25, Tryz.ntmps25
    go_wp2_with fail
    go_ret
    exact ⟨rfl, Below.refl _ _, fun h => by cases h⟩
  · have h16' : ((L.length : Int) == 16) = false := by rw [beq_eq_false_iff_ne]; omega
    obtain ⟨nm, hnm⟩ : ∃ nm : ByteArray, nm = ⟨(cutL 61 p.data.toList).1.toArray⟩ := ⟨_, rfl⟩
    obtain ⟨rest, hrest⟩ : ∃ r : ByteArray, r = ⟨(cutL 61 p.data.toList).2.1.toArray⟩ := ⟨_, rfl⟩
    obtain ⟨is, his⟩ : ∃ is, is = (cutL 61 p.data.toList).2.2 := ⟨_, rfl⟩
    have hnmd : nm.data.toList = (cutL 61 p.data.toList).1 := by rw [hnm]
    have hrd : rest.data.toList = (cutL 61 p.data.toList).2.1 := by rw [hrest]
    have hlen : (cutL 61 p.data.toList).1.length ≤ p.size ∧ (cutL 61 p.data.toList).2.1.length ≤ p.size := by
      have hsz := size_data p
      cases hi : (cutL 61 p.data.toList).2.2 with
      | true =>
        have := congrArg List.length (cutL_hit hi).1
        rw [List.length_append, List.length_cons] at this
        omega
      | false =>
        obtain ⟨e1, e2, _⟩ := cutL_miss hi
        rw [e1, e2]
        simp at hsz ⊢
    have hnms : nm.size ≤ 140737488355328 := by rw [← size_data, hnmd]; omega
    have hrs : rest.size ≤ 140737488355328 := by rw [← size_data, hrd]; omega
    have hcut : ∀ W, Calls Tryz.prog 26 #[.string p, .string ⟨#[61]⟩] W fun e w' => e = .returned (.tuple #[.string nm, .string rest, .bool is]) ∧ Below W.heap.size W w' := by
      intro W
      have := Cut_any p 61 W (by omega)
      rw [← his] at this
      unfold bs at this
      rw [← hnm, ← hrest] at this
      exact this
    have hname := fun W => Name_any nm W
    rw [hnmd] at hname
    clear hnm hrest hlen
    cases is with
    | false =>
      have HE := Lib.hid (oneL_cut (p := p.data.toList) h16 (.inl his.symm))
      unfold OnePost
      rw [HE.out]
      clear h16 his hnmd hrd
      go_enter Tryz.func25, Tryz.ntmps25
      go_wp2_with (go_at_call 26; refine (hcut _).mono ?_; rintro e w1 ⟨rfl, hb1⟩)
      go_ret
      exact ⟨rfl, hb1.mono hBw, fun h => by cases h⟩
    | true =>
      cases hn : nameL (cutL 61 p.data.toList).1 with
      | false =>
        have HE := Lib.hid (oneL_cut (p := p.data.toList) h16 (.inr hn))
        rw [hn] at hname
        unfold OnePost
        rw [HE.out]
        clear h16 his hnmd hrd hn
        go_enter Tryz.func25, Tryz.ntmps25
        go_wp2_with (first
          | (go_at_call 26; refine (hcut _).mono ?_; rintro e w1 ⟨rfl, hb1⟩)
          | (go_at_call 14; refine (hname _).mono ?_; rintro e w2 ⟨rfl, hb2⟩))
        go_ret
        exact ⟨rfl, (below_then hb1 hb2).mono hBw, fun h => by cases h⟩
      | true =>
        have h2 : ¬ ((cutL 61 p.data.toList).2.2 = false ∨ nameL (cutL 61 p.data.toList).1 = false) := by rw [← his, hn]; simp
        rw [hn] at hname
        have hval := fun W hW => value_any nm rest W hW hrs
        rw [hnmd, hrd] at hval
        have H16 := Lib.hid h16
        have H2 := Lib.hid h2
        have HVAL := Lib.hid hval
        clear h16 his hn h2 hrd hval
        go_enter Tryz.func25, Tryz.ntmps25
        go_wp2_with (first
          | (go_at_call 26; refine (hcut _).mono ?_; rintro e w1 ⟨rfl, hb1⟩)
          | (go_at_call 14; refine (hname _).mono ?_; rintro e w2 ⟨rfl, hb2⟩; have hE2 := hE.keep (below_then hb1 hb2); refine Hid.out ?_))
        refine Lib.hid ?_
        go_wp2_with fail
        refine (HVAL.out _ hE2).mono ?_
        rintro e w3 ⟨⟨tb, n, u, ok, rfl, hv⟩, hb3⟩
        have hBB := below_then (below_then hb1 hb2) hb3
        replace z1 := keep_cell hBB z1
        replace z2 := keep_cell hBB z2
        have hB3 : B ≤ w3.heap.size := Nat.le_trans hBw hBB.size
        cases ok with
        | false =>
          have HE := Lib.hid (oneL_val (p := p.data.toList) H16.out H2.out (by simpa using hv))
          unfold OnePost
          clear hv
          go_wp2_with fail
          go_ret
          exact ⟨by rw [HE.out]; rfl, (below_then hBB (below_alloc _ _)).mono hBw, fun h => by rw [HE.out] at h; cases h⟩
        | true =>
          simp only [if_true] at hv
          have HV := Lib.hid hv
          clear hv
          obtain ⟨W3, hW3⟩ : ∃ W3, W3 = w3.alloc (.cells #[.string nm, .bool tb, .int .i64 n, .string u] 33) := ⟨_, rfl⟩
          have hB4 : Below w3.heap.size w3 W3 := by rw [hW3]; exact below_alloc w3 _
          have hS3 := (HS.out.keep hBB).keep hB4
          have hF : W3.heap[w3.heap.size]? = some (.cells #[.string nm, .bool tb, .int .i64 n, .string u] 33 (0, 0)) := by rw [hW3]; exact heap_new w3 _
          have hsz : W3.heap.size = w3.heap.size + 1 := by rw [hW3]; simp
          replace z1 := keep_cell hB4 z1
          replace z2 := keep_cell hB4 z2
          obtain ⟨hlook, w4, hup, hgrow, hlook2, hseen⟩ := hS3.seen.count nm (by unfold maxLen; omega) hL
          obtain ⟨cnt, hcnt⟩ : ∃ cnt : Int, cnt = if has L nm.data.toList = true then 1 else 0 := ⟨_, rfl⟩
          rw [← hcnt] at hlook hup hlook2
          have hc01 : 0 ≤ cnt ∧ cnt ≤ 1 := by rw [hcnt]; split <;> decide
          obtain ⟨hc0, hc1⟩ := hc01
          have hbm1 : bm ≠ b1 := hS3.ne
          have hbm2 : bm ≠ b2 := hS3.ne2
          have hB5 : Below B w w4 := ((below_then hBB hB4).mono hBw).grown hgrow (by have := hBB.size; have := hB4.size; omega) (fun j e => by cases e; exact hS3.le3)
          have hown4 : w4.ownsRow B 33 4 (.slice o L.length c) L.length (cellsF L) := by
            refine (own_keep (own_keep HO.out hBB) hB4).kept hgrow ?_
            right
            intro e
            obtain ⟨n', D', hm, -⟩ := hS3.seen
            obtain ⟨es, clock, hb, -⟩ := hm
            rcases (own_keep (own_keep HO.out hBB) hB4).2 with ⟨h1, -⟩ | ⟨g, cap, cur, h1, -, h2, -⟩
            · rw [h1] at e; simp [Value.ownBlock] at e
            · rw [h1] at e
              simp [Value.ownBlock] at e
              rw [e, hb] at h2
              simp at h2
          have y1 : w4.heap[b1]? = some (.cells #[.slice o L.length c] 23 (0, 0)) := by
            rw [hgrow.block b1 (lt_of_block hS3.out.choose_spec.1) (by simpa using Ne.symm hbm1), hB4.block b1 (by have := lt_of_block HB1.out; have := hBB.size; omega), hBB.block b1 (lt_of_block HB1.out)]
            exact HB1.out
          have y2 : w4.heap[b2]? = some (.cells #[.map (some bm)] 43 (0, 0)) := by
            rw [hgrow.block b2 (lt_of_block hS3.var) (by simpa using Ne.symm hbm2)]
            exact hS3.var
          have hFne : w3.heap.size ≠ bm := by
            intro e
            obtain ⟨n', D', hm, -⟩ := hS3.seen
            obtain ⟨es, clock, hb, -⟩ := hm
            rw [← e, hF] at hb
            simp at hb
          have yF : w4.heap[w3.heap.size]? = some (.cells #[.string nm, .bool tb, .int .i64 n, .string u] 33 (0, 0)) := by
            rw [hgrow.block _ (by omega) (by simpa using hFne)]
            exact hF
          have c1 := cell_of_one y1
          have c2 := cell_of_one y2
          have g0 := Lib.cell_of_heap yF 0
          have g1 := Lib.cell_of_heap yF 1
          have g2 := Lib.cell_of_heap yF 2
          have g3 := Lib.cell_of_heap yF 3
          have hle := hS3.le1
          have hle2 := hS3.le2
          have hle3 := hS3.le3
          have hs4 : W3.heap.size ≤ w4.heap.size := hgrow.size
          rw [hW3] at z1 z2 hlook hup
          have HO4 := Lib.hid hown4
          have HY1 := Lib.hid y1
          have HY2 := Lib.hid y2
          have HCNT := Lib.hid hcnt
          have HSE := Lib.hid hseen
          have HS3 := Lib.hid hS3
          clear hown4 y1 y2 yF hcnt hseen hS3 hF hW3 hgrow
          by_cases hd : has L nm.data.toList = true
          · have hcg : 1 ≤ cnt := by rw [HCNT.out, if_pos hd]; decide
            have HE := Lib.hid (oneL_dup (p := p.data.toList) H16.out H2.out HV.out (by rw [← hnmd]; exact hd))
            unfold OnePost
            go_wp2_with (at_mapUpdate; refine wpList_mapUpdate_run _ rfl _ _ _ _ rfl _ _ _ rfl rfl rfl w4 hup ?_)
            go_ret
            exact ⟨by rw [HE.out]; rfl, hB5, fun h => by rw [HE.out] at h; cases h⟩
          · have hd' : has L nm.data.toList = false := by simpa using hd
            have hcl : cnt < 1 := by rw [HCNT.out, if_neg hd]; decide
            have HE := Lib.hid (oneL_ok (p := p.data.toList) H16.out H2.out HV.out (by rw [← hnmd]; exact hd'))
            obtain ⟨i0, hi, hz0, hz1, hz2⟩ := info_parts infoF
            have hlt16 : L.length < 16 := by have := H16.out; omega
            have hn1 : ∀ (j : Nat) (x : Value), ([.string nm, .bool tb, .int .i64 n, .string u] : List Value)[j]? = some x → (w4.alloc (.cells #[.string nm, .bool tb, .int .i64 n, .string u] 33)).cell? ((⟨w4.heap.size, 0, none⟩ : Addr).add j) = some x := by
              intro j x hj
              rw [Lib.add_plain, Nat.zero_add, Lib.cell_of_heap (heap_new w4 _)]
              simpa using hj
            have hn2 : ∀ x ∈ ([.string nm, .bool tb, .int .i64 n, .string u] : List Value), x.oneCell' = true := by
              intro x hx
              simp only [List.mem_cons, List.mem_nil_iff, or_false] at hx
              rcases hx with rfl | rfl | rfl | rfl <;> rfl
            have hn5 : B ≤ (w4.alloc (.cells #[.string nm, .bool tb, .int .i64 n, .string u] 33)).heap.size := by simp; omega
            have HN1 := Lib.hid hn1
            have HN2 := Lib.hid hn2
            have HN5 := Lib.hid hn5
            clear hn1 hn2 hn5
            unfold OnePost
            go_wp2_with (first
              | (at_mapUpdate; refine wpList_mapUpdate_run _ rfl _ _ _ _ rfl _ _ _ rfl rfl rfl w4 hup ?_)
              | (at_builtin; refine wpList_append_own _ rfl _ _ 23 rfl B 33 i0 (.agg #[.string ⟨#[]⟩, .bool false, .int .i64 0, .string ⟨#[]⟩]) 4 48 Tryz.underlying23 hi hz0 hz1 hz2 rfl (by decide) _ _ _ rfl (HO4.out.alloc _) ⟨w4.heap.size, 0, none⟩ 1 1 [.string nm, .bool tb, .int .i64 n, .string u] rfl rfl HN1.out HN2.out (by unfold maxLen; omega) (by omega) HN5.out ?_; intro v' w5 hown5 hgrow5 _; refine Hid.out ?_))
            refine Lib.hid ?_
            have hb1ne : (Value.slice o L.length c).ownBlock ≠ some b1 := by
              intro e
              rcases HO4.out.2 with ⟨h1, -⟩ | ⟨g, cap, cur, h1, -, h2, -⟩
              · rw [h1] at e; simp [Value.ownBlock] at e
              · rw [h1] at e
                simp [Value.ownBlock] at e
                rw [e, HY1.out] at h2
                simp at h2
            have hb2ne : (Value.slice o L.length c).ownBlock ≠ some b2 := by
              intro e
              rcases HO4.out.2 with ⟨h1, -⟩ | ⟨g, cap, cur, h1, -, h2, -⟩
              · rw [h1] at e; simp [Value.ownBlock] at e
              · rw [h1] at e
                simp [Value.ownBlock] at e
                rw [e, HY2.out] at h2
                simp at h2
            have hsn : Seen bm (L ++ [⟨nm.data.toList, tb, n, u.data.toList⟩]) w4 := HSE.out hd' _ rfl
            have hbmne : (Value.slice o L.length c).ownBlock ≠ some bm := by
              intro e
              obtain ⟨n', D', hm, -⟩ := hsn
              obtain ⟨es, clock, hb, -⟩ := hm
              rcases HO4.out.2 with ⟨h1, -⟩ | ⟨g, cap, cur, h1, -, h2, -⟩
              · rw [h1] at e; simp [Value.ownBlock] at e
              · rw [h1] at e
                simp [Value.ownBlock] at e
                rw [e, hb] at h2
                simp at h2
            have hl1 := lt_of_block HY1.out
            have hl2 := lt_of_block HY2.out
            have x1 : w5.heap[b1]? = some (.cells #[.slice o L.length c] 23 (0, 0)) := by
              rw [hgrow5.block b1 (by simp; omega) (fun e => hb1ne e.symm), Lib.alloc_old w4 _ b1 hl1]
              exact HY1.out
            have x2 : w5.heap[b2]? = some (.cells #[.map (some bm)] 43 (0, 0)) := by
              rw [hgrow5.block b2 (by simp; omega) (fun e => hb2ne e.symm), Lib.alloc_old w4 _ b2 hl2]
              exact HY2.out
            have hsn5 : Seen bm (L ++ [⟨nm.data.toList, tb, n, u.data.toList⟩]) w5 := (hsn.keep (below_alloc w4 _)).kept hgrow5 (fun e => hbmne e.symm)
            have hB6 : Below B w w5 := (hB5.alloc (by omega) _).grown hgrow5 (by simp; omega) (fun j e => (HO4.out.lt j e).1)
            have d1 := cell_of_one x1
            have e1 := free_of_one x1
            obtain ⟨o5, c5, rfl⟩ := own_shape hown5
            have HX1 := Lib.hid x1
            have HX2 := Lib.hid x2
            have HO5 := Lib.hid hown5
            clear x1 x2 hgrow5 hown5 hb1ne hb2ne hbmne c1 c2 g0 g1 g2 g3 hlook hlook2 hup z1 z2
            go_wp2_with fail
            go_ret
            refine ⟨by rw [HE.out]; rfl, hB6.setCell (p := ⟨b1, 0, none⟩) hle _, fun _ => ?_⟩
            rw [HE.out]
            have hnot : (Value.slice o5 (L.length + 1) c5).ownBlock ≠ some b1 := by
              intro e
              rcases HO5.out.2 with ⟨h1, -⟩ | ⟨g, cap, cur, h1, -, h2, -⟩
              · rw [h1] at e; simp [Value.ownBlock] at e
              · rw [h1] at e
                simp [Value.ownBlock] at e
                rw [e, HX1.out] at h2
                simp at h2
            have hbne : b2 ≠ b1 := by
              intro e
              have hx := HX1.out
              rw [← e, HX2.out] at hx
              simp at hx
            refine ⟨⟨_, one_setCell HX1.out, ?_⟩, ?_, by rw [← hnmd]; exact hsn5.set (a := ⟨b1, 0, none⟩) hbm1 _, hle, hle2, hle3, hbm1, hbm2⟩
            · have := ownsRow_setCell_other HO5.out (a := ⟨b1, 0, none⟩) hnot (.slice o5 (L.length + 1) c5)
              rw [cellsF_snoc, List.length_append]
              have ec : cellsF1 ⟨(cutL 61 p.data.toList).1, tb, n, u.data.toList⟩ = [.string nm, .bool tb, .int .i64 n, .string u] := by
                unfold cellsF1
                simp only
                rw [← hnmd, bs_data, bs_data]
              rw [ec]
              exact this
            · rw [Below.heap_setCell _ _ _ _ hbne]
              exact HX2.out
end Go.Proofs.YtmcnblibnbkfjaaGreatDoor.W12
