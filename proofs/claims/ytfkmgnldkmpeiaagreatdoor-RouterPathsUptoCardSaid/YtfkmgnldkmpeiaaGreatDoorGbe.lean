/-
  Walks of layer 20: the reference's call, all ways. Conditions: sixteen times the path's length is within Go's own limit.
  Walks of layer 20: the reference's ranged. Conditions: sixteen times the query's length is within Go's own limit.
  Walks of layer 20: the reference's digits. Conditions: none but Go's own limit.
-/
import Derived.Test.YtfkmgnldkmpeiaaGreatDoorGbd
import Derived.Test.YtfkmgnldkmpeiaaGreatDoorGat
import Derived.Test.YtfkmgnldkmpeiaaGreatDoorGar
import Derived.Test.YtfkmgnldkmpeiaaGreatDoorGan
import Derived.Test.YtfkmgnldkmpeiaaGreatDoorGas

namespace Go.Proofs.YtfkmgnldkmpeiaaGreatDoor.W20
open Go Go.RowKit P12 P18 P20 W12

/-- What the reference's call comes to. -/
def CallPo (s : By) (w : World) (e : Ending) (w' : World) : Prop :=
  ∃ (C : Cl) (m : ByteArray), e = .returned (.tuple #[.agg (clC C (.slice none 0 0)), .string m]) ∧ ((findC s = none ∧ C = zeroC ∧ m.data.toList = []) ∨ ∃ post, findC s = some (C, post) ∧ m.data.toList = methodOf post) ∧ Below w.heap.size w w'
theorem po_no {s : By} {w : World} {f : FuncId} {args : Array Value} (h : findC s = none) (hc : Calls Tryz.prog f args w fun e w' => e = .returned (.tuple #[.agg zeroCl, .string ⟨#[]⟩]) ∧ Below w.heap.size w w') : Calls Tryz.prog f args w (CallPo s w) :=
  hc.mono fun _ _ ⟨he, hb⟩ => ⟨zeroC, ⟨#[]⟩, he, .inl ⟨h, rfl, rfl⟩, hb⟩
theorem po_yes {s : By} {w : World} {f : FuncId} {args : Array Value} {C : Cl} {post : Bool} {m : ByteArray} (h : findC s = some (C, post)) (hm : m.data.toList = methodOf post) (hc : Calls Tryz.prog f args w fun e w' => e = .returned (.tuple #[.agg (clC C (.slice none 0 0)), .string m]) ∧ Below w.heap.size w w') : Calls Tryz.prog f args w (CallPo s w) :=
  hc.mono fun _ _ ⟨he, hb⟩ => ⟨C, m, he, .inr ⟨post, h, hm⟩, hb⟩
theorem refCall_any (s : ByteArray) (hs : s.size ≤ 1000000000000) (w : World) : Calls Tryz.prog 32 #[.string s] w (CallPo s.data.toList w) := by
  cases hp : partsU s.data.toList with
  | none => exact po_no (find_no hp) (rc_none s w (noParts hs hp))
  | some us =>
    have hh := hasParts hs hp
    have hf : findC s.data.toList = callL us := by unfold findC; rw [hp]; rfl
    match us, hh, hf with
    | [], hh, hf => exact po_no (hf.trans rfl) (rc_many s [] w hh (by simp) (by simp) (by simp))
    | [a], hh, hf =>
      by_cases h1 : a = kLog
      · subst h1
        exact po_yes (C := { zeroC with kind := 4, most := 50 }) (post := false) (m := getB) (hf.trans (by decide)) rfl (rc_log s ⟨kLog.toArray⟩ w hh rfl)
      by_cases h2 : a = kStreams
      · subst h2
        exact po_yes (C := { zeroC with kind := 7 }) (post := false) (m := getB) (hf.trans (by decide)) rfl (rc_streams s ⟨kStreams.toArray⟩ w hh rfl)
      by_cases h3 : a = kPing
      · subst h3
        exact po_yes (C := { zeroC with kind := 8 }) (post := false) (m := getB) (hf.trans (by decide)) rfl (rc_ping s ⟨kPing.toArray⟩ w hh rfl)
      exact po_no (hf.trans (by simp [callL, h1, h2, h3])) (rc_1 s ⟨a.toArray⟩ w hh h1 h2 h3)
    | [a, b], hh, hf =>
      by_cases h1 : a = kS
      · subst h1
        cases hb : fitsL b with
        | true => exact po_yes (C := { zeroC with kind := 2, stream := b }) (post := false) (m := getB) (hf.trans (by simp [callL, hb])) rfl (rc_s_yes s ⟨kS.toArray⟩ ⟨b.toArray⟩ w hh rfl hb)
        | false => exact po_no (hf.trans (by simp [callL, hb])) (rc_s_no s ⟨kS.toArray⟩ ⟨b.toArray⟩ w hh rfl hb)
      by_cases h2 : a = kE
      · subst h2
        cases hb : fitsL b with
        | true => exact po_yes (C := { zeroC with kind := 3, stream := b, most := 50 }) (post := false) (m := getB) (hf.trans (by simp [callL, hb, h1])) rfl (rc_e_yes s ⟨kE.toArray⟩ ⟨b.toArray⟩ w hh rfl hb)
        | false => exact po_no (hf.trans (by simp [callL, hb, h1])) (rc_e_no s ⟨kE.toArray⟩ ⟨b.toArray⟩ w hh rfl hb)
      by_cases h3 : a = kP
      · subst h3
        cases hb : nameL b with
        | true => exact po_yes (C := { zeroC with kind := 5, view := b }) (post := false) (m := getB) (hf.trans (by simp [callL, hb, h1, h2])) rfl (rc_v_yes s ⟨kP.toArray⟩ ⟨b.toArray⟩ w hh rfl hb)
        | false => exact po_no (hf.trans (by simp [callL, hb, h1, h2])) (rc_v_no s ⟨kP.toArray⟩ ⟨b.toArray⟩ w hh rfl hb)
      exact po_no (hf.trans (by simp [callL, h1, h2, h3])) (rc_2 s ⟨a.toArray⟩ ⟨b.toArray⟩ w hh h1 h2 h3)
    | [a, b, c], hh, hf =>
      by_cases h1 : a = kC
      · subst h1
        cases hb : fitsL b with
        | true =>
          cases hc : nameL c with
          | true => exact po_yes (C := { zeroC with kind := 1, cstream := b, cname := c, cexp := -1 }) (post := true) (m := postB) (hf.trans (by simp [callL, hb, hc])) rfl (rc_c_yes s ⟨kC.toArray⟩ ⟨b.toArray⟩ ⟨c.toArray⟩ w hh rfl hb hc)
          | false => exact po_no (hf.trans (by simp [callL, hb, hc])) (rc_c_noname s ⟨kC.toArray⟩ ⟨b.toArray⟩ ⟨c.toArray⟩ w hh rfl hb hc)
        | false => exact po_no (hf.trans (by simp [callL, hb])) (rc_c_nofit s ⟨kC.toArray⟩ ⟨b.toArray⟩ ⟨c.toArray⟩ w hh rfl hb)
      by_cases h2 : a = kP
      · subst h2
        cases hb : nameL b with
        | true =>
          cases hc : fitsL c with
          | true => exact po_yes (C := { zeroC with kind := 6, view := b, key := c }) (post := false) (m := getB) (hf.trans (by simp [callL, hb, hc, h1])) rfl (rc_p_yes s ⟨kP.toArray⟩ ⟨b.toArray⟩ ⟨c.toArray⟩ w hh rfl hb hc)
          | false => exact po_no (hf.trans (by simp [callL, hb, hc, h1])) (rc_p_nofit s ⟨kP.toArray⟩ ⟨b.toArray⟩ ⟨c.toArray⟩ w hh rfl hb hc)
        | false => exact po_no (hf.trans (by simp [callL, hb, h1])) (rc_p_noname s ⟨kP.toArray⟩ ⟨b.toArray⟩ ⟨c.toArray⟩ w hh rfl hb)
      exact po_no (hf.trans (by simp [callL, h1, h2])) (rc_3 s ⟨a.toArray⟩ ⟨b.toArray⟩ ⟨c.toArray⟩ w hh h1 h2)
    | a :: b :: c :: d :: r, hh, hf => exact po_no (hf.trans rfl) (rc_many s _ w hh (by simp) (by simp) (by simp))
end Go.Proofs.YtfkmgnldkmpeiaaGreatDoor.W20

namespace Go.Proofs.YtfkmgnldkmpeiaaGreatDoor.W20
open Go Go.RowKit P12 P18 P20 W12

theorem no_bool {c : Cl} {i : Nat} {b : Bool} : (clC c (.slice none 0 0))[i]? ≠ some (.bool b) := by
  intro h
  have := Array.mem_of_getElem? h
  simp [clC] at this
/-- A list of fields does not lie where a call lies. -/
theorem rows_apart {g off N : Nat} {l : List Fld} {f : Fld} {k : Nat} {c : Cl} {w : World} (hf : l[k]? = some f) (h1 : w.cell? ⟨g, off + k * 4 + 1, none⟩ = some (.bool f.text)) (hc : StAt tCl N (clC c (.slice none 0 0)) w) : g ≠ N := by
  rintro rfl
  rw [Lib.cell_of_heap hc] at h1
  exact no_bool h1
theorem rows_put {P k : Nat} {u : Value} {o : Option Addr} {n cp : Nat} {l : List Fld} {w : World} (h : W12.Rows (.slice o n cp) l w) (hf : ∀ a, o = some a → a.block ≠ P) : W12.Rows (.slice o n cp) l (w.setCell ⟨P, k, none⟩ u) := by
  obtain ⟨o', c, e, h0⟩ := h
  injection e with e1 e2 e3
  subst e1 e2 e3
  refine ⟨o, _, rfl, h0.imp id ?_⟩
  rintro ⟨g, off, rfl, h1⟩
  have hg : g ≠ P := hf ⟨g, off, none⟩ rfl
  refine ⟨g, off, rfl, fun j f hj => ?_⟩
  obtain ⟨a, b, c, d⟩ := h1 j f hj
  have hne : ∀ i, (⟨P, k, none⟩ : Addr) ≠ ⟨g, i, none⟩ := fun i e => by injection e with e1; exact hg e1.symm
  exact ⟨by rw [World.cell?_setCell_other _ _ _ _ (hne _)]; exact a, by rw [World.cell?_setCell_other _ _ _ _ (hne _)]; exact b, by rw [World.cell?_setCell_other _ _ _ _ (hne _)]; exact c, by rw [World.cell?_setCell_other _ _ _ _ (hne _)]; exact d⟩
/-- What the reference's ranged comes to. -/
def RefRangedPost (C : Cl) (q : By) (w : World) (e : Ending) (w' : World) : Prop :=
  ∃ (x : Int × Int) (ok : Bool), e = .returned (.tuple #[.agg (clC (Dc C x) (.slice none 0 0)), .bool ok]) ∧ (ok = true → rangedL C.most q = some x) ∧ (ok = false → rangedL C.most q = none) ∧ Below w.heap.size w w'
theorem rr_no {C : Cl} {q : By} {w w' : World} (x : Int × Int) (h : rangedL C.most q = none) (hb : Below w.heap.size w w') : RefRangedPost C q w (.returned (.tuple #[.agg (clC (Dc C x) (.slice none 0 0)), .bool false])) w' := ⟨x, false, rfl, fun h => (by cases h), fun _ => h, hb⟩
theorem rr_yes {C : Cl} {q : By} {w w' : World} (x : Int × Int) (h : rangedL C.most q = some x) (hb : Below w.heap.size w w') : RefRangedPost C q w (.returned (.tuple #[.agg (clC (Dc C x) (.slice none 0 0)), .bool true])) w' := ⟨x, true, rfl, fun _ => h, fun h => (by cases h), hb⟩
set_option maxHeartbeats 6400000 in
set_option maxRecDepth 100000 in
theorem refRanged_any (C : Cl) (q : ByteArray) (w : World) (hq : q.size ≤ 1000000000000) (hfr : C.frm = 0) :
    Calls Tryz.prog 33 #[.agg (clC C (.slice none 0 0)), .string q] w (RefRangedPost C q.data.toList w) := by
  have hrd := fun W => refRead_any q W hq
  rw [show refReadL q.data.toList = readL q.data.toList from refRead_eq _] at hrd
  obtain ⟨l, hl⟩ : ∃ l, l = (readL q.data.toList).1 := ⟨_, rfl⟩
  obtain ⟨er, her⟩ : ∃ er, er = (readL q.data.toList).2 := ⟨_, rfl⟩
  rw [← hl, ← her] at hrd
  have h16 : l.length ≤ 16 := by rw [hl]; exact (read_ok q.data.toList).1
  have hres := ranged_eq C.most q.data.toList
  rw [← hl, ← her] at hres
  obtain ⟨w1, hw1⟩ : ∃ w1, w1 = (w.alloc (.cells (clC C (.slice none 0 0)) tCl)).alloc (.cells zeroCl tCl) := ⟨_, rfl⟩
  have hb1 : Below w.heap.size w w1 := by rw [hw1]; exact below_then (below_alloc _ _) (below_alloc _ _)
  have hc1 : StAt tCl w.heap.size (clC C (.slice none 0 0)) w1 := by rw [hw1]; exact keep_at (new_at w _ _) (below_alloc _ _)
  have hx1 : StAt tCl (w.heap.size + 1) zeroCl w1 := by
    have := new_at (w.alloc (.cells (clC C (.slice none 0 0)) tCl)) zeroCl tCl
    rw [World.size_alloc] at this
    rw [hw1]
    exact this
  have hre := hrd w1
  rw [hw1] at hre
  have HR := Lib.hid hres
  have HRD := Lib.hid hre
  have HD : Hid (Dc C (0, C.most) = C) := Lib.hid (by cases C; simp only at hfr; subst hfr; rfl)
  have HW := Lib.hid hw1
  clear hl her hrd hres hre
  obtain ⟨n, hn⟩ : ∃ n, n = l.length := ⟨_, rfl⟩
  rw [← hn] at h16
  have HN := Lib.hid hn
  clear hn
  go_enter Tryz.func33, Tryz.ntmps33
  go_wp2_with (go_at_call 71; refine HRD.out.mono ?_; rintro e w2 ⟨v, rfl, hrw, hb2⟩; refine Hid.out ?_)
  refine Lib.hid ?_
  rw [← hw1] at hb2
  have hc2 := keep_at hc1 hb2
  have hx2 := keep_at hx1 hb2
  have hbA := below_then hb1 hb2
  obtain ⟨o, cp, rfl, hcl⟩ := id hrw
  rw [← HN.out] at hrw ⊢
  have HRW := Lib.hid hrw
  clear hrw hcl hc1 hx1 hb1 hb2 hw1 HW HRD
  by_cases he : er = 0
  · subst he
    have hcd : StAt tCl w.heap.size (clC (Dc C (0, C.most)) (.slice none 0 0)) w2 := by rw [HD.out]; exact hc2
    have hR2 : Hid (rangedL C.most q.data.toList = capR (rangeGo l (0, C.most))) := Lib.hid (by rw [HR.out, if_neg (by simp)])
    clear hc2 HR
    go_wp2_with fail
    go_loopw [8] (fun i wr => ∃ (k : Nat) (x : Int × Int), k ≤ n ∧ i = .int .i64 k ∧ StAt tCl w.heap.size (clC (Dc C x) (.slice none 0 0)) wr ∧ StAt tCl (w.heap.size + 1) zeroCl wr ∧ Below w.heap.size w wr ∧ W12.Rows (.slice o n cp) l wr ∧ Hid (rangeGo l (0, C.most) = rangeGo (l.drop k) x)) (fun i _ => n - (intOf i).toNat)
    case atStart => exact ⟨0, (0, C.most), by omega, rfl, hcd, hx2, hbA, HRW.out, Lib.hid rfl⟩
    case round =>
      clear hcd hx2 hbA
      obtain ⟨k, x, hk, rfl, hc, hx, hb, hr, HG⟩ := hrel
      by_cases hkn : k < n
      · obtain ⟨f, hf⟩ : ∃ f, l[k]? = some f := ⟨_, List.getElem?_eq_getElem (by rw [← HN.out]; exact hkn)⟩
        have hdr : l.drop k = f :: l.drop (k + 1) := by
          rw [List.drop_eq_getElem_cons (by rw [← HN.out]; exact hkn)]
          congr 1
          rw [List.getElem?_eq_getElem (by rw [← HN.out]; exact hkn)] at hf
          exact Option.some.inj hf
        obtain ⟨g, off, rfl, hcl⟩ : ∃ g off, o = some ⟨g, off, none⟩ ∧ ∀ (j : Nat) (f : Fld), l[j]? = some f → wr.cell? ⟨g, off + j * 4, none⟩ = some (bs f.name) ∧ wr.cell? ⟨g, off + j * 4 + 1, none⟩ = some (.bool f.text) ∧ wr.cell? ⟨g, off + j * 4 + 2, none⟩ = some (.int .i64 f.n) ∧ wr.cell? ⟨g, off + j * 4 + 3, none⟩ = some (bs f.s) := by
          obtain ⟨o', c', e', h⟩ := hr
          injection e' with e1 e2 e3
          subst e1
          exact h.resolve_left (by rintro rfl; simp at hf)
        obtain ⟨a0, a1, a2, a3⟩ := hcl k f hf
        have hgP : g ≠ w.heap.size := rows_apart hf a1 hc
        have hfo : ∀ a : Addr, some (⟨g, off, none⟩ : Addr) = some a → a.block ≠ w.heap.size := fun a e => by injection e with e; subst e; exact hgP
        obtain ⟨A, hA⟩ : ∃ A : ByteArray, A = ⟨f.name.toArray⟩ := ⟨_, rfl⟩
        simp only [bs] at a0
        rw [← hA] at a0
        have hAd : A.toList = f.name := by rw [Lib.toList_data, hA]
        have hk1 : (k : Int) < (n : Int) := by omega
        have hk0 : (0 : Int) ≤ (k : Int) := by omega
        have hPw := at_lt hc
        have h7 : wr.cell? ⟨w.heap.size, 7, none⟩ = some (.int .i64 x.1) := Lib.cell_of_heap hc 7
        have h8 : wr.cell? ⟨w.heap.size, 8, none⟩ = some (.int .i64 x.2) := Lib.cell_of_heap hc 8
        have hz7 := Lib.frozen_of_heap hc 7
        have hz8 := Lib.frozen_of_heap hc 8
        obtain ⟨ft, hft⟩ : ∃ ft, ft = f.text := ⟨_, rfl⟩
        obtain ⟨fn, hfn⟩ : ∃ fn, fn = f.n := ⟨_, rfl⟩
        rw [← hft] at a1
        rw [← hfn] at a2
        have HC1 := Lib.hid hc
        have HX1 := Lib.hid hx
        have HR1 := Lib.hid hr
        have HFO := Lib.hid hfo
        have HFT := Lib.hid hft
        have HFN := Lib.hid hfn
        have HDR := Lib.hid hdr
        have HAD := Lib.hid hAd
        clear hc hx hr hfo hft hfn hdr hAd hA hf hcl a3
        have HNO := Lib.hid (fun h : (f.text = true ∨ (f.name ≠ kFrom ∧ f.name ≠ kMost)) => show rangedL C.most q.data.toList = none by
          rw [hR2.out, HG.out, HDR.out, range_stop h]
          rfl)
        cases ft with
        | true =>
          have hc := HC1.out
          have hx := HX1.out
          have HN2 := Lib.hid (HNO.out (.inl HFT.out.symm))
          go_wp2_with (first
            | (refine wpList_load_row rfl _ _ rfl w.heap.size rfl _ _ _ _ hc Tryz.underlying30 rfl infoCl ?_)
            | (refine put_st rfl _ _ _ rfl (w.heap.size + 1) (clC (Dc C x) (.slice none 0 0)) rfl rfl hx infoCl rfl (by simp [Value.oneCell']) ?_; intro w9 h1 h2 h3))
          exact bodyPost_ret (v := .tuple #[.agg (clC (Dc C x) (.slice none 0 0)), .bool false]) (ret_st2 Tryz.results33 _ _ _ _ rfl (load_cl h1 rfl)) rfl (rr_no x HN2.out (hb.trans (h2.mono (Nat.le_succ _))))
        | false =>
          by_cases g1 : f.name = kFrom
          · have hz : A.toList = [102, 114, 111, 109] := by rw [HAD.out, g1]; rfl
            have HS := Lib.hid (set_frm (n := fn) HC1.out)
            have HSX := Lib.hid ((heap_setCell_other wr ⟨w.heap.size, 7, none⟩ (w.heap.size + 1) (.int .i64 fn) (by show w.heap.size + 1 ≠ w.heap.size; omega)).trans HX1.out)
            have HRS := Lib.hid (rows_put (k := 7) (u := .int .i64 fn) HR1.out HFO.out)
            have HG2 := Lib.hid ((HG.out.trans (congrArg (fun z => rangeGo z x) HDR.out)).trans (range_from HFT.out.symm g1))
            rw [← HFN.out] at HG2
            have hb3 : Below w.heap.size w (wr.setCell ⟨w.heap.size, 7, none⟩ (.int .i64 fn)) := hb.setCell (p := ⟨w.heap.size, 7, none⟩) (Nat.le_refl _) _
            clear g1
            go_wp2_with fail
            go_roundw
            case rel => exact ⟨k + 1, (fn, x.2), by omega, by go_num, HS.out, HSX.out, hb3, HRS.out, HG2⟩
            case measure => simp [intOf]; omega
          · have hz : ¬ A.toList = [102, 114, 111, 109] := by rw [HAD.out]; exact g1
            have hzb : (A.toList == [102, 114, 111, 109]) = false := beq_eq_false_iff_ne.2 hz
            have hzc : (A.toList != [102, 114, 111, 109]) = true := by rw [bne, hzb]; rfl
            by_cases g2 : f.name = kMost
            · have hz2 : A.toList = [109, 111, 115, 116] := by rw [HAD.out, g2]; rfl
              have HS := Lib.hid (set_most (n := fn) HC1.out)
              have HSX := Lib.hid ((heap_setCell_other wr ⟨w.heap.size, 8, none⟩ (w.heap.size + 1) (.int .i64 fn) (by show w.heap.size + 1 ≠ w.heap.size; omega)).trans HX1.out)
              have HRS := Lib.hid (rows_put (k := 8) (u := .int .i64 fn) HR1.out HFO.out)
              have HG2 := Lib.hid ((HG.out.trans (congrArg (fun z => rangeGo z x) HDR.out)).trans (range_most HFT.out.symm g1 g2))
              rw [← HFN.out] at HG2
              have hb3 : Below w.heap.size w (wr.setCell ⟨w.heap.size, 8, none⟩ (.int .i64 fn)) := hb.setCell (p := ⟨w.heap.size, 8, none⟩) (Nat.le_refl _) _
              clear g1 g2 hz hzb hzc
              go_wp2_with fail
              go_roundw
              case rel => exact ⟨k + 1, (x.1, fn), by omega, by go_num, HS.out, HSX.out, hb3, HRS.out, HG2⟩
              case measure => simp [intOf]; omega
            · have hz2 : ¬ A.toList = [109, 111, 115, 116] := by rw [HAD.out]; exact g2
              have hzb2 : (A.toList == [109, 111, 115, 116]) = false := beq_eq_false_iff_ne.2 hz2
              have hzc2 : (A.toList != [109, 111, 115, 116]) = true := by rw [bne, hzb2]; rfl
              have HN2 := Lib.hid (HNO.out (.inr ⟨g1, g2⟩))
              have hc := HC1.out
              have hx := HX1.out
              clear g1 g2
              go_wp2_with (first
                | (refine wpList_load_row rfl _ _ rfl w.heap.size rfl _ _ _ _ hc Tryz.underlying30 rfl infoCl ?_)
                | (refine put_st rfl _ _ _ rfl (w.heap.size + 1) (clC (Dc C x) (.slice none 0 0)) rfl rfl hx infoCl rfl (by simp [Value.oneCell']) ?_; intro w9 h1 h2 h3))
              exact bodyPost_ret (v := .tuple #[.agg (clC (Dc C x) (.slice none 0 0)), .bool false]) (ret_st2 Tryz.results33 _ _ _ _ rfl (load_cl h1 rfl)) rfl (rr_no x HN2.out (hb.trans (h2.mono (Nat.le_succ _))))
      · obtain rfl : k = n := by omega
        have hfin : rangeGo l (0, C.most) = some x := by rw [HG.out, List.drop_eq_nil_of_le (by rw [← HN.out]; exact Nat.le_refl _)]; rfl
        have hrg : rangedL C.most q.data.toList = if 0 ≤ x.1 ∧ 1 ≤ x.2 ∧ x.2 ≤ 50 then some x else none := by rw [hR2.out, hfin]; rfl
        have HRG := Lib.hid hrg
        obtain ⟨x1, x2⟩ := x
        obtain ⟨k0, k1, k2, k3, k4, k5, k6, k7, k8, k9, k10⟩ := cl_cells hc
        obtain ⟨hs0, hs1, hs2, hs3, hs4, hs5, hs6, hs7, hs8, hs9, hs10, hz5⟩ := zero_cells hx
        simp only at k7 k8
        have HX7 := Lib.hid (drew_cl (C := Dc C (x1, x2)) hx)
        have hb9 : Below w.heap.size w (nestCl (Dc C (x1, x2)) (w.heap.size + 1) wr).drew := (below_cl hb (Nat.le_succ _)).drew
        have HB9 := Lib.hid hb9
        clear hfin hrg hc hx hr HRW HG hb9
        by_cases g1 : 0 ≤ x1
        · by_cases g2 : 1 ≤ x2
          · by_cases g3 : x2 ≤ 50
            · have d3 : decide (x2 ≤ 50) = true := decide_eq_true g3
              have HP9 := Lib.hid (rr_yes (q := q.data.toList) (x1, x2) (by rw [HRG.out, if_pos ⟨g1, g2, g3⟩]) HB9.out)
              go_upto_region 12 with (fail)
              go_region
              go_wp2_with fail
              have hld := load_cl HX7.out rfl
              have hpo := HP9.out
              generalize (nestCl (Dc C (x1, x2)) (w.heap.size + 1) wr).drew = w9 at hld hpo ⊢
              exact bodyPost_ret (ret_st2 Tryz.results33 _ _ _ _ rfl hld) rfl hpo
            · have d3 : decide (x2 ≤ 50) = false := decide_eq_false g3
              have HP9 := Lib.hid (rr_no (q := q.data.toList) (x1, x2) (by rw [HRG.out, if_neg (fun h => absurd h.2.2 (by omega))]) HB9.out)
              go_upto_region 12 with (fail)
              go_region
              go_wp2_with fail
              have hld := load_cl HX7.out rfl
              have hpo := HP9.out
              generalize (nestCl (Dc C (x1, x2)) (w.heap.size + 1) wr).drew = w9 at hld hpo ⊢
              exact bodyPost_ret (ret_st2 Tryz.results33 _ _ _ _ rfl hld) rfl hpo
          · have d2 : decide (1 ≤ x2) = false := decide_eq_false g2
            have HP9 := Lib.hid (rr_no (q := q.data.toList) (x1, x2) (by rw [HRG.out, if_neg (fun h => absurd h.2.1 (by omega))]) HB9.out)
            go_upto_region 12 with (fail)
            go_region
            go_wp2_with fail
            have hld := load_cl HX7.out rfl
            have hpo := HP9.out
            generalize (nestCl (Dc C (x1, x2)) (w.heap.size + 1) wr).drew = w9 at hld hpo ⊢
            exact bodyPost_ret (ret_st2 Tryz.results33 _ _ _ _ rfl hld) rfl hpo
        · have d1 : decide (0 ≤ x1) = false := decide_eq_false g1
          have HP9 := Lib.hid (rr_no (q := q.data.toList) (x1, x2) (by rw [HRG.out, if_neg (fun h => absurd h.1 (by omega))]) HB9.out)
          go_upto_region 12 with (fail)
          go_region
          go_wp2_with fail
          have hld := load_cl HX7.out rfl
          have hpo := HP9.out
          generalize (nestCl (Dc C (x1, x2)) (w.heap.size + 1) wr).drew = w9 at hld hpo ⊢
          exact bodyPost_ret (ret_st2 Tryz.results33 _ _ _ _ rfl hld) rfl hpo
  · have hez : (er == 0) = false := by rw [beq_eq_false_iff_ne]; exact he
    have hez2 : (er != 0) = true := by rw [bne, hez]; rfl
    have HN2 : Hid (rangedL C.most q.data.toList = none) := Lib.hid (by rw [HR.out, if_pos he])
    have hpo := fun (w' : World) hb' => rr_no (q := q.data.toList) (w := w) (w' := w') (0, C.most) HN2.out hb'
    rw [HD.out] at hpo
    have HPO := Lib.hid hpo
    clear he hpo
    go_wp2_with (first
      | (refine wpList_load_row rfl _ _ rfl w.heap.size rfl _ _ _ _ hc2 Tryz.underlying30 rfl infoCl ?_)
      | (refine put_st rfl _ _ _ rfl (w.heap.size + 1) (clC C (.slice none 0 0)) rfl rfl hx2 infoCl rfl (by simp [Value.oneCell']) ?_; intro w9 h1 h2 h3))
    exact bodyPost_ret (v := .tuple #[.agg (clC C (.slice none 0 0)), .bool false]) (ret_st2 Tryz.results33 _ _ _ _ rfl (load_cl h1 rfl)) rfl (HPO.out _ (hbA.trans (h2.mono (Nat.le_succ _))))
end Go.Proofs.YtfkmgnldkmpeiaaGreatDoor.W20

namespace Go.Proofs.YtfkmgnldkmpeiaaGreatDoor.W20
open Go Go.RowKit P12 P18 P20 W12

theorem fold_snoc (l : By) (c : UInt8) : valD (l ++ [c]) = 10 * valD l + (c.toNat - 48) := by unfold valD; rw [List.foldl_append]; rfl
theorem take_snoc (s : ByteArray) (k : Nat) (h : k < s.size) : s.data.toList.take (k + 1) = s.data.toList.take k ++ [s[k]] := by
  rw [List.take_succ_eq_append_getElem (by simpa using h)]; rfl
theorem get_at (s : ByteArray) (k : Nat) (h : k < s.size) : s.data.toList[k]? = some (s[k]) := by
  rw [List.getElem?_eq_getElem (by simpa using h)]; rfl
theorem dig_none {s : By} {k : Nat} {c : UInt8} (hc : s[k]? = some c) (h : digit c = false) : digitsL s = none := by
  unfold digitsL
  rw [if_neg]
  rintro ⟨_, _, h3⟩
  have := List.all_eq_true.1 h3 c (List.mem_of_getElem? hc)
  rw [h] at this
  cases this
theorem all_take {s : By} {k : Nat} {c : UInt8} (h : (s.take k).all digit = true) (hc : s.take (k + 1) = s.take k ++ [c]) (hd : digit c = true) : (s.take (k + 1)).all digit = true := by
  rw [hc, List.all_append, h]
  simp [hd]
def DigPost (s : By) (w : World) (e : Ending) (w' : World) : Prop := e = .returned (match digitsL s with | some v => .tuple #[.int .i64 (v : Int), .bool true] | none => .tuple #[.int .i64 0, .bool false]) ∧ w = w'
theorem dig_no {s : By} {w : World} (h : digitsL s = none) : DigPost s w (.returned (.tuple #[.int .i64 0, .bool false])) w := ⟨by rw [h], rfl⟩
theorem dig_yes {s : By} {w : World} {v : Nat} (h : digitsL s = some v) : DigPost s w (.returned (.tuple #[.int .i64 (v : Int), .bool true])) w := ⟨by rw [h], rfl⟩
set_option maxHeartbeats 3200000 in
set_option maxRecDepth 100000 in
theorem refDigits_any (s : ByteArray) (w : World) : Calls Tryz.prog 73 #[.string s] w (DigPost s.data.toList w) := by
  by_cases h1 : s.size < 1
  · have hd : s.data.toList = [] := List.eq_nil_of_length_eq_zero (by rw [size_data]; omega)
    have z0 : (s.size : Int) < 1 := by omega
    have HN : Hid (digitsL s.data.toList = none) := Lib.hid (by rw [hd]; rfl)
    clear hd
    go_enter Tryz.func73, Tryz.ntmps73
    go_wp2_with fail
    go_ret2
    exact dig_no HN.out
  · have z0 : ¬ (s.size : Int) < 1 := by omega
    by_cases h9 : 9 < s.size
    · have z9 : (9 : Int) < (s.size : Int) := by omega
      have HN : Hid (digitsL s.data.toList = none) := Lib.hid (by unfold digitsL; rw [if_neg]; rintro ⟨_, h, _⟩; rw [size_data] at h; omega)
      go_enter Tryz.func73, Tryz.ntmps73
      go_wp2_with fail
      go_ret2
      exact dig_no HN.out
    · have z9 : ¬ (9 : Int) < (s.size : Int) := by omega
      have z9' : (s.size : Int) ≤ 9 := by omega
      go_enter Tryz.func73, Tryz.ntmps73
      go_wp2_with fail
      go_loop [4, 5] (fun n i => ∃ k a : Nat, k ≤ s.size ∧ i = .int .i64 k ∧ n = .int .i64 a ∧ a < 1000000000 ∧ Hid (a = valD (s.data.toList.take k) ∧ (s.data.toList.take k).all digit = true)) (fun _ i => s.size - (intOf i).toNat)
      case atStart => exact ⟨0, 0, by omega, rfl, rfl, by omega, Lib.hid ⟨rfl, rfl⟩⟩
      case round =>
        obtain ⟨k, a, hk, rfl, rfl, ha, HA⟩ := hrel
        by_cases hlt : k < s.size
        · have hg := get_at s k hlt
          have hts := take_snoc s k hlt
          obtain ⟨c, hcc⟩ : ∃ c, c = s[k]'hlt := ⟨_, rfl⟩
          rw [← hcc] at hg hts
          have hc256 := c.toNat_lt
          by_cases hd : 48 ≤ c.toNat ∧ c.toNat ≤ 57
          · have hall := all_take HA.out.2 hts (digit_of hd)
            have hval : 10 * a + (c.toNat - 48) = valD (s.data.toList.take (k + 1)) := by rw [hts, fold_snoc, ← HA.out.1]
            have hsm : 10 * a + (c.toNat - 48) < 1000000000 := by
              rw [hval]
              exact val_small hall (by rw [List.length_take, size_data]; omega)
            have HV := Lib.hid (And.intro hval hall)
            obtain ⟨d1, d2⟩ := hd
            have e1 : ¬ (((s[k]'hlt).toNat : Int) < 48) := by rw [← hcc]; omega
            have e2 : ¬ ((57 : Int) < ((s[k]'hlt).toNat : Int)) := by rw [← hcc]; omega
            have e3 : (48 : Int) ≤ ((s[k]'hlt).toNat : Int) := by rw [← hcc]; omega
            have e4 : ((s[k]'hlt).toNat : Int) ≤ 57 := by rw [← hcc]; omega
            have HC := Lib.hid hcc
            clear hg hts hcc hall hval HA
            go_wp2_with fail
            go_round
            case rel => exact ⟨k + 1, 10 * a + (c.toNat - 48), by omega, by go_num, vint (by rw [← HC.out]; omega), hsm, HV⟩
            case measure => simp [intOf]; omega
          · have HN : Hid (digitsL s.data.toList = none) := Lib.hid (dig_none hg (by
              cases h : digit c with
              | false => rfl
              | true => exact absurd (digit_nat h) hd))
            by_cases d1 : 48 ≤ c.toNat
            · have e1 : ¬ (((s[k]'hlt).toNat : Int) < 48) := by rw [← hcc]; omega
              have e2 : (57 : Int) < ((s[k]'hlt).toNat : Int) := by rw [← hcc]; omega
              clear hg hts hcc HA
              go_wp2_with fail
              go_ret2
              exact dig_no HN.out
            · have e1 : (((s[k]'hlt).toNat : Int) < 48) := by rw [← hcc]; omega
              clear hg hts hcc HA
              go_wp2_with fail
              go_ret2
              exact dig_no HN.out
        · obtain rfl : k = s.size := by omega
          obtain ⟨h2, h3⟩ := HA.out
          rw [List.take_of_length_le (by rw [size_data]; exact Nat.le_refl _)] at h2 h3
          have HY : Hid (digitsL s.data.toList = some a) := Lib.hid (by
            unfold digitsL
            rw [if_pos ⟨by intro h; have := size_data s; rw [h] at this; simp at this; omega, by rw [size_data]; omega, h3⟩, h2])
          clear h2 h3 HA
          go_wp2_with fail
          go_ret2
          exact dig_yes HY.out
end Go.Proofs.YtfkmgnldkmpeiaaGreatDoor.W20
