/-
  Walks of layer 20: command, of the program. Conditions: the call lies in a block of its own; the request's cells hold it; its texts are within Go's own limit.
-/
import Derived.Test.YtfkmgnldkmpeiaaGreatDoorGas
import Derived.Test.YtfkmgnldkmpeiaaGreatDoorGat

namespace Go.Proofs.YtfkmgnldkmpeiaaGreatDoor.W20
open Go Go.RowKit P12 P18 P20 W12

abbrev keyB : ByteArray := ⟨#[105, 100, 101, 109, 112, 111, 116, 101, 110, 99, 121, 45, 107, 101, 121]⟩
abbrev expB : ByteArray := ⟨#[101, 120, 112, 101, 99, 116, 101, 100, 45, 118, 101, 114, 115, 105, 111, 110]⟩
theorem ver_some {s : By} {w w' : World} {e : Ending} {v : Nat} (hd : digitsL s = some v) (h : VerPost s w e w') : e = .returned (.tuple #[.int .i64 v, .bool true]) ∧ Below w.heap.size w w' := by
  obtain ⟨n, ok, rfl, h1, h2, hb⟩ := h
  cases ok with
  | true =>
    obtain ⟨u, hu, rfl⟩ := h1 rfl
    rw [hd] at hu
    injection hu with hu
    subst hu
    exact ⟨rfl, hb⟩
  | false => have := h2 rfl; rw [hd] at this; cases this
theorem ver_none {s : By} {w w' : World} {e : Ending} (hd : digitsL s = none) (h : VerPost s w e w') : (∃ n, e = .returned (.tuple #[.int .i64 n, .bool false])) ∧ Below w.heap.size w w' := by
  obtain ⟨n, ok, rfl, h1, h2, hb⟩ := h
  cases ok with
  | true => obtain ⟨u, hu, _⟩ := h1 rfl; rw [hd] at hu; cases hu
  | false => exact ⟨⟨n, rfl⟩, hb⟩
theorem one_slice {v : Value} {l : List Fld} {w : World} (h : W12.Rows v l w) : v.oneCell' = true := by
  obtain ⟨o, c, rfl, _⟩ := h
  simp [Value.oneCell']
theorem fresh_mono {A B : Nat} {v : Value} (h : Fresh B v) (hA : A ≤ B) : Fresh A v := fun a n c e => Nat.le_trans hA (h a n c e)
abbrev Ec (c : Cl) (n : Int) : Cl := { c with cexp := n }
abbrev Fc (c : Cl) (k : By) (l : List Fld) : Cl := { c with ckey := k, cfields := l }
/-- What command leaves of the call in block P. -/
def ComPost (P : Nat) (C : Cl) (hs : List Hdr) (body : By) (w : World) (e : Ending) (w' : World) : Prop :=
  ∃ (C' : Cl) (fv : Value) (st : Int), e = .returned (.int .i64 st) ∧ StAt tCl P (clC C' fv) w' ∧ fv.oneCell' = true ∧ Below P w w' ∧ commandL hs body (0, C) = (if st = 200 then (200, C') else (st, zeroC)) ∧ (st = 200 → W12.Rows fv C'.cfields w' ∧ Fresh (P + 1) fv)
theorem rq_cells {N : Nat} {a b c d e f : Value} {w : World} (h : StAt 25 N #[a, b, c, d, e, f] w) : w.cell? ⟨N, 0, none⟩ = some a ∧ w.cell? ⟨N, 1, none⟩ = some b ∧ w.cell? ⟨N, 2, none⟩ = some c ∧ w.cell? ⟨N, 3, none⟩ = some d ∧ w.cell? ⟨N, 4, none⟩ = some e ∧ w.cell? ⟨N, 5, none⟩ = some f :=
  ⟨Lib.cell_of_heap h 0, Lib.cell_of_heap h 1, Lib.cell_of_heap h 2, Lib.cell_of_heap h 3, Lib.cell_of_heap h 4, Lib.cell_of_heap h 5⟩
theorem com_400k {hs : List Hdr} {body : By} {C : Cl} (h : 1 < getN hs keyN ∨ (getN hs keyN = 1 ∧ fitsL (getV hs keyN) = false) ∨ 1 < getN hs expN) : commandL hs body (0, C) = (400, zeroC) := by
  unfold commandL
  simp only
  by_cases h1 : 1 < getN hs keyN ∨ (getN hs keyN = 1 ∧ fitsL (getV hs keyN) = false)
  · rw [if_pos h1]
  · rw [if_neg h1, if_pos]
    rcases h with h | h | h
    · exact absurd (.inl h) h1
    · exact absurd (.inr h) h1
    · exact .inl h
theorem com_400e {hs : List Hdr} {body : By} {C : Cl} (h : getN hs expN = 1) (hd : digitsL (getV hs expN) = none) : commandL hs body (0, C) = (400, zeroC) := by
  unfold commandL
  simp only
  by_cases h1 : 1 < getN hs keyN ∨ (getN hs keyN = 1 ∧ fitsL (getV hs keyN) = false)
  · rw [if_pos h1]
  · rw [if_neg h1, if_pos (.inr ⟨h, hd⟩)]
/-- The headers are in order. -/
def HeadOk (hs : List Hdr) : Prop := ¬ (1 < getN hs keyN ∨ (getN hs keyN = 1 ∧ fitsL (getV hs keyN) = false)) ∧ ¬ (1 < getN hs expN ∨ (getN hs expN = 1 ∧ digitsL (getV hs expN) = none))
theorem com_422 {hs : List Hdr} {body : By} {C : Cl} (h : HeadOk hs) (hr : (readL body).2 ≠ 0) : commandL hs body (0, C) = (422, zeroC) := by
  unfold commandL
  simp only
  rw [if_neg h.1, if_neg h.2, if_pos hr]
theorem com_200 {hs : List Hdr} {body : By} {C : Cl} (h : HeadOk hs) (hr : (readL body).2 = 0) : commandL hs body (0, C) = (200, { C with ckey := getV hs keyN, cfields := (readL body).1, cexp := if getN hs expN = 1 then ((digitsL (getV hs expN)).getD 0 : Nat) else C.cexp }) := by
  unfold commandL
  simp only
  rw [if_neg h.1, if_neg h.2, if_neg (by simp [hr])]
theorem set_exp {P : Nat} {C : Cl} {fv : Value} {w : World} {n : Int} (h : StAt tCl P (clC C fv) w) : StAt tCl P (clC (Ec C n) fv) (w.setCell ⟨P, 4, none⟩ (.int .i64 n)) := by
  have := heap_setCell_same w P 4 _ _ (.int .i64 n) h
  simpa using this
theorem set_two {P : Nat} {C : Cl} {fv gv : Value} {w : World} {k : By} {l : List Fld} (h : StAt tCl P (clC C fv) w) : StAt tCl P (clC (Fc C k l) gv) ((w.setCell ⟨P, 3, none⟩ (bs k)).setCell ⟨P, 5, none⟩ gv) := by
  have h1 := heap_setCell_same w P 3 _ _ (bs k) h
  have h2 := heap_setCell_same _ P 5 _ _ gv h1
  simpa using h2
theorem bad_post {P : Nat} {C : Cl} {hs : List Hdr} {body : By} {w w' : World} {fv : Value} {C' : Cl} (st : Int) (hst : st ≠ 200) (hc : StAt tCl P (clC C' fv) w') (h1 : fv.oneCell' = true) (hb : Below P w w') (h : commandL hs body (0, C) = (st, zeroC)) : ComPost P C hs body w (.returned (.int .i64 st)) w' :=
  ⟨C', fv, st, rfl, hc, h1, hb, by rw [h, if_neg hst], fun e => absurd e hst⟩
theorem end_post {P : Nat} {C C1 : Cl} {hs : List Hdr} {body k : By} {l : List Fld} {w w4 : World} {fv : Value} (hc : StAt tCl P (clC C1 (.slice none 0 0)) w4) (hb : Below P w w4) (hr : W12.Rows fv l w4) (hf : Fresh (P + 1) fv) (h : commandL hs body (0, C) = (200, Fc C1 k l)) : ComPost P C hs body w (.returned (.int .i64 200)) ((w4.setCell ⟨P, 3, none⟩ (bs k)).setCell ⟨P, 5, none⟩ fv) :=
  ⟨Fc C1 k l, fv, 200, rfl, set_two hc, one_slice hr, (hb.setCell (p := ⟨P, 3, none⟩) (Nat.le_refl _) _).setCell (p := ⟨P, 5, none⟩) (Nat.le_refl _) _, by rw [h, if_pos rfl], fun _ => ⟨rows_set (rows_set hr hf) hf, hf⟩⟩
set_option maxHeartbeats 6400000 in
set_option maxRecDepth 100000 in
theorem command_any (P : Nat) (C : Cl) (M Pa Q Y : ByteArray) (v : Value) (cl : Bool) (hs : List Hdr) (w0 w : World) (hE0 : Env w0) (hb0 : Below w0.heap.size w0 w) (hP0 : w0.heap.size ≤ P) (hY : Y.size ≤ 140737488355328) (hvl : (getV hs expN).length ≤ 140737488355328) (hn : hs.length ≤ 4611686018427387904) (hv : RowsH v hs w) (hC : StAt tCl P (clC C (.slice none 0 0)) w) :
    Calls Tryz.prog 31 #[.pointer (some ⟨P, 0, none⟩), reqV M Pa Q v Y cl] w (ComPost P C hs Y.data.toList w) := by
  have hlt := at_lt hC
  have hE := hE0.keep hb0
  obtain ⟨o, cp, rfl, hcl⟩ := id hv
  have hbx := below_alloc w (.cells #[.string M, .string Pa, .string Q, .slice o hs.length cp, .string Y, .bool cl] 25)
  have hxx := new_at w #[.string M, .string Pa, .string Q, .slice o hs.length cp, .string Y, .bool cl] 25
  have hv1 := hv.keep hbx
  have hC1 := keep_at hC hbx
  obtain ⟨K, hK⟩ : ∃ K : ByteArray, bs (getV hs keyN) = .string K ∧ K.data.toList = getV hs keyN := ⟨⟨(getV hs keyN).toArray⟩, rfl, rfl⟩
  obtain ⟨X, hX⟩ : ∃ K : ByteArray, bs (getV hs expN) = .string K ∧ K.data.toList = getV hs expN := ⟨⟨(getV hs expN).toArray⟩, rfl, rfl⟩
  obtain ⟨nk, hnk⟩ : ∃ nk, nk = getN hs keyN := ⟨_, rfl⟩
  obtain ⟨nx, hnx⟩ : ∃ nx, nx = getN hs expN := ⟨_, rfl⟩
  -- gets
  have hg1 : ∀ W, Below (w.alloc (.cells #[.string M, .string Pa, .string Q, .slice o hs.length cp, .string Y, .bool cl] 25)).heap.size (w.alloc (.cells #[.string M, .string Pa, .string Q, .slice o hs.length cp, .string Y, .bool cl] 25)) W → Calls Tryz.prog 65 #[reqV M Pa Q (.slice o hs.length cp) Y cl, .string keyB] W fun e w' => e = .returned (.tuple #[.string K, .int .i64 nk]) ∧ Below W.heap.size W w' := fun W hW => by
    have := Get_any M Pa Q _ Y cl hs keyB W (hv1.keep hW) hn
    rw [show keyB.data.toList = keyN from rfl, hK.1, ← hnk] at this
    exact this
  have hg2 : ∀ W, Below (w.alloc (.cells #[.string M, .string Pa, .string Q, .slice o hs.length cp, .string Y, .bool cl] 25)).heap.size (w.alloc (.cells #[.string M, .string Pa, .string Q, .slice o hs.length cp, .string Y, .bool cl] 25)) W → Calls Tryz.prog 65 #[reqV M Pa Q (.slice o hs.length cp) Y cl, .string expB] W fun e w' => e = .returned (.tuple #[.string X, .int .i64 nx]) ∧ Below W.heap.size W w' := fun W hW => by
    have := Get_any M Pa Q _ Y cl hs expB W (hv1.keep hW) hn
    rw [show expB.data.toList = expN from rfl, hX.1, ← hnx] at this
    exact this
  have hXs : X.size ≤ 140737488355328 := by rw [← size_data, hX.2]; exact hvl
  have hnkl : nk ≤ 4611686018427387904 := by rw [hnk]; exact Nat.le_trans (getN_le _ _) hn
  have hnxl : nx ≤ 4611686018427387904 := by rw [hnx]; exact Nat.le_trans (getN_le _ _) hn
  have hver := fun W (hW : Env W) => version_any X (by omega) W hW
  have hrd := fun W (hW : Env W) => Read_new Y W hW hY
  obtain ⟨l, hl⟩ : ∃ l, l = (readL Y.data.toList).1 := ⟨_, rfl⟩
  obtain ⟨er, her⟩ : ∃ er, er = (readL Y.data.toList).2 := ⟨_, rfl⟩
  rw [← hl, ← her] at hrd
  have HG1 := Lib.hid hg1
  have HG2 := Lib.hid hg2
  have HV := Lib.hid hver
  have HRD := Lib.hid hrd
  have HK := Lib.hid hK
  have HX := Lib.hid hX
  have HNK := Lib.hid hnk
  have HNX := Lib.hid hnx
  have HL := Lib.hid hl
  have HER := Lib.hid her
  clear hg1 hg2 hver hrd hK hX hnk hnx hl her hcl hv hv1
  by_cases hk2 : 2 ≤ nk
  · have zk : (1 : Int) < (nk : Int) := by omega
    have HB := Lib.hid (com_400k (body := Y.data.toList) (C := C) (.inl (by rw [← HNK.out]; omega)))
    go_enter Tryz.func31, Tryz.ntmps31
    go_wp2_with (first
      | (go_at_call 65; (with_reducible refine (HG1.out _ (Below.refl _ _)).mono ?_); rintro e w1 ⟨rfl, hb1⟩; obtain ⟨q0, q1, q2, q3, q4, q5⟩ := rq_cells (keep_at hxx hb1))
      | (go_at_call 65; (with_reducible refine (HG2.out _ hb1).mono ?_); rintro e w2 ⟨rfl, hb2⟩; have r4 := keep_cell hb2 q4))
    have bA := below_then hbx (below_then hb1 hb2)
    have cA := keep_at (keep_at hC1 hb1) hb2
    have bP : Below P w w2 := bA.mono (Nat.le_of_lt hlt)
    go_ret
    exact bad_post 400 (by decide) cA (by simp [Value.oneCell']) bP HB.out
  · by_cases hk1 : nk = 1
    · have hk1' : getN hs keyN = 1 := by rw [← HNK.out]; exact hk1
      subst hk1
      have hfit := fun V => fits_any K V
      cases hf : fitsL K.data.toList with
      | false =>
        rw [hf] at hfit
        have HF := Lib.hid hfit
        have HB := Lib.hid (com_400k (body := Y.data.toList) (C := C) (.inr (.inl ⟨hk1', by rw [← HK.out.2]; exact hf⟩)))
        clear hf hk1' hfit hk2
        go_enter Tryz.func31, Tryz.ntmps31
        go_wp2_with (first
          | (go_at_call 65; (with_reducible refine (HG1.out _ (Below.refl _ _)).mono ?_); rintro e w1 ⟨rfl, hb1⟩; obtain ⟨q0, q1, q2, q3, q4, q5⟩ := rq_cells (keep_at hxx hb1))
          | (go_at_call 65; (with_reducible refine (HG2.out _ hb1).mono ?_); rintro e w2 ⟨rfl, hb2⟩; have r4 := keep_cell hb2 q4)
          | (go_at_call 66; refine (HF.out _).mono ?_; rintro e w' ⟨rfl, rfl⟩))
        have bA := below_then hbx (below_then hb1 hb2)
        have cA := keep_at (keep_at hC1 hb1) hb2
        have bP : Below P w w2 := bA.mono (Nat.le_of_lt hlt)
        go_ret
        exact bad_post 400 (by decide) cA (by simp [Value.oneCell']) bP HB.out
      | true =>
        rw [hf] at hfit
        have HF := Lib.hid hfit
        have HKEY : Hid (¬ (1 < getN hs keyN ∨ (getN hs keyN = 1 ∧ fitsL (getV hs keyN) = false))) := Lib.hid (by rintro (h | ⟨_, h⟩); omega; rw [← HK.out.2, hf] at h; cases h)
        clear hf hk1' hfit hk2
        by_cases hx2 : 2 ≤ nx
        · have zx : (1 : Int) < (nx : Int) := by omega
          have HB := Lib.hid (com_400k (body := Y.data.toList) (C := C) (.inr (.inr (by rw [← HNX.out]; omega))))
          go_enter Tryz.func31, Tryz.ntmps31
          go_wp2_with (first
            | (go_at_call 65; (with_reducible refine (HG1.out _ (Below.refl _ _)).mono ?_); rintro e w1 ⟨rfl, hb1⟩; obtain ⟨q0, q1, q2, q3, q4, q5⟩ := rq_cells (keep_at hxx hb1))
            | (go_at_call 65; (with_reducible refine (HG2.out _ hb1).mono ?_); rintro e w2 ⟨rfl, hb2⟩; have r4 := keep_cell hb2 q4)
            | (go_at_call 66; refine (HF.out _).mono ?_; rintro e w' ⟨rfl, rfl⟩))
          have bA := below_then hbx (below_then hb1 hb2)
          have cA := keep_at (keep_at hC1 hb1) hb2
          have bP : Below P w w2 := bA.mono (Nat.le_of_lt hlt)
          go_ret
          exact bad_post 400 (by decide) cA (by simp [Value.oneCell']) bP HB.out
        · by_cases hx1 : nx = 1
          · have hx1' : getN hs expN = 1 := by rw [← HNX.out]; exact hx1
            subst hx1
            cases hd : digitsL X.data.toList with
            | none =>
              have HVN := Lib.hid (fun W hW => (HV.out W hW).mono fun _ _ h => ver_none hd h)
              have HB := Lib.hid (com_400e (body := Y.data.toList) (C := C) hx1' (by rw [← HX.out.2]; exact hd))
              clear hd hx1' hx2
              go_enter Tryz.func31, Tryz.ntmps31
              go_wp2_with (first
                | (go_at_call 65; (with_reducible refine (HG1.out _ (Below.refl _ _)).mono ?_); rintro e w1 ⟨rfl, hb1⟩; obtain ⟨q0, q1, q2, q3, q4, q5⟩ := rq_cells (keep_at hxx hb1))
                | (go_at_call 65; (with_reducible refine (HG2.out _ hb1).mono ?_); rintro e w2 ⟨rfl, hb2⟩; have r4 := keep_cell hb2 q4)
                | (go_at_call 66; refine (HF.out _).mono ?_; rintro e w' ⟨rfl, rfl⟩)
                | (go_at_call 67; (refine (HVN.out _ (hE.keep (below_then hbx (below_then hb1 hb2)))).mono ?_); rintro e w3 ⟨⟨n, rfl⟩, hb3⟩))
              have bA := below_then hbx (below_then hb1 hb2)
              have cA := keep_at (keep_at hC1 hb1) hb2
              have bP : Below P w w2 := bA.mono (Nat.le_of_lt hlt)
              have cB := keep_at cA hb3
              have bQ : Below P w w3 := bP.trans (hb3.mono (by have := at_lt cA; omega))
              go_ret
              exact bad_post 400 (by decide) cB (by simp [Value.oneCell']) bQ HB.out
            | some vn =>
              have HVN := Lib.hid (fun W hW => (HV.out W hW).mono fun _ _ h => ver_some hd h)
              have HOK : Hid (HeadOk hs) := Lib.hid ⟨HKEY.out, by rintro (h | ⟨_, h⟩); exact absurd h (by omega); rw [← HX.out.2, hd] at h; cases h⟩
              have HVV : Hid (getN hs expN = 1 ∧ digitsL (getV hs expN) = some vn) := Lib.hid ⟨hx1', by rw [← HX.out.2]; exact hd⟩
              clear hd hx1' hx2
              go_enter Tryz.func31, Tryz.ntmps31
              go_wp2_with (first
                | (go_at_call 65; (with_reducible refine (HG1.out _ (Below.refl _ _)).mono ?_); rintro e w1 ⟨rfl, hb1⟩; obtain ⟨q0, q1, q2, q3, q4, q5⟩ := rq_cells (keep_at hxx hb1))
                | (go_at_call 65; (with_reducible refine (HG2.out _ hb1).mono ?_); rintro e w2 ⟨rfl, hb2⟩; have r4 := keep_cell hb2 q4)
                | (go_at_call 66; refine (HF.out _).mono ?_; rintro e w' ⟨rfl, rfl⟩)
                | (go_at_call 67; (refine (HVN.out _ (hE.keep (below_then hbx (below_then hb1 hb2)))).mono ?_); rintro e w3 ⟨rfl, hb3⟩; have cV := keep_at (keep_at (keep_at hC1 hb1) hb2) hb3; have k4 : w3.cell? ⟨P, 4, none⟩ = some (.int .i64 C.cexp) := Lib.cell_of_heap cV 4; have z4 := Lib.frozen_of_heap cV 4; have r5 := keep_cell hb3 r4))
              have bA0 := below_then hbx (below_then hb1 (below_then hb2 hb3))
              have bP0 : Below P w w3 := bA0.mono (Nat.le_of_lt hlt)
              have cA := set_exp (n := (vn : Int)) cV
              have bP : Below P w (w3.setCell ⟨P, 4, none⟩ (.int .i64 (vn : Int))) := bP0.setCell (p := ⟨P, 4, none⟩) (Nat.le_refl _) _
              have hEr := hE0.keep (hb0.trans (bP.mono hP0))
              go_wp2_with (go_at_call 18; (refine (HRD.out _ hEr).mono ?_); rintro e w4 ⟨fv, rfl, hrw, hfr, hb4⟩; refine Hid.out ?_)
              refine Lib.hid ?_
              have c4 := keep_at cA hb4
              have b4 : Below P w w4 := bP.trans (hb4.mono (by have := at_lt cA; omega))
              by_cases he : er = 0
              · have HB := Lib.hid (com_200 (C := C) HOK.out (HER.out.symm.trans he))
                subst he
                have hf1 := fresh_mono hfr (by have := at_lt cA; omega : P + 1 ≤ (w3.setCell ⟨P, 4, none⟩ (.int .i64 (vn : Int))).heap.size)
                obtain ⟨fo, fc, rfl, hfl⟩ := id hrw
                clear hfl
                have k3 : w4.cell? ⟨P, 3, none⟩ = some (bs (Ec C (vn : Int)).ckey) := Lib.cell_of_heap c4 3
                have k5 : w4.cell? ⟨P, 5, none⟩ = some (.slice none 0 0) := Lib.cell_of_heap c4 5
                have z3 := Lib.frozen_of_heap c4 3
                have z5 := Lib.frozen_of_heap c4 5
                have hpost := end_post (C := C) (C1 := (Ec C (vn : Int))) (hs := hs) (body := Y.data.toList) (k := getV hs keyN) (l := l) c4 b4 hrw hf1 (by rw [HB.out]; rw [if_pos HVV.out.1, HVV.out.2, ← HL.out]; rfl)
                rw [HK.out.1] at hpost
                have HPO := Lib.hid hpost
                clear hpost hrw hfr hf1 c4 b4 cA
                go_wp2_with fail
                go_ret
                exact HPO.out
              · have hez : (er == 0) = false := by rw [beq_eq_false_iff_ne]; exact he
                have hez2 : (er != 0) = true := by rw [bne, hez]; rfl
                have HB := Lib.hid (com_422 (C := C) HOK.out (by rw [← HER.out]; exact he))
                clear he
                go_wp2_with fail
                go_ret
                exact bad_post 422 (by decide) c4 (by simp [Value.oneCell']) b4 HB.out
          · have hx0 : nx = 0 := by omega
            have hx0' : getN hs expN = 0 := by rw [← HNX.out]; exact hx0
            subst hx0
            have HOK : Hid (HeadOk hs) := Lib.hid ⟨HKEY.out, by rintro (h | ⟨h, _⟩) <;> omega⟩
            have HV0 := Lib.hid hx0'
            clear hx0' hx1 hx2
            go_enter Tryz.func31, Tryz.ntmps31
            go_wp2_with (first
              | (go_at_call 65; (with_reducible refine (HG1.out _ (Below.refl _ _)).mono ?_); rintro e w1 ⟨rfl, hb1⟩; obtain ⟨q0, q1, q2, q3, q4, q5⟩ := rq_cells (keep_at hxx hb1))
              | (go_at_call 65; (with_reducible refine (HG2.out _ hb1).mono ?_); rintro e w2 ⟨rfl, hb2⟩; have r4 := keep_cell hb2 q4)
              | (go_at_call 66; refine (HF.out _).mono ?_; rintro e w' ⟨rfl, rfl⟩))
            have bA := below_then hbx (below_then hb1 hb2)
            have cA := keep_at (keep_at hC1 hb1) hb2
            have bP : Below P w w2 := bA.mono (Nat.le_of_lt hlt)
            have hEr := hE0.keep (hb0.trans (bP.mono hP0))
            go_wp2_with (go_at_call 18; (refine (HRD.out _ hEr).mono ?_); rintro e w4 ⟨fv, rfl, hrw, hfr, hb4⟩; refine Hid.out ?_)
            refine Lib.hid ?_
            have c4 := keep_at cA hb4
            have b4 : Below P w w4 := bP.trans (hb4.mono (by have := at_lt cA; omega))
            by_cases he : er = 0
            · have HB := Lib.hid (com_200 (C := C) HOK.out (HER.out.symm.trans he))
              subst he
              have hf1 := fresh_mono hfr (by have := at_lt cA; omega : P + 1 ≤ w2.heap.size)
              obtain ⟨fo, fc, rfl, hfl⟩ := id hrw
              clear hfl
              have k3 : w4.cell? ⟨P, 3, none⟩ = some (bs C.ckey) := Lib.cell_of_heap c4 3
              have k5 : w4.cell? ⟨P, 5, none⟩ = some (.slice none 0 0) := Lib.cell_of_heap c4 5
              have z3 := Lib.frozen_of_heap c4 3
              have z5 := Lib.frozen_of_heap c4 5
              have hpost := end_post (C := C) (C1 := C) (hs := hs) (body := Y.data.toList) (k := getV hs keyN) (l := l) c4 b4 hrw hf1 (by rw [HB.out]; rw [if_neg (by rw [HV0.out]; decide), ← HL.out])
              rw [HK.out.1] at hpost
              have HPO := Lib.hid hpost
              clear hpost hrw hfr hf1 c4 b4 cA
              go_wp2_with fail
              go_ret
              exact HPO.out
            · have hez : (er == 0) = false := by rw [beq_eq_false_iff_ne]; exact he
              have hez2 : (er != 0) = true := by rw [bne, hez]; rfl
              have HB := Lib.hid (com_422 (C := C) HOK.out (by rw [← HER.out]; exact he))
              clear he
              go_wp2_with fail
              go_ret
              exact bad_post 422 (by decide) c4 (by simp [Value.oneCell']) b4 HB.out
    · have hk0 : nk = 0 := by omega
      have hk0' : getN hs keyN = 0 := by rw [← HNK.out]; exact hk0
      subst hk0
      have HF := Lib.hid (fun V => fits_any K V)
      have HKEY : Hid (¬ (1 < getN hs keyN ∨ (getN hs keyN = 1 ∧ fitsL (getV hs keyN) = false))) := Lib.hid (by rintro (h | ⟨h, _⟩) <;> omega)
      clear hk0' hk1 hk2
      by_cases hx2 : 2 ≤ nx
      · have zx : (1 : Int) < (nx : Int) := by omega
        have HB := Lib.hid (com_400k (body := Y.data.toList) (C := C) (.inr (.inr (by rw [← HNX.out]; omega))))
        go_enter Tryz.func31, Tryz.ntmps31
        go_wp2_with (first
          | (go_at_call 65; (with_reducible refine (HG1.out _ (Below.refl _ _)).mono ?_); rintro e w1 ⟨rfl, hb1⟩; obtain ⟨q0, q1, q2, q3, q4, q5⟩ := rq_cells (keep_at hxx hb1))
          | (go_at_call 65; (with_reducible refine (HG2.out _ hb1).mono ?_); rintro e w2 ⟨rfl, hb2⟩; have r4 := keep_cell hb2 q4)
          | (go_at_call 66; refine (HF.out _).mono ?_; rintro e w' ⟨rfl, rfl⟩))
        have bA := below_then hbx (below_then hb1 hb2)
        have cA := keep_at (keep_at hC1 hb1) hb2
        have bP : Below P w w2 := bA.mono (Nat.le_of_lt hlt)
        go_ret
        exact bad_post 400 (by decide) cA (by simp [Value.oneCell']) bP HB.out
      · by_cases hx1 : nx = 1
        · have hx1' : getN hs expN = 1 := by rw [← HNX.out]; exact hx1
          subst hx1
          cases hd : digitsL X.data.toList with
          | none =>
            have HVN := Lib.hid (fun W hW => (HV.out W hW).mono fun _ _ h => ver_none hd h)
            have HB := Lib.hid (com_400e (body := Y.data.toList) (C := C) hx1' (by rw [← HX.out.2]; exact hd))
            clear hd hx1' hx2
            go_enter Tryz.func31, Tryz.ntmps31
            go_wp2_with (first
              | (go_at_call 65; (with_reducible refine (HG1.out _ (Below.refl _ _)).mono ?_); rintro e w1 ⟨rfl, hb1⟩; obtain ⟨q0, q1, q2, q3, q4, q5⟩ := rq_cells (keep_at hxx hb1))
              | (go_at_call 65; (with_reducible refine (HG2.out _ hb1).mono ?_); rintro e w2 ⟨rfl, hb2⟩; have r4 := keep_cell hb2 q4)
              | (go_at_call 66; refine (HF.out _).mono ?_; rintro e w' ⟨rfl, rfl⟩)
              | (go_at_call 67; (refine (HVN.out _ (hE.keep (below_then hbx (below_then hb1 hb2)))).mono ?_); rintro e w3 ⟨⟨n, rfl⟩, hb3⟩))
            have bA := below_then hbx (below_then hb1 hb2)
            have cA := keep_at (keep_at hC1 hb1) hb2
            have bP : Below P w w2 := bA.mono (Nat.le_of_lt hlt)
            have cB := keep_at cA hb3
            have bQ : Below P w w3 := bP.trans (hb3.mono (by have := at_lt cA; omega))
            go_ret
            exact bad_post 400 (by decide) cB (by simp [Value.oneCell']) bQ HB.out
          | some vn =>
            have HVN := Lib.hid (fun W hW => (HV.out W hW).mono fun _ _ h => ver_some hd h)
            have HOK : Hid (HeadOk hs) := Lib.hid ⟨HKEY.out, by rintro (h | ⟨_, h⟩); exact absurd h (by omega); rw [← HX.out.2, hd] at h; cases h⟩
            have HVV : Hid (getN hs expN = 1 ∧ digitsL (getV hs expN) = some vn) := Lib.hid ⟨hx1', by rw [← HX.out.2]; exact hd⟩
            clear hd hx1' hx2
            go_enter Tryz.func31, Tryz.ntmps31
            go_wp2_with (first
              | (go_at_call 65; (with_reducible refine (HG1.out _ (Below.refl _ _)).mono ?_); rintro e w1 ⟨rfl, hb1⟩; obtain ⟨q0, q1, q2, q3, q4, q5⟩ := rq_cells (keep_at hxx hb1))
              | (go_at_call 65; (with_reducible refine (HG2.out _ hb1).mono ?_); rintro e w2 ⟨rfl, hb2⟩; have r4 := keep_cell hb2 q4)
              | (go_at_call 66; refine (HF.out _).mono ?_; rintro e w' ⟨rfl, rfl⟩)
              | (go_at_call 67; (refine (HVN.out _ (hE.keep (below_then hbx (below_then hb1 hb2)))).mono ?_); rintro e w3 ⟨rfl, hb3⟩; have cV := keep_at (keep_at (keep_at hC1 hb1) hb2) hb3; have k4 : w3.cell? ⟨P, 4, none⟩ = some (.int .i64 C.cexp) := Lib.cell_of_heap cV 4; have z4 := Lib.frozen_of_heap cV 4; have r5 := keep_cell hb3 r4))
            have bA0 := below_then hbx (below_then hb1 (below_then hb2 hb3))
            have bP0 : Below P w w3 := bA0.mono (Nat.le_of_lt hlt)
            have cA := set_exp (n := (vn : Int)) cV
            have bP : Below P w (w3.setCell ⟨P, 4, none⟩ (.int .i64 (vn : Int))) := bP0.setCell (p := ⟨P, 4, none⟩) (Nat.le_refl _) _
            have hEr := hE0.keep (hb0.trans (bP.mono hP0))
            go_wp2_with (go_at_call 18; (refine (HRD.out _ hEr).mono ?_); rintro e w4 ⟨fv, rfl, hrw, hfr, hb4⟩; refine Hid.out ?_)
            refine Lib.hid ?_
            have c4 := keep_at cA hb4
            have b4 : Below P w w4 := bP.trans (hb4.mono (by have := at_lt cA; omega))
            by_cases he : er = 0
            · have HB := Lib.hid (com_200 (C := C) HOK.out (HER.out.symm.trans he))
              subst he
              have hf1 := fresh_mono hfr (by have := at_lt cA; omega : P + 1 ≤ (w3.setCell ⟨P, 4, none⟩ (.int .i64 (vn : Int))).heap.size)
              obtain ⟨fo, fc, rfl, hfl⟩ := id hrw
              clear hfl
              have k3 : w4.cell? ⟨P, 3, none⟩ = some (bs (Ec C (vn : Int)).ckey) := Lib.cell_of_heap c4 3
              have k5 : w4.cell? ⟨P, 5, none⟩ = some (.slice none 0 0) := Lib.cell_of_heap c4 5
              have z3 := Lib.frozen_of_heap c4 3
              have z5 := Lib.frozen_of_heap c4 5
              have hpost := end_post (C := C) (C1 := (Ec C (vn : Int))) (hs := hs) (body := Y.data.toList) (k := getV hs keyN) (l := l) c4 b4 hrw hf1 (by rw [HB.out]; rw [if_pos HVV.out.1, HVV.out.2, ← HL.out]; rfl)
              rw [HK.out.1] at hpost
              have HPO := Lib.hid hpost
              clear hpost hrw hfr hf1 c4 b4 cA
              go_wp2_with fail
              go_ret
              exact HPO.out
            · have hez : (er == 0) = false := by rw [beq_eq_false_iff_ne]; exact he
              have hez2 : (er != 0) = true := by rw [bne, hez]; rfl
              have HB := Lib.hid (com_422 (C := C) HOK.out (by rw [← HER.out]; exact he))
              clear he
              go_wp2_with fail
              go_ret
              exact bad_post 422 (by decide) c4 (by simp [Value.oneCell']) b4 HB.out
        · have hx0 : nx = 0 := by omega
          have hx0' : getN hs expN = 0 := by rw [← HNX.out]; exact hx0
          subst hx0
          have HOK : Hid (HeadOk hs) := Lib.hid ⟨HKEY.out, by rintro (h | ⟨h, _⟩) <;> omega⟩
          have HV0 := Lib.hid hx0'
          clear hx0' hx1 hx2
          go_enter Tryz.func31, Tryz.ntmps31
          go_wp2_with (first
            | (go_at_call 65; (with_reducible refine (HG1.out _ (Below.refl _ _)).mono ?_); rintro e w1 ⟨rfl, hb1⟩; obtain ⟨q0, q1, q2, q3, q4, q5⟩ := rq_cells (keep_at hxx hb1))
            | (go_at_call 65; (with_reducible refine (HG2.out _ hb1).mono ?_); rintro e w2 ⟨rfl, hb2⟩; have r4 := keep_cell hb2 q4)
            | (go_at_call 66; refine (HF.out _).mono ?_; rintro e w' ⟨rfl, rfl⟩))
          have bA := below_then hbx (below_then hb1 hb2)
          have cA := keep_at (keep_at hC1 hb1) hb2
          have bP : Below P w w2 := bA.mono (Nat.le_of_lt hlt)
          have hEr := hE0.keep (hb0.trans (bP.mono hP0))
          go_wp2_with (go_at_call 18; (refine (HRD.out _ hEr).mono ?_); rintro e w4 ⟨fv, rfl, hrw, hfr, hb4⟩; refine Hid.out ?_)
          refine Lib.hid ?_
          have c4 := keep_at cA hb4
          have b4 : Below P w w4 := bP.trans (hb4.mono (by have := at_lt cA; omega))
          by_cases he : er = 0
          · have HB := Lib.hid (com_200 (C := C) HOK.out (HER.out.symm.trans he))
            subst he
            have hf1 := fresh_mono hfr (by have := at_lt cA; omega : P + 1 ≤ w2.heap.size)
            obtain ⟨fo, fc, rfl, hfl⟩ := id hrw
            clear hfl
            have k3 : w4.cell? ⟨P, 3, none⟩ = some (bs C.ckey) := Lib.cell_of_heap c4 3
            have k5 : w4.cell? ⟨P, 5, none⟩ = some (.slice none 0 0) := Lib.cell_of_heap c4 5
            have z3 := Lib.frozen_of_heap c4 3
            have z5 := Lib.frozen_of_heap c4 5
            have hpost := end_post (C := C) (C1 := C) (hs := hs) (body := Y.data.toList) (k := getV hs keyN) (l := l) c4 b4 hrw hf1 (by rw [HB.out]; rw [if_neg (by rw [HV0.out]; decide), ← HL.out])
            rw [HK.out.1] at hpost
            have HPO := Lib.hid hpost
            clear hpost hrw hfr hf1 c4 b4 cA
            go_wp2_with fail
            go_ret
            exact HPO.out
          · have hez : (er == 0) = false := by rw [beq_eq_false_iff_ne]; exact he
            have hez2 : (er != 0) = true := by rw [bne, hez]; rfl
            have HB := Lib.hid (com_422 (C := C) HOK.out (by rw [← HER.out]; exact he))
            clear he
            go_wp2_with fail
            go_ret
            exact bad_post 422 (by decide) c4 (by simp [Value.oneCell']) b4 HB.out
end Go.Proofs.YtfkmgnldkmpeiaaGreatDoor.W20
