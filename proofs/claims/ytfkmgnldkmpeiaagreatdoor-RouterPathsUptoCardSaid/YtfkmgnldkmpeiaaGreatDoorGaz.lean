/-
  Walks of layer 20: Entries, of the program and of the reference. Conditions: the library's error values; the events' cells hold them; their numbers are ints. Printed by wip/tools/entries20.py.
  Walks of layer 20: Entries, of the reference. Conditions: the library's error values; the events' cells hold them; their numbers are ints. Printed by wip/tools/entries20.py.
-/
import Derived.Test.YtfkmgnldkmpeiaaGreatDoorGax
import Derived.Test.YtfkmgnldkmpeiaaGreatDoorGay

namespace Go.Proofs.YtfkmgnldkmpeiaaGreatDoor.W20
open Go Go.RowKit P12 P18 P20 W12

abbrev tEn : TypeId := 47
abbrev tEv : TypeId := 45
/-- The cells of an event in its place. -/
def EntAt (g q : Nat) (x : En) (fv : Value) (w : World) : Prop :=
  w.cell? ⟨g, q, none⟩ = some (.int .i64 x.pos) ∧ w.cell? ⟨g, q + 1, none⟩ = some (bs x.stream) ∧ w.cell? ⟨g, q + 2, none⟩ = some (.int .i64 x.number) ∧ w.cell? ⟨g, q + 3, none⟩ = some (bs x.type) ∧ w.cell? ⟨g, q + 4, none⟩ = some (.int .i64 x.version) ∧ w.cell? ⟨g, q + 5, none⟩ = some fv
theorem EntAt.keep {g q : Nat} {x : En} {fv : Value} {w w' : World} (h : EntAt g q x fv w) (hb : Below w.heap.size w w') : EntAt g q x fv w' :=
  ⟨keep_cell hb h.1, keep_cell hb h.2.1, keep_cell hb h.2.2.1, keep_cell hb h.2.2.2.1, keep_cell hb h.2.2.2.2.1, keep_cell hb h.2.2.2.2.2⟩
/-- A slice of events, as a value in a world. -/
def RowsE (v : Value) (l : List En) (w : World) : Prop :=
  ∃ o c, v = .slice o l.length c ∧ (l = [] ∨ ∃ g off, o = some ⟨g, off, none⟩ ∧ ∀ (j : Nat) (x : En), l[j]? = some x → ∃ fv, EntAt g (off + j * 6) x fv w ∧ W12.Rows fv x.fields w)
theorem RowsE.keep {v : Value} {l : List En} {w w' : World} (h : RowsE v l w) (hb : Below w.heap.size w w') : RowsE v l w' := by
  obtain ⟨o, c, rfl, h0⟩ := h
  exact ⟨o, c, rfl, h0.imp id fun ⟨g, off, e, h⟩ => ⟨g, off, e, fun j x hj => by obtain ⟨fv, h1, h2⟩ := h j x hj; exact ⟨fv, h1.keep hb, h2.keep hb⟩⟩⟩
/-- A line of events, part by part, under names of their own. -/
theorem entry_named (x : En) (h : rangeE x) : ∃ F1 G F2 K T : ByteArray, F1.data.toList = recordL (headF x) ∧ F2.data.toList = recordL x.fields ∧ T.data.toList = lineE x ∧ T.size ≤ 50000 ∧
    (∀ W, (Op.stringOp .add F1 ⟨#[124]⟩).run Tryz.prog W = .ok (.string G) W) ∧ (∀ W, (Op.stringOp .add G F2).run Tryz.prog W = .ok (.string K) W) ∧ (∀ W, (Op.stringOp .add K ⟨#[10]⟩).run Tryz.prog W = .ok (.string T) W) := by
  obtain ⟨F1, hF1, hs1⟩ := record_named (headF x) (head_range h)
  obtain ⟨F2, hF2, hs2⟩ := record_named x.fields h.2.2.2
  have e1 : (⟨#[124]⟩ : ByteArray).size = 1 := rfl
  have e2 : (⟨#[10]⟩ : ByteArray).size = 1 := rfl
  refine ⟨F1, F1 ++ ⟨#[124]⟩, F2, (F1 ++ ⟨#[124]⟩) ++ F2, ((F1 ++ ⟨#[124]⟩) ++ F2) ++ ⟨#[10]⟩, hF1, hF2, ?_, ?_, ?_, ?_, ?_⟩
  · simp only [ByteArray.data_append, Array.toList_append, hF1, hF2]
    simp [lineE]
  · simp only [ByteArray.size_append, e1, e2]; omega
  · exact fun W => run_string_add_sum W _ _ (by rw [e1]; omega)
  · exact fun W => run_string_add_sum W _ _ (by rw [ByteArray.size_append, e1]; omega)
  · exact fun W => run_string_add_sum W _ _ (by rw [ByteArray.size_append, ByteArray.size_append, e1, e2]; omega)
theorem lineE_len {x : En} (h : rangeE x) : (lineE x).length ≤ 1000000 := by
  obtain ⟨F1, G, F2, K, T, -, -, hT, hs, -⟩ := entry_named x h
  rw [← hT, size_data]
  omega
set_option maxHeartbeats 12000000 in
set_option maxRecDepth 100000 in
theorem entries_puts (bx : Nat) (v : Value) (l : List En) (w0 : World) (hE : Env w0) (hx : w0.cell? ⟨bx, 0, none⟩ = some v) (hr : RowsE v l w0) (hlen : l.length ≤ 4611686018427387904) (hrange : ∀ x ∈ l, rangeE x ∧ x.fields.length ≤ 4611686018427387904) : Puts 42 #[.pointer (some ⟨bx, 0, none⟩)] (l.map lineE) w0 := by
  intro W B b out hW hB hBw hbl hout
  show Calls Tryz.prog 42 #[putF b, .pointer (some ⟨bx, 0, none⟩)] W _
  have hx1 := keep_cell hW hx
  obtain ⟨o, c, rfl, hcl⟩ := hr
  have HC := Lib.hid hcl
  have HRG := Lib.hid hrange
  have HE := Lib.hid hE
  have HB := Lib.hid hbl
  clear hcl hrange hE hbl hx
  go_enter Tryz.func42, Tryz.ntmps42
  go_wp2_with fail
  go_loopw [9] (fun i wr => ∃ (k : Nat) (O : By), k ≤ l.length ∧ i = .int .i64 k ∧ O.length ≤ 60000 ∧ Hid (Bld B b O wr) ∧ Hid (pageL out (l.map lineE) = pageL O ((l.drop k).map lineE)) ∧ B ≤ wr.heap.size ∧ Hid (Kpt B b W wr)) (fun i _ => l.length - (intOf i).toNat)
  case atStart => exact ⟨0, out, Nat.zero_le _, rfl, hout, HB, Lib.hid (by rw [List.drop_zero]), hBw, Lib.hid (kpt_of hBw (Below.refl _ W))⟩
  case round =>
    clear HB hx1
    obtain ⟨k, O, hk, rfl, hO, HB, HP, hBr, HK⟩ := hrel
    by_cases hlt : k < l.length
    · have hlt' : (k : Int) < (l.length : Int) := by omega
      have hwr : Below w0.heap.size w0 wr := hW.trans (HK.out.1.mono hB)
      rcases HC.out with h0 | ⟨g, off, rfl, hcell⟩
      · rw [h0] at hlt; exact absurd hlt (Nat.not_lt_zero _)
      obtain ⟨x, hx⟩ : ∃ x, l[k]? = some x := ⟨_, List.getElem?_eq_getElem hlt⟩
      obtain ⟨fv, hent0, hfr0⟩ := hcell k x hx
      obtain ⟨fo, fc, rfl, -⟩ := id hfr0
      have hent := hent0.keep hwr
      have HFR := Lib.hid (hfr0.keep hwr)
      have hrx := HRG.out x (List.mem_of_getElem? hx)
      obtain ⟨F1, G, F2, K, T, hF1, hF2, hT, hTs, p1, p2, p3⟩ := entry_named x hrx.1
      obtain ⟨St, hSt⟩ : ∃ St : ByteArray, St.data.toList = x.stream := ⟨⟨x.stream.toArray⟩, rfl⟩
      obtain ⟨Ty, hTy⟩ : ∃ Ty : ByteArray, Ty.data.toList = x.type := ⟨⟨x.type.toArray⟩, rfl⟩
      obtain ⟨nu, hnu⟩ : ∃ n : Int, n = x.number := ⟨_, rfl⟩
      obtain ⟨po, hpo⟩ : ∃ n : Int, n = x.pos := ⟨_, rfl⟩
      obtain ⟨ve, hve⟩ : ∃ n : Int, n = x.version := ⟨_, rfl⟩
      obtain ⟨e0, e1, e2, e3, e4, e5⟩ := hent
      rw [← hpo] at e0
      rw [← hSt, bs_data] at e1
      rw [← hnu] at e2
      rw [← hTy, bs_data] at e3
      rw [← hve] at e4
      have hhd : headF x = [numF nNumber nu, numF nPos po, textFl nStream St.data.toList, textFl nType Ty.data.toList, numF nVersion ve] := by rw [hnu, hpo, hSt, hTy, hve]; rfl
      have HHR := Lib.hid (show ∀ f ∈ [numF nNumber nu, numF nPos po, textFl nStream St.data.toList, textFl nType Ty.data.toList, numF nVersion ve], rangeF f from by rw [← hhd]; exact head_range hrx.1)
      have HF1 := Lib.hid (hF1.trans (congrArg recordL hhd))
      have HF2 := Lib.hid hF2
      have HFX := Lib.hid hrx
      have HPk : Hid (pageL out (l.map lineE) = pageL O (T.data.toList :: (l.drop (k + 1)).map lineE)) := Lib.hid (by
        rw [HP.out, drop_cons hx, List.map_cons, hT])
      have hEr := HE.out.keep hwr
      clear hcell hx hnu hpo hve hSt hTy hrx hF1 hF2 hT HP hwr hent0 hfr0 hhd
      go_upto_region 4 with (fail)
      have hx4 := keep_at (new_at wr #[.int .i64 po, .string St, .int .i64 nu, .string Ty, .int .i64 ve, .slice fo x.fields.length fc] tEn) (below_alloc _ (.cells #[.string Ty, .int .i64 ve, .slice fo x.fields.length fc] tEv))
      have hx5 := new_at (wr.alloc (.cells #[.int .i64 po, .string St, .int .i64 nu, .string Ty, .int .i64 ve, .slice fo x.fields.length fc] tEn)) #[.string Ty, .int .i64 ve, .slice fo x.fields.length fc] tEv
      rw [World.size_alloc] at hx5
      have hbw := below_then (below_alloc wr (.cells #[.int .i64 po, .string St, .int .i64 nu, .string Ty, .int .i64 ve, .slice fo x.fields.length fc] tEn)) (below_alloc _ (.cells #[.string Ty, .int .i64 ve, .slice fo x.fields.length fc] tEv))
      have hE4 := hEr.keep hbw
      obtain ⟨w4, hw4⟩ : ∃ w4, w4 = (wr.alloc (.cells #[.int .i64 po, .string St, .int .i64 nu, .string Ty, .int .i64 ve, .slice fo x.fields.length fc] tEn)).alloc (.cells #[.string Ty, .int .i64 ve, .slice fo x.fields.length fc] tEv) := ⟨_, rfl⟩
      rw [← hw4] at hx4 hx5 hbw hE4 ⊢
      clear hw4 e0 e1 e2 e3 e4 e5
      refine wp_region_tame 15 (fun V => Below w4.heap.size w4 V) (by kernel_rfl) (by kernel_rfl) ((Below.refl _ w4).drew) ?_
      simp only [List.take_succ_cons, List.take_zero, List.drop_succ_cons, List.drop_zero]
      refine Exists.intro (.pointer (some ⟨wr.heap.size, 2, none⟩)) (And.intro (Or.inl (And.intro (by rfl) (fun V hS => ?tg1))) ?_)
      case tg1 =>
        go_simp
        exact ⟨rfl, hS⟩
      simp only [Act.put, List.setIfInBounds_toArray, List.set_cons_zero, List.set_cons_succ]
      refine Exists.intro (.int .i64 nu) (And.intro (Or.inl (And.intro (by rfl) (fun V hS => ?tg2))) ?_)
      case tg2 =>
        have h1 := Lib.cell_of_heap (keep_at hx4 hS) 2
        have h2 := Lib.frozen_of_heap (keep_at hx4 hS) 2
        go_simp
        exact ⟨rfl, hS⟩
      simp only [Act.put, List.setIfInBounds_toArray, List.set_cons_zero, List.set_cons_succ]
      refine Exists.intro (numV ⟨#[110, 117, 109, 98, 101, 114]⟩ nu) (And.intro (Or.inl (And.intro (by rfl) (fun V hS => ?tg3))) ?_)
      case tg3 =>
        go_simp
        refine (num_any _ _ _).mono ?_
        rintro e w' ⟨rfl, hb⟩
        exact ⟨rfl, below_then hS hb⟩
      simp only [Act.put, List.setIfInBounds_toArray, List.set_cons_zero, List.set_cons_succ]
      refine Exists.intro (.pointer (some ⟨wr.heap.size, 0, none⟩)) (And.intro (Or.inl (And.intro (by rfl) (fun V hS => ?tg4))) ?_)
      case tg4 =>
        go_simp
        exact ⟨rfl, hS⟩
      simp only [Act.put, List.setIfInBounds_toArray, List.set_cons_zero, List.set_cons_succ]
      refine Exists.intro (.int .i64 po) (And.intro (Or.inl (And.intro (by rfl) (fun V hS => ?tg5))) ?_)
      case tg5 =>
        have h1 := Lib.cell_of_heap (keep_at hx4 hS) 0
        have h2 := Lib.frozen_of_heap (keep_at hx4 hS) 0
        go_simp
        exact ⟨rfl, hS⟩
      simp only [Act.put, List.setIfInBounds_toArray, List.set_cons_zero, List.set_cons_succ]
      refine Exists.intro (numV ⟨#[112, 111, 115]⟩ po) (And.intro (Or.inl (And.intro (by rfl) (fun V hS => ?tg6))) ?_)
      case tg6 =>
        go_simp
        refine (num_any _ _ _).mono ?_
        rintro e w' ⟨rfl, hb⟩
        exact ⟨rfl, below_then hS hb⟩
      simp only [Act.put, List.setIfInBounds_toArray, List.set_cons_zero, List.set_cons_succ]
      refine Exists.intro (.pointer (some ⟨wr.heap.size, 1, none⟩)) (And.intro (Or.inl (And.intro (by rfl) (fun V hS => ?tg7))) ?_)
      case tg7 =>
        go_simp
        exact ⟨rfl, hS⟩
      simp only [Act.put, List.setIfInBounds_toArray, List.set_cons_zero, List.set_cons_succ]
      refine Exists.intro (.string St) (And.intro (Or.inl (And.intro (by rfl) (fun V hS => ?tg8))) ?_)
      case tg8 =>
        have h1 := Lib.cell_of_heap (keep_at hx4 hS) 1
        have h2 := Lib.frozen_of_heap (keep_at hx4 hS) 1
        go_simp
        exact ⟨rfl, hS⟩
      simp only [Act.put, List.setIfInBounds_toArray, List.set_cons_zero, List.set_cons_succ]
      refine Exists.intro (textV ⟨#[115, 116, 114, 101, 97, 109]⟩ St) (And.intro (Or.inl (And.intro (by rfl) (fun V hS => ?tg9))) ?_)
      case tg9 =>
        go_simp
        refine (text_any _ _ _).mono ?_
        rintro e w' ⟨rfl, hb⟩
        exact ⟨rfl, below_then hS hb⟩
      simp only [Act.put, List.setIfInBounds_toArray, List.set_cons_zero, List.set_cons_succ]
      refine Exists.intro (.pointer (some ⟨wr.heap.size + 1, 0, none⟩)) (And.intro (Or.inl (And.intro (by rfl) (fun V hS => ?tg10))) ?_)
      case tg10 =>
        go_simp
        exact ⟨rfl, hS⟩
      simp only [Act.put, List.setIfInBounds_toArray, List.set_cons_zero, List.set_cons_succ]
      refine Exists.intro (.string Ty) (And.intro (Or.inl (And.intro (by rfl) (fun V hS => ?tg11))) ?_)
      case tg11 =>
        have h1 := Lib.cell_of_heap (keep_at hx5 hS) 0
        have h2 := Lib.frozen_of_heap (keep_at hx5 hS) 0
        go_simp
        exact ⟨rfl, hS⟩
      simp only [Act.put, List.setIfInBounds_toArray, List.set_cons_zero, List.set_cons_succ]
      refine Exists.intro (textV ⟨#[116, 121, 112, 101]⟩ Ty) (And.intro (Or.inl (And.intro (by rfl) (fun V hS => ?tg12))) ?_)
      case tg12 =>
        go_simp
        refine (text_any _ _ _).mono ?_
        rintro e w' ⟨rfl, hb⟩
        exact ⟨rfl, below_then hS hb⟩
      simp only [Act.put, List.setIfInBounds_toArray, List.set_cons_zero, List.set_cons_succ]
      refine Exists.intro (.pointer (some ⟨wr.heap.size + 1, 1, none⟩)) (And.intro (Or.inl (And.intro (by rfl) (fun V hS => ?tg13))) ?_)
      case tg13 =>
        go_simp
        exact ⟨rfl, hS⟩
      simp only [Act.put, List.setIfInBounds_toArray, List.set_cons_zero, List.set_cons_succ]
      refine Exists.intro (.int .i64 ve) (And.intro (Or.inl (And.intro (by rfl) (fun V hS => ?tg14))) ?_)
      case tg14 =>
        have h1 := Lib.cell_of_heap (keep_at hx5 hS) 1
        have h2 := Lib.frozen_of_heap (keep_at hx5 hS) 1
        go_simp
        exact ⟨rfl, hS⟩
      simp only [Act.put, List.setIfInBounds_toArray, List.set_cons_zero, List.set_cons_succ]
      refine Exists.intro (numV ⟨#[118, 101, 114, 115, 105, 111, 110]⟩ ve) (And.intro (Or.inl (And.intro (by rfl) (fun V hS => ?tg15))) ?_)
      case tg15 =>
        go_simp
        refine (num_any _ _ _).mono ?_
        rintro e w' ⟨rfl, hb⟩
        exact ⟨rfl, below_then hS hb⟩
      simp only [Act.put, List.setIfInBounds_toArray, List.set_cons_zero, List.set_cons_succ]
      intro V hS
      have hbV := below_then hS (below_alloc V (.cells #[.string ⟨#[110, 117, 109, 98, 101, 114]⟩, .bool false, .int .i64 nu, .string ⟨#[]⟩, .string ⟨#[112, 111, 115]⟩, .bool false, .int .i64 po, .string ⟨#[]⟩, .string ⟨#[115, 116, 114, 101, 97, 109]⟩, .bool true, .int .i64 0, .string St, .string ⟨#[116, 121, 112, 101]⟩, .bool true, .int .i64 0, .string Ty, .string ⟨#[118, 101, 114, 115, 105, 111, 110]⟩, .bool false, .int .i64 ve, .string ⟨#[]⟩] 54))
      have hrw := rows_lit (l := [numF nNumber nu, numF nPos po, textFl nStream St.data.toList, textFl nType Ty.data.toList, numF nVersion ve]) (show StAt 54 V.heap.size _ (V.alloc (.cells #[.string ⟨#[110, 117, 109, 98, 101, 114]⟩, .bool false, .int .i64 nu, .string ⟨#[]⟩, .string ⟨#[112, 111, 115]⟩, .bool false, .int .i64 po, .string ⟨#[]⟩, .string ⟨#[115, 116, 114, 101, 97, 109]⟩, .bool true, .int .i64 0, .string St, .string ⟨#[116, 121, 112, 101]⟩, .bool true, .int .i64 0, .string Ty, .string ⟨#[118, 101, 114, 115, 105, 111, 110]⟩, .bool false, .int .i64 ve, .string ⟨#[]⟩] 54)) from new_at V _ _) 5
      have HRC := Lib.hid (record_any _ _ F1 HF1.out _ (hE4.keep hbV) hrw (by simp) HHR.out)
      clear hrw hS
      go_wp2_with (go_at_call 43; refine HRC.out.mono ?_; rintro e w5 ⟨rfl, hb5⟩; refine Hid.out ?_)
      refine Lib.hid ?_
      have hb6 := below_then hbV hb5
      have hf5 := Lib.cell_of_heap (keep_at hx5 hb6) 2
      have hg5 := Lib.frozen_of_heap (keep_at hx5 hb6) 2
      have HRD := Lib.hid (record_any _ _ F2 HF2.out w5 (hE4.keep hb6) (HFR.out.keep (below_then hbw hb6)) HFX.out.2 HFX.out.1.2.2.2)
      clear hbV hb5 HRC
      go_wp2_with (go_at_call 43; refine HRD.out.mono ?_; rintro e w6 ⟨rfl, hb7⟩; refine Hid.out ?_)
      refine Lib.hid ?_
      have hb8 := below_then hbw (below_then hb6 hb7)
      have hB6 := HB.out.keep hb8
      have hBr6 : B ≤ w6.heap.size := Nat.le_trans hBr hb8.size
      have HK6 := Lib.hid (kpt_then HK.out (kpt_of hBr hb8))
      by_cases hfit : O.length + T.size ≤ 60000
      · have HPP := Lib.hid (put_yes B b O T w6 hB6 hfit hBr6)
        have HPn : Hid (pageL out (l.map lineE) = pageL (O ++ T.data.toList) ((l.drop (k + 1)).map lineE)) := Lib.hid (by rw [HPk.out, pageL_go (by rw [size_data]; omega)])
        clear hB6 HRD hx4 hx5 hbw hE4 hb6 hb7 hb8 HPk HB HK hf5 hg5
        go_wp2_with (go_at_call 78; refine HPP.out.mono ?_; rintro e w7 ⟨rfl, hB7, hk7⟩; have HB7 := Lib.hid hB7; have HK7 := Lib.hid hk7; clear hB7 hk7)
        go_roundw
        case rel => exact ⟨k + 1, O ++ T.data.toList, by omega, by go_num, by rw [List.length_append, size_data]; exact hfit, HB7, HPn, Nat.le_trans hBr6 HK7.out.1.size, Lib.hid (kpt_then HK6.out HK7.out)⟩
        case measure => simp [intOf]; omega
      · have HPP := Lib.hid (put_no B b O T w6 hB6 (by omega) hO (by omega))
        have HPn : Hid (pageL out (l.map lineE) = O) := Lib.hid (by rw [HPk.out, pageL_stop (by rw [size_data]; omega)])
        have HB6 := Lib.hid hB6
        clear hB6 HRD hx4 hx5 hbw hE4 hb6 hb7 hb8 HPk HB HK hf5 hg5
        go_wp2_with (go_at_call 78; refine HPP.out.mono ?_; rintro e w7 ⟨rfl, rfl⟩)
        exact bodyPost_ret (v := .tuple #[]) (by simp [results, Tryz.results42, go_sem]) rfl ⟨rfl, by rw [HPn.out]; exact HB6.out, HK6.out⟩
    · obtain rfl : k = l.length := by omega
      have HPn : Hid (pageL out (l.map lineE) = O) := Lib.hid (by rw [HP.out, List.drop_length]; rfl)
      clear HC
      go_wp2_with fail
      go_end0
      exact ⟨rfl, by rw [HPn.out]; exact HB.out, HK.out⟩
set_option maxHeartbeats 3200000 in
set_option maxRecDepth 100000 in
theorem Entries_any (v : Value) (l : List En) (w : World) (hE : Env w) (hr : RowsE v l w) (hlen : l.length ≤ 4611686018427387904) (hrange : ∀ x ∈ l, rangeE x ∧ x.fields.length ≤ 4611686018427387904) (X : ByteArray) (hX : X.data.toList = entriesL l) :
    Calls Tryz.prog 15 #[v] w fun e w' => e = .returned (.agg #[.int .i64 200, .string X, .bool false]) ∧ Below w.heap.size w w' := by
  obtain ⟨o, c, rfl, -⟩ := id hr
  obtain ⟨w1, hw1⟩ : ∃ w1, w1 = (w.alloc (.cells #[.slice o l.length c] 38)).alloc (.cells zRp 40) := ⟨_, rfl⟩
  have hb1 : Below w.heap.size w w1 := by rw [hw1]; exact below_then (below_alloc _ _) (below_alloc _ _)
  have hx1 : w1.cell? ⟨w.heap.size, 0, none⟩ = some (.slice o l.length c) := by rw [hw1]; exact Lib.cell_of_heap (keep_at (new_at w #[.slice o l.length c] _) (below_alloc _ _)) 0
  have hy1 : StAt 40 (w.heap.size + 1) zRp w1 := by
    have := new_at (w.alloc (.cells #[.slice o l.length c] 38)) zRp 40
    rw [World.size_alloc] at this
    rw [hw1]
    exact this
  have HPG := Lib.hid (page_any ⟨#[]⟩ 42 #[.pointer (some ⟨w.heap.size, 0, none⟩)] (l.map lineE) w1 (fun args W => by simp [go_sem]) (entries_puts w.heap.size _ l w1 (hE.keep hb1) hx1 (hr.keep hb1) hlen hrange) (by decide) X hX)
  have HW := Lib.hid hw1
  clear hX hr hrange hE hx1 hw1
  go_enter Tryz.func15, Tryz.ntmps15
  go_wp2_with (go_at_call 41; rw [← HW.out]; refine HPG.out.mono ?_; rintro e w4 ⟨rfl, hb6⟩; refine Hid.out ?_)
  refine Lib.hid ?_
  have hy6 := keep_at hy1 hb6
  have hb7 := below_then hb1 hb6
  go_wp2_with (refine put_st rfl _ _ _ rfl (w.heap.size + 1) #[.int .i64 200, .string X, .bool false] rfl rfl hy6 infoRp rfl (by simp [Value.oneCell']) ?_; intro w9 h1 h2 h3)
  exact bodyPost_ret (v := .agg #[.int .i64 200, .string X, .bool false]) (ret_st1 Tryz.results15 _ _ _ _ rfl (load_rp h1 rfl)) rfl ⟨rfl, hb7.trans (h2.mono (Nat.le_succ _))⟩
end Go.Proofs.YtfkmgnldkmpeiaaGreatDoor.W20

namespace Go.Proofs.YtfkmgnldkmpeiaaGreatDoor.W20
open Go Go.RowKit P12 P18 P20 W12

set_option maxHeartbeats 12000000 in
set_option maxRecDepth 100000 in
theorem refEntries_any (v : Value) (l : List En) (w : World) (hE : Env w) (hr : RowsE v l w) (hlen : (l.length + 1) * 16 ≤ 140737488355328) (hrange : ∀ x ∈ l, rangeE x ∧ x.fields.length ≤ 4611686018427387904) (X : ByteArray) (hX : X.data.toList = entriesL l) :
    Calls Tryz.prog 26 #[v] w fun e w' => e = .returned (.agg #[.int .i64 200, .string X, .bool false]) ∧ Below w.heap.size w w' := by
  obtain ⟨w1, hw1⟩ : ∃ w1, w1 = w.alloc (.cells zRp 40) := ⟨_, rfl⟩
  have hb1 : Below w.heap.size w w1 := by rw [hw1]; exact below_alloc _ _
  have hy1 : StAt 40 w.heap.size zRp w1 := by rw [hw1]; exact new_at w _ _
  obtain ⟨o, c, rfl, hcl⟩ := hr.keep hb1
  have HC := Lib.hid hcl
  have HE := Lib.hid (hE.keep hb1)
  have HX : Hid (X.data.toList = pageL (⟨#[]⟩ : ByteArray).data.toList (l.map lineE)) := Lib.hid hX
  have HLL : Hid (∀ b ∈ l.map lineE, b.length ≤ 1000000) := Lib.hid (by
    intro b hb
    obtain ⟨x, hx, rfl⟩ := List.mem_map.1 hb
    exact lineE_len (hrange x hx).1)
  have HRG := Lib.hid hrange
  obtain ⟨i0, hi, hz0, hz1, hz2⟩ := info_parts W12.infoS
  have HW := Lib.hid hw1
  clear hX hrange hr hE hcl hw1
  go_enter Tryz.func26, Tryz.ntmps26
  go_wp2_with fail
  rw [← HW.out]
  go_loopw [3, 4] (fun t i wr => ∃ (k : Nat), k ≤ l.length ∧ i = .int .i64 k ∧ wr.ownsRow w1.heap.size 9 1 t k (W12.cellsS ((l.map lineE).take k)) ∧ Below w1.heap.size w1 wr) (fun _ i _ => l.length - (intOf i).toNat)
  case atStart => exact ⟨0, Nat.zero_le _, rfl, World.ownsRow_nil _ _ _ _, Below.refl _ _⟩
  case round =>
    obtain ⟨k, hk, rfl, hI, hwr⟩ := hrel
    by_cases hlt : k < l.length
    · have hlt' : (k : Int) < (l.length : Int) := by omega
      rcases HC.out with h0 | ⟨g, off, rfl, hcell⟩
      · rw [h0] at hlt; exact absurd hlt (Nat.not_lt_zero _)
      obtain ⟨x, hx⟩ : ∃ x, l[k]? = some x := ⟨_, List.getElem?_eq_getElem hlt⟩
      obtain ⟨fv, hent0, hfr0⟩ := hcell k x hx
      obtain ⟨fo, fc, rfl, -⟩ := id hfr0
      have hent := hent0.keep hwr
      have HFR := Lib.hid (hfr0.keep hwr)
      have hrx := HRG.out x (List.mem_of_getElem? hx)
      obtain ⟨F1, G, F2, K, T, hF1, hF2, hT, hTs, p1, p2, p3⟩ := entry_named x hrx.1
      obtain ⟨St, hSt⟩ : ∃ St : ByteArray, St.data.toList = x.stream := ⟨⟨x.stream.toArray⟩, rfl⟩
      obtain ⟨Ty, hTy⟩ : ∃ Ty : ByteArray, Ty.data.toList = x.type := ⟨⟨x.type.toArray⟩, rfl⟩
      obtain ⟨nu, hnu⟩ : ∃ n : Int, n = x.number := ⟨_, rfl⟩
      obtain ⟨po, hpo⟩ : ∃ n : Int, n = x.pos := ⟨_, rfl⟩
      obtain ⟨ve, hve⟩ : ∃ n : Int, n = x.version := ⟨_, rfl⟩
      obtain ⟨e0, e1, e2, e3, e4, e5⟩ := hent
      rw [← hpo] at e0
      rw [← hSt, bs_data] at e1
      rw [← hnu] at e2
      rw [← hTy, bs_data] at e3
      rw [← hve] at e4
      have hhd : headF x = [numF nNumber nu, numF nPos po, textFl nStream St.data.toList, textFl nType Ty.data.toList, numF nVersion ve] := by rw [hnu, hpo, hSt, hTy, hve]; rfl
      have HHR := Lib.hid (show ∀ f ∈ [numF nNumber nu, numF nPos po, textFl nStream St.data.toList, textFl nType Ty.data.toList, numF nVersion ve], rangeF f from by rw [← hhd]; exact head_range hrx.1)
      have HF1 := Lib.hid (hF1.trans (congrArg recordL hhd))
      have HF2 := Lib.hid hF2
      have HFX := Lib.hid hrx
      have HSN : Hid (W12.cellsS ((l.map lineE).take (k + 1)) = W12.cellsS ((l.map lineE).take k) ++ [.string T]) := Lib.hid (by
        rw [map_take_snoc lineE hx, W12.cellsS_snoc, show lineE x = T.data.toList from hT.symm, bs_data])
      have hEr := HE.out.keep hwr
      have HIr := Lib.hid hI
      have HWR := Lib.hid hwr
      clear hcell hx hnu hpo hve hSt hTy hrx hF1 hF2 hT hent0 hfr0 hhd hI hwr
      go_upto_region 6 with (fail)
      have hx5 := new_at wr #[.string Ty, .int .i64 ve, .slice fo x.fields.length fc] tEv
      have hbw := below_alloc wr (.cells #[.string Ty, .int .i64 ve, .slice fo x.fields.length fc] tEv)
      have hE4 := hEr.keep hbw
      have d0 := keep_cell hbw e0
      have d1 := keep_cell hbw e1
      have d2 := keep_cell hbw e2
      obtain ⟨w4, hw4⟩ : ∃ w4, w4 = wr.alloc (.cells #[.string Ty, .int .i64 ve, .slice fo x.fields.length fc] tEv) := ⟨_, rfl⟩
      rw [← hw4] at hx5 hbw hE4 d0 d1 d2 ⊢
      clear hw4 e0 e1 e2 e3 e4 e5
      refine wp_region_tame 24 (fun V => Below w4.heap.size w4 V) (by kernel_rfl) (by kernel_rfl) ((Below.refl _ w4).drew) ?_
      simp only [List.take_succ_cons, List.take_zero, List.drop_succ_cons, List.drop_zero]
      refine Exists.intro (.slice (some ⟨g, off, none⟩) l.length c) (And.intro (Or.inl (And.intro (by rfl) (fun V hS => ?tg1))) ?_)
      case tg1 =>
        go_simp
        exact ⟨rfl, hS⟩
      simp only [Act.put, List.setIfInBounds_toArray, List.set_cons_zero, List.set_cons_succ]
      refine Exists.intro (.int .i64 k) (And.intro (Or.inl (And.intro (by rfl) (fun V hS => ?tg2))) ?_)
      case tg2 =>
        go_simp
        exact ⟨rfl, hS⟩
      simp only [Act.put, List.setIfInBounds_toArray, List.set_cons_zero, List.set_cons_succ]
      refine Exists.intro (.pointer (some ⟨g, off + k * 6, none⟩)) (And.intro (Or.inl (And.intro (by rfl) (fun V hS => ?tg3))) ?_)
      case tg3 =>
        go_simp
        exact ⟨rfl, hS⟩
      simp only [Act.put, List.setIfInBounds_toArray, List.set_cons_zero, List.set_cons_succ]
      refine Exists.intro (.pointer (some ⟨g, off + k * 6 + 2, none⟩)) (And.intro (Or.inl (And.intro (by rfl) (fun V hS => ?tg4))) ?_)
      case tg4 =>
        go_simp
        exact ⟨rfl, hS⟩
      simp only [Act.put, List.setIfInBounds_toArray, List.set_cons_zero, List.set_cons_succ]
      refine Exists.intro (.int .i64 nu) (And.intro (Or.inl (And.intro (by rfl) (fun V hS => ?tg5))) ?_)
      case tg5 =>
        have h1 := keep_cell hS d2
        go_simp
        exact ⟨rfl, hS⟩
      simp only [Act.put, List.setIfInBounds_toArray, List.set_cons_zero, List.set_cons_succ]
      refine Exists.intro (numV ⟨#[110, 117, 109, 98, 101, 114]⟩ nu) (And.intro (Or.inl (And.intro (by rfl) (fun V hS => ?tg6))) ?_)
      case tg6 =>
        go_simp
        refine (refNum_any _ _ _).mono ?_
        rintro e w' ⟨rfl, hb⟩
        exact ⟨rfl, below_then hS hb⟩
      simp only [Act.put, List.setIfInBounds_toArray, List.set_cons_zero, List.set_cons_succ]
      refine Exists.intro (.slice (some ⟨g, off, none⟩) l.length c) (And.intro (Or.inl (And.intro (by rfl) (fun V hS => ?tg7))) ?_)
      case tg7 =>
        go_simp
        exact ⟨rfl, hS⟩
      simp only [Act.put, List.setIfInBounds_toArray, List.set_cons_zero, List.set_cons_succ]
      refine Exists.intro (.int .i64 k) (And.intro (Or.inl (And.intro (by rfl) (fun V hS => ?tg8))) ?_)
      case tg8 =>
        go_simp
        exact ⟨rfl, hS⟩
      simp only [Act.put, List.setIfInBounds_toArray, List.set_cons_zero, List.set_cons_succ]
      refine Exists.intro (.pointer (some ⟨g, off + k * 6, none⟩)) (And.intro (Or.inl (And.intro (by rfl) (fun V hS => ?tg9))) ?_)
      case tg9 =>
        go_simp
        exact ⟨rfl, hS⟩
      simp only [Act.put, List.setIfInBounds_toArray, List.set_cons_zero, List.set_cons_succ]
      refine Exists.intro (.pointer (some ⟨g, off + k * 6, none⟩)) (And.intro (Or.inl (And.intro (by rfl) (fun V hS => ?tg10))) ?_)
      case tg10 =>
        go_simp
        exact ⟨rfl, hS⟩
      simp only [Act.put, List.setIfInBounds_toArray, List.set_cons_zero, List.set_cons_succ]
      refine Exists.intro (.int .i64 po) (And.intro (Or.inl (And.intro (by rfl) (fun V hS => ?tg11))) ?_)
      case tg11 =>
        have h1 := keep_cell hS d0
        go_simp
        exact ⟨rfl, hS⟩
      simp only [Act.put, List.setIfInBounds_toArray, List.set_cons_zero, List.set_cons_succ]
      refine Exists.intro (numV ⟨#[112, 111, 115]⟩ po) (And.intro (Or.inl (And.intro (by rfl) (fun V hS => ?tg12))) ?_)
      case tg12 =>
        go_simp
        refine (refNum_any _ _ _).mono ?_
        rintro e w' ⟨rfl, hb⟩
        exact ⟨rfl, below_then hS hb⟩
      simp only [Act.put, List.setIfInBounds_toArray, List.set_cons_zero, List.set_cons_succ]
      refine Exists.intro (.slice (some ⟨g, off, none⟩) l.length c) (And.intro (Or.inl (And.intro (by rfl) (fun V hS => ?tg13))) ?_)
      case tg13 =>
        go_simp
        exact ⟨rfl, hS⟩
      simp only [Act.put, List.setIfInBounds_toArray, List.set_cons_zero, List.set_cons_succ]
      refine Exists.intro (.int .i64 k) (And.intro (Or.inl (And.intro (by rfl) (fun V hS => ?tg14))) ?_)
      case tg14 =>
        go_simp
        exact ⟨rfl, hS⟩
      simp only [Act.put, List.setIfInBounds_toArray, List.set_cons_zero, List.set_cons_succ]
      refine Exists.intro (.pointer (some ⟨g, off + k * 6, none⟩)) (And.intro (Or.inl (And.intro (by rfl) (fun V hS => ?tg15))) ?_)
      case tg15 =>
        go_simp
        exact ⟨rfl, hS⟩
      simp only [Act.put, List.setIfInBounds_toArray, List.set_cons_zero, List.set_cons_succ]
      refine Exists.intro (.pointer (some ⟨g, off + k * 6 + 1, none⟩)) (And.intro (Or.inl (And.intro (by rfl) (fun V hS => ?tg16))) ?_)
      case tg16 =>
        go_simp
        exact ⟨rfl, hS⟩
      simp only [Act.put, List.setIfInBounds_toArray, List.set_cons_zero, List.set_cons_succ]
      refine Exists.intro (.string St) (And.intro (Or.inl (And.intro (by rfl) (fun V hS => ?tg17))) ?_)
      case tg17 =>
        have h1 := keep_cell hS d1
        go_simp
        exact ⟨rfl, hS⟩
      simp only [Act.put, List.setIfInBounds_toArray, List.set_cons_zero, List.set_cons_succ]
      refine Exists.intro (textV ⟨#[115, 116, 114, 101, 97, 109]⟩ St) (And.intro (Or.inl (And.intro (by rfl) (fun V hS => ?tg18))) ?_)
      case tg18 =>
        go_simp
        refine (refText_any _ _ _).mono ?_
        rintro e w' ⟨rfl, hb⟩
        exact ⟨rfl, below_then hS hb⟩
      simp only [Act.put, List.setIfInBounds_toArray, List.set_cons_zero, List.set_cons_succ]
      refine Exists.intro (.pointer (some ⟨wr.heap.size, 0, none⟩)) (And.intro (Or.inl (And.intro (by rfl) (fun V hS => ?tg19))) ?_)
      case tg19 =>
        go_simp
        exact ⟨rfl, hS⟩
      simp only [Act.put, List.setIfInBounds_toArray, List.set_cons_zero, List.set_cons_succ]
      refine Exists.intro (.string Ty) (And.intro (Or.inl (And.intro (by rfl) (fun V hS => ?tg20))) ?_)
      case tg20 =>
        have h1 := Lib.cell_of_heap (keep_at hx5 hS) 0
        have h2 := Lib.frozen_of_heap (keep_at hx5 hS) 0
        go_simp
        exact ⟨rfl, hS⟩
      simp only [Act.put, List.setIfInBounds_toArray, List.set_cons_zero, List.set_cons_succ]
      refine Exists.intro (textV ⟨#[116, 121, 112, 101]⟩ Ty) (And.intro (Or.inl (And.intro (by rfl) (fun V hS => ?tg21))) ?_)
      case tg21 =>
        go_simp
        refine (refText_any _ _ _).mono ?_
        rintro e w' ⟨rfl, hb⟩
        exact ⟨rfl, below_then hS hb⟩
      simp only [Act.put, List.setIfInBounds_toArray, List.set_cons_zero, List.set_cons_succ]
      refine Exists.intro (.pointer (some ⟨wr.heap.size, 1, none⟩)) (And.intro (Or.inl (And.intro (by rfl) (fun V hS => ?tg22))) ?_)
      case tg22 =>
        go_simp
        exact ⟨rfl, hS⟩
      simp only [Act.put, List.setIfInBounds_toArray, List.set_cons_zero, List.set_cons_succ]
      refine Exists.intro (.int .i64 ve) (And.intro (Or.inl (And.intro (by rfl) (fun V hS => ?tg23))) ?_)
      case tg23 =>
        have h1 := Lib.cell_of_heap (keep_at hx5 hS) 1
        have h2 := Lib.frozen_of_heap (keep_at hx5 hS) 1
        go_simp
        exact ⟨rfl, hS⟩
      simp only [Act.put, List.setIfInBounds_toArray, List.set_cons_zero, List.set_cons_succ]
      refine Exists.intro (numV ⟨#[118, 101, 114, 115, 105, 111, 110]⟩ ve) (And.intro (Or.inl (And.intro (by rfl) (fun V hS => ?tg24))) ?_)
      case tg24 =>
        go_simp
        refine (refNum_any _ _ _).mono ?_
        rintro e w' ⟨rfl, hb⟩
        exact ⟨rfl, below_then hS hb⟩
      simp only [Act.put, List.setIfInBounds_toArray, List.set_cons_zero, List.set_cons_succ]
      intro V hS
      have hbV := below_then hS (below_alloc V (.cells #[.string ⟨#[110, 117, 109, 98, 101, 114]⟩, .bool false, .int .i64 nu, .string ⟨#[]⟩, .string ⟨#[112, 111, 115]⟩, .bool false, .int .i64 po, .string ⟨#[]⟩, .string ⟨#[115, 116, 114, 101, 97, 109]⟩, .bool true, .int .i64 0, .string St, .string ⟨#[116, 121, 112, 101]⟩, .bool true, .int .i64 0, .string Ty, .string ⟨#[118, 101, 114, 115, 105, 111, 110]⟩, .bool false, .int .i64 ve, .string ⟨#[]⟩] 54))
      have hrw := rows_lit (l := [numF nNumber nu, numF nPos po, textFl nStream St.data.toList, textFl nType Ty.data.toList, numF nVersion ve]) (show StAt 54 V.heap.size _ (V.alloc (.cells #[.string ⟨#[110, 117, 109, 98, 101, 114]⟩, .bool false, .int .i64 nu, .string ⟨#[]⟩, .string ⟨#[112, 111, 115]⟩, .bool false, .int .i64 po, .string ⟨#[]⟩, .string ⟨#[115, 116, 114, 101, 97, 109]⟩, .bool true, .int .i64 0, .string St, .string ⟨#[116, 121, 112, 101]⟩, .bool true, .int .i64 0, .string Ty, .string ⟨#[118, 101, 114, 115, 105, 111, 110]⟩, .bool false, .int .i64 ve, .string ⟨#[]⟩] 54)) from new_at V _ _) 5
      have HRW := Lib.hid hrw
      clear hrw hS d0 d1 d2
      go_upto_region 7 with (fail)
      obtain ⟨N, hN⟩ : ∃ N, N = V.heap.size := ⟨_, rfl⟩
      obtain ⟨w5, hw5⟩ : ∃ w5, w5 = V.alloc (.cells #[.string ⟨#[110, 117, 109, 98, 101, 114]⟩, .bool false, .int .i64 nu, .string ⟨#[]⟩, .string ⟨#[112, 111, 115]⟩, .bool false, .int .i64 po, .string ⟨#[]⟩, .string ⟨#[115, 116, 114, 101, 97, 109]⟩, .bool true, .int .i64 0, .string St, .string ⟨#[116, 121, 112, 101]⟩, .bool true, .int .i64 0, .string Ty, .string ⟨#[118, 101, 114, 115, 105, 111, 110]⟩, .bool false, .int .i64 ve, .string ⟨#[]⟩] 54) := ⟨_, rfl⟩
      rw [← hw5] at hbV HRW ⊢
      rw [← hN] at HRW ⊢
      clear hw5 hN
      have hx6 := keep_at hx5 hbV
      have hE5 := hE4.keep hbV
      have HFR5 := Lib.hid (HFR.out.keep (below_then hbw hbV))
      have hR1 := fun W (hW : Below w5.heap.size w5 W) => refRecord_any _ _ F1 HF1.out W (hE5.keep hW) (HRW.out.keep hW) (by simp) HHR.out
      have hR2 := fun W (hW : Below w5.heap.size w5 W) => refRecord_any _ _ F2 HF2.out W (hE5.keep hW) (HFR5.out.keep hW) HFX.out.2 HFX.out.1.2.2.2
      have HR1 := Lib.hid hR1
      have HR2 := Lib.hid hR2
      clear hR1 hR2 hx5
      refine wp_region_tame1 7 (fun V => Below w5.heap.size w5 V) (by kernel_rfl) (by kernel_rfl) (fun _ _ _ _ h => h) ((Below.refl _ w5).drew) ⟨_, Or.inl ⟨by rfl, fun W => by first | (go_simp; done) | (go_simp; with_reducible rfl) | rfl⟩, ?_⟩
      simp only [List.take_succ_cons, List.take_zero, List.drop_succ_cons, List.drop_zero, Act.put, List.setIfInBounds_toArray, List.set_cons_zero, List.set_cons_succ]
      refine Exists.intro (.slice (some ⟨N, 0, none⟩) 5 5) (And.intro (Or.inl (And.intro (by rfl) (fun V hS => ?tg25))) ?_)
      case tg25 =>
        go_simp
        exact ⟨rfl, hS⟩
      simp only [Act.put, List.setIfInBounds_toArray, List.set_cons_zero, List.set_cons_succ]
      refine Exists.intro (.string F1) (And.intro (Or.inl (And.intro (by rfl) (fun V hS => ?tg26))) ?_)
      case tg26 =>
        go_simp
        refine (HR1.out _ hS).mono ?_
        rintro e w' ⟨rfl, hb⟩
        exact ⟨rfl, below_then hS hb⟩
      simp only [Act.put, List.setIfInBounds_toArray, List.set_cons_zero, List.set_cons_succ]
      refine Exists.intro (.string G) (And.intro (Or.inl (And.intro (by rfl) (fun V hS => ?tg27))) ?_)
      case tg27 =>
        go_simp
        exact ⟨rfl, hS⟩
      simp only [Act.put, List.setIfInBounds_toArray, List.set_cons_zero, List.set_cons_succ]
      refine Exists.intro (.pointer (some ⟨wr.heap.size, 2, none⟩)) (And.intro (Or.inl (And.intro (by rfl) (fun V hS => ?tg28))) ?_)
      case tg28 =>
        go_simp
        exact ⟨rfl, hS⟩
      simp only [Act.put, List.setIfInBounds_toArray, List.set_cons_zero, List.set_cons_succ]
      refine Exists.intro (.slice fo x.fields.length fc) (And.intro (Or.inl (And.intro (by rfl) (fun V hS => ?tg29))) ?_)
      case tg29 =>
        have h1 := Lib.cell_of_heap (keep_at hx6 hS) 2
        have h2 := Lib.frozen_of_heap (keep_at hx6 hS) 2
        go_simp
        exact ⟨rfl, hS⟩
      simp only [Act.put, List.setIfInBounds_toArray, List.set_cons_zero, List.set_cons_succ]
      refine Exists.intro (.string F2) (And.intro (Or.inl (And.intro (by rfl) (fun V hS => ?tg30))) ?_)
      case tg30 =>
        go_simp
        refine (HR2.out _ hS).mono ?_
        rintro e w' ⟨rfl, hb⟩
        exact ⟨rfl, below_then hS hb⟩
      simp only [Act.put, List.setIfInBounds_toArray, List.set_cons_zero, List.set_cons_succ]
      intro w6 hS6
      have hb6 := below_then hbw (below_then hbV hS6)
      have hwr6 := below_then HWR.out hb6
      have hsz6 := hwr6.size
      have hI6 := W12.own_keep HIr.out hb6
      have HLK : Hid ((W12.cellsS ((l.map lineE).take k)).length = k) := Lib.hid (by simp [W12.cellsS]; omega)
      clear HR1 HR2 hbV hS6 hx6 hE5 hE4 hbw
      go_wp2_with (at_builtin; refine wpList_append_own _ rfl _ _ 42 rfl w1.heap.size 9 i0 (.string ⟨#[]⟩) 1 16 Tryz.underlying42 hi hz0 hz1 hz2 rfl (by decide) _ _ _ rfl (hI6.alloc _) ⟨w6.heap.size, 0, none⟩ 1 1 [.string T] rfl rfl ?c1 ?c2 ?c3 ?c4 ?c5 ?_)
      case c1 =>
        intro j u hj
        match j, hj with
        | 0, hj => simp at hj; subst hj; simp [Addr.add]
      case c2 => intro u hu; simp at hu; subst hu; rfl
      case c3 => unfold maxLen; omega
      case c4 => omega
      case c5 => simp; omega
      intro v' w7 hown' hgrow _
      have hB7 : Below w1.heap.size w1 w7 := ((hwr6.alloc (by omega) _).grown hgrow (by simp; omega) (fun j e => (hI6.lt j e).1))
      have HOW := Lib.hid hown'
      clear hgrow hI6 hown' hb6 hwr6
      go_wp2_with fail
      go_roundw
      case rel => exact ⟨k + 1, by omega, by go_num, by rw [HSN.out]; exact HOW.out, hB7⟩
      case measure => simp [intOf]; omega
    · obtain rfl : k = l.length := by omega
      have hS0 : W12.Strs _ (l.map lineE) wr := W12.strs_own (l := l.map lineE) (by rw [← List.length_map (f := lineE), List.take_length] at hI; exact hI)
      have HPG := Lib.hid (refPage_any ⟨#[]⟩ _ (l.map lineE) wr hS0 (by decide) HLL.out (by rw [List.length_map]; omega) X HX.out)
      have hy6 := keep_at hy1 hwr
      have hb7 := below_then hb1 hwr
      clear hI hS0 HC hy1 hb1 hwr
      go_wp2_with (go_at_call 58; refine HPG.out.mono ?_; rintro e w5 ⟨rfl, hb8⟩; refine Hid.out ?_)
      refine Lib.hid ?_
      have hy9 := keep_at hy6 hb8
      have hb9 := below_then hb7 hb8
      go_wp2_with (refine put_st rfl _ _ _ rfl w.heap.size #[.int .i64 200, .string X, .bool false] rfl rfl hy9 infoRp rfl (by simp [Value.oneCell']) ?_; intro w9 h1 h2 h3)
      exact bodyPost_ret (v := .agg #[.int .i64 200, .string X, .bool false]) (ret_st1 Tryz.results26 _ _ _ _ rfl (load_rp h1 rfl)) rfl ⟨rfl, hb9.trans h2⟩
end Go.Proofs.YtfkmgnldkmpeiaaGreatDoor.W20
