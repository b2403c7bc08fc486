/-
  Walks of layer 20: the reference's Cut, its list owned; the reference's parts. Conditions: sixteen times the text's length is within Go's own limit.
-/
import Derived.Test.YtfkmgnldkmpeiaaGreatDoorGal
import Derived.Test.YtfkmgnldkmpeiaaGreatDoorGak
import Derived.Test.YtfkmgnldkmpeiaaGreatDoorGar

namespace Go.Proofs.YtfkmgnldkmpeiaaGreatDoor.W12
open Go Go.RowKit P12

/-- A list of texts in new memory. -/
def OwnS (B : Nat) (v : Value) (l : List By) (w : World) : Prop := w.ownsRow B 9 1 v l.length (cellsS l)
set_option maxHeartbeats 3200000 in
set_option maxRecDepth 100000 in
theorem refCut_own (s : ByteArray) (c : UInt8) (w : World) (hs : s.size ≤ 1000000000000) :
    Calls Tryz.prog 16 #[.string s, .int .u8 (c.toNat : Nat)] w fun e w' => ∃ v, e = .returned v ∧ OwnS w.heap.size v (partsL c s.data.toList) w' ∧ Below w.heap.size w w' := by
  obtain ⟨i0, hi, hz0, hz1, hz2⟩ := info_parts infoS
  go_enter Tryz.func16, Tryz.ntmps16
  go_wp2_with fail
  go_loopw [5, 6, 7] (fun v fr i wr => ∃ (k f : Nat) (L : List By), k ≤ s.size + 1 ∧ f ≤ k ∧ i = .int .i64 k ∧ fr = .int .i64 f ∧ L.length ≤ k ∧ Hid (CutAt c s k f L) ∧ wr.ownsRow w.heap.size 9 1 v L.length (cellsS L) ∧ Below w.heap.size w wr) (fun _ _ i _ => s.size + 1 - (intOf i).toNat)
  case atStart => exact ⟨0, 0, [], by omega, by omega, rfl, rfl, by simp, Lib.hid (cut_start c s), World.ownsRow_nil _ _ _ _, Below.refl _ _⟩
  case round =>
    obtain ⟨k, f, L, hk, hf, rfl, rfl, hL, hC, hI, hB⟩ := hrel
    have hBs := hB.size
    by_cases hlt : k < s.size
    · have hlt' : (k : Int) < (s.size : Int) := by omega
      have hle : (k : Int) ≤ (s.size : Int) := by omega
      have hne : ((k : Int) == (s.size : Int)) = false := by rw [beq_eq_false_iff_ne]; omega
      by_cases hc : s[k]'hlt = c
      · have hz : (((s[k]'hlt).toNat : Int) == (c.toNat : Int)) = true := by rw [hc]; simp
        have hCn := cut_hit hC.out hlt hc
        obtain ⟨p, hp⟩ : ∃ p, p = s.extract f k := ⟨_, rfl⟩
        rw [← hp] at hCn
        have HP := Lib.hid hp
        have HC := Lib.hid hCn
        clear hCn hp hc hC
        go_wp2_with (first
          | (rw [← HP.out])
          | (at_builtin; refine wpList_append_own _ rfl _ _ 42 rfl w.heap.size 9 i0 (.string ⟨#[]⟩) 1 16 Tryz.underlying42 hi hz0 hz1 hz2 rfl (by decide) _ _ _ rfl (hI.alloc _) ⟨wr.heap.size, 0, none⟩ 1 1 [.string p] rfl rfl ?c1 ?c2 ?c3 ?c4 ?c5 ?_))
        case c1 =>
          intro j u hj
          match j, hj with
          | 0, hj => simp at hj; subst hj; simp [Addr.add, HP.out]
        case c2 => intro u hu; simp at hu; subst hu; rfl
        case c3 => unfold maxLen; omega
        case c4 => omega
        case c5 => simp; omega
        intro v' w2 hown' hgrow _
        have hB2 : Below w.heap.size w w2 := ((hB.alloc (by omega) _).grown hgrow (by simp; omega) (fun j e => (hI.lt j e).1))
        clear hgrow hI
        go_wp2_with fail
        go_roundw
        case rel => exact ⟨k + 1, k + 1, L ++ [p.data.toList], by omega, by omega, by go_num, by go_num, by simp; omega, HC, by rw [cellsS_snoc, bs_data, List.length_append]; exact hown', hB2⟩
        case measure => simp [intOf]; omega
      · have hz : (((s[k]'hlt).toNat : Int) == (c.toNat : Int)) = false := by
          rw [beq_eq_false_iff_ne]
          intro e
          apply hc
          apply UInt8.toNat_inj.1
          omega
        have HC := Lib.hid (cut_miss hC.out hlt hc)
        clear hc hC
        go_wp2_with fail
        go_roundw
        case rel => exact ⟨k + 1, f, L, by omega, by omega, by go_num, rfl, by omega, HC, hI, hB⟩
        case measure => simp [intOf]; omega
    · by_cases hke : k = s.size
      · have hle : (k : Int) ≤ (s.size : Int) := by omega
        have hne : ((k : Int) == (s.size : Int)) = true := by rw [beq_iff_eq]; omega
        subst hke
        have hCn := cut_end hC.out
        obtain ⟨p, hp⟩ : ∃ p, p = s.extract f s.size := ⟨_, rfl⟩
        rw [← hp] at hCn
        have HP := Lib.hid hp
        have HC := Lib.hid hCn
        clear hCn hp hC
        go_wp2_with (first
          | (rw [← HP.out])
          | (at_builtin; refine wpList_append_own _ rfl _ _ 42 rfl w.heap.size 9 i0 (.string ⟨#[]⟩) 1 16 Tryz.underlying42 hi hz0 hz1 hz2 rfl (by decide) _ _ _ rfl (hI.alloc _) ⟨wr.heap.size, 0, none⟩ 1 1 [.string p] rfl rfl ?c1 ?c2 ?c3 ?c4 ?c5 ?_))
        case c1 =>
          intro j u hj
          match j, hj with
          | 0, hj => simp at hj; subst hj; simp [Addr.add, HP.out]
        case c2 => intro u hu; simp at hu; subst hu; rfl
        case c3 => unfold maxLen; omega
        case c4 => omega
        case c5 => simp; omega
        intro v' w2 hown' hgrow _
        have hB2 : Below w.heap.size w w2 := ((hB.alloc (by omega) _).grown hgrow (by simp; omega) (fun j e => (hI.lt j e).1))
        clear hgrow hI
        go_wp2_with fail
        go_roundw
        case rel => exact ⟨s.size + 1, s.size + 1, L ++ [p.data.toList], by omega, by omega, by go_num, by go_num, by simp; omega, HC, by rw [cellsS_snoc, bs_data, List.length_append]; exact hown', hB2⟩
        case measure => simp [intOf]
      · obtain rfl : k = s.size + 1 := by omega
        have hP : partsL c s.data.toList = L := by
          rcases hC.out with ⟨h1, _⟩ | ⟨_, h, _⟩
          · omega
          · exact h
        have HPL := Lib.hid hP
        have hSt : Hid (OwnS w.heap.size _ L wr) := Lib.hid hI
        clear hP hC hI hke
        go_wp2_with fail
        go_ret
        exact ⟨_, rfl, by rw [HPL.out]; exact hSt.out, hB⟩
end Go.Proofs.YtfkmgnldkmpeiaaGreatDoor.W12
namespace Go.Proofs.YtfkmgnldkmpeiaaGreatDoor.W20
open Go Go.RowKit P12 P18 P20 W12

/-- An owned list that is not empty lies in a row. -/
theorem own_at {B : Nat} {v : Value} {l : List By} {w : World} (h : OwnS B v l w) (hl : l ≠ []) : ∃ (g cap : Nat) (cur : Array Value), v = .slice (some ⟨g, 0, none⟩) l.length cap ∧ B ≤ g ∧ w.heap[g]? = some (.cells cur 9 (0, 0)) ∧ l.length ≤ cur.size ∧ cur.toList.take l.length = l.map bs := by
  rcases h.2 with ⟨hv, hn⟩ | ⟨g, cap, cur, hv, hb, hg, hnc, hcm, hcs, htk⟩
  · exact absurd (List.length_eq_zero_iff.1 hn) hl
  · have hlen : (cellsS l).length = l.length := by simp [cellsS]
    refine ⟨g, cap, cur, hv, hb, hg, ?_, ?_⟩
    · rw [hcs]; omega
    · rw [Nat.mul_one] at htk
      exact htk
/-- While the parts are unescaped: the first k are. -/
def Half (g : Nat) (us L : List By) (w : World) : Prop := ∃ cur : Array Value, w.heap[g]? = some (.cells cur 9 (0, 0)) ∧ us.length + L.length ≤ cur.size ∧ cur.toList.take (us.length + L.length) = (us ++ L).map bs
theorem Half.cell {g : Nat} {us L : List By} {p : By} {w : World} (h : Half g us (p :: L) w) : w.cell? ⟨g, us.length, none⟩ = some (bs p) ∧ w.frozen? ⟨g, us.length, none⟩ = false := by
  obtain ⟨cur, h1, h2, h3⟩ := h
  refine ⟨?_, Lib.frozen_of_heap h1 _⟩
  rw [Lib.cell_of_heap h1, ← Array.getElem?_toList]
  have : (cur.toList.take (us.length + (p :: L).length))[us.length]? = cur.toList[us.length]? := List.getElem?_take_of_lt (by simp)
  rw [← this, h3, List.getElem?_map, List.getElem?_append_right (Nat.le_refl _), Nat.sub_self]
  rfl
theorem Half.store {g : Nat} {us L : List By} {p u : By} {w : World} (h : Half g us (p :: L) w) : Half g (us ++ [u]) L (w.setCell ⟨g, us.length, none⟩ (bs u)) := by
  obtain ⟨cur, h1, h2, h3⟩ := h
  refine ⟨_, heap_setCell_same w g us.length _ _ (bs u) h1, ?_, ?_⟩
  · simp only [Array.size_setIfInBounds, List.length_append, List.length_cons, List.length_nil] at h2 ⊢
    omega
  · rw [Array.toList_setIfInBounds, List.take_set, show (us ++ [u]).length + L.length = us.length + (p :: L).length by simp; omega, h3, List.map_append, List.set_append_right _ _ (by simp)]
    simp
theorem Half.keep {g : Nat} {us L : List By} {w w' : World} (h : Half g us L w) (hb : Below w.heap.size w w') : Half g us L w' := by
  obtain ⟨cur, h1, h2, h3⟩ := h
  exact ⟨cur, (hb.block g (Array.getElem?_eq_some_iff.1 h1).1).trans h1, h2, h3⟩
theorem Half.strs {g cap : Nat} {us : List By} {w : World} (h : Half g us [] w) : Strs (.slice (some ⟨g, 0, none⟩) us.length cap) us w := by
  obtain ⟨cur, h1, h2, h3⟩ := h
  simp only [List.length_nil, Nat.add_zero, List.append_nil] at h2 h3
  refine ⟨_, cap, rfl, .inr ⟨g, 0, rfl, fun j p hj => ?_⟩⟩
  have hjl := (List.getElem?_eq_some_iff.1 hj).1
  rw [Nat.zero_add, Lib.cell_of_heap h1, ← Array.getElem?_toList]
  have : (cur.toList.take us.length)[j]? = cur.toList[j]? := List.getElem?_take_of_lt hjl
  rw [← this, h3, List.getElem?_map, hj]
  rfl
/-- What parts comes to. -/
def PartsP (s : By) (w : World) (e : Ending) (w' : World) : Prop :=
  (partsU s = none ∧ e = .returned (.tuple #[.slice none 0 0, .bool false]) ∨ ∃ (us : List By) (v : Value), partsU s = some us ∧ e = .returned (.tuple #[v, .bool true]) ∧ Strs v us w') ∧ Below w.heap.size w w'
theorem parts_no {s : By} {w w' : World} (h : partsU s = none) (hb : Below w.heap.size w w') : PartsP s w (.returned (.tuple #[.slice none 0 0, .bool false])) w' := ⟨.inl ⟨h, rfl⟩, hb⟩
set_option maxHeartbeats 6400000 in
set_option maxRecDepth 100000 in
theorem refParts_any (s : ByteArray) (hs : s.size ≤ 1000000000000) (w : World) : Calls Tryz.prog 68 #[.string s] w (PartsP s.data.toList w) := by
  by_cases h0 : s.size = 0
  · have hd : s.data.toList = [] := List.eq_nil_of_length_eq_zero (by rw [size_data]; exact h0)
    have z0 : (s.size : Int) = 0 := by omega
    have HN : Hid (partsU s.data.toList = none) := Lib.hid (by rw [hd]; rfl)
    clear hd h0
    go_enter Tryz.func68, Tryz.ntmps68
    go_wp2_with fail
    go_ret2
    exact parts_no HN.out (Below.refl _ _)
  · have hp : 0 < s.size := by omega
    have z0 : ((s.size : Int) == 0) = false := by rw [beq_eq_false_iff_ne]; omega
    have z1 : (0 : Int) < (s.size : Int) := by omega
    obtain ⟨b0, r, hbr⟩ : ∃ b0 r, s.data.toList = b0 :: r := by
      cases h : s.data.toList with
      | nil => have := size_data s; rw [h] at this; simp at this; omega
      | cons a b => exact ⟨a, b, rfl⟩
    have hb0 : s[0]'hp = b0 := by
      have : s.data.toList[0]? = some b0 := by rw [hbr]; rfl
      rw [List.getElem?_eq_getElem (by rw [size_data]; exact hp)] at this
      exact Option.some.inj this
    by_cases hc : b0 = 47
    · obtain ⟨R, hR⟩ : ∃ R : ByteArray, R = s.extract 1 s.size := ⟨_, rfl⟩
      have hRd : R.data.toList = r := by rw [hR, Lib.extract_to_end, hbr]; rfl
      have hRs : R.size ≤ s.size := by rw [hR, ByteArray.size_extract]; omega
      obtain ⟨L, hL⟩ : ∃ L, L = partsL 47 r := ⟨_, rfl⟩
      have hcut : ∀ W, Calls Tryz.prog 16 #[.string R, .int .u8 47] W fun e w' => ∃ v, e = .returned v ∧ OwnS W.heap.size v L w' ∧ Below W.heap.size W w' := fun W => by
        have := refCut_own R 47 W (by omega)
        rw [hRd, ← hL] at this
        exact this
      have hpu : partsU s.data.toList = unescAll L := by rw [hbr, hc, hL]; simp [partsU]
      have hLne : L ≠ [] := by rw [hL]; exact partsL_ne 47 r
      have htot : tot L = r.length + 1 := by rw [hL, tot_parts]
      have hrl : r.length + 1 ≤ 1000000000000 := by have := size_data s; rw [hbr] at this; simp at this; omega
      have hb47 : s[0]'hp = 47 := hb0.trans hc
      have HCU := Lib.hid hcut
      have HPU := Lib.hid hpu
      have HLN := Lib.hid hLne
      have HR := Lib.hid hR
      have HT := Lib.hid htot
      have HB := Lib.hid hb47
      clear hcut hpu hLne hR htot hL hRd hbr hb0 hc hb47
      go_enter Tryz.func68, Tryz.ntmps68
      go_wp2_with (first
        | (rw [HB.out])
        | (rw [← HR.out])
        | (go_at_call 16; (with_reducible refine (HCU.out _).mono ?_); rintro e w1 ⟨v, rfl, hown, hb1⟩; refine Hid.out ?_))
      refine Lib.hid ?_
      obtain ⟨g, cap, cur, rfl, hgB, hg, hgs, hgt⟩ := own_at hown HLN.out
      obtain ⟨n, hn⟩ : ∃ n, n = L.length := ⟨_, rfl⟩
      have hH : Half g [] L w1 := ⟨cur, hg, by simpa using hgs, by simpa using hgt⟩
      have hn1 : n ≤ 1000000000000 := by have := len_tot L; have := HT.out; omega
      have HN := Lib.hid hn
      rw [← hn]
      clear hn hg hgs hgt hown
      go_wp2_with fail
      go_loopw [5] (fun i wr => ∃ (k : Nat) (us : List By), k ≤ n ∧ i = .int .i64 k ∧ Hid (unescAll (L.take k) = some us) ∧ Half g us (L.drop k) wr ∧ Below w.heap.size w wr) (fun i _ => n - (intOf i).toNat)
      case atStart => exact ⟨0, [], by omega, rfl, Lib.hid rfl, hH, hb1⟩
      case round =>
        clear hH hb1
        obtain ⟨k, us, hk, rfl, HU, hH, hb⟩ := hrel
        have hul : us.length = k := by rw [unescAll_len HU.out, List.length_take, ← HN.out, Nat.min_eq_left hk]
        by_cases hlt : k < n
        · obtain ⟨p, hpk⟩ : ∃ p, L[k]? = some p := ⟨_, List.getElem?_eq_getElem (by rw [← HN.out]; exact hlt)⟩
          have hdr : L.drop k = p :: L.drop (k + 1) := by
            rw [List.drop_eq_getElem_cons (by rw [← HN.out]; exact hlt)]
            congr 1
            rw [List.getElem?_eq_getElem (by rw [← HN.out]; exact hlt)] at hpk
            exact Option.some.inj hpk
          rw [hdr] at hH
          have hpl : p.length ≤ 1000000000000 := by
            have : ∀ (l : List By) (j : Nat) (q : By), l[j]? = some q → q.length ≤ tot l := by
              intro l
              induction l with
              | nil => intro j q h; simp at h
              | cons x l ih =>
                intro j q h
                match j with
                | 0 => simp at h; subst h; simp only [tot]; omega
                | j + 1 => have := ih j q (by simpa using h); simp only [tot]; omega
            have := this L k p hpk
            have := HT.out
            omega
          obtain ⟨hcell, hfz⟩ := hH.cell
          rw [hul] at hcell hfz
          have hun := fun W => refUnescaped_any ⟨p.toArray⟩ W (by rw [size_mk]; omega)
          have hk1 : (k : Int) < (n : Int) := by omega
          have hk0 : (0 : Int) ≤ (k : Int) := by omega
          have hun2 : ∀ W, Calls Tryz.prog 97 #[bs p] W fun e w' => e = .returned (unescEnd (unescL p)) ∧ Below W.heap.size W w' := hun
          have HH := Lib.hid hH
          have HPK := Lib.hid hpk
          have HUL := Lib.hid hul
          clear hun hH hdr hul
          cases hu : unescL p with
          | none =>
            rw [hu] at hun2
            have HF := Lib.hid (show partsU s.data.toList = none by rw [HPU.out]; exact unescAll_none k p HPK.out hu)
            have HUN := Lib.hid hun2
            unfold unescEnd at HUN
            clear hun2 hu hpk
            go_wp2_with (go_at_call 97; refine (HUN.out _).mono ?_; rintro e w3 ⟨rfl, hb3⟩)
            go_ret2
            exact parts_no HF.out (below_then hb hb3)
          | some u =>
            rw [hu] at hun2
            have HUN := Lib.hid hun2
            unfold unescEnd at HUN
            have HUU := Lib.hid hu
            obtain ⟨U, hUd⟩ : ∃ U : ByteArray, bs u = .string U := ⟨_, rfl⟩
            have HUD := Lib.hid hUd
            simp only [hUd] at HUN
            clear hun2 hu hpk hUd
            go_wp2_with (go_at_call 97; refine (HUN.out _).mono ?_; rintro e w3 ⟨rfl, hb3⟩; have hcell3 := keep_cell hb3 hcell; have hfz3 : w3.frozen? ⟨g, k, none⟩ = false := by (have := (HH.out.keep hb3).cell.2; rw [HUL.out] at this; exact this))
            have HS := Lib.hid ((HH.out.keep hb3).store (u := u))
            rw [HUL.out, HUD.out] at HS
            go_roundw
            case rel =>
              refine ⟨k + 1, us ++ [u], by omega, by go_num, Lib.hid ?_, HS.out, (below_then hb hb3).setCell (by show w.heap.size ≤ g; exact hgB) _⟩
              rw [List.take_succ_eq_append_getElem (by rw [← HN.out]; exact hlt)]
              have := List.getElem?_eq_getElem (l := L) (i := k) (by rw [← HN.out]; exact hlt)
              rw [HPK.out] at this
              rw [← Option.some.inj this]
              exact unescAll_snoc HU.out HUU.out
            case measure => simp [intOf]; omega
        · obtain rfl : k = n := by omega
          have hU : partsU s.data.toList = some us := by rw [HPU.out]; have := HU.out; rwa [List.take_of_length_le (by rw [← HN.out]; exact Nat.le_refl _)] at this
          rw [List.drop_eq_nil_of_le (by rw [← HN.out]; exact Nat.le_refl _)] at hH
          have hst := hH.strs (cap := cap)
          rw [hul] at hst
          have HST := Lib.hid hst
          have HUF := Lib.hid hU
          clear hU hH hst hul
          go_wp2_with fail
          go_ret2
          exact ⟨.inr ⟨us, _, HUF.out, rfl, HST.out⟩, hb⟩
    · have HF : Hid (partsU s.data.toList = none) := Lib.hid (by rw [hbr]; unfold partsU; simp only; rw [if_neg hc])
      have z2 : (((s[0]'hp).toNat : Int) == 47) = false := by
        rw [beq_eq_false_iff_ne, hb0]
        intro h
        apply hc
        apply UInt8.toNat_inj.1
        have : b0.toNat = 47 := by omega
        exact this
      have z3 : (((s[0]'hp).toNat : Int) != 47) = true := by rw [bne, z2]; rfl
      clear hbr hb0 hc
      go_enter Tryz.func68, Tryz.ntmps68
      go_wp2_with fail
      go_ret2
      exact parts_no HF.out (Below.refl _ _)
end Go.Proofs.YtfkmgnldkmpeiaaGreatDoor.W20
