/-
  Walks of layer 12: the reference's Cut. Conditions: sixteen times the text's length is within Go's own limit.
-/
import Derived.Test.YtmcnblibnbkfjaaGreatDoorWalkU
import Derived.Test.YtmcnblibnbkfjaaGreatDoorWalkJ
namespace Go.Proofs.YtmcnblibnbkfjaaGreatDoor.W12
open Go Go.RowKit P12

def cellsS (l : List By) : List Value := l.map bs
theorem cellsS_snoc (l : List By) (p : By) : cellsS (l ++ [p]) = cellsS l ++ [bs p] := by simp [cellsS]
theorem infoS : (Tryz.prog.info? 9).map (fun i => (i.zero, i.size, i.bytes)) = some (some (.string ⟨#[]⟩), 1, 16) := by kernel_rfl

/-- A slice of texts, as a value in a world. -/
def Strs (v : Value) (l : List By) (w : World) : Prop :=
  ∃ o c, v = .slice o l.length c ∧ (l = [] ∨ ∃ g off, o = some ⟨g, off, none⟩ ∧ ∀ (j : Nat) (p : By), l[j]? = some p → w.cell? ⟨g, off + j, none⟩ = some (bs p))
theorem Strs.keep {v : Value} {l : List By} {w w' : World} (h : Strs v l w) (hb : RowKit.Below w.heap.size w w') : Strs v l w' := by
  obtain ⟨o, c, h1, h2⟩ := h
  refine ⟨o, c, h1, ?_⟩
  rcases h2 with h2 | ⟨g, off, h2, h3⟩
  · exact .inl h2
  · exact .inr ⟨g, off, h2, fun j p hj => keep_cell hb (h3 j p hj)⟩
theorem strs_own {w : World} {B : Nat} {v : Value} {l : List By} (h : w.ownsRow B 9 1 v l.length (cellsS l)) : Strs v l w := by
  rcases h.2 with ⟨hv, hn⟩ | ⟨g, cap, cur, hv, _⟩
  · have : l = [] := List.length_eq_zero_iff.1 (by omega)
    subst this
    exact ⟨none, 0, hv, .inl rfl⟩
  · subst hv
    refine ⟨some ⟨g, 0, none⟩, cap, rfl, .inr ⟨g, 0, rfl, fun j p hj => ?_⟩⟩
    have := h.cells (g := g) rfl j (bs p) (by simp [cellsS, hj])
    rw [Lib.add_plain] at this
    simpa using this
theorem seg_data (s : ByteArray) (f k : Nat) (_hk : k ≤ s.size) : (s.extract f k).data.toList = (s.data.toList.drop f).take (k - f) := by simp
theorem seg_split (s : ByteArray) (f k : Nat) (hf : f ≤ k) (hk : k < s.size) : s.data.toList.drop f = (s.extract f k).data.toList ++ (s[k]'hk) :: s.data.toList.drop (k + 1) := by
  rw [seg_data s f k (by omega), ← get_drop s k hk]
  have := List.take_append_drop (k - f) (s.data.toList.drop f)
  rw [List.drop_drop, show f + (k - f) = k by omega] at this
  exact this.symm
theorem seg_last (s : ByteArray) (f : Nat) (_hf : f ≤ s.size) : s.data.toList.drop f = (s.extract f s.size).data.toList := by
  rw [seg_data s f s.size (Nat.le_refl _), List.take_of_length_le]
  rw [List.length_drop, size_data]
  exact Nat.le_refl _

/-- How far the cutting is: what is out, where the part under way begins. -/
def CutAt (c : UInt8) (s : ByteArray) (k f : Nat) (L : List By) : Prop :=
  (k ≤ s.size ∧ f ≤ k ∧ partsL c s.data.toList = L ++ partsL c (s.data.toList.drop f) ∧ c ∉ (s.data.toList.drop f).take (k - f) ∧ L.length ≤ k) ∨ (k = s.size + 1 ∧ partsL c s.data.toList = L ∧ f = k)
theorem cut_start (c : UInt8) (s : ByteArray) : CutAt c s 0 0 [] := .inl ⟨by omega, by omega, by simp, by simp, by simp⟩
theorem cut_miss {c : UInt8} {s : ByteArray} {k f : Nat} {L : List By} (h : CutAt c s k f L) (hk : k < s.size) (hc : s[k]'hk ≠ c) : CutAt c s (k + 1) f L := by
  rcases h with ⟨h1, h2, h3, h4, h5⟩ | ⟨h1, _⟩
  · refine .inl ⟨by omega, by omega, h3, ?_, by omega⟩
    rw [seg_split s f k h2 hk]
    have hl : (s.extract f k).data.toList.length = k - f := by rw [seg_data s f k (by omega), List.length_take, List.length_drop, size_data]; omega
    rw [show k + 1 - f = (s.extract f k).data.toList.length + 1 by omega, List.take_append]
    simp only [List.take_of_length_le (Nat.le_succ (s.extract f k).data.toList.length), Nat.add_sub_cancel_left, List.take_succ_cons, List.take_zero, List.mem_append, List.mem_singleton, not_or]
    refine ⟨?_, fun e => hc e.symm⟩
    rw [seg_data s f k (by omega)]
    exact h4
  · omega
theorem cut_hit {c : UInt8} {s : ByteArray} {k f : Nat} {L : List By} (h : CutAt c s k f L) (hk : k < s.size) (hc : s[k]'hk = c) : CutAt c s (k + 1) (k + 1) (L ++ [(s.extract f k).data.toList]) := by
  rcases h with ⟨h1, h2, h3, h4, h5⟩ | ⟨h1, _⟩
  · refine .inl ⟨by omega, by omega, ?_, by simp, by simp; omega⟩
    have hsp := seg_split s f k h2 hk
    rw [hc] at hsp
    rw [h3, hsp, partsL_at (by rw [seg_data s f k (by omega)]; exact h4)]
    simp
  · omega
theorem cut_end {c : UInt8} {s : ByteArray} {f : Nat} {L : List By} (h : CutAt c s s.size f L) : CutAt c s (s.size + 1) (s.size + 1) (L ++ [(s.extract f s.size).data.toList]) := by
  rcases h with ⟨h1, h2, h3, h4, h5⟩ | ⟨h1, _⟩
  · refine .inr ⟨rfl, ?_, rfl⟩
    have hsp := seg_last s f h2
    rw [h3, hsp, partsL_free (by rw [seg_data s f _ (by omega)]; exact h4)]
  · omega

set_option maxHeartbeats 3200000 in
set_option maxRecDepth 100000 in
theorem refCut_any (s : ByteArray) (c : UInt8) (w : World) (hs : s.size ≤ 1000000000000) :
    Calls Tryz.prog 31 #[.string s, .int .u8 (c.toNat : Nat)] w fun e w' => ∃ v, e = .returned v ∧ Strs v (partsL c s.data.toList) w' ∧ Below w.heap.size w w' := by
  obtain ⟨i0, hi, hz0, hz1, hz2⟩ := info_parts infoS
  go_enter Tryz.func31, Tryz.ntmps31
  go_wp2_with fail
  go_loopw [5, 6, 7] (fun v fr i wr => ∃ (k f : Nat) (L : List By), k ≤ s.size + 1 ∧ f ≤ k ∧ i = .int .i64 k ∧ fr = .int .i64 f ∧ L.length ≤ k ∧ Hid (CutAt c s k f L) ∧ wr.ownsRow w.heap.size 9 1 v L.length (cellsS L) ∧ Below w.heap.size w wr) (fun _ _ i _ => s.size + 1 - (intOf i).toNat)
  case atStart => exact ⟨0, 0, [], by omega, by omega, rfl, rfl, by simp, Lib.hid (cut_start c s), World.ownsRow_nil _ _ _ _, Below.refl _ _⟩
  case round =>
    obtain ⟨k, f, L, hk, hf, rfl, rfl, hL, hC, hI, hB⟩ := hrel
    have hBs := hB.size
    by_cases hlt : k < s.size
    · have hlt' : (k : Int) < (s.size : Int) := by omega
      have hle : (k : Int) ≤ (s.size : Int) := by omega
      have hne : ((k : Int) == (s.size : Int)) = false := by rw [beq_eq_false_iff_ne]; omega
      by_cases hc : s[k]'hlt = c
      · have hz : (((s[k]'hlt).toNat : Int) == (c.toNat : Int)) = true := by rw [hc]; simp
        have hCn := cut_hit hC.out hlt hc
        obtain ⟨p, hp⟩ : ∃ p, p = s.extract f k := ⟨_, rfl⟩
        rw [← hp] at hCn
        have HP := Lib.hid hp
        have HC := Lib.hid hCn
        clear hCn hp hc hC
        go_wp2_with (first
          | (rw [← HP.out])
          | (at_builtin; refine wpList_append_own _ rfl _ _ 52 rfl w.heap.size 9 i0 (.string ⟨#[]⟩) 1 16 Tryz.underlying52 hi hz0 hz1 hz2 rfl (by decide) _ _ _ rfl (hI.alloc _) ⟨wr.heap.size, 0, none⟩ 1 1 [.string p] rfl rfl ?c1 ?c2 ?c3 ?c4 ?c5 ?_))
        case c1 =>
          intro j u hj
          match j, hj with
          | 0, hj => simp at hj; subst hj; simp [Addr.add, HP.out]
        case c2 => intro u hu; simp at hu; subst hu; rfl
        case c3 => unfold maxLen; omega
        case c4 => omega
        case c5 => simp; omega
        intro v' w2 hown' hgrow _
        have hB2 : Below w.heap.size w w2 := ((hB.alloc (by omega) _).grown hgrow (by simp; omega) (fun j e => (hI.lt j e).1))
        clear hgrow hI
        go_wp2_with fail
        go_roundw
        case rel => exact ⟨k + 1, k + 1, L ++ [p.data.toList], by omega, by omega, by go_num, by go_num, by simp; omega, HC, by rw [cellsS_snoc, bs_data, List.length_append]; exact hown', hB2⟩
        case measure => simp [intOf]; omega
      · have hz : (((s[k]'hlt).toNat : Int) == (c.toNat : Int)) = false := by
          rw [beq_eq_false_iff_ne]
          intro e
          apply hc
          apply UInt8.toNat_inj.1
          omega
        have HC := Lib.hid (cut_miss hC.out hlt hc)
        clear hc hC
        go_wp2_with fail
        go_roundw
        case rel => exact ⟨k + 1, f, L, by omega, by omega, by go_num, rfl, by omega, HC, hI, hB⟩
        case measure => simp [intOf]; omega
    · by_cases hke : k = s.size
      · have hle : (k : Int) ≤ (s.size : Int) := by omega
        have hne : ((k : Int) == (s.size : Int)) = true := by rw [beq_iff_eq]; omega
        subst hke
        have hCn := cut_end hC.out
        obtain ⟨p, hp⟩ : ∃ p, p = s.extract f s.size := ⟨_, rfl⟩
        rw [← hp] at hCn
        have HP := Lib.hid hp
        have HC := Lib.hid hCn
        clear hCn hp hC
        go_wp2_with (first
          | (rw [← HP.out])
          | (at_builtin; refine wpList_append_own _ rfl _ _ 52 rfl w.heap.size 9 i0 (.string ⟨#[]⟩) 1 16 Tryz.underlying52 hi hz0 hz1 hz2 rfl (by decide) _ _ _ rfl (hI.alloc _) ⟨wr.heap.size, 0, none⟩ 1 1 [.string p] rfl rfl ?c1 ?c2 ?c3 ?c4 ?c5 ?_))
        case c1 =>
          intro j u hj
          match j, hj with
          | 0, hj => simp at hj; subst hj; simp [Addr.add, HP.out]
        case c2 => intro u hu; simp at hu; subst hu; rfl
        case c3 => unfold maxLen; omega
        case c4 => omega
        case c5 => simp; omega
        intro v' w2 hown' hgrow _
        have hB2 : Below w.heap.size w w2 := ((hB.alloc (by omega) _).grown hgrow (by simp; omega) (fun j e => (hI.lt j e).1))
        clear hgrow hI
        go_wp2_with fail
        go_roundw
        case rel => exact ⟨s.size + 1, s.size + 1, L ++ [p.data.toList], by omega, by omega, by go_num, by go_num, by simp; omega, HC, by rw [cellsS_snoc, bs_data, List.length_append]; exact hown', hB2⟩
        case measure => simp [intOf]
      · obtain rfl : k = s.size + 1 := by omega
        have hP : partsL c s.data.toList = L := by
          rcases hC.out with ⟨h1, _⟩ | ⟨_, h, _⟩
          · omega
          · exact h
        have HPL := Lib.hid hP
        have hSt := Lib.hid (strs_own hI)
        clear hP hC hI hke
        go_wp2_with fail
        go_ret
        exact ⟨_, rfl, by rw [HPL.out]; exact hSt.out, hB⟩
end Go.Proofs.YtmcnblibnbkfjaaGreatDoor.W12
