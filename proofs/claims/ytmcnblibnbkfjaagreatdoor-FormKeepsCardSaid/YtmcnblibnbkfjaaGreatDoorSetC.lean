/-
  Walks of layer 12: slices.Insert of one field into a row of the call's own. Conditions: the row is within Go's own limit.
-/
import Derived.Test.YtmcnblibnbkfjaaGreatDoorSetB
import Derived.Shelf.Spec.SlicesInsert
import Derived.Lib.AppendZerosOnto
import Derived.Lib.Overlaps
import Derived.Laws.Externs
namespace Go.Proofs.YtmcnblibnbkfjaaGreatDoor.W12
open Go Go.RowKit P12

theorem sizeF (w : World) : (Go.sizeOf 33).run Tryz.prog w = .ok 4 w := by
  obtain ⟨i0, hi, hz0, hz1, hz2⟩ := info_parts infoF
  simp [sizeOf, typeInfo, hi, hz1]
theorem shape_of_heap {w : World} {g : Nat} {cur : Array Value} {t : TypeId} {fr : Nat × Nat} (h : w.heap[g]? = some (.cells cur t fr)) : w.shape? g = some (t, cur.size) := by
  unfold World.shape?; rw [h]
theorem rows_at {w : World} {vb : Nat} {a s : ByteArray} {t : Bool} {n : Int} (h : w.heap[vb]? = some (.cells #[.string a, .bool t, .int .i64 n, .string s] 33 (0, 0))) : Rows (.slice (some ⟨vb, 0, none⟩) 1 1) [⟨a.data.toList, t, n, s.data.toList⟩] w := by
  refine ⟨_, 1, rfl, .inr ⟨_, 0, rfl, fun j f hj => ?_⟩⟩
  match j, hj with
  | 0, hj =>
    obtain rfl := Option.some.inj hj
    rw [bs_data, bs_data]
    exact ⟨Lib.cell_of_heap h 0, Lib.cell_of_heap h 1, Lib.cell_of_heap h 2, Lib.cell_of_heap h 3⟩

set_option maxHeartbeats 1600000 in
set_option maxRecDepth 100000 in
theorem Insert_end (v : Value) (l : List Fld) (wb : World) (a s : ByteArray) (t : Bool) (n : Int) (vb N : Nat) (w : World) (hN : l.length = N) (hB : Below wb.heap.size wb w) (hown : w.ownsRow wb.heap.size 33 4 v N (cellsF l))
    (hvb : w.heap[vb]? = some (.cells #[.string a, .bool t, .int .i64 n, .string s] 33 (0, 0))) (hbd : (N + 1) * 48 ≤ 140737488355328) :
    Calls Tryz.prog 47 #[v, .int .i64 (N : Int), .slice (some ⟨vb, 0, none⟩) 1 1] w fun e w' => ∃ v', e = .returned v' ∧ w'.ownsRow wb.heap.size 33 4 v' (l ++ [(⟨a.data.toList, t, n, s.data.toList⟩ : Fld)]).length (cellsF (l ++ [(⟨a.data.toList, t, n, s.data.toList⟩ : Fld)])) ∧ Below wb.heap.size wb w' := by
  have hr := Lib.hid (rows_at hvb)
  subst hN
  have HO := Lib.hid hown
  rcases hown.2 with ⟨hv, h0⟩ | ⟨g, cap, cur, hv, hbg, hg, hnc, hcm, hcs, htk⟩
  · have : l = [] := List.length_eq_zero_iff.1 (by omega)
    subst this hv
    clear hown
    go_enter Tryz.func47, Tryz.ntmps47
    go_wp2_with (at_builtin; refine wpList_app rfl _ _ rfl wb hB _ [] [_] rfl w (Below.refl _ _) HO.out _ rfl w (Below.refl _ _) hr.out (by simp) ?_; intro v1 w1 hown1 hb1 hgr1)
    go_wp2_with fail
    go_ret
    exact ⟨_, rfl, hown1, hb1⟩
  · subst hv
    obtain ⟨N, hN⟩ : ∃ N, N = l.length := ⟨_, rfl⟩
    have HN := Lib.hid hN
    rw [← hN] at hbd hnc ⊢
    have HO2 : Hid (w.ownsRow wb.heap.size 33 4 (.slice (some ⟨g, 0, none⟩) N cap) l.length (cellsF l)) := Lib.hid (by have := HO.out; rw [← hN] at this ⊢; exact this)
    have hN0 : (0 : Int) ≤ (N : Int) := by omega
    have hNc : (N : Int) ≤ (cap : Int) := by omega
    have hbd2 : (l.length + [(⟨a.data.toList, t, n, s.data.toList⟩ : Fld)].length) * 48 ≤ 140737488355328 := by rw [← hN]; exact hbd
    have HBD := Lib.hid hbd2
    clear hown hN HO htk hcs hg hbd2
    rcases Nat.eq_or_lt_of_le hnc with hnc1 | hnc1
    · subst hnc1
      go_enter Tryz.func47, Tryz.ntmps47
      go_wp2_with (at_builtin; refine wpList_app rfl _ _ rfl wb hB _ l [_] rfl w (Below.refl _ _) HO2.out _ rfl w (Below.refl _ _) hr.out HBD.out ?_; intro v1 w1 hown1 hb1 hgr1)
      go_wp2_with fail
      go_ret
      exact ⟨_, rfl, hown1, hb1⟩
    · have n1 : ¬ (cap = N) := by omega
      go_enter Tryz.func47, Tryz.ntmps47
      go_wp2_with (at_builtin; refine wpList_app rfl _ _ rfl wb hB _ l [_] rfl w (Below.refl _ _) HO2.out _ rfl w (Below.refl _ _) hr.out HBD.out ?_; intro v1 w1 hown1 hb1 hgr1)
      go_wp2_with fail
      go_ret
      exact ⟨_, rfl, hown1, hb1⟩

theorem own_row {w : World} {B g cap : Nat} {cur : Array Value} {L : List Fld} (hg : w.heap[g]? = some (.cells cur 33 (0, 0))) (hb : B ≤ g) (hn : L.length ≤ cap) (hcm : cap ≤ maxLen) (hcs : cur.size = cap * 4) (htk : cur.toList.take (L.length * 4) = cellsF L) :
    w.ownsRow B 33 4 (.slice (some ⟨g, 0, none⟩) L.length cap) L.length (cellsF L) := ⟨cellsF_len L, .inr ⟨g, cap, cur, rfl, hb, hg, hn, hcm, hcs, htk⟩⟩
theorem ins_cells (l : List Fld) (F : Fld) (i : Nat) : cellsF (l.take i ++ F :: l.drop i) = cellsF (l.take i) ++ cellsF [F] ++ cellsF (l.drop i) := by
  rw [List.append_assoc, ← cellsF_app, ← cellsF_app]; rfl
theorem ins_len {l : List Fld} (F : Fld) {i : Nat} (hi : i ≤ l.length) : (l.take i ++ F :: l.drop i).length = l.length + 1 := by
  simp; omega
theorem heap_drew (w : World) : w.drew.heap = w.heap := rfl
end Go.Proofs.YtmcnblibnbkfjaaGreatDoor.W12
