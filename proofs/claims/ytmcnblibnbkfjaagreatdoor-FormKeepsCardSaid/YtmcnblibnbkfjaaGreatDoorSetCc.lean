/-
  Walks of layer 12: slices.Insert of one field into a row of the call's own: wherever. Conditions: the row is within Go's own limit.
-/
import Derived.Test.YtmcnblibnbkfjaaGreatDoorSetCa
import Derived.Test.YtmcnblibnbkfjaaGreatDoorSetCb
namespace Go.Proofs.YtmcnblibnbkfjaaGreatDoor.W12
open Go Go.RowKit P12

theorem Insert_any (v : Value) (l : List Fld) (wb : World) (i : Nat) (a s : ByteArray) (t : Bool) (n : Int) (vb : Nat) (w : World) (hB : Below wb.heap.size wb w) (hown : w.ownsRow wb.heap.size 33 4 v l.length (cellsF l)) (hi : i ≤ l.length)
    (hvb : w.heap[vb]? = some (.cells #[.string a, .bool t, .int .i64 n, .string s] 33 (0, 0))) (hne : v.ownBlock ≠ some vb) (hbd : (l.length + 1) * 48 ≤ 140737488355328) :
    Calls Tryz.prog 47 #[v, .int .i64 (i : Int), .slice (some ⟨vb, 0, none⟩) 1 1] w fun e w' => ∃ v', e = .returned v' ∧ w'.ownsRow wb.heap.size 33 4 v' (l.take i ++ ⟨a.data.toList, t, n, s.data.toList⟩ :: l.drop i).length (cellsF (l.take i ++ ⟨a.data.toList, t, n, s.data.toList⟩ :: l.drop i)) ∧ Below wb.heap.size wb w' := by
  by_cases hin : i = l.length
  · subst hin
    have := Insert_end v l wb a s t n vb l.length w rfl hB hown hvb hbd
    rw [List.take_length, List.drop_length]
    exact this
  · rcases hown.2 with ⟨hv, h0⟩ | ⟨g, cap, cur, hv, hbg, hg, hnc, hcm, hcs, htk⟩
    · omega
    · subst hv
      have hne' : vb ≠ g := fun e => hne (by rw [e]; rfl)
      by_cases hroom : l.length + 1 ≤ cap
      · exact Insert_shift g cap cur l wb i a s t n vb l.length w rfl hB hbg hg hcs hcm htk (by omega) hroom hne' hvb
      · exact Insert_grow g cap cur l wb i a s t n vb l.length w rfl hB hg hcs htk (by omega) hnc (by omega) hbd hvb
end Go.Proofs.YtmcnblibnbkfjaaGreatDoor.W12
