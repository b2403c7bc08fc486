/-
  Walks of layer 12: the reference's Escaped. Conditions: three times the text's length is within Go's own limit.
-/
import Derived.Test.YtmcnblibnbkfjaaGreatDoorWalkC
import Derived.Test.YtmcnblibnbkfjaaGreatDoorStep
namespace Go.Proofs.YtmcnblibnbkfjaaGreatDoor.W12
open Go Go.RowKit P12

theorem conv_own {B : Nat} {v : Value} {l : List UInt8} {w : World} (h : w.ownsRow B 5 1 v l.length (Lib.byteCells l)) : (convert 56 9 v).run Tryz.prog w = .ok (bs l) w := by
  rcases h.2 with ⟨hv, hn⟩ | ⟨g, cap, cur, hv, _⟩
  · have : l = [] := List.length_eq_zero_iff.1 (by omega)
    subst this
    subst hv
    rw [run_convert_bytes_string w 56 9 5 none 0 0 Tryz.underlying56 Tryz.underlying5 Tryz.underlying9]
    rfl
  · subst hv
    exact run_convert_bytes_back w 56 9 5 ⟨g, 0, none⟩ cap l Tryz.underlying56 Tryz.underlying5 Tryz.underlying9 (fun j hj => h.cells (g := g) rfl j _ (by simp [Lib.byteCells, hj]))
theorem below_grown {w w' : World} (h : Below w.heap.size w w') (row : Option Nat) : w.grownBy w' row := ⟨h.os, h.tape, h.output, h.size, fun k hk _ => h.block k hk⟩
theorem own_keep {w w' : World} {base : Nat} {e : TypeId} {size : Nat} {v : Value} {n : Nat} {xs : List Value} (h : w.ownsRow base e size v n xs) (hb : Below w.heap.size w w') : w'.ownsRow base e size v n xs :=
  h.kept (below_grown hb none) (by cases hv : v.ownBlock with | none => exact .inl rfl | some k => exact .inr (by simp))

set_option maxRecDepth 100000 in
set_option maxHeartbeats 800000 in
theorem refEscaped_any (s : ByteArray) (w : World) (hs : 3 * s.size ≤ 140737488355328) :
    Calls Tryz.prog 13 #[.string s] w fun e w' => e = .returned (bs (escL s.data.toList)) ∧ Below w.heap.size w w' := by
  obtain ⟨i0, hi, hz0, hz1, hz2⟩ := info_parts infoByte
  go_enter Tryz.func13, Tryz.ntmps13
  go_wp2_with fail
  go_loopw [4, 5] (fun v i wr => ∃ (k : Nat) (V : Value), V = v ∧ k ≤ s.size ∧ i = .int .i64 k ∧ wr.ownsRow w.heap.size 5 1 V (escL (s.data.toList.take k)).length (Lib.byteCells (escL (s.data.toList.take k))) ∧ Below w.heap.size w wr) (fun _ i _ => s.size - (intOf i).toNat)
  case atStart => exact ⟨0, _, rfl, by omega, rfl, World.ownsRow_nil _ _ _ _, Below.refl _ _⟩
  case round =>
    obtain ⟨k, V, hV, hk, rfl, hI, hB⟩ := hrel
    subst hV
    have hBs := hB.size
    by_cases hlt : k < s.size
    · have hlt' : (k : Int) < (s.size : Int) := by omega
      have hlen : (escL (s.data.toList.take k)).length + 3 ≤ 140737488355328 := by
        have := escL_len (s.data.toList.take k)
        rw [List.length_take, size_data] at this
        omega
      have hnx : escL (s.data.toList.take (k + 1)) = escL (s.data.toList.take k) ++ escC (s[k]'hlt) := by rw [take_next s k hlt, escL_snoc]
      have HNX := Lib.hid hnx
      clear hnx
      generalize escL (s.data.toList.take k) = acc at hI hlen HNX
      by_cases hp : plainC (s[k]'hlt) = true
      · have hc : escC (s[k]'hlt) = [s[k]'hlt] := by unfold escC; rw [if_pos hp]
        rw [hc] at HNX
        have hcon := fun W => refPlain_any (s[k]'hlt) _ rfl W
        rw [hp] at hcon
        clear hp hc
        go_wp2_with (go_at_call 38; refine (hcon _).mono ?_; rintro e w1 ⟨rfl, hb1⟩; refine Hid.out ?_)
        refine Lib.hid ?_
        have hI1 := own_keep hI hb1
        have hs1 := hb1.size
        go_wp2_with (at_builtin; refine wpList_append_own _ rfl _ _ 56 rfl w.heap.size 5 i0 (.int .u8 0) 1 1 Tryz.underlying56 hi hz0 hz1 hz2 rfl (by decide) _ _ _ rfl (hI1.alloc _) ⟨w1.heap.size, 0, none⟩ 1 1 [.int .u8 ((s[k]'hlt).toNat : Nat)] rfl rfl ?c1 ?c2 ?c3 ?c4 ?c5 ?_)
        case c1 =>
          intro j u hj
          match j, hj with
          | 0, hj => simp at hj; subst hj; simp [Addr.add]
        case c2 => intro u hu; simp at hu; subst hu; rfl
        case c3 => unfold maxLen; omega
        case c4 => omega
        case c5 => simp; omega
        intro v' w2 hown' hgrow _
        have hB2 : Below w.heap.size w w2 := (((hB.trans (hb1.mono hBs)).alloc (by omega) _).grown hgrow (by simp; omega) (fun j e => (hI1.lt j e).1))
        clear hgrow hI1
        go_wp2_with fail
        go_roundw
        case rel => exact ⟨k + 1, _, rfl, by omega, by go_num, by rw [HNX.out, Lib.byteCells_append, List.length_append]; exact hown', hB2⟩
        case measure => simp [intOf]; omega
      · have hp' : plainC (s[k]'hlt) = false := by simpa using hp
        have hc : escC (s[k]'hlt) = [37, hexD ((s[k]'hlt).toNat / 16), hexD ((s[k]'hlt).toNat % 16)] := by unfold escC; rw [if_neg hp]
        rw [hc] at HNX
        have hcon := fun W => refPlain_any (s[k]'hlt) _ rfl W
        rw [hp'] at hcon
        clear hp hp' hc
        obtain ⟨n, hn⟩ : ∃ n, n = (s[k]'hlt).toNat := ⟨_, rfl⟩
        have hn256 : n < 256 := by rw [hn]; exact (s[k]'hlt).toNat_lt
        go_wp2_with (go_at_call 38; refine (hcon _).mono ?_; rintro e w1 ⟨rfl, hb1⟩; refine Hid.out ?_)
        refine Lib.hid ?_
        have hI1 := own_keep hI hb1
        have hs1 := hb1.size
        obtain ⟨a, ha⟩ : ∃ a, a = n / 16 := ⟨_, rfl⟩
        obtain ⟨b, hb⟩ : ∃ b, b = n % 16 := ⟨_, rfl⟩
        obtain ⟨x, hx⟩ : ∃ x, x = hexD a := ⟨_, rfl⟩
        obtain ⟨y, hy⟩ : ∃ y, y = hexD b := ⟨_, rfl⟩
        have ia := fun w => run_digit a (by omega) w
        have ib := fun w => run_digit b (by omega) w
        have hsh : (n : Int) / 16 = (a : Int) := by omega
        have han : (n : Int) % 16 = (b : Int) := by omega
        have hsht : Int.tdiv (n : Int) 16 = (a : Int) := by rw [ha]; rfl
        have hant : Int.tmod (n : Int) 16 = (b : Int) := by rw [hb]; rfl
        have hwa : IntKind.u8.wrap (a : Int) = (a : Int) := wraps_u8 _ (by omega) (by omega)
        have hwb : IntKind.u8.wrap (b : Int) = (b : Int) := wraps_u8 _ (by omega) (by omega)
        rw [← hx] at ia
        rw [← hy] at ib
        rw [← hn, ← ha, ← hb, ← hx, ← hy] at HNX
        have hnI : ((s[k]'hlt).toNat : Int) = (n : Int) := by rw [hn]
        clear ha hb hx hy hn
        have hI2 : (w1.alloc (.cells #[.int .u8 37, .int .u8 (x.toNat : Nat), .int .u8 (y.toNat : Nat)] 5)).drew.ownsRow w.heap.size 5 1 V acc.length (Lib.byteCells acc) := own_keep hI1 (below_then (below_alloc _ _) (below_drewN _ 1))
        have hcs : ∀ (j : Nat) (u : Value), (Lib.byteCells [37, x, y])[j]? = some u → (w1.alloc (.cells #[.int .u8 37, .int .u8 (x.toNat : Nat), .int .u8 (y.toNat : Nat)] 5)).drew.cell? ((⟨w1.heap.size, 0, none⟩ : Addr).add j) = some u := by
          intro j u hj
          have := Lib.cell_of_heap (heap_new w1 (.cells #[.int .u8 37, .int .u8 (x.toNat : Nat), .int .u8 (y.toNat : Nat)] 5)) j
          rw [Lib.add_plain, Nat.zero_add]
          show (w1.alloc _).cell? _ = _
          rw [this]
          simpa [Lib.byteCells] using hj
        have h1c : ∀ u ∈ Lib.byteCells [37, x, y], u.oneCell' = true := by
          intro u hu
          simp [Lib.byteCells] at hu
          rcases hu with rfl | rfl | rfl <;> rfl
        have hB2 : Below w.heap.size w (w1.alloc (.cells #[.int .u8 37, .int .u8 (x.toNat : Nat), .int .u8 (y.toNat : Nat)] 5)).drew := (hB.trans (hb1.mono hBs)).trans ((below_then (below_alloc _ _) (below_drewN _ 1)).mono (by omega))
        have HCS := Lib.hid hcs
        have H1C := Lib.hid h1c
        clear hcs h1c
        go_wp2_with fail
        go_region_held3 (fun _ => True) (trivial)
          (first
            | (refine step_append_own (P := Tryz.prog) rfl (.tmp 24) (.tmp 37) 56 rfl w.heap.size 5 i0 (.int .u8 0) 1 1 Tryz.underlying56 hi hz0 hz1 hz2 rfl (by decide) V acc.length (Lib.byteCells acc) (by simp [Act.eval]) hI2 ⟨w1.heap.size, 0, none⟩ 3 3 (Lib.byteCells [37, x, y]) (by simp [Act.eval]) rfl HCS.out H1C.out (by unfold maxLen; omega) (by omega) (by simp; omega) ?_; intro v' w2 hown' hgrow)
            | skip)
        all_goals
          have hB3 := hB2.grown hgrow (by simp; omega) (fun j e => (hI2.lt j e).1)
          clear hgrow
          go_wp2_with fail
          go_roundw
          case rel => exact ⟨k + 1, _, rfl, by omega, by go_num, by rw [HNX.out, Lib.byteCells_append, List.length_append]; exact hown', hB3⟩
          case measure => simp [intOf]; omega
    · obtain rfl : k = s.size := by omega
      rw [take_all] at hI
      have hconv := conv_own hI
      go_wp2_with fail
      go_ret
      exact ⟨rfl, hB⟩
end Go.Proofs.YtmcnblibnbkfjaaGreatDoor.W12
