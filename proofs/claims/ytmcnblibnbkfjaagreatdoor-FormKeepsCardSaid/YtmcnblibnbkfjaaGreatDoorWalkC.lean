/-
  Walks of layer 12: Escape and the reference's Escaped. Conditions: three times the text's length is within Go's own limit.
-/
import Derived.Test.YtmcnblibnbkfjaaGreatDoorWalkB
import Derived.Deep.RegionHeld3
import Derived.OwnWalk
namespace Go.Proofs.YtmcnblibnbkfjaaGreatDoor.W12
open Go Go.RowKit P12

theorem escL_snoc (l : By) (c : UInt8) : escL (l ++ [c]) = escL l ++ escC c := by simp [escL]
theorem escC_len (c : UInt8) : (escC c).length ≤ 3 := by unfold escC; split <;> simp
theorem escL_len (l : By) : (escL l).length ≤ 3 * l.length := by
  induction l with
  | nil => simp [escL]
  | cons c l ih =>
    have : escL (c :: l) = escC c ++ escL l := by simp [escL]
    rw [this, List.length_append]
    have := escC_len c
    simp
    omega

def digitsB : ByteArray := ⟨#[48, 49, 50, 51, 52, 53, 54, 55, 56, 57, 65, 66, 67, 68, 69, 70]⟩
theorem digits_at : ∀ i : Fin 16, digitsB[i.1]? = some (hexD i.1) := by decide
theorem run_digit (i : Nat) (h : i < 16) (w : World) : (Instr.index 9 (.string ⟨#[48, 49, 50, 51, 52, 53, 54, 55, 56, 57, 65, 66, 67, 68, 69, 70]⟩) (.int .u8 (i : Int))).run Tryz.prog w = .ok (.int .u8 ((hexD i).toNat : Nat)) w := by
  have hd := digits_at ⟨i, h⟩
  rw [run_index_string w 9 _ .u8 _ Tryz.underlying9]
  have hs : (⟨#[48, 49, 50, 51, 52, 53, 54, 55, 56, 57, 65, 66, 67, 68, 69, 70]⟩ : ByteArray).size = 16 := rfl
  have hi : (0 : Int) ≤ (i : Int) ∧ (i : Int) < ((⟨#[48, 49, 50, 51, 52, 53, 54, 55, 56, 57, 65, 66, 67, 68, 69, 70]⟩ : ByteArray).size : Int) := by rw [hs]; omega
  rw [dif_pos hi]
  congr 4
  have hl : (i : Int).toNat < digitsB.size := by show _ < 16; omega
  have : digitsB[(i : Int).toNat]? = some (digitsB[(i : Int).toNat]'hl) := getElem?_pos digitsB (i : Int).toNat hl
  simp only [Int.toNat_natCast] at this
  rw [hd] at this
  exact (Option.some.inj this).symm
theorem shr4 (n : Nat) : ((n : Int) / 16) = ((n / 16 : Nat) : Int) := by omega
theorem and15 (n : Nat) (h : n < 256) : bits .and .u8 (n : Int) 15 = ((n % 16 : Nat) : Int) := by
  rw [u8_and15 _ (by omega) (by omega)]; omega

theorem heap_new (w : World) (o : Obj) : (w.alloc o).heap[w.heap.size]? = some o := by
  show (w.heap.push o)[w.heap.size]? = _
  simp
theorem keep_cell {w w' : World} {p : Addr} {v : Value} (hb : Below w.heap.size w w') (h : w.cell? p = some v) : w'.cell? p = some v := by
  have hlt : p.block < w.heap.size := by
    unfold World.cell? at h
    split at h
    · rename_i hh
      exact (Array.getElem?_eq_some_iff.1 hh).1
    · cases h
  rw [hb.cell hlt]
  exact h
theorem BuilderLt {B b : Nat} {l : List UInt8} {w : World} (h : Bld B b l w) : b < w.heap.size := by
  rcases h with h | h <;> exact h.lt

set_option maxRecDepth 100000 in
set_option maxHeartbeats 3200000 in
theorem Escape_any (s : ByteArray) (w : World) (hs : 3 * s.size ≤ 140737488355328) :
    Calls Tryz.prog 12 #[.string s] w fun e w' => e = .returned (bs (escL s.data.toList)) ∧ Below w.heap.size w w' := by
  go_enter Tryz.func12, Tryz.ntmps12
  go_wp2_with fail
  go_loopw [8] (fun i wr => ∃ k : Nat, k ≤ s.size ∧ i = .int .i64 k ∧ Bld w.heap.size w.heap.size (escL (s.data.toList.take k)) wr ∧ Below w.heap.size w wr) (fun i _ => s.size - (intOf i).toNat)
  case atStart => exact ⟨0, by omega, rfl, fresh_bld w, below_alloc _ _⟩
  case round =>
    obtain ⟨k, hk, rfl, hI, hB⟩ := hrel
    have hBs := hB.size
    by_cases hlt : k < s.size
    · have hlt' : (k : Int) < (s.size : Int) := by omega
      have hlen : (escL (s.data.toList.take k)).length + 3 ≤ 140737488355328 := by
        have := escL_len (s.data.toList.take k)
        rw [List.length_take, size_data] at this
        omega
      have hnx : escL (s.data.toList.take (k + 1)) = escL (s.data.toList.take k) ++ escC (s[k]'hlt) := by rw [take_next s k hlt, escL_snoc]
      have HNX := Lib.hid hnx
      clear hnx
      generalize escL (s.data.toList.take k) = acc at hI hlen HNX
      by_cases hp : plainC (s[k]'hlt) = true
      · have hc : escC (s[k]'hlt) = [s[k]'hlt] := by unfold escC; rw [if_pos hp]
        rw [hc] at HNX
        have hcon := fun W => plain_any (s[k]'hlt) _ rfl W
        rw [hp] at hcon
        clear hp hc
        go_wp2_with (go_at_call 34; refine (hcon _).mono ?_; rintro e w1 ⟨rfl, hb1⟩; refine Hid.out ?_)
        refine Lib.hid ?_
        have hI1 := hI.keep hb1
        have hs1 := hb1.size
        go_wp2_with (go_at_call 35; refine (WriteByte_any w.heap.size w.heap.size acc (s[k]'hlt) _ rfl w1 hI1 (by omega) (by omega)).mono ?_; rintro e w2 ⟨rfl, hI2, hb2, -⟩; refine Hid.out ?_)
        refine Lib.hid ?_
        go_wp2_with fail
        go_roundw
        case rel => exact ⟨k + 1, by omega, by go_num, by rw [HNX.out]; exact hI2, (hB.trans (hb1.mono hBs)).trans hb2⟩
        case measure => simp [intOf]; omega
      · have hp' : plainC (s[k]'hlt) = false := by simpa using hp
        have hc : escC (s[k]'hlt) = [37, hexD ((s[k]'hlt).toNat / 16), hexD ((s[k]'hlt).toNat % 16)] := by unfold escC; rw [if_neg hp]
        rw [hc] at HNX
        have hcon := fun W => plain_any (s[k]'hlt) _ rfl W
        rw [hp'] at hcon
        clear hp hp' hc
        go_wp2_with (go_at_call 34; refine (hcon _).mono ?_; rintro e w1 ⟨rfl, hb1⟩; refine Hid.out ?_)
        refine Lib.hid ?_
        have hI1 := hI.keep hb1
        have hs1 := hb1.size
        obtain ⟨n, hn⟩ : ∃ n, n = (s[k]'hlt).toNat := ⟨_, rfl⟩
        have hn256 : n < 256 := by rw [hn]; exact (s[k]'hlt).toNat_lt
        obtain ⟨a, ha⟩ : ∃ a, a = n / 16 := ⟨_, rfl⟩
        obtain ⟨b, hb⟩ : ∃ b, b = n % 16 := ⟨_, rfl⟩
        obtain ⟨x, hx⟩ : ∃ x, x = hexD a := ⟨_, rfl⟩
        obtain ⟨y, hy⟩ : ∃ y, y = hexD b := ⟨_, rfl⟩
        have ia := fun w => run_digit a (by omega) w
        have ib := fun w => run_digit b (by omega) w
        have hsh : (n : Int) / 16 = (a : Int) := by omega
        have han : bits .and .u8 (n : Int) 15 = (b : Int) := by rw [hb]; exact and15 n hn256
        rw [← hx] at ia
        rw [← hy] at ib
        rw [← hn, ← ha, ← hb, ← hx, ← hy] at HNX
        rw [← hn]
        clear ha hb hx hy hn
        have hI2 : Bld w.heap.size w.heap.size acc (w1.alloc (.cells #[.int .u8 37, .int .u8 (x.toNat : Nat), .int .u8 (y.toNat : Nat)] 5)).drew := hI1.keep (below_then (below_alloc _ _) (below_drewN _ 1))
        have hcs : ∀ (j : Nat) (u : Value), (Lib.byteCells [37, x, y])[j]? = some u → (w1.alloc (.cells #[.int .u8 37, .int .u8 (x.toNat : Nat), .int .u8 (y.toNat : Nat)] 5)).drew.cell? ⟨w1.heap.size, j, none⟩ = some u := by
          intro j u hj
          have := Lib.cell_of_heap (heap_new w1 (.cells #[.int .u8 37, .int .u8 (x.toNat : Nat), .int .u8 (y.toNat : Nat)] 5)) j
          show (w1.alloc _).cell? _ = _
          rw [this]
          simpa [Lib.byteCells] using hj
        have hB2 : Below w.heap.size w (w1.alloc (.cells #[.int .u8 37, .int .u8 (x.toNat : Nat), .int .u8 (y.toNat : Nat)] 5)).drew := (hB.trans (hb1.mono hBs)).trans ((below_then (below_alloc _ _) (below_drewN _ 1)).mono (by omega))
        have HCS := Lib.hid hcs
        have hne : w1.heap.size ≠ w.heap.size := by have := BuilderLt hI1; omega
        clear hcs hI1
        go_wp2_with fail
        go_region_held3 (fun _ => True) (trivial)
          (first
            | (go_at_call 40; refine (Write_any w.heap.size w.heap.size acc [37, x, y] w1.heap.size 3 3 rfl _ hI2 hne HCS.out (by simp; omega) (by simp; omega)).mono ?_; rintro e w2 ⟨rfl, hI3, hb3, -⟩)
            | skip)
        all_goals
          go_wp2_with fail
          go_roundw
          case rel => exact ⟨k + 1, by omega, by go_num, by rw [HNX.out]; exact hI3, hB2.trans hb3⟩
          case measure => simp [intOf]; omega
    · obtain rfl : k = s.size := by omega
      rw [take_all] at hI
      go_wp2_with (go_at_call 37; refine (String_any w.heap.size w.heap.size _ _ hI (by omega)).mono ?_; rintro e w2 ⟨rfl, hb2, -⟩)
      go_ret
      exact ⟨rfl, hB.trans hb2⟩
end Go.Proofs.YtmcnblibnbkfjaaGreatDoor.W12
