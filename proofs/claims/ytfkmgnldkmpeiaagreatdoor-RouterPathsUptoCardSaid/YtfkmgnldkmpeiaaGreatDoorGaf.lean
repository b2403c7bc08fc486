/-
  Walks of layer 12: Escape and the reference's Escaped. Conditions: three times the text's length is within Go's own limit.
  Walks of layer 12: what is wrong with a field. Conditions: none.
  An append to a row of the call's own, as one step of a region that draws its order. No program is in sight here. Conditions: the row is owned; it fits.
  Walks of layer 12: the reference's Escaped. Conditions: three times the text's length is within Go's own limit.
  Walks of layer 12: strconv.ParseUint at two bytes, base 16, eight bits. Conditions: the library's error values lie where they are.
-/
import Derived.Test.YtfkmgnldkmpeiaaGreatDoorGae
import Derived.Deep.RegionHeld3
import Derived.OwnWalk
import Derived.Deep.RegionLaw
import Derived.Lib.ConvBytes
import Derived.Lib.AppendIntMem

namespace Go.Proofs.YtfkmgnldkmpeiaaGreatDoor.W12
open Go Go.RowKit P12

theorem escL_snoc (l : By) (c : UInt8) : escL (l ++ [c]) = escL l ++ escC c := by simp [escL]
theorem escC_len (c : UInt8) : (escC c).length ≤ 3 := by unfold escC; split <;> simp
theorem escL_len (l : By) : (escL l).length ≤ 3 * l.length := by
  induction l with
  | nil => simp [escL]
  | cons c l ih =>
    have : escL (c :: l) = escC c ++ escL l := by simp [escL]
    rw [this, List.length_append]
    have := escC_len c
    simp
    omega

def digitsB : ByteArray := ⟨#[48, 49, 50, 51, 52, 53, 54, 55, 56, 57, 65, 66, 67, 68, 69, 70]⟩
theorem digits_at : ∀ i : Fin 16, digitsB[i.1]? = some (hexD i.1) := by decide
theorem run_digit (i : Nat) (h : i < 16) (w : World) : (Instr.index 9 (.string ⟨#[48, 49, 50, 51, 52, 53, 54, 55, 56, 57, 65, 66, 67, 68, 69, 70]⟩) (.int .u8 (i : Int))).run Tryz.prog w = .ok (.int .u8 ((hexD i).toNat : Nat)) w := by
  have hd := digits_at ⟨i, h⟩
  rw [run_index_string w 9 _ .u8 _ Tryz.underlying9]
  have hs : (⟨#[48, 49, 50, 51, 52, 53, 54, 55, 56, 57, 65, 66, 67, 68, 69, 70]⟩ : ByteArray).size = 16 := rfl
  have hi : (0 : Int) ≤ (i : Int) ∧ (i : Int) < ((⟨#[48, 49, 50, 51, 52, 53, 54, 55, 56, 57, 65, 66, 67, 68, 69, 70]⟩ : ByteArray).size : Int) := by rw [hs]; omega
  rw [dif_pos hi]
  congr 4
  have hl : (i : Int).toNat < digitsB.size := by show _ < 16; omega
  have : digitsB[(i : Int).toNat]? = some (digitsB[(i : Int).toNat]'hl) := getElem?_pos digitsB (i : Int).toNat hl
  simp only [Int.toNat_natCast] at this
  rw [hd] at this
  exact (Option.some.inj this).symm
theorem shr4 (n : Nat) : ((n : Int) / 16) = ((n / 16 : Nat) : Int) := by omega
theorem and15 (n : Nat) (h : n < 256) : bits .and .u8 (n : Int) 15 = ((n % 16 : Nat) : Int) := by
  rw [u8_and15 _ (by omega) (by omega)]; omega

theorem heap_new (w : World) (o : Obj) : (w.alloc o).heap[w.heap.size]? = some o := by
  show (w.heap.push o)[w.heap.size]? = _
  simp
theorem keep_cell {w w' : World} {p : Addr} {v : Value} (hb : Below w.heap.size w w') (h : w.cell? p = some v) : w'.cell? p = some v := by
  have hlt : p.block < w.heap.size := by
    unfold World.cell? at h
    split at h
    · rename_i hh
      exact (Array.getElem?_eq_some_iff.1 hh).1
    · cases h
  rw [hb.cell hlt]
  exact h
theorem BuilderLt {B b : Nat} {l : List UInt8} {w : World} (h : Bld B b l w) : b < w.heap.size := by
  rcases h with h | h <;> exact h.lt

set_option maxRecDepth 100000 in
set_option maxHeartbeats 3200000 in
theorem Escape_any (s : ByteArray) (w : World) (hs : 3 * s.size ≤ 140737488355328) :
    Calls Tryz.prog 13 #[.string s] w fun e w' => e = .returned (bs (escL s.data.toList)) ∧ Below w.heap.size w w' := by
  go_enter Tryz.func13, Tryz.ntmps13
  go_wp2_with fail
  go_loopw [8] (fun i wr => ∃ k : Nat, k ≤ s.size ∧ i = .int .i64 k ∧ Bld w.heap.size w.heap.size (escL (s.data.toList.take k)) wr ∧ Below w.heap.size w wr) (fun i _ => s.size - (intOf i).toNat)
  case atStart => exact ⟨0, by omega, rfl, fresh_bld w, below_alloc _ _⟩
  case round =>
    obtain ⟨k, hk, rfl, hI, hB⟩ := hrel
    have hBs := hB.size
    by_cases hlt : k < s.size
    · have hlt' : (k : Int) < (s.size : Int) := by omega
      have hlen : (escL (s.data.toList.take k)).length + 3 ≤ 140737488355328 := by
        have := escL_len (s.data.toList.take k)
        rw [List.length_take, size_data] at this
        omega
      have hnx : escL (s.data.toList.take (k + 1)) = escL (s.data.toList.take k) ++ escC (s[k]'hlt) := by rw [take_next s k hlt, escL_snoc]
      have HNX := Lib.hid hnx
      clear hnx
      generalize escL (s.data.toList.take k) = acc at hI hlen HNX
      by_cases hp : plainC (s[k]'hlt) = true
      · have hc : escC (s[k]'hlt) = [s[k]'hlt] := by unfold escC; rw [if_pos hp]
        rw [hc] at HNX
        have hcon := fun W => plain_any (s[k]'hlt) _ rfl W
        rw [hp] at hcon
        clear hp hc
        go_wp2_with (go_at_call 35; refine (hcon _).mono ?_; rintro e w1 ⟨rfl, hb1⟩; refine Hid.out ?_)
        refine Lib.hid ?_
        have hI1 := hI.keep hb1
        have hs1 := hb1.size
        go_wp2_with (go_at_call 36; refine (WriteByte_any w.heap.size w.heap.size acc (s[k]'hlt) _ rfl w1 hI1 (by omega) (by omega)).mono ?_; rintro e w2 ⟨rfl, hI2, hb2, -⟩; refine Hid.out ?_)
        refine Lib.hid ?_
        go_wp2_with fail
        go_roundw
        case rel => exact ⟨k + 1, by omega, by go_num, by rw [HNX.out]; exact hI2, (hB.trans (hb1.mono hBs)).trans hb2⟩
        case measure => simp [intOf]; omega
      · have hp' : plainC (s[k]'hlt) = false := by simpa using hp
        have hc : escC (s[k]'hlt) = [37, hexD ((s[k]'hlt).toNat / 16), hexD ((s[k]'hlt).toNat % 16)] := by unfold escC; rw [if_neg hp]
        rw [hc] at HNX
        have hcon := fun W => plain_any (s[k]'hlt) _ rfl W
        rw [hp'] at hcon
        clear hp hp' hc
        go_wp2_with (go_at_call 35; refine (hcon _).mono ?_; rintro e w1 ⟨rfl, hb1⟩; refine Hid.out ?_)
        refine Lib.hid ?_
        have hI1 := hI.keep hb1
        have hs1 := hb1.size
        obtain ⟨n, hn⟩ : ∃ n, n = (s[k]'hlt).toNat := ⟨_, rfl⟩
        have hn256 : n < 256 := by rw [hn]; exact (s[k]'hlt).toNat_lt
        obtain ⟨a, ha⟩ : ∃ a, a = n / 16 := ⟨_, rfl⟩
        obtain ⟨b, hb⟩ : ∃ b, b = n % 16 := ⟨_, rfl⟩
        obtain ⟨x, hx⟩ : ∃ x, x = hexD a := ⟨_, rfl⟩
        obtain ⟨y, hy⟩ : ∃ y, y = hexD b := ⟨_, rfl⟩
        have ia := fun w => run_digit a (by omega) w
        have ib := fun w => run_digit b (by omega) w
        have hsh : (n : Int) / 16 = (a : Int) := by omega
        have han : bits .and .u8 (n : Int) 15 = (b : Int) := by rw [hb]; exact and15 n hn256
        rw [← hx] at ia
        rw [← hy] at ib
        rw [← hn, ← ha, ← hb, ← hx, ← hy] at HNX
        rw [← hn]
        clear ha hb hx hy hn
        have hI2 : Bld w.heap.size w.heap.size acc (w1.alloc (.cells #[.int .u8 37, .int .u8 (x.toNat : Nat), .int .u8 (y.toNat : Nat)] 5)).drew := hI1.keep (below_then (below_alloc _ _) (below_drewN _ 1))
        have hcs : ∀ (j : Nat) (u : Value), (Lib.byteCells [37, x, y])[j]? = some u → (w1.alloc (.cells #[.int .u8 37, .int .u8 (x.toNat : Nat), .int .u8 (y.toNat : Nat)] 5)).drew.cell? ⟨w1.heap.size, j, none⟩ = some u := by
          intro j u hj
          have := Lib.cell_of_heap (heap_new w1 (.cells #[.int .u8 37, .int .u8 (x.toNat : Nat), .int .u8 (y.toNat : Nat)] 5)) j
          show (w1.alloc _).cell? _ = _
          rw [this]
          simpa [Lib.byteCells] using hj
        have hB2 : Below w.heap.size w (w1.alloc (.cells #[.int .u8 37, .int .u8 (x.toNat : Nat), .int .u8 (y.toNat : Nat)] 5)).drew := (hB.trans (hb1.mono hBs)).trans ((below_then (below_alloc _ _) (below_drewN _ 1)).mono (by omega))
        have HCS := Lib.hid hcs
        have hne : w1.heap.size ≠ w.heap.size := by have := BuilderLt hI1; omega
        clear hcs hI1
        go_wp2_with fail
        go_region_held3 (fun _ => True) (trivial)
          (first
            | (go_at_call 37; refine (Write_any w.heap.size w.heap.size acc [37, x, y] w1.heap.size 3 3 rfl _ hI2 hne HCS.out (by simp; omega) (by simp; omega)).mono ?_; rintro e w2 ⟨rfl, hI3, hb3, -⟩)
            | skip)
        all_goals
          go_wp2_with fail
          go_roundw
          case rel => exact ⟨k + 1, by omega, by go_num, by rw [HNX.out]; exact hI3, hB2.trans hb3⟩
          case measure => simp [intOf]; omega
    · obtain rfl : k = s.size := by omega
      rw [take_all] at hI
      go_wp2_with (go_at_call 38; refine (String_any w.heap.size w.heap.size _ _ hI (by omega)).mono ?_; rintro e w2 ⟨rfl, hb2, -⟩)
      go_ret
      exact ⟨rfl, hB.trans hb2⟩
end Go.Proofs.YtfkmgnldkmpeiaaGreatDoor.W12

namespace Go.Proofs.YtfkmgnldkmpeiaaGreatDoor.W12
open Go Go.RowKit P12

set_option maxHeartbeats 1600000 in
set_option maxRecDepth 100000 in
theorem may_any (nm s : ByteArray) (t : Bool) (n : Int) (w : World) :
    Calls Tryz.prog 130 #[.agg #[.string nm, .bool t, .int .i64 n, .string s]] w fun e w' => e = .returned (.int .i64 (fieldL ⟨nm.data.toList, t, n, s.data.toList⟩)) ∧ Below w.heap.size w w' := by
  have hname := fun W => Name_any nm W
  obtain ⟨R, hR⟩ : ∃ R, R = fieldL ⟨nm.data.toList, t, n, s.data.toList⟩ := ⟨_, rfl⟩
  rw [← hR]
  have hb0 := below_alloc w (.cells #[.string nm, .bool t, .int .i64 n, .string s] 54)
  have hh := heap_new w (.cells #[.string nm, .bool t, .int .i64 n, .string s] 54)
  have z0 := Lib.cell_of_heap hh 0
  have z1 := Lib.cell_of_heap hh 1
  have z2 := Lib.cell_of_heap hh 2
  have z3 := Lib.cell_of_heap hh 3
  clear hh
  cases hn : nameL nm.data.toList with
  | false =>
    have hv : R = 121 := by rw [hR]; unfold fieldL; rw [if_pos hn]
    rw [hn] at hname
    subst hv
    clear hR hn
    go_enter Tryz.func130, Tryz.ntmps130
    go_wp2_with (go_at_call 14; refine (hname _).mono ?_; rintro e w1 ⟨rfl, hb1⟩; replace z0 := keep_cell hb1 z0; replace z1 := keep_cell hb1 z1; replace z2 := keep_cell hb1 z2; replace z3 := keep_cell hb1 z3)
    go_ret
    exact ⟨rfl, below_then hb0 hb1⟩
  | true =>
    rw [hn] at hname
    have hR2 : R = if (t = true ∧ (n ≠ 0 ∨ 200 < s.size)) ∨ (t = false ∧ s.size ≠ 0) then 122 else 0 := by
      rw [hR]
      unfold fieldL
      rw [if_neg (by simp [hn])]
      simp only [size_data]
      have : s.data.toList ≠ [] ↔ s.size ≠ 0 := by
        constructor
        · intro h e; exact h (empty_list s e)
        · intro h e; apply h; rw [← size_data, e]; rfl
      simp only [this]
    clear hR hn
    cases t with
    | true =>
      by_cases hn0 : n = 0
      · have hq : (n != 0) = false := by rw [bne_eq_false_iff_eq]; exact hn0
        by_cases h200 : 200 < s.size
        · have hv : R = 122 := by rw [hR2, if_pos (.inl ⟨rfl, .inr h200⟩)]
          subst hv
          clear hR2 hn0
          go_enter Tryz.func130, Tryz.ntmps130
          go_wp2_with (go_at_call 14; refine (hname _).mono ?_; rintro e w1 ⟨rfl, hb1⟩; replace z0 := keep_cell hb1 z0; replace z1 := keep_cell hb1 z1; replace z2 := keep_cell hb1 z2; replace z3 := keep_cell hb1 z3)
          go_ret
          exact ⟨rfl, below_then hb0 hb1⟩
        · have hv : R = 0 := by rw [hR2, if_neg (by simp [hn0, h200])]
          subst hv
          clear hR2 hn0
          go_enter Tryz.func130, Tryz.ntmps130
          go_wp2_with (go_at_call 14; refine (hname _).mono ?_; rintro e w1 ⟨rfl, hb1⟩; replace z0 := keep_cell hb1 z0; replace z1 := keep_cell hb1 z1; replace z2 := keep_cell hb1 z2; replace z3 := keep_cell hb1 z3)
          go_ret
          exact ⟨rfl, below_then hb0 hb1⟩
      · have hq : (n != 0) = true := by rw [bne_iff_ne]; exact hn0
        have hv : R = 122 := by rw [hR2, if_pos (.inl ⟨rfl, .inl hn0⟩)]
        subst hv
        clear hR2 hn0
        go_enter Tryz.func130, Tryz.ntmps130
        go_wp2_with (go_at_call 14; refine (hname _).mono ?_; rintro e w1 ⟨rfl, hb1⟩; replace z0 := keep_cell hb1 z0; replace z1 := keep_cell hb1 z1; replace z2 := keep_cell hb1 z2; replace z3 := keep_cell hb1 z3)
        go_ret
        exact ⟨rfl, below_then hb0 hb1⟩
    | false =>
      by_cases h0 : s.size = 0
      · have hE := toList_nil s h0
        have hv : R = 0 := by rw [hR2, if_neg (by simp [h0])]
        subst hv
        clear hR2 h0
        go_enter Tryz.func130, Tryz.ntmps130
        go_wp2_with (go_at_call 14; refine (hname _).mono ?_; rintro e w1 ⟨rfl, hb1⟩; replace z0 := keep_cell hb1 z0; replace z1 := keep_cell hb1 z1; replace z2 := keep_cell hb1 z2; replace z3 := keep_cell hb1 z3)
        go_ret
        exact ⟨rfl, below_then hb0 hb1⟩
      · have hE := toList_cons s (by omega)
        have hv : R = 122 := by rw [hR2, if_pos (.inr ⟨rfl, h0⟩)]
        subst hv
        clear hR2 h0
        go_enter Tryz.func130, Tryz.ntmps130
        go_wp2_with (go_at_call 14; refine (hname _).mono ?_; rintro e w1 ⟨rfl, hb1⟩; replace z0 := keep_cell hb1 z0; replace z1 := keep_cell hb1 z1; replace z2 := keep_cell hb1 z2; replace z3 := keep_cell hb1 z3)
        go_ret
        exact ⟨rfl, below_then hb0 hb1⟩
end Go.Proofs.YtfkmgnldkmpeiaaGreatDoor.W12

namespace Go.Proofs.YtfkmgnldkmpeiaaGreatDoor
open Go Go.RowKit

theorem step_append_own {P : Program} {ops : Array Oper} {o : Oper} {a : Act} {w : World} {K : Act → World → Prop} {Q : Exit → Act → World → Prop} {E : Prop}
    (hg : o.guard = none) (s x : Operand) (t : TypeId) (hop : o.op = Op.call { callee := Callee.builtin Builtin.append, args := #[s, x], argTypes := #[t, t] })
    (base : Nat) (e : TypeId) (i : TypeInfo) (z : Value) (size bytes : Nat) (h1 : P.underlying t = some (.slice e)) (h2 : P.info? e = some i) (h3 : i.zero = some z) (h4 : i.size = size) (h5 : i.bytes = bytes) (h6 : z.cells.size = size) (h7 : 0 < size)
    (v : Value) (n : Nat) (xs : List Value) (hs : a.eval s = v) (hown : w.ownsRow base e size v n xs)
    (ad : Addr) (m c : Nat) (news : List Value) (hx : a.eval x = .slice (some ad) m c) (hn : news.length = m * size) (hc : ∀ j u, news[j]? = some u → w.cell? (ad.add j) = some u) (h1c : ∀ u ∈ news, u.oneCell' = true)
    (b1 : n + m ≤ maxLen) (b2 : (n + m) * bytes ≤ 140737488355328) (hbase : base ≤ w.heap.size)
    (hK : ∀ v' w', w'.ownsRow base e size v' (n + m) (xs ++ news) → w.grownBy w' v.ownBlock → K (a.put o.dst v') w') :
    if Region.wanted o (yielded ops a.tmps) = true then Oper.wp P o a w K Q else E := by
  have hw : Region.wanted o (yielded ops a.tmps) = true := by simp [Region.wanted, hg]
  rw [if_pos hw]
  obtain ⟨v', w', hrun, r1, r2, _⟩ := run_append_own (P := P) w base t o.type e i z size bytes h1 h2 h3 h4 h5 h6 h7 v n xs hown ad m c news hn hc h1c b1 b2 hbase
  unfold Oper.wp
  simp [execOp, hop, resolve, invoke, builtin, hs, hx, hrun, Result.andThen]
  exact hK v' w' r1 r2
end Go.Proofs.YtfkmgnldkmpeiaaGreatDoor

namespace Go.Proofs.YtfkmgnldkmpeiaaGreatDoor.W12
open Go Go.RowKit P12

theorem conv_own {B : Nat} {v : Value} {l : List UInt8} {w : World} (h : w.ownsRow B 5 1 v l.length (Lib.byteCells l)) : (convert 79 9 v).run Tryz.prog w = .ok (bs l) w := by
  rcases h.2 with ⟨hv, hn⟩ | ⟨g, cap, cur, hv, _⟩
  · have : l = [] := List.length_eq_zero_iff.1 (by omega)
    subst this
    subst hv
    rw [run_convert_bytes_string w 79 9 5 none 0 0 Tryz.underlying79 Tryz.underlying5 Tryz.underlying9]
    rfl
  · subst hv
    exact run_convert_bytes_back w 79 9 5 ⟨g, 0, none⟩ cap l Tryz.underlying79 Tryz.underlying5 Tryz.underlying9 (fun j hj => h.cells (g := g) rfl j _ (by simp [Lib.byteCells, hj]))
theorem below_grown {w w' : World} (h : Below w.heap.size w w') (row : Option Nat) : w.grownBy w' row := ⟨h.os, h.tape, h.output, h.size, fun k hk _ => h.block k hk⟩
theorem own_keep {w w' : World} {base : Nat} {e : TypeId} {size : Nat} {v : Value} {n : Nat} {xs : List Value} (h : w.ownsRow base e size v n xs) (hb : Below w.heap.size w w') : w'.ownsRow base e size v n xs :=
  h.kept (below_grown hb none) (by cases hv : v.ownBlock with | none => exact .inl rfl | some k => exact .inr (by simp))

set_option maxRecDepth 100000 in
set_option maxHeartbeats 800000 in
theorem refEscaped_any (s : ByteArray) (w : World) (hs : 3 * s.size ≤ 140737488355328) :
    Calls Tryz.prog 145 #[.string s] w fun e w' => e = .returned (bs (escL s.data.toList)) ∧ Below w.heap.size w w' := by
  obtain ⟨i0, hi, hz0, hz1, hz2⟩ := info_parts infoByte
  go_enter Tryz.func145, Tryz.ntmps145
  go_wp2_with fail
  go_loopw [4, 5] (fun v i wr => ∃ (k : Nat) (V : Value), V = v ∧ k ≤ s.size ∧ i = .int .i64 k ∧ wr.ownsRow w.heap.size 5 1 V (escL (s.data.toList.take k)).length (Lib.byteCells (escL (s.data.toList.take k))) ∧ Below w.heap.size w wr) (fun _ i _ => s.size - (intOf i).toNat)
  case atStart => exact ⟨0, _, rfl, by omega, rfl, World.ownsRow_nil _ _ _ _, Below.refl _ _⟩
  case round =>
    obtain ⟨k, V, hV, hk, rfl, hI, hB⟩ := hrel
    subst hV
    have hBs := hB.size
    by_cases hlt : k < s.size
    · have hlt' : (k : Int) < (s.size : Int) := by omega
      have hlen : (escL (s.data.toList.take k)).length + 3 ≤ 140737488355328 := by
        have := escL_len (s.data.toList.take k)
        rw [List.length_take, size_data] at this
        omega
      have hnx : escL (s.data.toList.take (k + 1)) = escL (s.data.toList.take k) ++ escC (s[k]'hlt) := by rw [take_next s k hlt, escL_snoc]
      have HNX := Lib.hid hnx
      clear hnx
      generalize escL (s.data.toList.take k) = acc at hI hlen HNX
      by_cases hp : plainC (s[k]'hlt) = true
      · have hc : escC (s[k]'hlt) = [s[k]'hlt] := by unfold escC; rw [if_pos hp]
        rw [hc] at HNX
        have hcon := fun W => refPlain_any (s[k]'hlt) _ rfl W
        rw [hp] at hcon
        clear hp hc
        go_wp2_with (go_at_call 126; refine (hcon _).mono ?_; rintro e w1 ⟨rfl, hb1⟩; refine Hid.out ?_)
        refine Lib.hid ?_
        have hI1 := own_keep hI hb1
        have hs1 := hb1.size
        go_wp2_with (at_builtin; refine wpList_append_own _ rfl _ _ 79 rfl w.heap.size 5 i0 (.int .u8 0) 1 1 Tryz.underlying79 hi hz0 hz1 hz2 rfl (by decide) _ _ _ rfl (hI1.alloc _) ⟨w1.heap.size, 0, none⟩ 1 1 [.int .u8 ((s[k]'hlt).toNat : Nat)] rfl rfl ?c1 ?c2 ?c3 ?c4 ?c5 ?_)
        case c1 =>
          intro j u hj
          match j, hj with
          | 0, hj => simp at hj; subst hj; simp [Addr.add]
        case c2 => intro u hu; simp at hu; subst hu; rfl
        case c3 => unfold maxLen; omega
        case c4 => omega
        case c5 => simp; omega
        intro v' w2 hown' hgrow _
        have hB2 : Below w.heap.size w w2 := (((hB.trans (hb1.mono hBs)).alloc (by omega) _).grown hgrow (by simp; omega) (fun j e => (hI1.lt j e).1))
        clear hgrow hI1
        go_wp2_with fail
        go_roundw
        case rel => exact ⟨k + 1, _, rfl, by omega, by go_num, by rw [HNX.out, Lib.byteCells_append, List.length_append]; exact hown', hB2⟩
        case measure => simp [intOf]; omega
      · have hp' : plainC (s[k]'hlt) = false := by simpa using hp
        have hc : escC (s[k]'hlt) = [37, hexD ((s[k]'hlt).toNat / 16), hexD ((s[k]'hlt).toNat % 16)] := by unfold escC; rw [if_neg hp]
        rw [hc] at HNX
        have hcon := fun W => refPlain_any (s[k]'hlt) _ rfl W
        rw [hp'] at hcon
        clear hp hp' hc
        obtain ⟨n, hn⟩ : ∃ n, n = (s[k]'hlt).toNat := ⟨_, rfl⟩
        have hn256 : n < 256 := by rw [hn]; exact (s[k]'hlt).toNat_lt
        go_wp2_with (go_at_call 126; refine (hcon _).mono ?_; rintro e w1 ⟨rfl, hb1⟩; refine Hid.out ?_)
        refine Lib.hid ?_
        have hI1 := own_keep hI hb1
        have hs1 := hb1.size
        obtain ⟨a, ha⟩ : ∃ a, a = n / 16 := ⟨_, rfl⟩
        obtain ⟨b, hb⟩ : ∃ b, b = n % 16 := ⟨_, rfl⟩
        obtain ⟨x, hx⟩ : ∃ x, x = hexD a := ⟨_, rfl⟩
        obtain ⟨y, hy⟩ : ∃ y, y = hexD b := ⟨_, rfl⟩
        have ia := fun w => run_digit a (by omega) w
        have ib := fun w => run_digit b (by omega) w
        have hsh : (n : Int) / 16 = (a : Int) := by omega
        have han : (n : Int) % 16 = (b : Int) := by omega
        have hsht : Int.tdiv (n : Int) 16 = (a : Int) := by rw [ha]; rfl
        have hant : Int.tmod (n : Int) 16 = (b : Int) := by rw [hb]; rfl
        have hwa : IntKind.u8.wrap (a : Int) = (a : Int) := wraps_u8 _ (by omega) (by omega)
        have hwb : IntKind.u8.wrap (b : Int) = (b : Int) := wraps_u8 _ (by omega) (by omega)
        rw [← hx] at ia
        rw [← hy] at ib
        rw [← hn, ← ha, ← hb, ← hx, ← hy] at HNX
        have hnI : ((s[k]'hlt).toNat : Int) = (n : Int) := by rw [hn]
        clear ha hb hx hy hn
        have hI2 : (w1.alloc (.cells #[.int .u8 37, .int .u8 (x.toNat : Nat), .int .u8 (y.toNat : Nat)] 5)).drew.ownsRow w.heap.size 5 1 V acc.length (Lib.byteCells acc) := own_keep hI1 (below_then (below_alloc _ _) (below_drewN _ 1))
        have hcs : ∀ (j : Nat) (u : Value), (Lib.byteCells [37, x, y])[j]? = some u → (w1.alloc (.cells #[.int .u8 37, .int .u8 (x.toNat : Nat), .int .u8 (y.toNat : Nat)] 5)).drew.cell? ((⟨w1.heap.size, 0, none⟩ : Addr).add j) = some u := by
          intro j u hj
          have := Lib.cell_of_heap (heap_new w1 (.cells #[.int .u8 37, .int .u8 (x.toNat : Nat), .int .u8 (y.toNat : Nat)] 5)) j
          rw [Lib.add_plain, Nat.zero_add]
          show (w1.alloc _).cell? _ = _
          rw [this]
          simpa [Lib.byteCells] using hj
        have h1c : ∀ u ∈ Lib.byteCells [37, x, y], u.oneCell' = true := by
          intro u hu
          simp [Lib.byteCells] at hu
          rcases hu with rfl | rfl | rfl <;> rfl
        have hB2 : Below w.heap.size w (w1.alloc (.cells #[.int .u8 37, .int .u8 (x.toNat : Nat), .int .u8 (y.toNat : Nat)] 5)).drew := (hB.trans (hb1.mono hBs)).trans ((below_then (below_alloc _ _) (below_drewN _ 1)).mono (by omega))
        have HCS := Lib.hid hcs
        have H1C := Lib.hid h1c
        clear hcs h1c
        go_wp2_with fail
        go_region_held3 (fun _ => True) (trivial)
          (first
            | (refine step_append_own (P := Tryz.prog) rfl (.tmp 24) (.tmp 37) 79 rfl w.heap.size 5 i0 (.int .u8 0) 1 1 Tryz.underlying79 hi hz0 hz1 hz2 rfl (by decide) V acc.length (Lib.byteCells acc) (by simp [Act.eval]) hI2 ⟨w1.heap.size, 0, none⟩ 3 3 (Lib.byteCells [37, x, y]) (by simp [Act.eval]) rfl HCS.out H1C.out (by unfold maxLen; omega) (by omega) (by simp; omega) ?_; intro v' w2 hown' hgrow)
            | skip)
        all_goals
          have hB3 := hB2.grown hgrow (by simp; omega) (fun j e => (hI2.lt j e).1)
          clear hgrow
          go_wp2_with fail
          go_roundw
          case rel => exact ⟨k + 1, _, rfl, by omega, by go_num, by rw [HNX.out, Lib.byteCells_append, List.length_append]; exact hown', hB3⟩
          case measure => simp [intOf]; omega
    · obtain rfl : k = s.size := by omega
      rw [take_all] at hI
      have hconv := conv_own hI
      go_wp2_with fail
      go_ret
      exact ⟨rfl, hB⟩
end Go.Proofs.YtfkmgnldkmpeiaaGreatDoor.W12

namespace Go.Proofs.YtfkmgnldkmpeiaaGreatDoor.W12
open Go Go.RowKit P12

/-- What the walks ask of the package-level variables. -/
structure Env (w : World) : Prop where
  tab : Lib.TabIs Tryz.prog w "internal/strconv.uint64pow10" .u64 Lib.pow10Tab
  syn : ∃ ev, w.cell? ⟨1, 0, none⟩ = some ev ∧ (ev = .nilIface ∨ ∃ te pe, ev = .iface te pe)
  rng : ∃ ev, w.cell? ⟨2, 0, none⟩ = some ev ∧ (ev = .nilIface ∨ ∃ te pe, ev = .iface te pe)
theorem Env.keep {w w' : World} (h : Env w) (hb : Below w.heap.size w w') : Env w' := by
  obtain ⟨h1, ⟨e2, h2, k2⟩, ⟨e3, h3, k3⟩⟩ := h
  exact ⟨Lib.tabBelow_of_tabIs h1 w' hb, ⟨e2, keep_cell hb h2, k2⟩, ⟨e3, keep_cell hb h3, k3⟩⟩
theorem Env.new {w : World} (h : Env w) (o : Obj) : Env (w.alloc o) := h.keep (below_alloc w o)

def hexN (n : Nat) : Option Nat := if 48 ≤ n ∧ n ≤ 57 then some (n - 48) else if 97 ≤ n ∧ n ≤ 102 then some (n - 87) else if 65 ≤ n ∧ n ≤ 70 then some (n - 55) else none
theorem hexV_nat (c : UInt8) : hexV c = hexN c.toNat := by
  have h : ((List.range 256).all fun n => decide (hexV n.toUInt8 = hexN n)) = true := by decide +kernel
  have := List.all_eq_true.1 h c.toNat (List.mem_range.2 c.toNat_lt)
  simpa using this
def hexP : Nat → By → Option Nat
  | acc, [] => some acc
  | acc, c :: l => match hexN c.toNat with
    | none => none
    | some v => hexP (acc * 16 + v) l
theorem or32 (n : Nat) (h : n < 256) : bits .or .u8 (n : Int) 32 = ((n ||| 32 : Nat) : Int) := by
  have h' : ((List.range 256).all fun n => decide (bits .or .u8 (n : Int) 32 = ((n ||| 32 : Nat) : Int))) = true := by decide +kernel
  simpa using List.all_eq_true.1 h' n (List.mem_range.2 h)
theorem or32_low (n : Nat) (h0 : 97 ≤ n) (h1 : n ≤ 102) : n ||| 32 = n := by
  have h' : ((List.range 256).all fun n => decide (97 ≤ n → n ≤ 102 → n ||| 32 = n)) = true := by decide +kernel
  have := List.all_eq_true.1 h' n (List.mem_range.2 (by omega))
  simp only [decide_eq_true_eq] at this
  exact this h0 h1
theorem or32_up (n : Nat) (h0 : 65 ≤ n) (h1 : n ≤ 70) : n ||| 32 = n + 32 := by
  have h' : ((List.range 256).all fun n => decide (65 ≤ n → n ≤ 70 → n ||| 32 = n + 32)) = true := by decide +kernel
  have := List.all_eq_true.1 h' n (List.mem_range.2 (by omega))
  simp only [decide_eq_true_eq] at this
  exact this h0 h1
theorem or32_bad (n : Nat) (h : n < 256) (hx : hexN n = none) : ¬ (97 ≤ n ||| 32 ∧ n ||| 32 ≤ 102) ∧ (n ||| 32) < 256 := by
  have h' : ((List.range 256).all fun n => decide (hexN n = none → ¬ (97 ≤ n ||| 32 ∧ n ||| 32 ≤ 102) ∧ (n ||| 32) < 256)) = true := by decide +kernel
  have := List.all_eq_true.1 h' n (List.mem_range.2 h)
  simp only [decide_eq_true_eq] at this
  exact this hx
/-- How internal/strconv.ParseUint ends here. -/
def hexEnd : Option Nat → Value
  | some u => .tuple #[.int .u64 (u : Nat), .nilIface]
  | none => .tuple #[.int .u64 0, .iface 164 (.int .i64 2)]

set_option maxHeartbeats 6400000 in
set_option maxRecDepth 100000 in
theorem iParse16 (t : ByteArray) (h2 : t.size = 2) (w : World) :
    Calls Tryz.prog 123 #[.string t, .int .i64 16, .int .i64 8] w fun e w' => e = .returned (hexEnd (hexP 0 t.data.toList)) ∧ Below w.heap.size w w' := by
  have hemp := toList_cons t (by omega)
  have hcv := Lib.run_convert_string_bytes (P := Tryz.prog) w 9 79 5 t (u := .string) Tryz.underlying9 Tryz.underlying79 Tryz.underlying5
  have hB : ∀ j, j < t.size → (Lib.bytesWorld w 5 t).cell? ⟨w.heap.size, j, none⟩ = some (.int .u8 (t.data.toList.getD j 0).toNat) := fun j hj => Lib.bytesWorld_cell w 5 t j hj
  have hbw := Lib.bytesWorld_below w 5 t
  obtain ⟨W1, hW1⟩ : ∃ W1, W1 = Lib.bytesWorld w 5 t := ⟨_, rfl⟩
  rw [← hW1] at hcv hB hbw
  clear hW1
  obtain ⟨bs, hL⟩ : ∃ bs, bs = t.data.toList := ⟨_, rfl⟩
  have hLn : bs.length = t.size := by rw [hL, size_data]
  rw [← hL] at hB ⊢
  clear hL
  have hmv : IntKind.u64.wrap (IntKind.u64.wrap 256 - 1) = 255 := by
    rw [IntKind.wrap_u64, IntKind.wrap_u64]
    decide
  go_enter Tryz.func123, Tryz.ntmps123
  go_wp2_with fail
  go_loop [12, 13, 101] (fun vu vn vi => ∃ (k acc : Nat) (a : Int), vu = .bool false ∧ vn = .int .u64 a ∧ vi = .int .i64 k ∧ k ≤ t.size ∧ Hid (a = (acc : Int) ∧ acc < 16 ^ k ∧ hexP 0 bs = hexP acc (bs.drop k)))
    (fun _ _ vi => t.size - (intOf vi).toNat)
  case atStart => exact ⟨0, 0, 0, rfl, rfl, rfl, by omega, rfl, by decide, rfl⟩
  case round =>
    obtain ⟨k, acc, a, rfl, rfl, rfl, hk, hh⟩ := hrel
    obtain ⟨ha, hacc, hdec⟩ := hh.out
    clear hh
    have a0 : 0 ≤ a := by omega
    by_cases hkn : k < t.size
    · have hacc16 : acc < 16 := by
        have : k = 0 ∨ k = 1 := by omega
        rcases this with rfl | rfl <;> omega
      have a1 : a < 16 := by omega
      have hc := hB k hkn
      have hdrop : bs.drop k = bs[k]'(by omega) :: bs.drop (k + 1) := List.drop_eq_getElem_cons (by omega)
      have hget : bs.getD k 0 = bs[k]'(by omega) := by simp [List.getD, List.getElem?_eq_getElem (show k < bs.length by omega)]
      rw [hdrop] at hdec
      rw [hget] at hc
      generalize bs[k]'(by omega) = c at hc hdec
      have hc256 : c.toNat < 256 := c.toNat_lt
      have hlow := fun W => Tryz.internal_strconv_lower (c.toNat : Int) W
      rw [or32 _ hc256] at hlow
      clear hB hdrop hget
      cases hx : hexN c.toNat with
      | some v =>
        have hF : hexP acc (c :: bs.drop (k + 1)) = hexP (acc * 16 + v) (bs.drop (k + 1)) := by simp [hexP, hx]
        have hv : v < 16 ∧ ((48 ≤ c.toNat ∧ c.toNat ≤ 57 ∧ v = c.toNat - 48) ∨ (97 ≤ c.toNat ∧ c.toNat ≤ 102 ∧ v = c.toNat - 87) ∨ (65 ≤ c.toNat ∧ c.toNat ≤ 70 ∧ v = c.toNat - 55)) := by
          unfold hexN at hx
          split at hx
          · injection hx with hx; omega
          · split at hx
            · injection hx with hx; omega
            · split at hx
              · injection hx with hx; omega
              · cases hx
        obtain ⟨hv16, hv⟩ := hv
        have hpow : 16 ^ (k + 1) = 16 * 16 ^ k := by rw [Nat.pow_succ, Nat.mul_comm]
        have HN : ∀ d : Int, d = v → Hid (a * 16 + d = ((acc * 16 + v : Nat) : Int) ∧ acc * 16 + v < 16 ^ (k + 1) ∧ hexP 0 bs = hexP (acc * 16 + v) (bs.drop (k + 1))) := fun d hd => Lib.hid ⟨by omega, by omega, hdec.trans hF⟩
        have HNH := Lib.hid HN
        clear hF hdec ha hacc hacc16 hx HN hpow
        rcases hv with ⟨h0, h1, hv⟩ | ⟨h0, h1, hv⟩ | ⟨h0, h1, hv⟩
        · have HD := HNH.out ((c.toNat : Int) - 48) (by omega)
          have HD2 := Lib.hid HD
          clear HD HNH hv hv16
          go_wp2_with fail
          refine ⟨⟨k + 1, acc * 16 + v, a * 16 + ((c.toNat : Int) - 48), rfl, (by first | rfl | (congr 1; omega)), (by first | rfl | (congr 1; omega)), by omega, HD2.out⟩, by simp [intOf]; omega⟩
        · rw [or32_low _ h0 h1] at hlow
          have HD := HNH.out ((c.toNat : Int) - 97 + 10) (by omega)
          have HD2 := Lib.hid HD
          clear HD HNH hv hv16
          go_wp2_with (go_at_call 149; refine (hlow _).mono ?_; rintro e w' ⟨rfl, rfl⟩)
          refine ⟨⟨k + 1, acc * 16 + v, a * 16 + ((c.toNat : Int) - 97 + 10), rfl, (by first | rfl | (congr 1; omega)), (by first | rfl | (congr 1; omega)), by omega, HD2.out⟩, by simp [intOf]; omega⟩
        · rw [or32_up _ h0 h1] at hlow
          have HD := HNH.out (((c.toNat + 32 : Nat) : Int) - 97 + 10) (by omega)
          have HD2 := Lib.hid HD
          clear HD HNH hv hv16
          go_wp2_with (go_at_call 149; refine (hlow _).mono ?_; rintro e w' ⟨rfl, rfl⟩)
          refine ⟨⟨k + 1, acc * 16 + v, a * 16 + (((c.toNat + 32 : Nat) : Int) - 97 + 10), rfl, (by first | rfl | (congr 1; omega)), (by first | rfl | (congr 1; omega)), by omega, HD2.out⟩, by simp [intOf]; omega⟩
      | none =>
        have hF : hexP acc (c :: bs.drop (k + 1)) = none := by simp [hexP, hx]
        rw [hF] at hdec
        have HDEC := Lib.hid hdec
        obtain ⟨hbad, hL256⟩ := or32_bad _ hc256 hx
        have hnd : ¬ (48 ≤ c.toNat ∧ c.toNat ≤ 57) := by
          intro h
          unfold hexN at hx
          rw [if_pos h] at hx
          cases hx
        obtain ⟨L, hLL⟩ : ∃ L, L = (c.toNat ||| 32) := ⟨_, rfl⟩
        rw [← hLL] at hlow hbad hL256
        clear hacc hF ha hdec hx hacc16
        by_cases h95 : c.toNat = 95
        · have hlow95 : ∀ W, Calls Tryz.prog 149 #[.int .u8 95] W fun e w' => e = .returned (.int .u8 127) ∧ w' = W := by
            intro W
            have := Tryz.internal_strconv_lower 95 W
            rw [show bits .or .u8 95 32 = 127 by decide] at this
            exact this
          have hc95 : W1.cell? ⟨w.heap.size, k, none⟩ = some (.int .u8 95) := by rw [hc, h95]; rfl
          clear hlow hc h95 hLL hbad hL256 hnd
          go_wp2_with (go_at_call 149; refine (hlow95 _).mono ?_; rintro e w' ⟨rfl, rfl⟩)
          go_ret2
          exact ⟨by rw [HDEC.out]; rfl, hbw⟩
        · have hz : ((c.toNat : Int) == 95) = false := by rw [beq_eq_false_iff_ne]; omega
          clear hLL h95
          go_wp2_with (go_at_call 149; refine (hlow _).mono ?_; rintro e w' ⟨rfl, rfl⟩)
          all_goals first
            | (exfalso; omega)
            | (go_ret2; exact ⟨by rw [HDEC.out]; rfl, hbw⟩)
    · have hkk : k = t.size := by omega
      subst hkk
      have hF : hexP acc (bs.drop t.size) = some acc := by rw [List.drop_eq_nil_of_le (by omega)]; rfl
      rw [hF] at hdec
      have HDEC := Lib.hid hdec
      have a1 : a < 256 := by
        rw [h2] at hacc
        omega
      have HA := Lib.hid ha
      clear hacc hF hdec ha
      go_wp2_with fail
      go_ret2
      exact ⟨by rw [HDEC.out, HA.out]; rfl, hbw⟩
end Go.Proofs.YtfkmgnldkmpeiaaGreatDoor.W12
