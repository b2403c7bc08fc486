/-
  What the library's table of powers of ten holds, and that it stays so; strconv.Itoa at every int. Conditions: the table is as its initialiser lays it.
  Walks of layer 18: strconv.FormatInt at base 16, small numbers. Conditions: 0 <= n <= 1000; the library's table math/bits.deBruijn64tab holds 4 at 15.
  Walks of layer 18: the statement's own chunked. Conditions: a body of at most 1000 bytes; the library's table math/bits.deBruijn64tab holds 4 at 15.
  Walks of layer 18: RequestBodies. Conditions: the texts are within Go's own limit; the library's variable MaxLen holds an int, its table math/bits.deBruijn64tab 4 at 15, its table of powers of ten what its initialiser lays.
-/
import Derived.Test.YtcgeiimihihhpaaGreatDoorChecked
import Derived.Test.YtcgeiimihihhpaaGreatDoorTShelf
import Derived.Test.YtcgeiimihihhpaaGreatDoorGa
import Derived.Lib.AppendIntMem
import Derived.Lib.ItoaLen
import Derived.Test.YtcgeiimihihhpaaGreatDoorGl
import Derived.Deep.RegionHeld3
import Derived.Deep.CutRange

namespace Go.Proofs.YtcgeiimihihhpaaGreatDoor
open Go Go.RowKit

/-- The table internal/strconv.uint64pow10 holds what its initialiser lays. -/
def Tab (w : World) : Prop := Lib.TabIs Tryz.prog w "internal/strconv.uint64pow10" .u64 Lib.pow10Tab
theorem Tab.keep {w w' : World} (h : Tab w) (hb : Below w.heap.size w w') : Tab w' := Lib.tabBelow_of_tabIs h w' hb
theorem Tab.new {w : World} (h : Tab w) (o : Obj) : Tab (w.alloc o) := h.keep (below_alloc w o)
theorem Tab.drew {w : World} (h : Tab w) : Tab w.drew := h.keep (below_drewN w 1)
theorem Tab.drewN {w : World} (h : Tab w) (n : Nat) : Tab (w.drewN n) := h.keep (below_drewN w n)

theorem below_grow (w : World) (k : Nat) (os : Array Obj) : Below w.heap.size w (Sort.grow (w.drewN k) os) := by
  refine ⟨rfl, rfl, rfl, ?_, fun i hi => ?_⟩
  · show w.heap.size ≤ (w.heap ++ os).size
    rw [Array.size_append]; omega
  · show (w.heap ++ os)[i]? = _
    rw [Array.getElem?_append_left hi]

theorem Itoa_any (n : Int) (h0 : -9223372036854775808 ≤ n) (h1 : n ≤ 9223372036854775807) (w : World) (hT : Tab w) :
    Calls Tryz.prog 14 #[.int .i64 n] w fun e w' => e = .returned (bs (Lib.itoa n)) ∧ Below w.heap.size w w' :=
  (Tryz.strconv_Itoa n h0 h1 w hT).mono fun _ _ ⟨he, k, os, hw⟩ => ⟨he, by rw [hw]; exact below_grow w k os⟩
theorem Itoa_str (n : Int) (h0 : -9223372036854775808 ≤ n) (h1 : n ≤ 9223372036854775807) (X : ByteArray) (hX : X = ⟨(Lib.itoa n).toArray⟩) (w : World) (hT : Tab w) :
    Calls Tryz.prog 14 #[.int .i64 n] w fun e w' => e = .returned (.string X) ∧ Below w.heap.size w w' := by
  subst hX
  exact Itoa_any n h0 h1 w hT
theorem itoa_name (n : Int) (h0 : -9223372036854775808 ≤ n) (h1 : n ≤ 9223372036854775807) : ∃ X : ByteArray, X = ⟨(Lib.itoa n).toArray⟩ ∧ X.size ≤ 21 :=
  ⟨_, rfl, by rw [size_mk]; exact Lib.itoa_length_le n h0 h1⟩
end Go.Proofs.YtcgeiimihihhpaaGreatDoor

namespace Go.Proofs.YtcgeiimihihhpaaGreatDoor.W18
open Go Go.RowKit P12 P18

/-- The library's table holds 4 at 15. -/
def Brj (w : World) : Prop := w.cell? ⟨7, 15, none⟩ = some (.int .u8 4)
theorem Brj.keep {w w' : World} (h : Brj w) (hb : Below w.heap.size w w') : Brj w' := keep_cell hb h
set_option maxRecDepth 100000 in
theorem tz_any (w : World) (h : Brj w) : Calls Tryz.prog 123 #[.int .u64 16] w fun e w' => e = .returned (.int .i64 4) ∧ w = w' := by
  unfold Brj at h
  have e1 : bits .and .u64 16 (IntKind.u64.wrap (-16)) = 16 := by decide +kernel
  have e2 : IntKind.u64.wrap (16 * 285870213051353865) = 4573923408821661840 := by decide +kernel
  have e3 : IntKind.u64.wrap 4573923408821661840 = 4573923408821661840 := by decide +kernel
  go_enter Tryz.func123, Tryz.ntmps123
  go_wp2_with fail
  go_ret
  exact ⟨rfl, rfl⟩
set_option maxRecDepth 100000 in
theorem pow_any (w : World) : Calls Tryz.prog 108 #[.int .i64 16] w fun e w' => e = .returned (.bool true) ∧ w = w' := by
  have h : bits .and .i64 16 15 = 0 := by decide +kernel
  go_enter Tryz.func108, Tryz.ntmps108
  go_wp2_with fail
  go_ret
  exact ⟨rfl, rfl⟩
theorem and15 (n : Nat) (h : n < 1024) : bits .and .u64 (n : Int) 15 = ((n % 16 : Nat) : Int) := by
  have : ((List.range 1024).all fun n => decide (bits .and .u64 (n : Int) 15 = ((n % 16 : Nat) : Int))) = true := by decide +kernel
  simpa using List.all_eq_true.1 this n (List.mem_range.2 h)
abbrev digsB : ByteArray := ⟨#[48, 49, 50, 51, 52, 53, 54, 55, 56, 57, 97, 98, 99, 100, 101, 102, 103, 104, 105, 106, 107, 108, 109, 110, 111, 112, 113, 114, 115, 116, 117, 118, 119, 120, 121, 122]⟩
theorem digs_at (d : Nat) (h : d < 16) : digsB.data.toList[d]? = some (hx d) := by
  have : ((List.range 16).all fun d => decide (digsB.data.toList[d]? = some (hx d))) = true := by decide +kernel
  simpa using List.all_eq_true.1 this d (List.mem_range.2 h)
theorem digs_get (d : Nat) (h : d < 16) (h' : d < digsB.size) : digsB[d]'h' = hx d := by
  have h1 := digs_at d h
  have hl : d < digsB.data.toList.length := (List.getElem?_eq_some_iff.1 h1).1
  rw [List.getElem?_eq_getElem hl] at h1
  exact Option.some.inj h1
theorem tzu_any (w : World) (h : Brj w) : Calls Tryz.prog 109 #[.int .u64 16] w fun e w' => e = .returned (.int .i64 4) ∧ w = w' := by
  have hc := tz_any w h
  go_enter Tryz.func109, Tryz.ntmps109
  go_wp2_with (go_at_call 123; refine hc.mono ?_; rintro e w' ⟨rfl, rfl⟩)
  go_ret
  exact ⟨rfl, rfl⟩
theorem run_atu (s : ByteArray) (i : Nat) (c : UInt8) (h : s.data.toList[i]? = some c) (W : World) : (Instr.index 9 (.string s) (.int .u64 i)).run Tryz.prog W = .ok (.int .u8 (c.toNat : Nat)) W := by
  have hl : i < s.data.toList.length := (List.getElem?_eq_some_iff.1 h).1
  have hs : i < s.size := by rw [size_data] at hl; exact hl
  rw [run_index_string W 9 _ .u64 _ Tryz.underlying9, dif_pos (by omega)]
  rw [List.getElem?_eq_getElem hl] at h
  have e : s[i]'hs = c := Option.some.inj h
  simp only [Int.toNat_natCast]
  rw [e]
def tl (n : Nat) : Nat → P12.By
  | 0 => []
  | 1 => [hx (n % 16)]
  | _ => [hx (n / 16 % 16), hx (n % 16)]
/-- The last bytes of the 65 in block B. -/
def Tail (B : Nat) (t : TypeId) (l : P12.By) (w : World) : Prop := ∃ cur : Array Value, w.heap[B]? = some (.cells cur t (0, 0)) ∧ cur.size = 65 ∧ ∀ j (h : j < l.length), cur[65 - l.length + j]? = some (.int .u8 ((l[j]'h).toNat : Nat))
theorem Tail.here {B : Nat} {t : TypeId} {l : P12.By} {w : World} (h : Tail B t l w) (i : Nat) (hi : i < 65) : (∃ v, w.cell? ⟨B, i, none⟩ = some v) ∧ w.frozen? ⟨B, i, none⟩ = false := by
  obtain ⟨cur, h1, h2, -⟩ := h
  exact ⟨⟨cur[i]'(by omega), by rw [Lib.cell_of_heap h1, Array.getElem?_eq_getElem]⟩, Lib.frozen_of_heap h1 _⟩
theorem Tail.cons {B : Nat} {t : TypeId} {l : P12.By} {w : World} (h : Tail B t l w) (i : Nat) (c : UInt8) (hi : i + 1 + l.length = 65) : Tail B t (c :: l) (w.setCell ⟨B, i, none⟩ (.int .u8 (c.toNat : Nat))) := by
  obtain ⟨cur, h1, h2, h3⟩ := h
  refine ⟨cur.set i (.int .u8 (c.toNat : Nat)) (by omega), set_any h1 i _ (by omega), by simp [h2], fun j hj => ?_⟩
  simp only [List.length_cons] at hj ⊢
  match j, hj with
  | 0, _ =>
    rw [show 65 - (l.length + 1) + 0 = i by omega]
    simp
  | j + 1, hj =>
    have := h3 j (by omega)
    rw [show 65 - (l.length + 1) + (j + 1) = 65 - l.length + j by omega]
    rw [Array.getElem?_set_ne]
    · exact this
    · omega
theorem wp_shr {o : Oper} {t u : TypeId} {i j : Operand} (hop : o.op = .binOp .shr t i j u) {a : Act} {w : World} {n : Nat} {K : Act → World → Prop} {Q : Exit → Act → World → Prop} (hi : a.eval i = .int .u64 n) (hj : a.eval j = .int .u64 4)
    (h : K (a.put o.dst (.int .u64 ((n / 16 : Nat) : Int))) w) : o.wp Tryz.prog a w K Q := by
  have e : (execOp a.eval o).run Tryz.prog w = .ok (.value (.int .u64 ((n / 16 : Nat) : Int))) w := by
    simp [execOp, hop, hi, hj, eqGuard_shr, binOp_shr, shift_shr_u64]
  unfold Oper.wp
  rw [e]
  exact h
theorem Tail.cell {B : Nat} {t : TypeId} {l : P12.By} {w : World} (h : Tail B t l w) (k : Nat) (hk : k + l.length = 65) (j : Nat) (hj : j < l.length) : w.cell? (Addr.add ⟨B, k, none⟩ j) = some (.int .u8 ((l[j]'hj).toNat : Nat)) := by
  obtain ⟨cur, h1, h2, h3⟩ := h
  have := h3 j hj
  rw [show 65 - l.length + j = k + j by omega] at this
  have e : Addr.add ⟨B, k, none⟩ j = ⟨B, k + j, none⟩ := by simp only [Addr.add]; split <;> simp_all
  rw [e, Lib.cell_of_heap h1, this]
set_option maxHeartbeats 3200000 in
set_option maxRecDepth 100000 in
theorem bits_any (n : Nat) (hn : n ≤ 1000) (X : ByteArray) (hX : X = ⟨(hexT n).toArray⟩) (w : World) (hB : Brj w) :
    Calls Tryz.prog 86 #[.slice none 0 0, .int .u64 n, .int .i64 16, .bool false, .bool false] w fun e w' => e = .returned (.tuple #[.slice none 0 0, .string X]) ∧ Below w.heap.size w w' := by
  have hp := fun W => pow_any W
  have ht := fun W hW => tzu_any W hW
  have hb1 := below_alloc w (.cells Tryz.zeroCells122 122)
  have hB1 := hB.keep hb1
  have hT : Tail w.heap.size 122 [] (w.alloc (.cells Tryz.zeroCells122 122)) := ⟨_, new_at w _ _, by kernel_rfl, fun j hj => absurd hj (Nat.not_lt_zero _)⟩
  have HX := Lib.hid hX
  clear hX
  go_enter Tryz.func86, Tryz.ntmps86
  go_wp2_with (first
    | (go_at_call 108; refine (hp _).mono ?_; rintro e w' ⟨rfl, rfl⟩)
    | (go_at_call 109; refine (ht _ hB1).mono ?_; rintro e w' ⟨rfl, rfl⟩))
  clear hB1
  go_loopw [1, 13] (fun u i wr => ∃ k : Nat, k ≤ 2 ∧ u = .int .u64 ((n / 16 ^ k : Nat) : Int) ∧ i = .int .i64 ((65 - k : Nat) : Int) ∧ Tail w.heap.size 122 (tl n k) wr ∧ Below w.heap.size w wr ∧ (1 ≤ k → 16 ≤ n) ∧ (2 ≤ k → 256 ≤ n)) (fun u _ _ => (intOf u).toNat)
  case atStart => exact ⟨0, by omega, by simp, rfl, hT, hb1, by omega, by omega⟩
  case round =>
    clear hT hb1
    obtain ⟨k, hk, rfl, rfl, hT, hb1, hk1, hk2⟩ := hrel
    rcases (show k = 0 ∨ k = 1 ∨ k = 2 by omega) with rfl | rfl | rfl
    · obtain ⟨⟨v, hv⟩, hf⟩ := hT.here 64 (by omega)
      obtain ⟨m, hm⟩ : ∃ m, m = n := ⟨_, rfl⟩
      have hmN : m ≤ n := by omega
      simp only [Nat.pow_zero, Nat.div_one, Nat.pow_one]
      try rw [← hm]
      have HM := Lib.hid hm
      have hmB : m ≤ 1000 := by omega
      clear hm hmN
      by_cases h16 : 16 ≤ m
      · have z1 : (16 : Int) ≤ (m : Int) := by omega
        have ha := and15 m (by omega)
        have hnx := hT.cons 64 (hx (m % 16)) (by simp [tl])
        have hb2 : Below w.heap.size w (wr.setCell ⟨w.heap.size, 64, none⟩ (.int .u8 ((hx (m % 16)).toNat : Nat))) := hb1.setCell (by simp) _
        go_wp2_with fail
        rw [digs_get _ (by omega)]
        clear ha z1
        generalize wr.setCell ⟨w.heap.size, 64, none⟩ (.int .u8 ((hx (m % 16)).toNat : Nat)) = W2 at hnx hb2 ⊢
        clear hv hf hp ht hT hb1
        go_wp2_with fail
        have hm := HM.out
        refine ⟨⟨1, by omega, ?_, rfl, (by simpa [tl, hm] using hnx), hb2, by omega, by omega⟩, ?_⟩
        · first | (congr 1; done) | (congr 1; omega)
        · simp only [intOf]; omega
      · have z1 : ¬ (16 : Int) ≤ (m : Int) := by omega
        have hnx := hT.cons 64 (hx m) (by simp [tl])
        have hb2 : Below w.heap.size w (wr.setCell ⟨w.heap.size, 64, none⟩ (.int .u8 ((hx m).toNat : Nat))) := hb1.setCell (by simp) _
        go_wp2_with fail
        rw [digs_get _ (by omega)]
        generalize wr.setCell ⟨w.heap.size, 64, none⟩ (.int .u8 ((hx m).toNat : Nat)) = W2 at hnx hb2 ⊢
        have hh : hx m :: tl n 0 = hexT n := by have hm := HM.out; unfold hexT; split <;> simp_all [tl] <;> omega
        have hl : (hexT n).length = 1 := by rw [← hh]; rfl
        rw [hh] at hnx
        have hbk := fun cap => run_convert_bytes_back (P := Tryz.prog) W2 72 9 5 ⟨w.heap.size, 64, none⟩ cap (hexT n) Tryz.underlying72 Tryz.underlying5 Tryz.underlying9 (hnx.cell 64 (by rw [hl]))
        rw [hl, ← HX.out] at hbk
        go_wp2_with fail
        rw [hbk]
        clear hv hf hT hb1 hnx hbk hl hp ht z1
        go_wp2_with fail
        go_ret2
        exact ⟨rfl, hb2⟩
    · obtain ⟨⟨v, hv⟩, hf⟩ := hT.here 63 (by omega)
      obtain ⟨m, hm⟩ : ∃ m, m = n / 16 := ⟨_, rfl⟩
      have hmN : m ≤ n := by omega
      simp only [Nat.pow_zero, Nat.div_one, Nat.pow_one]
      try rw [← hm]
      have HM := Lib.hid hm
      have hmB : m ≤ 1000 := by omega
      clear hm hmN
      by_cases h16 : 16 ≤ m
      · have z1 : (16 : Int) ≤ (m : Int) := by omega
        have ha := and15 m (by omega)
        have hnx := hT.cons 63 (hx (m % 16)) (by simp [tl])
        have hb2 : Below w.heap.size w (wr.setCell ⟨w.heap.size, 63, none⟩ (.int .u8 ((hx (m % 16)).toNat : Nat))) := hb1.setCell (by simp) _
        go_wp2_with fail
        rw [digs_get _ (by omega)]
        clear ha z1
        generalize wr.setCell ⟨w.heap.size, 63, none⟩ (.int .u8 ((hx (m % 16)).toNat : Nat)) = W2 at hnx hb2 ⊢
        clear hv hf hp ht hT hb1
        go_wp2_with fail
        have hm := HM.out
        refine ⟨⟨2, by omega, ?_, rfl, (by simpa [tl, hm] using hnx), hb2, by omega, by omega⟩, ?_⟩
        · first | (congr 1; done) | (congr 1; omega)
        · simp only [intOf]; omega
      · have z1 : ¬ (16 : Int) ≤ (m : Int) := by omega
        have hnx := hT.cons 63 (hx m) (by simp [tl])
        have hb2 : Below w.heap.size w (wr.setCell ⟨w.heap.size, 63, none⟩ (.int .u8 ((hx m).toNat : Nat))) := hb1.setCell (by simp) _
        go_wp2_with fail
        rw [digs_get _ (by omega)]
        generalize wr.setCell ⟨w.heap.size, 63, none⟩ (.int .u8 ((hx m).toNat : Nat)) = W2 at hnx hb2 ⊢
        have hh : hx m :: tl n 1 = hexT n := by have hm := HM.out; unfold hexT; split <;> simp_all [tl] <;> omega
        have hl : (hexT n).length = 2 := by rw [← hh]; rfl
        rw [hh] at hnx
        have hbk := fun cap => run_convert_bytes_back (P := Tryz.prog) W2 72 9 5 ⟨w.heap.size, 63, none⟩ cap (hexT n) Tryz.underlying72 Tryz.underlying5 Tryz.underlying9 (hnx.cell 63 (by rw [hl]))
        rw [hl, ← HX.out] at hbk
        go_wp2_with fail
        rw [hbk]
        clear hv hf hT hb1 hnx hbk hl hp ht z1
        go_wp2_with fail
        go_ret2
        exact ⟨rfl, hb2⟩
    · obtain ⟨⟨v, hv⟩, hf⟩ := hT.here 62 (by omega)
      obtain ⟨m, hm⟩ : ∃ m, m = n / 256 := ⟨_, rfl⟩
      have hmN : m ≤ n := by omega
      simp only [show 16 ^ 2 = 256 from rfl]
      try rw [← hm]
      have HM := Lib.hid hm
      have hmB : m ≤ 1000 := by omega
      clear hm hmN
      have h16 : ¬ 16 ≤ m := by have := HM.out; omega
      have z1 : ¬ (16 : Int) ≤ (m : Int) := by omega
      have hnx := hT.cons 62 (hx m) (by simp [tl])
      have hb2 : Below w.heap.size w (wr.setCell ⟨w.heap.size, 62, none⟩ (.int .u8 ((hx m).toNat : Nat))) := hb1.setCell (by simp) _
      go_wp2_with fail
      rw [digs_get _ (by omega)]
      generalize wr.setCell ⟨w.heap.size, 62, none⟩ (.int .u8 ((hx m).toNat : Nat)) = W2 at hnx hb2 ⊢
      have hh : hx m :: tl n 2 = hexT n := by have hm := HM.out; unfold hexT; split <;> simp_all [tl] <;> omega
      have hl : (hexT n).length = 3 := by rw [← hh]; rfl
      rw [hh] at hnx
      have hbk := fun cap => run_convert_bytes_back (P := Tryz.prog) W2 72 9 5 ⟨w.heap.size, 62, none⟩ cap (hexT n) Tryz.underlying72 Tryz.underlying5 Tryz.underlying9 (hnx.cell 62 (by rw [hl]))
      rw [hl, ← HX.out] at hbk
      go_wp2_with fail
      rw [hbk]
      clear hv hf hT hb1 hnx hbk hl hp ht z1
      go_wp2_with fail
      go_ret2
      exact ⟨rfl, hb2⟩
set_option maxRecDepth 100000 in
theorem iformat_any (n : Nat) (hn : n ≤ 1000) (X : ByteArray) (hX : X = ⟨(hexT n).toArray⟩) (w : World) (hB : Brj w) :
    Calls Tryz.prog 61 #[.int .i64 n, .int .i64 16] w fun e w' => e = .returned (.string X) ∧ Below w.heap.size w w' := by
  have hc := bits_any n hn X hX w hB
  clear hX
  go_enter Tryz.func61, Tryz.ntmps61
  go_wp2_with (go_at_call 86; refine hc.mono ?_; rintro e w' ⟨rfl, hb⟩)
  go_ret
  exact ⟨rfl, hb⟩
set_option maxRecDepth 100000 in
theorem format_any (n : Nat) (hn : n ≤ 1000) (X : ByteArray) (hX : X = ⟨(hexT n).toArray⟩) (w : World) (hB : Brj w) :
    Calls Tryz.prog 29 #[.int .i64 n, .int .i64 16] w fun e w' => e = .returned (.string X) ∧ Below w.heap.size w w' := by
  have hc := iformat_any n hn X hX w hB
  clear hX
  go_enter Tryz.func29, Tryz.ntmps29
  go_wp2_with (go_at_call 61; refine hc.mono ?_; rintro e w' ⟨rfl, hb⟩)
  go_ret
  exact ⟨rfl, hb⟩
end Go.Proofs.YtcgeiimihihhpaaGreatDoor.W18

namespace Go.Proofs.YtcgeiimihihhpaaGreatDoor.W18
open Go Go.RowKit P12 P18

/-- A slice of numbers as an argument. -/
def Ints (v : Value) (l : List Int) (w : World) : Prop := ∃ o c, v = .slice o l.length c ∧ (l = [] ∨ ∃ g off, o = some ⟨g, off, none⟩ ∧ ∀ j (h : j < l.length), w.cell? ⟨g, off + j, none⟩ = some (.int .i64 (l[j]'h)))
theorem Ints.keep {v : Value} {l : List Int} {w w' : World} (h : Ints v l w) (hb : Below w.heap.size w w') : Ints v l w' := by
  obtain ⟨o, c, h1, h2⟩ := h
  refine ⟨o, c, h1, ?_⟩
  rcases h2 with h2 | ⟨g, off, h2, h3⟩
  · exact .inl h2
  · exact .inr ⟨g, off, h2, fun j hj => keep_cell hb (h3 j hj)⟩
theorem pick_at {sizes : List Int} {k n m : Nat} (h : k < sizes.length) (h1 : 0 < sizes[k]'h) (h2 : sizes[k]'h < (n : Int)) (hm : sizes[k]'h = (m : Int)) : pickN (sizes.drop k) n = m := by
  rw [List.drop_eq_getElem_cons h]
  unfold pickN
  simp only
  rw [if_pos ⟨h1, h2⟩, hm, Int.toNat_natCast]
theorem pick_all {sizes : List Int} {k n : Nat} (h : ∀ i : k < sizes.length, ¬ (0 < sizes[k]'i ∧ sizes[k]'i < (n : Int))) : pickN (sizes.drop k) n = n := by
  by_cases hk : k < sizes.length
  · rw [List.drop_eq_getElem_cons hk]
    unfold pickN
    simp only
    rw [if_neg (h hk)]
  · rw [List.drop_eq_nil_of_le (by omega)]
    rfl
theorem hex_small {n : Nat} (h : n ≤ 1000) : (hexT n).length ≤ 3 := by unfold hexT; split <;> (try split) <;> simp
/-- One round's text. -/
theorem round_text {sizes : List Int} {k m : Nat} {b O X Y B2 O2 : ByteArray} (hb : 0 < b.size) (hm : pickN (sizes.drop k) b.size = m) (hX : X = ⟨(hexT m).toArray⟩) (hY : Y = b.extract 0 m) (hB : B2 = b.extract m b.size)
    (hO : O2 = (((O ++ X) ++ ⟨#[13, 10]⟩) ++ Y) ++ ⟨#[13, 10]⟩) : O2.data.toList ++ chunkT (sizes.drop (k + 1)) B2.data.toList = O.data.toList ++ chunkT (sizes.drop k) b.data.toList := by
  have hne : b.data.toList ≠ [] := by
    intro h
    have := size_data b
    rw [h] at this
    simp at this
    omega
  rw [chunk_cons (sizes.drop k) hne, size_data, hm, hO, hX, hY, hB]
  simp only [ByteArray.data_append, Array.toList_append, Lib.extract_data, List.append_assoc, List.tail_drop]
  simp
  rw [List.take_of_length_le (l := b.data.toList.drop m)]
  rw [List.length_drop, size_data]
  exact Nat.le_refl _
set_option maxHeartbeats 6400000 in
set_option maxRecDepth 100000 in
theorem chunked_any (s : ByteArray) (sv : Value) (sizes : List Int) (hs : s.size ≤ 1000) (_hln : sizes.length ≤ 9223372036854775807) (w : World) (hB : Brj w) (hI : Ints sv sizes w) :
    Calls Tryz.prog 15 #[.string s, sv] w fun e w' => ∃ X : ByteArray, e = .returned (.string X) ∧ X.data.toList = chunkT sizes s.data.toList ∧ X.size ≤ 8005 ∧ Below w.heap.size w w' := by
  obtain ⟨so, sc, rfl, hcl⟩ := id hI
  obtain ⟨N, hN⟩ : ∃ N, N = sizes.length := ⟨_, rfl⟩
  rw [← hN]
  have HN := Lib.hid hN
  clear hN
  go_enter Tryz.func15, Tryz.ntmps15
  go_wp2_with fail
  go_loopw [0, 5, 6] (fun bv ov iv wr => ∃ (k : Nat) (b O : ByteArray), k + b.size ≤ s.size ∧ bv = .string b ∧ ov = .string O ∧ iv = .int .i64 k ∧ Hid (O.data.toList ++ chunkT (sizes.drop k) b.data.toList = chunkT sizes s.data.toList) ∧ O.size + 8 * b.size ≤ 8 * s.size ∧ Below w.heap.size w wr) (fun bv _ _ _ => (match bv with | .string b => b.size | _ => 0))
  case atStart => exact ⟨0, s, ⟨#[]⟩, by omega, rfl, rfl, rfl, Lib.hid (by simp), by show 0 + _ ≤ _; omega, Below.refl _ _⟩
  case round =>
    obtain ⟨k, b, O, hkb, rfl, rfl, rfl, HO, hOs, hb⟩ := hrel
    have hBr := hB.keep hb
    by_cases h0 : 0 < b.size
    · have z0 : (0 : Int) < (b.size : Int) := by omega
      obtain ⟨m, hm⟩ : ∃ m, m = pickN (sizes.drop k) b.size := ⟨_, rfl⟩
      obtain ⟨hm1, hm2⟩ : 1 ≤ m ∧ m ≤ b.size := by rw [hm]; exact pick_le h0
      have hpk := hm.symm
      have HM := Lib.hid hm
      clear hm
      obtain ⟨F, hF⟩ : ∃ F : Bool, (F = true → ∃ h : k < sizes.length, 0 < sizes[k]'h ∧ sizes[k]'h < (b.size : Int)) ∧ (F = false → ∀ h : k < sizes.length, ¬ (0 < sizes[k]'h ∧ sizes[k]'h < (b.size : Int))) := by
        by_cases hk : k < sizes.length
        · by_cases hx : 0 < sizes[k]'hk ∧ sizes[k]'hk < (b.size : Int)
          · exact ⟨true, fun _ => ⟨hk, hx⟩, fun h => by cases h⟩
          · exact ⟨false, fun h => by (cases h), fun _ _ => hx⟩
        · exact ⟨false, fun h => by (cases h), fun _ h => absurd h hk⟩
      have HF0 := Lib.hid hF
      clear hF hpk
      go_upto_region 6 with (fail)
      go_cut [33] from 8 to 50 (fun c wx => c = .bool F ∧ wr = wx)
      case first =>
        by_cases hk : k < N
        · have y1 : (k : Int) < (N : Int) := by omega
          have hk' : k < sizes.length := by rw [← HN.out]; exact hk
          obtain ⟨so', sc', e', hcl'⟩ := hI.keep hb
          injection e' with e1 e2 e3
          subst e1 e3
          obtain ⟨g, off, rfl, hcc⟩ := hcl'.resolve_left (by intro h; rw [h] at hk'; exact absurd hk' (Nat.not_lt_zero _))
          have hc := hcc k hk'
          clear hcl hcl' hcc e2
          obtain ⟨x, hx⟩ : ∃ x, x = sizes[k]'hk' := ⟨_, rfl⟩
          rw [← hx] at hc
          have HX := Lib.hid hx
          clear hx
          by_cases hp : 0 < x
          · by_cases hq : x < (b.size : Int)
            · have hF : F = true := by
                cases hf : F with
                | true => rfl
                | false => exact absurd ⟨by rw [← HX.out]; exact hp, by rw [← HX.out]; exact hq⟩ (HF0.out.2 hf hk')
              have HF1 := Lib.hid hF
              clear hF
              go_wp2_with fail
              go_meet
              case rel => exact ⟨vbool HF1.out.symm, rfl⟩
            · have hF : F = false := by
                cases hf : F with
                | false => rfl
                | true => obtain ⟨_, _, h⟩ := HF0.out.1 hf; rw [← HX.out] at h; exact absurd h hq
              have HF1 := Lib.hid hF
              clear hF
              go_wp2_with fail
              go_meet
              case rel => exact ⟨vbool HF1.out.symm, rfl⟩
          · have hF : F = false := by
              cases hf : F with
              | false => rfl
              | true => obtain ⟨_, h, _⟩ := HF0.out.1 hf; rw [← HX.out] at h; exact absurd h hp
            have HF1 := Lib.hid hF
            clear hF
            go_wp2_with fail
            go_meet
            case rel => exact ⟨vbool HF1.out.symm, rfl⟩
        · have y1 : ¬ (k : Int) < (N : Int) := by omega
          have hF : F = false := by
            cases hf : F with
            | false => rfl
            | true => obtain ⟨h, _, _⟩ := HF0.out.1 hf; rw [← HN.out] at h; exact absurd h hk
          have HF1 := Lib.hid hF
          clear hF
          go_wp2_with fail
          go_meet
          case rel => exact ⟨vbool HF1.out.symm, rfl⟩
      case rest =>
      obtain ⟨rfl, rfl⟩ := hcut
      go_upto_if 33 with (fail)
      go_cut [7] from 8 to 50 (fun nv w2 => nv = .int .i64 (m : Int) ∧ wr = w2)
      case first =>
        cases F with
        | true =>
          obtain ⟨hk', hp, hq⟩ := HF0.out.1 rfl
          have y1 : (k : Int) < (N : Int) := by have := HN.out; omega
          obtain ⟨so', sc', e', hcl'⟩ := hI.keep hb
          injection e' with e1 e2 e3
          subst e1 e3
          obtain ⟨g, off, rfl, hcc⟩ := hcl'.resolve_left (by intro h; rw [h] at hk'; exact absurd hk' (Nat.not_lt_zero _))
          have hc := hcc k hk'
          clear hcl hcl' hcc e2
          have hm : sizes[k]'hk' = (m : Int) := by rw [HM.out, pick_at hk' hp hq (m := (sizes[k]'hk').toNat) (by omega)]; omega
          rw [hm] at hc
          clear hp hq hm
          go_wp2_with fail
          go_meet
          case rel => exact ⟨rfl, rfl⟩
        | false =>
          have hm : b.size = m := by rw [HM.out, pick_all (HF0.out.2 rfl)]
          have HM2 := Lib.hid hm
          clear hm
          go_wp2_with fail
          go_meet
          case rel => exact ⟨vint (by rw [HM2.out]), rfl⟩
      case rest =>
        obtain ⟨rfl, rfl⟩ := hcut
        have hpk := HM.out.symm
        obtain ⟨X, hX⟩ : ∃ X : ByteArray, X = ⟨(hexT m).toArray⟩ := ⟨_, rfl⟩
        have hXs : X.size ≤ 3 := by rw [hX, size_mk]; exact hex_small (by omega)
        obtain ⟨Y, hY⟩ : ∃ Y : ByteArray, Y = b.extract 0 m := ⟨_, rfl⟩
        obtain ⟨B2, hB2⟩ : ∃ Y : ByteArray, Y = b.extract m b.size := ⟨_, rfl⟩
        have hYs : Y.size = m := by rw [hY, ByteArray.size_extract]; omega
        have hB2s : B2.size = b.size - m := by rw [hB2, ByteArray.size_extract]; omega
        obtain ⟨T1, hT1⟩ : ∃ T : ByteArray, T = O ++ X := ⟨_, rfl⟩
        obtain ⟨T2, hT2⟩ : ∃ T : ByteArray, T = T1 ++ ⟨#[13, 10]⟩ := ⟨_, rfl⟩
        obtain ⟨T3, hT3⟩ : ∃ T : ByteArray, T = T2 ++ Y := ⟨_, rfl⟩
        obtain ⟨T4, hT4⟩ : ∃ T : ByteArray, T = T3 ++ ⟨#[13, 10]⟩ := ⟨_, rfl⟩
        have sc2 : (⟨#[13, 10]⟩ : ByteArray).size = 2 := rfl
        have s1 : T1.size = O.size + X.size := by rw [hT1, ByteArray.size_append]
        have s2 : T2.size = T1.size + 2 := by rw [hT2, ByteArray.size_append, sc2]
        have s3 : T3.size = T2.size + Y.size := by rw [hT3, ByteArray.size_append]
        have s4 : T4.size = T3.size + 2 := by rw [hT4, ByteArray.size_append, sc2]
        have p1 : ∀ W, (Op.stringOp .add O X).run Tryz.prog W = .ok (.string T1) W := fun W => by rw [hT1]; exact run_string_add_sum W _ _ (by omega)
        have p2 : ∀ W, (Op.stringOp .add T1 ⟨#[13, 10]⟩).run Tryz.prog W = .ok (.string T2) W := fun W => by rw [hT2]; exact run_string_add_sum W _ _ (by omega)
        have p3 : ∀ W, (Op.stringOp .add T2 (b.extract 0 m)).run Tryz.prog W = .ok (.string T3) W := fun W => by rw [← hY, hT3]; exact run_string_add_sum W _ _ (by omega)
        have p4 : ∀ W, (Op.stringOp .add T3 ⟨#[13, 10]⟩).run Tryz.prog W = .ok (.string T4) W := fun W => by rw [hT4]; exact run_string_add_sum W _ _ (by omega)
        have HR : Hid (T4.data.toList ++ chunkT (sizes.drop (k + 1)) B2.data.toList = chunkT sizes s.data.toList) := Lib.hid (by rw [← HO.out]; exact round_text h0 hpk hX hY hB2 (by rw [hT4, hT3, hT2, hT1]))
        have HF := Lib.hid (fun W hW => format_any m (by omega) X hX W hW)
        have m1 : (m : Int) ≤ (b.size : Int) := by omega
        have m0 : (0 : Int) ≤ (m : Int) := by omega
        have hBd : Brj wr.drew := hBr.keep (below_drewN wr 1)
        have hE := hBr
        unfold Brj at hE
        have hTs : T4.size ≤ O.size + m + 7 := by omega
        have HB2 := Lib.hid hB2
        clear hX hY hT1 hT2 hT3 hT4 hpk s1 s2 s3 s4 hB2 hYs
        go_wp2_with fail
        go_region_held3 (fun w' => w'.cell? ⟨7, 15, none⟩ = some (.int .u8 4))
          (first | go_keep | exact keep_cell (by assumption) (by assumption))
          (first
            | (go_at_call 29; refine (HF.out _ hBd).mono ?_; rintro e w1 ⟨rfl, hb1⟩)
            | skip)
        go_wp2_with (rw [← HB2.out])
        go_roundw
        case rel => exact ⟨k + 1, B2, T4, by omega, rfl, rfl, by go_num, HR, by omega, hb.trans ((below_then (below_drewN wr 1) hb1).mono hb.size)⟩
        case measure => show B2.size < b.size; omega
    · have z0 : ¬ (0 : Int) < (b.size : Int) := by omega
      have hbe : b.data.toList = [] := List.eq_nil_of_length_eq_zero (by rw [size_data]; omega)
      obtain ⟨T, hT⟩ : ∃ T : ByteArray, T = O ++ ⟨#[48, 13, 10, 13, 10]⟩ := ⟨_, rfl⟩
      have s5 : (⟨#[48, 13, 10, 13, 10]⟩ : ByteArray).size = 5 := rfl
      have p1 : ∀ W, (Op.stringOp .add O ⟨#[48, 13, 10, 13, 10]⟩).run Tryz.prog W = .ok (.string T) W := fun W => by rw [hT]; exact run_string_add_sum W _ _ (by omega)
      have hTs : T.size ≤ 8005 := by rw [hT, ByteArray.size_append, s5]; omega
      have HT : Hid (T.data.toList = chunkT sizes s.data.toList) := Lib.hid (by rw [← HO.out, hbe, chunk_nil, hT, ByteArray.data_append, Array.toList_append])
      clear hT hbe
      go_wp2_with fail
      go_ret
      exact ⟨T, rfl, HT.out, hTs, hb⟩
end Go.Proofs.YtcgeiimihihhpaaGreatDoor.W18

namespace Go.Proofs.YtcgeiimihihhpaaGreatDoor.W18
open Go Go.RowKit P12 P18

abbrev headB : ByteArray := ⟨#[80, 79, 83, 84, 32, 47, 99, 32, 72, 84, 84, 80, 47, 49, 46, 49, 13, 10, 72, 111, 115, 116, 58, 32, 104, 13, 10]⟩
abbrev clB : ByteArray := ⟨#[67, 111, 110, 116, 101, 110, 116, 45, 76, 101, 110, 103, 116, 104, 58, 32]⟩
abbrev teB : ByteArray := ⟨#[84, 114, 97, 110, 115, 102, 101, 114, 45, 69, 110, 99, 111, 100, 105, 110, 103, 58, 32, 99, 104, 117, 110, 107, 101, 100, 13, 10, 13, 10]⟩
theorem parseL_ok {s : By} {a : Rq} {r : By} (h : parseR s = .ok a r) : parseL s = (a, s.length - r.length, 200) := by unfold parseL; rw [h]
/-- What is told of a body by its length, with anything behind it. -/
theorem one_parse {b D T : ByteArray} (hb : b.size ≤ 1000) (hD : D = ⟨(Lib.itoa (b.size : Int)).toArray⟩) (hT : T = (((headB ++ clB) ++ D) ++ ⟨#[13, 10, 13, 10]⟩) ++ b) (t P : ByteArray) (hP : P = T ++ t) :
    parseL P.data.toList = (⟨postM, [47, 99], [], [hostH, ⟨clN, Lib.itoa (b.size : Int)⟩], b.data.toList, false⟩, T.size, 200) := by
  have e : P.data.toList = lineP ++ 13 :: 10 :: (lineH ++ 13 :: 10 :: ((lineC ++ Lib.itoa (b.data.toList.length : Int)) ++ 13 :: 10 :: (13 :: 10 :: (b.data.toList ++ t.data.toList)))) := by
    rw [hP, hT, hD]
    simp only [ByteArray.data_append, Array.toList_append, size_data, List.append_assoc]
    rfl
  have h := one_law (body := b.data.toList) (by rw [size_data]; exact hb) t.data.toList
  rw [← e, size_data] at h
  rw [parseL_ok h, hP, ByteArray.data_append, Array.toList_append, List.length_append, size_data, size_data, Nat.add_sub_cancel]
theorem two_parse {b C T : ByteArray} (hb : b.size ≤ 1000) (sizes : List Int) (hC : C.data.toList = chunkT sizes b.data.toList) (hT : T = (headB ++ teB) ++ C) (t P : ByteArray) (hP : P = T ++ t) :
    parseL P.data.toList = (⟨postM, [47, 99], [], [hostH, ⟨teN, chunkedV⟩], b.data.toList, false⟩, T.size, 200) := by
  have e : P.data.toList = lineP ++ 13 :: 10 :: (lineH ++ 13 :: 10 :: (lineT ++ 13 :: 10 :: (13 :: 10 :: (chunkT sizes b.data.toList ++ t.data.toList)))) := by
    rw [hP, hT]
    simp only [ByteArray.data_append, Array.toList_append, hC, List.append_assoc]
    rfl
  have h := two_law (body := b.data.toList) (by rw [size_data]; exact hb) sizes t.data.toList
  rw [← e] at h
  rw [parseL_ok h, hP, ByteArray.data_append, Array.toList_append, List.length_append, size_data, size_data, Nat.add_sub_cancel]
set_option maxHeartbeats 12000000 in
set_option maxRecDepth 100000 in
theorem bodies_walk (s : ByteArray) (sv : Value) (sizes : List Int) (t : ByteArray) (hs : s.size ≤ 140737488355328) (ht : t.size ≤ 140737488355328) (hln : sizes.length ≤ 9223372036854775807) (w : World) (hL : MaxL w) (hT : Tab w) (hB : Brj w) (hI : Ints sv sizes w) :
    Calls Tryz.prog 7 #[.string s, sv, .string t] w fun e w' => e = .returned (.bool true) ∧ Below w.heap.size w w' := by
  have H0 := Lib.hid (awake_any w hL)
  obtain ⟨b, hbd, hcut⟩ : ∃ b : ByteArray, b.size ≤ 1000 ∧ (if s.size ≤ 1000 then b = s else s.extract 0 1000 = b) := by
    by_cases h : s.size ≤ 1000
    · exact ⟨s, h, by rw [if_pos h]⟩
    · exact ⟨s.extract 0 1000, by rw [ByteArray.size_extract]; omega, by rw [if_neg h]⟩
  obtain ⟨D, hD, hDs⟩ := itoa_name (b.size : Int) (by omega) (by omega)
  have HD := Lib.hid (fun W hW => Itoa_str (b.size : Int) (by omega) (by omega) D hD W hW)
  obtain ⟨T1, hT1⟩ : ∃ T : ByteArray, T = headB ++ clB := ⟨_, rfl⟩
  obtain ⟨T2, hT2⟩ : ∃ T : ByteArray, T = T1 ++ D := ⟨_, rfl⟩
  obtain ⟨T3, hT3⟩ : ∃ T : ByteArray, T = T2 ++ ⟨#[13, 10, 13, 10]⟩ := ⟨_, rfl⟩
  obtain ⟨T4, hT4⟩ : ∃ T : ByteArray, T = T3 ++ b := ⟨_, rfl⟩
  obtain ⟨T5, hT5⟩ : ∃ T : ByteArray, T = T4 ++ t := ⟨_, rfl⟩
  obtain ⟨U1, hU1⟩ : ∃ T : ByteArray, T = headB ++ teB := ⟨_, rfl⟩
  have s1 : T1.size = 43 := by rw [hT1, ByteArray.size_append]; rfl
  have s2 : T2.size = 43 + D.size := by rw [hT2, ByteArray.size_append, s1]
  have s3 : T3.size = 47 + D.size := by rw [hT3, ByteArray.size_append, s2, show (⟨#[13, 10, 13, 10]⟩ : ByteArray).size = 4 from rfl]; omega
  have s4 : T4.size = 47 + D.size + b.size := by rw [hT4, ByteArray.size_append, s3]
  have s5 : T5.size = T4.size + t.size := by rw [hT5, ByteArray.size_append]
  have u1 : U1.size = 57 := by rw [hU1, ByteArray.size_append]; rfl
  have p1 : ∀ W, (Op.stringOp .add headB clB).run Tryz.prog W = .ok (.string T1) W := fun W => by rw [hT1]; exact run_string_add_sum W _ _ (by rw [show headB.size = 27 from rfl, show clB.size = 16 from rfl]; omega)
  have p2 : ∀ W, (Op.stringOp .add T1 D).run Tryz.prog W = .ok (.string T2) W := fun W => by rw [hT2]; exact run_string_add_sum W _ _ (by omega)
  have p3 : ∀ W, (Op.stringOp .add T2 ⟨#[13, 10, 13, 10]⟩).run Tryz.prog W = .ok (.string T3) W := fun W => by rw [hT3]; exact run_string_add_sum W _ _ (by rw [show (⟨#[13, 10, 13, 10]⟩ : ByteArray).size = 4 from rfl]; omega)
  have p4 : ∀ W, (Op.stringOp .add T3 b).run Tryz.prog W = .ok (.string T4) W := fun W => by rw [hT4]; exact run_string_add_sum W _ _ (by omega)
  have p5 : ∀ W, (Op.stringOp .add T4 t).run Tryz.prog W = .ok (.string T5) W := fun W => by rw [hT5]; exact run_string_add_sum W _ _ (by omega)
  have q1 : ∀ W, (Op.stringOp .add headB teB).run Tryz.prog W = .ok (.string U1) W := fun W => by rw [hU1]; exact run_string_add_sum W _ _ (by rw [show headB.size = 27 from rfl, show teB.size = 30 from rfl]; omega)
  have hp1 := one_parse hbd hD (by rw [hT4, hT3, hT2, hT1]) t T5 hT5
  have H1 := Lib.hid (fun W hW => Parse_g T5 (by omega) _ _ _ hp1 W hW)
  have HC := Lib.hid (fun W hW hi => chunked_any b sv sizes hbd hln W hW hi)
  have HU1 := Lib.hid hU1
  have HT := Lib.hid hT
  have HI := Lib.hid hI
  have bb0 : (0 : Int) ≤ (b.size : Int) := by omega
  have bb1 : (b.size : Int) ≤ 1000 := by omega
  clear hD hT1 hT2 hT3 hT4 hT5 hU1 hp1 hI hT s1 s2 s3 u1
  by_cases hlt : s.size ≤ 1000
  · rw [if_pos hlt] at hcut
    obtain rfl := hcut
    have x0 : ¬ (b.size : Int) > 1000 := by omega
    go_enter Tryz.func7, Tryz.ntmps7
    go_wp2_with (go_at_call 8; (refine (H0.out).mono ?_); rintro e w0 ⟨rfl, hb0⟩; refine Hid.out ?_)
    refine Lib.hid ?_
    go_wp2_with (first
      | fail
      | (go_at_call 14; (refine (HD.out _ (HT.out.keep hb0)).mono ?_); rintro e w1 ⟨rfl, hb1⟩; refine Hid.out ?_))
    refine Lib.hid ?_
    have bA := below_then hb0 hb1
    have hBA := hB.keep bA
    have hIA := HI.out.keep bA
    go_wp2_with (go_at_call 15; (refine (HC.out _ hBA hIA).mono ?_); rintro e w2 ⟨C, rfl, hC, hCs, hb2⟩; refine Hid.out ?_)
    refine Lib.hid ?_
    have bB := below_then bA hb2
    obtain ⟨U2, hU2⟩ : ∃ T : ByteArray, T = U1 ++ C := ⟨_, rfl⟩
    obtain ⟨U3, hU3⟩ : ∃ T : ByteArray, T = U2 ++ t := ⟨_, rfl⟩
    have v1 : U1.size = 57 := by rw [HU1.out, ByteArray.size_append]; rfl
    have v2 : U2.size = 57 + C.size := by rw [hU2, ByteArray.size_append, v1]
    have v3 : U3.size = U2.size + t.size := by rw [hU3, ByteArray.size_append]
    have q2 : ∀ W, (Op.stringOp .add U1 C).run Tryz.prog W = .ok (.string U2) W := fun W => by rw [hU2]; exact run_string_add_sum W _ _ (by omega)
    have q3 : ∀ W, (Op.stringOp .add U2 t).run Tryz.prog W = .ok (.string U3) W := fun W => by rw [hU3]; exact run_string_add_sum W _ _ (by omega)
    have hp2 := two_parse hbd sizes hC (by rw [hU2, HU1.out]) t U3 hU3
    have H2 := Lib.hid (fun W hW => Parse_g U3 (by omega) _ _ _ hp2 W hW)
    have hLB := hL.keep bB
    clear hp2 hC hU2 hU3 v1 v2 v3
    go_wp2_with (go_at_call 9; (with_reducible refine (H1.out _ hLB).mono ?_); rintro e w3 ⟨o1, cp1, rfl, ho1, hb3⟩; refine Hid.out ?_)
    refine Lib.hid ?_
    have x1 := new_at w3 (rqC ⟨postM, [47, 99], [], [hostH, ⟨clN, Lib.itoa (b.size : Int)⟩], b.data.toList, false⟩ (.slice o1 2 cp1)) 25
    have bC := below_then (below_then bB hb3) (below_alloc w3 (.cells (rqC ⟨postM, [47, 99], [], [hostH, ⟨clN, Lib.itoa (b.size : Int)⟩], b.data.toList, false⟩ (.slice o1 2 cp1)) 25))
    have hLC := (hLB.keep hb3).keep (below_alloc w3 (.cells (rqC ⟨postM, [47, 99], [], [hostH, ⟨clN, Lib.itoa (b.size : Int)⟩], b.data.toList, false⟩ (.slice o1 2 cp1)) 25))
    go_wp2_with (go_at_call 9; (with_reducible refine (H2.out _ hLC).mono ?_); rintro e w4 ⟨o2, cp2, rfl, ho2, hb4⟩; refine Hid.out ?_)
    refine Lib.hid ?_
    have x1 := keep_at (keep_at x1 hb4) (below_alloc w4 (.cells (rqC ⟨postM, [47, 99], [], [hostH, ⟨teN, chunkedV⟩], b.data.toList, false⟩ (.slice o2 2 cp2)) 25))
    have x2 := new_at w4 (rqC ⟨postM, [47, 99], [], [hostH, ⟨teN, chunkedV⟩], b.data.toList, false⟩ (.slice o2 2 cp2)) 25
    have bD := below_then (below_then bC hb4) (below_alloc w4 (.cells (rqC ⟨postM, [47, 99], [], [hostH, ⟨teN, chunkedV⟩], b.data.toList, false⟩ (.slice o2 2 cp2)) 25))
    obtain ⟨-, -, -, -, y4, -⟩ := cells6 x1
    obtain ⟨-, -, -, -, v4, -⟩ := cells6 x2
    rw [bs_data] at y4 v4
    clear x1 x2 ho1 ho2 H1 H2 HC HD HI HT
    go_wp2_with fail
    go_ret
    exact ⟨rfl, bD⟩
  · rw [if_neg hlt] at hcut
    have HK := Lib.hid hcut
    have x0 : (s.size : Int) > 1000 := by omega
    have x1 : (1000 : Int) ≤ (s.size : Int) := by omega
    clear hcut
    go_enter Tryz.func7, Tryz.ntmps7
    go_wp2_with (go_at_call 8; (refine (H0.out).mono ?_); rintro e w0 ⟨rfl, hb0⟩; refine Hid.out ?_)
    refine Lib.hid ?_
    go_wp2_with (first
      | (rw [HK.out])
      | (go_at_call 14; (refine (HD.out _ (HT.out.keep hb0)).mono ?_); rintro e w1 ⟨rfl, hb1⟩; refine Hid.out ?_))
    refine Lib.hid ?_
    have bA := below_then hb0 hb1
    have hBA := hB.keep bA
    have hIA := HI.out.keep bA
    go_wp2_with (go_at_call 15; (refine (HC.out _ hBA hIA).mono ?_); rintro e w2 ⟨C, rfl, hC, hCs, hb2⟩; refine Hid.out ?_)
    refine Lib.hid ?_
    have bB := below_then bA hb2
    obtain ⟨U2, hU2⟩ : ∃ T : ByteArray, T = U1 ++ C := ⟨_, rfl⟩
    obtain ⟨U3, hU3⟩ : ∃ T : ByteArray, T = U2 ++ t := ⟨_, rfl⟩
    have v1 : U1.size = 57 := by rw [HU1.out, ByteArray.size_append]; rfl
    have v2 : U2.size = 57 + C.size := by rw [hU2, ByteArray.size_append, v1]
    have v3 : U3.size = U2.size + t.size := by rw [hU3, ByteArray.size_append]
    have q2 : ∀ W, (Op.stringOp .add U1 C).run Tryz.prog W = .ok (.string U2) W := fun W => by rw [hU2]; exact run_string_add_sum W _ _ (by omega)
    have q3 : ∀ W, (Op.stringOp .add U2 t).run Tryz.prog W = .ok (.string U3) W := fun W => by rw [hU3]; exact run_string_add_sum W _ _ (by omega)
    have hp2 := two_parse hbd sizes hC (by rw [hU2, HU1.out]) t U3 hU3
    have H2 := Lib.hid (fun W hW => Parse_g U3 (by omega) _ _ _ hp2 W hW)
    have hLB := hL.keep bB
    clear hp2 hC hU2 hU3 v1 v2 v3
    go_wp2_with (go_at_call 9; (with_reducible refine (H1.out _ hLB).mono ?_); rintro e w3 ⟨o1, cp1, rfl, ho1, hb3⟩; refine Hid.out ?_)
    refine Lib.hid ?_
    have x1 := new_at w3 (rqC ⟨postM, [47, 99], [], [hostH, ⟨clN, Lib.itoa (b.size : Int)⟩], b.data.toList, false⟩ (.slice o1 2 cp1)) 25
    have bC := below_then (below_then bB hb3) (below_alloc w3 (.cells (rqC ⟨postM, [47, 99], [], [hostH, ⟨clN, Lib.itoa (b.size : Int)⟩], b.data.toList, false⟩ (.slice o1 2 cp1)) 25))
    have hLC := (hLB.keep hb3).keep (below_alloc w3 (.cells (rqC ⟨postM, [47, 99], [], [hostH, ⟨clN, Lib.itoa (b.size : Int)⟩], b.data.toList, false⟩ (.slice o1 2 cp1)) 25))
    go_wp2_with (go_at_call 9; (with_reducible refine (H2.out _ hLC).mono ?_); rintro e w4 ⟨o2, cp2, rfl, ho2, hb4⟩; refine Hid.out ?_)
    refine Lib.hid ?_
    have x1 := keep_at (keep_at x1 hb4) (below_alloc w4 (.cells (rqC ⟨postM, [47, 99], [], [hostH, ⟨teN, chunkedV⟩], b.data.toList, false⟩ (.slice o2 2 cp2)) 25))
    have x2 := new_at w4 (rqC ⟨postM, [47, 99], [], [hostH, ⟨teN, chunkedV⟩], b.data.toList, false⟩ (.slice o2 2 cp2)) 25
    have bD := below_then (below_then bC hb4) (below_alloc w4 (.cells (rqC ⟨postM, [47, 99], [], [hostH, ⟨teN, chunkedV⟩], b.data.toList, false⟩ (.slice o2 2 cp2)) 25))
    obtain ⟨-, -, -, -, y4, -⟩ := cells6 x1
    obtain ⟨-, -, -, -, v4, -⟩ := cells6 x2
    rw [bs_data] at y4 v4
    clear x1 x2 ho1 ho2 H1 H2 HC HD HI HT
    go_wp2_with fail
    go_ret
    exact ⟨rfl, bD⟩
end Go.Proofs.YtcgeiimihihhpaaGreatDoor.W18
