/-
  Small words that the walks share: what is returned, spelled; a world that has only grown. No program is in sight here. Conditions: none.
  strings.Builder in this translation (whose copyCheck ends where a written builder's value has moved): copyCheck, WriteByte, WriteString, Write, String. Conditions: the builder lies in a block of its own; the new length is within Go's own limit.
  Strings in order: what the program's comparison says of the lists of their bytes. Conditions: none.
  Walks of layer 12: plain, Name, and the reference's own. Conditions: none.
  Walks of layer 12: Name and the reference's Name. Conditions: none.
-/
import Derived.WalkKit
import Derived.WalkSpells
import Derived.WalkLawsBesides
import Derived.Lib.Hide
import Derived.OwnWalk
import Derived.Outline
import Derived.Lib.Strings
import Derived.Deep.QuietTactic
import Derived.BigQuiet
import Derived.Test.YtfkmgnldkmpeiaaGreatDoorChecked
import Derived.Test.YtfkmgnldkmpeiaaGreatDoorGad
import Derived.Shelf.Strings.BuilderK
import Derived.Test.YtfkmgnldkmpeiaaGreatDoorGab
import Derived.Shelf.GgClosure.StringsIndexFuncTop

namespace Go.Proofs.YtfkmgnldkmpeiaaGreatDoor
open Go Go.RowKit

abbrev bs (l : List UInt8) : Value := .string ⟨l.toArray⟩
theorem bs_data (s : ByteArray) : bs s.data.toList = .string s := congrArg Value.string (Lib.mk_data s)
theorem size_mk (l : List UInt8) : (⟨l.toArray⟩ : ByteArray).size = l.length := by simp [ByteArray.size]
theorem size_data (s : ByteArray) : s.data.toList.length = s.size := by simp
theorem ba_ext {a b : ByteArray} (h : a.data.toList = b.data.toList) : a = b := by rw [← Lib.mk_data a, ← Lib.mk_data b, h]
theorem vba {a b : ByteArray} (h : a.data.toList = b.data.toList) : Value.string a = Value.string b := congrArg Value.string (ba_ext h)
theorem vint {k : IntKind} {a b : Int} (h : a = b) : Value.int k a = Value.int k b := by rw [h]
theorem vbool {a b : Bool} (h : a = b) : Value.bool a = Value.bool b := by rw [h]
theorem vstr {a b : List UInt8} (h : a = b) : Value.string ⟨a.toArray⟩ = Value.string ⟨b.toArray⟩ := by rw [h]
theorem ret1 {a b : Value} (h : a = b) : Ending.returned a = Ending.returned b := by rw [h]
theorem ret2 {a b c d : Value} (h1 : a = c) (h2 : b = d) : Ending.returned (.tuple #[a, b]) = Ending.returned (.tuple #[c, d]) := by rw [h1, h2]
theorem ret3 {a b c d e f : Value} (h1 : a = d) (h2 : b = e) (h3 : c = f) : Ending.returned (.tuple #[a, b, c]) = Ending.returned (.tuple #[d, e, f]) := by rw [h1, h2, h3]

/-- What was there is as it was: cells, marks, the number of blocks. -/
theorem bcell {W w1 : World} (hb : Below W.heap.size W w1) : (∀ b o, b < W.heap.size → w1.cell? ⟨b, o, none⟩ = W.cell? ⟨b, o, none⟩) ∧ (∀ b o, b < W.heap.size → w1.frozen? ⟨b, o, none⟩ = W.frozen? ⟨b, o, none⟩) :=
  ⟨fun b o h => hb.cell (p := ⟨b, o, none⟩) h, fun b o h => hb.frozen (p := ⟨b, o, none⟩) h⟩
theorem below_drewN (w : World) (n : Nat) : Below w.heap.size w (w.drewN n) := ⟨rfl, rfl, rfl, Nat.le_refl _, fun _ _ => rfl⟩
theorem below_alloc (w : World) (o : Obj) : Below w.heap.size w (w.alloc o) := (Below.refl _ _).alloc (Nat.le_refl _) _
theorem below_then {a b c : World} (h : Below a.heap.size a b) (k : Below b.heap.size b c) : Below a.heap.size a c := h.trans (k.mono h.size)
end Go.Proofs.YtfkmgnldkmpeiaaGreatDoor

namespace Go.Proofs.YtfkmgnldkmpeiaaGreatDoor
open Go Go.RowKit

/-- A builder in block b that holds the bytes l. -/
abbrev Bld (B b : Nat) (l : List UInt8) (w : World) : Prop := Lib.IsBuilderF 81 5 B b (Lib.byteCells l) w
/-- What a call on the builder leaves as it was: all below B; every block but the builder's and the rows of bytes. -/
abbrev Kpt (B b : Nat) (w w' : World) : Prop := Below B w w' ∧ Lib.OthersKept 5 (some b) w w'

theorem sizeB : (Tryz.prog.info? 81).map (·.size) = some 2 := by kernel_rfl
theorem liesB : liesAt Tryz.prog Tryz.prog.depth 81 (2 / Tryz.prog.cellsOf 81) 0 81 1 = true := by kernel_rfl
theorem infoByte : (Tryz.prog.info? 5).map (fun i => (i.zero, i.size, i.bytes)) = some (some (.int .u8 0), 1, 1) := by kernel_rfl

set_option maxHeartbeats 1000000 in
set_option maxRecDepth 100000 in
theorem copyCheck_used (b : Nat) (w : World) (h0 : w.cell? ⟨b, 0, none⟩ = some (.pointer (some ⟨b, 0, none⟩))) :
    Calls Tryz.prog 75 #[.pointer (some ⟨b, 0, none⟩)] w fun e w' => e = .returned (.tuple #[]) ∧ w' = w := by
  obtain ⟨j, hj, _⟩ := Option.map_eq_some_iff.1 sizeB
  go_enter Tryz.func75, Tryz.ntmps75
  go_wp2
  rw [Lib.run_neq_ptr_same w _ Tryz.underlying78 hj]
  go_wp2
  go_end0
  exact ⟨rfl, rfl⟩

set_option maxHeartbeats 1000000 in
set_option maxRecDepth 100000 in
theorem copyCheck_fresh (b : Nat) (w : World) (h0 : w.cell? ⟨b, 0, none⟩ = some (.pointer none)) (hsh : w.shape? b = some (81, 2)) (hfz : w.frozen? ⟨b, 0, none⟩ = false) :
    Calls Tryz.prog 75 #[.pointer (some ⟨b, 0, none⟩)] w fun e w' => e = .returned (.tuple #[]) ∧ w' = w.setCell ⟨b, 0, none⟩ (.pointer (some ⟨b, 0, none⟩)) := by
  obtain ⟨j, hj, hjs⟩ := Option.map_eq_some_iff.1 sizeB
  go_enter Tryz.func75, Tryz.ntmps75
  go_wp2
  rw [Lib.run_to_unsafe w ⟨b, 0, none⟩ Tryz.underlying78 Tryz.underlying146 hj (by rw [hjs]; decide) hsh (Nat.zero_lt_succ 1)]
  simp only [Result.andThen]
  rw [Oper.upon_value]
  go_wp2
  rw [run_callFunc_extern Tryz.func102 (by kernel_rfl) (by kernel_rfl) (by kernel_rfl) (e := Extern.AbiNoEscape.same) (by kernel_rfl)]
  rw [Lib.run_noEscape]
  simp only [Result.andThen]
  rw [Oper.upon_value]
  go_wp2
  rw [Lib.run_from_unsafe w ⟨b, 0, none⟩ Tryz.underlying146 Tryz.underlying78 hj hsh liesB]
  simp only [Result.andThen]
  rw [Oper.upon_value]
  go_wp2
  go_end0
  exact ⟨rfl, rfl⟩

/-- copyCheck: behind it the builder is used. The world is as it was but for the builder's first cell. -/
theorem copyCheck_any (B b : Nat) (bs : List Value) (w : World) (h : Lib.IsBuilderF 81 5 B b bs w) :
    Calls Tryz.prog 75 #[.pointer (some ⟨b, 0, none⟩)] w fun e w' => e = .returned (.tuple #[]) ∧ Lib.BuilderAtF 81 5 B b (.pointer (some ⟨b, 0, none⟩)) bs w' ∧ Kpt B b w w' ∧ (w' = w ∨ w' = w.setCell ⟨b, 0, none⟩ (.pointer (some ⟨b, 0, none⟩))) := by
  rcases h with h | h
  · refine (copyCheck_fresh b w h.cell0 h.shape h.frozen0).mono ?_
    rintro e w' ⟨rfl, rfl⟩
    exact ⟨rfl, h.used _, ⟨(Below.refl B w).setCell (p := ⟨b, 0, none⟩) h.1 _, (Lib.OthersKept.refl _ _ w).setCell ⟨b, 0, none⟩ rfl _⟩, .inr rfl⟩
  · refine (copyCheck_used b w h.cell0).mono ?_
    rintro e w' ⟨rfl, rfl⟩
    exact ⟨rfl, h, ⟨Below.refl B _, Lib.OthersKept.refl _ _ _⟩, .inl rfl⟩
theorem BuilderAtF_heap {T e : TypeId} {B b : Nat} {p : Value} {bs : List Value} {w : World} (h : Lib.BuilderAtF T e B b p bs w) : B ≤ b ∧ b < w.heap.size ∧ ∃ v, w.heap[b]? = some (.cells #[p, v] T (0, 0)) ∧ w.ownsRowF B e 1 v bs.length bs ∧ v.ownBlock ≠ some b := by
  have hlt := h.lt
  obtain ⟨hB, v, hbk, hown, hne⟩ := h
  exact ⟨hB, hlt, v, hbk, hown, hne⟩

set_option maxHeartbeats 2000000 in
set_option maxRecDepth 100000 in
theorem WriteByte_any (B b : Nat) (l : List UInt8) (c : UInt8) (C : Int) (hC : C = c.toNat) (w : World) (h : Bld B b l w) (hlen : l.length + 1 ≤ 140737488355328) (hBw : B ≤ w.heap.size) :
    Calls Tryz.prog 36 #[.pointer (some ⟨b, 0, none⟩), .int .u8 C] w fun e w' => e = .returned .nilIface ∧ Bld B b (l ++ [c]) w' ∧ Kpt B b w w' := by
  have hcells : Lib.byteCells (l ++ [c]) = Lib.byteCells l ++ [.int .u8 C] := by rw [Lib.byteCells_append, hC]; rfl
  have hlen' : (Lib.byteCells l).length + 1 ≤ 140737488355328 := by rw [Lib.byteCells_length]; exact hlen
  have HC := Lib.hid hcells
  clear hcells hC
  unfold Bld at h
  generalize hbs : Lib.byteCells l = bs at *
  clear hlen
  obtain ⟨i0, hi, hz0, hz1, hz2⟩ := info_parts infoByte
  go_enter Tryz.func36, Tryz.ntmps36
  go_wp2_with (go_at_call 75; refine (copyCheck_any B b bs _ h).mono ?_)
  rintro e w1 ⟨rfl, h1, ⟨hb1, hk1⟩, -⟩
  obtain ⟨hB, hlt, v, hbk, hown, hne⟩ := BuilderAtF_heap h1
  have c0 : w1.cell? ⟨b, 0, none⟩ = some (.pointer (some ⟨b, 0, none⟩)) := by rw [Lib.cell_of_heap hbk]; rfl
  have c1 : w1.cell? ⟨b, 1, none⟩ = some v := by rw [Lib.cell_of_heap hbk]; rfl
  go_wp2_with (at_builtin; refine wpList_append_ownF _ rfl _ _ 79 rfl B 5 i0 (.int .u8 0) 1 1 Tryz.underlying79 hi hz0 hz1 hz2 rfl (by decide) _ _ _ rfl (hown.alloc _) ⟨w1.heap.size, 0, none⟩ 1 1 [.int .u8 C] rfl rfl ?c1 ?c2 ?c3 ?c4 ?c5 ?_)
  case c1 =>
    intro j u hj
    match j, hj with
    | 0, hj => simp at hj; subst hj; simp [Addr.add]
  case c2 => intro u hu; simp at hu; subst hu; rfl
  case c3 => unfold maxLen; omega
  case c4 => omega
  case c5 => have := hb1.size; simp; omega
  intro v' w2 hown' hgrow _
  have hb2 : w2.heap[b]? = some (.cells #[.pointer (some ⟨b, 0, none⟩), v] 81 (0, 0)) := by
    rw [hgrow.block b (by simp; omega) (fun e => hne e.symm), Lib.alloc_old w1 _ b hlt]
    exact hbk
  have d0 : w2.cell? ⟨b, 0, none⟩ = some (.pointer (some ⟨b, 0, none⟩)) := by rw [Lib.cell_of_heap hb2]; rfl
  have d1 : w2.cell? ⟨b, 1, none⟩ = some v := by rw [Lib.cell_of_heap hb2]; rfl
  have f1 : w2.frozen? ⟨b, 1, none⟩ = false := Lib.frozen_of_heap hb2 1
  obtain ⟨g, cap, rfl⟩ : ∃ g cap, v' = .slice (some ⟨g, 0, none⟩) (bs.length + 1) cap := by
    rcases hown'.2 with ⟨_, h0⟩ | ⟨g, cap, cur, fz, hv, _⟩
    · omega
    · exact ⟨g, cap, hv⟩
  go_wp2
  go_ret
  refine ⟨rfl, .inr ?_, ?_, ((hk1.alloc _).grown hgrow (Lib.ownsRowF_kind (hown.alloc _))).setCell ⟨b, 1, none⟩ rfl _⟩
  · rw [HC.out]
    exact Lib.BuilderAtF.put (T := 81) (e := 5) hB hb2 (bs' := bs ++ [.int .u8 C]) (by simpa using hown') (by decide)
  · exact ((hb1.alloc (by have := hb1.size; omega) _).grown hgrow (by have := hb1.size; simp; omega) (fun k hk => (hown.lt k hk).1)).setCell (p := ⟨b, 1, none⟩) hB _

set_option maxHeartbeats 2000000 in
set_option maxRecDepth 100000 in
theorem WriteString_any (B b : Nat) (l : List UInt8) (s : ByteArray) (w : World) (h : Bld B b l w) (hlen : l.length + s.size ≤ 140737488355328) (hBw : B ≤ w.heap.size) :
    Calls Tryz.prog 77 #[.pointer (some ⟨b, 0, none⟩), .string s] w fun e w' => e = .returned (.tuple #[.int .i64 s.size, .nilIface]) ∧ Bld B b (l ++ s.data.toList) w' ∧ Kpt B b w w' := by
  have hcells : Lib.byteCells (l ++ s.data.toList) = Lib.byteCells l ++ Lib.strCells s := by rw [Lib.byteCells_append]; congr 1
  have hlen' : (Lib.byteCells l).length + s.size ≤ 140737488355328 := by rw [Lib.byteCells_length]; exact hlen
  have HC := Lib.hid hcells
  clear hcells
  unfold Bld at h
  generalize hbs : Lib.byteCells l = bs at *
  clear hlen
  obtain ⟨i0, hi, hz0, hz1, hz2⟩ := info_parts infoByte
  go_enter Tryz.func77, Tryz.ntmps77
  go_wp2_with (go_at_call 75; refine (copyCheck_any B b bs _ h).mono ?_)
  rintro e w1 ⟨rfl, h1, ⟨hb1, hk1⟩, -⟩
  obtain ⟨hB, hlt, v, hbk, hown, hne⟩ := BuilderAtF_heap h1
  have c0 : w1.cell? ⟨b, 0, none⟩ = some (.pointer (some ⟨b, 0, none⟩)) := by rw [Lib.cell_of_heap hbk]; rfl
  have c1 : w1.cell? ⟨b, 1, none⟩ = some v := by rw [Lib.cell_of_heap hbk]; rfl
  go_wp2_with (at_builtin; refine Lib.wpList_append_own_stringF _ rfl _ _ 79 9 rfl B 5 i0 Tryz.underlying79 Tryz.underlying9 hi hz0 hz1 hz2 _ _ _ rfl hown s rfl ?c3 ?c4 ?c5 ?_)
  case c3 => unfold maxLen; omega
  case c4 => omega
  case c5 => have := hb1.size; omega
  intro v' w2 hown' hgrow _
  have hb2 : w2.heap[b]? = some (.cells #[.pointer (some ⟨b, 0, none⟩), v] 81 (0, 0)) := by
    rw [hgrow.block b hlt (fun e => hne e.symm)]
    exact hbk
  have d0 : w2.cell? ⟨b, 0, none⟩ = some (.pointer (some ⟨b, 0, none⟩)) := by rw [Lib.cell_of_heap hb2]; rfl
  have d1 : w2.cell? ⟨b, 1, none⟩ = some v := by rw [Lib.cell_of_heap hb2]; rfl
  have f1 : w2.frozen? ⟨b, 1, none⟩ = false := Lib.frozen_of_heap hb2 1
  obtain ⟨ao, n', cap, rfl⟩ : ∃ ao n' cap, v' = .slice ao n' cap := by
    rcases hown'.2 with ⟨hv, _⟩ | ⟨g, cap, cur, fz, hv, _⟩
    · exact ⟨_, _, _, hv⟩
    · exact ⟨_, _, _, hv⟩
  go_wp2
  go_ret2
  refine ⟨rfl, .inr ?_, ?_, (hk1.grown hgrow (Lib.ownsRowF_kind hown)).setCell ⟨b, 1, none⟩ rfl _⟩
  · rw [HC.out]
    exact Lib.BuilderAtF.put (T := 81) (e := 5) hB hb2 (bs' := bs ++ Lib.strCells s) (by simpa [Lib.strCells_length] using hown') (by decide)
  · exact (hb1.grown hgrow (by have := hb1.size; omega) (fun k hk => (hown.lt k hk).1)).setCell (p := ⟨b, 1, none⟩) hB _

set_option maxHeartbeats 2000000 in
set_option maxRecDepth 100000 in
/-- Write(p), p's cells in a block of their own. -/
theorem Write_any (B b : Nat) (l p : List UInt8) (g m c : Nat) (hm : m = p.length) (w : World) (h : Bld B b l w) (hg : g ≠ b) (hp : ∀ (j : Nat) (u : Value), (Lib.byteCells p)[j]? = some u → w.cell? ⟨g, j, none⟩ = some u) (hlen : l.length + p.length ≤ 140737488355328) (hBw : B ≤ w.heap.size) :
    Calls Tryz.prog 37 #[.pointer (some ⟨b, 0, none⟩), .slice (some ⟨g, 0, none⟩) m c] w fun e w' => e = .returned (.tuple #[.int .i64 m, .nilIface]) ∧ Bld B b (l ++ p) w' ∧ Kpt B b w w' := by
  have hcells : Lib.byteCells (l ++ p) = Lib.byteCells l ++ Lib.byteCells p := Lib.byteCells_append _ _
  have hlen' : (Lib.byteCells l).length + m ≤ 140737488355328 := by rw [Lib.byteCells_length, hm]; exact hlen
  have hpl : (Lib.byteCells p).length = m := by rw [Lib.byteCells_length, hm]
  have hone : ∀ u ∈ Lib.byteCells p, u.oneCell' = true := by
    intro u hu
    unfold Lib.byteCells at hu
    obtain ⟨x, _, rfl⟩ := List.mem_map.1 hu
    rfl
  have HC := Lib.hid hcells
  clear hcells hm
  unfold Bld at h
  generalize hbs : Lib.byteCells l = bs at *
  generalize hps : Lib.byteCells p = ps at *
  clear hlen
  obtain ⟨i0, hi, hz0, hz1, hz2⟩ := info_parts infoByte
  have HP := Lib.hid hp
  have HO := Lib.hid hone
  have HL := Lib.hid hpl
  clear hp hone hpl
  go_enter Tryz.func37, Tryz.ntmps37
  go_wp2_with (go_at_call 75; refine (copyCheck_any B b bs _ h).mono ?_)
  rintro e w1 ⟨rfl, h1, ⟨hb1, hk1⟩, hw1⟩
  have hnews : ∀ j u, ps[j]? = some u → w1.cell? ((⟨g, 0, none⟩ : Addr).add j) = some u := by
    intro j u hj
    rw [Lib.add_plain, Nat.zero_add]
    rcases hw1 with rfl | rfl
    · exact HP.out j u hj
    · have hne : (⟨b, 0, none⟩ : Addr) ≠ ⟨g, j, none⟩ := fun e => hg (congrArg Addr.block e).symm
      rw [World.cell?_setCell_other (h := hne)]
      exact HP.out j u hj
  obtain ⟨hB, hlt, v, hbk, hown, hne⟩ := BuilderAtF_heap h1
  have c0 : w1.cell? ⟨b, 0, none⟩ = some (.pointer (some ⟨b, 0, none⟩)) := by rw [Lib.cell_of_heap hbk]; rfl
  have c1 : w1.cell? ⟨b, 1, none⟩ = some v := by rw [Lib.cell_of_heap hbk]; rfl
  have HN := Lib.hid hnews
  clear hnews hw1
  go_wp2_with (at_builtin; refine wpList_append_ownF _ rfl _ _ 79 rfl B 5 i0 (.int .u8 0) 1 1 Tryz.underlying79 hi hz0 hz1 hz2 rfl (by decide) _ _ _ rfl hown ⟨g, 0, none⟩ m c ps rfl ?c0 ?c1 ?c2 ?c3 ?c4 ?c5 ?_)
  case c0 => rw [HL.out]; simp
  case c1 => exact HN.out
  case c2 => exact HO.out
  case c3 => unfold maxLen; omega
  case c4 => omega
  case c5 => have := hb1.size; omega
  intro v' w2 hown' hgrow _
  have hb2 : w2.heap[b]? = some (.cells #[.pointer (some ⟨b, 0, none⟩), v] 81 (0, 0)) := by
    rw [hgrow.block b hlt (fun e => hne e.symm)]
    exact hbk
  have d0 : w2.cell? ⟨b, 0, none⟩ = some (.pointer (some ⟨b, 0, none⟩)) := by rw [Lib.cell_of_heap hb2]; rfl
  have d1 : w2.cell? ⟨b, 1, none⟩ = some v := by rw [Lib.cell_of_heap hb2]; rfl
  have f1 : w2.frozen? ⟨b, 1, none⟩ = false := Lib.frozen_of_heap hb2 1
  obtain ⟨ao, n', cap, rfl⟩ : ∃ ao n' cap, v' = .slice ao n' cap := by
    rcases hown'.2 with ⟨hv, _⟩ | ⟨g, cap, cur, fz, hv, _⟩
    · exact ⟨_, _, _, hv⟩
    · exact ⟨_, _, _, hv⟩
  go_wp2
  go_ret2
  refine ⟨rfl, .inr ?_, ?_, (hk1.grown hgrow (Lib.ownsRowF_kind hown)).setCell ⟨b, 1, none⟩ rfl _⟩
  · rw [HC.out]
    exact Lib.BuilderAtF.put (T := 81) (e := 5) hB hb2 (bs' := bs ++ ps) (by simpa [HL.out] using hown') (by decide)
  · exact (hb1.grown hgrow (by have := hb1.size; omega) (fun k hk => (hown.lt k hk).1)).setCell (p := ⟨b, 1, none⟩) hB _

theorem String_any (B b : Nat) (l : List UInt8) (w : World) (h : Bld B b l w) (hBw : B ≤ w.heap.size) :
    Calls Tryz.prog 38 #[.pointer (some ⟨b, 0, none⟩)] w fun e w' => e = .returned (bs l) ∧ Kpt B b w w' :=
  (Tryz.Builder_String_any_k B b l w h hBw).mono fun _ _ ⟨he, _, hb, hk⟩ => ⟨he, hb, hk⟩

/-- A fresh builder in the block that is laid now. -/
theorem fresh_bld (w : World) : Bld w.heap.size w.heap.size [] (w.alloc (.cells #[.pointer none, .slice none 0 0] 81)) :=
  Lib.IsBuilderF.of (Lib.fresh_isBuilder 81 5 w)
/-- A builder stays one where all that was is as it was. -/
theorem Bld.keep {B b : Nat} {l : List UInt8} {w w' : World} (h : Bld B b l w) (hb : Below w.heap.size w w') : Bld B b l w' := by
  have aux : ∀ p, Lib.BuilderAtF 81 5 B b p (Lib.byteCells l) w → Lib.BuilderAtF 81 5 B b p (Lib.byteCells l) w' := by
    intro p h
    have hlt := h.lt
    obtain ⟨hB, v, hbk, hown, hne⟩ := h
    refine ⟨hB, v, by rw [hb.block b hlt]; exact hbk, hown.kept (row := none) ⟨hb.os, hb.tape, hb.output, hb.size, fun k hk _ => hb.block k hk⟩ ?_, hne⟩
    cases hv : v.ownBlock with
    | none => exact .inl rfl
    | some k => exact .inr (by simp)
  rcases h with h | h
  · exact .inl (aux _ h)
  · exact .inr (aux _ h)
end Go.Proofs.YtfkmgnldkmpeiaaGreatDoor

namespace Go.Proofs.YtfkmgnldkmpeiaaGreatDoor
open Go Go.RowKit

theorem bytesLess_iff : ∀ a b : List UInt8, Op.bytesLess a b = true ↔ a < b
  | [], [] => by simp [Op.bytesLess]
  | _ :: _, [] => by simp [Op.bytesLess]
  | [], _ :: _ => by simp [Op.bytesLess]
  | a :: x, b :: y => by
    rw [Op.bytesLess, Bool.or_eq_true, Bool.and_eq_true, bytesLess_iff x y, List.cons_lt_cons_iff]
    simp
theorem bytesLess_eq (a b : List UInt8) : Op.bytesLess a b = decide (a < b) := by
  rw [Bool.eq_iff_iff, bytesLess_iff, decide_eq_true_iff]
theorem bytesLeq (a b : List UInt8) : (Op.bytesLess a b || a == b) = decide (a ≤ b) := by
  rw [Bool.eq_iff_iff, Bool.or_eq_true, bytesLess_iff, decide_eq_true_iff, beq_iff_eq, List.le_iff_lt_or_eq]
end Go.Proofs.YtfkmgnldkmpeiaaGreatDoor

namespace Go.Proofs.YtfkmgnldkmpeiaaGreatDoor.W12
open Go Go.RowKit P12 Dig

def plainN (n : Nat) : Bool := decide (97 ≤ n ∧ n ≤ 122) || decide (65 ≤ n ∧ n ≤ 90) || decide (48 ≤ n ∧ n ≤ 57) || decide (n = 45) || decide (n = 46) || decide (n = 95) || decide (n = 126)
theorem plainC_nat (c : UInt8) : plainC c = plainN c.toNat := by
  have h : ((List.range 256).all fun n => plainC n.toUInt8 == plainN n) = true := by decide +kernel
  have := List.all_eq_true.1 h c.toNat (List.mem_range.2 c.toNat_lt)
  simpa using this
def okN (n : Nat) : Bool := decide (97 ≤ n ∧ n ≤ 122) || decide (48 ≤ n ∧ n ≤ 57) || decide (n = 95)
theorem okName_nat (c : UInt8) : okName c = okN c.toNat := by
  have h : ((List.range 256).all fun n => okName n.toUInt8 == okN n) = true := by decide +kernel
  have := List.all_eq_true.1 h c.toNat (List.mem_range.2 c.toNat_lt)
  simpa using this
theorem low_nat (c : UInt8) : low c = decide (97 ≤ c.toNat ∧ c.toNat ≤ 122) := by
  have h : ((List.range 256).all fun n => low n.toUInt8 == decide (97 ≤ n ∧ n ≤ 122)) = true := by decide +kernel
  have := List.all_eq_true.1 h c.toNat (List.mem_range.2 c.toNat_lt)
  simpa using this
theorem index4 (n : Nat) (h : n < 256) : Lib.indexByte [45, 46, 95, 126] n.toUInt8 = if n = 45 then 0 else if n = 46 then 1 else if n = 95 then 2 else if n = 126 then 3 else -1 := by
  have h' : ((List.range 256).all fun n => decide (Lib.indexByte [45, 46, 95, 126] n.toUInt8 = if n = 45 then 0 else if n = 46 then 1 else if n = 95 then 2 else if n = 126 then 3 else -1)) = true := by decide +kernel
  simpa using List.all_eq_true.1 h' n (List.mem_range.2 h)
theorem byte_cases (n : Nat) : n < 48 ∨ (48 ≤ n ∧ n ≤ 57) ∨ (57 < n ∧ n < 65) ∨ (65 ≤ n ∧ n ≤ 90) ∨ (90 < n ∧ n < 97) ∨ (97 ≤ n ∧ n ≤ 122) ∨ 122 < n := by omega

set_option maxHeartbeats 1000000 in
theorem plain_any (c : UInt8) (C : Int) (hC : C = c.toNat) (w : World) :
    Calls Tryz.prog 35 #[.int .u8 C] w fun e w' => e = .returned (.bool (plainC c)) ∧ Below w.heap.size w w' := by
  rw [plainC_nat]
  have hn := c.toNat_lt
  generalize c.toNat = n at hC hn ⊢
  subst hC
  have hcon := fun W => Tryz.strings_IndexByte ⟨#[45, 46, 95, 126]⟩ (n : Int) W
  have hi : Lib.indexByte (⟨#[45, 46, 95, 126]⟩ : ByteArray).data.toList ((n : Int).toNat).toUInt8 = if n = 45 then 0 else if n = 46 then 1 else if n = 95 then 2 else if n = 126 then 3 else -1 := index4 n hn
  rw [hi] at hcon
  clear hi
  obtain ⟨I, hI⟩ : ∃ I : Int, I = if n = 45 then 0 else if n = 46 then 1 else if n = 95 then 2 else if n = 126 then 3 else -1 := ⟨_, rfl⟩
  rw [← hI] at hcon
  by_cases hp : plainN n = true
  · rw [hp]
    have hI0 : (n < 48 ∨ (57 < n ∧ n < 65) ∨ (90 < n ∧ n < 97) ∨ 122 < n) → 0 ≤ I := by
      intro h
      rw [hI]
      simp only [plainN, Bool.or_eq_true, decide_eq_true_eq] at hp
      repeat' split
      all_goals omega
    clear hI
    rcases byte_cases n with h | h | h | h | h | h | h
    all_goals
      first
        | (have hI1 := hI0 (by omega)
           clear hI0 hp
           go_enter Tryz.func35, Tryz.ntmps35
           go_wp2_with (go_at_call 74; refine (hcon _).mono ?_; rintro e w' ⟨rfl, rfl⟩)
           go_ret
           first | exact ⟨rfl, Below.refl _ _⟩ | (refine ⟨ret1 (vbool ?_), Below.refl _ _⟩; simp <;> omega))
        | (clear hI0 hp hcon
           go_enter Tryz.func35, Tryz.ntmps35
           go_wp2_with fail
           go_ret
           first | exact ⟨rfl, Below.refl _ _⟩ | (refine ⟨ret1 (vbool ?_), Below.refl _ _⟩; simp <;> omega))
  · have hp' : plainN n = false := by simpa using hp
    rw [hp']
    simp only [plainN, Bool.or_eq_true, decide_eq_true_eq, not_or] at hp
    have hI1 : I < 0 := by
      rw [hI]
      repeat' split
      all_goals omega
    clear hI
    rcases byte_cases n with h | h | h | h | h | h | h
    all_goals
      first
        | (exfalso; omega)
        | (clear hp
           go_enter Tryz.func35, Tryz.ntmps35
           go_wp2_with (go_at_call 74; refine (hcon _).mono ?_; rintro e w' ⟨rfl, rfl⟩)
           go_ret
           first | exact ⟨rfl, Below.refl _ _⟩ | (refine ⟨ret1 (vbool ?_), Below.refl _ _⟩; simp <;> omega))

set_option maxHeartbeats 1000000 in
theorem refPlain_any (c : UInt8) (C : Int) (hC : C = c.toNat) (w : World) :
    Calls Tryz.prog 126 #[.int .u8 C] w fun e w' => e = .returned (.bool (plainC c)) ∧ Below w.heap.size w w' := by
  rw [plainC_nat]
  have hn := c.toNat_lt
  generalize c.toNat = n at hC hn ⊢
  subst hC
  by_cases hs : n = 45 ∨ n = 46 ∨ n = 95 ∨ n = 126
  · rcases hs with rfl | rfl | rfl | rfl
    all_goals
      go_enter Tryz.func126, Tryz.ntmps126
      go_wp2_with fail
      go_ret
      first | exact ⟨rfl, Below.refl _ _⟩ | (refine ⟨ret1 (vbool ?_), Below.refl _ _⟩; simp <;> omega)
  · simp only [not_or] at hs
    have hz : ((n : Int) == 45) = false ∧ ((n : Int) == 46) = false ∧ ((n : Int) == 95) = false ∧ ((n : Int) == 126) = false := by
      refine ⟨?_, ?_, ?_, ?_⟩ <;> (rw [beq_eq_false_iff_ne]; omega)
    obtain ⟨z1, z2, z3, z4⟩ := hz
    rcases byte_cases n with h | h | h | h | h | h | h
    all_goals
      obtain ⟨B, hB⟩ : ∃ B, B = plainN n := ⟨_, rfl⟩
      have hBv := hB
      simp only [plainN, hs.1, hs.2.1, hs.2.2.1, hs.2.2.2, decide_false, Bool.or_false] at hBv
      rw [← hB]
      clear hB hs
      first
        | (have hv : B = true := by rw [hBv]; simp <;> omega
           subst hv
           clear hBv
           go_enter Tryz.func126, Tryz.ntmps126
           go_wp2_with fail
           go_ret
           first | exact ⟨rfl, Below.refl _ _⟩ | (refine ⟨ret1 (vbool ?_), Below.refl _ _⟩; simp <;> omega))
        | (have hv : B = false := by rw [hBv]; simp <;> omega
           subst hv
           clear hBv
           go_enter Tryz.func126, Tryz.ntmps126
           go_wp2_with fail
           go_ret
           first | exact ⟨rfl, Below.refl _ _⟩ | (refine ⟨ret1 (vbool ?_), Below.refl _ _⟩; simp <;> omega))

/-- The rune that a name's byte may not be. -/
def oddR (r : Nat) : Bool := !okN r
set_option maxHeartbeats 1000000 in
theorem odd_pred (w : World) : PredAt Tryz.prog 39 #[] encR oddR w := fun W n _ => by
  unfold FnGives oddR
  by_cases hs : n = 95
  · subst hs
    go_enter Tryz.func39, Tryz.ntmps39
    go_wp2_with fail
    go_ret
    first | exact ⟨rfl, 0, rfl⟩ | (refine ⟨ret1 (vbool ?_), 0, rfl⟩; simp <;> omega)
  · have z1 : ((n : Int) == 95) = false := by rw [beq_eq_false_iff_ne]; omega
    rcases byte_cases n with h | h | h | h | h | h | h
    all_goals
      obtain ⟨B, hB⟩ : ∃ B, B = !okN n := ⟨_, rfl⟩
      have hBv := hB
      simp only [okN, hs, decide_false, Bool.or_false] at hBv
      rw [← hB]
      clear hB hs
      first
        | (have hv : B = true := by rw [hBv]; simp <;> omega
           subst hv
           clear hBv
           go_enter Tryz.func39, Tryz.ntmps39
           go_wp2_with fail
           go_ret
           first | exact ⟨rfl, 0, rfl⟩ | (refine ⟨ret1 (vbool ?_), 0, rfl⟩; simp <;> omega))
        | (have hv : B = false := by rw [hBv]; simp <;> omega
           subst hv
           clear hBv
           go_enter Tryz.func39, Tryz.ntmps39
           go_wp2_with fail
           go_ret
           first | exact ⟨rfl, 0, rfl⟩ | (refine ⟨ret1 (vbool ?_), 0, rfl⟩; simp <;> omega))
theorem get_drop (s : ByteArray) (pos : Nat) (h : pos < s.size) : s.data.toList.drop pos = s[pos]'h :: s.data.toList.drop (pos + 1) := by
  have hl : pos < s.data.toList.length := by rw [size_data]; exact h
  rw [List.drop_eq_getElem_cons hl]
  congr 1
theorem idx_odd (s : ByteArray) : ∀ (f pos : Nat), s.size ≤ pos + f → (Lib.idxFuncFrom oddR true s f pos < 0 ↔ (s.data.toList.drop pos).all okName = true)
  | 0, pos, h => by
    have : s.data.toList.drop pos = [] := List.drop_eq_nil_of_le (by rw [size_data]; omega)
    rw [this]
    simp [Lib.idxFuncFrom]
  | f + 1, pos, h => by
    by_cases hp : pos < s.size
    · rw [get_drop s pos hp, List.all_cons]
      unfold Lib.idxFuncFrom
      rw [if_pos hp]
      by_cases ha : (s[pos]'hp).toNat < 128
      · rw [decode_ascii s pos hp ha]
        simp only
        have hn := okName_nat (s[pos]'hp)
        by_cases ho : okName (s[pos]'hp) = true
        · rw [if_neg (by unfold oddR; rw [← hn, ho]; simp), idx_odd s f (pos + 1) (by omega), ho]
          simp
        · rw [if_pos (by unfold oddR; rw [← hn]; simpa using ho)]
          simp [ho] <;> omega
      · have hd := decode_high s pos hp (by omega)
        have hodd : oddR (Utf8.decode s pos).1 = true := by
          unfold oddR okN
          simp
          omega
        rw [if_pos hodd]
        have ho : okName (s[pos]'hp) = false := by
          rw [okName_nat]
          unfold okN
          simp
          omega
        rw [ho]
        simp <;> omega
    · have : s.data.toList.drop pos = [] := List.drop_eq_nil_of_le (by rw [size_data]; omega)
      rw [this, Lib.idxFuncFrom_end _ _ _ _ _ hp]
      simp
theorem idx_all (s : ByteArray) : Lib.idxFunc oddR true s < 0 ↔ s.data.toList.all okName = true := by
  have := idx_odd s s.size 0 (by omega)
  rwa [List.drop_zero] at this

theorem first_byte (s : ByteArray) (h : 0 < s.size) : ∃ l, s.data.toList = s[0]'h :: l := ⟨_, by simpa using get_drop s 0 h⟩
end Go.Proofs.YtfkmgnldkmpeiaaGreatDoor.W12

namespace Go.Proofs.YtfkmgnldkmpeiaaGreatDoor.W12
open Go Go.RowKit P12 Dig

theorem empty_list (s : ByteArray) (h : s.size = 0) : s.data.toList = [] := by
  apply List.length_eq_zero_iff.1; rw [size_data]; exact h
theorem toList_nil (s : ByteArray) (h : s.size = 0) : s.toList.isEmpty = true := by rw [Lib.toList_data, empty_list s h]; rfl
theorem toList_cons (s : ByteArray) (h : 0 < s.size) : s.toList.isEmpty = false := by
  rw [Lib.toList_data]
  cases hl : s.data.toList with
  | nil => have := size_data s; rw [hl] at this; simp at this; omega
  | cons _ _ => rfl
theorem nameL_nil : nameL [] = false := rfl
theorem nameL_at (s : ByteArray) (h : 0 < s.size) : nameL s.data.toList = (decide (s.size ≤ 32) && decide (97 ≤ (s[0]'h).toNat ∧ (s[0]'h).toNat ≤ 122) && s.data.toList.all okName) := by
  obtain ⟨l, hl⟩ := first_byte s h
  have hsz := size_data s
  unfold nameL
  rw [hl] at hsz ⊢
  simp only [hsz, low_nat]

set_option maxHeartbeats 1000000 in
theorem Name_any (s : ByteArray) (w : World) :
    Calls Tryz.prog 14 #[.string s] w fun e w' => e = .returned (.bool (nameL s.data.toList)) ∧ Below w.heap.size w w' := by
  by_cases h0 : s.size = 0
  · have hE := toList_nil s h0
    rw [empty_list s h0, nameL_nil]
    clear h0
    go_enter Tryz.func14, Tryz.ntmps14
    go_wp2_with fail
    go_ret
    exact ⟨rfl, Below.refl _ _⟩
  · have hp : 0 < s.size := by omega
    have hE := toList_cons s hp
    rw [nameL_at s hp]
    by_cases h32 : s.size ≤ 32
    · by_cases h97 : 97 ≤ s[0].toNat
      · by_cases h122 : s[0].toNat ≤ 122
        · have hcon := fun W => Tryz.strings_IndexFunc 39 #[] (enters_of Tryz.func39 (by kernel_rfl) rfl) oddR s W (odd_pred W)
          have hiff := idx_all s
          obtain ⟨I, hI⟩ : ∃ I, I = Lib.idxFunc oddR true s := ⟨_, rfl⟩
          obtain ⟨B, hB⟩ : ∃ B, B = s.data.toList.all okName := ⟨_, rfl⟩
          rw [← hI] at hcon hiff
          rw [← hB] at hiff ⊢
          clear hI hB
          cases B with
          | true =>
            have hneg : I < 0 := hiff.2 rfl
            clear hiff h0
            go_enter Tryz.func14, Tryz.ntmps14
            go_wp2_with (go_at_call 40; refine (hcon _).mono ?_; rintro e w' ⟨rfl, hb1⟩)
            go_ret
            exact ⟨ret1 (vbool (by simp <;> omega)), hb1⟩
          | false =>
            have hneg : ¬ I < 0 := fun h => by simpa using hiff.1 h
            clear hiff h0
            go_enter Tryz.func14, Tryz.ntmps14
            go_wp2_with (go_at_call 40; refine (hcon _).mono ?_; rintro e w' ⟨rfl, hb1⟩)
            go_ret
            exact ⟨ret1 (vbool (by simp <;> omega)), hb1⟩
        · clear h0
          go_enter Tryz.func14, Tryz.ntmps14
          go_wp2_with fail
          go_ret
          exact ⟨ret1 (vbool (by simp <;> omega)), Below.refl _ _⟩
      · clear h0
        go_enter Tryz.func14, Tryz.ntmps14
        go_wp2_with fail
        go_ret
        exact ⟨ret1 (vbool (by simp <;> omega)), Below.refl _ _⟩
    · clear h0
      go_enter Tryz.func14, Tryz.ntmps14
      go_wp2_with fail
      go_ret
      exact ⟨ret1 (vbool (by simp <;> omega)), Below.refl _ _⟩

theorem take_next (s : ByteArray) (k : Nat) (h : k < s.size) : s.data.toList.take (k + 1) = s.data.toList.take k ++ [s[k]'h] := by
  have hl : k < s.data.toList.length := by rw [size_data]; exact h
  rw [List.take_add_one, List.getElem?_eq_getElem hl]
  rfl
theorem take_all (s : ByteArray) : s.data.toList.take s.size = s.data.toList := List.take_of_length_le (by rw [size_data]; exact Nat.le_refl _)
theorem all_of_take {s : ByteArray} {k : Nat} (h : k < s.size) (hb : okName (s[k]'h) = false) : s.data.toList.all okName = false := by
  rw [Bool.eq_false_iff]
  intro ha
  have := List.all_eq_true.1 ha (s[k]'h) (by
    have hl : k < s.data.toList.length := by rw [size_data]; exact h
    exact List.getElem_mem hl)
  rw [this] at hb
  cases hb

set_option maxRecDepth 100000 in
set_option maxHeartbeats 3200000 in
theorem refName_any (s : ByteArray) (w : World) :
    Calls Tryz.prog 70 #[.string s] w fun e w' => e = .returned (.bool (nameL s.data.toList)) ∧ Below w.heap.size w w' := by
  by_cases h0 : s.size = 0
  · rw [empty_list s h0, nameL_nil]
    go_enter Tryz.func70, Tryz.ntmps70
    go_wp2_with fail
    go_ret
    exact ⟨rfl, Below.refl _ _⟩
  · have hp : 0 < s.size := by omega
    rw [nameL_at s hp]
    by_cases h32 : s.size ≤ 32
    · by_cases h97 : 97 ≤ s[0].toNat
      · by_cases h122 : s[0].toNat ≤ 122
        · have hv : (decide (s.size ≤ 32) && decide (97 ≤ (s[0]'hp).toNat ∧ (s[0]'hp).toNat ≤ 122) && s.data.toList.all okName) = s.data.toList.all okName := by simp [h32, h97, h122]
          rw [hv]
          obtain ⟨B, hBv⟩ : ∃ B, B = s.data.toList.all okName := ⟨_, rfl⟩
          rw [← hBv]
          have HBV := Lib.hid hBv
          clear hv hBv
          go_enter Tryz.func70, Tryz.ntmps70
          go_wp2_with fail
          go_loopw [3] (fun i wr => ∃ k : Nat, k ≤ s.size ∧ i = .int .i64 k ∧ (s.data.toList.take k).all okName = true ∧ Below w.heap.size w wr) (fun i _ => s.size - (intOf i).toNat)
          case atStart => exact ⟨0, by omega, rfl, by simp, Below.refl _ _⟩
          case round =>
            obtain ⟨k, hk, rfl, hall, hB⟩ := hrel
            by_cases hlt : k < s.size
            · have hn := okName_nat (s[k]'hlt)
              have hc := (s[k]'hlt).toNat_lt
              have hlt' : (k : Int) < (s.size : Int) := by omega
              by_cases ho : okName (s[k]'hlt) = true
              · have hnext : (s.data.toList.take (k + 1)).all okName = true := by rw [take_next s k hlt, List.all_append, hall]; simp [ho]
                rw [ho] at hn
                replace hn := hn.symm
                simp only [okN, Bool.or_eq_true, decide_eq_true_eq] at hn
                have HN := Lib.hid hnext
                clear hnext hall ho
                by_cases h95 : (s[k]'hlt).toNat = 95
                · have hb : (((s[k]'hlt).toNat : Int) != 95) = false := by rw [bne_eq_false_iff_eq]; omega
                  clear hn
                  go_wp2_with fail
                  go_roundw
                  case rel => exact ⟨k + 1, by omega, by go_num, HN.out, hB⟩
                  case measure => simp [intOf]; omega
                · have hr : (97 ≤ (s[k]'hlt).toNat ∧ (s[k]'hlt).toNat ≤ 122) ∨ (48 ≤ (s[k]'hlt).toNat ∧ (s[k]'hlt).toNat ≤ 57) := by omega
                  have hb : (((s[k]'hlt).toNat : Int) != 95) = true := by rw [bne_iff_ne]; omega
                  clear hn h95
                  rcases hr with hr | hr
                  all_goals
                    go_wp2_with fail
                    go_roundw
                    case rel => exact ⟨k + 1, by omega, by go_num, HN.out, hB⟩
                    case measure => simp [intOf]; omega
              · have ho' : okName (s[k]'hlt) = false := by simpa using ho
                have hbad := all_of_take hlt ho'
                rw [ho'] at hn
                replace hn := hn.symm
                simp only [okN, Bool.or_eq_false_iff, decide_eq_false_iff_not] at hn
                have HB := Lib.hid hbad
                have h95 : (((s[k]'hlt).toNat : Int) != 95) = true := by rw [bne_iff_ne]; omega
                have hr : (s[k]'hlt).toNat < 48 ∨ (57 < (s[k]'hlt).toNat ∧ (s[k]'hlt).toNat < 97) ∨ 122 < (s[k]'hlt).toNat := by omega
                clear hbad hall ho ho' hn
                rcases hr with hr | hr | hr
                all_goals
                  go_wp2_with fail
                  go_ret
                  exact ⟨by rw [HBV.out, HB.out]; rfl, hB⟩
            · obtain rfl : k = s.size := by omega
              rw [take_all] at hall
              have HA := Lib.hid hall
              clear hall
              go_wp2_with fail
              go_ret
              exact ⟨by rw [HBV.out, HA.out]; rfl, hB⟩
        · clear h0
          go_enter Tryz.func70, Tryz.ntmps70
          go_wp2_with fail
          go_ret
          exact ⟨ret1 (vbool (by simp <;> omega)), Below.refl _ _⟩
      · clear h0
        go_enter Tryz.func70, Tryz.ntmps70
        go_wp2_with fail
        go_ret
        exact ⟨ret1 (vbool (by simp <;> omega)), Below.refl _ _⟩
    · clear h0
      go_enter Tryz.func70, Tryz.ntmps70
      go_wp2_with fail
      go_ret
      exact ⟨ret1 (vbool (by simp <;> omega)), Below.refl _ _⟩
end Go.Proofs.YtfkmgnldkmpeiaaGreatDoor.W12
