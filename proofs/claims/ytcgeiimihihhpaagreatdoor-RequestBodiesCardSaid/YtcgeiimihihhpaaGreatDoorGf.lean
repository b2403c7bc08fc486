/-
  strings.Builder in this translation (whose copyCheck ends where a written builder's value has moved): copyCheck, WriteByte, WriteString, Write, String. Conditions: the builder lies in a block of its own; the new length is within Go's own limit.
  Walks of layer 18: the program's body. Conditions: the text is within Go's own limit, the reader stands within it.
  Walks of layer 18: the program's body in chunks. Conditions: the text is within Go's own limit, the reader stands within it.
  A range over the library's iterator of a text's parts: the statement's law, and the iterator's contract. Conditions: the text is within Go's own limit.
-/
import Derived.Test.YtcgeiimihihhpaaGreatDoorChecked
import Derived.Test.YtcgeiimihihhpaaGreatDoorTShelf
import Derived.Test.YtcgeiimihihhpaaGreatDoorGa
import Derived.Shelf.Strings.BuilderK
import Derived.Test.YtcgeiimihihhpaaGreatDoorGe
import Derived.Lib.SlBytesConst
import Derived.RangeFuncNested
import Derived.RangeFuncBound
import Derived.RangeFuncCalls
import Derived.RangeFuncLeaves
import Derived.Shelf.Abstract
import Derived.Shelf.RegionOpen
import Derived.WalkKit
import Derived.OwnWalkIn
import Derived.TacticsInMore
import Derived.LoopNIn
import Derived.LoopIn

namespace Go.Proofs.YtcgeiimihihhpaaGreatDoor
open Go Go.RowKit

/-- A builder in block b that holds the bytes l. -/
abbrev Bld (B b : Nat) (l : List UInt8) (w : World) : Prop := Lib.IsBuilderF 74 5 B b (Lib.byteCells l) w
/-- What a call on the builder leaves as it was: all below B; every block but the builder's and the rows of bytes. -/
abbrev Kpt (B b : Nat) (w w' : World) : Prop := Below B w w' ∧ Lib.OthersKept 5 (some b) w w'

theorem sizeB : (Tryz.prog.info? 74).map (·.size) = some 2 := by kernel_rfl
theorem liesB : liesAt Tryz.prog Tryz.prog.depth 74 (2 / Tryz.prog.cellsOf 74) 0 74 1 = true := by kernel_rfl
theorem infoByte : (Tryz.prog.info? 5).map (fun i => (i.zero, i.size, i.bytes)) = some (some (.int .u8 0), 1, 1) := by kernel_rfl

set_option maxHeartbeats 1000000 in
set_option maxRecDepth 100000 in
theorem copyCheck_used (b : Nat) (w : World) (h0 : w.cell? ⟨b, 0, none⟩ = some (.pointer (some ⟨b, 0, none⟩))) :
    Calls Tryz.prog 78 #[.pointer (some ⟨b, 0, none⟩)] w fun e w' => e = .returned (.tuple #[]) ∧ w' = w := by
  obtain ⟨j, hj, _⟩ := Option.map_eq_some_iff.1 sizeB
  go_enter Tryz.func78, Tryz.ntmps78
  go_wp2
  rw [Lib.run_neq_ptr_same w _ Tryz.underlying71 hj]
  go_wp2
  go_end0
  exact ⟨rfl, rfl⟩

set_option maxHeartbeats 1000000 in
set_option maxRecDepth 100000 in
theorem copyCheck_fresh (b : Nat) (w : World) (h0 : w.cell? ⟨b, 0, none⟩ = some (.pointer none)) (hsh : w.shape? b = some (74, 2)) (hfz : w.frozen? ⟨b, 0, none⟩ = false) :
    Calls Tryz.prog 78 #[.pointer (some ⟨b, 0, none⟩)] w fun e w' => e = .returned (.tuple #[]) ∧ w' = w.setCell ⟨b, 0, none⟩ (.pointer (some ⟨b, 0, none⟩)) := by
  obtain ⟨j, hj, hjs⟩ := Option.map_eq_some_iff.1 sizeB
  go_enter Tryz.func78, Tryz.ntmps78
  go_wp2
  rw [Lib.run_to_unsafe w ⟨b, 0, none⟩ Tryz.underlying71 Tryz.underlying116 hj (by rw [hjs]; decide) hsh (Nat.zero_lt_succ 1)]
  simp only [Result.andThen]
  rw [Oper.upon_value]
  go_wp2
  rw [run_callFunc_extern Tryz.func103 (by kernel_rfl) (by kernel_rfl) (by kernel_rfl) (e := Extern.AbiNoEscape.same) (by kernel_rfl)]
  rw [Lib.run_noEscape]
  simp only [Result.andThen]
  rw [Oper.upon_value]
  go_wp2
  rw [Lib.run_from_unsafe w ⟨b, 0, none⟩ Tryz.underlying116 Tryz.underlying71 hj hsh liesB]
  simp only [Result.andThen]
  rw [Oper.upon_value]
  go_wp2
  go_end0
  exact ⟨rfl, rfl⟩

/-- copyCheck: behind it the builder is used. The world is as it was but for the builder's first cell. -/
theorem copyCheck_any (B b : Nat) (bs : List Value) (w : World) (h : Lib.IsBuilderF 74 5 B b bs w) :
    Calls Tryz.prog 78 #[.pointer (some ⟨b, 0, none⟩)] w fun e w' => e = .returned (.tuple #[]) ∧ Lib.BuilderAtF 74 5 B b (.pointer (some ⟨b, 0, none⟩)) bs w' ∧ Kpt B b w w' ∧ (w' = w ∨ w' = w.setCell ⟨b, 0, none⟩ (.pointer (some ⟨b, 0, none⟩))) := by
  rcases h with h | h
  · refine (copyCheck_fresh b w h.cell0 h.shape h.frozen0).mono ?_
    rintro e w' ⟨rfl, rfl⟩
    exact ⟨rfl, h.used _, ⟨(Below.refl B w).setCell (p := ⟨b, 0, none⟩) h.1 _, (Lib.OthersKept.refl _ _ w).setCell ⟨b, 0, none⟩ rfl _⟩, .inr rfl⟩
  · refine (copyCheck_used b w h.cell0).mono ?_
    rintro e w' ⟨rfl, rfl⟩
    exact ⟨rfl, h, ⟨Below.refl B _, Lib.OthersKept.refl _ _ _⟩, .inl rfl⟩
theorem BuilderAtF_heap {T e : TypeId} {B b : Nat} {p : Value} {bs : List Value} {w : World} (h : Lib.BuilderAtF T e B b p bs w) : B ≤ b ∧ b < w.heap.size ∧ ∃ v, w.heap[b]? = some (.cells #[p, v] T (0, 0)) ∧ w.ownsRowF B e 1 v bs.length bs ∧ v.ownBlock ≠ some b := by
  have hlt := h.lt
  obtain ⟨hB, v, hbk, hown, hne⟩ := h
  exact ⟨hB, hlt, v, hbk, hown, hne⟩

set_option maxHeartbeats 2000000 in
set_option maxRecDepth 100000 in
theorem WriteString_any (B b : Nat) (l : List UInt8) (s : ByteArray) (w : World) (h : Bld B b l w) (hlen : l.length + s.size ≤ 140737488355328) (hBw : B ≤ w.heap.size) :
    Calls Tryz.prog 50 #[.pointer (some ⟨b, 0, none⟩), .string s] w fun e w' => e = .returned (.tuple #[.int .i64 s.size, .nilIface]) ∧ Bld B b (l ++ s.data.toList) w' ∧ Kpt B b w w' := by
  have hcells : Lib.byteCells (l ++ s.data.toList) = Lib.byteCells l ++ Lib.strCells s := by rw [Lib.byteCells_append]; congr 1
  have hlen' : (Lib.byteCells l).length + s.size ≤ 140737488355328 := by rw [Lib.byteCells_length]; exact hlen
  have HC := Lib.hid hcells
  clear hcells
  unfold Bld at h
  generalize hbs : Lib.byteCells l = bs at *
  clear hlen
  obtain ⟨i0, hi, hz0, hz1, hz2⟩ := info_parts infoByte
  go_enter Tryz.func50, Tryz.ntmps50
  go_wp2_with (go_at_call 78; refine (copyCheck_any B b bs _ h).mono ?_)
  rintro e w1 ⟨rfl, h1, ⟨hb1, hk1⟩, -⟩
  obtain ⟨hB, hlt, v, hbk, hown, hne⟩ := BuilderAtF_heap h1
  have c0 : w1.cell? ⟨b, 0, none⟩ = some (.pointer (some ⟨b, 0, none⟩)) := by rw [Lib.cell_of_heap hbk]; rfl
  have c1 : w1.cell? ⟨b, 1, none⟩ = some v := by rw [Lib.cell_of_heap hbk]; rfl
  go_wp2_with (at_builtin; refine Lib.wpList_append_own_stringF _ rfl _ _ 72 9 rfl B 5 i0 Tryz.underlying72 Tryz.underlying9 hi hz0 hz1 hz2 _ _ _ rfl hown s rfl ?c3 ?c4 ?c5 ?_)
  case c3 => unfold maxLen; omega
  case c4 => omega
  case c5 => have := hb1.size; omega
  intro v' w2 hown' hgrow _
  have hb2 : w2.heap[b]? = some (.cells #[.pointer (some ⟨b, 0, none⟩), v] 74 (0, 0)) := by
    rw [hgrow.block b hlt (fun e => hne e.symm)]
    exact hbk
  have d0 : w2.cell? ⟨b, 0, none⟩ = some (.pointer (some ⟨b, 0, none⟩)) := by rw [Lib.cell_of_heap hb2]; rfl
  have d1 : w2.cell? ⟨b, 1, none⟩ = some v := by rw [Lib.cell_of_heap hb2]; rfl
  have f1 : w2.frozen? ⟨b, 1, none⟩ = false := Lib.frozen_of_heap hb2 1
  obtain ⟨ao, n', cap, rfl⟩ : ∃ ao n' cap, v' = .slice ao n' cap := by
    rcases hown'.2 with ⟨hv, _⟩ | ⟨g, cap, cur, fz, hv, _⟩
    · exact ⟨_, _, _, hv⟩
    · exact ⟨_, _, _, hv⟩
  go_wp2
  go_ret2
  refine ⟨rfl, .inr ?_, ?_, (hk1.grown hgrow (Lib.ownsRowF_kind hown)).setCell ⟨b, 1, none⟩ rfl _⟩
  · rw [HC.out]
    exact Lib.BuilderAtF.put (T := 74) (e := 5) hB hb2 (bs' := bs ++ Lib.strCells s) (by simpa [Lib.strCells_length] using hown') (by decide)
  · exact (hb1.grown hgrow (by have := hb1.size; omega) (fun k hk => (hown.lt k hk).1)).setCell (p := ⟨b, 1, none⟩) hB _

theorem String_any (B b : Nat) (l : List UInt8) (w : World) (h : Bld B b l w) (hBw : B ≤ w.heap.size) :
    Calls Tryz.prog 51 #[.pointer (some ⟨b, 0, none⟩)] w fun e w' => e = .returned (bs l) ∧ Kpt B b w w' :=
  (Tryz.Builder_String_any_k B b l w h hBw).mono fun _ _ ⟨he, _, hb, hk⟩ => ⟨he, hb, hk⟩

/-- A fresh builder in the block that is laid now. -/
theorem fresh_bld (w : World) : Bld w.heap.size w.heap.size [] (w.alloc (.cells #[.pointer none, .slice none 0 0] 74)) :=
  Lib.IsBuilderF.of (Lib.fresh_isBuilder 74 5 w)
/-- A builder stays one where all that was is as it was. -/
theorem Bld.keep {B b : Nat} {l : List UInt8} {w w' : World} (h : Bld B b l w) (hb : Below w.heap.size w w') : Bld B b l w' := by
  have aux : ∀ p, Lib.BuilderAtF 74 5 B b p (Lib.byteCells l) w → Lib.BuilderAtF 74 5 B b p (Lib.byteCells l) w' := by
    intro p h
    have hlt := h.lt
    obtain ⟨hB, v, hbk, hown, hne⟩ := h
    refine ⟨hB, v, by rw [hb.block b hlt]; exact hbk, hown.kept (row := none) ⟨hb.os, hb.tape, hb.output, hb.size, fun k hk _ => hb.block k hk⟩ ?_, hne⟩
    cases hv : v.ownBlock with
    | none => exact .inl rfl
    | some k => exact .inr (by simp)
  rcases h with h | h
  · exact .inl (aux _ h)
  · exact .inr (aux _ h)

/-- How many bytes there are. -/
theorem Len_any (B b : Nat) (l : List UInt8) (w : World) (h : Bld B b l w) :
    Calls Tryz.prog 49 #[.pointer (some ⟨b, 0, none⟩)] w fun e w' => e = .returned (.int .i64 l.length) ∧ w = w' := by
  have h1 : ∃ p, Lib.BuilderAtF 74 5 B b p (Lib.byteCells l) w := by
    rcases h with h | h
    · exact ⟨_, h⟩
    · exact ⟨_, h⟩
  obtain ⟨p, h1⟩ := h1
  obtain ⟨hB, hlt, v, hbk, hown, hne⟩ := BuilderAtF_heap h1
  rw [Lib.byteCells_length] at hown
  have c1 : w.cell? ⟨b, 1, none⟩ = some v := by rw [Lib.cell_of_heap hbk]; rfl
  obtain ⟨ao, cap, rfl⟩ : ∃ ao cap, v = .slice ao l.length cap := by
    rcases hown.2 with ⟨hv, h0⟩ | ⟨g, cap, cur, fz, hv, _⟩
    · exact ⟨none, 0, by rw [hv, h0]⟩
    · exact ⟨_, _, hv⟩
  go_enter Tryz.func49, Tryz.ntmps49
  go_wp2_with fail
  go_ret
  exact ⟨rfl, rfl⟩
end Go.Proofs.YtcgeiimihihhpaaGreatDoor

namespace Go.Proofs.YtcgeiimihihhpaaGreatDoor.W18
open Go Go.RowKit P12 P18

/-! ## What the chunks come to -/
theorem chunks_stop {b : Nat} {s : P12.By} {t : Int} (h : lineL s = .stop t) : chunksGo b s = .stop t := by rw [chunks_eq]; simp only [h, Res.bind]
theorem chunks_bad {b : Nat} {s l r : P12.By} (h : lineL s = .ok l r) (hc : chunkSize l = none) : chunksGo b s = .stop 400 := by rw [chunks_eq]; simp only [h, Res.bind, hc]
theorem chunks_413 {b n : Nat} {s l r : P12.By} (h : lineL s = .ok l r) (hc : chunkSize l = some n) (hb : b < n) : chunksGo b s = .stop 413 := by rw [chunks_eq]; simp only [h, Res.bind, hc, if_pos hb]
theorem chunks_last {b : Nat} {s l r : P12.By} (h : lineL s = .ok l r) (hc : chunkSize l = some 0) : chunksGo b s = (lineL r).bind fun l2 r2 => if l2 = [] then .ok [] r2 else .stop 400 := by
  rw [chunks_eq]
  simp only [h, Res.bind, hc]
  rw [if_neg (by omega)]
  simp only [if_true]
theorem chunks_next {b n : Nat} {s l r : P12.By} (h : lineL s = .ok l r) (hc : chunkSize l = some n) (hb : ¬ b < n) (h0 : n ≠ 0) : chunksGo b s = (chunkData n r).bind fun d q => (chunksGo (b - n) q).map (d ++ ·) := by
  rw [chunks_eq]
  simp only [h, Res.bind, hc]
  rw [if_neg hb, if_neg h0]
theorem data_first {n : Nat} {s : P12.By} {c : UInt8} (h : s[n]? = some c) (hc : c ≠ 13) : chunkData n s = .stop 400 := by
  obtain ⟨hn, e⟩ := List.getElem?_eq_some_iff.1 h
  unfold chunkData
  rw [List.drop_eq_getElem_cons hn, e]
  simp only [hc, ne_eq, not_false_eq_true, if_true]
theorem data_second {n : Nat} {s : P12.By} {c : UInt8} (h : s[n]? = some 13) (h2 : s[n + 1]? = some c) (hc : c ≠ 10) : chunkData n s = .stop 400 := by
  obtain ⟨hn, e⟩ := List.getElem?_eq_some_iff.1 h
  obtain ⟨hn2, e2⟩ := List.getElem?_eq_some_iff.1 h2
  unfold chunkData
  rw [List.drop_eq_getElem_cons hn, e, List.drop_eq_getElem_cons hn2, e2]
  simp [hc]
theorem data_short {n : Nat} {s : P12.By} (h1 : ∀ c, s[n]? = some c → c = 13) (h : s.length < n + 2) : chunkData n s = .stop 0 := by
  unfold chunkData
  by_cases hn : n < s.length
  · rw [List.drop_eq_getElem_cons hn, h1 _ (List.getElem?_eq_getElem hn), List.drop_eq_nil_of_le (by omega)]
    simp
  · rw [List.drop_eq_nil_of_le (by omega)]
theorem data_full {n : Nat} {s : P12.By} (h : s[n]? = some 13) (h2 : s[n + 1]? = some 10) : chunkData n s = .ok (s.take n) (s.drop (n + 2)) := by
  obtain ⟨hn, e⟩ := List.getElem?_eq_some_iff.1 h
  obtain ⟨hn2, e2⟩ := List.getElem?_eq_some_iff.1 h2
  unfold chunkData
  rw [List.drop_eq_getElem_cons hn, e, List.drop_eq_getElem_cons hn2, e2]
  simp
theorem map_next {b : Nat} {acc x : P12.By} {R : Res P12.By} (h : R = ((chunksGo b x).map (acc ++ ·))) (y : P12.By) (n : Nat) (q : P12.By) (e : chunksGo b x = (chunksGo (b - n) q).map (y ++ ·)) : R = (chunksGo (b - n) q).map ((acc ++ y) ++ ·) := by
  rw [h, e]
  cases chunksGo (b - n) q <;> simp [Res.map]

/-- What reading the body comes to. -/
def BodyPost (b : Nat) (d : ByteArray) (m p q v c z : Value) (R : Res P12.By) (w : World) (e : Ending) (w' : World) : Prop :=
  Only b w w' ∧ match R with
    | .stop t => e = gives t
    | .ok x r => e = .returned (.tuple #[]) ∧ ∃ j, j ≤ d.size ∧ r = d.data.toList.drop j ∧ Rd b (rdr d j m p q v (bs x) c z) w'
theorem body_stop {b : Nat} {d : ByteArray} {m p q v c z : Value} {R : Res P12.By} {w w' : World} {t : Int} (h : R = .stop t) (hO : Only b w w') : BodyPost b d m p q v c z R w (gives t) w' := by
  rw [h]
  exact ⟨hO, rfl⟩
theorem body_ok {b : Nat} {d : ByteArray} {m p q v c z : Value} {R : Res P12.By} {w w' : World} {x : P12.By} {j : Nat} (h : R = .ok x (d.data.toList.drop j)) (hO : Only b w w') (hj : j ≤ d.size) (hr : Rd b (rdr d j m p q v (bs x) c z) w') : BodyPost b d m p q v c z R w (.returned (.tuple #[])) w' := by
  rw [h]
  exact ⟨hO, rfl, j, hj, rfl, hr⟩

set_option maxHeartbeats 3200000 in
set_option maxRecDepth 1000000 in
theorem body_take (b : Nat) (d : ByteArray) (j n : Nat) (m p q v y c : Value) (w : World) (hr : Rd b (rdr d j m p q v y c (.int .i64 n)) w) (hj : j ≤ d.size) (hd : d.size ≤ 281474976710656) (hn : n ≤ 1000) :
    Calls Tryz.prog 20 #[.pointer (some ⟨b, 0, none⟩)] w (BodyPost b d m p q v c (.int .i64 n) (takeL n (d.data.toList.drop j)) w) := by
  have x8 : w.cell? ⟨b, 8, none⟩ = some (.int .i64 n) := hr.cell 8
  have hln : (d.data.toList.drop j).length = d.size - j := by rw [List.length_drop, size_data]
  obtain ⟨R, hR⟩ : ∃ R, R = takeL n (d.data.toList.drop j) := ⟨_, rfl⟩
  rw [← hR]
  by_cases h : j + n ≤ d.size
  · have hcon := fun W hW => take_ok b d j n m p q v y c (.int .i64 n) W hW hd (by omega) h (j + n) rfl
    have hv : R = .ok (d.extract j (j + n)).data.toList (d.data.toList.drop (j + n)) := by
      rw [hR]
      unfold takeL
      rw [if_pos (by omega), List.drop_drop, Lib.extract_data]
      simp
    have HV := Lib.hid hv
    clear hv hR hln
    go_enter Tryz.func20, Tryz.ntmps20
    go_wp2_with (go_at_call 46; refine (hcon _ hr).mono ?_; rintro e w1 ⟨rfl, r1, O1⟩; refine Hid.out ?_)
    refine Lib.hid ?_
    have f6 := r1.free 6
    have x6 : w1.cell? ⟨b, 6, none⟩ = some y := r1.cell 6
    go_wp2_with fail
    go_end0
    refine body_ok HV.out (O1.trans (Only.set w1 6 _)) h ?_
    rw [bs_data]
    exact r1.set 6 (.string (d.extract j (j + n))) (by simp)
  · have hcon := fun W hW => take_no b d j n m p q v y c (.int .i64 n) W hW hj hd (by omega) (by omega)
    have hv : R = .stop 0 := by
      rw [hR]
      unfold takeL
      rw [if_neg (by omega)]
    have HV := Lib.hid hv
    clear hv hR hln
    go_enter Tryz.func20, Tryz.ntmps20
    go_wp2_with (go_at_call 46; refine (hcon _ hr).mono ?_; rintro e w1 ⟨rfl, O1⟩)
    exact ⟨rfl, body_stop HV.out O1⟩
end Go.Proofs.YtcgeiimihihhpaaGreatDoor.W18

namespace Go.Proofs.YtcgeiimihihhpaaGreatDoor.W18
open Go Go.RowKit P12 P18

theorem Only.over {b : Nat} {w wr w2 : World} (h : Only b w wr) (hb : b < w.heap.size) (k : Below w.heap.size wr w2) : Only b w w2 :=
  ⟨h.below.trans (k.mono (Nat.le_of_lt hb)), fun i h1 h2 => (k.block i h2).trans (h.past i h1 h2)⟩
theorem Rd.over {b B : Nat} {c : Array Value} {w w' : World} (h : Rd b c w) (hb : b < B) (k : Below B w w') : Rd b c w' := (k.block b hb).trans h
theorem Bld.only {B b x : Nat} {l : List UInt8} {w w' : World} (h : Bld B x l w) (hb : b < B) (ho : Only b w w') : Bld B x l w' := by
  have hg : w.grownBy w' (some b) := ⟨ho.below.os, ho.below.tape, ho.below.output, ho.size, fun k hk hn => ho.other (fun e => hn (by rw [e])) hk⟩
  have aux : ∀ p, Lib.BuilderAtF 74 5 B x p (Lib.byteCells l) w → Lib.BuilderAtF 74 5 B x p (Lib.byteCells l) w' := by
    intro p h
    have hlt := h.lt
    obtain ⟨hB, v, hbk, hown, hne⟩ := h
    refine ⟨hB, v, by rw [ho.other (by omega) hlt]; exact hbk, hown.kept (row := some b) hg ?_, hne⟩
    cases hv : v.ownBlock with
    | none => exact .inl rfl
    | some k =>
      have := (hown.lt k hv).1
      exact .inr (fun e => by injection e with e; omega)
  rcases h with h | h
  · exact .inl (aux _ h)
  · exact .inr (aux _ h)
theorem drop_get {S : P12.By} {s : ByteArray} (h : s.data.toList = S) (n : Nat) (c : UInt8) (hc : S[n]? = some c) : s.data.toList[n]? = some c := by rw [h]; exact hc

def CrOk (S : P12.By) (n k : Nat) : Prop := (1 ≤ k → ∀ c, S[n]? = some c → c = 13) ∧ (2 ≤ k → ∀ c, S[n + 1]? = some c → c = 10)
set_option maxHeartbeats 3200000 in
set_option maxRecDepth 1000000 in
theorem body_chunks (b : Nat) (d : ByteArray) (j : Nat) (m p q v y c : Value) (w : World) (hr : Rd b (rdr d j m p q v y c (.int .i64 (-1))) w) (hj : j ≤ d.size) (hd : d.size ≤ 281474976710656) :
    Calls Tryz.prog 20 #[.pointer (some ⟨b, 0, none⟩)] w (BodyPost b d m p q v c (.int .i64 (-1)) (chunksGo 1000 (d.data.toList.drop j)) w) := by
  have x8 : w.cell? ⟨b, 8, none⟩ = some (.int .i64 (-1)) := hr.cell 8
  have hbl := hr.lt
  have hb0 := below_alloc w (.cells #[.pointer none, .slice none 0 0] 74)
  have hB0 := fresh_bld w
  have hO0 := Only.of hbl hb0
  have hr0 := hr.keep hb0
  obtain ⟨R, hR⟩ : ∃ R, R = chunksGo 1000 (d.data.toList.drop j) := ⟨_, rfl⟩
  rw [← hR]
  have HR := Lib.hid (show R = (chunksGo (1000 - ([] : P12.By).length) (d.data.toList.drop j)).map ([] ++ ·) by
    rw [hR]
    show chunksGo 1000 _ = (chunksGo 1000 _).map ([] ++ ·)
    cases chunksGo 1000 (d.data.toList.drop j) <;> simp [Res.map])
  clear hR hr hb0
  go_enter Tryz.func20, Tryz.ntmps20
  go_wp2_with fail
  go_loopg [3] (d.size - j) (fun g _ wr => ∃ (j : Nat) (acc : P12.By), j + g ≤ d.size ∧ d.size ≤ j + g ∧ acc.length ≤ 1000 ∧ Hid (R = (chunksGo (1000 - acc.length) (d.data.toList.drop j)).map (acc ++ ·)) ∧ Rd b (rdr d j m p q v y c (.int .i64 (-1))) wr ∧ Bld w.heap.size w.heap.size acc wr ∧ Only b w wr)
  case atStart => exact ⟨j, [], by omega, by omega, by simp, HR, hr0, hB0, hO0⟩
  case round =>
    clear hr0 hB0 hO0 HR hj x8
    obtain ⟨j, acc, hjg, hgj, hac, HR, hr1, hB, hO⟩ := hrel
    have hj : j ≤ d.size := by omega
    cases hl : lineL (d.data.toList.drop j) with
    | stop t =>
      have hv := HR.out
      rw [chunks_stop hl] at hv
      have HV := Lib.hid hv
      have hcon := line_stop b d j m p q v y c _ _ hr1 hj hd t hl
      clear hv HR hl
      go_wp2_with (go_at_call 31; refine hcon.mono ?_; rintro e w2 ⟨rfl, hb2⟩)
      exact ⟨rfl, body_stop HV.out (hO.trans (Only.of hr1.lt hb2))⟩
    | ok l r =>
      obtain ⟨j1, hkj, hjd, hrj, hje⟩ := line_ok_at hj hl
      have hll : l.length ≤ 256 := (P18.line_ok.1 hl).2.1
      obtain ⟨L, hL⟩ : ∃ L : ByteArray, L = ⟨l.toArray⟩ := ⟨_, rfl⟩
      have hcon := line_whole b d j m p q v y c _ _ hr1 hj hd l r hl L hL j1 hje
      have hLd : L.data.toList = l := by rw [hL]
      have hLs : L.size ≤ 256 := by rw [← size_data, hLd]; exact hll
      have HL := Lib.hid hl
      clear hl hL hje hll
      go_wp2_with (go_at_call 31; refine hcon.mono ?_; rintro e w2 ⟨rfl, hr2, hO2⟩; refine Hid.out ?_)
      refine Lib.hid ?_
      have hB2 := Bld.only hB hbl hO2
      have hO3 := hO.trans hO2
      clear hcon hr1 hB hO hO2
      have hhx := fun W => hex_any L W (by omega)
      cases hc : chunkSize l with
      | none =>
        have hv := HR.out
        rw [chunks_bad HL.out hc] at hv
        have HV := Lib.hid hv
        clear hv HR
        by_cases h0 : l = []
        · have g0 : L.toList = [] := by rw [Lib.toList_data, hLd]; exact h0
          clear hc
          go_wp2_with (go_at_call 32; first | ((with_reducible refine (need_ok _ _).mono ?_); rintro e w' ⟨rfl, rfl⟩) | ((with_reducible refine (need_no _ _).mono ?_); rintro e w' ⟨rfl, rfl⟩))
          exact ⟨rfl, body_stop HV.out hO3⟩
        · have g0 : ¬ L.toList = [] := by rw [Lib.toList_data, hLd]; exact h0
          have g0' : (!L.toList.isEmpty) = true := by simp [g0]
          by_cases h4 : L.size ≤ 4
          · have h4' : decide ((L.size : Int) ≤ 4) = true := decide_eq_true (by omega)
            have hx : L.data.toList.all hexC = false := by
              rw [Bool.eq_false_iff]
              intro hh
              unfold chunkSize at hc
              rw [if_pos ⟨h0, by rw [← hLd, size_data]; exact h4, by rw [← hLd]; exact hh⟩] at hc
              cases hc
            rw [hx] at hhx
            clear hc hx
            go_wp2_with (first
              | (go_at_call 32; first | ((with_reducible refine (need_ok _ _).mono ?_); rintro e w' ⟨rfl, rfl⟩) | ((with_reducible refine (need_no _ _).mono ?_); rintro e w' ⟨rfl, rfl⟩))
              | (go_at_call 47; refine (hhx _).mono ?_; rintro e w' ⟨rfl, rfl⟩))
            exact ⟨rfl, body_stop HV.out hO3⟩
          · have h4' : decide ((L.size : Int) ≤ 4) = false := decide_eq_false (by omega)
            clear hc
            go_wp2_with (go_at_call 32; first | ((with_reducible refine (need_ok _ _).mono ?_); rintro e w' ⟨rfl, rfl⟩) | ((with_reducible refine (need_no _ _).mono ?_); rintro e w' ⟨rfl, rfl⟩))
            exact ⟨rfl, body_stop HV.out hO3⟩
      | some n =>
        have hn65 := chunkSize_lt hc
        have hpi := fun W => ParseInt_ok L n (by rw [hLd]; exact hc) W
        have hcc := hc
        unfold chunkSize at hcc
        split at hcc
        · rename_i hcond
          obtain ⟨h0, h4, hx⟩ := hcond
          have g0 : ¬ L.toList = [] := by rw [Lib.toList_data, hLd]; exact h0
          have g0' : (!L.toList.isEmpty) = true := by simp [g0]
          have h4' : decide ((L.size : Int) ≤ 4) = true := decide_eq_true (by rw [← hLd, size_data] at h4; omega)
          rw [hLd, hx] at hhx
          have HC := Lib.hid hc
          clear hc hcc h0 h4 hx
          go_wp2_with (first
            | (go_at_call 32; first | ((with_reducible refine (need_ok _ _).mono ?_); rintro e w' ⟨rfl, rfl⟩) | ((with_reducible refine (need_no _ _).mono ?_); rintro e w' ⟨rfl, rfl⟩))
            | (go_at_call 47; refine (hhx _).mono ?_; rintro e w' ⟨rfl, rfl⟩)
            | (go_at_call 48; refine (hpi _).mono ?_; rintro e w3 ⟨rfl, hb3⟩; refine Hid.out ?_))
          refine Lib.hid ?_
          have hr3 := hr2.keep hb3
          have hB3 := Bld.keep hB2 hb3
          have hO4 := hO3.trans (Only.of hr2.lt hb3)
          have hlen := Len_any _ _ _ _ hB3
          have i1 : IntKind.i64.wrap ((acc.length : Int) + n) = (acc.length : Int) + n := by rw [IntKind.wrap_i64]; omega
          clear hhx hpi hr2 hB2 hO3 hb3
          by_cases hlim : 1000 - acc.length < n
          · have hz : decide ((acc.length : Int) + n ≤ 1000) = false := decide_eq_false (by omega)
            have hv := HR.out
            rw [chunks_413 HL.out HC.out hlim] at hv
            have HV := Lib.hid hv
            clear hv HR
            go_wp2_with (first
              | (go_at_call 32; first | ((with_reducible refine (need_ok _ _).mono ?_); rintro e w' ⟨rfl, rfl⟩) | ((with_reducible refine (need_no _ _).mono ?_); rintro e w' ⟨rfl, rfl⟩))
              | (go_at_call 49; refine hlen.mono ?_; rintro e w' ⟨rfl, rfl⟩))
            exact ⟨rfl, body_stop HV.out hO4⟩
          · have hz : decide ((acc.length : Int) + n ≤ 1000) = true := decide_eq_true (by omega)
            have hz0 : decide ((acc.length : Int) ≤ 1000) = true := decide_eq_true (by omega)
            by_cases hn0 : n = 0
            · subst hn0
              have hv := HR.out
              rw [chunks_last HL.out HC.out] at hv
              rw [hrj] at hv
              cases hl2 : lineL (d.data.toList.drop j1) with
              | stop t =>
                rw [hl2] at hv
                have HV := Lib.hid (show R = .stop t from hv)
                have hcon := fun W hW => line_stop b d j1 m p q v y c (.int .i64 (-1)) W hW hjd hd t hl2
                clear hv HR hl2
                go_wp2_with (first
                  | (go_at_call 32; first | ((with_reducible refine (need_ok _ _).mono ?_); rintro e w' ⟨rfl, rfl⟩) | ((with_reducible refine (need_no _ _).mono ?_); rintro e w' ⟨rfl, rfl⟩))
                  | (go_at_call 49; refine hlen.mono ?_; rintro e w' ⟨rfl, rfl⟩)
                  | (go_at_call 31; refine (hcon _ hr3).mono ?_; rintro e w4 ⟨rfl, hb4⟩))
                exact ⟨rfl, body_stop HV.out (hO4.trans (Only.of hr3.lt hb4))⟩
              | ok l2 r2 =>
                rw [hl2] at hv
                obtain ⟨j2, hkj2, hjd2, hrj2, hje2⟩ := line_ok_at hjd hl2
                obtain ⟨L2, hL2⟩ : ∃ L : ByteArray, L = ⟨l2.toArray⟩ := ⟨_, rfl⟩
                have hcon := fun W hW => line_whole b d j1 m p q v y c (.int .i64 (-1)) W hW hjd hd l2 r2 hl2 L2 hL2 j2 hje2
                have hLd2 : L2.data.toList = l2 := by rw [hL2]
                by_cases h20 : l2 = []
                · have g20 : L2.toList = [] := by rw [Lib.toList_data, hLd2]; exact h20
                  have HV := Lib.hid (show R = .ok acc (d.data.toList.drop j2) by
                    rw [hv]
                    simp only [Res.bind, if_pos h20, Res.map, hrj2, List.append_nil])
                  clear hv HR hl2 hL2 hje2 h20
                  go_wp2_with (first
                    | (go_at_call 32; first | ((with_reducible refine (need_ok _ _).mono ?_); rintro e w' ⟨rfl, rfl⟩) | ((with_reducible refine (need_no _ _).mono ?_); rintro e w' ⟨rfl, rfl⟩))
                    | (go_at_call 49; refine hlen.mono ?_; rintro e w' ⟨rfl, rfl⟩)
                    | (go_at_call 31; refine (hcon _ hr3).mono ?_; rintro e w4 ⟨rfl, hr4, hO5⟩; refine Hid.out ?_))
                  refine Lib.hid ?_
                  have hB4 := Bld.only hB3 hbl hO5
                  have hO6 := hO4.trans hO5
                  have hst := String_any _ _ _ _ hB4 hO6.size
                  clear hcon hlen hr3 hB3 hO4 hO5
                  go_wp2_with (first
                    | (go_at_call 32; first | ((with_reducible refine (need_ok _ _).mono ?_); rintro e w' ⟨rfl, rfl⟩) | ((with_reducible refine (need_no _ _).mono ?_); rintro e w' ⟨rfl, rfl⟩))
                    | (go_at_call 51; refine hst.mono ?_; rintro e w5 ⟨rfl, hk5, -⟩; refine Hid.out ?_))
                  refine Lib.hid ?_
                  have hr5 := hr4.over hbl hk5
                  have hO7 := hO6.over hbl hk5
                  have f6 := hr5.free 6
                  have x6 : w5.cell? ⟨b, 6, none⟩ = some y := hr5.cell 6
                  go_wp2_with fail
                  go_end0
                  exact body_ok HV.out (hO7.trans (Only.set w5 6 _)) hjd2 (hr5.set 6 (bs acc) (by simp))
                · have g20 : ¬ L2.toList = [] := by rw [Lib.toList_data, hLd2]; exact h20
                  have g20' : L2.toList.isEmpty = false := by simpa [List.isEmpty_iff] using g20
                  have HV := Lib.hid (show R = .stop 400 by
                    rw [hv]
                    simp only [Res.bind, if_neg h20, Res.map])
                  clear hv HR hl2 hL2 hje2 h20
                  go_wp2_with (first
                    | (go_at_call 32; first | ((with_reducible refine (need_ok _ _).mono ?_); rintro e w' ⟨rfl, rfl⟩) | ((with_reducible refine (need_no _ _).mono ?_); rintro e w' ⟨rfl, rfl⟩))
                    | (go_at_call 49; refine hlen.mono ?_; rintro e w' ⟨rfl, rfl⟩)
                    | (go_at_call 31; refine (hcon _ hr3).mono ?_; rintro e w4 ⟨rfl, hr4, hO5⟩))
                  exact ⟨rfl, body_stop HV.out (hO4.trans hO5)⟩
            · have hz1 : ((n : Int) == 0) = false := by rw [beq_eq_false_iff_ne]; omega
              have hnle : n ≤ 1000 := by omega
              obtain ⟨S, hS⟩ : ∃ S, S = d.data.toList.drop j1 := ⟨_, rfl⟩
              have hSl : S.length = d.size - j1 := by rw [hS, List.length_drop, size_data]
              have hv := HR.out
              rw [chunks_next HL.out HC.out hlim hn0, hrj, ← hS] at hv
              have HV := Lib.hid hv
              have x0 : w3.cell? ⟨b, 0, none⟩ = some (.string d) := hr3.cell 0
              have x1 : w3.cell? ⟨b, 1, none⟩ = some (.int .i64 j1) := hr3.cell 1
              have k1 : (0 : Int) ≤ (j1 : Int) := by omega
              have k2 : (j1 : Int) ≤ (d.size : Int) := by omega
              obtain ⟨T, hT⟩ : ∃ T : ByteArray, T = d.extract j1 d.size := ⟨_, rfl⟩
              have hTd : T.data.toList = S := by rw [hT, tail_data, hS]
              have HTs := Lib.hid (show T.size = d.size - j1 by rw [hT, tail_size])
              have HT := Lib.hid hT
              clear hv HR hT HL HC
              go_wp2_with (first
                | (go_at_call 32; first | ((with_reducible refine (need_ok _ _).mono ?_); rintro e w' ⟨rfl, rfl⟩) | ((with_reducible refine (need_no _ _).mono ?_); rintro e w' ⟨rfl, rfl⟩))
                | (go_at_call 49; refine hlen.mono ?_; rintro e w' ⟨rfl, rfl⟩))
              go_quiet (fail)
              have hcv := Lib.run_convert_bytes_const (P := Tryz.prog) (w3.drewN nq) 72 5 #[.int .u8 13, .int .u8 10] 2 2 Tryz.underlying72 Tryz.underlying5
              rw [show (w3.drewN nq).heap.size = w3.heap.size from rfl] at hcv
              rw [← HT.out]
              go_wp2_with fail
              clear hcv
              have hb4 := below_then (below_drewN w3 nq) (below_alloc (w3.drewN nq) (.cells #[.int .u8 13, .int .u8 10] 5 (2, 3)))
              have hh := heap_new (w3.drewN nq) (.cells #[.int .u8 13, .int .u8 10] 5 (2, 3))
              rw [show (w3.drewN nq).heap.size = w3.heap.size from rfl] at hh
              have y0 : ((w3.drewN nq).alloc (.cells #[.int .u8 13, .int .u8 10] 5 (2, 3))).cell? ⟨w3.heap.size, 0, none⟩ = some (.int .u8 13) := by unfold World.cell?; dsimp only; rw [hh]; rfl
              have y1 : ((w3.drewN nq).alloc (.cells #[.int .u8 13, .int .u8 10] 5 (2, 3))).cell? ⟨w3.heap.size, 1, none⟩ = some (.int .u8 10) := by unfold World.cell?; dsimp only; rw [hh]; rfl
              have hr4 := hr3.keep hb4
              have hB4 := Bld.keep hB3 hb4
              have hO5 := hO4.trans (Only.of hr3.lt hb4)
              clear hh hb4 hr3 hB3 hO4 hlen x0 x1
              generalize (w3.drewN nq).alloc (.cells #[.int .u8 13, .int .u8 10] 5 (2, 3)) = w4 at *
              go_loop [62] (fun i => ∃ k : Nat, k ≤ 2 ∧ i = .int .i64 k ∧ Hid (CrOk S n k)) (fun i => 2 - (intOf i).toNat)
              case atStart => exact ⟨0, by omega, rfl, Lib.hid ⟨fun h => by omega, fun h => by omega⟩⟩
              case round =>
                obtain ⟨k, hk, rfl, HK⟩ := hrel
                rcases (show k = 0 ∨ k = 1 ∨ k = 2 by omega) with rfl | rfl | rfl
                · cases hSn : S[n]? with
                  | none =>
                    have hge : (T.size : Int) ≤ (n : Int) := by
                      have := HTs.out
                      have := List.getElem?_eq_none_iff.1 hSn
                      omega
                    have HK2 : Hid (CrOk S n 1) := Lib.hid ⟨fun _ c hc => (by rw [hSn] at hc; cases hc), fun h => by omega⟩
                    clear hSn HK
                    go_wp2_with (go_at_call 32; first | ((with_reducible refine (need_ok _ _).mono ?_); rintro e w' ⟨rfl, rfl⟩) | ((with_reducible refine (need_no _ _).mono ?_); rintro e w' ⟨rfl, rfl⟩))
                    go_round
                    case rel => exact ⟨1, by omega, by go_num, HK2⟩
                    case measure => simp [intOf]
                  | some c =>
                    have hlt : n < S.length := (List.getElem?_eq_some_iff.1 hSn).1
                    have hge : ¬ (T.size : Int) ≤ (n : Int) := by have := HTs.out; omega
                    have hge' : decide ((T.size : Int) ≤ (n : Int)) = false := decide_eq_false hge
                    have hx := run_at T n c (drop_get hTd n c hSn)
                    by_cases h13 : c = 13
                    · subst h13
                      have HK2 : Hid (CrOk S n 1) := Lib.hid ⟨fun _ c hc => (by rw [hSn] at hc; exact (Option.some.inj hc).symm), fun h => by omega⟩
                      clear hSn HK
                      go_wp2_with (go_at_call 32; first | ((with_reducible refine (need_ok _ _).mono ?_); rintro e w' ⟨rfl, rfl⟩) | ((with_reducible refine (need_no _ _).mono ?_); rintro e w' ⟨rfl, rfl⟩))
                      go_round
                      case rel => exact ⟨1, by omega, by go_num, HK2⟩
                      case measure => simp [intOf]
                    · have hz13 : ((c.toNat : Int) == 13) = false := toNat_ne h13
                      have hv := HV.out
                      rw [data_first hSn h13] at hv
                      have HV2 := Lib.hid (show R = .stop 400 from hv)
                      clear hSn HK hv HV
                      go_wp2_with (go_at_call 32; first | ((with_reducible refine (need_ok _ _).mono ?_); rintro e w' ⟨rfl, rfl⟩) | ((with_reducible refine (need_no _ _).mono ?_); rintro e w' ⟨rfl, rfl⟩))
                      exact ⟨rfl, body_stop HV2.out hO5⟩
                · cases hSn : S[n + 1]? with
                  | none =>
                    have hge : (T.size : Int) ≤ (n : Int) + 1 := by
                      have := HTs.out
                      have := List.getElem?_eq_none_iff.1 hSn
                      omega
                    have HK2 : Hid (CrOk S n 2) := Lib.hid ⟨fun _ => HK.out.1 (Nat.le_refl _), fun _ c hc => (by rw [hSn] at hc; cases hc)⟩
                    have i6 : IntKind.i64.wrap ((n : Int) + 1) = (n : Int) + 1 := by rw [IntKind.wrap_i64]; omega
                    clear hSn HK
                    go_wp2_with (go_at_call 32; first | ((with_reducible refine (need_ok _ _).mono ?_); rintro e w' ⟨rfl, rfl⟩) | ((with_reducible refine (need_no _ _).mono ?_); rintro e w' ⟨rfl, rfl⟩))
                    go_round
                    case rel => exact ⟨2, by omega, by go_num, HK2⟩
                    case measure => simp [intOf]
                  | some c =>
                    have hlt : n + 1 < S.length := (List.getElem?_eq_some_iff.1 hSn).1
                    have hge : ¬ (T.size : Int) ≤ (n : Int) + 1 := by have := HTs.out; omega
                    have hge' : decide ((T.size : Int) ≤ (n : Int) + 1) = false := decide_eq_false hge
                    have hx := run_at T (n + 1) c (drop_get hTd (n + 1) c hSn)
                    rw [show ((n + 1 : Nat) : Int) = (n : Int) + 1 by omega] at hx
                    have i6 : IntKind.i64.wrap ((n : Int) + 1) = (n : Int) + 1 := by rw [IntKind.wrap_i64]; omega
                    by_cases h10 : c = 10
                    · subst h10
                      have HK2 : Hid (CrOk S n 2) := Lib.hid ⟨fun _ => HK.out.1 (Nat.le_refl _), fun _ c hc => (by rw [hSn] at hc; exact (Option.some.inj hc).symm)⟩
                      clear hSn HK
                      go_wp2_with (go_at_call 32; first | ((with_reducible refine (need_ok _ _).mono ?_); rintro e w' ⟨rfl, rfl⟩) | ((with_reducible refine (need_no _ _).mono ?_); rintro e w' ⟨rfl, rfl⟩))
                      go_round
                      case rel => exact ⟨2, by omega, by go_num, HK2⟩
                      case measure => simp [intOf]
                    · have hz10 : ((c.toNat : Int) == 10) = false := toNat_ne h10
                      have hS13 : S[n]? = some 13 := by
                        have hn' : n < S.length := by omega
                        rw [List.getElem?_eq_getElem hn', HK.out.1 (Nat.le_refl _) _ (List.getElem?_eq_getElem hn')]
                      have hv := HV.out
                      rw [data_second hS13 hSn h10] at hv
                      have HV2 := Lib.hid (show R = .stop 400 from hv)
                      clear hSn HK hv HV hS13
                      go_wp2_with (go_at_call 32; first | ((with_reducible refine (need_ok _ _).mono ?_); rintro e w' ⟨rfl, rfl⟩) | ((with_reducible refine (need_no _ _).mono ?_); rintro e w' ⟨rfl, rfl⟩))
                      exact ⟨rfl, body_stop HV2.out hO5⟩
                · by_cases hfit : j1 + n ≤ d.size
                  · have hcon1 := take_ok b d j1 n m p q v y c _ w4 hr4 hd (by omega) hfit (j1 + n) rfl
                    obtain ⟨X, hX⟩ : ∃ X : ByteArray, X = d.extract j1 (j1 + n) := ⟨_, rfl⟩
                    rw [← hX] at hcon1
                    have hXs : X.size = n := by rw [hX, ByteArray.size_extract]; omega
                    have hXd : X.data.toList = S.take n := by rw [hX, hS, Lib.extract_data]; simp
                    have HX := Lib.hid hXd
                    clear hX hXd
                    have hwr := fun W (h1 : Bld w.heap.size w.heap.size acc W) (h2 : w.heap.size ≤ W.heap.size) => WriteString_any w.heap.size w.heap.size acc X W h1 (by omega) h2
                    by_cases hfit2 : j1 + n + 2 ≤ d.size
                    · have hcon2 := fun W hW => take_ok b d (j1 + n) 2 m p q v y c (.int .i64 (-1)) W hW hd (by omega) hfit2 (j1 + n + 2) rfl
                      have h1 : S[n]? = some 13 := by
                        have hn' : n < S.length := by omega
                        rw [List.getElem?_eq_getElem hn', HK.out.1 (by omega) _ (List.getElem?_eq_getElem hn')]
                      have h2 : S[n + 1]? = some 10 := by
                        have hn' : n + 1 < S.length := by omega
                        rw [List.getElem?_eq_getElem hn', HK.out.2 (by omega) _ (List.getElem?_eq_getElem hn')]
                      have hv := HV.out
                      rw [data_full h1 h2] at hv
                      have hv2 : R = (chunksGo (1000 - (acc ++ X.data.toList).length) (d.data.toList.drop (j1 + n + 2))).map ((acc ++ X.data.toList) ++ ·) := by
                        rw [hv, HX.out, hS, List.drop_drop]
                        have e1 : 1000 - acc.length - n = 1000 - (acc ++ (List.take n (List.drop j1 d.data.toList))).length := by
                          rw [List.length_append, List.length_take, List.length_drop, size_data]
                          omega
                        rw [e1, show j1 + (n + 2) = j1 + n + 2 by omega]
                        simp only [Res.bind]
                        cases chunksGo (1000 - (acc ++ (List.take n (List.drop j1 d.data.toList))).length) (List.drop (j1 + n + 2) d.data.toList) <;> simp [Res.map]
                      have hl2 : (acc ++ X.data.toList).length ≤ 1000 := by rw [List.length_append, size_data]; omega
                      have HV2 := Lib.hid hv2
                      clear hv hv2 h1 h2 HK HV
                      go_wp2_with (go_at_call 46; refine hcon1.mono ?_; rintro e w5 ⟨rfl, hr5, hO6⟩; refine Hid.out ?_)
                      refine Lib.hid ?_
                      have hB5 := Bld.only hB4 hbl hO6
                      have hO7 := hO5.trans hO6
                      have hwr2 := hwr _ hB5 hO7.size
                      clear hwr hcon1 hr4 hB4 hO5 hO6
                      go_wp2_with (go_at_call 50; refine hwr2.mono ?_; rintro e w6 ⟨rfl, hB6, hk6, -⟩; refine Hid.out ?_)
                      refine Lib.hid ?_
                      have hr6 := hr5.over hbl hk6
                      have hO8 := hO7.over hbl hk6
                      clear hwr2 hr5 hB5 hO7
                      go_wp2_with (go_at_call 46; refine (hcon2 _ hr6).mono ?_; rintro e w7 ⟨rfl, hr7, hO9⟩; refine Hid.out ?_)
                      refine Lib.hid ?_
                      go_wp2_with fail
                      go_roundg (d.size - (j1 + n + 2))
                      case measure => omega
                      case rel => exact ⟨j1 + n + 2, acc ++ X.data.toList, by omega, by omega, hl2, HV2, hr7, Bld.only hB6 hbl hO9, hO8.trans hO9⟩
                    · have hcon2 := fun W hW => take_no b d (j1 + n) 2 m p q v y c (.int .i64 (-1)) W hW hfit hd (by omega) (by omega)
                      have hv := HV.out
                      rw [data_short (HK.out.1 (by omega)) (by omega)] at hv
                      have HV2 := Lib.hid (show R = .stop 0 from hv)
                      clear hv HK HV
                      go_wp2_with (go_at_call 46; refine hcon1.mono ?_; rintro e w5 ⟨rfl, hr5, hO6⟩; refine Hid.out ?_)
                      refine Lib.hid ?_
                      have hB5 := Bld.only hB4 hbl hO6
                      have hO7 := hO5.trans hO6
                      have hwr2 := hwr _ hB5 hO7.size
                      clear hwr hcon1 hr4 hB4 hO5 hO6
                      go_wp2_with (go_at_call 50; refine hwr2.mono ?_; rintro e w6 ⟨rfl, hB6, hk6, -⟩; refine Hid.out ?_)
                      refine Lib.hid ?_
                      have hr6 := hr5.over hbl hk6
                      have hO8 := hO7.over hbl hk6
                      clear hwr2 hr5 hB5 hO7
                      go_wp2_with (go_at_call 46; refine (hcon2 _ hr6).mono ?_; rintro e w7 ⟨rfl, hO9⟩)
                      exact ⟨rfl, body_stop HV2.out (hO8.trans hO9)⟩
                  · have hcon1 := take_no b d j1 n m p q v y c _ w4 hr4 hjd hd (by omega) (by omega)
                    have hv := HV.out
                    rw [data_short (HK.out.1 (by omega)) (by omega)] at hv
                    have HV2 := Lib.hid (show R = .stop 0 from hv)
                    clear hv HK HV
                    go_wp2_with (go_at_call 46; refine hcon1.mono ?_; rintro e w5 ⟨rfl, hO6⟩)
                    exact ⟨rfl, body_stop HV2.out (hO5.trans hO6)⟩
        · cases hcc
end Go.Proofs.YtcgeiimihihhpaaGreatDoor.W18

namespace Go.Proofs.YtcgeiimihihhpaaGreatDoor.W18
open Go Go.RowKit P12 P18

theorem only_putObj {b l : Nat} (h : b ≤ l) (W : World) (o : Obj) : Below b W (W.putObj l o) :=
  ⟨rfl, rfl, rfl, by simp, fun k hk => World.putObj_heap_other (by omega)⟩

/-- The iterator's contract: it hands on the parts, one behind the other; it writes its own variable (block n0) alone. -/
def Gives (n0 : Nat) (m : Nat) (gf : Nat) (lb : Array Value) (parts : List P12.By) (w : World) : Prop :=
  ∀ (l : Nat) (J : Nat → World → Prop) (W : World), (∀ k A B, J k A → Only n0 A B → J k B) →
    (∀ k x W1, parts[k]? = some x → J k W1 → YieldAt Fence.wide (m - 1) Tryz.prog l #[bs x] W1 fun e W' => e = .returned (.bool true) ∧ J (k + 1) W' ∧ (∀ i, n0 ≤ i → i ≤ n0 + 2 → W'.heap[i]? = W1.heap[i]?)) →
    Below w.heap.size w W → J 0 W →
    CallsIn Fence.wide m Tryz.prog gf (#[.func (.yield l) #[] #[]] ++ lb) W fun e W' => (∃ v, e = .returned v) ∧ J parts.length W'

/-- The statement 'for x := range seq { .. }', where the body goes on in every round and writes block b alone of what was there. -/
theorem wp_rangeSplit {g : Operand} {ps : Array Tmp} {assign body : Code} {Q : Exit → Act → World → Prop} {a : Act} {w : World} {gf : Nat} {lb : Array Value}
    (hg : a.eval g = .func (.func gf) #[] lb) (eg : ∀ args w, (callFunc gf args).run Tryz.prog w = .ok (.enter gf args) w)
    (n0 b : Nat) (hb : b < n0) (hn : n0 + 2 < w.heap.size) (parts : List P12.By) (hit : Gives n0 3 gf lb parts w) (hps : ps.size = 1)
    (I : Nat → World → Prop) (hI : ∀ k A B, I k A → Below n0 A B → I k B) (h0 : I 0 w) (a₁ : P12.By → Act)
    (hassign : ∀ (l : Nat) (x : P12.By) (W : World) (K : Act → World → Prop), K (a₁ x) W →
      assign.wpIn (Fence.wide.inRound l) 2 Tryz.prog (Exit.then K (fun _ _ _ => False)) { tmps := (ps.zip #[bs x]).foldl (fun t (p, v) => t.setIfInBounds p v) a.tmps, defers := [] } W)
    (hbody : ∀ (l k : Nat) (x : P12.By) (W : World), parts[k]? = some x → I k W → body.wpIn (Fence.wide.inRound l) 2 Tryz.prog (fun e _ W' => e = .normal ∧ Only b W W' ∧ I (k + 1) W') (a₁ x) W)
    (hdone : ∀ (W : World), I parts.length W → W.heap[w.heap.size]? = some (.deferred (some [])) → Q .normal { a with defers := { target := .collected w.heap.size, args := #[] } :: a.defers } W) :
    (Code.rangeFunc g ps assign body).wp Tryz.prog Q a w := by
  refine (wpIn_wide (n := 4)).1 ?_
  refine wpIn_rangeFunc ?_
  intro fn hfn
  obtain ⟨rec, hrec⟩ : ∃ rec : LoopState → Option Code → Loop, rec = fun st pe => { state := st, pending := pe, fn, tmps := a.tmps, params := ps, assign, body, defers := w.heap.size } := ⟨_, rfl⟩
  obtain ⟨W1, hW1⟩ : ∃ W1, (w.alloc (.deferred (some []))).alloc (.loop (rec .ready none)) = W1 := ⟨_, rfl⟩
  have hL1 : W1.heap[w.heap.size + 1]? = some (.loop (rec .ready none)) := by
    rw [← hW1]; have := World.alloc_heap_new (w.alloc (.deferred (some []))) (.loop (rec .ready none)); rwa [World.size_alloc] at this
  have hK1 : W1.heap[w.heap.size]? = some (.deferred (some [])) := by
    rw [← hW1]; exact (Below.heap_alloc _ _ _ (by simp)).trans (World.alloc_heap_new w _)
  have hb1 : Below w.heap.size w W1 := by
    rw [← hW1]; exact ((Below.refl _ w).alloc (Nat.le_refl _) _).alloc (by simp) _
  have hI1 : I 0 W1 := hI 0 w W1 h0 (hb1.mono (by omega))
  refine ⟨w.heap.size + 1, [{ target := .collected w.heap.size, args := #[] }], W1, { target := .fn (.func gf) lb, args := #[.func (.yield (w.heap.size + 1)) #[] #[]] }, W1, gf,
    #[.func (.yield (w.heap.size + 1)) #[] #[]] ++ lb, W1, ?_, ?_, ?_, ?_, fun _ => by omega, ?_⟩
  · rw [← hW1, hrec]; exact run_enterLoop_outer _ _ _ _ _
  · simp only [resolve, hg]
    simp [go_sem]
  · intro f' hf'; trivial
  · simp [invoke, go_sem, eg]
  · refine (hit (w.heap.size + 1) (fun k W => I k W ∧ W.heap[w.heap.size + 1]? = some (.loop (rec .ready none)) ∧ W.heap[w.heap.size]? = some (.deferred (some []))) W1 ?_ ?_ hb1 ⟨hI1, hL1, hK1⟩).mono ?_
    · rintro k A B ⟨h1, h2, h3⟩ ho
      exact ⟨hI k A B h1 ho.below, (ho.other (by omega) (Array.getElem?_eq_some_iff.1 h2).1).trans h2, (ho.other (by omega) (Array.getElem?_eq_some_iff.1 h3).1).trans h3⟩
    · rintro k x W hx ⟨hi, hl, hk⟩
      have hlt : w.heap.size + 1 < W.heap.size := (Array.getElem?_eq_some_iff.1 hl).1
      have hy := run_yield (P := Tryz.prog) (args := #[bs x]) hl (by rw [hrec]; exact hps.symm)
      rw [hrec] at hy
      refine ⟨fn, _, assign, body, hy, roundIn_of_wpIn hfn (hassign _ x W _ ⟨_, run_beginRound hl (by rw [hrec]), ?_⟩)⟩
      have hl2 : (W.putObj (w.heap.size + 1) (.loop { rec .ready none with state := .busy })).heap[w.heap.size + 1]? = some (.loop { rec .ready none with state := .busy }) := World.putObj_heap_same hlt
      have hk2 : (W.putObj (w.heap.size + 1) (.loop { rec .ready none with state := .busy })).heap[w.heap.size]? = some (.deferred (some [])) := (World.putObj_heap_other (by omega)).trans hk
      have hi2 := hI k _ _ hi (only_putObj (b := n0) (l := w.heap.size + 1) (by omega) W (.loop { rec .ready none with state := .busy }))
      refine wpIn_mono (hbody _ k x _ hx hi2) ?_
      rintro e a3 W3 ⟨rfl, ho, hi3⟩
      have hl3 : W3.heap[w.heap.size + 1]? = some (.loop { rec .ready none with state := .busy }) := (ho.other (by omega) (Array.getElem?_eq_some_iff.1 hl2).1).trans hl2
      have hk3 : W3.heap[w.heap.size]? = some (.deferred (some [])) := (ho.other (by omega) (Array.getElem?_eq_some_iff.1 hk2).1).trans hk2
      have hend := run_endRound (P := Tryz.prog) none hl3
      refine ⟨_, _, hend, rfl, ⟨?_, ?_, ?_⟩, ?_⟩
      · exact hI _ _ _ hi3 (only_putObj (by omega) _ _)
      · rw [World.putObj_heap_same (Array.getElem?_eq_some_iff.1 hl3).1, hrec]
        rfl
      · exact (World.putObj_heap_other (by omega)).trans hk3
      · intro i h1 h2
        rw [World.putObj_heap_other (by omega), ho.other (by omega) (by rw [World.putObj_size]; omega), World.putObj_heap_other (by omega)]
    · rintro e W2 ⟨⟨v, rfl⟩, hi, hl, hk⟩
      refine ⟨none, _, by have := run_endLoop (P := Tryz.prog) hl (by rw [hrec]; simp); rw [hrec] at this; exact this, ?_⟩
      exact hdone _ (hI _ _ _ hi (only_putObj (by omega) _ _)) ((World.putObj_heap_other (by omega)).trans hk)

set_option maxHeartbeats 3200000 in
set_option maxRecDepth 100000 in
theorem SplitSeq_any (s : ByteArray) (w : World) :
    Calls Tryz.prog 52 #[.string s, .string ⟨#[44]⟩] w fun e w' => e = .returned (.func (.func 104) #[] #[.pointer (some ⟨w.heap.size + 1, 0, none⟩), .pointer (some ⟨w.heap.size, 0, none⟩), .pointer (some ⟨w.heap.size + 2, 0, none⟩)]) ∧
      w' = ((w.alloc (.cells #[.string s] 9)).alloc (.cells #[.string ⟨#[44]⟩] 9)).alloc (.cells #[.int .i64 0] 3) := by
  have hmf : ∀ (fn : Fn) (first cap : Array Value) (w : World), (Instr.makeFunc fn first cap).run Tryz.prog w = .ok (.func fn first cap) w := fun _ _ _ _ => rfl
  go_enter Tryz.func52, Tryz.ntmps52
  go_wp2_with (go_at_call 79; go_in)
  go_ret
  exact ⟨rfl, rfl⟩

/-- What the iterator's own variable holds. -/
def leftS (n0 : Nat) (w : World) : Nat := match w.cell? ⟨n0, 0, none⟩ with
  | some (.string r) => r.size
  | _ => 0
theorem leftS_eq {n0 : Nat} {w : World} {r : ByteArray} {t : TypeId} (h : w.heap[n0]? = some (.cells #[.string r] t (0, 0))) : leftS n0 w = r.size := by
  unfold leftS
  rw [cell_of_one h]
attribute [local go_sem] Oper.semAt_some
set_option maxHeartbeats 3200000 in
set_option maxRecDepth 100000 in
theorem split_gives (s : ByteArray) (n0 : Nat) (w : World) (hs : s.size ≤ 140737488355328) (g0 : w.heap[n0]? = some (.cells #[.string s] 9 (0, 0))) (g1 : w.heap[n0 + 1]? = some (.cells #[.string ⟨#[44]⟩] 9 (0, 0))) (g2 : w.heap[n0 + 2]? = some (.cells #[.int .i64 0] 3 (0, 0))) :
    Gives n0 3 104 #[.pointer (some ⟨n0 + 1, 0, none⟩), .pointer (some ⟨n0, 0, none⟩), .pointer (some ⟨n0 + 2, 0, none⟩)] (partsL 44 s.data.toList) w := by
  intro l J W hJ hY hW h0
  replace g0 := (hW.block _ (lt_of_block g0)).trans g0
  replace g1 := (hW.block _ (lt_of_block g1)).trans g1
  replace g2 := (hW.block _ (lt_of_block g2)).trans g2
  have c1 := cell_of_one g1
  obtain ⟨PS, hPS⟩ : ∃ PS, PS = partsL 44 s.data.toList := ⟨_, rfl⟩
  rw [← hPS] at hY ⊢
  refine callsIn_of_wp Tryz.func104 rfl trivial ?_ rfl
  simp only [Tryz.ntmps104, List.size_toArray, List.length_cons, List.length_nil, Nat.reduceAdd, Nat.reduceSub, Array.replicate_succ, Array.replicate_zero, List.push_toArray, List.append_toArray, List.nil_append, List.cons_append]
  gi_wp2
  gi_loopw [7] (fun _ wr => ∃ (k : Nat) (r : ByteArray), wr.heap[n0]? = some (.cells #[.string r] 9 (0, 0)) ∧ wr.heap[n0 + 1]? = some (.cells #[.string ⟨#[44]⟩] 9 (0, 0)) ∧ wr.heap[n0 + 2]? = some (.cells #[.int .i64 0] 3 (0, 0)) ∧ Hid (partsL 44 r.data.toList = PS.drop k) ∧ J k wr ∧ r.size ≤ 140737488355328) (fun _ wr => leftS n0 wr)
  case atStart => exact ⟨0, s, g0, g1, g2, Lib.hid (by rw [hPS]; rfl), h0, hs⟩
  case round =>
    clear g0 g1 g2 c1 h0 hs hPS
    obtain ⟨k, r, g0, g1, g2, HP, hJk, hrs⟩ := hrel
    have c0 := cell_of_one g0
    have c1 := cell_of_one g1
    have c2 := cell_of_one g2
    have hidx : Lib.indexB r ⟨#[44]⟩ = Lib.indexByte r.data.toList 44 := Lib.index_one _ _
    have hcon := fun W => Any.strings_Index_one Tryz.lays143 r 44 W
    rw [← hidx] at hcon
    rcases Lib.indexB_cases r ⟨#[44]⟩ with h | ⟨i, h, hi⟩
    · have hnot : (44 : UInt8) ∉ r.data.toList := by
        intro hm
        obtain ⟨k, hk⟩ := List.mem_iff_getElem?.1 hm
        exact Lib.indexByte_none (hidx.symm.trans h) k hk
      have hp := HP.out
      rw [partsL_free hnot] at hp
      have hx : PS[k]? = some r.data.toList := by
        have := congrArg (·[0]?) hp
        simp only [List.getElem?_cons_zero, List.getElem?_drop, Nat.add_zero] at this
        exact this.symm
      have hlen : k + 1 = PS.length := by
        have := congrArg List.length hp
        simp only [List.length_cons, List.length_nil, List.length_drop] at this
        omega
      obtain ⟨fn, tmps, assign, body, hy, hR⟩ := hY k _ _ hx hJk
      rw [bs_data] at hy
      rw [h] at hcon
      clear hidx h hnot hp hx HP
      gi_wp2_with (refine ⟨trivial, ?_⟩; gi_at_call 89; refine (callsIn_wide.2 (hcon _)).mono ?_; rintro e w' ⟨rfl, rfl⟩)
      refine hR.mono ?_
      rintro e W' ⟨rfl, hJ', hk⟩
      gi_wp2
      go_end0
      exact ⟨⟨_, rfl⟩, by rw [← hlen]; exact hJ'⟩
    · obtain ⟨hi1, hnot, hsplit⟩ := index_split r 44 i h
      have hp := HP.out
      rw [hsplit, partsL_at hnot] at hp
      have hx : PS[k]? = some (r.extract 0 i).data.toList := by
        have := congrArg (·[0]?) hp
        simp only [List.getElem?_cons_zero, List.getElem?_drop, Nat.add_zero] at this
        exact this.symm
      have hnx : partsL 44 (r.extract (i + 1) r.size).data.toList = PS.drop (k + 1) := by
        have := congrArg List.tail hp
        simp only [List.tail_cons, List.tail_drop] at this
        exact this
      have hYs : (r.extract (i + 1) r.size).size = r.size - (i + 1) := by rw [ByteArray.size_extract]; omega
      have HYs := Lib.hid hYs
      obtain ⟨fn, tmps, assign, body, hy, hR⟩ := hY k _ _ hx hJk
      rw [bs_data] at hy
      rw [h] at hcon
      have HN := Lib.hid hnx
      have i0 : (0 : Int) ≤ (i : Int) := by omega
      have i1 : (i : Int) ≤ (r.size : Int) := by omega
      have i2 : (i : Int) + 1 ≤ (r.size : Int) := by omega
      have i3 : (0 : Int) ≤ (i : Int) + 1 := by omega
      clear hidx h hnot hp hx HP hnx hsplit hi hYs
      gi_wp2_with (refine ⟨trivial, ?_⟩; gi_at_call 89; refine (callsIn_wide.2 (hcon _)).mono ?_; rintro e w' ⟨rfl, rfl⟩)
      refine hR.mono ?_
      rintro e W' ⟨rfl, hJ', hk⟩
      have d0 := (hk n0 (Nat.le_refl _) (by omega)).trans g0
      have d1 := (hk (n0 + 1) (by omega) (by omega)).trans g1
      have d2 := (hk (n0 + 2) (by omega) (by omega)).trans g2
      have x0 := cell_of_one d0
      have x1 := cell_of_one d1
      have z0 := free_of_one d0
      clear hk hR hy g1 g2 c0 c1 c2
      gi_wp2
      go_roundw
      case rel => exact ⟨k + 1, _, one_setCell d0, (Below.heap_setCell _ _ _ _ (by simp)).trans d1, (Below.heap_setCell _ _ _ _ (by simp)).trans d2, HN, hJ _ _ _ hJ' (Only.set _ 0 _), by rw [HYs.out]; omega⟩
      case measure => rw [leftS_eq (one_setCell d0), leftS_eq g0, HYs.out]; omega
end Go.Proofs.YtcgeiimihihhpaaGreatDoor.W18
