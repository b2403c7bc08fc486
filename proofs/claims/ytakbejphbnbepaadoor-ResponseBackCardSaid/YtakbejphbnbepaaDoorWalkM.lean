/-
  Walks of layer 19: All and the reference's All. Conditions: the library's table; the text's own bound; the replies' cells fit an append.
-/
import Derived.Test.YtakbejphbnbepaaDoorWalkL
namespace Go.Proofs.YtakbejphbnbepaaDoor.W19
open Go Go.RowKit P19

/-- A reply's cells; a list's. -/
def cellsR (r : Rep) : List Value := [.int .i64 r.status, bs r.body, .bool r.close]
def cellsL (l : List Rep) : List Value := (l.map cellsR).flatten
theorem cellsL_snoc (l : List Rep) (r : Rep) : cellsL (l ++ [r]) = cellsL l ++ cellsR r := by simp [cellsL]
theorem below_grown {w w' : World} (h : Below w.heap.size w w') (row : Option Nat) : w.grownBy w' row := ⟨h.os, h.tape, h.output, h.size, fun k hk _ => h.block k hk⟩
theorem own_keep {w w' : World} {base : Nat} {e : TypeId} {size : Nat} {v : Value} {n : Nat} {xs : List Value} (h : w.ownsRow base e size v n xs) (hb : Below w.heap.size w w') : w'.ownsRow base e size v n xs :=
  h.kept (below_grown hb none) (by cases hv : v.ownBlock with | none => exact .inl rfl | some k => exact .inr (by simp))
theorem infoR : (Tryd.prog.info? 25).map (fun i => (i.zero, i.size, i.bytes)) = some (some (.agg #[.int .i64 0, .string ⟨#[]⟩, .bool false]), 3, 32) := by kernel_rfl
theorem news_at (w : World) (cs : List Value) (T : TypeId) (j : Nat) (u : Value) (h : cs[j]? = some u) : (w.alloc (.cells cs.toArray T)).cell? ((⟨w.heap.size, 0, none⟩ : Addr).add j) = some u := by
  rw [Lib.add_plain, Nat.zero_add, Lib.cell_of_heap (heap_new w _)]
  simpa using h

theorem Read_as (s : ByteArray) (st : Int) (body : ByteArray) (c : Bool) (n : Nat) (E : Int) (h : readL s.data.toList = (⟨st, body.data.toList, c⟩, n, E)) (w : World) (hT : Tab w) (hm : s.size ≤ 9223372036854770000) :
    Calls Tryd.prog 13 #[.string s] w fun e w' => e = .returned (.tuple #[.agg #[.int .i64 st, .string body, .bool c], .int .i64 n, .int .i64 E]) ∧ Below w.heap.size w w' := by
  have := Read_any s w hT hm
  rw [h] at this
  exact this.mono fun _ _ ⟨he, hw⟩ => ⟨he.trans (ret3 (by unfold repV; rw [bs_data]) rfl rfl), hw⟩
theorem refRead_as (s : ByteArray) (st : Int) (body : ByteArray) (c : Bool) (n : Nat) (E : Int) (h : readL s.data.toList = (⟨st, body.data.toList, c⟩, n, E)) (w : World) (hT : Tab w) (hm : s.size ≤ 9223372036854770000) :
    Calls Tryd.prog 14 #[.string s] w fun e w' => e = .returned (.tuple #[.agg #[.int .i64 st, .string body, .bool c], .int .i64 n, .int .i64 E]) ∧ Below w.heap.size w w' := by
  have := refRead_any s w hT hm
  rw [ref_eq, h] at this
  exact this.mono fun _ _ ⟨he, hw⟩ => ⟨he.trans (ret3 (by unfold repV; rw [bs_data]) rfl rfl), hw⟩
theorem read_named (l : By) : ∃ (st : Int) (body : ByteArray) (c : Bool) (n : Nat) (E : Int), readL l = (⟨st, body.data.toList, c⟩, n, E) :=
  ⟨_, ⟨(readL l).1.body.toArray⟩, _, _, _, by simp; rfl⟩

/-- What a walk of All comes to. -/
def AllPost (w : World) (l : By) (e : Ending) (w' : World) : Prop :=
  ∃ v, e = .returned (.tuple #[v, .int .i64 ((allL l).2 : Nat)]) ∧ w'.ownsRow w.heap.size 25 3 v (allL l).1.length (cellsL (allL l).1) ∧ Below w.heap.size w w'

set_option maxRecDepth 100000 in
set_option maxHeartbeats 3200000 in
theorem All_any (s : ByteArray) (w : World) (hT : Tab w) (hm : s.size ≤ 9223372036854770000) (hcap : (allL s.data.toList).1.length * 32 ≤ 140737488355328) :
    Calls Tryd.prog 15 #[.string s] w (AllPost w s.data.toList) := by
  obtain ⟨i0, hi, hz0, hz1, hz2⟩ := info_parts infoR
  go_enter Tryd.func15, Tryd.ntmps15
  go_wp2_with fail
  go_loopw [4, 5] (fun v i wr => ∃ (p : Nat) (L : List Rep), p ≤ s.size ∧ i = .int .i64 p ∧ wr.ownsRow w.heap.size 25 3 v L.length (cellsL L) ∧ Below w.heap.size w wr ∧
      allL s.data.toList = (L ++ (allL (s.data.toList.drop p)).1, p + (allL (s.data.toList.drop p)).2)) (fun _ i _ => s.size - (intOf i).toNat)
  case atStart => exact ⟨0, [], by omega, rfl, World.ownsRow_nil _ _ _ _, Below.refl _ _, by simp⟩
  case round =>
    obtain ⟨p, L, hp, rfl, hown, hB, hL⟩ := hrel
    have hT1 := hT.keep hB
    obtain ⟨st, body, c, n, E, hr⟩ := read_named (s.data.toList.drop p)
    have hr' : readL (s.extract p s.size).data.toList = (⟨st, body.data.toList, c⟩, n, E) := by rw [drop_data]; exact hr
    have hes : (s.extract p s.size).size ≤ 9223372036854770000 := by rw [← size_data, drop_data, List.length_drop, size_data]; omega
    have HR := Lib.hid hr'
    have HS := Lib.hid hes
    clear hr' hes hT
    by_cases hE : E = 0
    · subst hE
      have hst := allL_step (s := s.data.toList.drop p) (by rw [hr])
      rw [hr] at hst
      simp only at hst
      have hpos := readL_pos (s := s.data.toList.drop p) (by rw [hr])
      rw [hr, List.length_drop, size_data] at hpos
      simp only at hpos
      have hL2 : allL s.data.toList = (L ++ [⟨st, body.data.toList, c⟩] ++ (allL (s.data.toList.drop (p + n))).1, p + n + (allL (s.data.toList.drop (p + n))).2) := by
        rw [hL, hst, List.drop_drop]
        simp [Nat.add_assoc]
      have hlen : (L.length + 1) * 32 ≤ 140737488355328 := by
        refine Nat.le_trans ?_ hcap
        rw [hL2]
        simp
        omega
      have HL2 := Lib.hid hL2
      have HO := Lib.hid hown
      clear hL hr hst hL2 hown
      go_wp2_with (first
        | (go_at_call 13; refine (Read_as (s.extract p s.size) st body c n 0 HR.out _ hT1 HS.out).mono ?_; rintro e w1 ⟨rfl, hb1⟩; have hown1 := own_keep HO.out hb1; have hs1 := hB.size; have hs2 := hb1.size)
        | (at_builtin; refine wpList_append_own _ rfl _ _ 33 rfl w.heap.size 25 i0 (.agg #[.int .i64 0, .string ⟨#[]⟩, .bool false]) 3 32 Tryd.underlying33 hi hz0 hz1 hz2 rfl (by decide) _ _ _ rfl ((hown1.alloc _).alloc _) ⟨w1.heap.size + 1, 0, none⟩ 1 1 [.int .i64 st, .string body, .bool c] rfl rfl ?c1 ?c2 ?c3 ?c4 ?c5 ?_))
      case c1 =>
        intro j u hj
        have := news_at (w1.alloc (.cells #[.int .i64 st, .string body, .bool c] 25)) [.int .i64 st, .string body, .bool c] 25 j u hj
        rwa [World.size_alloc] at this
      case c2 =>
        intro u hu
        simp only [List.mem_cons, List.mem_nil_iff, or_false] at hu
        rcases hu with rfl | rfl | rfl <;> rfl
      case c3 => unfold maxLen; omega
      case c4 => omega
      case c5 => simp; omega
      · intro v' w2 hown' hgrow _
        have hB2 : Below w.heap.size w w2 := ((((hB.trans (hb1.mono hs1)).alloc (by omega) _).alloc (by simp; omega) _).grown hgrow (by simp; omega) (fun j e => (hown1.lt j e).1))
        clear hgrow hown1
        go_wp2_with fail
        go_roundw
        case rel =>
          have ec : cellsR ⟨st, body.data.toList, c⟩ = [.int .i64 st, .string body, .bool c] := by unfold cellsR; rw [bs_data]
          exact ⟨p + n, L ++ [⟨st, body.data.toList, c⟩], by omega, by go_num, by rw [cellsL_snoc, List.length_append, ec]; exact hown', hB2, HL2.out⟩
        case measure => simp [intOf]; omega
    · have hEb : (E == 0) = false := ne_bool hE
      clear hcap
      have hst := allL_stop (s := s.data.toList.drop p) (by rw [hr]; exact hE)
      rw [hst] at hL
      have HL := Lib.hid hL
      have HO := Lib.hid hown
      clear hL hst hr hown hE
      go_wp2_with (go_at_call 13; refine (Read_as (s.extract p s.size) st body c n E HR.out _ hT1 HS.out).mono ?_; rintro e w1 ⟨rfl, hb1⟩)
      go_ret2
      have hO1 := (own_keep HO.out hb1).alloc (.cells #[.int .i64 st, .string body, .bool c] 25)
      have hB1 := (hB.trans (hb1.mono hB.size)).alloc (Nat.le_trans hB.size hb1.size) (.cells #[.int .i64 st, .string body, .bool c] 25)
      refine ⟨_, ret2 rfl (vint (by rw [HL.out]; simp)), ?_, hB1⟩
      rw [HL.out]
      simpa using hO1

set_option maxRecDepth 100000 in
set_option maxHeartbeats 3200000 in
theorem refAll_any (s : ByteArray) (w : World) (hT : Tab w) (hm : s.size ≤ 9223372036854770000) (hcap : (allL s.data.toList).1.length * 32 ≤ 140737488355328) :
    Calls Tryd.prog 16 #[.string s] w (AllPost w s.data.toList) := by
  obtain ⟨i0, hi, hz0, hz1, hz2⟩ := info_parts infoR
  go_enter Tryd.func16, Tryd.ntmps16
  go_wp2_with fail
  go_loopw [4, 5] (fun v i wr => ∃ (p : Nat) (L : List Rep), p ≤ s.size ∧ i = .int .i64 p ∧ wr.ownsRow w.heap.size 25 3 v L.length (cellsL L) ∧ Below w.heap.size w wr ∧
      allL s.data.toList = (L ++ (allL (s.data.toList.drop p)).1, p + (allL (s.data.toList.drop p)).2)) (fun _ i _ => s.size - (intOf i).toNat)
  case atStart => exact ⟨0, [], by omega, rfl, World.ownsRow_nil _ _ _ _, Below.refl _ _, by simp⟩
  case round =>
    obtain ⟨p, L, hp, rfl, hown, hB, hL⟩ := hrel
    have hT1 := hT.keep hB
    obtain ⟨st, body, c, n, E, hr⟩ := read_named (s.data.toList.drop p)
    have hr' : readL (s.extract p s.size).data.toList = (⟨st, body.data.toList, c⟩, n, E) := by rw [drop_data]; exact hr
    have hes : (s.extract p s.size).size ≤ 9223372036854770000 := by rw [← size_data, drop_data, List.length_drop, size_data]; omega
    have HR := Lib.hid hr'
    have HS := Lib.hid hes
    clear hr' hes hT
    by_cases hE : E = 0
    · subst hE
      have hst := allL_step (s := s.data.toList.drop p) (by rw [hr])
      rw [hr] at hst
      simp only at hst
      have hpos := readL_pos (s := s.data.toList.drop p) (by rw [hr])
      rw [hr, List.length_drop, size_data] at hpos
      simp only at hpos
      have hL2 : allL s.data.toList = (L ++ [⟨st, body.data.toList, c⟩] ++ (allL (s.data.toList.drop (p + n))).1, p + n + (allL (s.data.toList.drop (p + n))).2) := by
        rw [hL, hst, List.drop_drop]
        simp [Nat.add_assoc]
      have hlen : (L.length + 1) * 32 ≤ 140737488355328 := by
        refine Nat.le_trans ?_ hcap
        rw [hL2]
        simp
        omega
      have HL2 := Lib.hid hL2
      have HO := Lib.hid hown
      clear hL hr hst hL2 hown
      go_wp2_with (first
        | (go_at_call 14; refine (refRead_as (s.extract p s.size) st body c n 0 HR.out _ hT1 HS.out).mono ?_; rintro e w1 ⟨rfl, hb1⟩; have hown1 := own_keep HO.out hb1; have hs1 := hB.size; have hs2 := hb1.size)
        | (at_builtin; refine wpList_append_own _ rfl _ _ 33 rfl w.heap.size 25 i0 (.agg #[.int .i64 0, .string ⟨#[]⟩, .bool false]) 3 32 Tryd.underlying33 hi hz0 hz1 hz2 rfl (by decide) _ _ _ rfl ((hown1.alloc _).alloc _) ⟨w1.heap.size + 1, 0, none⟩ 1 1 [.int .i64 st, .string body, .bool c] rfl rfl ?c1 ?c2 ?c3 ?c4 ?c5 ?_))
      case c1 =>
        intro j u hj
        have := news_at (w1.alloc (.cells #[.int .i64 st, .string body, .bool c] 25)) [.int .i64 st, .string body, .bool c] 25 j u hj
        rwa [World.size_alloc] at this
      case c2 =>
        intro u hu
        simp only [List.mem_cons, List.mem_nil_iff, or_false] at hu
        rcases hu with rfl | rfl | rfl <;> rfl
      case c3 => unfold maxLen; omega
      case c4 => omega
      case c5 => simp; omega
      · intro v' w2 hown' hgrow _
        have hB2 : Below w.heap.size w w2 := ((((hB.trans (hb1.mono hs1)).alloc (by omega) _).alloc (by simp; omega) _).grown hgrow (by simp; omega) (fun j e => (hown1.lt j e).1))
        clear hgrow hown1
        go_wp2_with fail
        go_roundw
        case rel =>
          have ec : cellsR ⟨st, body.data.toList, c⟩ = [.int .i64 st, .string body, .bool c] := by unfold cellsR; rw [bs_data]
          exact ⟨p + n, L ++ [⟨st, body.data.toList, c⟩], by omega, by go_num, by rw [cellsL_snoc, List.length_append, ec]; exact hown', hB2, HL2.out⟩
        case measure => simp [intOf]; omega
    · have hEb : (E == 0) = false := ne_bool hE
      clear hcap
      have hst := allL_stop (s := s.data.toList.drop p) (by rw [hr]; exact hE)
      rw [hst] at hL
      have HL := Lib.hid hL
      have HO := Lib.hid hown
      clear hL hst hr hown hE
      go_wp2_with (go_at_call 14; refine (refRead_as (s.extract p s.size) st body c n E HR.out _ hT1 HS.out).mono ?_; rintro e w1 ⟨rfl, hb1⟩)
      go_ret2
      have hO1 := (own_keep HO.out hb1).alloc (.cells #[.int .i64 st, .string body, .bool c] 25)
      have hB1 := (hB.trans (hb1.mono hB.size)).alloc (Nat.le_trans hB.size hb1.size) (.cells #[.int .i64 st, .string body, .bool c] 25)
      refine ⟨_, ret2 rfl (vint (by rw [HL.out]; simp)), ?_, hB1⟩
      rw [HL.out]
      simpa using hO1
end Go.Proofs.YtakbejphbnbepaaDoor.W19
