/-
  An append to a row of the call's own, as one step of a region that draws its order. No program is in sight here. Conditions: the row is owned; it fits.
  Walks of layer 18: the program's first line. Conditions: the text is within Go's own limit, the reader stands within it; the library's variable MaxLen holds an int.
  Walks of layer 18: rows of headers of the call's own; the program's headers. Conditions: the text is within Go's own limit, the reader stands within it.
  Walks of layer 18: the program's headers. Conditions: the text is within Go's own limit, the reader stands within it.
  Walks of layer 18: the program's headers. Conditions: the text is within Go's own limit, the reader stands within it.
-/
import Derived.Test.YtcgeiimihihhpaaGreatDoorGa
import Derived.Deep.RegionLaw
import Derived.Deep.RegionHeld3
import Derived.Test.YtcgeiimihihhpaaGreatDoorGc
import Derived.Test.YtcgeiimihihhpaaGreatDoorGb
import Derived.Laws.OwnMore

namespace Go.Proofs.YtcgeiimihihhpaaGreatDoor
open Go Go.RowKit

theorem step_append_own {P : Program} {ops : Array Oper} {o : Oper} {a : Act} {w : World} {K : Act → World → Prop} {Q : Exit → Act → World → Prop} {E : Prop}
    (hg : o.guard = none) (s x : Operand) (t : TypeId) (hop : o.op = Op.call { callee := Callee.builtin Builtin.append, args := #[s, x], argTypes := #[t, t] })
    (base : Nat) (e : TypeId) (i : TypeInfo) (z : Value) (size bytes : Nat) (h1 : P.underlying t = some (.slice e)) (h2 : P.info? e = some i) (h3 : i.zero = some z) (h4 : i.size = size) (h5 : i.bytes = bytes) (h6 : z.cells.size = size) (h7 : 0 < size)
    (v : Value) (n : Nat) (xs : List Value) (hs : a.eval s = v) (hown : w.ownsRow base e size v n xs)
    (ad : Addr) (m c : Nat) (news : List Value) (hx : a.eval x = .slice (some ad) m c) (hn : news.length = m * size) (hc : ∀ j u, news[j]? = some u → w.cell? (ad.add j) = some u) (h1c : ∀ u ∈ news, u.oneCell' = true)
    (b1 : n + m ≤ maxLen) (b2 : (n + m) * bytes ≤ 140737488355328) (hbase : base ≤ w.heap.size)
    (hK : ∀ v' w', w'.ownsRow base e size v' (n + m) (xs ++ news) → w.grownBy w' v.ownBlock → K (a.put o.dst v') w') :
    if Region.wanted o (yielded ops a.tmps) = true then Oper.wp P o a w K Q else E := by
  have hw : Region.wanted o (yielded ops a.tmps) = true := by simp [Region.wanted, hg]
  rw [if_pos hw]
  obtain ⟨v', w', hrun, r1, r2, _⟩ := run_append_own (P := P) w base t o.type e i z size bytes h1 h2 h3 h4 h5 h6 h7 v n xs hown ad m c news hn hc h1c b1 b2 hbase
  unfold Oper.wp
  simp [execOp, hop, resolve, invoke, builtin, hs, hx, hrun, Result.andThen]
  exact hK v' w' r1 r2
end Go.Proofs.YtcgeiimihihhpaaGreatDoor

namespace Go.Proofs.YtcgeiimihihhpaaGreatDoor.W18
open Go Go.RowKit P12 P18

/-- The library's variable MaxLen holds an int. -/
def MaxL (w : World) : Prop := ∃ m, w.cell? ⟨1, 0, none⟩ = some (.int .i64 m)
theorem heap_new (w : World) (o : Obj) : (w.alloc o).heap[w.heap.size]? = some o := by
  show (w.heap.push o)[w.heap.size]? = _
  simp
theorem keep_cell {w w' : World} {p : Addr} {v : Value} (hb : Below w.heap.size w w') (h : w.cell? p = some v) : w'.cell? p = some v := by
  have hlt : p.block < w.heap.size := by
    unfold World.cell? at h
    split at h
    · rename_i hh
      exact (Array.getElem?_eq_some_iff.1 hh).1
    · cases h
  rw [hb.cell hlt]
  exact h
theorem MaxL.keep {w w' : World} (h : MaxL w) (hb : Below w.heap.size w w') : MaxL w' := by
  obtain ⟨m, hm⟩ := h
  exact ⟨m, keep_cell hb hm⟩
theorem MaxL.only {b : Nat} {w w' : World} (h : MaxL w) (hb : Only b w w') (hn : b ≠ 1) : MaxL w' := by
  obtain ⟨m, hm⟩ := h
  refine ⟨m, ?_⟩
  have hlt : 1 < w.heap.size := by
    unfold World.cell? at hm
    split at hm
    · rename_i hh
      exact (Array.getElem?_eq_some_iff.1 hh).1
    · cases hm
  rw [World.cell?_of_block (w := w) (hb.other (fun e => hn e.symm) hlt)]
  exact hm
theorem prefix_one (s : By) (c : UInt8) : Lib.hasPrefix s [c] = decide (s.head? = some c) := by
  cases s with
  | nil => rfl
  | cons d l =>
    show (c == d && List.isPrefixOf [] l) = _
    simp only [List.isPrefixOf, Bool.and_true, List.head?_cons, Option.some.injEq]
    rw [Bool.eq_iff_iff, beq_iff_eq, decide_eq_true_iff]
    exact eq_comm
theorem parts_le {c : UInt8} : ∀ {s : By} {p : By}, p ∈ partsL c s → p.length ≤ s.length
  | [], p, h => by simp [partsL] at h; subst h; simp
  | d :: l, p, h => by
    by_cases hd : d = c
    · rw [partsL, if_pos hd] at h
      rcases List.mem_cons.1 h with rfl | h
      · simp
      · have := parts_le h; simp; omega
    · rw [partsL_cons hd] at h
      have ih := fun q hq => parts_le (c := c) (s := l) (p := q) hq
      cases hl : partsL c l with
      | nil => exact absurd hl (partsL_ne c l)
      | cons q qs =>
        rw [hl] at h ih
        simp only at h
        rcases List.mem_cons.1 h with rfl | h
        · have := ih q (by simp); simp; omega
        · have := ih p (by simp [h]); simp; omega
theorem cut_le (c : UInt8) : ∀ s : By, (cutL c s).1.length ≤ s.length ∧ (cutL c s).2.1.length ≤ s.length
  | [] => by simp [cutL]
  | d :: l => by
    have ih := cut_le c l
    unfold cutL
    split
    · simp
    · simp; omega
/-- What reading the first line comes to. -/
def FirstPost (b : Nat) (d : ByteArray) (j : Nat) (v y c z : Value) (F : Int × Rq) (w : World) (e : Ending) (w' : World) : Prop :=
  Only b w w' ∧ ((F.1 = 200 ∧ e = .returned (.tuple #[]) ∧ Rd b (rdr d j (bs F.2.method) (bs F.2.path) (bs F.2.query) v y c z) w') ∨ (F.1 ≠ 200 ∧ e = gives F.1))
theorem first_no {b : Nat} {d : ByteArray} {j : Nat} {v y c z : Value} {F : Int × Rq} {w w' : World} {st : Int} (h : F = (st, zeroR)) (hst : st ≠ 200) (hO : Only b w w') : FirstPost b d j v y c z F w (gives st) w' := by
  rw [h]
  exact ⟨hO, .inr ⟨hst, rfl⟩⟩
theorem firstL_few {l : By} (h : (partsL 32 l).length ≠ 3) : firstL l = (400, zeroR) := by
  unfold firstL
  split
  · rename_i hp
    rw [hp] at h
    exact absurd rfl h
  · rfl
theorem firstL_form {l m w v : By} (hp : partsL 32 l = [m, w, v]) (h : ¬ (v = http ∧ w.head? = some 47 ∧ m ≠ [] ∧ m.all upper = true)) : firstL l = (400, zeroR) := by
  unfold firstL
  rw [hp]
  simp only [if_neg h]
theorem firstL_clean {l m w v : By} (hp : partsL 32 l = [m, w, v]) (h : v = http ∧ w.head? = some 47 ∧ m ≠ [] ∧ m.all upper = true) (h2 : ¬ (cleanL [47] (cutL 63 w).1 = true ∧ cleanL [47, 61, 38, 39] (cutL 63 w).2.1 = true)) : firstL l = (400, zeroR) := by
  unfold firstL
  rw [hp]
  simp only [if_pos h, if_neg h2]
theorem firstL_method {l m w v : By} (hp : partsL 32 l = [m, w, v]) (h : v = http ∧ w.head? = some 47 ∧ m ≠ [] ∧ m.all upper = true) (h2 : cleanL [47] (cutL 63 w).1 = true ∧ cleanL [47, 61, 38, 39] (cutL 63 w).2.1 = true) (h3 : ¬ (m = getM ∨ m = postM)) : firstL l = (501, zeroR) := by
  unfold firstL
  rw [hp]
  simp only [if_pos h, if_pos h2, if_neg h3]
theorem firstL_ok {l m w v : By} (hp : partsL 32 l = [m, w, v]) (h : v = http ∧ w.head? = some 47 ∧ m ≠ [] ∧ m.all upper = true) (h2 : cleanL [47] (cutL 63 w).1 = true ∧ cleanL [47, 61, 38, 39] (cutL 63 w).2.1 = true) (h3 : m = getM ∨ m = postM) : firstL l = (200, ⟨m, (cutL 63 w).1, (cutL 63 w).2.1, [], [], false⟩) := by
  unfold firstL
  rw [hp]
  simp only [if_pos h, if_pos h2, if_pos h3]

set_option maxHeartbeats 4000000 in
set_option maxRecDepth 1000000 in
theorem first_few (b : Nat) (d : ByteArray) (k : Nat) (m p q v y c z : Value) (w : World) (hr : Rd b (rdr d k m p q v y c z) w) (hk : k ≤ d.size) (hd : d.size ≤ 281474976710656) (hM : MaxL w) (hbn : b ≠ 1)
    (l r : By) (h : lineL (d.data.toList.drop k) = .ok l r) (hp : (partsL 32 l).length ≠ 3) (j : Nat) (hj : j = k + (l.length + 2)) :
    Calls Tryz.prog 17 #[.pointer (some ⟨b, 0, none⟩)] w (FirstPost b d j v y c z (firstL l) w) := by
  obtain ⟨L, hL⟩ : ∃ L : ByteArray, L = ⟨l.toArray⟩ := ⟨_, rfl⟩
  have hcon := fun W (hR : Rd b (rdr d k m p q v y c z) W) => line_whole b d k m p q v y c z W hR hk hd l r h L hL j hj
  have hll : l.length ≤ 256 := (P18.line_ok.1 h).2.1
  have hLd : L.data.toList = l := by rw [hL]
  have hLs : L.size < 4294967281 := by rw [← size_data, hLd]; omega
  have hsp := fun X (hX : MaxL X) => Split_any L 32 _ X hLs hX.choose_spec
  rw [hLd] at hsp
  have HF := Lib.hid (firstL_few hp)
  generalize firstL l = F at *
  have hn3 : (((partsL 32 l).length : Int) == 3) = false := by rw [beq_eq_false_iff_ne]; omega
  generalize (partsL 32 l).length = n at *
  generalize ((partsL 32 l).map bs).toArray = C at *
  have hlt := hr.lt
  clear hL hLd hp h
  go_enter Tryz.func17, Tryz.ntmps17
  go_wp2_with (go_at_call 31; refine (hcon _ hr).mono ?_; rintro e w1 ⟨rfl, hr1, ho1⟩; refine Hid.out ?_)
  refine Lib.hid ?_
  have hM1 := hM.only ho1 hbn
  have hO2 := ho1.trans (Only.of hr1.lt (below_alloc w1 (.cells C 9)))
  go_wp2_with (first
    | (go_at_call 30; refine (hsp _ hM1).mono ?_; rintro e w2 ⟨rfl, rfl⟩)
    | (go_at_call 32; refine (need_no _ _).mono ?_; rintro e w' ⟨rfl, rfl⟩))
  exact ⟨rfl, first_no HF.out (by decide) hO2⟩

set_option maxHeartbeats 3200000 in
set_option maxRecDepth 1000000 in
theorem first_three (b : Nat) (d : ByteArray) (k : Nat) (m p q v y c z : Value) (w : World) (hr : Rd b (rdr d k m p q v y c z) w) (hk : k ≤ d.size) (hd : d.size ≤ 281474976710656) (hM : MaxL w) (hbn : b ≠ 1)
    (l r : By) (h : lineL (d.data.toList.drop k) = .ok l r) (ms ws vs : By) (hp : partsL 32 l = [ms, ws, vs]) (j : Nat) (hj : j = k + (l.length + 2)) :
    Calls Tryz.prog 17 #[.pointer (some ⟨b, 0, none⟩)] w (FirstPost b d j v y c z (firstL l) w) := by
  obtain ⟨L, hL⟩ : ∃ L : ByteArray, L = ⟨l.toArray⟩ := ⟨_, rfl⟩
  have hcon := fun W (hR : Rd b (rdr d k m p q v y c z) W) => line_whole b d k m p q v y c z W hR hk hd l r h L hL j hj
  have hll : l.length ≤ 256 := (P18.line_ok.1 h).2.1
  have hLd : L.data.toList = l := by rw [hL]
  have hLs : L.size < 4294967281 := by rw [← size_data, hLd]; omega
  obtain ⟨M, hMs⟩ : ∃ M : ByteArray, M = ⟨ms.toArray⟩ := ⟨_, rfl⟩
  obtain ⟨W, hWs⟩ : ∃ M : ByteArray, M = ⟨ws.toArray⟩ := ⟨_, rfl⟩
  obtain ⟨V, hVs⟩ : ∃ M : ByteArray, M = ⟨vs.toArray⟩ := ⟨_, rfl⟩
  have hMd : M.data.toList = ms := by rw [hMs]
  have hWd : W.data.toList = ws := by rw [hWs]
  have hVd : V.data.toList = vs := by rw [hVs]
  have hle : ms.length ≤ 256 ∧ ws.length ≤ 256 := by
    have e1 : ∀ x ∈ partsL 32 l, x.length ≤ l.length := fun x hx => parts_le hx
    rw [hp] at e1
    exact ⟨Nat.le_trans (e1 ms (by simp)) hll, Nat.le_trans (e1 ws (by simp)) hll⟩
  have hMz : M.size ≤ 256 := by rw [← size_data, hMd]; exact hle.1
  have hWz : W.size ≤ 256 := by rw [← size_data, hWd]; exact hle.2
  have hsp := fun X (hX : MaxL X) => Split_any L 32 _ X hLs hX.choose_spec
  rw [hLd, hp] at hsp
  have hcs : (([ms, ws, vs] : List By).map bs).toArray = #[.string M, .string W, .string V] := by rw [hMs, hWs, hVs]; rfl
  rw [hcs] at hsp
  simp only [List.length_cons, List.length_nil] at hsp
  obtain ⟨F, hF⟩ : ∃ F, F = firstL l := ⟨_, rfl⟩
  rw [← hF]
  have HFv := Lib.hid hF
  have HP := Lib.hid hp
  have HMs := Lib.hid hMd
  have HWs := Lib.hid hWd
  have HVs := Lib.hid hVd
  have hlt := hr.lt
  have hpx := fun X => left_of (Tryz.strings_HasPrefix W ⟨#[47]⟩ X)
  have hpe : Lib.hasPrefix W.data.toList (⟨#[47]⟩ : ByteArray).data.toList = decide (ws.head? = some 47) := by rw [hWd]; exact prefix_one ws 47
  rw [hpe] at hpx
  have hof := fun X => of_any _ _ upper_pred M X (by omega)
  rw [hMd] at hof
  have hcut := fun X => Cut_any W 63 X (by omega)
  rw [hWd] at hcut
  obtain ⟨P, hPe⟩ : ∃ P : ByteArray, P = ⟨(cutL 63 ws).1.toArray⟩ := ⟨_, rfl⟩
  obtain ⟨Q, hQe⟩ : ∃ P : ByteArray, P = ⟨(cutL 63 ws).2.1.toArray⟩ := ⟨_, rfl⟩
  simp only [bs] at hcut
  rw [← hPe, ← hQe] at hcut
  have hPd : P.data.toList = (cutL 63 ws).1 := by rw [hPe]
  have hQd : Q.data.toList = (cutL 63 ws).2.1 := by rw [hQe]
  have hPz : P.size ≤ 256 := by rw [← size_data, hPd]; have := (cut_le 63 ws).1; omega
  have hQz : Q.size ≤ 256 := by rw [← size_data, hQd]; have := (cut_le 63 ws).2; omega
  have hc1 := fun X => clean_any P ⟨#[47]⟩ X (by omega)
  have hc2 := fun X => clean_any Q ⟨#[47, 61, 38, 39]⟩ X (by omega)
  rw [hPd] at hc1
  rw [hQd] at hc2
  have HPe := Lib.hid hPe
  have HQe := Lib.hid hQe
  clear hcs hL hMs hWs hVs hLd hp hMd hWd hVd hF h hpe hle hPe hQe hPd hQd
  go_enter Tryz.func17, Tryz.ntmps17
  go_wp2_with (go_at_call 31; refine (hcon _ hr).mono ?_; rintro e w1 ⟨rfl, hr1, ho1⟩; refine Hid.out ?_)
  refine Lib.hid ?_
  have hM1 := hM.only ho1 hbn
  have hb1 := below_alloc w1 (.cells #[.string M, .string W, .string V] 9)
  have hO2 := ho1.trans (Only.of hr1.lt hb1)
  have hh := heap_new w1 (.cells #[.string M, .string W, .string V] 9)
  have x0 := Lib.cell_of_heap hh 0
  have x1 := Lib.cell_of_heap hh 1
  have x2 := Lib.cell_of_heap hh 2
  clear hh
  go_wp2_with (go_at_call 30; refine (hsp _ hM1).mono ?_; rintro e w2 ⟨rfl, rfl⟩; refine Hid.out ?_)
  refine Lib.hid ?_
  clear hcon hsp
  by_cases h1 : vs = http
  · have g1 : V.toList = [72, 84, 84, 80, 47, 49, 46, 49] := by rw [Lib.toList_data, HVs.out]; exact h1
    by_cases h2 : ws.head? = some 47
    · rw [decide_eq_true h2] at hpx
      by_cases h3 : ms = []
      · have HF := Lib.hid (HFv.out.trans (firstL_form HP.out (fun hh => hh.2.2.1 h3)))
        have g3 : M.toList = [] := by rw [Lib.toList_data, HMs.out]; exact h3
        clear h1 h2 h3
        go_wp2_with (first
          | (go_at_call 33; refine (hpx _).mono ?_; rintro e w' ⟨rfl, rfl⟩)
          | (go_at_call 32; first | ((with_reducible refine (need_ok _ _).mono ?_); rintro e w' ⟨rfl, rfl⟩) | ((with_reducible refine (need_no _ _).mono ?_); rintro e w' ⟨rfl, rfl⟩)))
        exact ⟨rfl, first_no HF.out (by decide) hO2⟩
      · have g3 : ¬ M.toList = [] := by rw [Lib.toList_data, HMs.out]; exact h3
        have g3' : (!M.toList.isEmpty) = true := by simp [g3]
        by_cases h4 : ms.all upper = true
        · rw [h4] at hof
          have HG := Lib.hid (show vs = http ∧ ws.head? = some 47 ∧ ms ≠ [] ∧ ms.all upper = true from ⟨h1, h2, h3, h4⟩)
          clear h1 h2 h3 h4
          go_wp2_with (first
          | (go_at_call 33; refine (hpx _).mono ?_; rintro e w' ⟨rfl, rfl⟩)
          | (go_at_call 34; refine (hof _).mono ?_; rintro e w' ⟨rfl, rfl⟩)
          | (go_at_call 36; refine (hcut _).mono ?_; rintro e w3 ⟨rfl, hb3⟩; refine Hid.out ?_)
          | (go_at_call 32; first | ((with_reducible refine (need_ok _ _).mono ?_); rintro e w' ⟨rfl, rfl⟩) | ((with_reducible refine (need_no _ _).mono ?_); rintro e w' ⟨rfl, rfl⟩)))
          refine Lib.hid ?_
          have hr3 := (hr1.keep hb1).keep hb3
          have hO3 := hO2.trans (Only.of (hr1.keep hb1).lt hb3)
          have y0 := keep_cell hb3 x0
          clear hcut hpx hof
          by_cases h5 : cleanL [47] (cutL 63 ws).1 = true
          · by_cases h6 : cleanL [47, 61, 38, 39] (cutL 63 ws).2.1 = true
            · have hc56 := And.intro h5 h6
              rw [h5] at hc1
              rw [h6] at hc2
              by_cases h7 : ms = getM ∨ ms = postM
              · have HF := Lib.hid (HFv.out.trans (firstL_ok HP.out HG.out hc56 h7))
                have s2 := hr3.set 2 (.string M) (by simp)
                have s3 := s2.set 3 (.string P) (by simp)
                have s4 := s3.set 4 (.string Q) (by simp)
                have f2 := hr3.free 2
                have f3 := hr3.free 3
                have f4 := hr3.free 4
                have z2 : w3.cell? ⟨b, 2, none⟩ = some m := hr3.cell 2
                have z3 : w3.cell? ⟨b, 3, none⟩ = some p := hr3.cell 3
                have z4 : w3.cell? ⟨b, 4, none⟩ = some q := hr3.cell 4
                have hO4 := ((hO3.trans (Only.set w3 2 (.string M))).trans (Only.set _ 3 (.string P))).trans (Only.set _ 4 (.string Q))
                have S4 := Lib.hid s4
                clear s2 s3 s4 hr3 hr1 hr h5 h6
                by_cases h8 : ms = getM
                · have g8 : M.toList = [71, 69, 84] := by rw [Lib.toList_data, HMs.out]; exact h8
                  clear h7 h8 hc56
                  go_wp2_with (first
          | (go_at_call 37; first | ((with_reducible refine (hc1 _).mono ?_); rintro e w' ⟨rfl, rfl⟩) | ((with_reducible refine (hc2 _).mono ?_); rintro e w' ⟨rfl, rfl⟩))
          | (go_at_call 32; first | ((with_reducible refine (need_ok _ _).mono ?_); rintro e w' ⟨rfl, rfl⟩) | ((with_reducible refine (need_no _ _).mono ?_); rintro e w' ⟨rfl, rfl⟩)))
                  go_end0
                  refine ⟨hO4, .inl ⟨by rw [HF.out], rfl, ?_⟩⟩
                  rw [HF.out]
                  have hS := S4.out
                  simp only [bs, ← HPe.out, ← HQe.out, ← HMs.out, Lib.mk_data]
                  simpa using hS
                · have h9 : ms = postM := h7.resolve_left h8
                  have g8 : ¬ M.toList = [71, 69, 84] := by rw [Lib.toList_data, HMs.out]; exact h8
                  have g9 : M.toList = [80, 79, 83, 84] := by rw [Lib.toList_data, HMs.out]; exact h9
                  clear h7 h8 h9 hc56
                  go_wp2_with (first
          | (go_at_call 37; first | ((with_reducible refine (hc1 _).mono ?_); rintro e w' ⟨rfl, rfl⟩) | ((with_reducible refine (hc2 _).mono ?_); rintro e w' ⟨rfl, rfl⟩))
          | (go_at_call 32; first | ((with_reducible refine (need_ok _ _).mono ?_); rintro e w' ⟨rfl, rfl⟩) | ((with_reducible refine (need_no _ _).mono ?_); rintro e w' ⟨rfl, rfl⟩)))
                  go_end0
                  refine ⟨hO4, .inl ⟨by rw [HF.out], rfl, ?_⟩⟩
                  rw [HF.out]
                  have hS := S4.out
                  simp only [bs, ← HPe.out, ← HQe.out, ← HMs.out, Lib.mk_data]
                  simpa using hS
              · have HF := Lib.hid (HFv.out.trans (firstL_method HP.out HG.out hc56 h7))
                have g8 : ¬ M.toList = [71, 69, 84] := by rw [Lib.toList_data, HMs.out]; exact fun hh => h7 (.inl hh)
                have g9 : ¬ M.toList = [80, 79, 83, 84] := by rw [Lib.toList_data, HMs.out]; exact fun hh => h7 (.inr hh)
                have g8' : (M.toList == [71, 69, 84]) = false := beq_eq_false_iff_ne.2 g8
                have g9' : (M.toList == [80, 79, 83, 84]) = false := beq_eq_false_iff_ne.2 g9
                clear h7 hc56 h5 h6
                go_wp2_with (first
          | (go_at_call 37; first | ((with_reducible refine (hc1 _).mono ?_); rintro e w' ⟨rfl, rfl⟩) | ((with_reducible refine (hc2 _).mono ?_); rintro e w' ⟨rfl, rfl⟩))
          | (go_at_call 32; first | ((with_reducible refine (need_ok _ _).mono ?_); rintro e w' ⟨rfl, rfl⟩) | ((with_reducible refine (need_no _ _).mono ?_); rintro e w' ⟨rfl, rfl⟩)))
                exact ⟨rfl, first_no HF.out (by decide) hO3⟩
            · have HF := Lib.hid (HFv.out.trans (firstL_clean HP.out HG.out (fun hh => h6 hh.2)))
              have h6' : cleanL [47, 61, 38, 39] (cutL 63 ws).2.1 = false := by simpa using h6
              rw [h5] at hc1
              rw [h6'] at hc2
              clear h5 h6 h6'
              go_wp2_with (first
          | (go_at_call 37; first | ((with_reducible refine (hc1 _).mono ?_); rintro e w' ⟨rfl, rfl⟩) | ((with_reducible refine (hc2 _).mono ?_); rintro e w' ⟨rfl, rfl⟩))
          | (go_at_call 32; first | ((with_reducible refine (need_ok _ _).mono ?_); rintro e w' ⟨rfl, rfl⟩) | ((with_reducible refine (need_no _ _).mono ?_); rintro e w' ⟨rfl, rfl⟩)))
              exact ⟨rfl, first_no HF.out (by decide) hO3⟩
          · have HF := Lib.hid (HFv.out.trans (firstL_clean HP.out HG.out (fun hh => h5 hh.1)))
            have h5' : cleanL [47] (cutL 63 ws).1 = false := by simpa using h5
            rw [h5'] at hc1
            clear h5 h5'
            go_wp2_with (first
          | (go_at_call 37; first | ((with_reducible refine (hc1 _).mono ?_); rintro e w' ⟨rfl, rfl⟩) | ((with_reducible refine (hc2 _).mono ?_); rintro e w' ⟨rfl, rfl⟩))
          | (go_at_call 32; first | ((with_reducible refine (need_ok _ _).mono ?_); rintro e w' ⟨rfl, rfl⟩) | ((with_reducible refine (need_no _ _).mono ?_); rintro e w' ⟨rfl, rfl⟩)))
            exact ⟨rfl, first_no HF.out (by decide) hO3⟩
        · have HF := Lib.hid (HFv.out.trans (firstL_form HP.out (fun hh => h4 hh.2.2.2)))
          have h4' : ms.all upper = false := by simpa using h4
          rw [h4'] at hof
          clear h1 h2 h3 h4 h4'
          go_wp2_with (first
          | (go_at_call 33; refine (hpx _).mono ?_; rintro e w' ⟨rfl, rfl⟩)
          | (go_at_call 34; refine (hof _).mono ?_; rintro e w' ⟨rfl, rfl⟩)
          | (go_at_call 36; refine (hcut _).mono ?_; rintro e w3 ⟨rfl, hb3⟩; refine Hid.out ?_)
          | (go_at_call 32; first | ((with_reducible refine (need_ok _ _).mono ?_); rintro e w' ⟨rfl, rfl⟩) | ((with_reducible refine (need_no _ _).mono ?_); rintro e w' ⟨rfl, rfl⟩)))
          exact ⟨rfl, first_no HF.out (by decide) hO2⟩
    · have HF := Lib.hid (HFv.out.trans (firstL_form HP.out (fun hh => h2 hh.2.1)))
      rw [decide_eq_false h2] at hpx
      clear h1 h2
      go_wp2_with (first
          | (go_at_call 33; refine (hpx _).mono ?_; rintro e w' ⟨rfl, rfl⟩)
          | (go_at_call 34; refine (hof _).mono ?_; rintro e w' ⟨rfl, rfl⟩)
          | (go_at_call 36; refine (hcut _).mono ?_; rintro e w3 ⟨rfl, hb3⟩; refine Hid.out ?_)
          | (go_at_call 32; first | ((with_reducible refine (need_ok _ _).mono ?_); rintro e w' ⟨rfl, rfl⟩) | ((with_reducible refine (need_no _ _).mono ?_); rintro e w' ⟨rfl, rfl⟩)))
      exact ⟨rfl, first_no HF.out (by decide) hO2⟩
  · have g1 : ¬ V.toList = [72, 84, 84, 80, 47, 49, 46, 49] := by rw [Lib.toList_data, HVs.out]; exact h1
    have HF := Lib.hid (HFv.out.trans (firstL_form HP.out (fun hh => h1 hh.1)))
    clear h1
    go_wp2_with (first
          | (go_at_call 33; refine (hpx _).mono ?_; rintro e w' ⟨rfl, rfl⟩)
          | (go_at_call 34; refine (hof _).mono ?_; rintro e w' ⟨rfl, rfl⟩)
          | (go_at_call 36; refine (hcut _).mono ?_; rintro e w3 ⟨rfl, hb3⟩; refine Hid.out ?_)
          | (go_at_call 32; first | ((with_reducible refine (need_ok _ _).mono ?_); rintro e w' ⟨rfl, rfl⟩) | ((with_reducible refine (need_no _ _).mono ?_); rintro e w' ⟨rfl, rfl⟩)))
    exact ⟨rfl, first_no HF.out (by decide) hO2⟩
end Go.Proofs.YtcgeiimihihhpaaGreatDoor.W18

namespace Go.Proofs.YtcgeiimihihhpaaGreatDoor.W18
open Go Go.RowKit P12 P18

abbrev tH : TypeId := 32
theorem infoH : (Tryz.prog.info? 32).map (fun i => (i.zero, i.size, i.bytes)) = some (some (.agg #[.string ⟨#[]⟩, .string ⟨#[]⟩]), 2, 32) := by kernel_rfl
def cellsH1 (h : Hdr) : List Value := [bs h.name, bs h.value]
def cellsH (l : List Hdr) : List Value := l.flatMap cellsH1
theorem cellsH_app (a b : List Hdr) : cellsH (a ++ b) = cellsH a ++ cellsH b := by simp [cellsH]
theorem cellsH_len : ∀ l : List Hdr, (cellsH l).length = l.length * 2
  | [] => rfl
  | h :: l => by
    have : cellsH (h :: l) = cellsH1 h ++ cellsH l := by simp [cellsH]
    rw [this, List.length_append, cellsH_len l]
    simp [cellsH1]
    omega
theorem cellsH_at : ∀ (l : List Hdr) (j : Nat) (h : Hdr), l[j]? = some h → (cellsH l)[j * 2]? = some (bs h.name) ∧ (cellsH l)[j * 2 + 1]? = some (bs h.value)
  | [], j, h, e => by simp at e
  | x :: l, 0, h, e => by
    simp at e
    subst e
    exact ⟨rfl, rfl⟩
  | x :: l, j + 1, h, e => by
    have ih := cellsH_at l j h (by simpa using e)
    have : cellsH (x :: l) = cellsH1 x ++ cellsH l := by simp [cellsH]
    rw [this, List.getElem?_append_right (by simp [cellsH1]; omega), List.getElem?_append_right (by simp [cellsH1]; omega)]
    rw [show (j + 1) * 2 - (cellsH1 x).length = j * 2 by simp [cellsH1]; omega, show (j + 1) * 2 + 1 - (cellsH1 x).length = j * 2 + 1 by simp [cellsH1]; omega]
    exact ih
/-- The value v is a slice of the headers l. -/
def RowsH (v : Value) (l : List Hdr) (w : World) : Prop :=
  ∃ o c, v = .slice o l.length c ∧ (l = [] ∨ ∃ g off, o = some ⟨g, off, none⟩ ∧ ∀ j h, l[j]? = some h → w.cell? ⟨g, off + j * 2, none⟩ = some (bs h.name) ∧ w.cell? ⟨g, off + j * 2 + 1, none⟩ = some (bs h.value))
theorem rowsH_nil (w : World) : RowsH (.slice none 0 0) [] w := ⟨none, 0, rfl, .inl rfl⟩
theorem RowsH.keep {v : Value} {l : List Hdr} {w w' : World} (h : RowsH v l w) (hb : Below w.heap.size w w') : RowsH v l w' := by
  obtain ⟨o, c, rfl, h0⟩ := h
  refine ⟨o, c, rfl, h0.imp id ?_⟩
  rintro ⟨g, off, rfl, h1⟩
  exact ⟨g, off, rfl, fun j x hj => ⟨keep_cell hb (h1 j x hj).1, keep_cell hb (h1 j x hj).2⟩⟩
abbrev OwnH (w : World) (base : Nat) (v : Value) (l : List Hdr) : Prop := w.ownsRow base 32 2 v l.length (cellsH l)
theorem OwnH.rows {w : World} {base : Nat} {v : Value} {l : List Hdr} (h : OwnH w base v l) : RowsH v l w := by
  rcases h.2 with ⟨rfl, h0⟩ | ⟨g, cap, cur, rfl, hb, hg, hnc, hcm, hcs, htk⟩
  · obtain rfl : l = [] := by cases l with
      | nil => rfl
      | cons x l => simp at h0
    exact rowsH_nil w
  · refine ⟨_, _, rfl, .inr ⟨g, 0, rfl, fun j x hj => ?_⟩⟩
    obtain ⟨e0, e1⟩ := cellsH_at l j x hj
    have hc := World.ownsRow.cells h (g := g) rfl
    have h0 := hc _ _ e0
    have h1 := hc _ _ e1
    rw [Lib.add_plain] at h0 h1
    exact ⟨by simpa using h0, by simpa [Nat.add_assoc] using h1⟩
theorem own_slice {w : World} {base : Nat} {e : TypeId} {size n : Nat} {v : Value} {xs : List Value} (h : w.ownsRow base e size v n xs) : ∃ o c, v = .slice o n c := by
  rcases h.2 with ⟨rfl, rfl⟩ | ⟨g, cap, cur, rfl, -⟩
  · exact ⟨_, _, rfl⟩
  · exact ⟨_, _, rfl⟩
theorem below_grown {w w' : World} (h : Below w.heap.size w w') (row : Option Nat) : w.grownBy w' row := ⟨h.os, h.tape, h.output, h.size, fun k hk _ => h.block k hk⟩
theorem own_keep {w w' : World} {base : Nat} {e : TypeId} {size : Nat} {v : Value} {n : Nat} {xs : List Value} (h : w.ownsRow base e size v n xs) (hb : Below w.heap.size w w') : w'.ownsRow base e size v n xs :=
  h.kept (below_grown hb none) (by cases hv : v.ownBlock with | none => exact .inl rfl | some k => exact .inr (by simp))
theorem own_only {w w' : World} {b base : Nat} {e : TypeId} {size : Nat} {v : Value} {n : Nat} {xs : List Value} (hb : b < base) (h : w.ownsRow base e size v n xs) (ho : Only b w w') : w'.ownsRow base e size v n xs := by
  refine ⟨h.1, ?_⟩
  rcases h.2 with hn | ⟨g, cap, cur, rfl, hbg, hgg, rest⟩
  · exact .inl hn
  · exact .inr ⟨g, cap, cur, rfl, hbg, (ho.other (by omega) (lt_of_block hgg)).trans hgg, rest⟩
theorem Rd.grown {b : Nat} {c : Array Value} {w w' : World} {row : Option Nat} (h : Rd b c w) (hg : w.grownBy w' row) (hne : some b ≠ row) : Rd b c w' := (hg.block b h.lt hne).trans h
theorem Only.grown {b : Nat} {W0 w w' : World} {row : Option Nat} (h : Only b W0 w) (hg : w.grownBy w' row) (hbw : b ≤ w.heap.size) (hr : ∀ k, row = some k → W0.heap.size ≤ k ∧ b < k) : Only b W0 w' :=
  ⟨h.below.grown hg hbw (fun k e => by have := (hr k e).2; omega), fun k h1 h2 => (hg.block k (by have := h.size; omega) (fun e => by have := (hr k e.symm).1; omega)).trans (h.past k h1 h2)⟩

/-- A header is appended to a row of the call's own. -/
theorem step_appH {ops : Array Oper} {o : Oper} {a : Act} {w : World} {K : Act → World → Prop} {Q : Exit → Act → World → Prop} {E : Prop}
    (hg : o.guard = none) (s x : Operand) (hop : o.op = Op.call { callee := Callee.builtin Builtin.append, args := #[s, x], argTypes := #[23, 23] })
    (W0 : World) (b base : Nat) (c : Array Value) (hr : Rd b c w) (hO : Only b W0 w) (hb0 : W0.heap.size ≤ base) (hbase : base ≤ w.heap.size) (hbb : b < base)
    (v : Value) (hs : List Hdr) (hsv : a.eval s = v) (hown : OwnH w base v hs) (N cap : Nat) (hx : a.eval x = .slice (some ⟨N, 0, none⟩) 1 cap) (n vl : ByteArray)
    (c0 : w.cell? ⟨N, 0, none⟩ = some (.string n)) (c1 : w.cell? ⟨N, 1, none⟩ = some (.string vl)) (hbd : hs.length + 1 ≤ 1000)
    (hK : ∀ v' w', OwnH w' base v' (hs ++ [⟨n.data.toList, vl.data.toList⟩]) → Rd b c w' → Only b W0 w' → K (a.put o.dst v') w') :
    if Region.wanted o (yielded ops a.tmps) = true then Oper.wp Tryz.prog o a w K Q else E := by
  obtain ⟨i0, hi, hz0, hz1, hz2⟩ := info_parts infoH
  refine step_append_own hg s x _ hop base 32 i0 _ 2 32 Tryz.underlying23 hi hz0 hz1 hz2 rfl (by decide) v hs.length (cellsH hs) hsv hown ⟨N, 0, none⟩ 1 cap [.string n, .string vl] hx rfl ?_ ?_ (by simp only [maxLen]; omega) (by omega) hbase ?_
  · intro j u hj
    match j, hj with
    | 0, hj => simp at hj; subst hj; rw [Lib.add_plain]; exact c0
    | 1, hj => simp at hj; subst hj; rw [Lib.add_plain]; exact c1
    | j + 2, hj => simp at hj
  · intro u hu
    simp at hu
    rcases hu with rfl | rfl <;> rfl
  · intro v' w' h1 h2
    have hlt := hown.lt
    refine hK v' w' ?_ (hr.grown h2 (fun e => by have := (hlt b e.symm).1; omega)) (hO.grown h2 (Nat.le_of_lt hr.lt) (fun k e => by have := (hlt k e).1; omega))
    show World.ownsRow _ _ _ _ _ _ _
    rw [List.length_append, cellsH_app]
    have e : cellsH [⟨n.data.toList, vl.data.toList⟩] = [.string n, .string vl] := by simp [cellsH, cellsH1, bs_data]
    rw [e]
    exact h1

/-! ## What the lines come to -/
def hdrStep (k : Nat) (l s : By) : Res (List Hdr) :=
  if l = [] then .ok [] s else match k with
    | 0 => .stop 431
    | k + 1 => match headerL l with
      | none => .stop 400
      | some h => (headsGo k s).map (h :: ·)
theorem headsGo_line (k : Nat) (s : By) : headsGo k s = (lineL s).bind (hdrStep k) := by
  rw [headsGo.eq_def]
  dsimp only
  generalize lineL s = x
  cases x <;> rfl
theorem hdr_nil {k : Nat} {l s : By} {hs : List Hdr} (h : l = []) : (hdrStep k l s).map (hs ++ ·) = .ok hs s := by
  unfold hdrStep
  rw [if_pos h]
  simp [Res.map]
theorem hdr_full {l s : By} {hs : List Hdr} (h : l ≠ []) (hn : hs.length = 16) : (hdrStep (16 - hs.length) l s).map (hs ++ ·) = .stop 431 := by
  unfold hdrStep
  rw [if_neg h, hn]
  rfl
theorem hdr_bad {l s : By} {hs : List Hdr} (h : l ≠ []) (hn : hs.length < 16) (hh : headerL l = none) : (hdrStep (16 - hs.length) l s).map (hs ++ ·) = .stop 400 := by
  unfold hdrStep
  obtain ⟨k, hk⟩ : ∃ k, 16 - hs.length = k + 1 := ⟨15 - hs.length, by omega⟩
  rw [if_neg h, hk]
  simp only [hh]
  rfl
theorem hdr_some {l s : By} {hs : List Hdr} {x : Hdr} (h : l ≠ []) (hn : hs.length < 16) (hh : headerL l = some x) : (hdrStep (16 - hs.length) l s).map (hs ++ ·) = (headsGo (16 - (hs ++ [x]).length) s).map ((hs ++ [x]) ++ ·) := by
  unfold hdrStep
  obtain ⟨k, hk⟩ : ∃ k, 16 - hs.length = k + 1 := ⟨15 - hs.length, by omega⟩
  have hk2 : 16 - (hs ++ [x]).length = k := by simp; omega
  rw [if_neg h, hk, hk2]
  simp only [hh]
  cases headsGo k s <;> simp [Res.map]
theorem hdr_stop {l s : By} {hs : List Hdr} {x : Hdr} {t : Int} (h : l ≠ []) (hn : hs.length < 16) (hh : headerL l = some x) (hl : lineL s = .stop t) : (hdrStep (16 - hs.length) l s).map (hs ++ ·) = .stop t := by
  rw [hdr_some h hn hh, headsGo_line, hl]
  rfl
theorem hdr_next {l s l' s' : By} {hs : List Hdr} {x : Hdr} (h : l ≠ []) (hn : hs.length < 16) (hh : headerL l = some x) (hl : lineL s = .ok l' s') : (hdrStep (16 - hs.length) l s).map (hs ++ ·) = (hdrStep (16 - (hs ++ [x]).length) l' s').map ((hs ++ [x]) ++ ·) := by
  rw [hdr_some h hn hh, headsGo_line, hl]
  rfl
/-- What reading the headers comes to. -/
def HeadsPost (b : Nat) (d : ByteArray) (m p q y c z : Value) (R : Res (List Hdr)) (w : World) (e : Ending) (w' : World) : Prop :=
  Only b w w' ∧ match R with
    | .stop t => e = gives t
    | .ok hs r => e = .returned (.tuple #[]) ∧ ∃ j v, j ≤ d.size ∧ r = d.data.toList.drop j ∧ Rd b (rdr d j m p q v y c z) w' ∧ OwnH w' w.heap.size v hs
theorem heads_stop {b : Nat} {d : ByteArray} {m p q y c z : Value} {R : Res (List Hdr)} {w w' : World} {t : Int} (h : R = .stop t) (hO : Only b w w') : HeadsPost b d m p q y c z R w (gives t) w' := by
  rw [h]
  exact ⟨hO, rfl⟩
theorem heads_ok {b : Nat} {d : ByteArray} {m p q y c z : Value} {R : Res (List Hdr)} {w w' : World} {hs : List Hdr} {j : Nat} {v : Value} (h : R = .ok hs (d.data.toList.drop j)) (hO : Only b w w') (hj : j ≤ d.size) (hr : Rd b (rdr d j m p q v y c z) w') (ho : OwnH w' w.heap.size v hs) : HeadsPost b d m p q y c z R w (.returned (.tuple #[])) w' := by
  rw [h]
  exact ⟨hO, rfl, j, v, hj, rfl, hr, ho⟩
end Go.Proofs.YtcgeiimihihhpaaGreatDoor.W18

namespace Go.Proofs.YtcgeiimihihhpaaGreatDoor.W18
open Go Go.RowKit P12 P18

/-! ## A text without layout at its ends -/
def dropR (p : UInt8 → Bool) (l : By) : By := (l.reverse.dropWhile p).reverse
theorem dropR_cons (p : UInt8 → Bool) (c : UInt8) (l : By) : dropR p (c :: l) = if (l.reverse.dropWhile p).isEmpty then (if p c then [] else [c]) else c :: dropR p l := by
  unfold dropR
  rw [List.reverse_cons, List.dropWhile_append]
  by_cases h : (l.reverse.dropWhile p).isEmpty = true
  · rw [if_pos h, if_pos h]
    by_cases hc : p c = true <;> simp [hc]
  · rw [if_neg h, if_neg h]
    simp
theorem drop_comm (p : UInt8 → Bool) : ∀ l : By, (dropR p l).dropWhile p = dropR p (l.dropWhile p)
  | [] => by simp [dropR]
  | c :: l => by
    have ih := drop_comm p l
    by_cases hc : p c = true
    · rw [List.dropWhile_cons_of_pos hc, ← ih, dropR_cons]
      by_cases h : (l.reverse.dropWhile p).isEmpty = true
      · rw [if_pos h, if_pos hc]
        have : dropR p l = [] := by
          unfold dropR
          rw [List.isEmpty_iff.1 h]
          rfl
        rw [this]
      · rw [if_neg h, List.dropWhile_cons_of_pos hc]
    · rw [List.dropWhile_cons_of_neg hc, dropR_cons]
      by_cases h : (l.reverse.dropWhile p).isEmpty = true
      · rw [if_pos h, if_neg hc, List.dropWhile_cons_of_neg hc]
      · rw [if_neg h, List.dropWhile_cons_of_neg hc]
theorem trimS_eq (s : By) : Lib.trimS s [32, 9] = trimL s := by
  have e : (fun c => ([32, 9] : By).contains c) = layout := by
    funext c
    unfold layout
    rw [Bool.eq_iff_iff]
    simp
  unfold Lib.trimS Lib.trimLeftS Lib.trimRightS trimL
  rw [e]
  exact drop_comm layout s
theorem Trim_any (s X : ByteArray) (hX : X = ⟨(trimL s.data.toList).toArray⟩) (w : World) (hs : s.size ≤ 9223372036854775807) :
    Calls Tryz.prog 44 #[.string s, .string ⟨#[32, 9]⟩] w fun e w' => e = .returned (.string X) ∧ Below w.heap.size w w' := by
  have := Any.strings_Trim_laid Tryz.lays160 (by kernel_rfl) s ⟨#[32, 9]⟩ w hs (by decide) (ascii_of_all (by decide))
  rw [show (⟨#[32, 9]⟩ : ByteArray).data.toList = [32, 9] from rfl, trimS_eq, ← hX] at this
  exact this
end Go.Proofs.YtcgeiimihihhpaaGreatDoor.W18

namespace Go.Proofs.YtcgeiimihihhpaaGreatDoor.W18
open Go Go.RowKit P12 P18

set_option maxHeartbeats 3200000 in
set_option maxRecDepth 1000000 in
theorem headers_any (b : Nat) (d : ByteArray) (k : Nat) (m p q y c z : Value) (w : World) (hr : Rd b (rdr d k m p q (.slice none 0 0) y c z) w) (hk : k ≤ d.size) (hd : d.size ≤ 281474976710656) :
    Calls Tryz.prog 18 #[.pointer (some ⟨b, 0, none⟩)] w (HeadsPost b d m p q y c z (headsL (d.data.toList.drop k)) w) := by
  have hbl := hr.lt
  cases hl : lineL (d.data.toList.drop k) with
  | stop t =>
    have hR : headsL (d.data.toList.drop k) = .stop t := by unfold headsL; rw [headsGo_line, hl]; rfl
    have hcon := line_stop b d k m p q _ y c z w hr hk hd t hl
    have HR := Lib.hid hR
    clear hl hR
    go_enter Tryz.func18, Tryz.ntmps18
    go_wp2_with (go_at_call 31; refine hcon.mono ?_; rintro e w1 ⟨rfl, hb1⟩)
    exact ⟨rfl, heads_stop HR.out (Only.of hbl hb1)⟩
  | ok l r =>
    obtain ⟨j, hkj, hjd, hrj, hje⟩ := line_ok_at hk hl
    have hll : l.length ≤ 256 := (P18.line_ok.1 hl).2.1
    obtain ⟨L, hL⟩ : ∃ L : ByteArray, L = ⟨l.toArray⟩ := ⟨_, rfl⟩
    have hcon := line_whole b d k m p q _ y c z w hr hk hd l r hl L hL j hje
    have hLd : L.data.toList = l := by rw [hL]
    have hLs : L.size ≤ 256 := by rw [← size_data, hLd]; exact hll
    obtain ⟨RES, hRES⟩ : ∃ R, R = headsL (d.data.toList.drop k) := ⟨_, rfl⟩
    rw [← hRES]
    have hR : RES = (hdrStep (16 - ([] : List Hdr).length) L.data.toList (d.data.toList.drop j)).map ([] ++ ·) := by
      rw [hRES]
      unfold headsL
      rw [headsGo_line, hl, hLd, ← hrj]
      show hdrStep 16 l r = (hdrStep 16 l r).map ([] ++ ·)
      cases hdrStep 16 l r <;> simp [Res.map]
    have HR := Lib.hid hR
    clear hl hR hRES hL hLd hll hrj hje hr
    go_enter Tryz.func18, Tryz.ntmps18
    go_wp2_with (go_at_call 31; refine hcon.mono ?_; rintro e w1 ⟨rfl, hr1, hO1⟩; refine Hid.out ?_)
    refine Lib.hid ?_
    clear hcon
    go_wp2_with fail
    go_loopg [4] (d.size - j) (fun g s wr => ∃ (j : Nat) (L : ByteArray) (hs : List Hdr) (v : Value), s = .string L ∧ j + g ≤ d.size ∧ d.size ≤ j + g ∧ L.size ≤ 256 ∧ hs.length ≤ 16 ∧ Hid (RES = (hdrStep (16 - hs.length) L.data.toList (d.data.toList.drop j)).map (hs ++ ·)) ∧ Rd b (rdr d j m p q v y c z) wr ∧ OwnH wr w.heap.size v hs ∧ Only b w wr)
    case atStart => exact ⟨j, L, [], _, rfl, by omega, by omega, hLs, by simp, HR, hr1, World.ownsRow_nil _ _ _ _, hO1⟩
    case round =>
      clear hr1 hO1 HR hLs
      obtain ⟨j, L, hs, v, rfl, hjg, hgj, hLs, hn, HR, hr1, hI, hO1⟩ := hrel
      by_cases h0 : L.data.toList = []
      · have g0 : L.toList = [] := by rw [Lib.toList_data]; exact h0
        have hv := HR.out
        rw [hdr_nil h0] at hv
        have HV := Lib.hid hv
        clear hv HR h0
        go_wp2_with fail
        go_end0
        exact heads_ok HV.out hO1 (by omega) hr1 hI
      · have g0 : ¬ L.toList = [] := by rw [Lib.toList_data]; exact h0
        have g0' : (!L.toList.isEmpty) = true := by simp [g0]
        obtain ⟨o5, c5, rfl⟩ := own_slice hI
        have x5 := hr1.cell 5
        have x5' := x5
        simp only [rdr, List.getElem?_toArray, List.getElem?_cons_succ, List.getElem?_cons_zero] at x5'
        clear x5
        by_cases h16 : hs.length = 16
        · have hlt : decide ((hs.length : Int) < 16) = false := decide_eq_false (by omega)
          have hv := HR.out
          rw [hdr_full h0 h16] at hv
          have HV := Lib.hid hv
          clear hv HR h0
          go_wp2_with (go_at_call 32; first | ((with_reducible refine (need_ok _ _).mono ?_); rintro e w' ⟨rfl, rfl⟩) | ((with_reducible refine (need_no _ _).mono ?_); rintro e w' ⟨rfl, rfl⟩))
          exact ⟨rfl, heads_stop HV.out hO1⟩
        · have hlt : decide ((hs.length : Int) < 16) = true := decide_eq_true (by omega)
          have hn16 : hs.length < 16 := by omega
          obtain ⟨P, hP⟩ : ∃ P : ByteArray, P = ⟨(cutL 58 L.data.toList).1.toArray⟩ := ⟨_, rfl⟩
          obtain ⟨Q, hQ⟩ : ∃ P : ByteArray, P = ⟨(cutL 58 L.data.toList).2.1.toArray⟩ := ⟨_, rfl⟩
          obtain ⟨B, hB⟩ : ∃ B : Bool, B = (cutL 58 L.data.toList).2.2 := ⟨_, rfl⟩
          have hcut := fun X => Cut_any L 58 X (by omega)
          simp only [bs] at hcut
          rw [← hP, ← hQ, ← hB] at hcut
          have hPd : P.data.toList = (cutL 58 L.data.toList).1 := by rw [hP]
          have hQd : Q.data.toList = (cutL 58 L.data.toList).2.1 := by rw [hQ]
          have hle := cut_le 58 L.data.toList
          rw [size_data] at hle
          have hPz : P.size ≤ 256 := by rw [← size_data, hPd]; omega
          have hQz : Q.size ≤ 256 := by rw [← size_data, hQd]; omega
          have hdef : headerL L.data.toList = if B = true ∧ P.data.toList ≠ [] ∧ P.data.toList.all tokenC = true ∧ Q.data.toList.all shownC = true then some ⟨smallL P.data.toList, trimL Q.data.toList⟩ else none := by
            unfold headerL
            rw [hB, hPd, hQd]
          have hofP := fun X => of_any _ _ token_pred P X (by omega)
          have hofQ := fun X => of_any _ _ shown_pred Q X (by omega)
          clear hP hQ hB hPd hQd hle
          go_wp2_with (first
            | (go_at_call 32; first | ((with_reducible refine (need_ok _ _).mono ?_); rintro e w' ⟨rfl, rfl⟩) | ((with_reducible refine (need_no _ _).mono ?_); rintro e w' ⟨rfl, rfl⟩))
            | (go_at_call 36; refine (hcut _).mono ?_; rintro e w2 ⟨rfl, hb2⟩; refine Hid.out ?_))
          refine Lib.hid ?_
          have hr2 := hr1.keep hb2
          have hO2 := hO1.trans (Only.of hr1.lt hb2)
          have hI2 := own_keep hI hb2
          clear hcut x5' hr1 hO1 hI hb2
          by_cases hok : B = true ∧ P.data.toList ≠ [] ∧ P.data.toList.all tokenC = true ∧ Q.data.toList.all shownC = true
          · rw [if_pos hok] at hdef
            obtain ⟨rfl, hp0, ht, hsh⟩ := hok
            rw [ht] at hofP
            rw [hsh] at hofQ
            have g1 : ¬ P.toList = [] := by rw [Lib.toList_data]; exact hp0
            have g1' : (!P.toList.isEmpty) = true := by simp [g1]
            obtain ⟨X, hX⟩ : ∃ X : ByteArray, X = ⟨(smallL P.data.toList).toArray⟩ := ⟨_, rfl⟩
            obtain ⟨Y, hY⟩ : ∃ X : ByteArray, X = ⟨(trimL Q.data.toList).toArray⟩ := ⟨_, rfl⟩
            have hsm := fun W => small_any P X hX W (by omega)
            have htr := fun W => Trim_any Q Y hY W (by omega)
            have hdef2 : headerL L.data.toList = some ⟨X.data.toList, Y.data.toList⟩ := by rw [hdef, hX, hY]
            have HD := Lib.hid hdef2
            have H0 := Lib.hid h0
            clear hp0 ht hsh hdef hdef2 hX hY h0 h16
            go_wp2_with (first
              | (go_at_call 32; first | ((with_reducible refine (need_ok _ _).mono ?_); rintro e w' ⟨rfl, rfl⟩) | ((with_reducible refine (need_no _ _).mono ?_); rintro e w' ⟨rfl, rfl⟩))
              | (go_at_call 34; first | ((with_reducible refine (hofP _).mono ?_); rintro e w' ⟨rfl, rfl⟩) | ((with_reducible refine (hofQ _).mono ?_); rintro e w' ⟨rfl, rfl⟩)))
            have r2 : Rd b (rdr d j m p q (.slice o5 hs.length c5) y c z) w2.drew := hr2
            have O2 : Only b w w2.drew := ⟨⟨hO2.below.os, hO2.below.tape, hO2.below.output, hO2.below.size, hO2.below.block⟩, hO2.past⟩
            have I2 : OwnH w2.drew w.heap.size (.slice o5 hs.length c5) hs := hI2.drew
            have x2 : w2.cell? ⟨b, 5, none⟩ = some (.slice o5 hs.length c5) := hr2.cell 5
            have hl6 : (hs ++ [(⟨X.data.toList, Y.data.toList⟩ : Hdr)]).length = hs.length + 1 := by simp
            clear hofP hofQ
            go_region_law (first
              | (go_simp; go_at_call 43; refine (hsm _).mono ?_; rintro e w3 ⟨rfl, hb3⟩; dsimp only; first | (have r3 : Rd b (rdr d j m p q (.slice o5 hs.length c5) y c z) w3 := r2.keep hb3; have l3 := r3.lt; have O3 := O2.trans (Only.of r2.lt hb3); have I3 := own_keep I2 hb3; have x3 : w3.cell? ⟨b, 5, none⟩ = some (.slice o5 hs.length c5) := r3.cell 5) | (have r3 : Rd b (rdr d j m p q (.slice o5 hs.length c5) y c z) w3 := r4.keep hb3; have l3 := r3.lt; have O3 := O4.trans (Only.of r4.lt hb3); have I3 := own_keep I4 hb3; have x3 : w3.cell? ⟨b, 5, none⟩ = some (.slice o5 hs.length c5) := r3.cell 5))
              | (go_simp; go_at_call 44; refine (htr _).mono ?_; rintro e w4 ⟨rfl, hb4⟩; dsimp only; first | (have r4 : Rd b (rdr d j m p q (.slice o5 hs.length c5) y c z) w4 := r2.keep hb4; have l4 := r4.lt; have O4 := O2.trans (Only.of r2.lt hb4); have I4 := own_keep I2 hb4; have x4 : w4.cell? ⟨b, 5, none⟩ = some (.slice o5 hs.length c5) := r4.cell 5) | (have r4 : Rd b (rdr d j m p q (.slice o5 hs.length c5) y c z) w4 := r3.keep hb4; have l4 := r4.lt; have O4 := O3.trans (Only.of r3.lt hb4); have I4 := own_keep I3 hb4; have x4 : w4.cell? ⟨b, 5, none⟩ = some (.slice o5 hs.length c5) := r4.cell 5))
              | (refine step_appH (by rfl) (.tmp 49) (.tmp 55) (by rfl) w b w.heap.size _ (r3.keep (below_alloc _ _)) (O3.trans (Only.of r3.lt (below_alloc _ _))) (Nat.le_refl _) (by have := O3.size; simp; omega) hbl _ hs (by rfl) (own_keep I3 (below_alloc _ _)) _ _ (by rfl) X Y (Lib.cell_of_heap (heap_new _ _) 0) (Lib.cell_of_heap (heap_new _ _) 1) (by omega) ?_; intro v5 w5 I5 r5 O5; obtain ⟨o6, c6, hv6⟩ := own_slice I5; rw [hl6] at hv6; subst hv6; have f5 := r5.free 5; have x5 : w5.cell? ⟨b, 5, none⟩ = some (.slice o5 hs.length c5) := r5.cell 5)
              | (refine step_appH (by rfl) (.tmp 49) (.tmp 55) (by rfl) w b w.heap.size _ (r4.keep (below_alloc _ _)) (O4.trans (Only.of r4.lt (below_alloc _ _))) (Nat.le_refl _) (by have := O4.size; simp; omega) hbl _ hs (by rfl) (own_keep I4 (below_alloc _ _)) _ _ (by rfl) X Y (Lib.cell_of_heap (heap_new _ _) 0) (Lib.cell_of_heap (heap_new _ _) 1) (by omega) ?_; intro v5 w5 I5 r5 O5; obtain ⟨o6, c6, hv6⟩ := own_slice I5; rw [hl6] at hv6; subst hv6; have f5 := r5.free 5; have x5 : w5.cell? ⟨b, 5, none⟩ = some (.slice o5 hs.length c5) := r5.cell 5))
            all_goals
              have r6 := r5.set 5 (.slice o6 (hs.length + 1) c6) (by simp)
              change Rd b (rdr d j m p q (.slice o6 (hs.length + 1) c6) y c z) _ at r6
              have O6 := O5.trans (Only.set w5 5 (.slice o6 (hs.length + 1) c6))
              have I6 := ownsRow_setCell_below I5 (a := ⟨b, 5, none⟩) hbl (.slice o6 (hs.length + 1) c6)
              clear r2 O2 I2 x2 l3 l4 r3 r4 O3 O4 I3 I4 hI2 hO2 hr2 hsm htr x5 f5 hb3 hb4 r5 O5 I5
              have hnl : (hs ++ [(⟨X.data.toList, Y.data.toList⟩ : Hdr)]).length ≤ 16 := by simp; omega
              cases hl2 : lineL (d.data.toList.drop j) with
              | stop t =>
                have hv := HR.out
                rw [hdr_stop H0.out hn16 HD.out hl2] at hv
                have HV := Lib.hid hv
                have hcon := fun W hR => line_stop b d j m p q (.slice o6 (hs.length + 1) c6) y c z W hR (by omega) hd t hl2
                clear hv HR H0 HD hl2
                go_wp2_with (go_at_call 31; refine (hcon _ r6).mono ?_; rintro e w7 ⟨rfl, hb7⟩)
                exact ⟨rfl, heads_stop HV.out (O6.trans (Only.of r6.lt hb7))⟩
              | ok l' r' =>
                obtain ⟨j', hjj, hjd, hrj, hje⟩ := line_ok_at (by omega) hl2
                have hll : l'.length ≤ 256 := (P18.line_ok.1 hl2).2.1
                obtain ⟨L', hL'⟩ : ∃ L : ByteArray, L = ⟨l'.toArray⟩ := ⟨_, rfl⟩
                have hLd : L'.data.toList = l' := by rw [hL']
                have hLs' : L'.size ≤ 256 := by rw [← size_data, hLd]; exact hll
                have hcon := fun W hR => line_whole b d j m p q (.slice o6 (hs.length + 1) c6) y c z W hR (by omega) hd l' r' hl2 L' hL' j' hje
                have hv := HR.out
                rw [hdr_next H0.out hn16 HD.out hl2, hrj, ← hLd] at hv
                have HV := Lib.hid hv
                clear hv HR H0 HD hl2 hL' hLd hll hrj hje
                go_wp2_with (go_at_call 31; refine (hcon _ r6).mono ?_; rintro e w7 ⟨rfl, r7, O7⟩; refine Hid.out ?_)
                refine Lib.hid ?_
                clear hcon
                go_wp2_with fail
                go_roundg (d.size - j')
                case measure => omega
                case rel => exact ⟨j', L', hs ++ [⟨X.data.toList, Y.data.toList⟩], _, rfl, by omega, by omega, hLs', hnl, HV, r7, own_only hbl I6 O7, O6.trans O7⟩
          · rw [if_neg hok] at hdef
            have hv := HR.out
            rw [hdr_bad h0 hn16 hdef] at hv
            have HV := Lib.hid hv
            clear hv HR h0 hdef h16
            cases hB : B
            · subst hB
              clear hok
              go_wp2_with (first
                | (go_at_call 32; first | ((with_reducible refine (need_ok _ _).mono ?_); rintro e w' ⟨rfl, rfl⟩) | ((with_reducible refine (need_no _ _).mono ?_); rintro e w' ⟨rfl, rfl⟩))
                | (go_at_call 34; first | ((with_reducible refine (hofP _).mono ?_); rintro e w' ⟨rfl, rfl⟩) | ((with_reducible refine (hofQ _).mono ?_); rintro e w' ⟨rfl, rfl⟩)))
              exact ⟨rfl, heads_stop HV.out hO2⟩
            · subst hB
              by_cases hp0 : P.data.toList = []
              · have g1 : P.toList = [] := by rw [Lib.toList_data]; exact hp0
                clear hok hp0
                go_wp2_with (first
                  | (go_at_call 32; first | ((with_reducible refine (need_ok _ _).mono ?_); rintro e w' ⟨rfl, rfl⟩) | ((with_reducible refine (need_no _ _).mono ?_); rintro e w' ⟨rfl, rfl⟩))
                  | (go_at_call 34; first | ((with_reducible refine (hofP _).mono ?_); rintro e w' ⟨rfl, rfl⟩) | ((with_reducible refine (hofQ _).mono ?_); rintro e w' ⟨rfl, rfl⟩)))
                exact ⟨rfl, heads_stop HV.out hO2⟩
              · have g1 : ¬ P.toList = [] := by rw [Lib.toList_data]; exact hp0
                have g1' : (!P.toList.isEmpty) = true := by simp [g1]
                cases ht : P.data.toList.all tokenC
                · rw [ht] at hofP
                  clear hok hp0 ht
                  go_wp2_with (first
                    | (go_at_call 32; first | ((with_reducible refine (need_ok _ _).mono ?_); rintro e w' ⟨rfl, rfl⟩) | ((with_reducible refine (need_no _ _).mono ?_); rintro e w' ⟨rfl, rfl⟩))
                    | (go_at_call 34; first | ((with_reducible refine (hofP _).mono ?_); rintro e w' ⟨rfl, rfl⟩) | ((with_reducible refine (hofQ _).mono ?_); rintro e w' ⟨rfl, rfl⟩)))
                  exact ⟨rfl, heads_stop HV.out hO2⟩
                · cases hsh : Q.data.toList.all shownC
                  · rw [ht] at hofP
                    rw [hsh] at hofQ
                    clear hok hp0 ht hsh
                    go_wp2_with (first
                      | (go_at_call 32; first | ((with_reducible refine (need_ok _ _).mono ?_); rintro e w' ⟨rfl, rfl⟩) | ((with_reducible refine (need_no _ _).mono ?_); rintro e w' ⟨rfl, rfl⟩))
                      | (go_at_call 34; first | ((with_reducible refine (hofP _).mono ?_); rintro e w' ⟨rfl, rfl⟩) | ((with_reducible refine (hofQ _).mono ?_); rintro e w' ⟨rfl, rfl⟩)))
                    exact ⟨rfl, heads_stop HV.out hO2⟩
                  · exact absurd ⟨rfl, hp0, ht, hsh⟩ hok
end Go.Proofs.YtcgeiimihihhpaaGreatDoor.W18
