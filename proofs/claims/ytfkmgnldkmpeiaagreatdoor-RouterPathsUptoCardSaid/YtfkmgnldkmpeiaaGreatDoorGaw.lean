/-
  Walks of layer 20: awake. Conditions: the library's error values and its variable MaxLen.
  Walks of layer 20: page and its closure, of the program; page of the reference. Conditions: the first text and each line are short; the lines' cells hold them.
  Walks of layer 20: State, of the program and of the reference. Conditions: the library's error values; the state's cells hold it; its numbers are ints.
  A plain law of regions, second form: the region's first operation yields its value in every world (a copy), whoever waits for it; the rest is as in the first form: a head of operations that leave one value in every world that meets S, then a tail as a list.
-/
import Derived.Test.YtfkmgnldkmpeiaaGreatDoorGav
import Derived.Test.YtfkmgnldkmpeiaaGreatDoorGan
import Derived.Test.YtfkmgnldkmpeiaaGreatDoorGae
import Derived.Test.YtfkmgnldkmpeiaaGreatDoorGal

namespace Go.Proofs.YtfkmgnldkmpeiaaGreatDoor.W20
open Go Go.RowKit P12 P18 P20 W12

def awk1 : Rq := ⟨[80, 79, 83, 84], [47, 99, 47, 97, 99, 99, 37, 50, 48, 49, 47, 116, 97, 107, 101], [], [⟨[105, 100, 101, 109, 112, 111, 116, 101, 110, 99, 121, 45, 107, 101, 121], [107]⟩], [110, 61, 50], false⟩
def awk2 : Rq := ⟨[71, 69, 84], [47, 120], [], [], [], false⟩
def awkC : Cl := ⟨1, [97, 99, 99, 32, 49], [116, 97, 107, 101], [107], -1, [⟨[110], false, 2, []⟩], [], 0, 0, [], []⟩
theorem awk2_eq : routeL awk2 = (zeroC, 404) := by kernel_rfl
theorem awk1_eq : routeL awk1 = (awkC, 200) := by kernel_rfl
set_option maxHeartbeats 3200000 in
set_option maxRecDepth 100000 in
theorem awake_any (w : World) (hE : Env w) (hM : MaxL w) : Calls Tryz.prog 9 #[] w fun e w' => e = .returned (.bool true) ∧ Below w.heap.size w w' := by
  go_enter Tryz.func9, Tryz.ntmps9
  go_wp2_with fail
  have hv : RowsH (.slice (some ⟨w.heap.size, 0, none⟩) 1 1) awk1.headers (w.alloc (.cells #[.string ⟨#[105, 100, 101, 109, 112, 111, 116, 101, 110, 99, 121, 45, 107, 101, 121]⟩, .string ⟨#[107]⟩] 67)) := by
    have hx := new_at w #[.string ⟨#[105, 100, 101, 109, 112, 111, 116, 101, 110, 99, 121, 45, 107, 101, 121]⟩, .string ⟨#[107]⟩] 67
    refine ⟨_, 1, rfl, .inr ⟨_, 0, rfl, fun j h hj => ?_⟩⟩
    match j, hj with
    | 0, hj =>
      have : h = awk1.headers.head (by decide) := by simpa [awk1] using hj.symm
      subst this
      exact ⟨Lib.cell_of_heap hx 0, Lib.cell_of_heap hx 1⟩
    | j + 1, hj => simp [awk1] at hj
  have H1 := Route_any ⟨#[80, 79, 83, 84]⟩ ⟨#[47, 99, 47, 97, 99, 99, 37, 50, 48, 49, 47, 116, 97, 107, 101]⟩ ⟨#[]⟩ ⟨#[110, 61, 50]⟩ _ false awk1.headers _ (hE.new _) (hM.keep (below_alloc _ _)) (by decide) (by decide) (by decide) (by decide) (by decide) hv
  refine H1.mono ?_
  rintro e w1 ⟨fv, rfl, hr1, hb1⟩
  have E1 : routeL ⟨(⟨#[80, 79, 83, 84]⟩ : ByteArray).data.toList, (⟨#[47, 99, 47, 97, 99, 99, 37, 50, 48, 49, 47, 116, 97, 107, 101]⟩ : ByteArray).data.toList, (⟨#[]⟩ : ByteArray).data.toList, awk1.headers, (⟨#[110, 61, 50]⟩ : ByteArray).data.toList, false⟩ = (awkC, 200) := awk1_eq
  rw [E1] at hr1 ⊢
  obtain ⟨o, cp, rfl, -⟩ := hr1
  simp only
  have e1 : clC awkC (.slice o awkC.cfields.length cp) = #[.int .i64 1, .string ⟨#[97, 99, 99, 32, 49]⟩, .string ⟨#[116, 97, 107, 101]⟩, .string ⟨#[107]⟩, .int .i64 (-1), .slice o 1 cp, .string ⟨#[]⟩, .int .i64 0, .int .i64 0, .string ⟨#[]⟩, .string ⟨#[]⟩] := rfl
  rw [e1]
  have hbb := below_then (below_alloc w _) hb1
  clear H1 hv E1 e1
  go_wp2_with fail
  have y0 := new_at w1 #[.int .i64 1, .string ⟨#[97, 99, 99, 32, 49]⟩, .string ⟨#[116, 97, 107, 101]⟩, .string ⟨#[107]⟩, .int .i64 (-1), .slice o 1 cp, .string ⟨#[]⟩, .int .i64 0, .int .i64 0, .string ⟨#[]⟩, .string ⟨#[]⟩] tCl
  have hb2 := fun c => below_then hbb (below_alloc w1 c)
  have H2 := fun W hE hM => Route_any ⟨#[71, 69, 84]⟩ ⟨#[47, 120]⟩ ⟨#[]⟩ ⟨#[]⟩ (.slice none 0 0) false [] W hE hM (by decide) (by decide) (by decide) (by decide) (by decide) (rowsH_nil W)
  refine (H2 _ (hE.keep (hb2 _)) (hM.keep (hb2 _))).mono ?_
  rintro e w2 ⟨fv, rfl, hr2, hb3⟩
  have E2 : routeL ⟨(⟨#[71, 69, 84]⟩ : ByteArray).data.toList, (⟨#[47, 120]⟩ : ByteArray).data.toList, (⟨#[]⟩ : ByteArray).data.toList, [], (⟨#[]⟩ : ByteArray).data.toList, false⟩ = (zeroC, 404) := awk2_eq
  rw [E2] at hr2 ⊢
  obtain ⟨o2, cp2, rfl, -⟩ := hr2
  simp only
  have e2 : clC zeroC (.slice o2 zeroC.cfields.length cp2) = #[.int .i64 0, .string ⟨#[]⟩, .string ⟨#[]⟩, .string ⟨#[]⟩, .int .i64 0, .slice o2 0 cp2, .string ⟨#[]⟩, .int .i64 0, .int .i64 0, .string ⟨#[]⟩, .string ⟨#[]⟩] := rfl
  rw [e2]
  have hb4 := below_then (hb2 _) hb3
  have y1 := keep_at y0 hb3
  clear E2 e2 H2 y0 hb3 hb2 hbb
  go_wp2_with fail
  have hb5 := fun c => below_then hb4 (below_alloc w2 c)
  have y2 := fun c => keep_at y1 (below_alloc w2 c)
  refine (answer_done 1 1 4 2 ⟨#[]⟩ 0 _ (hE.keep (hb5 _)) rfl (by decide) (by decide) (by decide) ⟨#[99, 111, 117, 110, 116, 61, 50, 38, 102, 105, 114, 115, 116, 61, 49, 38, 112, 111, 115, 61, 52]⟩ (by kernel_rfl)).mono ?_
  rintro e w3 ⟨rfl, hb6⟩
  have hb7 := below_then (below_then (hb5 _) hb6) (below_alloc w3 (.cells #[.int .i64 200, .string ⟨#[99, 111, 117, 110, 116, 61, 50, 38, 102, 105, 114, 115, 116, 61, 49, 38, 112, 111, 115, 61, 52]⟩, .bool false] 40))
  have y3 := keep_at (keep_at (y2 _) hb6) (below_alloc w3 (.cells #[.int .i64 200, .string ⟨#[99, 111, 117, 110, 116, 61, 50, 38, 102, 105, 114, 115, 116, 61, 49, 38, 112, 111, 115, 61, 52]⟩, .bool false] 40))
  have z0 := Lib.cell_of_heap y3 0
  have z1 := Lib.cell_of_heap y3 1
  have z3 := Lib.cell_of_heap y3 3
  have z4 := Lib.cell_of_heap y3 4
  have z5 := Lib.cell_of_heap y3 5
  simp only [List.getElem?_toArray, List.getElem?_cons_zero, List.getElem?_cons_succ] at z0 z1 z3 z4 z5
  clear y3 y2 y1 hb6 hb5 hb4 hb1
  go_wp2_with fail
  go_ret
  exact ⟨rfl, hb7⟩
end Go.Proofs.YtfkmgnldkmpeiaaGreatDoor.W20

namespace Go.Proofs.YtfkmgnldkmpeiaaGreatDoor.W20
open Go Go.RowKit P12 P18 P20 W12

/-- The closure that puts a line. -/
abbrev putF (b : Nat) : Value := .func (.func 78) #[] #[.pointer (some ⟨b, 0, none⟩)]
set_option maxHeartbeats 3200000 in
set_option maxRecDepth 100000 in
theorem put_yes (B b : Nat) (l : By) (s : ByteArray) (w : World) (h : Bld B b l w) (hl : l.length + s.size ≤ 60000) (hBw : B ≤ w.heap.size) :
    Calls Tryz.prog 78 #[.string s, .pointer (some ⟨b, 0, none⟩)] w fun e w' => e = .returned (.bool true) ∧ Bld B b (l ++ s.data.toList) w' ∧ Kpt B b w w' := by
  have hlen := Tryz.Builder_Len_f B b (Lib.byteCells l) w h
  rw [Lib.byteCells_length] at hlen
  have hws := WriteString_any B b l s w h (by omega) hBw
  have hd : ¬ (l.length : Int) + (s.size : Int) > 60000 := by omega
  have hd1 : (l.length : Int) + (s.size : Int) ≤ 60000 := by omega
  have HL := Lib.hid hlen
  have HW := Lib.hid hws
  clear hlen hws h
  go_enter Tryz.func78, Tryz.ntmps78
  go_wp2_with (first
    | (go_at_call 79; refine HL.out.mono ?_; rintro e w1 ⟨rfl, rfl⟩)
    | (go_at_call 77; refine HW.out.mono ?_; rintro e w1 ⟨rfl, h1, hk⟩))
  go_ret
  exact ⟨rfl, h1, hk⟩
set_option maxHeartbeats 3200000 in
set_option maxRecDepth 100000 in
theorem put_no (B b : Nat) (l : By) (s : ByteArray) (w : World) (h : Bld B b l w) (hl : 60000 < l.length + s.size) (hl0 : l.length ≤ 60000) (hs : s.size ≤ 1000000000000) :
    Calls Tryz.prog 78 #[.string s, .pointer (some ⟨b, 0, none⟩)] w fun e w' => e = .returned (.bool false) ∧ w' = w := by
  have hlen := Tryz.Builder_Len_f B b (Lib.byteCells l) w h
  rw [Lib.byteCells_length] at hlen
  have hd : (l.length : Int) + (s.size : Int) > 60000 := by omega
  have hd1 : (l.length : Int) + (s.size : Int) ≤ 9000000000000 := by omega
  have HL := Lib.hid hlen
  clear hlen h
  go_enter Tryz.func78, Tryz.ntmps78
  go_wp2_with (go_at_call 79; refine HL.out.mono ?_; rintro e w1 ⟨rfl, rfl⟩)
  go_ret
  exact ⟨rfl, rfl⟩
/-- What lines do: they put the texts ls, as long as there is room. -/
def Puts (q : Nat) (lb : Array Value) (ls : List By) (w0 : World) : Prop :=
  ∀ (W : World) (B b : Nat) (l : By), Below w0.heap.size w0 W → w0.heap.size ≤ B → B ≤ W.heap.size → Bld B b l W → l.length ≤ 60000 →
    Calls Tryz.prog q (#[putF b] ++ lb) W fun e W' => e = .returned (.tuple #[]) ∧ Bld B b (pageL l ls) W' ∧ Kpt B b W W'
theorem Puts.keep {q : Nat} {lb : Array Value} {ls : List By} {w0 w1 : World} (h : Puts q lb ls w0) (hb : Below w0.heap.size w0 w1) : Puts q lb ls w1 :=
  fun W B b l hW hB hBw hbl hl => h W B b l (below_then hb hW) (by have := hb.size; omega) hBw hbl hl
set_option maxHeartbeats 3200000 in
set_option maxRecDepth 100000 in
theorem page_any (F : ByteArray) (q : Nat) (lb : Array Value) (ls : List By) (w : World) (hq : ∀ args W, (callFunc q args).run Tryz.prog W = .ok (.enter q args) W) (hp : Puts q lb ls w) (hF : F.size ≤ 60000) (X : ByteArray) (hX : X.data.toList = pageL F.data.toList ls) :
    Calls Tryz.prog 41 #[.string F, .func (.func q) #[] lb] w fun e w' => e = .returned (.agg #[.int .i64 200, .string X, .bool false]) ∧ Below w.heap.size w w' := by
  have HX := Lib.hid (show bs (pageL F.data.toList ls) = .string X by rw [← hX, bs_data])
  obtain ⟨w1, hw1⟩ : ∃ w1, w1 = w.alloc (.cells #[.int .i64 0, .string ⟨#[]⟩, .bool false] 40) := ⟨_, rfl⟩
  have hb1 : Below w.heap.size w w1 := by rw [hw1]; exact below_alloc _ _
  have hy1 : StAt 40 w.heap.size #[.int .i64 0, .string ⟨#[]⟩, .bool false] w1 := by rw [hw1]; exact new_at w _ _
  have hz1 : w1.heap.size = w.heap.size + 1 := by rw [hw1]; exact World.size_alloc ..
  have hB0 := fresh_bld w1
  have hb2 := below_alloc w1 (.cells #[.pointer none, .slice none 0 0] 81)
  have hWS := WriteString_any w1.heap.size w1.heap.size [] F _ hB0 (by simp; omega) hb2.size
  rw [hz1] at hWS
  rw [hw1] at hWS
  have HWS := Lib.hid hWS
  have HQ := Lib.hid hq
  have HP := Lib.hid hp
  have HZ := Lib.hid hz1
  have HW := Lib.hid hw1
  clear hX hWS hq hp hB0 hz1 hw1
  go_enter Tryz.func41, Tryz.ntmps41
  go_wp2_with (go_at_call 77; refine HWS.out.mono ?_; rintro e w2 ⟨rfl, hB2, hk2, -⟩; refine Hid.out ?_)
  refine Lib.hid ?_
  rw [← HW.out] at hk2
  have hb3 := hb2.trans (hk2.mono (Nat.le_of_eq HZ.out))
  rw [List.nil_append] at hB2
  have hy3 := keep_at hy1 hb3
  have hP := HP.out w2 (w.heap.size + 1) (w.heap.size + 1) F.data.toList (below_then hb1 hb3) (Nat.le_succ _) (by have := hb3.size; have := HZ.out; omega) hB2 (by rw [size_data]; exact hF)
  have HPP := Lib.hid hP
  have eg := HQ.out
  clear hP HP HWS hB2 hk2 hb2
  go_wp2_with (go_at_fn q; refine HPP.out.mono ?_; rintro e w4 ⟨rfl, hB4, hk4, -⟩; refine Hid.out ?_)
  refine Lib.hid ?_
  have hsz4 := hk4.size
  have hsz3 := hb3.size
  have hy4 := (hk4.block w.heap.size (by omega)).trans hy3
  have hST := String_any _ _ _ w4 hB4 (by have := HZ.out; omega)
  rw [HX.out] at hST
  have HS := Lib.hid hST
  clear hST hB4 HPP hy3
  go_wp2_with (go_at_call 38; refine HS.out.mono ?_; rintro e w5 ⟨rfl, hk5, -⟩; refine Hid.out ?_)
  refine Lib.hid ?_
  have hsz5 := hk5.size
  have hy5 := (hk5.block w.heap.size (by omega)).trans hy4
  have hb5 : Below w.heap.size w w5 := (below_then hb1 hb3).trans ((hk4.trans hk5).mono (Nat.le_succ _))
  go_wp2_with (refine put_st rfl _ _ _ rfl w.heap.size #[.int .i64 200, .string X, .bool false] rfl rfl hy5 infoRp rfl (by simp [Value.oneCell']) ?_; intro w9 h1 h2 h3)
  exact bodyPost_ret (v := .agg #[.int .i64 200, .string X, .bool false]) (ret_st1 Tryz.results41 _ _ _ _ rfl (load_rp h1 rfl)) rfl ⟨rfl, hb5.trans h2⟩

/-! ## The reference's -/
theorem pageL_stop {out l : By} {ls : List By} (h : 60000 < out.length + l.length) : pageL out (l :: ls) = out := by unfold pageL; rw [if_pos h]
theorem pageL_go {out l : By} {ls : List By} (h : ¬ 60000 < out.length + l.length) : pageL out (l :: ls) = pageL (out ++ l) ls := by rw [pageL, if_neg h]
theorem pageL_nil (out : By) : pageL out [] = out := rfl
theorem drop_cons {α : Type} {l : List α} {k : Nat} {x : α} (h : l[k]? = some x) : l.drop k = x :: l.drop (k + 1) := by
  obtain ⟨hk, rfl⟩ := List.getElem?_eq_some_iff.1 h
  exact List.drop_eq_getElem_cons hk
set_option maxHeartbeats 3200000 in
set_option maxRecDepth 100000 in
theorem refPage_any (F : ByteArray) (v : Value) (ls : List By) (w : World) (hv : W12.Strs v ls w) (hF : F.size ≤ 60000) (hl : ∀ l ∈ ls, l.length ≤ 1000000) (hn : ls.length ≤ 4611686018427387904) (X : ByteArray) (hX : X.data.toList = pageL F.data.toList ls) :
    Calls Tryz.prog 58 #[.string F, v] w fun e w' => e = .returned (.agg #[.int .i64 200, .string X, .bool false]) ∧ Below w.heap.size w w' := by
  obtain ⟨o, c, rfl, hc⟩ := hv
  obtain ⟨w1, hw1⟩ : ∃ w1, w1 = w.alloc (.cells #[.int .i64 0, .string ⟨#[]⟩, .bool false] 40) := ⟨_, rfl⟩
  have hb1 : Below w.heap.size w w1 := by rw [hw1]; exact below_alloc _ _
  have hy1 : StAt 40 w.heap.size #[.int .i64 0, .string ⟨#[]⟩, .bool false] w1 := by rw [hw1]; exact new_at w _ _
  have HC : Hid (ls = [] ∨ ∃ g off, o = some ⟨g, off, none⟩ ∧ ∀ (j : Nat) (p : By), ls[j]? = some p → w1.cell? ⟨g, off + j, none⟩ = some (bs p)) := Lib.hid (hc.imp id fun ⟨g, off, e, h⟩ => ⟨g, off, e, fun j p hj => keep_cell hb1 (h j p hj)⟩)
  have HX := Lib.hid hX
  have HL := Lib.hid hl
  clear hc hX hl
  go_enter Tryz.func58, Tryz.ntmps58
  go_wp2_with fail
  rw [← hw1]
  clear hw1
  go_loop [5, 6] (fun u i => ∃ (k : Nat) (O : ByteArray), k ≤ ls.length ∧ i = .int .i64 k ∧ u = .string O ∧ O.size ≤ 60000 ∧ Hid (X.data.toList = pageL O.data.toList (ls.drop k))) (fun _ i => ls.length - (intOf i).toNat)
  case atStart => exact ⟨0, F, Nat.zero_le _, rfl, rfl, hF, by rw [List.drop_zero]; exact HX⟩
  case round =>
    obtain ⟨k, O, hk, rfl, rfl, hO, HK⟩ := hrel
    by_cases hlt : k < ls.length
    · have hlt' : (k : Int) < (ls.length : Int) := by omega
      rcases HC.out with h0 | ⟨g, off, rfl, hcell⟩
      · rw [h0] at hlt; exact absurd hlt (Nat.not_lt_zero _)
      obtain ⟨p, hp⟩ : ∃ p, ls[k]? = some p := ⟨_, List.getElem?_eq_getElem hlt⟩
      have hcd := hcell k p hp
      obtain ⟨P, hP⟩ : ∃ P : ByteArray, P.data.toList = p := ⟨⟨p.toArray⟩, rfl⟩
      rw [← hP, bs_data] at hcd
      have hPs : P.size ≤ 1000000 := by
        have := HL.out p (List.mem_of_getElem? hp)
        rw [← hP, size_data] at this
        exact this
      have hKK := HK.out
      rw [drop_cons hp, ← hP] at hKK
      have hb0 : (O.size : Int) + (P.size : Int) ≤ 2000000 := by omega
      clear hcell hp hP HC
      by_cases hfit : 60000 < O.size + P.size
      · have hz : (O.size : Int) + (P.size : Int) > 60000 := by omega
        have HE : Hid (X = O) := Lib.hid (ba_ext (by rw [hKK, pageL_stop (by rw [size_data, size_data]; exact hfit)]))
        clear hKK HK
        go_wp2_with (refine put_st rfl _ _ _ rfl w.heap.size #[.int .i64 200, .string O, .bool false] rfl rfl hy1 infoRp rfl (by simp [Value.oneCell']) ?_; intro w9 h1 h2 h3)
        exact bodyPost_ret (v := .agg #[.int .i64 200, .string O, .bool false]) (ret_st1 Tryz.results58 _ _ _ _ rfl (load_rp h1 rfl)) rfl ⟨by rw [HE.out], hb1.trans h2⟩
      · have hz : ¬ (O.size : Int) + (P.size : Int) > 60000 := by omega
        obtain ⟨T, hT⟩ : ∃ T, T = O ++ P := ⟨_, rfl⟩
        have hTs : T.size = O.size + P.size := by rw [hT, ByteArray.size_append]
        have p1 : ∀ W, (Op.stringOp .add O P).run Tryz.prog W = .ok (.string T) W := fun W => by rw [hT]; exact run_string_add_sum W _ _ (by omega)
        rw [pageL_go (by rw [size_data, size_data]; exact hfit)] at hKK
        have HKK : Hid (X.data.toList = pageL T.data.toList (ls.drop (k + 1))) := Lib.hid (by rw [hKK, hT, ByteArray.data_append, Array.toList_append])
        have hT6 : T.size ≤ 60000 := by omega
        clear hKK HK hT hTs
        go_wp2_with fail
        go_round
        case rel => exact ⟨k + 1, T, by omega, by go_num, rfl, hT6, HKK⟩
        case measure => simp [intOf]; omega
    · obtain rfl : k = ls.length := by omega
      have HE : Hid (X = O) := Lib.hid (ba_ext (by rw [HK.out, List.drop_length, pageL_nil]))
      clear HK HC
      go_wp2_with (refine put_st rfl _ _ _ rfl w.heap.size #[.int .i64 200, .string O, .bool false] rfl rfl hy1 infoRp rfl (by simp [Value.oneCell']) ?_; intro w9 h1 h2 h3)
      exact bodyPost_ret (v := .agg #[.int .i64 200, .string O, .bool false]) (ret_st1 Tryz.results58 _ _ _ _ rfl (load_rp h1 rfl)) rfl ⟨by rw [HE.out], hb1.trans h2⟩
end Go.Proofs.YtfkmgnldkmpeiaaGreatDoor.W20

namespace Go.Proofs.YtfkmgnldkmpeiaaGreatDoor.W20
open Go Go.RowKit P12 P18 P20 W12

theorem kpt_of {B b : Nat} {W W' : World} (hB : B ≤ W.heap.size) (h : Below W.heap.size W W') : Kpt B b W W' :=
  ⟨h.mono hB, fun k _ hk _ _ => (h.block k (Array.getElem?_eq_some_iff.1 hk).1).trans hk⟩
theorem kpt_then {B b : Nat} {a c d : World} (h : Kpt B b a c) (k : Kpt B b c d) : Kpt B b a d := ⟨h.1.trans k.1, h.2.trans k.2⟩
/-- A record's text under a name of its own. -/
theorem record_named (l : List Fld) (hrange : ∀ f ∈ l, rangeF f) : ∃ X : ByteArray, X.data.toList = recordL l ∧ X.size ≤ 20000 :=
  ⟨⟨(recordL l).toArray⟩, rfl, by rw [size_mk]; exact W12.write_size hrange⟩
theorem range_num (n : By) {x : Int} (h : -9223372036854775808 ≤ x ∧ x ≤ 9223372036854775807) : rangeF (numF n x) := h
theorem range_text (n s : By) : rangeF (textFl n s) := ⟨by simp [textFl], by simp [textFl]⟩
set_option maxHeartbeats 3200000 in
set_option maxRecDepth 100000 in
theorem state_puts (bx : Nat) (v : Value) (l : List Fld) (w0 : World) (hE : Env w0) (hx : w0.cell? ⟨bx, 0, none⟩ = some v) (hr : W12.Rows v l w0) (hlen : l.length ≤ 4611686018427387904) (hrange : ∀ f ∈ l, rangeF f) : Puts 59 #[.pointer (some ⟨bx, 0, none⟩)] [recordL l] w0 := by
  intro W B b out hW hB hBw hbl hout
  show Calls Tryz.prog 59 #[putF b, .pointer (some ⟨bx, 0, none⟩)] W _
  have hx1 := keep_cell hW hx
  obtain ⟨X, hX, hXs⟩ := record_named l hrange
  have HR := Lib.hid (record_any v l X hX W (hE.keep hW) (hr.keep hW) hlen hrange)
  rw [← hX]
  have HB := Lib.hid hbl
  clear hX hx hr hrange hbl hW
  by_cases hfit : out.length + X.size ≤ 60000
  · have HP := Lib.hid (show pageL out [X.data.toList] = out ++ X.data.toList by rw [pageL_go (by rw [size_data]; omega)]; rfl)
    go_enter Tryz.func59, Tryz.ntmps59
    go_wp2_with (go_at_call 43; refine HR.out.mono ?_; rintro e w1 ⟨rfl, hb1⟩; refine Hid.out ?_)
    refine Lib.hid ?_
    have HPP := Lib.hid (put_yes B b out X w1 (HB.out.keep hb1) hfit (Nat.le_trans hBw hb1.size))
    go_wp2_with (go_at_call 78; refine HPP.out.mono ?_; rintro e w2 ⟨rfl, hB2, hk2⟩)
    go_end0
    exact ⟨rfl, by rw [HP.out]; exact hB2, kpt_then (kpt_of hBw hb1) hk2⟩
  · have HP := Lib.hid (show pageL out [X.data.toList] = out by rw [pageL_stop (by rw [size_data]; omega)])
    go_enter Tryz.func59, Tryz.ntmps59
    go_wp2_with (go_at_call 43; refine HR.out.mono ?_; rintro e w1 ⟨rfl, hb1⟩; refine Hid.out ?_)
    refine Lib.hid ?_
    have HPP := Lib.hid (put_no B b out X w1 (HB.out.keep hb1) (by omega) hout (by omega))
    have hB1 := Lib.hid (HB.out.keep hb1)
    go_wp2_with (go_at_call 78; refine HPP.out.mono ?_; rintro e w2 ⟨rfl, rfl⟩)
    go_end0
    exact ⟨rfl, by rw [HP.out]; exact hB1.out, kpt_of hBw hb1⟩
abbrev oneF (n : ByteArray) (x : Int) : Array Value := #[.string n, .bool false, .int .i64 x, .string ⟨#[]⟩]
abbrev zRp : Array Value := #[.int .i64 0, .string ⟨#[]⟩, .bool false]
set_option maxHeartbeats 3200000 in
set_option maxRecDepth 100000 in
theorem State_any (n : Int) (v : Value) (l : List Fld) (w : World) (hE : Env w) (hr : W12.Rows v l w) (hlen : l.length ≤ 4611686018427387904) (hrange : ∀ f ∈ l, rangeF f) (hn : -9223372036854775808 ≤ n ∧ n ≤ 9223372036854775807) (X : ByteArray) (hX : X.data.toList = stateL n l) :
    Calls Tryz.prog 24 #[.int .i64 n, v] w fun e w' => e = .returned (.agg #[.int .i64 200, .string X, .bool false]) ∧ Below w.heap.size w w' := by
  obtain ⟨o, c, rfl, -⟩ := id hr
  obtain ⟨w1, hw1⟩ : ∃ w1, w1 = (w.alloc (.cells #[.slice o l.length c] 26)).alloc (.cells zRp 40) := ⟨_, rfl⟩
  have hb1 : Below w.heap.size w w1 := by rw [hw1]; exact below_then (below_alloc _ _) (below_alloc _ _)
  have hx1 : w1.cell? ⟨w.heap.size, 0, none⟩ = some (.slice o l.length c) := by rw [hw1]; exact Lib.cell_of_heap (keep_at (new_at w #[.slice o l.length c] _) (below_alloc _ _)) 0
  have hy1 : StAt 40 (w.heap.size + 1) zRp w1 := by
    have := new_at (w.alloc (.cells #[.slice o l.length c] 26)) zRp 40
    rw [World.size_alloc] at this
    rw [hw1]
    exact this
  have HRW := Lib.hid (hr.keep hb1)
  have hE1 := hE.keep hb1
  obtain ⟨F, hF, hFs⟩ := record_named [numF nVersion n] (by simp only [List.mem_singleton]; rintro f rfl; exact hn)
  obtain ⟨T, hT⟩ : ∃ T : ByteArray, T = F ++ ⟨#[10]⟩ := ⟨_, rfl⟩
  have hTs : T.size = F.size + 1 := by rw [hT, ByteArray.size_append]; rfl
  have p1 : ∀ W, (Op.stringOp .add F ⟨#[10]⟩).run Tryz.prog W = .ok (.string T) W := fun W => by rw [hT]; exact run_string_add_sum W _ _ (by rw [show (⟨#[10]⟩ : ByteArray).size = 1 from rfl]; omega)
  have HX : Hid (X.data.toList = pageL T.data.toList [recordL l]) := Lib.hid (by rw [hX, hT, ByteArray.data_append, Array.toList_append, hF]; rfl)
  have HF := Lib.hid hF
  have HRG := Lib.hid hrange
  clear hT hX hF hrange hr hE
  go_enter Tryz.func24, Tryz.ntmps24
  go_wp2_with (go_at_call 44; rw [← hw1]; refine (num_any _ _ _).mono ?_; rintro e w2 ⟨rfl, hb2⟩; refine Hid.out ?_)
  refine Lib.hid ?_
  have hb3 := below_then hb2 (below_alloc w2 (.cells (oneF ⟨#[118, 101, 114, 115, 105, 111, 110]⟩ n) 54))
  have hrw := rows_lit (l := [numF nVersion n]) (new_at w2 (oneF ⟨#[118, 101, 114, 115, 105, 111, 110]⟩ n) 54) 1
  have HRC := Lib.hid (record_any _ _ F HF.out _ (hE1.keep hb3) hrw (by simp) (by simp only [List.mem_singleton]; rintro f rfl; exact hn))
  clear hrw hw1 hb2
  go_wp2_with (go_at_call 43; refine HRC.out.mono ?_; rintro e w3 ⟨rfl, hb4⟩; refine Hid.out ?_)
  refine Lib.hid ?_
  have hb5 := below_then hb3 hb4
  have hx5 := keep_cell hb5 hx1
  have HPG := Lib.hid (page_any T 59 #[.pointer (some ⟨w.heap.size, 0, none⟩)] [recordL l] w3 (fun args W => by simp [go_sem]) (state_puts w.heap.size _ l w3 (hE1.keep hb5) hx5 (HRW.out.keep hb5) hlen HRG.out) (by omega) X HX.out)
  have hy5 := keep_at hy1 hb5
  clear hx1 hx5 hb3 hb4 HRC hTs
  go_wp2_with (go_at_call 41; refine HPG.out.mono ?_; rintro e w4 ⟨rfl, hb6⟩; refine Hid.out ?_)
  refine Lib.hid ?_
  have hy6 := keep_at hy5 hb6
  have hb7 := below_then hb1 (below_then hb5 hb6)
  go_wp2_with (refine put_st rfl _ _ _ rfl (w.heap.size + 1) #[.int .i64 200, .string X, .bool false] rfl rfl hy6 infoRp rfl (by simp [Value.oneCell']) ?_; intro w9 h1 h2 h3)
  exact bodyPost_ret (v := .agg #[.int .i64 200, .string X, .bool false]) (ret_st1 Tryz.results24 _ _ _ _ rfl (load_rp h1 rfl)) rfl ⟨rfl, hb7.trans (h2.mono (Nat.le_succ _))⟩
theorem strs_lone (w : World) (X : ByteArray) (c : Nat) : W12.Strs (.slice (some ⟨w.heap.size, 0, none⟩) 1 c) [X.data.toList] (w.alloc (.cells #[.string X] 9)) := by
  refine ⟨_, c, rfl, .inr ⟨_, 0, rfl, fun j p hj => ?_⟩⟩
  match j, hj with
  | 0, hj =>
    have : p = X.data.toList := by simpa using hj.symm
    rw [this, bs_data]
    exact Lib.cell_of_heap (new_at w #[.string X] 9) 0
  | j + 1, hj => simp at hj
set_option maxHeartbeats 3200000 in
set_option maxRecDepth 100000 in
theorem refState_any (n : Int) (v : Value) (l : List Fld) (w : World) (hE : Env w) (hr : W12.Rows v l w) (hlen : l.length ≤ 4611686018427387904) (hrange : ∀ f ∈ l, rangeF f) (hn : -9223372036854775808 ≤ n ∧ n ≤ 9223372036854775807) (X : ByteArray) (hX : X.data.toList = stateL n l) :
    Calls Tryz.prog 25 #[.int .i64 n, v] w fun e w' => e = .returned (.agg #[.int .i64 200, .string X, .bool false]) ∧ Below w.heap.size w w' := by
  obtain ⟨w1, hw1⟩ : ∃ w1, w1 = w.alloc (.cells zRp 40) := ⟨_, rfl⟩
  have hb1 : Below w.heap.size w w1 := by rw [hw1]; exact below_alloc _ _
  have hy1 : StAt 40 w.heap.size zRp w1 := by rw [hw1]; exact new_at w _ _
  have HRW := Lib.hid (hr.keep hb1)
  have hE1 := hE.keep hb1
  obtain ⟨F, hF, hFs⟩ := record_named [numF nVersion n] (by simp only [List.mem_singleton]; rintro f rfl; exact hn)
  obtain ⟨R, hR, hRs⟩ := record_named l hrange
  obtain ⟨T, hT⟩ : ∃ T : ByteArray, T = F ++ ⟨#[10]⟩ := ⟨_, rfl⟩
  have hTs : T.size = F.size + 1 := by rw [hT, ByteArray.size_append]; rfl
  have p1 : ∀ W, (Op.stringOp .add F ⟨#[10]⟩).run Tryz.prog W = .ok (.string T) W := fun W => by rw [hT]; exact run_string_add_sum W _ _ (by rw [show (⟨#[10]⟩ : ByteArray).size = 1 from rfl]; omega)
  have HX : Hid (X.data.toList = pageL T.data.toList [R.data.toList]) := Lib.hid (by rw [hX, hT, ByteArray.data_append, Array.toList_append, hF, hR]; rfl)
  have HF := Lib.hid hF
  have HR := Lib.hid hR
  have HRG := Lib.hid hrange
  clear hT hX hF hR hrange hr hE
  go_enter Tryz.func25, Tryz.ntmps25
  go_wp2_with (go_at_call 57; rw [← hw1]; refine (refNum_any _ _ _).mono ?_; rintro e w2 ⟨rfl, hb2⟩; refine Hid.out ?_)
  refine Lib.hid ?_
  have hb3 := below_then hb2 (below_alloc w2 (.cells (oneF ⟨#[118, 101, 114, 115, 105, 111, 110]⟩ n) 54))
  have hrw := rows_lit (l := [numF nVersion n]) (new_at w2 (oneF ⟨#[118, 101, 114, 115, 105, 111, 110]⟩ n) 54) 1
  have HRC := Lib.hid (refRecord_any _ _ F HF.out _ (hE1.keep hb3) hrw (by simp) (by simp only [List.mem_singleton]; rintro f rfl; exact hn))
  clear hrw hw1 hb2
  go_wp2_with (go_at_call 55; refine HRC.out.mono ?_; rintro e w3 ⟨rfl, hb4⟩; refine Hid.out ?_)
  refine Lib.hid ?_
  have hb5 := below_then hb3 hb4
  have HRD := Lib.hid (refRecord_any v l R HR.out w3 (hE1.keep hb5) (HRW.out.keep hb5) hlen HRG.out)
  clear hb3 hb4 HRC
  go_wp2_with (go_at_call 55; refine HRD.out.mono ?_; rintro e w4 ⟨rfl, hb6⟩; refine Hid.out ?_)
  refine Lib.hid ?_
  have hb7 := below_then hb5 (below_then hb6 (below_alloc w4 (.cells #[.string R] 9)))
  have HPG := Lib.hid (refPage_any T _ [R.data.toList] _ (strs_lone w4 R 1) (by omega) (by simp only [List.mem_singleton]; rintro f rfl; rw [size_data]; omega) (by simp) X HX.out)
  have hy7 := keep_at hy1 hb7
  clear hTs HRD hb5 hb6
  go_wp2_with (go_at_call 58; refine HPG.out.mono ?_; rintro e w5 ⟨rfl, hb8⟩; refine Hid.out ?_)
  refine Lib.hid ?_
  have hy8 := keep_at hy7 hb8
  have hb9 := below_then hb1 (below_then hb7 hb8)
  go_wp2_with (refine put_st rfl _ _ _ rfl w.heap.size #[.int .i64 200, .string X, .bool false] rfl rfl hy8 infoRp rfl (by simp [Value.oneCell']) ?_; intro w9 h1 h2 h3)
  exact bodyPost_ret (v := .agg #[.int .i64 200, .string X, .bool false]) (ret_st1 Tryz.results25 _ _ _ _ rfl (load_rp h1 rfl)) rfl ⟨rfl, hb9.trans h2⟩
end Go.Proofs.YtfkmgnldkmpeiaaGreatDoor.W20

namespace Go
section
variable {P : Program} {ops : Array Oper} {md : Region.Mode} {S : World → Prop}
/-- Each operation of the head from m on is waited for by one behind it. -/
def Region.sinkFromB (md : Region.Mode) (ops : Array Oper) (m n : Nat) : Bool :=
  (List.range n).all fun i => decide (i < m) || (List.range (n + 1)).any fun j => decide (i < j) && Region.waitsFor md ops j i
theorem tail_waits_from {m n : Nat} {listed : Array Bool} (hs : Region.sinkFromB md ops m n = true) (hc : Region.chainB md ops n = true) (hn : n < ops.size) (inv : HeadInv md ops n listed) :
    ∀ (d i : Nat), n - i = d → m ≤ i → i < n → listed.getD i true = false → ∀ t, n ≤ t → t ∉ Region.ready md ops listed := by
  intro d
  induction d using Nat.strongRecOn with
  | _ d ih =>
    intro i hd hmi hi hun t ht hr
    obtain ⟨_, ot, hot, hall⟩ := mem_ready.1 hr
    have htlt : t < ops.size := (Array.getElem?_eq_some_iff.1 hot).1
    by_cases htn : t = n
    · subst htn
      have h1 := List.all_eq_true.1 hs i (List.mem_range.2 hi)
      simp only [Bool.or_eq_true, decide_eq_true_eq] at h1
      obtain ⟨j, hj, hj2⟩ := List.any_eq_true.1 (h1.resolve_left (by omega))
      simp only [Bool.and_eq_true, decide_eq_true_eq] at hj2
      obtain ⟨oj, hoj, e, he, hb, hon⟩ := Region.waitsFor_spec hj2.2
      have hjle : j ≤ t := by have := List.mem_range.1 hj; omega
      by_cases hjt : j = t
      · subst hjt
        have : oj = ot := Option.some.inj (hoj.symm.trans hot)
        subst this
        have h2 := hall e he hb
        rw [hon, getD_both hun] at h2
        cases h2
      · cases hl : listed.getD j false with
        | true =>
          have h2 := inv.closed j oj hoj hl e he hb
          rw [hon, getD_both hun] at h2
          cases h2
        | false =>
          have hjs : j < listed.size := by rw [inv.size]; omega
          exact ih (t - j) (by omega) j rfl (by omega) (by omega) (getD_in hjs hl) t (Nat.le_refl _) hr
    · have h1 := List.all_eq_true.1 hc t (List.mem_range.2 htlt)
      simp only [Bool.or_eq_true, decide_eq_true_eq] at h1
      rcases h1 with h1 | h1
      · omega
      · obtain ⟨o', ho', e, he, hb, hon⟩ := Region.waitsFor_spec h1
        have : o' = ot := Option.some.inj (ho'.symm.trans hot)
        subst this
        have h2 := hall e he hb
        rw [hon, getD_both (inv.tail (t - 1) (by omega) (by omega))] at h2
        cases h2
theorem wpAnyT_first_from {m n i : Nat} {oi : Oper} {v : Value} {L : Array Bool → Act → Prop} (hi : ops[i]? = some oi) (hsel : ∀ (j : Nat) (o : Oper) cs b, ops[j]? = some o → o.op ≠ .select cs b)
    (hs : Region.sinkFromB md ops m n = true) (hc : Region.chainB md ops n = true) (hn : n < ops.size) (hmi : m ≤ i) (hin : i < n)
    (hdone : ∀ listed a, L listed a → ∀ j ∈ Region.ready md ops listed, n ≤ j) :
    ∀ (f : Nat) (listed : Array Bool) (a : Act), HeadInv md ops n listed →
      (∀ j oj, ops[j]? = some oj → j ≠ i → listed.getD j true = false → (∀ e ∈ oj.after, Region.binds md e = true → e.on ≠ i) → oi.apart ops oj = true) →
      i ∈ Region.ready md ops listed → YieldsT P ops S oi v a →
      wpAnyT P md ops S n L f (listed.setIfInBounds i true) (a.put oi.dst v) → wpAnyT P md ops S n L (f + 1) listed a := by
  intro f
  induction f with
  | zero =>
    intro listed a inv _ hr hy H
    have hun := (mem_ready.1 hr).1
    refine ⟨fun h => (by rw [h] at hr; cases hr), fun j hj => ?_⟩
    have hjn : j < n := by
      rcases Nat.lt_or_ge j n with h | h
      · exact h
      · exact absurd hj (tail_waits_from hs hc hn inv _ i rfl hmi hin hun j h)
    refine ⟨hjn, ?_⟩
    by_cases hji : j = i
    · subst hji; exact ⟨oi, v, hi, hy, H⟩
    · have := hdone _ _ H j (ready_mono hj hji)
      omega
  | succ f ih =>
    intro listed a inv hfree hr hy H
    have hun := (mem_ready.1 hr).1
    refine ⟨fun h => (by rw [h] at hr; cases hr), fun j hj => ?_⟩
    have hjn : j < n := by
      rcases Nat.lt_or_ge j n with h | h
      · exact h
      · exact absurd hj (tail_waits_from hs hc hn inv _ i rfl hmi hin hun j h)
    refine ⟨hjn, ?_⟩
    by_cases hji : j = i
    · subst hji; exact ⟨oi, v, hi, hy, H⟩
    · obtain ⟨-, oj', u, hoj', hyj, hK⟩ := H.2 j (ready_mono hj hji)
      obtain ⟨hjun, oj, hoj, hall⟩ := mem_ready.1 hj
      have : oj' = oj := Option.some.inj (hoj'.symm.trans hoj)
      subst this
      have hnot : ∀ e ∈ oj'.after, Region.binds md e = true → e.on ≠ i := fun e he hb heq => by
        have h1 := hall e he hb
        rw [heq, getD_both hun] at h1
        cases h1
      obtain ⟨h1, h2, h3⟩ := Oper.apart_spec (hfree j oj' hoj hji hjun hnot)
      have hy1 : YieldsT P ops S oj' u a := hyj.of_same (execOp_put oj' (hsel j oj' · · hoj) a oi.dst v h1).symm (wanted_put oj' a oi.dst v h1).symm
      have hy2 : YieldsT P ops S oi v (a.put oj'.dst u) := hy.of_same (execOp_put oi (hsel i oi · · hi) a oj'.dst u h3) (wanted_put oi a oj'.dst u h3)
      have hfree' : ∀ k ok, ops[k]? = some ok → k ≠ i → (listed.setIfInBounds j true).getD k true = false →
          (∀ e ∈ ok.after, Region.binds md e = true → e.on ≠ i) → oi.apart ops ok = true := fun k ok hk hki hun hno => by
        refine hfree k ok hk hki ?_ hno
        by_cases hjk : j = k
        · subst hjk; exact hjun
        · rw [getD_set_ne true hjk] at hun; exact hun
      refine ⟨oj', u, hoj, hy1, ih (listed.setIfInBounds j true) _ (inv.set hj hjn) hfree' (ready_mono hr (Ne.symm hji)) hy2 ?_⟩
      rw [Array.setIfInBounds_comm _ _ hji, ← Act.put_comm a v u h2]
      exact hK
theorem wpAnyT_lex_from {m n g : Nat} {Lq : Act → Prop} (hsel : Region.noSelect ops = true) (hs : Region.sinkFromB md ops m n = true) (hc : Region.chainB md ops n = true) (hn : n < ops.size) :
    ∀ (l : List Oper) (k : Nat) (listed : Array Bool) (a : Act), m ≤ k → (∀ j, j < l.length → l[j]? = ops[k + j]?) → k + l.length = n → HeadInv md ops n listed →
    Region.lexHead md ops g l.length k listed = true → wpTame P ops S Lq l a →
    wpAnyT P md ops S n (fun listed' a' => Region.seqB md ops g n listed' = true ∧ Lq a') l.length listed a
  | [], k, listed, a, _, _, hk, _, hB, h => by
    have : k = n := by simpa using hk
    subst this
    exact ⟨by simpa [Region.lexHead] using hB, h⟩
  | o :: l, k, listed, a, hmk, hl, hk, inv, hB, h => by
    have h0 : ops[k]? = some o := by simpa using (hl 0 (by simp)).symm
    simp only [List.length_cons, Region.lexHead, Bool.and_eq_true] at hB
    obtain ⟨⟨hr, hf⟩, hB'⟩ := hB
    have hkn : k < n := by simp only [List.length_cons] at hk; omega
    have hr' : k ∈ Region.ready md ops listed := by simpa using hr
    obtain ⟨v, hy, hK⟩ := h
    exact wpAnyT_first_from h0 (Region.noSelect_spec hsel) hs hc hn hmk hkn (fun listed' a' hL => seqB_ready hL.1) l.length listed a inv (Region.free_spec h0 hf) hr' hy
      (wpAnyT_lex_from hsel hs hc hn l (k + 1) _ _ (by omega) (fun j hj => by have := hl (j + 1) (by simp; omega); simpa [Nat.add_assoc, Nat.add_comm 1 j] using this) (by simp only [List.length_cons] at hk; omega) (inv.set hr' hkn) hB' hK)
/-- The region's shape: the first operation is free and ready; the head behind it; the tail a chain. -/
def Region.lexTail1B (md : Region.Mode) (ops : Array Oper) (n : Nat) : Bool :=
  Region.noSelect ops && decide (n < ops.size) && decide (1 ≤ n) && Region.sinkFromB md ops 1 n && Region.chainB md ops n && (Region.ready md ops (Array.replicate ops.size false)).contains 0 && Region.free md ops (Array.replicate ops.size false) 0 &&
    Region.lexHead md ops (ops.size - n) (n - 1) 1 ((Array.replicate ops.size false).setIfInBounds 0 true)
/-- **THE LAW**, second form. -/
theorem wp_region_tame1 {id : Nat} {Q : Exit → Act → World → Prop} {a : Act} {w : World} {o0 : Oper} {l : List Oper} (n : Nat) (S : World → Prop) (hm : P.follows .mixedOrders = true) (hB : Region.lexTail1B .any (o0 :: l).toArray n = true)
    (hQ : ∀ v0 c a w, Q (.panic c) (a.put o0.dst v0) w → Q (.panic c) a w)
    (hS : S { w with drawn := w.drawn + 1 }) (h : ∃ v0, Yields P (o0 :: l).toArray o0 v0 a ∧ wpTame P (o0 :: l).toArray S (fun a' => ∀ w', S w' → wpList P (o0 :: l).toArray Q ((o0 :: l).drop n) a' w') (((o0 :: l).take n).drop 1) (a.put o0.dst v0)) : (Code.region id (o0 :: l).toArray true).wp P Q a w := by
  obtain ⟨v0, hy0, h⟩ := h
  simp only [Region.lexTail1B, Bool.and_eq_true, decide_eq_true_eq] at hB
  obtain ⟨⟨⟨⟨⟨⟨⟨hsel, hn⟩, h1⟩, hs⟩, hc⟩, hr0⟩, hf0⟩, hlex⟩ := hB
  have hr0' : 0 ∈ Region.ready .any (o0 :: l).toArray (Array.replicate (o0 :: l).toArray.size false) := by simpa using hr0
  have hn' : n < l.length + 1 := by simpa using hn
  have htl : (((o0 :: l).take n).drop 1).length = n - 1 := by simp; omega
  have hdl : ((o0 :: l).drop n).length = (o0 :: l).toArray.size - n := by simp
  have inv0 : HeadInv .any (o0 :: l).toArray n (Array.replicate (o0 :: l).toArray.size false) :=
    ⟨by simp, fun j oj _ hl => (by rw [getD_replicate_false] at hl; cases hl), fun t _ ht => getD_in (by simpa using ht) (getD_replicate_false _ _)⟩
  have H := wpAnyT_lex_from (md := .any) (m := 1) (g := (o0 :: l).toArray.size - n) hsel hs hc hn (((o0 :: l).take n).drop 1) 1 _ (a.put o0.dst v0) (Nat.le_refl _) (fun j hj => by
    have hj' : j < n - 1 := by rw [htl] at hj; exact hj
    rw [List.getElem?_drop, List.getElem?_take, if_pos (by omega), List.getElem?_toArray]) (by rw [htl]; omega) (inv0.set hr0' (by omega)) (by rw [htl]; exact hlex) h
  refine wp_region_any hm ?_
  have := wpAny_of_tame (Q := Q) (g := (o0 :: l).toArray.size - n) (fun listed a' hL w' hw' => by
    have := wpAny_of_seq (md := .any) (Q' := Q) ((o0 :: l).drop n) n listed a' w' (fun j => by rw [List.getElem?_drop, List.getElem?_toArray]) (by rw [hdl]; exact hL.1) (hL.2 w' hw')
    rwa [hdl] at this) _ _ _ H _ hS
  have e : (o0 :: l).toArray.size = ((((o0 :: l).take n).drop 1).length + ((o0 :: l).toArray.size - n)) + 1 := by rw [htl]; simp; omega
  rw [e]
  refine wpAny_take (i := 0) (oi := o0) (v := v0) rfl hsel ?_ ?_ (hQ v0) hy0 ?_
  · rw [← e]; exact hf0
  · rw [← e]; exact hr0
  · rw [← e]; exact this
end
end Go
