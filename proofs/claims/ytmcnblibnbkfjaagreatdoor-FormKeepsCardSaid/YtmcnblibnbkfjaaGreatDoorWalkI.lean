/-
  Walks of layer 12: the comparison that Read hands to the sort; parts. Conditions: the library's error values and its table; the text is within Go's own limit.
-/
import Derived.Test.YtmcnblibnbkfjaaGreatDoorWalkH
import Derived.Shelf.SlSortCmp.WholeK
import Derived.Lib.OwnBridge
namespace Go.Proofs.YtmcnblibnbkfjaaGreatDoor.W12
open Go Go.RowKit P12 Go.Sort
open Dig hiding By

/-- -1, 0 or 1: how two texts lie to each other. -/
def cmpL (a b : By) : Int := if a < b then -1 else if b < a then 1 else 0
def cmpF (a b : Fld) : Int := cmpL a.name b.name

set_option maxHeartbeats 800000 in
theorem isNaN_str (a : ByteArray) (w : World) : Calls Tryz.prog 57 #[.string a] w fun e w' => e = .returned (.bool false) ∧ w' = w := by
  go_enter Tryz.func57, Tryz.ntmps57
  go_wp2_with fail
  go_ret
  exact ⟨ret1 (vbool (by simp)), rfl⟩
set_option maxHeartbeats 1600000 in
theorem Compare_str (a b : ByteArray) (w : World) : Calls Tryz.prog 30 #[.string a, .string b] w fun e w' => e = .returned (.int .i64 (cmpL a.data.toList b.data.toList)) ∧ w' = w := by
  have e1 := bytesLess_eq a.data.toList b.data.toList
  have e2 := bytesLeq a.data.toList b.data.toList
  rw [← Lib.toList_data, ← Lib.toList_data] at e1 e2
  have k1 : a.toList = a.data.toList := Lib.toList_data a
  have k2 : b.toList = b.data.toList := Lib.toList_data b
  by_cases h1 : a.data.toList < b.data.toList
  · have hr : cmpL a.data.toList b.data.toList = -1 := by unfold cmpL; rw [if_pos h1]
    have z1 : Op.bytesLess a.toList b.toList = true := by rw [k1, k2, bytesLess_eq]; simpa using h1
    rw [hr]
    clear e1 e2 k1 k2 hr h1
    go_enter Tryz.func30, Tryz.ntmps30
    go_wp2_with (go_at_call 57; refine (isNaN_str _ _).mono ?_; rintro e w' ⟨rfl, rfl⟩)
    go_ret
    exact ⟨rfl, rfl⟩
  · have z1 : Op.bytesLess a.toList b.toList = false := by rw [k1, k2, bytesLess_eq]; simpa using h1
    by_cases h2 : b.data.toList < a.data.toList
    · have hr : cmpL a.data.toList b.data.toList = 1 := by unfold cmpL; rw [if_neg h1, if_pos h2]
      have z2 : (a.toList == b.toList) = false := by
        rw [beq_eq_false_iff_ne, k1, k2]
        intro e
        rw [e] at h2
        exact lt_irrefl' _ h2
      rw [hr]
      clear e1 e2 k1 k2 hr h1 h2
      go_enter Tryz.func30, Tryz.ntmps30
      go_wp2_with (go_at_call 57; refine (isNaN_str _ _).mono ?_; rintro e w' ⟨rfl, rfl⟩)
      go_ret
      exact ⟨rfl, rfl⟩
    · have hr : cmpL a.data.toList b.data.toList = 0 := by unfold cmpL; rw [if_neg h1, if_neg h2]
      have z2 : (a.toList == b.toList) = true := by
        rw [beq_iff_eq, k1, k2]
        rcases le_or_lt a.data.toList b.data.toList with h | h
        · rcases le_or_lt b.data.toList a.data.toList with h' | h'
          · exact List.le_antisymm h h'
          · exact absurd h' h1
        · exact absurd h h2
      rw [hr]
      clear e1 e2 k1 k2 hr h1 h2
      go_enter Tryz.func30, Tryz.ntmps30
      go_wp2_with (go_at_call 57; refine (isNaN_str _ _).mono ?_; rintro e w' ⟨rfl, rfl⟩)
      go_ret
      exact ⟨rfl, rfl⟩

set_option maxHeartbeats 1600000 in
theorem less_closure (x y : Fld) (W : World) : Calls Tryz.prog 29 #[.agg #[bs x.name, .bool x.text, .int .i64 x.n, bs x.s], .agg #[bs y.name, .bool y.text, .int .i64 y.n, bs y.s]] W fun e w' => e = .returned (.int .i64 (cmpF x y)) ∧ ∃ q os', w' = grow (W.drewN q) os' := by
  have hcon := fun W' => Compare_str ⟨x.name.toArray⟩ ⟨y.name.toArray⟩ W'
  change ∀ W', Calls _ _ _ _ fun e w' => e = .returned (.int .i64 (cmpF x y)) ∧ _ at hcon
  unfold bs at *
  generalize cmpF x y = r at hcon ⊢
  generalize (⟨x.name.toArray⟩ : ByteArray) = X at hcon ⊢
  generalize (⟨y.name.toArray⟩ : ByteArray) = Y at hcon ⊢
  go_enter Tryz.func29, Tryz.ntmps29
  go_wp2_with (go_at_call 30; refine (hcon _).mono ?_; rintro e w' ⟨rfl, rfl⟩)
  go_ret
  exact ⟨rfl, 0, _, by rw [alloc_eq_grow, alloc_eq_grow, grow_grow]; rfl⟩
instance : Inhabited Fld := ⟨zeroF⟩
theorem lays_closure (blk off size : Nat) (w : World) : CmpLays Tryz.prog 29 #[] cellsF1 4 cmpF blk off size w :=
  fun _ _ _ _ x y => less_closure x y _
theorem ltOf_cmpF (x y : Fld) : ltOf cmpF x y = decide (x.name < y.name) := by
  unfold ltOf cmpF cmpL
  by_cases h : x.name < y.name
  · simp [h]
  · by_cases h2 : y.name < x.name <;> simp [h, h2]
theorem swo_cmpF : SWO (ltOf cmpF) where
  irrefl x := by rw [ltOf_cmpF]; simp [lt_irrefl']
  trans x y z h1 h2 := by rw [ltOf_cmpF] at *; simp only [decide_eq_true_eq] at *; exact lt_trans' h1 h2
  ntrans x y z h1 h2 := by
    rw [ltOf_cmpF] at *
    simp only [decide_eq_false_iff_not] at *
    intro h
    rcases le_or_lt y.name z.name with h3 | h3
    · by_cases e : y.name = z.name
      · rw [← e] at h; exact h1 h
      · exact h2 (lt_of_le_ne h3 e)
    · exact h1 (lt_trans' h h3)

def mz (t m : Value) : Nat := match t, m with
  | .string T, .bool true => T.size + 1
  | _, _ => 0
def PartsPost (B b1 b2 bm : Nat) (r : List Fld × Int) (w : World) (e : Ending) (w' : World) : Prop :=
  e = .returned (.int .i64 r.2) ∧ Below B w w' ∧ (r.2 = 0 → St B b1 b2 bm r.1 w')
theorem foldP_cons_bad {L : List Fld} {p : By} {ps : List By} (h : (oneL L p).1 ≠ 0) : foldP L (p :: ps) = ([], (oneL L p).1) := by rw [foldP, if_pos h]
theorem foldP_cons_ok {L : List Fld} {p : By} {ps : List By} (h : (oneL L p).1 = 0) : foldP L (p :: ps) = foldP (L ++ [(oneL L p).2]) ps := by rw [foldP, if_neg (by simp [h])]

set_option maxHeartbeats 3200000 in
set_option maxRecDepth 100000 in
theorem parts_any (w0 : World) (b1 b2 bm : Nat) (text : ByteArray) (w : World) (hE0 : Env w0) (hw : Below w0.heap.size w0 w) (hS : St w0.heap.size b1 b2 bm [] w) (htext : text.size ≤ 140737488355328) :
    Calls Tryz.prog 24 #[.string text, .func (.func 25) #[] #[.pointer (some ⟨b1, 0, none⟩), .pointer (some ⟨b2, 0, none⟩)]] w (PartsPost w0.heap.size b1 b2 bm (foldP [] (partsL 38 text.data.toList)) w) := by
  unfold PartsPost
  obtain ⟨R, hR⟩ : ∃ R, R = foldP [] (partsL 38 text.data.toList) := ⟨_, rfl⟩
  rw [← hR]
  have HR := Lib.hid hR
  clear hR
  go_enter Tryz.func24, Tryz.ntmps24
  go_wp2_with fail
  go_loopw [0, 5] (fun t m wr => ∃ (T : ByteArray) (L : List Fld) (mm : Bool), t = .string T ∧ m = .bool mm ∧ T.size ≤ 140737488355328 ∧ L.length ≤ 16 ∧ St w0.heap.size b1 b2 bm L wr ∧ Below w0.heap.size w wr ∧ (if mm = true then R = foldP L (partsL 38 T.data.toList) else R = (L, 0))) (fun t m _ => mz t m)
  case atStart => exact ⟨text, [], true, rfl, rfl, htext, by simp, hS, Below.refl _ _, by rw [if_pos rfl]; exact HR.out⟩
  case round =>
    obtain ⟨T, L, mm, rfl, rfl, hT, hL, hSr, hB, hrest⟩ := hrel
    cases mm with
    | false =>
      have hr : R = (L, 0) := by simpa using hrest
      have HRR := Lib.hid hr
      clear hrest hr
      go_wp2_with fail
      go_ret
      exact ⟨by rw [HRR.out]; rfl, hB, fun _ => by rw [HRR.out]; exact hSr⟩
    | true =>
      have hr : R = foldP L (partsL 38 T.data.toList) := by simpa using hrest
      have HRR := Lib.hid hr
      clear hrest hr
      obtain ⟨P, hP⟩ : ∃ P : ByteArray, P = ⟨(cutL 38 T.data.toList).1.toArray⟩ := ⟨_, rfl⟩
      obtain ⟨Q, hQ⟩ : ∃ Q : ByteArray, Q = ⟨(cutL 38 T.data.toList).2.1.toArray⟩ := ⟨_, rfl⟩
      obtain ⟨is, his⟩ : ∃ is, is = (cutL 38 T.data.toList).2.2 := ⟨_, rfl⟩
      have hPd : P.data.toList = (cutL 38 T.data.toList).1 := by rw [hP]
      have hQd : Q.data.toList = (cutL 38 T.data.toList).2.1 := by rw [hQ]
      have hlen : (cutL 38 T.data.toList).1.length ≤ T.size ∧ (cutL 38 T.data.toList).2.1.length ≤ T.size ∧ (is = true → (cutL 38 T.data.toList).2.1.length < T.size) := by
        have hsz := size_data T
        cases hi : (cutL 38 T.data.toList).2.2 with
        | true =>
          have := congrArg List.length (cutL_hit hi).1
          rw [List.length_append, List.length_cons] at this
          omega
        | false =>
          obtain ⟨e1, e2, _⟩ := cutL_miss hi
          rw [e1, e2]
          rw [hi] at his
          rw [his]
          simp at hsz ⊢
      obtain ⟨hl1, hl2, hl3⟩ := hlen
      have hPs : P.size ≤ 140737488355328 := by rw [← size_data, hPd]; omega
      have hQs : Q.size ≤ 140737488355328 := by rw [← size_data, hQd]; omega
      have hQlt : is = true → Q.size < T.size := fun h => by rw [← size_data Q, hQd]; exact hl3 h
      have hcut : ∀ W, Calls Tryz.prog 26 #[.string T, .string ⟨#[38]⟩] W fun e w' => e = .returned (.tuple #[.string P, .string Q, .bool is]) ∧ Below W.heap.size W w' := by
        intro W
        have := Cut_any T 38 W (by omega)
        rw [← his] at this
        unfold bs at this
        rw [← hP, ← hQ] at this
        exact this
      have hEr := fun w1 (hb1 : Below wr.heap.size wr w1) => hE0.keep (hw.trans (hB.trans (hb1.mono (by have := hw.size; have := hB.size; omega))))
      have hBs : w0.heap.size ≤ wr.heap.size := by have := hw.size; have := hB.size; omega
      have hparts : partsL 38 T.data.toList = if is = true then P.data.toList :: partsL 38 Q.data.toList else [P.data.toList] := by
        cases is with
        | true => rw [if_pos rfl, partsL_hit his.symm, hPd, hQd]
        | false =>
          rw [if_neg (by simp), partsL_miss his.symm, hPd, (cutL_miss his.symm).1]
      have HPA := Lib.hid hparts
      clear hP hQ hPd hQd hl1 hl2 hl3 his hparts
      obtain ⟨E, hEE⟩ : ∃ E : Int, E = (oneL L P.data.toList).1 := ⟨_, rfl⟩
      have htake : ∀ w1, Below wr.heap.size wr w1 → Calls Tryz.prog 25 #[.string P, .pointer (some ⟨b1, 0, none⟩), .pointer (some ⟨b2, 0, none⟩)] w1 fun e w' => e = .returned (.int .i64 E) ∧ Below w0.heap.size w1 w' ∧ (E = 0 → St w0.heap.size b1 b2 bm (L ++ [(oneL L P.data.toList).2]) w') := by
        intro w1 hb1
        have := take_any w0.heap.size b1 b2 bm L P w1 (hEr w1 hb1) (by have := hb1.size; omega) hL (hSr.keep hb1) hPs
        unfold OnePost at this
        rw [← hEE] at this
        exact this
      have HEE := Lib.hid hEE
      by_cases hE0' : E = 0
      · have hne16 : L.length ≠ 16 := (oneL_zero (p := P.data.toList) (by rw [← hEE]; exact hE0')).1
        have HOK := Lib.hid (foldP_cons_ok (L := L) (p := P.data.toList) (ps := if is = true then partsL 38 Q.data.toList else []) (by rw [← hEE]; exact hE0'))
        subst hE0'
        clear hEE
        go_wp2_with (first
          | (go_at_call 26; refine (hcut _).mono ?_; rintro e w1 ⟨rfl, hb1⟩; have ht1 := htake w1 hb1)
          | (go_at_call 25; refine ht1.mono ?_; rintro e w2 ⟨rfl, hb2, hS2⟩))
        go_roundw
        case rel =>
          refine ⟨Q, L ++ [(oneL L P.data.toList).2], is, rfl, rfl, hQs, by simp; omega, hS2 trivial, (hB.trans (hb1.mono hBs)).trans hb2, ?_⟩
          cases is with
          | true => rw [if_pos rfl, HRR.out, HPA.out, if_pos rfl]; exact HOK.out
          | false =>
            rw [if_neg (by simp), HRR.out, HPA.out, if_neg (by simp)]
            have := HOK.out
            simp only [Bool.false_eq_true, if_false] at this
            rw [this]
            rfl
        case measure =>
          cases is with
          | true => have := hQlt rfl; simp [mz]; omega
          | false => simp [mz]
      · have hEb : (E == 0) = false := by rw [beq_eq_false_iff_ne]; exact hE0'
        have HBAD := Lib.hid (foldP_cons_bad (L := L) (p := P.data.toList) (ps := if is = true then partsL 38 Q.data.toList else []) (by rw [← hEE]; exact hE0'))
        have HRE : R = ([], E) := by
          rw [HRR.out, HPA.out, hEE]
          cases is with
          | true => rw [if_pos rfl]; exact HBAD.out
          | false => rw [if_neg (by simp)]; exact HBAD.out
        have HRE2 := Lib.hid HRE
        have hne := Lib.hid hE0'
        clear hEE hE0' HRE
        go_wp2_with (first
          | (go_at_call 26; refine (hcut _).mono ?_; rintro e w1 ⟨rfl, hb1⟩; have ht1 := htake w1 hb1)
          | (go_at_call 25; refine ht1.mono ?_; rintro e w2 ⟨rfl, hb2, hS2⟩))
        go_ret
        exact ⟨by rw [HRE2.out]; rfl, (hB.trans (hb1.mono hBs)).trans hb2, fun h => absurd (by rw [HRE2.out] at h; exact h) hne.out⟩
end Go.Proofs.YtmcnblibnbkfjaaGreatDoor.W12
