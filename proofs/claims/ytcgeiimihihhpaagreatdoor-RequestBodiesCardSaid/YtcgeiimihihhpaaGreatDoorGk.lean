/-
  Walks of layer 18: the reference's Same. Conditions: the headers' rows lie in memory.
  Walks of layer 18: the calls whose answers the document fixes (awake). Condition: the library's variable MaxLen holds an int.
  Walks of layer 18: RequestParses. Conditions: the text is within Go's own limit; the library's variable MaxLen holds an int.
-/
import Derived.Test.YtcgeiimihihhpaaGreatDoorGj
import Derived.Test.YtcgeiimihihhpaaGreatDoorGa
import Derived.Deep.MidRow

namespace Go.Proofs.YtcgeiimihihhpaaGreatDoor.W18
open Go Go.RowKit P12 P18

abbrev rqV (a : Rq) (v : Value) : Value := .agg #[bs a.method, bs a.path, bs a.query, v, bs a.body, .bool a.close]
theorem take_next {l : List Hdr} {k : Nat} {x : Hdr} (h : l[k]? = some x) : l.take (k + 1) = l.take k ++ [x] := by
  obtain ⟨hk, e⟩ := List.getElem?_eq_some_iff.1 h
  rw [List.take_succ_eq_append_getElem hk, e]
set_option maxHeartbeats 6400000 in
set_option maxRecDepth 100000 in
theorem Same_any (a b : Rq) (va vb : Value) (w : World) (ha : RowsH va a.headers w) (hb : RowsH vb b.headers w) (la : a.headers.length ≤ 1000) (lb : b.headers.length ≤ 1000) :
    Calls Tryz.prog 11 #[rqV a va, rqV b vb] w fun e w' => e = .returned (.bool (decide (a = b))) ∧ Below w.heap.size w w' := by
  obtain ⟨o1, c1, hva, -⟩ := id ha
  obtain ⟨o2, c2, hvb, -⟩ := id hb
  subst hva hvb
  obtain ⟨D, hD⟩ : ∃ D, D = decide (a = b) := ⟨_, rfl⟩
  rw [← hD]
  obtain ⟨A0, hA0⟩ : ∃ X : ByteArray, X = ⟨a.method.toArray⟩ := ⟨_, rfl⟩
  obtain ⟨A1, hA1⟩ : ∃ X : ByteArray, X = ⟨a.path.toArray⟩ := ⟨_, rfl⟩
  obtain ⟨A2, hA2⟩ : ∃ X : ByteArray, X = ⟨a.query.toArray⟩ := ⟨_, rfl⟩
  obtain ⟨A4, hA4⟩ : ∃ X : ByteArray, X = ⟨a.body.toArray⟩ := ⟨_, rfl⟩
  obtain ⟨B0, hB0⟩ : ∃ X : ByteArray, X = ⟨b.method.toArray⟩ := ⟨_, rfl⟩
  obtain ⟨B1, hB1⟩ : ∃ X : ByteArray, X = ⟨b.path.toArray⟩ := ⟨_, rfl⟩
  obtain ⟨B2, hB2⟩ : ∃ X : ByteArray, X = ⟨b.query.toArray⟩ := ⟨_, rfl⟩
  obtain ⟨B4, hB4⟩ : ∃ X : ByteArray, X = ⟨b.body.toArray⟩ := ⟨_, rfl⟩
  simp only [rqV, bs]
  rw [← hA0, ← hA1, ← hA2, ← hA4, ← hB0, ← hB1, ← hB2, ← hB4]
  have eM : A0.toList = B0.toList ↔ a.method = b.method := by rw [Lib.toList_data, Lib.toList_data, hA0, hB0]
  have eP : A1.toList = B1.toList ↔ a.path = b.path := by rw [Lib.toList_data, Lib.toList_data, hA1, hB1]
  have eQ : A2.toList = B2.toList ↔ a.query = b.query := by rw [Lib.toList_data, Lib.toList_data, hA2, hB2]
  have eB : A4.toList = B4.toList ↔ a.body = b.body := by rw [Lib.toList_data, Lib.toList_data, hA4, hB4]
  obtain ⟨n1, hn1⟩ : ∃ n, n = a.headers.length := ⟨_, rfl⟩
  obtain ⟨n2, hn2⟩ : ∃ n, n = b.headers.length := ⟨_, rfl⟩
  obtain ⟨ca, hca⟩ : ∃ c, c = a.close := ⟨_, rfl⟩
  obtain ⟨cb, hcb⟩ : ∃ c, c = b.close := ⟨_, rfl⟩
  rw [← hn1] at ha la ⊢
  rw [← hn2] at hb lb ⊢
  rw [← hca, ← hcb]
  have HD := Lib.hid hD
  have HM := Lib.hid eM
  have HP := Lib.hid eP
  have HQ := Lib.hid eQ
  have HB := Lib.hid eB
  have HCA := Lib.hid hca
  have HCB := Lib.hid hcb
  have HN1 := Lib.hid hn1
  have HN2 := Lib.hid hn2
  have x0 := new_at w #[.string A0, .string A1, .string A2, .slice o1 n1 c1, .string A4, .bool ca] 25
  have b0 := below_alloc w (.cells #[.string A0, .string A1, .string A2, .slice o1 n1 c1, .string A4, .bool ca] 25)
  have y0 := new_at (w.alloc (.cells #[.string A0, .string A1, .string A2, .slice o1 n1 c1, .string A4, .bool ca] 25)) #[.string B0, .string B1, .string B2, .slice o2 n2 c2, .string B4, .bool cb] 25
  have b1 := below_alloc (w.alloc (.cells #[.string A0, .string A1, .string A2, .slice o1 n1 c1, .string A4, .bool ca] 25)) (.cells #[.string B0, .string B1, .string B2, .slice o2 n2 c2, .string B4, .bool cb] 25)
  have x1 := keep_at x0 b1
  have bb := below_then b0 b1
  have ha1 := (ha.keep b0).keep b1
  have hb1 := (hb.keep b0).keep b1
  rw [World.size_alloc] at y0
  clear hA0 hA1 hA2 hA4 hB0 hB1 hB2 hB4 eM eP eQ eB hn1 hn2 hca hcb hD x0 b0 b1 ha hb
  go_enter Tryz.func11, Tryz.ntmps11
  by_cases hlen : n1 = n2
  · subst hlen
    have z1 : ((n1 : Int) == (n1 : Int)) = true := by rw [beq_iff_eq]
    go_wp2_with fail
    go_loopw [5] (fun i wr => ∃ k : Nat, k ≤ n1 ∧ i = .int .i64 k ∧ Hid (a.headers.take k = b.headers.take k) ∧ RqAt w.heap.size #[.string A0, .string A1, .string A2, .slice o1 n1 c1, .string A4, .bool ca] wr ∧ RqAt (w.heap.size + 1) #[.string B0, .string B1, .string B2, .slice o2 n1 c2, .string B4, .bool cb] wr ∧ RowsH (.slice o1 n1 c1) a.headers wr ∧ RowsH (.slice o2 n1 c2) b.headers wr ∧ Below w.heap.size w wr) (fun i _ => n1 - (intOf i).toNat)
    case atStart => exact ⟨0, by omega, rfl, Lib.hid rfl, x1, y0, ha1, hb1, bb⟩
    case round =>
      clear x1 y0 ha1 hb1 bb
      obtain ⟨k, hk, rfl, HK, x1, y0, ha1, hb1, bb⟩ := hrel
      obtain ⟨xa, xb, xc, xd, xe, xf⟩ := cells6 x1
      obtain ⟨ya, yb, yc, yd, ye, yf⟩ := cells6 y0
      by_cases hlt : k < n1
      · have hlt' : (k : Int) < (n1 : Int) := by omega
        obtain ⟨p1, d1, e1, h1⟩ := id ha1
        injection e1 with i1 i2 i3
        subst i1 i3
        obtain ⟨g1, off1, rfl, h1'⟩ := h1.resolve_left (by intro h; have := HN1.out; rw [h] at this; simp at this; omega)
        obtain ⟨p2, d2, e2, h2⟩ := id hb1
        injection e2 with j1 j2 j3
        subst j1 j3
        obtain ⟨g2, off2, rfl, h2'⟩ := h2.resolve_left (by intro h; have := HN2.out; rw [h] at this; simp at this; omega)
        obtain ⟨x, hx⟩ : ∃ x, a.headers[k]? = some x := ⟨a.headers[k]'(by rw [← HN1.out]; exact hlt), List.getElem?_eq_getElem _⟩
        obtain ⟨y, hy⟩ : ∃ x, b.headers[k]? = some x := ⟨b.headers[k]'(by rw [← HN2.out]; exact hlt), List.getElem?_eq_getElem _⟩
        have u0 := (h1' k x hx).1
        have u1 := (h1' k x hx).2
        have v0 := (h2' k y hy).1
        have v1 := (h2' k y hy).2
        have tk1 := take_next hx
        have tk2 := take_next hy
        obtain ⟨X0, hX0⟩ : ∃ X : ByteArray, X = ⟨x.name.toArray⟩ := ⟨_, rfl⟩
        obtain ⟨X1, hX1⟩ : ∃ X : ByteArray, X = ⟨x.value.toArray⟩ := ⟨_, rfl⟩
        obtain ⟨Y0, hY0⟩ : ∃ X : ByteArray, X = ⟨y.name.toArray⟩ := ⟨_, rfl⟩
        obtain ⟨Y1, hY1⟩ : ∃ X : ByteArray, X = ⟨y.value.toArray⟩ := ⟨_, rfl⟩
        simp only [bs] at u0 u1 v0 v1
        rw [← hX0] at u0
        rw [← hX1] at u1
        rw [← hY0] at v0
        rw [← hY1] at v1
        have en : X0.toList = Y0.toList ↔ x.name = y.name := by rw [Lib.toList_data, Lib.toList_data, hX0, hY0]
        have ev : X1.toList = Y1.toList ↔ x.value = y.value := by rw [Lib.toList_data, Lib.toList_data, hX1, hY1]
        clear h1 h1' h2 h2' hX0 hX1 hY0 hY1 i2 j2
        by_cases hxy : x = y
        · have g1 : X0.toList = Y0.toList := en.2 (by rw [hxy])
          have g2 : X1.toList = Y1.toList := ev.2 (by rw [hxy])
          have HK2 : Hid (a.headers.take (k + 1) = b.headers.take (k + 1)) := Lib.hid (by rw [tk1, tk2, HK.out, hxy])
          clear hx hy tk1 tk2 en ev hxy HK
          go_wp2_with fail
          go_region
          all_goals go_wp2_with fail
          refine ⟨⟨k + 1, by omega, by go_num, HK2, x1, y0, ha1, hb1, below_then bb (below_drewN wr 1)⟩, by simp [intOf]; omega⟩
        · have hD : D = false := by
            rw [HD.out]
            refine decide_eq_false fun e => hxy ?_
            rw [e] at hx
            exact Option.some.inj (hx.symm.trans hy)
          by_cases hn : x.name = y.name
          · have g1 : X0.toList = Y0.toList := en.2 hn
            have g2 : ¬ X1.toList = Y1.toList := fun h => hxy (by cases x; cases y; simp only [Hdr.mk.injEq]; exact ⟨hn, ev.1 h⟩)
            have g2' : (X1.toList == Y1.toList) = false := beq_eq_false_iff_ne.2 g2
            subst hD
            clear hx hy tk1 tk2 en ev hxy HK hn HD
            go_wp2_with fail
            go_region
            all_goals go_wp2_with fail
            all_goals go_ret
            all_goals exact ⟨rfl, below_then bb (below_drewN wr 1)⟩
          · have g1 : ¬ X0.toList = Y0.toList := fun h => hn (en.1 h)
            have g1' : (X0.toList == Y0.toList) = false := beq_eq_false_iff_ne.2 g1
            subst hD
            clear hx hy tk1 tk2 en ev hxy HK hn HD
            go_wp2_with fail
            go_region
            all_goals go_wp2_with fail
            all_goals go_ret
            all_goals exact ⟨rfl, below_then bb (below_drewN wr 1)⟩
      · obtain rfl : k = n1 := by omega
        have hh : a.headers = b.headers := by
          have := HK.out
          rwa [List.take_of_length_le (by rw [← HN1.out]; exact Nat.le_refl _), List.take_of_length_le (by rw [← HN2.out]; exact Nat.le_refl _)] at this
        have hDv : D = decide (a.method = b.method ∧ a.path = b.path ∧ a.query = b.query ∧ a.body = b.body ∧ ca = cb) := by
          rw [HD.out, Bool.eq_iff_iff, decide_eq_true_iff, decide_eq_true_iff, HCA.out, HCB.out]
          constructor
          · intro e; rw [e]; exact ⟨rfl, rfl, rfl, rfl, rfl⟩
          · rintro ⟨e1, e2, e3, e4, e5⟩
            cases a; cases b
            simp only at e1 e2 e3 e4 e5 hh
            simp only [Rq.mk.injEq]
            exact ⟨e1, e2, e3, hh, e4, e5⟩
        clear HK HD ha1 hb1 hh
        by_cases q1 : a.method = b.method
        · have g1 : A0.toList = B0.toList := HM.out.2 q1
          by_cases q2 : a.path = b.path
          · have g2 : A1.toList = B1.toList := HP.out.2 q2
            by_cases q3 : a.query = b.query
            · have g3 : A2.toList = B2.toList := HQ.out.2 q3
              by_cases q4 : a.body = b.body
              · have g4 : A4.toList = B4.toList := HB.out.2 q4
                have hv : D = (ca == cb) := by
                  rw [hDv]
                  by_cases h : ca = cb
                  · rw [decide_eq_true ⟨q1, q2, q3, q4, h⟩]; simp [h]
                  · rw [decide_eq_false (by rintro ⟨_, _, _, _, h'⟩; exact h h')]; simp [h]
                have HV := Lib.hid hv
                clear hv hDv q1 q2 q3 q4 HM HP HQ HB HCA HCB
                cases ca <;> cases cb
                all_goals
                  go_wp2_with fail
                  go_ret
                  exact ⟨by rw [HV.out]; rfl, bb⟩
              · have g4 : ¬ A4.toList = B4.toList := fun h => q4 (HB.out.1 h)
                have g4' : (A4.toList == B4.toList) = false := beq_eq_false_iff_ne.2 g4
                have hv : D = false := by rw [hDv]; exact decide_eq_false (by rintro ⟨_, _, _, h, _⟩; exact q4 h)
                subst hv
                clear hDv q1 q2 q3 q4
                go_wp2_with fail
                go_ret
                exact ⟨rfl, bb⟩
            · have g3 : ¬ A2.toList = B2.toList := fun h => q3 (HQ.out.1 h)
              have g3' : (A2.toList == B2.toList) = false := beq_eq_false_iff_ne.2 g3
              have hv : D = false := by rw [hDv]; exact decide_eq_false (by rintro ⟨_, _, h, _⟩; exact q3 h)
              subst hv
              clear hDv q1 q2 q3
              go_wp2_with fail
              go_ret
              exact ⟨rfl, bb⟩
          · have g2 : ¬ A1.toList = B1.toList := fun h => q2 (HP.out.1 h)
            have g2' : (A1.toList == B1.toList) = false := beq_eq_false_iff_ne.2 g2
            have hv : D = false := by rw [hDv]; exact decide_eq_false (by rintro ⟨_, h, _⟩; exact q2 h)
            subst hv
            clear hDv q1 q2
            go_wp2_with fail
            go_ret
            exact ⟨rfl, bb⟩
        · have g1 : ¬ A0.toList = B0.toList := fun h => q1 (HM.out.1 h)
          have g1' : (A0.toList == B0.toList) = false := beq_eq_false_iff_ne.2 g1
          have hv : D = false := by rw [hDv]; exact decide_eq_false (by rintro ⟨h, _⟩; exact q1 h)
          subst hv
          clear hDv q1
          go_wp2_with fail
          go_ret
          exact ⟨rfl, bb⟩
  · have z1 : ((n1 : Int) == (n2 : Int)) = false := by rw [beq_eq_false_iff_ne]; omega
    have z1' : ¬ (n1 : Int) = (n2 : Int) := by omega
    have hD : D = false := by
      rw [HD.out]
      refine decide_eq_false fun e => hlen ?_
      rw [HN1.out, HN2.out, e]
    subst hD
    clear HD hlen x1 y0 ha1 hb1
    go_wp2_with fail
    go_ret
    exact ⟨rfl, bb⟩
end Go.Proofs.YtcgeiimihihhpaaGreatDoor.W18

namespace Go.Proofs.YtcgeiimihihhpaaGreatDoor.W18
open Go Go.RowKit P12 P18

abbrev txt1 : ByteArray := ⟨#[80, 79, 83, 84, 32, 47, 99, 63, 120, 32, 72, 84, 84, 80, 47, 49, 46, 49, 13, 10, 72, 111, 115, 116, 58, 32, 104, 13, 10, 67, 111, 110, 116, 101, 110, 116, 45, 76, 101, 110, 103, 116, 104, 58, 32, 51, 13, 10, 13, 10, 97, 98, 99, 100]⟩
abbrev txt2 : ByteArray := ⟨#[71, 69, 84, 32, 47]⟩
abbrev txt3 : ByteArray := ⟨#[71, 69, 84, 32, 47, 10]⟩
def hdr1 : List Hdr := [⟨hostN, [104]⟩, ⟨clN, [51]⟩]
theorem cl_1 : cleanL [47] [47, 99] = true := by
  rw [clean_cons, if_pos (by decide), clean_cons, if_pos (by decide), clean_nil']
theorem cl_2 : cleanL [47, 61, 38, 39] [120] = true := by
  rw [clean_cons, if_pos (by decide), clean_nil']
theorem fst1 : firstL [80, 79, 83, 84, 32, 47, 99, 63, 120, 32, 72, 84, 84, 80, 47, 49, 46, 49] = (200, ⟨postM, [47, 99], [120], [], [], false⟩) := by
  unfold firstL
  rw [show partsL 32 [80, 79, 83, 84, 32, 47, 99, 63, 120, 32, 72, 84, 84, 80, 47, 49, 46, 49] = [postM, [47, 99, 63, 120], http] by decide]
  simp only
  rw [if_pos (by decide), show cutL 63 [47, 99, 63, 120] = ([47, 99], [120], true) by decide, if_pos ⟨cl_1, cl_2⟩, if_pos (by decide)]
theorem prs1 : parseR txt1.data.toList = .ok ⟨postM, [47, 99], [120], hdr1, [97, 98, 99], false⟩ [100] := by
  have h1 : lineL txt1.data.toList = .ok [80, 79, 83, 84, 32, 47, 99, 63, 120, 32, 72, 84, 84, 80, 47, 49, 46, 49] (txt1.data.toList.drop 20) := rfl
  have h2 : headsL (txt1.data.toList.drop 20) = .ok hdr1 (txt1.data.toList.drop 50) := by kernel_rfl
  have h3 : sizeL hdr1 = (200, 3) := by decide
  have := pr_body h1 (by rw [fst1]) h2 (by rw [h3])
  rw [this, fst1, h3]
  rfl
theorem aw1 : parseL txt1.data.toList = (⟨postM, [47, 99], [120], hdr1, [97, 98, 99], false⟩, 53, 200) := by
  unfold parseL
  rw [prs1]
  rfl
theorem aw2 : parseL txt2.data.toList = (zeroR, 0, 0) := by
  unfold parseL
  rw [pr_line (t := 0) rfl]
theorem aw3 : parseL txt3.data.toList = (zeroR, 0, 400) := by
  unfold parseL
  rw [pr_line (t := 400) rfl]
theorem MaxL.new {w : World} (h : MaxL w) (o : Obj) : MaxL (w.alloc o) := h.keep (below_alloc w o)
/-- Parse, with what it hands back spelled. -/
theorem Parse_at (s : ByteArray) (hs : s.size ≤ 281474976710656) (a : Rq) (n : Nat) (st : Int) (hp : parseL s.data.toList = (a, n, st)) (M P Q Y : ByteArray) (hM : M = ⟨a.method.toArray⟩) (hP : P = ⟨a.path.toArray⟩) (hQ : Q = ⟨a.query.toArray⟩) (hY : Y = ⟨a.body.toArray⟩) (c : Bool) (hc : c = a.close) (w : World) (hL : MaxL w) :
    Calls Tryz.prog 9 #[.string s] w fun e w' => ∃ o cp, e = .returned (.tuple #[.agg #[.string M, .string P, .string Q, .slice o a.headers.length cp, .string Y, .bool c], .int .i64 n, .int .i64 st]) ∧ OwnH w' w.heap.size (.slice o a.headers.length cp) a.headers ∧ Below w.heap.size w w' := by
  refine (Parse_any s hs w hL).mono ?_
  rintro e w' ⟨hB, v, he, ho⟩
  rw [hp] at he ho
  obtain ⟨o, cp, rfl⟩ := own_slice ho
  refine ⟨o, cp, ?_, ho, hB⟩
  rw [he, hM, hP, hQ, hY, hc]
  rfl
set_option maxHeartbeats 3200000 in
set_option maxRecDepth 100000 in
theorem awake_any (w : World) (hL : MaxL w) : Calls Tryz.prog 8 #[] w fun e w' => e = .returned (.bool true) ∧ Below w.heap.size w w' := by
  have h1 := fun W hW => Parse_at txt1 (by decide) _ _ _ aw1 ⟨#[80, 79, 83, 84]⟩ ⟨#[47, 99]⟩ ⟨#[120]⟩ ⟨#[97, 98, 99]⟩ rfl rfl rfl rfl false rfl W hW
  have h2 := fun W hW => Parse_at txt2 (by decide) _ _ _ aw2 ⟨#[]⟩ ⟨#[]⟩ ⟨#[]⟩ ⟨#[]⟩ rfl rfl rfl rfl false rfl W hW
  have h3 := fun W hW => Parse_at txt3 (by decide) _ _ _ aw3 ⟨#[]⟩ ⟨#[]⟩ ⟨#[]⟩ ⟨#[]⟩ rfl rfl rfl rfl false rfl W hW
  have H1 := Lib.hid h1
  have H2 := Lib.hid h2
  have H3 := Lib.hid h3
  clear h1 h2 h3
  go_enter Tryz.func8, Tryz.ntmps8
  go_wp2_with (go_at_call 9; (with_reducible refine (H1.out _ hL).mono ?_); rintro e w1 ⟨o1, cp1, rfl, -, hb1⟩; refine Hid.out ?_)
  refine Lib.hid ?_
  have x1 := new_at w1 #[.string ⟨#[80, 79, 83, 84]⟩, .string ⟨#[47, 99]⟩, .string ⟨#[120]⟩, .slice o1 hdr1.length cp1, .string ⟨#[97, 98, 99]⟩, .bool false] 25
  have hL1 := MaxL.new (hL.keep hb1)
  have b1 := fun o => below_then hb1 (below_alloc w1 o)
  go_wp2_with (go_at_call 9; (refine (H2.out _ (hL1 _)).mono ?_); rintro e w2 ⟨o2, cp2, rfl, -, hb2⟩; refine Hid.out ?_)
  refine Lib.hid ?_
  have x2 := keep_at x1 hb2
  have hL2 := MaxL.new ((hL1 _).keep hb2)
  have b2 := fun o => below_then (below_then (b1 _) hb2) (below_alloc w2 o)
  have x3 := fun o => keep_at x2 (below_alloc w2 o)
  go_wp2_with (go_at_call 9; (refine (H3.out _ (hL2 _)).mono ?_); rintro e w3 ⟨o3, cp3, rfl, -, hb3⟩; refine Hid.out ?_)
  refine Lib.hid ?_
  have x4 := keep_at (x3 _) hb3
  have b3 := fun o => below_then (below_then (b2 _) hb3) (below_alloc w3 o)
  have x5 := keep_at x4 (below_alloc w3 (.cells #[.string ⟨#[]⟩, .string ⟨#[]⟩, .string ⟨#[]⟩, .slice o3 zeroR.headers.length cp3, .string ⟨#[]⟩, .bool false] 25))
  obtain ⟨y0, y1, y2, y3, y4, y5⟩ := cells6 x5
  clear x1 x2 x3 x4 x5
  go_wp2_with fail
  go_ret
  exact ⟨rfl, b3 _⟩
end Go.Proofs.YtcgeiimihihhpaaGreatDoor.W18

namespace Go.Proofs.YtcgeiimihihhpaaGreatDoor.W18
open Go Go.RowKit P12 P18

theorem hdrs_small (s : P12.By) : (parseL s).1.headers.length ≤ 16 := by
  unfold parseL
  cases h : parseR s with
  | stop t => simp [zeroR]
  | ok a r =>
    obtain ⟨l, r1, hs, r2, b, -, -, h3, -, -, rfl⟩ := parseR_ok h
    exact heads_len 16 _ _ _ h3
theorem put_mid {ops : Array Oper} {rest : List Oper} {o : Oper} {a : Act} {w : World} {Q : Exit → Act → World → Prop} (hgd : o.guard = none) (x y : Operand) (ho : o.op = .store 32 x y)
    (g off : Nat) (A B : ByteArray) (hx : a.eval x = .pointer (some ⟨g, off, none⟩)) (hy : a.eval y = .agg #[.string A, .string B]) {cur : Array Value} (hg : HdAt g cur w) (hfit : off + 2 ≤ cur.size)
    (h : ∀ w' cur', HdAt g cur' w' → cur'.size = cur.size → Below g w w' → (∀ k, k ≠ g → w'.heap[k]? = w.heap[k]?) → wpList Tryz.prog ops Q rest (a.put o.dst undef) w') : wpList Tryz.prog ops Q (o :: rest) a w := by
  refine wpList_store_mid hgd _ x y ho g off #[.string A, .string B] hx hy ?_ sizeHd (one2 _ _) ?_
  · intro j hj
    refine ⟨?_, Lib.frozen_of_heap hg _⟩
    rw [Lib.cell_of_heap hg]
    have : off + j < cur.size := by simp at hj; omega
    simp [Array.getElem?_eq_getElem this]
  · have h1 := set_any hg off (.string A) (by omega)
    have h2 := set_any h1 (off + 1) (.string B) (by simp; omega)
    refine h _ _ h2 (by simp) ?_ ?_
    · exact ((Below.refl g w).setCell (p := ⟨g, off, none⟩) (Nat.le_refl g) _).setCell (p := ⟨g, off + 1, none⟩) (Nat.le_refl g) _
    · intro k hk
      show ((w.setCell ⟨g, off, none⟩ (.string A)).setCell ⟨g, off + 1, none⟩ (.string B)).heap[k]? = _
      rw [Below.heap_setCell _ ⟨g, off + 1, none⟩ _ k hk, Below.heap_setCell _ ⟨g, off, none⟩ _ k hk]
/-- Parse, of the program and of the reference, with what they hand back spelled. -/
theorem Parse_g (s : ByteArray) (hs : s.size ≤ 281474976710656) (a : Rq) (n : Nat) (st : Int) (hp : parseL s.data.toList = (a, n, st)) (w : World) (hL : MaxL w) :
    Calls Tryz.prog 9 #[.string s] w fun e w' => ∃ o cp, e = .returned (.tuple #[rqV a (.slice o a.headers.length cp), .int .i64 n, .int .i64 st]) ∧ OwnH w' w.heap.size (.slice o a.headers.length cp) a.headers ∧ Below w.heap.size w w' := by
  refine (Parse_any s hs w hL).mono ?_
  rintro e w' ⟨hB, v, he, ho⟩
  rw [hp] at he ho
  obtain ⟨o, cp, rfl⟩ := own_slice ho
  exact ⟨o, cp, he, ho, hB⟩
theorem refParse_g (s : ByteArray) (hs : s.size ≤ 281474976710656) (a : Rq) (n : Nat) (st : Int) (hp : parseL s.data.toList = (a, n, st)) (w : World) :
    Calls Tryz.prog 10 #[.string s] w fun e w' => ∃ o cp, e = .returned (.tuple #[rqV a (.slice o a.headers.length cp), .int .i64 n, .int .i64 st]) ∧ OwnH w' w.heap.size (.slice o a.headers.length cp) a.headers ∧ Below w.heap.size w w' := by
  refine (refParse_any s hs w).mono ?_
  rintro e w' ⟨hB, v, he, ho⟩
  rw [hp] at he ho
  obtain ⟨o, cp, rfl⟩ := own_slice ho
  exact ⟨o, cp, he, ho, hB⟩
/-- The cells of a request. -/
abbrev rqC (a : Rq) (v : Value) : Array Value := #[bs a.method, bs a.path, bs a.query, v, bs a.body, .bool a.close]
set_option maxHeartbeats 6400000 in
set_option maxRecDepth 100000 in
theorem parses_law (s nm : ByteArray) (hs : s.size ≤ 281474976710656) (w : World) (hL : MaxL w) :
    Calls Tryz.prog 3 #[.string s, .string nm] w fun e w' => e = .returned (.bool true) ∧ Below w.heap.size w w' := by
  obtain ⟨⟨a, n, st⟩, hp⟩ : ∃ P : Rq × Nat × Int, parseL s.data.toList = P := ⟨_, rfl⟩
  have h16 := hdrs_small s.data.toList
  rw [hp] at h16
  simp only at h16
  have H0 := Lib.hid (awake_any w hL)
  have H1 := Lib.hid (fun W hW => Parse_g s hs a n st hp W hW)
  have H2 := Lib.hid (fun W => refParse_g s hs a n st hp W)
  clear hp
  go_enter Tryz.func3, Tryz.ntmps3
  go_wp2_with (go_at_call 8; (refine (H0.out).mono ?_); rintro e w0 ⟨rfl, hb0⟩; refine Hid.out ?_)
  refine Lib.hid ?_
  have hL0 := hL.keep hb0
  go_wp2_with (go_at_call 9; (refine (H1.out _ hL0).mono ?_); rintro e w1 ⟨o1, cp1, rfl, ho1, hb1⟩; refine Hid.out ?_)
  refine Lib.hid ?_
  have x1 := new_at w1 (rqC a (.slice o1 a.headers.length cp1)) 25
  have bA := below_alloc w1 (.cells (rqC a (.slice o1 a.headers.length cp1)) 25)
  have oA := own_keep ho1 bA
  have bA := below_then (below_then hb0 hb1) bA
  go_wp2_with (go_at_call 10; (refine (H2.out _).mono ?_); rintro e w2 ⟨o2, cp2, rfl, ho2, hb2⟩; refine Hid.out ?_)
  refine Lib.hid ?_
  have x1 := keep_at (keep_at x1 hb2) (below_alloc w2 (.cells (rqC a (.slice o2 a.headers.length cp2)) 25))
  have x2 := new_at w2 (rqC a (.slice o2 a.headers.length cp2)) 25
  have oA := own_keep (own_keep oA hb2) (below_alloc w2 (.cells (rqC a (.slice o2 a.headers.length cp2)) 25))
  have oB := own_keep ho2 (below_alloc w2 (.cells (rqC a (.slice o2 a.headers.length cp2)) 25))
  have bB := below_then (below_then bA hb2) (below_alloc w2 (.cells (rqC a (.slice o2 a.headers.length cp2)) 25))
  have hsm := Same_any a a (.slice o1 a.headers.length cp1) (.slice o2 a.headers.length cp2) _ (OwnH.rows oA) (OwnH.rows oB) (by omega) (by omega)
  rw [decide_eq_true (rfl : a = a)] at hsm
  obtain ⟨y0, y1, y2, y3, y4, y5⟩ := cells6 x1
  obtain ⟨z0, z1, z2', z3, z4, z5⟩ := cells6 x2
  go_wp2_with (go_at_call 11; (refine hsm.mono ?_); rintro e w3 ⟨rfl, hb3⟩; refine Hid.out ?_)
  refine Lib.hid ?_
  have x1 := keep_at x1 hb3
  have x2 := keep_at x2 hb3
  have oA := own_keep oA hb3
  have oB := own_keep oB hb3
  have bB := below_then bB hb3
  have hg := Get_any ⟨a.method.toArray⟩ ⟨a.path.toArray⟩ ⟨a.query.toArray⟩ (.slice o1 a.headers.length cp1) ⟨a.body.toArray⟩ a.close a.headers nm w3 (OwnH.rows oA) (by omega)
  clear y0 y1 y2 y3 y4 y5 z0 z1 z2' z3 z4 z5 hsm
  obtain ⟨y0, y1, y2, y3, y4, y5⟩ := cells6 x1
  obtain ⟨z0, z1, z2', z3, z4, z5⟩ := cells6 x2
  go_wp2_with (go_at_call 12; (refine hg.mono ?_); rintro e w4 ⟨rfl, hb4⟩; refine Hid.out ?_)
  refine Lib.hid ?_
  have x1 := keep_at x1 hb4
  have x2 := keep_at x2 hb4
  have oA := own_keep oA hb4
  have oB := own_keep oB hb4
  have bB := below_then bB hb4
  have hg2 := refGet_any ⟨a.method.toArray⟩ ⟨a.path.toArray⟩ ⟨a.query.toArray⟩ (.slice o2 a.headers.length cp2) ⟨a.body.toArray⟩ a.close a.headers nm w4 (OwnH.rows oB) (by omega)
  clear y0 y1 y2 y3 y4 y5 z0 z1 z2' z3 z4 z5 hg
  obtain ⟨y0, y1, y2, y3, y4, y5⟩ := cells6 x1
  obtain ⟨z0, z1, z2', z3, z4, z5⟩ := cells6 x2
  go_wp2_with (go_at_call 13; (refine hg2.mono ?_); rintro e w5 ⟨rfl, hb5⟩; refine Hid.out ?_)
  refine Lib.hid ?_
  have x1 := keep_at x1 hb5
  have oA := own_keep oA hb5
  have bB := below_then bB hb5
  have hrow : a.headers.length = 0 ∨ ∃ g cur, o1 = some ⟨g, 0, none⟩ ∧ HdAt g cur w5 ∧ a.headers.length * 2 ≤ cur.size ∧ g ≠ w1.heap.size ∧ w.heap.size ≤ g := by
    rcases oA.2 with ⟨-, h⟩ | ⟨g, cap, cur, hv, hbg, hgg, hle, -, hsz, -⟩
    · exact .inl h
    · injection hv with e1 e2 e3
      refine .inr ⟨g, cur, e1, hgg, by omega, ?_, by have := hb0.size; omega⟩
      rintro rfl
      rw [x1] at hgg
      injection hgg with h
      injection h with _ h
      exact absurd h (by decide)
  obtain ⟨V, hV⟩ : ∃ V : ByteArray, V = ⟨(getV a.headers nm.data.toList).toArray⟩ := ⟨_, rfl⟩
  obtain ⟨m, hm⟩ : ∃ m, m = getN a.headers nm.data.toList := ⟨_, rfl⟩
  have hmb : m ≤ 16 := by have := getN_le a.headers nm.data.toList; omega
  have hVx : bs (getV a.headers nm.data.toList) = .string V := by rw [hV]
  rw [← hm, hVx]
  have hN1 : w.heap.size ≤ w1.heap.size := by have := hb0.size; have := hb1.size; omega
  clear y0 y1 y2 y3 y4 y5 z0 z1 z2' z3 z4 z5 hg2 oA oB x2 hV hVx hm H0 H1 H2 ho1 ho2 hb0 hb1 hb2 hb3 hb4 hb5 hL hL0
  go_wp2_with fail
  go_loopw [17] (fun i wr => ∃ k : Nat, k ≤ a.headers.length ∧ i = .int .i64 k ∧ RqAt w1.heap.size (rqC a (.slice o1 a.headers.length cp1)) wr ∧ (a.headers.length = 0 ∨ ∃ g cur, o1 = some ⟨g, 0, none⟩ ∧ HdAt g cur wr ∧ a.headers.length * 2 ≤ cur.size ∧ g ≠ w1.heap.size ∧ w.heap.size ≤ g) ∧ Below w.heap.size w wr) (fun i _ => a.headers.length - (intOf i).toNat)
  case atStart => exact ⟨0, by omega, rfl, x1, hrow, bB⟩
  case round =>
    clear x1 hrow bB
    obtain ⟨k, hk, rfl, x1, hrow, bB⟩ := hrel
    obtain ⟨y0, y1, y2, y3, y4, y5⟩ := cells6 x1
    by_cases hlt : k < a.headers.length
    · have hlt' : (k : Int) < (a.headers.length : Int) := by omega
      obtain ⟨g, cur, rfl, hgg, hsz, hne, hge⟩ := hrow.resolve_left (by omega)
      go_wp2_with (refine put_mid rfl _ _ rfl g (k * 2) ⟨#[109, 105, 110, 101]⟩ ⟨#[]⟩ rfl rfl hgg (by omega) ?_; intro w6 cur' hg6 hs6 hb6 ho6)
      go_roundw
      case rel => exact ⟨k + 1, by omega, by go_num, (ho6 _ (fun e => hne e.symm)).trans x1, .inr ⟨g, cur', rfl, hg6, by omega, hne, hge⟩, bB.trans (hb6.mono hge)⟩
      case measure => simp [intOf]; omega
    · obtain rfl : k = a.headers.length := by omega
      go_wp2_with fail
      go_ret
      exact ⟨rfl, bB⟩
end Go.Proofs.YtcgeiimihihhpaaGreatDoor.W18
