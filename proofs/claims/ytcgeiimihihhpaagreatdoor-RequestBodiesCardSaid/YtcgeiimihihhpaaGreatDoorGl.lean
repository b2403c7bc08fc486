/-
  Walks of layer 18: RequestSound. Conditions: the text is within Go's own limit; the library's variable MaxLen holds an int.
  Walks of layer 18: RequestGrows. Conditions: the texts are within Go's own limit; the library's variable MaxLen holds an int.
  Walks of layer 18: RequestPipes. Conditions: the texts are within Go's own limit; the library's variable MaxLen holds an int.
-/
import Derived.Test.YtcgeiimihihhpaaGreatDoorGk

namespace Go.Proofs.YtcgeiimihihhpaaGreatDoor.W18
open Go Go.RowKit P12 P18

theorem rowsH_zero (o : Option Addr) (c : Nat) (w : World) : RowsH (.slice o zeroR.headers.length c) zeroR.headers w := ⟨o, c, rfl, .inl rfl⟩
set_option maxHeartbeats 6400000 in
set_option maxRecDepth 100000 in
theorem sound_walk (s : ByteArray) (hs : s.size ≤ 281474976710656) (w : World) (hL : MaxL w) :
    Calls Tryz.prog 5 #[.string s] w fun e w' => e = .returned (.bool true) ∧ Below w.heap.size w w' := by
  have hso := sound_law s.data.toList
  obtain ⟨⟨a, n, st⟩, hp⟩ : ∃ P : Rq × Nat × Int, parseL s.data.toList = P := ⟨_, rfl⟩
  rw [hp] at hso
  simp only at hso
  have H0 := Lib.hid (awake_any w hL)
  rcases hso with ⟨rfl, h1, h2, h3, h4, h5, h6⟩ | ⟨ht, rfl, rfl⟩
  · obtain ⟨M, hM⟩ : ∃ M : ByteArray, M = ⟨a.method.toArray⟩ := ⟨_, rfl⟩
    obtain ⟨P, hP⟩ : ∃ M : ByteArray, M = ⟨a.path.toArray⟩ := ⟨_, rfl⟩
    obtain ⟨Q, hQ⟩ : ∃ M : ByteArray, M = ⟨a.query.toArray⟩ := ⟨_, rfl⟩
    obtain ⟨Y, hY⟩ : ∃ M : ByteArray, M = ⟨a.body.toArray⟩ := ⟨_, rfl⟩
    obtain ⟨c, hc⟩ : ∃ c, c = a.close := ⟨_, rfl⟩
    have H1 := Lib.hid (fun W hW => Parse_at s hs a n 200 hp M P Q Y hM hP hQ hY c hc W hW)
    have hMd : M.data.toList = a.method := by rw [hM]
    have hYs : Y.size ≤ 1000 := by rw [hY, size_mk]; exact h3
    rw [size_data] at h2
    have z1 : (0 : Int) < (n : Int) := by omega
    have z2' : (n : Int) ≤ (s.size : Int) := by omega
    have z3 : (Y.size : Int) ≤ 1000 := by omega
    have z4 : (a.headers.length : Int) ≤ 16 := by omega
    have z5 : ((getN a.headers hostN : Nat) : Int) = 1 := by omega
    have hgm : ∀ W v, RowsH v a.headers W → Calls Tryz.prog 12 #[reqV M P Q v Y c, .string ⟨#[104, 111, 115, 116]⟩] W fun e w' => e = .returned (.tuple #[bs (getV a.headers hostN), .int .i64 1]) ∧ Below W.heap.size W w' := fun W v hv => by
      have := Get_any M P Q v Y c a.headers ⟨#[104, 111, 115, 116]⟩ W hv (by omega)
      rw [show (⟨#[104, 111, 115, 116]⟩ : ByteArray).data.toList = hostN from rfl, h5] at this
      exact this
    obtain ⟨V, hV⟩ : ∃ V : ByteArray, V = ⟨(getV a.headers hostN).toArray⟩ := ⟨_, rfl⟩
    rw [show bs (getV a.headers hostN) = .string V by rw [hV]] at hgm
    have hgG : M.toList = [71, 69, 84] ∨ (¬ M.toList = [71, 69, 84] ∧ M.toList = [80, 79, 83, 84]) := by
      rw [Lib.toList_data, hMd]
      rcases h6 with h | h
      · exact .inl h
      · exact .inr ⟨by rw [h]; decide, h⟩
    have HG := Lib.hid hgm
    clear hM hP hQ hY hc hMd hp h1 h2 h3 h5 h6 hV hgm z5
    go_enter Tryz.func5, Tryz.ntmps5
    go_wp2_with (go_at_call 8; (refine (H0.out).mono ?_); rintro e w0 ⟨rfl, hb0⟩; refine Hid.out ?_)
    refine Lib.hid ?_
    go_wp2_with (go_at_call 9; (refine (H1.out _ (hL.keep hb0)).mono ?_); rintro e w1 ⟨o1, cp1, rfl, ho1, hb1⟩; refine Hid.out ?_)
    refine Lib.hid ?_
    have x1 := new_at w1 #[.string M, .string P, .string Q, .slice o1 a.headers.length cp1, .string Y, .bool c] 25
    have bA := below_alloc w1 (.cells #[.string M, .string P, .string Q, .slice o1 a.headers.length cp1, .string Y, .bool c] 25)
    have oA := own_keep ho1 bA
    have bB := below_then (below_then hb0 hb1) bA
    have hgc := HG.out _ _ (OwnH.rows oA)
    obtain ⟨y0, y1, y2, y3, y4, y5⟩ := cells6 x1
    clear H0 H1 HG ho1 hb0 hb1 bA
    go_wp2_with (go_at_call 12; (refine hgc.mono ?_); rintro e w4 ⟨rfl, hb4⟩; refine Hid.out ?_)
    refine Lib.hid ?_
    have x1 := keep_at x1 hb4
    have bB := below_then bB hb4
    clear y0 y1 y2 y3 y4 y5 hgc
    obtain ⟨y0, y1, y2, y3, y4, y5⟩ := cells6 x1
    rcases hgG with gG | ⟨gG, gP⟩
    all_goals
      go_wp2_with fail
      go_ret
      exact ⟨rfl, bB⟩
  · have H1 := Lib.hid (fun W hW => Parse_at s hs zeroR 0 st hp ⟨#[]⟩ ⟨#[]⟩ ⟨#[]⟩ ⟨#[]⟩ rfl rfl rfl rfl false rfl W hW)
    clear hp
    rcases ht with rfl | rfl | rfl | rfl | rfl
    all_goals
      go_enter Tryz.func5, Tryz.ntmps5
      go_wp2_with (go_at_call 8; (refine (H0.out).mono ?_); rintro e w0 ⟨rfl, hb0⟩; refine Hid.out ?_)
      refine Lib.hid ?_
      go_wp2_with (go_at_call 9; (refine (H1.out _ (hL.keep hb0)).mono ?_); rintro e w1 ⟨o1, cp1, rfl, ho1, hb1⟩; refine Hid.out ?_)
      refine Lib.hid ?_
      have x1 := new_at w1 #[.string ⟨#[]⟩, .string ⟨#[]⟩, .string ⟨#[]⟩, .slice o1 zeroR.headers.length cp1, .string ⟨#[]⟩, .bool false] 25
      have bB := below_then (below_then hb0 hb1) (below_alloc w1 (.cells #[.string ⟨#[]⟩, .string ⟨#[]⟩, .string ⟨#[]⟩, .slice o1 zeroR.headers.length cp1, .string ⟨#[]⟩, .bool false] 25))
      have hsm := fun W => Same_any zeroR zeroR (.slice o1 zeroR.headers.length cp1) (.slice none 0 0) W (rowsH_zero _ _ _) (rowsH_nil _) (by decide) (by decide)
      rw [decide_eq_true (rfl : zeroR = zeroR)] at hsm
      obtain ⟨y0, y1, y2, y3, y4, y5⟩ := cells6 x1
      go_wp2_with (go_at_call 11; (refine (hsm _).mono ?_); rintro e w4 ⟨rfl, hb4⟩; refine Hid.out ?_)
      refine Lib.hid ?_
      have bB := below_then bB hb4
      go_wp2_with fail
      go_ret
      exact ⟨rfl, bB⟩
end Go.Proofs.YtcgeiimihihhpaaGreatDoor.W18

namespace Go.Proofs.YtcgeiimihihhpaaGreatDoor.W18
open Go Go.RowKit P12 P18

theorem told_or (s : P12.By) : (parseL s).2.2 = 200 ∨ P18.Told (parseL s).2.2 := by
  rcases sound_law s with ⟨h, -⟩ | ⟨h, -⟩
  · exact .inl h
  · exact .inr h
set_option maxHeartbeats 12000000 in
set_option maxRecDepth 100000 in
theorem grows_walk (s more : ByteArray) (cut : Int) (hs : s.size ≤ 140737488355328) (hm : more.size ≤ 140737488355328) (w : World) (hL : MaxL w) :
    Calls Tryz.prog 4 #[.string s, .int .i64 cut, .string more] w fun e w' => e = .returned (.bool true) ∧ Below w.heap.size w w' := by
  obtain ⟨k, hk, hw⟩ : ∃ k : Nat, k ≤ s.size ∧ ((cut < 0 ∧ k = s.size) ∨ (¬ cut < 0 ∧ (s.size : Int) < cut ∧ k = s.size) ∨ (cut = k ∧ ¬ (k : Int) < 0 ∧ ¬ (s.size : Int) < (k : Int))) := by
    by_cases h : cut < 0
    · exact ⟨s.size, Nat.le_refl _, .inl ⟨h, rfl⟩⟩
    · by_cases h2 : (s.size : Int) < cut
      · exact ⟨s.size, Nat.le_refl _, .inr (.inl ⟨h, h2, rfl⟩)⟩
      · exact ⟨cut.toNat, by omega, .inr (.inr (by omega))⟩
  obtain ⟨S1, hS1⟩ : ∃ S, S = s.extract 0 k := ⟨_, rfl⟩
  obtain ⟨S2, hS2⟩ : ∃ S, S = s ++ more := ⟨_, rfl⟩
  have hadd : ∀ W, (Op.stringOp .add s more).run Tryz.prog W = .ok (.string S2) W := fun W => by rw [hS2]; exact run_string_add_sum W s more (by omega)
  have e1 : S1.data.toList = s.data.toList.take k := by rw [hS1, Lib.extract_data]; simp
  have z1 : S1.size = k := by rw [hS1, ByteArray.size_extract]; omega
  have z2' : S2.size ≤ 281474976710656 := by rw [hS2, ByteArray.size_append]; omega
  have e2 : S2.data.toList = S1.data.toList ++ (s.data.toList.drop k ++ more.data.toList) := by
    rw [hS2, ByteArray.data_append, Array.toList_append, e1, ← List.append_assoc, List.take_append_drop]
  have hgr := grows_law S1.data.toList (s.data.toList.drop k ++ more.data.toList)
  have hmo := more_law S1.data.toList (s.data.toList.drop k ++ more.data.toList)
  have htd := told_or S2.data.toList
  rw [← e2] at hgr hmo
  obtain ⟨⟨a, n, st⟩, hp⟩ : ∃ P : Rq × Nat × Int, parseL S1.data.toList = P := ⟨_, rfl⟩
  obtain ⟨⟨b, m, t⟩, hq⟩ : ∃ P : Rq × Nat × Int, parseL S2.data.toList = P := ⟨_, rfl⟩
  have ha16 := hdrs_small S1.data.toList
  have hb16 := hdrs_small S2.data.toList
  have hmz : m ≤ S2.size := by
    have : (parseL S2.data.toList).2.1 ≤ S2.data.toList.length := by
      rcases sound_law S2.data.toList with ⟨-, -, h, -⟩ | ⟨-, -, h⟩
      · exact h
      · rw [h]; exact Nat.zero_le _
    rw [hq, size_data] at this
    exact this
  have hnz : n ≤ S1.size := by
    have : (parseL S1.data.toList).2.1 ≤ S1.data.toList.length := by
      rcases sound_law S1.data.toList with ⟨-, -, h, -⟩ | ⟨-, -, h⟩
      · exact h
      · rw [h]; exact Nat.zero_le _
    rw [hp, size_data] at this
    exact this
  rw [hp, hq] at hgr hmo
  rw [hq] at htd hb16
  rw [hp] at ha16
  simp only at hgr hmo htd ha16 hb16
  rw [size_data, z1] at hmo
  have H0 := Lib.hid (awake_any w hL)
  have H1 := Lib.hid (fun W hW => Parse_g S1 (by omega) a n st hp W hW)
  have H2 := Lib.hid (fun W hW => Parse_g S2 z2' b m t hq W hW)
  have HS1 := Lib.hid hS1
  have HE : Hid (k = s.size → S1 = s) := Lib.hid (fun e => ba_ext (by rw [e1, e]; exact List.take_of_length_le (by rw [size_data]; exact Nat.le_refl _)))
  have i1 : (k : Int) ≤ (s.size : Int) := by omega
  have i0 : (0 : Int) ≤ (k : Int) := by omega
  clear hS1 hS2 e1 e2 hp hq
  by_cases h0 : st = 0
  · obtain ⟨rfl, rfl, hgt⟩ := hmo h0
    subst h0
    have HT : Hid (t = 0 ∨ (t ≠ 0 ∧ t ≠ 200) ∨ (t = 200 ∧ k < m)) := Lib.hid (by
      rcases htd with rfl | h
      · exact .inr (.inr ⟨rfl, hgt rfl⟩)
      · by_cases h1 : t = 0
        · exact .inl h1
        · exact .inr (.inl ⟨h1, told_ne h⟩))
    clear hgr hmo hgt htd
    rcases hw with ⟨c1, rfl⟩ | ⟨c1, c2, rfl⟩ | ⟨rfl, c1, c2⟩
    all_goals
      first
        | (have e := HE.out rfl; subst e)
        | skip
      go_enter Tryz.func4, Tryz.ntmps4
      go_wp2_with (go_at_call 8; (refine (H0.out).mono ?_); rintro e w0 ⟨rfl, hb0⟩; refine Hid.out ?_)
      refine Lib.hid ?_
      go_wp2_with (first
        | (rw [← HS1.out])
        | (go_at_call 9; (with_reducible refine (H1.out _ (hL.keep hb0)).mono ?_); rintro e w1 ⟨o1, cp1, rfl, ho1, hb1⟩; refine Hid.out ?_))
      refine Lib.hid ?_
      have x1 := new_at w1 (rqC zeroR (.slice o1 zeroR.headers.length cp1)) 25
      have bA := below_alloc w1 (.cells (rqC zeroR (.slice o1 zeroR.headers.length cp1)) 25)
      have hL1 := ((hL.keep hb0).keep hb1).keep bA
      have bA := below_then (below_then hb0 hb1) bA
      go_wp2_with (go_at_call 9; (refine (H2.out _ hL1).mono ?_); rintro e w2 ⟨o2, cp2, rfl, ho2, hb2⟩; refine Hid.out ?_)
      refine Lib.hid ?_
      have x1 := keep_at (keep_at x1 hb2) (below_alloc w2 (.cells (rqC b (.slice o2 b.headers.length cp2)) 25))
      have bB := below_then (below_then bA hb2) (below_alloc w2 (.cells (rqC b (.slice o2 b.headers.length cp2)) 25))
      have hsm := fun W => Same_any zeroR zeroR (.slice o1 zeroR.headers.length cp1) (.slice none 0 0) W (rowsH_zero _ _ _) (rowsH_nil _) (by decide) (by decide)
      rw [decide_eq_true (rfl : zeroR = zeroR)] at hsm
      obtain ⟨y0, y1, y2, y3, y4, y5⟩ := cells6 x1
      go_wp2_with (go_at_call 11; (refine (hsm _).mono ?_); rintro e w4 ⟨rfl, hb4⟩; refine Hid.out ?_)
      refine Lib.hid ?_
      have bB := below_then bB hb4
      clear y0 y1 y2 y3 y4 y5 x1 hsm
      rcases HT.out with rfl | ⟨t0, t2⟩ | ⟨rfl, hgt⟩
      · go_wp2_with fail
        go_ret
        exact ⟨rfl, bB⟩
      · have u0 : (t == 0) = false := beq_eq_false_iff_ne.2 t0
        have u2 : (t == 200) = false := beq_eq_false_iff_ne.2 t2
        go_wp2_with fail
        go_ret
        exact ⟨rfl, bB⟩
      · have u3 := Int.ofNat_lt.2 hgt
        go_wp2_with fail
        go_ret
        exact ⟨rfl, bB⟩
  · have hg := hgr h0
    injection hg with g1 g2
    injection g2 with g2 g3
    subst g1 g2 g3
    have u0 : (t == 0) = false := beq_eq_false_iff_ne.2 h0
    have u0' : ¬ t = 0 := h0
    clear hgr hmo htd h0
    rcases hw with ⟨c1, rfl⟩ | ⟨c1, c2, rfl⟩ | ⟨rfl, c1, c2⟩
    all_goals
      first
        | (have e := HE.out rfl; subst e)
        | skip
      go_enter Tryz.func4, Tryz.ntmps4
      go_wp2_with (go_at_call 8; (refine (H0.out).mono ?_); rintro e w0 ⟨rfl, hb0⟩; refine Hid.out ?_)
      refine Lib.hid ?_
      go_wp2_with (first
        | (rw [← HS1.out])
        | (go_at_call 9; (with_reducible refine (H1.out _ (hL.keep hb0)).mono ?_); rintro e w1 ⟨o1, cp1, rfl, ho1, hb1⟩; refine Hid.out ?_))
      refine Lib.hid ?_
      have x1 := new_at w1 (rqC b (.slice o1 b.headers.length cp1)) 25
      have bA := below_alloc w1 (.cells (rqC b (.slice o1 b.headers.length cp1)) 25)
      have oA := own_keep ho1 bA
      have hL1 := ((hL.keep hb0).keep hb1).keep bA
      have bA := below_then (below_then hb0 hb1) bA
      go_wp2_with (go_at_call 9; (refine (H2.out _ hL1).mono ?_); rintro e w2 ⟨o2, cp2, rfl, ho2, hb2⟩; refine Hid.out ?_)
      refine Lib.hid ?_
      have x1 := keep_at (keep_at x1 hb2) (below_alloc w2 (.cells (rqC b (.slice o2 b.headers.length cp2)) 25))
      have x2 := new_at w2 (rqC b (.slice o2 b.headers.length cp2)) 25
      have oA := own_keep (own_keep oA hb2) (below_alloc w2 (.cells (rqC b (.slice o2 b.headers.length cp2)) 25))
      have oB := own_keep ho2 (below_alloc w2 (.cells (rqC b (.slice o2 b.headers.length cp2)) 25))
      have bB := below_then (below_then bA hb2) (below_alloc w2 (.cells (rqC b (.slice o2 b.headers.length cp2)) 25))
      have hsm := Same_any b b (.slice o1 b.headers.length cp1) (.slice o2 b.headers.length cp2) _ (OwnH.rows oA) (OwnH.rows oB) (by omega) (by omega)
      rw [decide_eq_true (rfl : b = b)] at hsm
      obtain ⟨y0, y1, y2, y3, y4, y5⟩ := cells6 x1
      obtain ⟨v0, v1, v2, v3, v4, v5⟩ := cells6 x2
      go_wp2_with (go_at_call 11; (refine hsm.mono ?_); rintro e w4 ⟨rfl, hb4⟩; refine Hid.out ?_)
      refine Lib.hid ?_
      have bB := below_then bB hb4
      clear y0 y1 y2 y3 y4 y5 x1 hsm v0 v1 v2 v3 v4 v5 x2
      go_wp2_with fail
      go_ret
      exact ⟨rfl, bB⟩
end Go.Proofs.YtcgeiimihihhpaaGreatDoor.W18

namespace Go.Proofs.YtcgeiimihihhpaaGreatDoor.W18
open Go Go.RowKit P12 P18

theorem n_le (s : ByteArray) {a : Rq} {n : Nat} {st : Int} (h : parseL s.data.toList = (a, n, st)) : n ≤ s.size := by
  have : (parseL s.data.toList).2.1 ≤ s.data.toList.length := by
    rcases sound_law s.data.toList with ⟨-, -, h, -⟩ | ⟨-, -, h⟩
    · exact h
    · rw [h]; exact Nat.zero_le _
  rw [h, size_data] at this
  exact this
theorem h16_of (s : ByteArray) {a : Rq} {n : Nat} {st : Int} (h : parseL s.data.toList = (a, n, st)) : a.headers.length ≤ 16 := by
  have := hdrs_small s.data.toList
  rw [h] at this
  exact this
set_option maxHeartbeats 12000000 in
set_option maxRecDepth 100000 in
theorem pipes_walk (s two : ByteArray) (hs : s.size ≤ 140737488355328) (hm : two.size ≤ 140737488355328) (w : World) (hL : MaxL w) :
    Calls Tryz.prog 6 #[.string s, .string two] w fun e w' => e = .returned (.bool true) ∧ Below w.heap.size w w' := by
  obtain ⟨⟨a, n, st⟩, hp⟩ : ∃ P : Rq × Nat × Int, parseL s.data.toList = P := ⟨_, rfl⟩
  have hn := n_le s hp
  have h16 := h16_of s hp
  have H0 := Lib.hid (awake_any w hL)
  have H1 := Lib.hid (fun W hW => Parse_g s (by omega) a n st hp W hW)
  by_cases h2 : st = 200
  · subst h2
    obtain ⟨⟨c, m, u⟩, hq⟩ : ∃ P : Rq × Nat × Int, parseL two.data.toList = P := ⟨_, rfl⟩
    have hmn := n_le two hq
    have c16 := h16_of two hq
    have H3 := Lib.hid (fun W hW => Parse_g two (by omega) c m u hq W hW)
    obtain ⟨S1, hS1⟩ : ∃ S, S = s.extract 0 n := ⟨_, rfl⟩
    obtain ⟨S2, hS2⟩ : ∃ S, S = S1 ++ two := ⟨_, rfl⟩
    have e1 : S1.data.toList = s.data.toList.take n := by rw [hS1, Lib.extract_data]; simp
    have z1 : S1.size = n := by rw [hS1, ByteArray.size_extract]; omega
    have z2' : S2.size = n + two.size := by rw [hS2, ByteArray.size_append, z1]
    have hadd : ∀ W, (Op.stringOp .add S1 two).run Tryz.prog W = .ok (.string S2) W := fun W => by rw [hS2]; exact run_string_add_sum W S1 two (by omega)
    have e2 : S2.data.toList = S1.data.toList ++ two.data.toList := by rw [hS2, ByteArray.data_append, Array.toList_append]
    have hpi := pipes_law hp two.data.toList
    rw [← e1, ← e2] at hpi
    have H2 := Lib.hid (fun W hW => Parse_g S2 (by omega) a n 200 hpi W hW)
    have e3 : S2.extract n S2.size = two := ba_ext (by
      rw [Lib.extract_to_end, e2, ← z1, ← size_data, List.drop_left])
    have HS1 := Lib.hid hS1
    have HE1 : Hid (n = s.size → S1 = s) := Lib.hid (fun e => ba_ext (by rw [e1, e]; exact List.take_of_length_le (by rw [size_data]; exact Nat.le_refl _)))
    have HS3 := Lib.hid e3
    have i0 : (0 : Int) ≤ (n : Int) := by omega
    have i1 : (n : Int) ≤ (s.size : Int) := by omega
    have i2 : (n : Int) ≤ (S2.size : Int) := by omega
    clear hS1 hS2 e1 z1 z2' e2 hpi e3 hp hq
    go_enter Tryz.func6, Tryz.ntmps6
    go_wp2_with (go_at_call 8; (refine (H0.out).mono ?_); rintro e w0 ⟨rfl, hb0⟩; refine Hid.out ?_)
    refine Lib.hid ?_
    go_wp2_with (go_at_call 9; (with_reducible refine (H1.out _ (hL.keep hb0)).mono ?_); rintro e w1 ⟨o1, cp1, rfl, ho1, hb1⟩; refine Hid.out ?_)
    refine Lib.hid ?_
    have x1 := new_at w1 (rqC a (.slice o1 a.headers.length cp1)) 25
    have bA := below_alloc w1 (.cells (rqC a (.slice o1 a.headers.length cp1)) 25)
    have oA := own_keep ho1 bA
    have hL1 := ((hL.keep hb0).keep hb1).keep bA
    have bA := below_then (below_then hb0 hb1) bA
    go_wp2_with (first
      | (rw [← HS1.out])
      | (go_at_call 9; (refine (H2.out _ hL1).mono ?_); rintro e w2 ⟨o2, cp2, rfl, ho2, hb2⟩; refine Hid.out ?_))
    refine Lib.hid ?_
    have x1 := keep_at (keep_at x1 hb2) (below_alloc w2 (.cells (rqC a (.slice o2 a.headers.length cp2)) 25))
    have x2 := new_at w2 (rqC a (.slice o2 a.headers.length cp2)) 25
    have oA := own_keep (own_keep oA hb2) (below_alloc w2 (.cells (rqC a (.slice o2 a.headers.length cp2)) 25))
    have oB := own_keep ho2 (below_alloc w2 (.cells (rqC a (.slice o2 a.headers.length cp2)) 25))
    have bB := below_then (below_then bA hb2) (below_alloc w2 (.cells (rqC a (.slice o2 a.headers.length cp2)) 25))
    have hL2 := (hL1.keep hb2).keep (below_alloc w2 (.cells (rqC a (.slice o2 a.headers.length cp2)) 25))
    have hsm := Same_any a a (.slice o1 a.headers.length cp1) (.slice o2 a.headers.length cp2) _ (OwnH.rows oA) (OwnH.rows oB) (by omega) (by omega)
    rw [decide_eq_true (rfl : a = a)] at hsm
    obtain ⟨y0, y1, y2, y3, y4, y5⟩ := cells6 x1
    obtain ⟨v0, v1, v2, v3, v4, v5⟩ := cells6 x2
    go_wp2_with (go_at_call 11; (refine hsm.mono ?_); rintro e w3 ⟨rfl, hb3⟩; refine Hid.out ?_)
    refine Lib.hid ?_
    have bB := below_then bB hb3
    have hL3 := hL2.keep hb3
    clear y0 y1 y2 y3 y4 y5 x1 hsm v0 v1 v2 v3 v4 v5 x2 oA oB
    go_wp2_with (first
      | (rw [HS3.out])
      | (go_at_call 9; (refine (H3.out _ hL3).mono ?_); rintro e w4 ⟨o3, cp3, rfl, ho3, hb4⟩; refine Hid.out ?_))
    refine Lib.hid ?_
    have x1 := new_at w4 (rqC c (.slice o3 c.headers.length cp3)) 25
    have bA := below_alloc w4 (.cells (rqC c (.slice o3 c.headers.length cp3)) 25)
    have oA := own_keep ho3 bA
    have hL4 := (hL3.keep hb4).keep bA
    have bA := below_then (below_then bB hb4) bA
    go_wp2_with (go_at_call 9; (refine (H3.out _ hL4).mono ?_); rintro e w5 ⟨o4, cp4, rfl, ho4, hb5⟩; refine Hid.out ?_)
    refine Lib.hid ?_
    have x1 := keep_at (keep_at x1 hb5) (below_alloc w5 (.cells (rqC c (.slice o4 c.headers.length cp4)) 25))
    have x2 := new_at w5 (rqC c (.slice o4 c.headers.length cp4)) 25
    have oA := own_keep (own_keep oA hb5) (below_alloc w5 (.cells (rqC c (.slice o4 c.headers.length cp4)) 25))
    have oB := own_keep ho4 (below_alloc w5 (.cells (rqC c (.slice o4 c.headers.length cp4)) 25))
    have bC := below_then (below_then bA hb5) (below_alloc w5 (.cells (rqC c (.slice o4 c.headers.length cp4)) 25))
    have hsm := Same_any c c (.slice o3 c.headers.length cp3) (.slice o4 c.headers.length cp4) _ (OwnH.rows oA) (OwnH.rows oB) (by omega) (by omega)
    rw [decide_eq_true (rfl : c = c)] at hsm
    obtain ⟨y0, y1, y2, y3, y4, y5⟩ := cells6 x1
    obtain ⟨v0, v1, v2, v3, v4, v5⟩ := cells6 x2
    go_wp2_with (go_at_call 11; (refine hsm.mono ?_); rintro e w6 ⟨rfl, hb6⟩; refine Hid.out ?_)
    refine Lib.hid ?_
    have bC := below_then bC hb6
    clear y0 y1 y2 y3 y4 y5 x1 hsm v0 v1 v2 v3 v4 v5 x2 oA oB
    go_wp2_with fail
    go_ret
    exact ⟨rfl, bC⟩
  · have u2 : (st == 200) = false := beq_eq_false_iff_ne.2 h2
    clear hp
    go_enter Tryz.func6, Tryz.ntmps6
    go_wp2_with (go_at_call 8; (refine (H0.out).mono ?_); rintro e w0 ⟨rfl, hb0⟩; refine Hid.out ?_)
    refine Lib.hid ?_
    go_wp2_with (go_at_call 9; (with_reducible refine (H1.out _ (hL.keep hb0)).mono ?_); rintro e w1 ⟨o1, cp1, rfl, ho1, hb1⟩; refine Hid.out ?_)
    refine Lib.hid ?_
    have bA := below_then (below_then hb0 hb1) (below_alloc w1 (.cells (rqC a (.slice o1 a.headers.length cp1)) 25))
    go_wp2_with fail
    go_ret
    exact ⟨rfl, bA⟩
end Go.Proofs.YtcgeiimihihhpaaGreatDoor.W18
