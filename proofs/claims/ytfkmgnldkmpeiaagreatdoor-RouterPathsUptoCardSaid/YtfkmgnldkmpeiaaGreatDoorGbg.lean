/-
  Walks of layer 20: Route, of the reference. Conditions: the request's cells hold it; its texts are within Go's own limit.
  Walks of layer 20: SameCall, at two calls that are the same. Conditions: the lists' cells hold their fields.
  Walks of layer 20: RouterNames, RouterRoutes. Conditions: the library's error values and its variable MaxLen; the request's texts are short enough for the library's counts.
  Walks of layer 20: RouterPaths. Conditions: the library's error values and its variable MaxLen; the texts are short enough for the library's counts.
-/
import Derived.Test.YtfkmgnldkmpeiaaGreatDoorGav
import Derived.Test.YtfkmgnldkmpeiaaGreatDoorGbe
import Derived.Test.YtfkmgnldkmpeiaaGreatDoorGbf
import Derived.Test.YtfkmgnldkmpeiaaGreatDoorGak
import Derived.Test.YtfkmgnldkmpeiaaGreatDoorGaw
import Derived.Test.YtfkmgnldkmpeiaaGreatDoorGay
import Derived.Test.YtfkmgnldkmpeiaaGreatDoorGaf

namespace Go.Proofs.YtfkmgnldkmpeiaaGreatDoor.W20
open Go Go.RowKit P12 P18 P20 W12

theorem route_at {r : Rq} {w w' : World} {c : Cl} {fv : Value} {st : Int} (h : routeL r = (c, st)) (hr : W12.Rows fv c.cfields w') (hb : Below w.heap.size w w') : RoutePost r w (.returned (.tuple #[.agg (clC c fv), .int .i64 st])) w' :=
  ⟨fv, by rw [h], by rw [h]; exact hr, hb⟩
set_option maxHeartbeats 6400000 in
set_option maxRecDepth 100000 in
theorem refRoute_any (M Pa Q Y : ByteArray) (v : Value) (cl : Bool) (hs : List Hdr) (w : World) (hP : Pa.size ≤ 1000000000000) (hQ : Q.size ≤ 1000000000000) (hY : Y.size ≤ 1000000000000) (hn : hs.length ≤ 4611686018427387904) (hv : RowsH v hs w) :
    Calls Tryz.prog 11 #[reqV M Pa Q v Y cl] w (RoutePost ⟨M.data.toList, Pa.data.toList, Q.data.toList, hs, Y.data.toList, cl⟩ w) := by
  obtain ⟨o, cp, rfl, hcl⟩ := id hv
  obtain ⟨r, hr⟩ : ∃ r : Rq, r = ⟨M.data.toList, Pa.data.toList, Q.data.toList, hs, Y.data.toList, cl⟩ := ⟨_, rfl⟩
  obtain ⟨w1, hw1⟩ : ∃ w1, w1 = (w.alloc (.cells #[.string M, .string Pa, .string Q, .slice o hs.length cp, .string Y, .bool cl] 25)).alloc (.cells zeroCl tCl) := ⟨_, rfl⟩
  have hb1 : Below w.heap.size w w1 := by rw [hw1]; exact below_then (below_alloc _ _) (below_alloc _ _)
  have hq1 : StAt 25 w.heap.size #[.string M, .string Pa, .string Q, .slice o hs.length cp, .string Y, .bool cl] w1 := by rw [hw1]; exact keep_at (new_at w _ _) (below_alloc _ _)
  have hx1 : StAt tCl (w.heap.size + 1) zeroCl w1 := by
    have := new_at (w.alloc (.cells #[.string M, .string Pa, .string Q, .slice o hs.length cp, .string Y, .bool cl] 25)) zeroCl tCl
    rw [World.size_alloc] at this
    rw [hw1]
    exact this
  have hfd := refCall_any Pa hP w1
  rw [← hr]
  have hr0 : findC r.path = findC Pa.data.toList := by rw [hr]
  have HR := Lib.hid hr
  have HR0 := Lib.hid hr0
  have HF := Lib.hid hfd
  rw [hw1] at HF
  have HV := Lib.hid hv
  clear hr hr0 hfd hcl hv
  go_enter Tryz.func11, Tryz.ntmps11
  go_wp2_with (go_at_call 32; refine HF.out.mono ?_; rintro e w2 ⟨c, m, rfl, hcase, hb2⟩; refine Hid.out ?_)
  refine Lib.hid ?_
  rw [← hw1] at hb2
  have hq2 := keep_at hq1 hb2
  have hx2 := keep_at hx1 hb2
  have hbA := below_then hb1 hb2
  have hal := below_alloc w2 (.cells (clC c (.slice none 0 0)) tCl)
  have hq3 := keep_at hq2 hal
  have hx3 := keep_at hx2 hal
  have hc3 := new_at w2 (clC c (.slice none 0 0)) tCl
  have hb3 := below_then hbA hal
  have hP1 : w.heap.size + 1 < w2.heap.size := at_lt hx2
  have HCASE := Lib.hid hcase
  clear hcase hq1 hx1 hb1 hb2 hq2 hx2 HF hw1
  go_upto_region 2 with (fail)
  generalize (w2.alloc (.cells (clC c (.slice none 0 0)) tCl)) = w3 at *
  clear hal hbA
  generalize w2.heap.size = P at *
  have hP3 := at_lt hc3
  obtain ⟨q0, q1, q2, q3, q4, q5⟩ := rq_cells hq3
  have k0 : w3.cell? ⟨P, 0, none⟩ = some (.int .i64 c.kind) := Lib.cell_of_heap hc3 0
  rcases HCASE.out with ⟨hfn, hcz, hm0⟩ | ⟨post, hfc, hm⟩
  · have HB := Lib.hid (r404 (HR0.out.trans hfn))
    have hmz : m.toList = [] := by rw [Lib.toList_data]; exact hm0
    clear hfn hcz hm0 HCASE
    go_wp2_with (refine put_st rfl _ _ _ rfl (w.heap.size + 1) zeroCl rfl rfl hx3 infoCl rfl (by simp [Value.oneCell']) ?_; intro w9 h1 h2 h3)
    exact bodyPost_ret (v := .tuple #[.agg zeroCl, .int .i64 404]) (ret_st2 Tryz.results11 _ _ _ _ rfl (load_cl h1 rfl)) rfl (route_bad 404 HB.out (hb3.trans (h2.mono (Nat.le_succ _))))
  · have HFC := Lib.hid (HR0.out.trans hfc)
    have HZ := Lib.hid (find_zero hfc)
    have hmne : m.toList.isEmpty = false := by
      rw [Lib.toList_data, hm]
      cases post <;> rfl
    by_cases hme : M.data.toList = m.data.toList
    · have HME : Hid (r.method = methodOf post) := Lib.hid (by rw [HR.out]; exact hme.trans hm)
      have hez : (M.toList == m.toList) = true := by rw [Lib.toList_data, Lib.toList_data, hme]; simp
      have hez2 : (M.toList != m.toList) = false := by rw [bne, hez]; rfl
      clear hme hm hfc HCASE
      have HRG := Lib.hid (refRanged_any c Q w3 hQ HZ.out.1)
      by_cases k3 : c.kind = 3
      · have hk3 : (c.kind == 3) = true := by rw [k3]; rfl
        have HK := Lib.hid k3
        clear k3
        have HRR := Lib.hid (rrange HFC.out HME.out (.inl HK.out))
        have hqq : r.query = Q.data.toList := by rw [HR.out]
        have HQQ := Lib.hid hqq
        clear hqq
        go_wp2_with (first
          | (refine wpList_load_row rfl _ _ rfl P rfl _ _ _ _ hc3 Tryz.underlying30 rfl infoCl ?_)
          | (go_at_call 33; refine HRG.out.mono ?_; rintro e w4 ⟨x, rok, rfl, ht4, hf4, hb4⟩; refine Hid.out ?_))
        refine Lib.hid ?_
        have hal := below_alloc w4 (.cells (clC (Dc c x) (.slice none 0 0)) tCl)
        have hx5 := keep_at (keep_at hx3 hb4) hal
        have hc5 := new_at w4 (clC (Dc c x) (.slice none 0 0)) tCl
        have hb5 := below_then (below_then hb3 hb4) hal
        have H4T := Lib.hid ht4
        have H4F := Lib.hid hf4
        clear ht4 hf4 hq3 hx3 hc3 hb3 hb4 q0 q1 q2 q3 q4 q5 k0
        go_upto_region 8 with (fail)
        generalize w4.alloc (.cells (clC (Dc c x) (.slice none 0 0)) tCl) = w5 at *
        clear hal
        generalize w4.heap.size = P2 at *
        cases rok with
        | true =>
          have HB : Hid (routeL r = (Dc c x, 200)) := Lib.hid (by rw [HRR.out, HQQ.out, H4T.out rfl])
          go_wp2_with (first
            | (refine wpList_load_row rfl _ _ rfl P2 rfl _ _ _ _ hc5 Tryz.underlying30 rfl infoCl ?_)
            | (refine put_st rfl _ _ _ rfl (w.heap.size + 1) (clC (Dc c x) (.slice none 0 0)) rfl rfl hx5 infoCl rfl (by simp [Value.oneCell']) ?_; intro w9 h1 h2 h3))
          exact bodyPost_ret (v := .tuple #[.agg (clC (Dc c x) (.slice none 0 0)), .int .i64 200]) (ret_st2 Tryz.results11 _ _ _ _ rfl (load_cl h1 rfl)) rfl (route_ok HB.out (by rw [show (Dc c x).cfields = [] from HZ.out.2]; exact W12.rows_nil _) (hb5.trans (h2.mono (Nat.le_succ _))))
        | false =>
          have HB : Hid (routeL r = (zeroC, 400)) := Lib.hid (by rw [HRR.out, HQQ.out, H4F.out rfl])
          go_wp2_with (refine put_st rfl _ _ _ rfl (w.heap.size + 1) zeroCl rfl rfl hx5 infoCl rfl (by simp [Value.oneCell']) ?_; intro w9 h1 h2 h3)
          exact bodyPost_ret (v := .tuple #[.agg zeroCl, .int .i64 400]) (ret_st2 Tryz.results11 _ _ _ _ rfl (load_cl h1 rfl)) rfl (route_bad 400 HB.out (hb5.trans (h2.mono (Nat.le_succ _))))
      · by_cases k4 : c.kind = 4
        · have hk3 : (c.kind == 3) = false := beq_eq_false_iff_ne.2 k3
          have hk4 : (c.kind == 4) = true := by rw [k4]; rfl
          have HK := Lib.hid k4
          clear k3 k4
          have HRR := Lib.hid (rrange HFC.out HME.out (.inr HK.out))
          have hqq : r.query = Q.data.toList := by rw [HR.out]
          have HQQ := Lib.hid hqq
          clear hqq
          go_wp2_with (first
            | (refine wpList_load_row rfl _ _ rfl P rfl _ _ _ _ hc3 Tryz.underlying30 rfl infoCl ?_)
            | (go_at_call 33; refine HRG.out.mono ?_; rintro e w4 ⟨x, rok, rfl, ht4, hf4, hb4⟩; refine Hid.out ?_))
          refine Lib.hid ?_
          have hal := below_alloc w4 (.cells (clC (Dc c x) (.slice none 0 0)) tCl)
          have hx5 := keep_at (keep_at hx3 hb4) hal
          have hc5 := new_at w4 (clC (Dc c x) (.slice none 0 0)) tCl
          have hb5 := below_then (below_then hb3 hb4) hal
          have H4T := Lib.hid ht4
          have H4F := Lib.hid hf4
          clear ht4 hf4 hq3 hx3 hc3 hb3 hb4 q0 q1 q2 q3 q4 q5 k0
          go_upto_region 8 with (fail)
          generalize w4.alloc (.cells (clC (Dc c x) (.slice none 0 0)) tCl) = w5 at *
          clear hal
          generalize w4.heap.size = P2 at *
          cases rok with
          | true =>
            have HB : Hid (routeL r = (Dc c x, 200)) := Lib.hid (by rw [HRR.out, HQQ.out, H4T.out rfl])
            go_wp2_with (first
              | (refine wpList_load_row rfl _ _ rfl P2 rfl _ _ _ _ hc5 Tryz.underlying30 rfl infoCl ?_)
              | (refine put_st rfl _ _ _ rfl (w.heap.size + 1) (clC (Dc c x) (.slice none 0 0)) rfl rfl hx5 infoCl rfl (by simp [Value.oneCell']) ?_; intro w9 h1 h2 h3))
            exact bodyPost_ret (v := .tuple #[.agg (clC (Dc c x) (.slice none 0 0)), .int .i64 200]) (ret_st2 Tryz.results11 _ _ _ _ rfl (load_cl h1 rfl)) rfl (route_ok HB.out (by rw [show (Dc c x).cfields = [] from HZ.out.2]; exact W12.rows_nil _) (hb5.trans (h2.mono (Nat.le_succ _))))
          | false =>
            have HB : Hid (routeL r = (zeroC, 400)) := Lib.hid (by rw [HRR.out, HQQ.out, H4F.out rfl])
            go_wp2_with (refine put_st rfl _ _ _ rfl (w.heap.size + 1) zeroCl rfl rfl hx5 infoCl rfl (by simp [Value.oneCell']) ?_; intro w9 h1 h2 h3)
            exact bodyPost_ret (v := .tuple #[.agg zeroCl, .int .i64 400]) (ret_st2 Tryz.results11 _ _ _ _ rfl (load_cl h1 rfl)) rfl (route_bad 400 HB.out (hb5.trans (h2.mono (Nat.le_succ _))))
        · have hk3 : (c.kind == 3) = false := beq_eq_false_iff_ne.2 k3
          have hk4 : (c.kind == 4) = false := beq_eq_false_iff_ne.2 k4
          have hk34 : ¬ (c.kind = 3 ∨ c.kind = 4) := by omega
          have HK34 := Lib.hid hk34
          have hqq : r.query = Q.data.toList := by rw [HR.out]
          have HQQ := Lib.hid hqq
          clear HRG k3 k4 hk34 hqq
          by_cases hq : Q.data.toList = []
          · have hqz : Q.toList = [] := by rw [Lib.toList_data]; exact hq
            have HQ0 : Hid (r.query = []) := Lib.hid (by rw [HQQ.out]; exact hq)
            clear hq
            by_cases k1 : c.kind = 1
            · have hk1 : (c.kind == 1) = true := by rw [k1]; rfl
              have HCO := Lib.hid (refCommands_any c M Pa Q Y (.slice o hs.length cp) cl hs w3 hY hn (HV.out.keep hb3))
              have hrh : r.headers = hs ∧ r.body = Y.data.toList := by rw [HR.out]; exact ⟨rfl, rfl⟩
              have HRC := Lib.hid (rcom HFC.out HME.out k1 HQ0.out)
              rw [hrh.1, hrh.2] at HRC
              clear k1 hrh
              go_wp2_with (first
                | (refine wpList_load_row rfl _ _ rfl P rfl _ _ _ _ hc3 Tryz.underlying30 rfl infoCl ?_)
                | (go_at_call 34; refine HCO.out.mono ?_; rintro e w4 ⟨C', fv, st, rfl, hcm, hrows, hone, hb4⟩; refine Hid.out ?_))
              refine Lib.hid ?_
              have hx4 := keep_at hx3 hb4
              have hb5 := below_then hb3 hb4
              have HB : Hid (routeL r = (C', st)) := Lib.hid (by rw [HRC.out, hcm])
              have HRW := Lib.hid hrows
              have HX4 := Lib.hid hx4
              clear hcm hrows hq3 hx3 hc3 hb3 q0 q1 q2 q3 q4 q5 k0
              go_wp2_with (refine put_st rfl _ _ _ rfl (w.heap.size + 1) (clC C' fv) rfl rfl hx4 infoCl rfl (one_clr hone) ?_; intro w9 h1 h2 h3)
              exact bodyPost_ret (v := .tuple #[.agg (clC C' fv), .int .i64 st]) (ret_st2 Tryz.results11 _ _ _ _ rfl (load_cl h1 rfl)) rfl (route_at HB.out (rows_two (c := zeroC) HRW.out HX4.out HX4.out (fun j h5 _ => h3 j h5)) (hb5.trans (h2.mono (Nat.le_succ _))))
            · have hk1 : (c.kind == 1) = false := beq_eq_false_iff_ne.2 k1
              have HB := Lib.hid (rplain HFC.out HME.out HK34.out k1 HQ0.out)
              clear k1
              go_wp2_with (first
                | (refine wpList_load_row rfl _ _ rfl P rfl _ _ _ _ hc3 Tryz.underlying30 rfl infoCl ?_)
                | (refine put_st rfl _ _ _ rfl (w.heap.size + 1) (clC c (.slice none 0 0)) rfl rfl hx3 infoCl rfl (by simp [Value.oneCell']) ?_; intro w9 h1 h2 h3))
              exact bodyPost_ret (v := .tuple #[.agg (clC c (.slice none 0 0)), .int .i64 200]) (ret_st2 Tryz.results11 _ _ _ _ rfl (load_cl h1 rfl)) rfl (route_ok HB.out (by rw [HZ.out.2]; exact W12.rows_nil _) (hb3.trans (h2.mono (Nat.le_succ _))))
          · have hqz : Q.toList.isEmpty = false := by rw [Lib.toList_data]; simpa using hq
            have HB := Lib.hid (rquery HFC.out HME.out HK34.out (by rw [HQQ.out]; exact hq))
            clear hq
            go_wp2_with (refine put_st rfl _ _ _ rfl (w.heap.size + 1) zeroCl rfl rfl hx3 infoCl rfl (by simp [Value.oneCell']) ?_; intro w9 h1 h2 h3)
            exact bodyPost_ret (v := .tuple #[.agg zeroCl, .int .i64 400]) (ret_st2 Tryz.results11 _ _ _ _ rfl (load_cl h1 rfl)) rfl (route_bad 400 HB.out (hb3.trans (h2.mono (Nat.le_succ _))))
    · have HB := Lib.hid (r405 HFC.out (by rw [HR.out, ← hm]; exact hme))
      have hez : (M.toList == m.toList) = false := by rw [Lib.toList_data, Lib.toList_data]; exact beq_eq_false_iff_ne.2 hme
      have hez2 : (M.toList != m.toList) = true := by rw [bne, hez]; rfl
      clear hme hm hfc HCASE
      go_wp2_with (refine put_st rfl _ _ _ rfl (w.heap.size + 1) zeroCl rfl rfl hx3 infoCl rfl (by simp [Value.oneCell']) ?_; intro w9 h1 h2 h3)
      exact bodyPost_ret (v := .tuple #[.agg zeroCl, .int .i64 405]) (ret_st2 Tryz.results11 _ _ _ _ rfl (load_cl h1 rfl)) rfl (route_bad 405 HB.out (hb3.trans (h2.mono (Nat.le_succ _))))
end Go.Proofs.YtfkmgnldkmpeiaaGreatDoor.W20

namespace Go.Proofs.YtfkmgnldkmpeiaaGreatDoor.W20
open Go Go.RowKit P12 P18 P20 W12

set_option maxHeartbeats 6400000 in
set_option maxRecDepth 100000 in
theorem sameCall_any (c : Cl) (v1 v2 : Value) (w : World) (hm : c.cfields.length ≤ 4611686018427387904) (h1 : W12.Rows v1 c.cfields w) (h2 : W12.Rows v2 c.cfields w) :
    Calls Tryz.prog 12 #[.agg (clC c v1), .agg (clC c v2)] w fun e w' => e = .returned (.bool true) ∧ Below w.heap.size w w' := by
  obtain ⟨o1, p1, rfl, -⟩ := id h1
  obtain ⟨o2, p2, rfl, -⟩ := id h2
  obtain ⟨w1, hw1⟩ : ∃ w1, w1 = (w.alloc (.cells (clC c (.slice o1 c.cfields.length p1)) tCl)).alloc (.cells (clC c (.slice o2 c.cfields.length p2)) tCl) := ⟨_, rfl⟩
  have hb1 : Below w.heap.size w w1 := by rw [hw1]; exact below_then (below_alloc _ _) (below_alloc _ _)
  have ha : StAt tCl w.heap.size (clC c (.slice o1 c.cfields.length p1)) w1 := by rw [hw1]; exact keep_at (new_at w _ _) (below_alloc _ _)
  have hb : StAt tCl (w.heap.size + 1) (clC c (.slice o2 c.cfields.length p2)) w1 := by
    have := new_at (w.alloc (.cells (clC c (.slice o1 c.cfields.length p1)) tCl)) (clC c (.slice o2 c.cfields.length p2)) tCl
    rw [World.size_alloc] at this
    rw [hw1]
    exact this
  have hsm := Same_any (.slice o1 c.cfields.length p1) (.slice o2 c.cfields.length p2) c.cfields w1 hm (h1.keep hb1) (h2.keep hb1)
  have HS := Lib.hid hsm
  rw [hw1] at HS
  clear hsm h1 h2
  go_enter Tryz.func12, Tryz.ntmps12
  go_wp2_with (go_at_call 19; refine HS.out.mono ?_; rintro e w2 ⟨rfl, hb2⟩; refine Hid.out ?_)
  refine Lib.hid ?_
  rw [← hw1] at hb2
  have ha2 := keep_at ha hb2
  have hb22 := keep_at hb hb2
  have hbA := below_then hb1 hb2
  obtain ⟨k0, k1, k2, k3, k4, k5, k6, k7, k8, k9, k10⟩ := cl_cells ha2
  obtain ⟨j0, j1, j2, j3, j4, j5, j6, j7, j8, j9, j10⟩ := cl_cells hb22
  have hl1 := at_lt ha2
  have hl2 := at_lt hb22
  clear ha hb hb1 hb2 ha2 hb22 HS hw1
  go_wp2_with fail
  go_ret
  exact ⟨rfl, below_then (below_then hbA (below_alloc _ _)) (below_alloc _ _)⟩
end Go.Proofs.YtfkmgnldkmpeiaaGreatDoor.W20

namespace Go.Proofs.YtfkmgnldkmpeiaaGreatDoor.W20
open Go Go.RowKit P12 P18 P20 W12

set_option maxHeartbeats 1600000 in
set_option maxRecDepth 100000 in
theorem names_law (w : World) (hE : Env w) (hM : MaxL w) : Calls Tryz.prog 3 #[] w fun e w' => e = .returned (.bool true) ∧ Below w.heap.size w w' := by
  have H0 := Lib.hid (awake_any w hE hM)
  clear hE hM
  go_enter Tryz.func3, Tryz.ntmps3
  go_wp2_with (go_at_call 9; refine H0.out.mono ?_; rintro e w1 ⟨rfl, hb⟩)
  go_ret
  exact ⟨rfl, hb⟩
theorem find_fields {s : By} {c : Cl} {post : Bool} (h : findC s = some (c, post)) : c.cfields = [] := (find_zero h).2
theorem route_fields (r : Rq) : (routeL r).1.cfields.length ≤ 16 := by
  unfold routeL
  cases h : findC r.path with
  | none => simp [zeroC]
  | some x =>
    obtain ⟨c, post⟩ := x
    have h0 := find_fields h
    have hrd := (read_ok r.body).1
    simp only
    split
    · simp [zeroC]
    · split
      · cases rangedL c.most r.query with
        | none => simp [zeroC]
        | some x => simp [h0]
      · split
        · simp [zeroC]
        · split
          · simp only [commandL]
            split
            · simp [zeroC]
            · split
              · simp [zeroC]
              · split
                · simp [zeroC]
                · exact hrd
          · simp [h0]
/-- Route, of the program and of the reference, with what they hand back spelled. -/
theorem Route_g (M Pa Q Y : ByteArray) (v : Value) (cl : Bool) (hs : List Hdr) (c : Cl) (st : Int) (hrt : routeL ⟨M.data.toList, Pa.data.toList, Q.data.toList, hs, Y.data.toList, cl⟩ = (c, st)) (w : World) (hE : Env w) (hM : MaxL w) (hP : Pa.size < 4294967281) (hQ : Q.size ≤ 140737488355328) (hY : Y.size ≤ 140737488355328) (hvl : (getV hs expN).length ≤ 140737488355328) (hn : hs.length ≤ 4611686018427387904) (hv : RowsH v hs w) :
    Calls Tryz.prog 10 #[reqV M Pa Q v Y cl] w fun e w' => ∃ o cp, e = .returned (.tuple #[.agg (clC c (.slice o c.cfields.length cp)), .int .i64 st]) ∧ W12.Rows (.slice o c.cfields.length cp) c.cfields w' ∧ Below w.heap.size w w' := by
  refine (Route_any M Pa Q Y v cl hs w hE hM hP hQ hY hvl hn hv).mono ?_
  rintro e w' ⟨fv, he, hr, hb⟩
  rw [hrt] at he hr
  obtain ⟨o, cp, rfl, h⟩ := hr
  exact ⟨o, cp, he, ⟨o, cp, rfl, h⟩, hb⟩
theorem refRoute_g (M Pa Q Y : ByteArray) (v : Value) (cl : Bool) (hs : List Hdr) (c : Cl) (st : Int) (hrt : routeL ⟨M.data.toList, Pa.data.toList, Q.data.toList, hs, Y.data.toList, cl⟩ = (c, st)) (w : World) (hP : Pa.size ≤ 1000000000000) (hQ : Q.size ≤ 1000000000000) (hY : Y.size ≤ 1000000000000) (hn : hs.length ≤ 4611686018427387904) (hv : RowsH v hs w) :
    Calls Tryz.prog 11 #[reqV M Pa Q v Y cl] w fun e w' => ∃ o cp, e = .returned (.tuple #[.agg (clC c (.slice o c.cfields.length cp)), .int .i64 st]) ∧ W12.Rows (.slice o c.cfields.length cp) c.cfields w' ∧ Below w.heap.size w w' := by
  refine (refRoute_any M Pa Q Y v cl hs w hP hQ hY hn hv).mono ?_
  rintro e w' ⟨fv, he, hr, hb⟩
  rw [hrt] at he hr
  obtain ⟨o, cp, rfl, h⟩ := hr
  exact ⟨o, cp, he, ⟨o, cp, rfl, h⟩, hb⟩
abbrev tRq : TypeId := 25
abbrev rqB (M Pa Q Y : ByteArray) (v : Value) (cl : Bool) : Array Value := #[.string M, .string Pa, .string Q, v, .string Y, .bool cl]
set_option maxHeartbeats 6400000 in
set_option maxRecDepth 100000 in
theorem routes_law (M Pa Q Y : ByteArray) (v : Value) (cl : Bool) (hs : List Hdr) (w : World) (hE : Env w) (hM : MaxL w) (hP : Pa.size < 4294967281) (hQ : Q.size ≤ 1000000000000) (hY : Y.size ≤ 1000000000000) (hvl : (getV hs expN).length ≤ 140737488355328) (hn : hs.length ≤ 4611686018427387904) (hv : RowsH v hs w) :
    Calls Tryz.prog 4 #[reqV M Pa Q v Y cl] w fun e w' => e = .returned (.bool true) ∧ Below w.heap.size w w' := by
  obtain ⟨⟨c, st⟩, hrt⟩ : ∃ P : Cl × Int, routeL ⟨M.data.toList, Pa.data.toList, Q.data.toList, hs, Y.data.toList, cl⟩ = P := ⟨_, rfl⟩
  have h16 := route_fields ⟨M.data.toList, Pa.data.toList, Q.data.toList, hs, Y.data.toList, cl⟩
  rw [hrt] at h16
  simp only at h16
  obtain ⟨w1, hw1⟩ : ∃ w1, w1 = w.alloc (.cells (rqB M Pa Q Y v cl) tRq) := ⟨_, rfl⟩
  have hb1 : Below w.heap.size w w1 := by rw [hw1]; exact below_alloc _ _
  have hq1 : StAt tRq w.heap.size (rqB M Pa Q Y v cl) w1 := by rw [hw1]; exact new_at _ _ _
  have hE1 := hE.keep hb1
  have hM1 := hM.keep hb1
  have HV := Lib.hid (hv.keep hb1)
  have H0 := Lib.hid (awake_any w1 hE1 hM1)
  rw [hw1] at H0
  have H1 := Lib.hid (fun W hE hM hv => Route_g M Pa Q Y v cl hs c st hrt W hE hM hP (by omega) (by omega) hvl hn hv)
  have H2 := Lib.hid (fun W hv => refRoute_g M Pa Q Y v cl hs c st hrt W (by omega) hQ hY hn hv)
  have HW := Lib.hid hw1
  clear hrt hv hE hM hw1
  go_enter Tryz.func4, Tryz.ntmps4
  go_wp2_with (go_at_call 9; refine H0.out.mono ?_; rintro e w2 ⟨rfl, hb2⟩; refine Hid.out ?_)
  refine Lib.hid ?_
  rw [← HW.out] at hb2
  have hq2 := keep_at hq1 hb2
  have hE2 := hE1.keep hb2
  have hM2 := hM1.keep hb2
  have hbA := below_then hb1 hb2
  have HC1 := Lib.hid (H1.out w2 hE2 hM2 (HV.out.keep hb2))
  have HV2 := Lib.hid (HV.out.keep hb2)
  clear hq1 hb1 hE1 hM1 H0 HW HV
  go_wp2_with (first
    | (refine wpList_load_row rfl _ _ rfl w.heap.size rfl _ _ _ _ hq2 Tryz.underlying25 rfl infoRq ?_)
    | (go_at_call 10; refine HC1.out.mono ?_; rintro e w3 ⟨o1, p1, rfl, hr3, hb3⟩; refine Hid.out ?_))
  refine Lib.hid ?_
  have hbn := below_alloc w3 (.cells (clC c (.slice o1 c.cfields.length p1)) tCl)
  have hx3 := new_at w3 (clC c (.slice o1 c.cfields.length p1)) tCl
  have hb4 := below_then hb3 hbn
  have hq4 := keep_at hq2 hb4
  have HC2 := Lib.hid (H2.out _ (HV2.out.keep hb4))
  have HR1 := Lib.hid (hr3.keep hbn)
  have hbB := below_then hbA hb4
  clear hq2 hbA hE2 hM2 HC1 HV2 hr3 hb3 hb4 hbn hb2
  go_wp2_with (first
    | (refine wpList_load_row rfl _ _ rfl w.heap.size rfl _ _ _ _ hq4 Tryz.underlying25 rfl infoRq ?_)
    | (go_at_call 11; refine HC2.out.mono ?_; rintro e w5 ⟨o2, p2, rfl, hr5, hb5⟩; refine Hid.out ?_))
  refine Lib.hid ?_
  have hbn := below_alloc w5 (.cells (clC c (.slice o2 c.cfields.length p2)) tCl)
  have hx5 := new_at w5 (clC c (.slice o2 c.cfields.length p2)) tCl
  have hb6 := below_then hb5 hbn
  have hx4 := keep_at hx3 hb6
  have HSM := Lib.hid (sameCall_any c _ _ _ (by omega) (HR1.out.keep hb6) (hr5.keep hbn))
  have hbC := below_then hbB hb6
  clear hq4 hbB HC2 HR1 hr5 hb5 hb6 hbn hx3
  go_wp2_with (first
    | (refine wpList_load_row rfl _ _ rfl w3.heap.size rfl _ _ _ _ hx4 Tryz.underlying30 rfl infoCl ?_)
    | (refine wpList_load_row rfl _ _ rfl w5.heap.size rfl _ _ _ _ hx5 Tryz.underlying30 rfl infoCl ?_)
    | (go_at_call 12; refine HSM.out.mono ?_; rintro e w7 ⟨rfl, hb7⟩))
  go_ret
  exact ⟨rfl, below_then hbC hb7⟩
end Go.Proofs.YtfkmgnldkmpeiaaGreatDoor.W20

namespace Go.Proofs.YtfkmgnldkmpeiaaGreatDoor.W20
open Go Go.RowKit P12 P18 P20 W12

/-- A request of a method and a path alone. -/
theorem Route_p (M Pa : ByteArray) (c : Cl) (st : Int) (hrt : routeL ⟨M.data.toList, Pa.data.toList, [], [], [], false⟩ = (c, st)) (hcf : c.cfields = []) (w : World) (hE : Env w) (hM : MaxL w) (hP : Pa.size < 4294967281) :
    Calls Tryz.prog 10 #[reqV M Pa ⟨#[]⟩ (.slice none 0 0) ⟨#[]⟩ false] w fun e w' => ∃ o cp, e = .returned (.tuple #[.agg (clC c (.slice o 0 cp)), .int .i64 st]) ∧ Below w.heap.size w w' := by
  refine (Route_g M Pa ⟨#[]⟩ ⟨#[]⟩ (.slice none 0 0) false [] c st hrt w hE hM hP (by decide) (by decide) (by decide) (by decide) (rowsH_nil w)).mono ?_
  rintro e w' ⟨o, cp, he, -, hb⟩
  rw [hcf] at he
  exact ⟨o, cp, he, hb⟩
structure Paths (s t : ByteArray) (A B C : ByteArray) (a b c : Cl) (x y z : Int) : Prop where
  ra : routeL ⟨getM, A.data.toList, [], [], [], false⟩ = (a, x)
  rb : routeL ⟨getM, B.data.toList, [], [], [], false⟩ = (b, y)
  rc : routeL ⟨postM, C.data.toList, [], [], [], false⟩ = (c, z)
  fa : a.cfields = []
  fb : b.cfields = []
  fc : c.cfields = []
theorem clC_kind (c : Cl) (v : Value) : (clC c v)[0]? = some (.int .i64 c.kind) ∧ (clC c v)[6]? = some (bs c.stream) ∧ (clC c v)[1]? = some (bs c.cstream) ∧ (clC c v)[2]? = some (bs c.cname) := ⟨rfl, rfl, rfl, rfl⟩
set_option maxHeartbeats 12000000 in
set_option maxRecDepth 100000 in
/-- The walk up to the three answers, whatever they are. -/
theorem paths_walk (s t S U A B C1 C2 C : ByteArray) (a b c : Cl) (x y z : Int) (w : World) (hE : Env w) (hM : MaxL w) (hs : s.size ≤ 1048576) (ht : t.size ≤ 1048576)
    (hS : S.data.toList = escL s.data.toList) (hU : U.data.toList = escL t.data.toList) (hA : A = ⟨#[47, 115, 47]⟩ ++ S) (hB : B = ⟨#[47, 101, 47]⟩ ++ S) (hC1 : C1 = ⟨#[47, 99, 47]⟩ ++ S) (hC2 : C2 = C1 ++ ⟨#[47]⟩) (hC : C = C2 ++ U)
    (hp : Paths s t A B C a b c x y z)
    (hok : (fitsL s.data.toList = false ∧ x = 404 ∧ y = 404 ∧ z = 404) ∨ (fitsL s.data.toList = true ∧ x = 200 ∧ y = 200 ∧ a.kind = 2 ∧ a.stream = s.data.toList ∧ b.kind = 3 ∧ b.stream = s.data.toList ∧ ((nameL t.data.toList = true ∧ z = 200 ∧ c.cstream = s.data.toList ∧ c.cname = t.data.toList) ∨ (nameL t.data.toList = false ∧ z = 404)))) :
    Calls Tryz.prog 5 #[.string s, .string t] w fun e w' => e = .returned (.bool true) ∧ Below w.heap.size w w' := by
  have hSs : S.size ≤ 3145728 := by rw [← size_data, hS]; have := W12.escL_len s.data.toList; rw [size_data] at this; omega
  have hUs : U.size ≤ 3145728 := by rw [← size_data, hU]; have := W12.escL_len t.data.toList; rw [size_data] at this; omega
  have hAs : A.size ≤ 10000000 := by rw [hA, ByteArray.size_append, show (⟨#[47, 115, 47]⟩ : ByteArray).size = 3 from rfl]; omega
  have hBs : B.size ≤ 10000000 := by rw [hB, ByteArray.size_append, show (⟨#[47, 101, 47]⟩ : ByteArray).size = 3 from rfl]; omega
  have hC1s : C1.size ≤ 4000000 := by rw [hC1, ByteArray.size_append, show (⟨#[47, 99, 47]⟩ : ByteArray).size = 3 from rfl]; omega
  have hC2s : C2.size ≤ 5000000 := by rw [hC2, ByteArray.size_append, show (⟨#[47]⟩ : ByteArray).size = 1 from rfl]; omega
  have hCs : C.size ≤ 10000000 := by rw [hC, ByteArray.size_append]; omega
  have p1 : ∀ W, (Op.stringOp .add ⟨#[47, 115, 47]⟩ S).run Tryz.prog W = .ok (.string A) W := fun W => by rw [hA]; exact run_string_add_sum W _ _ (by rw [show (⟨#[47, 115, 47]⟩ : ByteArray).size = 3 from rfl]; omega)
  have p2 : ∀ W, (Op.stringOp .add ⟨#[47, 101, 47]⟩ S).run Tryz.prog W = .ok (.string B) W := fun W => by rw [hB]; exact run_string_add_sum W _ _ (by rw [show (⟨#[47, 101, 47]⟩ : ByteArray).size = 3 from rfl]; omega)
  have p3 : ∀ W, (Op.stringOp .add ⟨#[47, 99, 47]⟩ S).run Tryz.prog W = .ok (.string C1) W := fun W => by rw [hC1]; exact run_string_add_sum W _ _ (by rw [show (⟨#[47, 99, 47]⟩ : ByteArray).size = 3 from rfl]; omega)
  have p4 : ∀ W, (Op.stringOp .add C1 ⟨#[47]⟩).run Tryz.prog W = .ok (.string C2) W := fun W => by rw [hC2]; exact run_string_add_sum W _ _ (by rw [show (⟨#[47]⟩ : ByteArray).size = 1 from rfl]; omega)
  have p5 : ∀ W, (Op.stringOp .add C2 U).run Tryz.prog W = .ok (.string C) W := fun W => by rw [hC]; exact run_string_add_sum W _ _ (by omega)
  have H0 := Lib.hid (awake_any w hE hM)
  have HA := Lib.hid (fun W hE hM => Route_p ⟨#[71, 69, 84]⟩ A a x hp.ra hp.fa W hE hM (by omega))
  have HB := Lib.hid (fun W hE hM => Route_p ⟨#[71, 69, 84]⟩ B b y hp.rb hp.fb W hE hM (by omega))
  have HC := Lib.hid (fun W hE hM => Route_p ⟨#[80, 79, 83, 84]⟩ C c z hp.rc hp.fc W hE hM (by omega))
  have h1 := fun W => Escape_any s W (by omega)
  have h2 := fun W => Escape_any t W (by omega)
  rw [← hS, bs_data] at h1
  rw [← hU, bs_data] at h2
  have H1 := Lib.hid h1
  have H2 := Lib.hid h2
  have HN := Lib.hid (fun W => Name_any t W)
  have HOK := Lib.hid hok
  have HE := Lib.hid hE
  have HM := Lib.hid hM
  clear hS hU hA hB hC1 hC2 hC hp hok hE hM h1 h2
  go_enter Tryz.func5, Tryz.ntmps5
  go_wp2_with (go_at_call 9; refine H0.out.mono ?_; rintro e w1 ⟨rfl, hb1⟩; refine Hid.out ?_)
  refine Lib.hid ?_
  go_wp2_with (go_at_call 13; refine (H1.out _).mono ?_; rintro e w2 ⟨rfl, hb2⟩; refine Hid.out ?_)
  refine Lib.hid ?_
  have bA := below_then hb1 hb2
  have HA' := Lib.hid (HA.out w2 (HE.out.keep bA) (HM.out.keep bA))
  clear hb1 hb2
  go_wp2_with (go_at_call 10; refine HA'.out.mono ?_; rintro e w3 ⟨o1, q1, rfl, hb3⟩; refine Hid.out ?_)
  refine Lib.hid ?_
  have x1 := new_at w3 (clC a (.slice o1 0 q1)) tCl
  have bB := below_then (below_then bA hb3) (below_alloc w3 (.cells (clC a (.slice o1 0 q1)) tCl))
  have HB' := Lib.hid (HB.out _ (HE.out.keep bB) (HM.out.keep bB))
  clear bA hb3 HA'
  go_wp2_with (go_at_call 10; refine HB'.out.mono ?_; rintro e w4 ⟨o2, q2, rfl, hb4⟩; refine Hid.out ?_)
  refine Lib.hid ?_
  have hal := below_alloc w4 (.cells (clC b (.slice o2 0 q2)) tCl)
  have x1 := keep_at (keep_at x1 hb4) hal
  have x2 := new_at w4 (clC b (.slice o2 0 q2)) tCl
  have bC := below_then (below_then bB hb4) hal
  clear bB hb4 HB'
  go_wp2_with (go_at_call 13; refine (H2.out _).mono ?_; rintro e w5 ⟨rfl, hb5⟩; refine Hid.out ?_)
  refine Lib.hid ?_
  have x1 := keep_at x1 hb5
  have x2 := keep_at x2 hb5
  have bD := below_then bC hb5
  have HC' := Lib.hid (HC.out w5 (HE.out.keep bD) (HM.out.keep bD))
  clear bC hb5 hal
  go_wp2_with (go_at_call 10; refine HC'.out.mono ?_; rintro e w6 ⟨o3, q3, rfl, hb6⟩; refine Hid.out ?_)
  refine Lib.hid ?_
  have hal := below_alloc w6 (.cells (clC c (.slice o3 0 q3)) tCl)
  have x1 := keep_at (keep_at x1 hb6) hal
  have x2 := keep_at (keep_at x2 hb6) hal
  have x3 := new_at w6 (clC c (.slice o3 0 q3)) tCl
  have bE := below_then (below_then bD hb6) hal
  clear bD hb6 HC'
  have HX1 := Lib.hid x1
  have HX2 := Lib.hid x2
  have HX3 := Lib.hid x3
  clear x1 x2 x3 hal H0 HA HB HC H1 H2 HE HM
  go_upto_region 6 with (fail)
  generalize (w6.alloc (.cells (clC c (.slice o3 0 q3)) tCl)) = w7 at *
  rcases HOK.out with ⟨hf, hx, hy, hz⟩ | ⟨hf, hx, hy, ak, as', bk, bs', hn⟩
  · subst hx hy hz
    by_cases h1 : s.size < 1
    · have g1 : (s.size : Int) < 1 := by omega
      clear HX1 HX2 HX3 HOK hf
      go_wp2_with fail
      go_ret
      exact ⟨rfl, bE⟩
    · have g1 : ¬ (s.size : Int) < 1 := by omega
      have g2 : (s.size : Int) > 60 := by
        by_cases h6 : s.size ≤ 60
        · have hne : s.data.toList ≠ [] := by intro h; have := size_data s; rw [h] at this; simp at this; omega
          rw [fitsL_one hne (by rw [size_data]; exact h6)] at hf
          cases hf
        · omega
      clear HX1 HX2 HX3 HOK hf
      go_wp2_with fail
      go_ret
      exact ⟨rfl, bE⟩
  · subst hx hy
    have hf' : s.data.toList ≠ [] ∧ s.data.toList.length ≤ 60 := by
      unfold fitsL at hf
      simpa using hf
    rw [size_data] at hf'
    have hpos : 1 ≤ s.size := by
      rcases Nat.eq_zero_or_pos s.size with h | h
      · exact absurd (empty_list s h) hf'.1
      · exact h
    have g1 : ¬ (s.size : Int) < 1 := by omega
    have g2 : ¬ (s.size : Int) > 60 := by omega
    have a0 : w7.cell? ⟨w3.heap.size, 0, none⟩ = some (.int .i64 2) := by rw [Lib.cell_of_heap HX1.out 0, ← ak]; rfl
    have a6 : w7.cell? ⟨w3.heap.size, 6, none⟩ = some (.string s) := by rw [Lib.cell_of_heap HX1.out 6, ← bs_data s, ← as']; rfl
    have b0 : w7.cell? ⟨w4.heap.size, 0, none⟩ = some (.int .i64 3) := by rw [Lib.cell_of_heap HX2.out 0, ← bk]; rfl
    have b6 : w7.cell? ⟨w4.heap.size, 6, none⟩ = some (.string s) := by rw [Lib.cell_of_heap HX2.out 6, ← bs_data s, ← bs']; rfl
    have hN := HN.out w7
    rcases hn with ⟨hnm, hz, cs, cn⟩ | ⟨hnm, hz⟩
    · subst hz
      rw [hnm] at hN
      have HNN := Lib.hid hN
      have HCS := Lib.hid cs
      have HCN := Lib.hid cn
      clear hN hf hf' hpos ak as' bk bs' hnm cs cn HOK HN
      go_wp2_with (go_at_call 14; refine HNN.out.mono ?_; rintro e w8 ⟨rfl, hb8⟩; refine Hid.out ?_)
      refine Lib.hid ?_
      have c1 : w8.cell? ⟨w6.heap.size, 1, none⟩ = some (.string s) := keep_cell hb8 (by rw [Lib.cell_of_heap HX3.out 1, ← bs_data s, ← HCS.out]; rfl)
      have c2 : w8.cell? ⟨w6.heap.size, 2, none⟩ = some (.string t) := keep_cell hb8 (by rw [Lib.cell_of_heap HX3.out 2, ← bs_data t, ← HCN.out]; rfl)
      go_wp2_with fail
      go_ret
      exact ⟨rfl, below_then bE hb8⟩
    · subst hz
      rw [hnm] at hN
      have HNN := Lib.hid hN
      clear hN hf hf' hpos ak as' bk bs' hnm HOK HN HX3
      go_wp2_with (go_at_call 14; refine HNN.out.mono ?_; rintro e w8 ⟨rfl, hb8⟩; refine Hid.out ?_)
      refine Lib.hid ?_
      go_wp2_with fail
      go_ret
      exact ⟨rfl, below_then bE hb8⟩
theorem paths_law (s t : ByteArray) (w : World) (hE : Env w) (hM : MaxL w) (hs : s.size ≤ 1048576) (ht : t.size ≤ 1048576) :
    Calls Tryz.prog 5 #[.string s, .string t] w fun e w' => e = .returned (.bool true) ∧ Below w.heap.size w w' := by
  obtain ⟨S, hS⟩ : ∃ S : ByteArray, S.data.toList = escL s.data.toList := ⟨⟨(escL s.data.toList).toArray⟩, rfl⟩
  obtain ⟨U, hU⟩ : ∃ U : ByteArray, U.data.toList = escL t.data.toList := ⟨⟨(escL t.data.toList).toArray⟩, rfl⟩
  have eA : (⟨#[47, 115, 47]⟩ ++ S : ByteArray).data.toList = 47 :: 115 :: 47 :: escL s.data.toList := by rw [ByteArray.data_append, Array.toList_append, hS]; rfl
  have eB : (⟨#[47, 101, 47]⟩ ++ S : ByteArray).data.toList = 47 :: 101 :: 47 :: escL s.data.toList := by rw [ByteArray.data_append, Array.toList_append, hS]; rfl
  have eC : (((⟨#[47, 99, 47]⟩ ++ S) ++ ⟨#[47]⟩) ++ U : ByteArray).data.toList = 47 :: 99 :: 47 :: (escL s.data.toList ++ 47 :: escL t.data.toList) := by
    simp only [ByteArray.data_append, Array.toList_append, hS, hU, List.append_assoc]
    rfl
  have rA := route_s s.data.toList
  have rB := route_e s.data.toList
  have rC := route_c s.data.toList t.data.toList
  rw [← eA] at rA
  rw [← eB] at rB
  rw [← eC] at rC
  by_cases hf : fitsL s.data.toList = true
  · rw [if_pos hf] at rA rB
    by_cases hn : nameL t.data.toList = true
    · rw [if_pos (by rw [hf, hn]; rfl)] at rC
      exact paths_walk s t S U _ _ _ _ _ _ _ _ _ _ _ w hE hM hs ht hS hU rfl rfl rfl rfl rfl ⟨rA, rB, rC, rfl, rfl, rfl⟩ (.inr ⟨hf, rfl, rfl, rfl, rfl, rfl, rfl, .inl ⟨hn, rfl, rfl, rfl⟩⟩)
    · rw [if_neg (by rw [hf]; simpa using hn)] at rC
      exact paths_walk s t S U _ _ _ _ _ _ _ _ _ _ _ w hE hM hs ht hS hU rfl rfl rfl rfl rfl ⟨rA, rB, rC, rfl, rfl, rfl⟩ (.inr ⟨hf, rfl, rfl, rfl, rfl, rfl, rfl, .inr ⟨by simpa using hn, rfl⟩⟩)
  · rw [if_neg hf] at rA rB
    rw [if_neg (by simp [hf])] at rC
    exact paths_walk s t S U _ _ _ _ _ _ _ _ _ _ _ w hE hM hs ht hS hU rfl rfl rfl rfl rfl ⟨rA, rB, rC, rfl, rfl, rfl⟩ (.inl ⟨by simpa using hf, rfl, rfl, rfl⟩)
end Go.Proofs.YtfkmgnldkmpeiaaGreatDoor.W20
