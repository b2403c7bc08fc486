/-
  Walks of layer 20: Route, of the program. Conditions: the request's cells hold it; its texts are shorter than the library's counts; the library's error values and its variable MaxLen.
  A plain law of regions: the region's head holds operations that leave ONE VALUE in every world that meets S and end in a world that meets S (loads, calls that only make memory), in whatever order; then its tail is walked as a list.
  Walks of layer 20: Answer, of the program. Conditions: the library's error values; its numbers are ints.
-/
import Derived.Test.YtfkmgnldkmpeiaaGreatDoorGar
import Derived.Test.YtfkmgnldkmpeiaaGreatDoorGau
import Derived.StillTailTactics
import Derived.Test.YtfkmgnldkmpeiaaGreatDoorGan
import Derived.Deep.RegionHeld3

namespace Go.Proofs.YtfkmgnldkmpeiaaGreatDoor.W20
open Go Go.RowKit P12 P18 P20 W12

theorem call_zero {l : List By} {c : Cl} {post : Bool} (h : callL l = some (c, post)) : c.frm = 0 ∧ c.cfields = [] := by
  unfold callL at h
  split at h
  · split at h
    · injection h with h; injection h with h _; subst h; exact ⟨rfl, rfl⟩
    · split at h
      · injection h with h; injection h with h _; subst h; exact ⟨rfl, rfl⟩
      · split at h
        · injection h with h; injection h with h _; subst h; exact ⟨rfl, rfl⟩
        · cases h
  · split at h
    · split at h
      · injection h with h; injection h with h _; subst h; exact ⟨rfl, rfl⟩
      · cases h
    · split at h
      · split at h
        · injection h with h; injection h with h _; subst h; exact ⟨rfl, rfl⟩
        · cases h
      · split at h
        · split at h
          · injection h with h; injection h with h _; subst h; exact ⟨rfl, rfl⟩
          · cases h
        · cases h
  · split at h
    · split at h
      · injection h with h; injection h with h _; subst h; exact ⟨rfl, rfl⟩
      · cases h
    · split at h
      · split at h
        · injection h with h; injection h with h _; subst h; exact ⟨rfl, rfl⟩
        · cases h
      · cases h
  · cases h
theorem find_zero {s : By} {c : Cl} {post : Bool} (h : findC s = some (c, post)) : c.frm = 0 ∧ c.cfields = [] := by
  unfold findC at h
  cases hp : partsU s with
  | none => rw [hp] at h; cases h
  | some l => rw [hp] at h; exact call_zero h
/-- What Route comes to. -/
def RoutePost (r : Rq) (w : World) (e : Ending) (w' : World) : Prop :=
  ∃ fv : Value, e = .returned (.tuple #[.agg (clC (routeL r).1 fv), .int .i64 (routeL r).2]) ∧ W12.Rows fv (routeL r).1.cfields w' ∧ Below w.heap.size w w'
theorem route_bad {r : Rq} {w w' : World} (st : Int) (h : routeL r = (zeroC, st)) (hb : Below w.heap.size w w') : RoutePost r w (.returned (.tuple #[.agg zeroCl, .int .i64 st])) w' :=
  ⟨.slice none 0 0, by rw [h]; rfl, by rw [h]; exact W12.rows_nil _, hb⟩
theorem route_ok {r : Rq} {w w' : World} {c : Cl} {fv : Value} (h : routeL r = (c, 200)) (hr : W12.Rows fv c.cfields w') (hb : Below w.heap.size w w') : RoutePost r w (.returned (.tuple #[.agg (clC c fv), .int .i64 200])) w' :=
  ⟨fv, by rw [h], by rw [h]; exact hr, hb⟩
section
variable {r : Rq} {c : Cl} {post : Bool}
theorem r404 (h : findC r.path = none) : routeL r = (zeroC, 404) := by unfold routeL; rw [h]
theorem r405 (h : findC r.path = some (c, post)) (hm : r.method ≠ methodOf post) : routeL r = (zeroC, 405) := by unfold routeL; rw [h]; simp only; rw [if_pos hm]
theorem rrange (h : findC r.path = some (c, post)) (hm : r.method = methodOf post) (hk : c.kind = 3 ∨ c.kind = 4) : routeL r = match rangedL c.most r.query with | none => (zeroC, 400) | some x => (Dc c x, 200) := by
  unfold routeL; rw [h]; simp only; rw [if_neg (by simp [hm]), if_pos hk]
  cases rangedL c.most r.query <;> rfl
theorem rquery (h : findC r.path = some (c, post)) (hm : r.method = methodOf post) (hk : ¬ (c.kind = 3 ∨ c.kind = 4)) (hq : r.query ≠ []) : routeL r = (zeroC, 400) := by
  unfold routeL; rw [h]; simp only; rw [if_neg (by simp [hm]), if_neg hk, if_pos hq]
theorem rcom (h : findC r.path = some (c, post)) (hm : r.method = methodOf post) (hk : c.kind = 1) (hq : r.query = []) : routeL r = ((commandL r.headers r.body (0, c)).2, (commandL r.headers r.body (0, c)).1) := by
  unfold routeL; rw [h]; simp only; rw [if_neg (by simp [hm]), if_neg (by omega), if_neg (by simp [hq]), if_pos hk]
theorem rplain (h : findC r.path = some (c, post)) (hm : r.method = methodOf post) (hk : ¬ (c.kind = 3 ∨ c.kind = 4)) (hk1 : c.kind ≠ 1) (hq : r.query = []) : routeL r = (c, 200) := by
  unfold routeL; rw [h]; simp only; rw [if_neg (by simp [hm]), if_neg hk, if_neg (by simp [hq]), if_neg hk1]
end
theorem rows_heap {N B : Nat} {v : Value} {l : List Fld} {w w' : World} (h : W12.Rows v l w) (hf : Fresh B v) (hN : N < B) (hk : ∀ k, k ≠ N → w'.heap[k]? = w.heap[k]?) : W12.Rows v l w' := by
  obtain ⟨o, c, rfl, h0⟩ := h
  refine ⟨o, c, rfl, h0.imp id ?_⟩
  rintro ⟨g, off, rfl, h1⟩
  have hg : B ≤ g := hf ⟨g, off, none⟩ _ _ rfl
  have hc : ∀ i, w'.cell? ⟨g, i, none⟩ = w.cell? ⟨g, i, none⟩ := fun i => by simp only [World.cell?, hk g (by omega)]
  refine ⟨g, off, rfl, fun j f hj => ?_⟩
  obtain ⟨a, b, c, d⟩ := h1 j f hj
  exact ⟨(hc _).trans a, (hc _).trans b, (hc _).trans c, (hc _).trans d⟩
theorem one_cl {c : Cl} {fv : Value} (h : fv.oneCell' = true) : (clC c fv).all (·.oneCell') = true := by
  rw [Array.all_eq_true_iff_forall_mem]
  intro v hv
  simp only [List.mem_toArray, List.mem_cons, List.not_mem_nil, or_false] at hv
  rcases hv with rfl | rfl | rfl | rfl | rfl | rfl | rfl | rfl | rfl | rfl | rfl
  all_goals first | exact h | simp [Value.oneCell']
theorem dc_self {c : Cl} (h : c.frm = 0) : Dc c (0, c.most) = c := by
  cases c
  simp only at h
  subst h
  rfl
set_option maxHeartbeats 6400000 in
set_option maxRecDepth 100000 in
theorem Route_any (M Pa Q Y : ByteArray) (v : Value) (cl : Bool) (hs : List Hdr) (w : World) (hE : Env w) (hM : MaxL w) (hP : Pa.size < 4294967281) (hQ : Q.size ≤ 140737488355328) (hY : Y.size ≤ 140737488355328) (hvl : (getV hs expN).length ≤ 140737488355328) (hn : hs.length ≤ 4611686018427387904) (hv : RowsH v hs w) :
    Calls Tryz.prog 10 #[reqV M Pa Q v Y cl] w (RoutePost ⟨M.data.toList, Pa.data.toList, Q.data.toList, hs, Y.data.toList, cl⟩ w) := by
  obtain ⟨o, cp, rfl, hcl⟩ := id hv
  obtain ⟨r, hr⟩ : ∃ r : Rq, r = ⟨M.data.toList, Pa.data.toList, Q.data.toList, hs, Y.data.toList, cl⟩ := ⟨_, rfl⟩
  obtain ⟨w1, hw1⟩ : ∃ w1, w1 = (w.alloc (.cells #[.string M, .string Pa, .string Q, .slice o hs.length cp, .string Y, .bool cl] 25)).alloc (.cells zeroCl tCl) := ⟨_, rfl⟩
  have hb1 : Below w.heap.size w w1 := by rw [hw1]; exact below_then (below_alloc _ _) (below_alloc _ _)
  have hq1 : StAt 25 w.heap.size #[.string M, .string Pa, .string Q, .slice o hs.length cp, .string Y, .bool cl] w1 := by rw [hw1]; exact keep_at (new_at w _ _) (below_alloc _ _)
  have hx1 : StAt tCl (w.heap.size + 1) zeroCl w1 := by
    have := new_at (w.alloc (.cells #[.string M, .string Pa, .string Q, .slice o hs.length cp, .string Y, .bool cl] 25)) zeroCl tCl
    rw [World.size_alloc] at this
    rw [hw1]
    exact this
  have hfd := find_any Pa hP w1 (hE.keep hb1) (hM.keep hb1)
  rw [← hr]
  have hr0 : findC r.path = findC Pa.data.toList := by rw [hr]
  have HR := Lib.hid hr
  have HR0 := Lib.hid hr0
  have HF := Lib.hid hfd
  rw [hw1] at HF
  have HW := Lib.hid hw1
  have HV := Lib.hid hv
  clear hr hr0 hfd hcl hv
  go_enter Tryz.func10, Tryz.ntmps10
  go_wp2_with (go_at_call 29; refine HF.out.mono ?_; rintro e w2 ⟨c, m, ok, rfl, ht, hf, hb2⟩; refine Hid.out ?_)
  refine Lib.hid ?_
  rw [← hw1] at hb2
  have hq2 := keep_at hq1 hb2
  have hx2 := keep_at hx1 hb2
  have hbA := below_then hb1 hb2
  have hal := below_alloc w2 (.cells (clC c (.slice none 0 0)) tCl)
  have hq3 := keep_at hq2 hal
  have hx3 := keep_at hx2 hal
  have hc3 := new_at w2 (clC c (.slice none 0 0)) tCl
  have hb3 := below_then hbA hal
  have hP1 : w.heap.size + 1 < w2.heap.size := at_lt hx2
  have HT := Lib.hid ht
  have HFF := Lib.hid hf
  clear ht hf hq1 hx1 hb1 hb2 hq2 hx2 HF hw1 HW
  go_upto_region 2 with (fail)
  generalize (w2.alloc (.cells (clC c (.slice none 0 0)) tCl)) = w3 at *
  clear hal hbA
  generalize w2.heap.size = P at *
  have hP3 := at_lt hc3
  obtain ⟨q0, q1, q2, q3, q4, q5⟩ := rq_cells hq3
  have k0 : w3.cell? ⟨P, 0, none⟩ = some (.int .i64 c.kind) := Lib.cell_of_heap hc3 0
  cases ok with
  | false =>
    have HB := Lib.hid (r404 (HR0.out.trans (HFF.out rfl)))
    go_wp2_with (refine put_st rfl _ _ _ rfl (w.heap.size + 1) zeroCl rfl rfl hx3 infoCl rfl (by simp [Value.oneCell']) ?_; intro w9 h1 h2 h3)
    exact bodyPost_ret (v := .tuple #[.agg zeroCl, .int .i64 404]) (ret_st2 Tryz.results10 _ _ _ _ rfl (load_cl h1 rfl)) rfl (route_bad 404 HB.out (hb3.trans (h2.mono (Nat.le_succ _))))
  | true =>
    obtain ⟨post, hfc, hm⟩ := HT.out rfl
    have HFC := Lib.hid (HR0.out.trans hfc)
    have HZ := Lib.hid (find_zero hfc)
    by_cases hme : M.data.toList = m.data.toList
    · have HME : Hid (r.method = methodOf post) := Lib.hid (by rw [HR.out]; exact hme.trans hm)
      have hez : (M.toList == m.toList) = true := by rw [Lib.toList_data, Lib.toList_data, hme]; simp
      have hez2 : (M.toList != m.toList) = false := by rw [bne, hez]; rfl
      clear hme hm hfc HT HFF
      have HRG := Lib.hid (ranged_any P c Q w3 (hE.keep hb3) hQ (by rw [dc_self HZ.out.1]; exact hc3))
      by_cases k3 : c.kind = 3
      · have hk3 : (c.kind == 3) = true := by rw [k3]; rfl
        have HK := Lib.hid k3
        clear k3
        have HRR := Lib.hid (rrange HFC.out HME.out (.inl HK.out))
        go_wp2_with (go_at_call 30; refine HRG.out.mono ?_; rintro e w4 ⟨x, rok, rfl, hc4, hb4, ht4, hf4⟩; refine Hid.out ?_)
        refine Lib.hid ?_
        have hx4 := (hb4.block (w.heap.size + 1) (by omega)).trans hx3
        have hb5 := hb3.trans (hb4.mono (by omega : w.heap.size ≤ P))
        have hqq : r.query = Q.data.toList := by rw [HR.out]
        have HQQ := Lib.hid hqq
        have H4T := Lib.hid ht4
        have H4F := Lib.hid hf4
        clear ht4 hf4 hqq hq3 hx3 hc3 hb3 q0 q1 q2 q3 q4 q5 k0
        cases rok with
        | true =>
          have HB : Hid (routeL r = (Dc c x, 200)) := Lib.hid (by rw [HRR.out, HQQ.out, H4T.out rfl])
          go_wp2_with (first
            | (refine wpList_load_row rfl _ _ rfl P rfl _ _ _ _ hc4 Tryz.underlying30 rfl infoCl ?_)
            | (refine put_st rfl _ _ _ rfl (w.heap.size + 1) (clC (Dc c x) (.slice none 0 0)) rfl rfl hx4 infoCl rfl (by simp [Value.oneCell']) ?_; intro w9 h1 h2 h3))
          exact bodyPost_ret (v := .tuple #[.agg (clC (Dc c x) (.slice none 0 0)), .int .i64 200]) (ret_st2 Tryz.results10 _ _ _ _ rfl (load_cl h1 rfl)) rfl (route_ok HB.out (by rw [show (Dc c x).cfields = [] from HZ.out.2]; exact W12.rows_nil _) (hb5.trans (h2.mono (Nat.le_succ _))))
        | false =>
          have HB : Hid (routeL r = (zeroC, 400)) := Lib.hid (by rw [HRR.out, HQQ.out, H4F.out rfl])
          go_wp2_with (refine put_st rfl _ _ _ rfl (w.heap.size + 1) zeroCl rfl rfl hx4 infoCl rfl (by simp [Value.oneCell']) ?_; intro w9 h1 h2 h3)
          exact bodyPost_ret (v := .tuple #[.agg zeroCl, .int .i64 400]) (ret_st2 Tryz.results10 _ _ _ _ rfl (load_cl h1 rfl)) rfl (route_bad 400 HB.out (hb5.trans (h2.mono (Nat.le_succ _))))
      · by_cases k4 : c.kind = 4
        · have hk3 : (c.kind == 3) = false := beq_eq_false_iff_ne.2 k3
          have hk4 : (c.kind == 4) = true := by rw [k4]; rfl
          have HK := Lib.hid k4
          clear k3 k4
          have HRR := Lib.hid (rrange HFC.out HME.out (.inr HK.out))
          go_wp2_with (go_at_call 30; refine HRG.out.mono ?_; rintro e w4 ⟨x, rok, rfl, hc4, hb4, ht4, hf4⟩; refine Hid.out ?_)
          refine Lib.hid ?_
          have hx4 := (hb4.block (w.heap.size + 1) (by omega)).trans hx3
          have hb5 := hb3.trans (hb4.mono (by omega : w.heap.size ≤ P))
          have hqq : r.query = Q.data.toList := by rw [HR.out]
          have HQQ := Lib.hid hqq
          have H4T := Lib.hid ht4
          have H4F := Lib.hid hf4
          clear ht4 hf4 hqq hq3 hx3 hc3 hb3 q0 q1 q2 q3 q4 q5 k0
          cases rok with
          | true =>
            have HB : Hid (routeL r = (Dc c x, 200)) := Lib.hid (by rw [HRR.out, HQQ.out, H4T.out rfl])
            go_wp2_with (first
              | (refine wpList_load_row rfl _ _ rfl P rfl _ _ _ _ hc4 Tryz.underlying30 rfl infoCl ?_)
              | (refine put_st rfl _ _ _ rfl (w.heap.size + 1) (clC (Dc c x) (.slice none 0 0)) rfl rfl hx4 infoCl rfl (by simp [Value.oneCell']) ?_; intro w9 h1 h2 h3))
            exact bodyPost_ret (v := .tuple #[.agg (clC (Dc c x) (.slice none 0 0)), .int .i64 200]) (ret_st2 Tryz.results10 _ _ _ _ rfl (load_cl h1 rfl)) rfl (route_ok HB.out (by rw [show (Dc c x).cfields = [] from HZ.out.2]; exact W12.rows_nil _) (hb5.trans (h2.mono (Nat.le_succ _))))
          | false =>
            have HB : Hid (routeL r = (zeroC, 400)) := Lib.hid (by rw [HRR.out, HQQ.out, H4F.out rfl])
            go_wp2_with (refine put_st rfl _ _ _ rfl (w.heap.size + 1) zeroCl rfl rfl hx4 infoCl rfl (by simp [Value.oneCell']) ?_; intro w9 h1 h2 h3)
            exact bodyPost_ret (v := .tuple #[.agg zeroCl, .int .i64 400]) (ret_st2 Tryz.results10 _ _ _ _ rfl (load_cl h1 rfl)) rfl (route_bad 400 HB.out (hb5.trans (h2.mono (Nat.le_succ _))))
        · have hk3 : (c.kind == 3) = false := beq_eq_false_iff_ne.2 k3
          have hk4 : (c.kind == 4) = false := beq_eq_false_iff_ne.2 k4
          have hk34 : ¬ (c.kind = 3 ∨ c.kind = 4) := by omega
          have HK34 := Lib.hid hk34
          have hqq : r.query = Q.data.toList := by rw [HR.out]
          have HQQ := Lib.hid hqq
          clear HRG k3 k4 hk34 hqq
          by_cases hq : Q.data.toList = []
          · have hqz : Q.toList = [] := by rw [Lib.toList_data]; exact hq
            have HQ0 : Hid (r.query = []) := Lib.hid (by rw [HQQ.out]; exact hq)
            clear hq
            by_cases k1 : c.kind = 1
            · have hk1 : (c.kind == 1) = true := by rw [k1]; rfl
              have HCO := Lib.hid (command_any P c M Pa Q Y (.slice o hs.length cp) cl hs w w3 hE hb3 (by omega) hY hvl hn (HV.out.keep hb3) hc3)
              have hrh : r.headers = hs ∧ r.body = Y.data.toList := by rw [HR.out]; exact ⟨rfl, rfl⟩
              have HRC := Lib.hid (rcom HFC.out HME.out k1 HQ0.out)
              rw [hrh.1, hrh.2] at HRC
              clear k1 hrh
              go_wp2_with (go_at_call 31; refine HCO.out.mono ?_; rintro e w4 ⟨C', fv, st, rfl, hc4, hone, hb4, hcm, hrows⟩; refine Hid.out ?_)
              refine Lib.hid ?_
              have hx4 := (hb4.block (w.heap.size + 1) (by omega)).trans hx3
              have hb5 := hb3.trans (hb4.mono (by omega : w.heap.size ≤ P))
              have HCM := Lib.hid hcm
              have HRO := Lib.hid hrows
              clear hcm hrows hq3 hx3 hc3 hb3 q0 q1 q2 q3 q4 q5 k0
              by_cases hst : st = 200
              · subst hst
                obtain ⟨hro, hfr⟩ := HRO.out rfl
                have HB : Hid (routeL r = (C', 200)) := Lib.hid (by rw [HRC.out, HCM.out]; rfl)
                have HRW := Lib.hid hro
                have HFR := Lib.hid hfr
                clear hro hfr
                go_wp2_with (first
                  | (refine wpList_load_row rfl _ _ rfl P rfl _ _ _ _ hc4 Tryz.underlying30 rfl infoCl ?_)
                  | (refine put_st rfl _ _ _ rfl (w.heap.size + 1) (clC C' fv) rfl rfl hx4 infoCl rfl (one_cl hone) ?_; intro w9 h1 h2 h3))
                exact bodyPost_ret (v := .tuple #[.agg (clC C' fv), .int .i64 200]) (ret_st2 Tryz.results10 _ _ _ _ rfl (load_cl h1 rfl)) rfl (route_ok HB.out (rows_heap HRW.out HFR.out (by omega : w.heap.size + 1 < P + 1) h3) (hb5.trans (h2.mono (Nat.le_succ _))))
              · have HB : Hid (routeL r = (zeroC, st)) := Lib.hid (by rw [HRC.out, HCM.out, if_neg hst])
                have hsz : (st == 200) = false := beq_eq_false_iff_ne.2 hst
                have hsz2 : (st != 200) = true := by rw [bne, hsz]; rfl
                clear hst
                go_wp2_with (refine put_st rfl _ _ _ rfl (w.heap.size + 1) zeroCl rfl rfl hx4 infoCl rfl (by simp [Value.oneCell']) ?_; intro w9 h1 h2 h3)
                exact bodyPost_ret (v := .tuple #[.agg zeroCl, .int .i64 st]) (ret_st2 Tryz.results10 _ _ _ _ rfl (load_cl h1 rfl)) rfl (route_bad st HB.out (hb5.trans (h2.mono (Nat.le_succ _))))
            · have hk1 : (c.kind == 1) = false := beq_eq_false_iff_ne.2 k1
              have HB := Lib.hid (rplain HFC.out HME.out HK34.out k1 HQ0.out)
              clear k1
              go_wp2_with (first
                | (refine wpList_load_row rfl _ _ rfl P rfl _ _ _ _ hc3 Tryz.underlying30 rfl infoCl ?_)
                | (refine put_st rfl _ _ _ rfl (w.heap.size + 1) (clC c (.slice none 0 0)) rfl rfl hx3 infoCl rfl (by simp [Value.oneCell']) ?_; intro w9 h1 h2 h3))
              exact bodyPost_ret (v := .tuple #[.agg (clC c (.slice none 0 0)), .int .i64 200]) (ret_st2 Tryz.results10 _ _ _ _ rfl (load_cl h1 rfl)) rfl (route_ok HB.out (by rw [HZ.out.2]; exact W12.rows_nil _) (hb3.trans (h2.mono (Nat.le_succ _))))
          · have hqz : Q.toList.isEmpty = false := by rw [Lib.toList_data]; simpa using hq
            have HB := Lib.hid (rquery HFC.out HME.out HK34.out (by rw [HQQ.out]; exact hq))
            clear hq
            go_wp2_with (refine put_st rfl _ _ _ rfl (w.heap.size + 1) zeroCl rfl rfl hx3 infoCl rfl (by simp [Value.oneCell']) ?_; intro w9 h1 h2 h3)
            exact bodyPost_ret (v := .tuple #[.agg zeroCl, .int .i64 400]) (ret_st2 Tryz.results10 _ _ _ _ rfl (load_cl h1 rfl)) rfl (route_bad 400 HB.out (hb3.trans (h2.mono (Nat.le_succ _))))
    · have HB := Lib.hid (r405 HFC.out (by rw [HR.out, ← hm]; exact hme))
      have hez : (M.toList == m.toList) = false := by rw [Lib.toList_data, Lib.toList_data]; exact beq_eq_false_iff_ne.2 hme
      have hez2 : (M.toList != m.toList) = true := by rw [bne, hez]; rfl
      clear hme hm hfc HT HFF
      go_wp2_with (refine put_st rfl _ _ _ rfl (w.heap.size + 1) zeroCl rfl rfl hx3 infoCl rfl (by simp [Value.oneCell']) ?_; intro w9 h1 h2 h3)
      exact bodyPost_ret (v := .tuple #[.agg zeroCl, .int .i64 405]) (ret_st2 Tryz.results10 _ _ _ _ rfl (load_cl h1 rfl)) rfl (route_bad 405 HB.out (hb3.trans (h2.mono (Nat.le_succ _))))
end Go.Proofs.YtfkmgnldkmpeiaaGreatDoor.W20

namespace Go
section
variable {P : Program} {ops : Array Oper} {md : Region.Mode} {S : World → Prop}

/-- What a run of one operation comes to: the value, and a world that meets S. -/
def Gives (P : Program) (S : World → Prop) (v : Value) : Result Next → Prop
  | .ok (.value u) w' => u = v ∧ S w'
  | .ok .skip w' => undef = v ∧ S w'
  | .ok (.enter f args) w' => Calls P f args w' (fun e w'' => e = .returned v ∧ S w'')
  | _ => False
/-- In state 'a', in every world that meets S, operation 'o' leaves 'v', and S holds behind it. -/
def YieldsT (P : Program) (ops : Array Oper) (S : World → Prop) (o : Oper) (v : Value) (a : Act) : Prop :=
  (Region.wanted o (yielded ops a.tmps) = true ∧ ∀ w, S w → Gives P S v ((execOp a.eval o).run P w)) ∨ (Region.wanted o (yielded ops a.tmps) = false ∧ v = undef)
theorem YieldsT.of_same {o : Oper} {v : Value} {a a' : Act} (hy : YieldsT P ops S o v a) (he : execOp a'.eval o = execOp a.eval o)
    (hw : Region.wanted o (yielded ops a'.tmps) = Region.wanted o (yielded ops a.tmps)) : YieldsT P ops S o v a' := by
  unfold YieldsT at *
  rw [he, hw]
  exact hy
theorem YieldsT.wpOp {i : Nat} {o : Oper} {v : Value} {a : Act} {Q : Exit → Act → World → Prop} (hi : ops[i]? = some o) (hy : YieldsT P ops S o v a) {K : Act → World → Prop} {w : World} (hS : S w)
    (h : ∀ w', S w' → K (a.put o.dst v) w') : wpOp P ops Q i K a w := by
  unfold Go.wpOp
  simp only [hi]
  rcases hy with ⟨hw, hv⟩ | ⟨hw, rfl⟩
  · simp only [hw, if_true]
    refine .inl ?_
    unfold Oper.wp
    have := hv w hS
    generalize (execOp a.eval o).run P w = r at *
    cases r with
    | ok n w' =>
      cases n <;> simp only [Gives] at this <;> simp only [Oper.upon]
      case value u => obtain ⟨rfl, h1⟩ := this; exact h _ h1
      case skip => obtain ⟨rfl, h1⟩ := this; exact h _ h1
      case enter f args => exact this.mono fun e w'' ⟨he, hw⟩ => by subst he; exact h _ hw
    | halt x w' => simp only [Gives] at this
  · simp only [hw, Bool.false_eq_true, if_false]; exact h _ hS
/-- The head, in whatever order. -/
def wpAnyT (P : Program) (md : Region.Mode) (ops : Array Oper) (S : World → Prop) (n : Nat) (L : Array Bool → Act → Prop) : Nat → Array Bool → Act → Prop
  | 0, listed, a => L listed a
  | f + 1, listed, a => Region.ready md ops listed ≠ [] ∧ ∀ i ∈ Region.ready md ops listed, i < n ∧ ∃ o v, ops[i]? = some o ∧ YieldsT P ops S o v a ∧ wpAnyT P md ops S n L f (listed.setIfInBounds i true) (a.put o.dst v)
theorem wpAny_of_tame {n g : Nat} {L : Array Bool → Act → Prop} {Q : Exit → Act → World → Prop} (hL : ∀ listed a, L listed a → ∀ w, S w → wpAny P md ops Q g listed a w) :
    ∀ (f : Nat) (listed : Array Bool) (a : Act), wpAnyT P md ops S n L f listed a → ∀ w, S w → wpAny P md ops Q (f + g) listed a w
  | 0, listed, a, h, w, hw => by rw [Nat.zero_add]; exact hL _ _ h w hw
  | f + 1, listed, a, h, w, hw => by
    rw [show f + 1 + g = (f + g) + 1 by omega]
    refine ⟨fun h0 => absurd h0 h.1, fun i hi => ?_⟩
    obtain ⟨-, o, v, ho, hy, hK⟩ := h.2 i hi
    exact hy.wpOp ho hw fun w' hw' => wpAny_of_tame hL f _ _ hK w' hw'
theorem wpAnyT_first {n i : Nat} {oi : Oper} {v : Value} {L : Array Bool → Act → Prop} (hi : ops[i]? = some oi) (hsel : ∀ (j : Nat) (o : Oper) cs b, ops[j]? = some o → o.op ≠ .select cs b)
    (hs : Region.sinkB md ops n = true) (hc : Region.chainB md ops n = true) (hn : n < ops.size) (hin : i < n)
    (hdone : ∀ listed a, L listed a → ∀ j ∈ Region.ready md ops listed, n ≤ j) :
    ∀ (f : Nat) (listed : Array Bool) (a : Act), HeadInv md ops n listed →
      (∀ j oj, ops[j]? = some oj → j ≠ i → listed.getD j true = false → (∀ e ∈ oj.after, Region.binds md e = true → e.on ≠ i) → oi.apart ops oj = true) →
      i ∈ Region.ready md ops listed → YieldsT P ops S oi v a →
      wpAnyT P md ops S n L f (listed.setIfInBounds i true) (a.put oi.dst v) → wpAnyT P md ops S n L (f + 1) listed a := by
  intro f
  induction f with
  | zero =>
    intro listed a inv _ hr hy H
    have hun := (mem_ready.1 hr).1
    refine ⟨fun h => (by rw [h] at hr; cases hr), fun j hj => ?_⟩
    have hjn : j < n := by
      rcases Nat.lt_or_ge j n with h | h
      · exact h
      · exact absurd hj (tail_waits hs hc hn inv _ i rfl hin hun j h)
    refine ⟨hjn, ?_⟩
    by_cases hji : j = i
    · subst hji; exact ⟨oi, v, hi, hy, H⟩
    · have := hdone _ _ H j (ready_mono hj hji)
      omega
  | succ f ih =>
    intro listed a inv hfree hr hy H
    have hun := (mem_ready.1 hr).1
    refine ⟨fun h => (by rw [h] at hr; cases hr), fun j hj => ?_⟩
    have hjn : j < n := by
      rcases Nat.lt_or_ge j n with h | h
      · exact h
      · exact absurd hj (tail_waits hs hc hn inv _ i rfl hin hun j h)
    refine ⟨hjn, ?_⟩
    by_cases hji : j = i
    · subst hji; exact ⟨oi, v, hi, hy, H⟩
    · obtain ⟨-, oj', u, hoj', hyj, hK⟩ := H.2 j (ready_mono hj hji)
      obtain ⟨hjun, oj, hoj, hall⟩ := mem_ready.1 hj
      have : oj' = oj := Option.some.inj (hoj'.symm.trans hoj)
      subst this
      have hnot : ∀ e ∈ oj'.after, Region.binds md e = true → e.on ≠ i := fun e he hb heq => by
        have h1 := hall e he hb
        rw [heq, getD_both hun] at h1
        cases h1
      obtain ⟨h1, h2, h3⟩ := Oper.apart_spec (hfree j oj' hoj hji hjun hnot)
      have hy1 : YieldsT P ops S oj' u a := hyj.of_same (execOp_put oj' (hsel j oj' · · hoj) a oi.dst v h1).symm (wanted_put oj' a oi.dst v h1).symm
      have hy2 : YieldsT P ops S oi v (a.put oj'.dst u) := hy.of_same (execOp_put oi (hsel i oi · · hi) a oj'.dst u h3) (wanted_put oi a oj'.dst u h3)
      have hfree' : ∀ k ok, ops[k]? = some ok → k ≠ i → (listed.setIfInBounds j true).getD k true = false →
          (∀ e ∈ ok.after, Region.binds md e = true → e.on ≠ i) → oi.apart ops ok = true := fun k ok hk hki hun hno => by
        refine hfree k ok hk hki ?_ hno
        by_cases hjk : j = k
        · subst hjk; exact hjun
        · rw [getD_set_ne true hjk] at hun; exact hun
      refine ⟨oj', u, hoj, hy1, ih (listed.setIfInBounds j true) _ (inv.set hj hjn) hfree' (ready_mono hr (Ne.symm hji)) hy2 ?_⟩
      rw [Array.setIfInBounds_comm _ _ hji, ← Act.put_comm a v u h2]
      exact hK
/-- The head as a list. -/
def wpTame (P : Program) (ops : Array Oper) (S : World → Prop) (L : Act → Prop) : List Oper → Act → Prop
  | [], a => L a
  | o :: l, a => ∃ v, YieldsT P ops S o v a ∧ wpTame P ops S L l (a.put o.dst v)
theorem wpAnyT_lex {n g : Nat} {Lq : Act → Prop} (hsel : Region.noSelect ops = true) (hs : Region.sinkB md ops n = true) (hc : Region.chainB md ops n = true) (hn : n < ops.size) :
    ∀ (l : List Oper) (k : Nat) (listed : Array Bool) (a : Act), (∀ j, j < l.length → l[j]? = ops[k + j]?) → k + l.length = n → HeadInv md ops n listed →
    Region.lexHead md ops g l.length k listed = true → wpTame P ops S Lq l a →
    wpAnyT P md ops S n (fun listed' a' => Region.seqB md ops g n listed' = true ∧ Lq a') l.length listed a
  | [], k, listed, a, _, hk, _, hB, h => by
    have : k = n := by simpa using hk
    subst this
    exact ⟨by simpa [Region.lexHead] using hB, h⟩
  | o :: l, k, listed, a, hl, hk, inv, hB, h => by
    have h0 : ops[k]? = some o := by simpa using (hl 0 (by simp)).symm
    simp only [List.length_cons, Region.lexHead, Bool.and_eq_true] at hB
    obtain ⟨⟨hr, hf⟩, hB'⟩ := hB
    have hkn : k < n := by simp only [List.length_cons] at hk; omega
    have hr' : k ∈ Region.ready md ops listed := by simpa using hr
    obtain ⟨v, hy, hK⟩ := h
    exact wpAnyT_first h0 (Region.noSelect_spec hsel) hs hc hn hkn (fun listed' a' hL => seqB_ready hL.1) l.length listed a inv (Region.free_spec h0 hf) hr' hy
      (wpAnyT_lex hsel hs hc hn l (k + 1) _ _ (fun j hj => by have := hl (j + 1) (by simp; omega); simpa [Nat.add_assoc, Nat.add_comm 1 j] using this) (by simp only [List.length_cons] at hk; omega) (inv.set hr' hkn) hB' hK)
/-- **THE LAW**: a region that draws its order: its first n operations tame, the others a chain behind them. -/
theorem wp_region_tame {id : Nat} {Q : Exit → Act → World → Prop} {a : Act} {w : World} {l : List Oper} (n : Nat) (S : World → Prop) (hm : P.follows .mixedOrders = true) (hB : Region.lexTailB .any l.toArray n = true)
    (hS : S { w with drawn := w.drawn + 1 }) (h : wpTame P l.toArray S (fun a' => ∀ w', S w' → wpList P l.toArray Q (l.drop n) a' w') (l.take n) a) : (Code.region id l.toArray true).wp P Q a w := by
  simp only [Region.lexTailB, Bool.and_eq_true, decide_eq_true_eq] at hB
  obtain ⟨⟨⟨⟨hsel, hn⟩, hs⟩, hc⟩, hlex⟩ := hB
  have hn' : n < l.length := by simpa using hn
  have htl : (l.take n).length = n := by simp; omega
  have hdl : (l.drop n).length = l.toArray.size - n := by simp
  have inv0 : HeadInv .any l.toArray n (Array.replicate l.toArray.size false) :=
    ⟨by simp, fun j oj _ hl => (by rw [getD_replicate_false] at hl; cases hl), fun t _ ht => getD_in (by simpa using ht) (getD_replicate_false _ _)⟩
  have H := wpAnyT_lex (md := .any) (g := l.toArray.size - n) hsel hs hc hn (l.take n) 0 _ a (fun j hj => by
    have hj' : j < n := by rw [htl] at hj; exact hj
    simp [hj']) (by simpa using htl) inv0 (by rw [htl]; exact hlex) h
  refine wp_region_any hm ?_
  have := wpAny_of_tame (Q := Q) (g := l.toArray.size - n) (fun listed a' hL w' hw' => by
    have := wpAny_of_seq (md := .any) (Q' := Q) (l.drop n) n listed a' w' (fun j => by simp [List.getElem?_drop]) (by rw [hdl]; exact hL.1) (hL.2 w' hw')
    rwa [hdl] at this) _ _ _ H _ hS
  rw [htl, show n + (l.toArray.size - n) = l.toArray.size by omega] at this
  exact this
end
end Go

namespace Go.Proofs.YtfkmgnldkmpeiaaGreatDoor.W20
open Go Go.RowKit P12 P18 P20 W12

abbrev tDn : TypeId := 60
abbrev dnC (k f p c : Int) (R : ByteArray) (e : Int) : Array Value := #[.int .i64 k, .int .i64 f, .int .i64 p, .int .i64 c, .string R, .int .i64 e]
theorem cellsF_at : ∀ (l : List Fld) (j : Nat) (f : Fld), l[j]? = some f → ∀ k, k < 4 → (cellsF l)[j * 4 + k]? = (cellsF1 f)[k]?
  | [], _, _, h, _, _ => by simp at h
  | x :: l, 0, f, h, k, hk => by
    have : x = f := by simpa using h
    subst this
    show (cellsF1 x ++ cellsF l)[0 * 4 + k]? = _
    rw [List.getElem?_append_left (by show 0 * 4 + k < 4; omega), Nat.zero_mul, Nat.zero_add]
  | x :: l, j + 1, f, h, k, hk => by
    show (cellsF1 x ++ cellsF l)[(j + 1) * 4 + k]? = _
    rw [List.getElem?_append_right (by show 4 ≤ (j + 1) * 4 + k; omega), show (j + 1) * 4 + k - (cellsF1 x).length = j * 4 + k by show (j + 1) * 4 + k - 4 = _; omega]
    exact cellsF_at l j f (by simpa using h) k hk
/-- A block that holds a list's cells. -/
theorem rows_lit {N : Nat} {l : List Fld} {w : World} {t : TypeId} (h : StAt t N (cellsF l).toArray w) (c : Nat) : W12.Rows (.slice (some ⟨N, 0, none⟩) l.length c) l w := by
  refine ⟨_, c, rfl, .inr ⟨N, 0, rfl, fun j f hj => ?_⟩⟩
  have h1 := fun k hk => (Lib.cell_of_heap h (j * 4 + k)).trans ((List.getElem?_toArray ..).trans (cellsF_at l j f hj k hk))
  rw [Nat.zero_add]
  exact ⟨h1 0 (by decide), h1 1 (by decide), h1 2 (by decide), h1 3 (by decide)⟩
set_option maxHeartbeats 3200000 in
set_option maxRecDepth 100000 in
theorem answer_done (k f p c : Int) (R : ByteArray) (e : Int) (w : World) (hE : Env w) (hk : k = 1) (hf : -9223372036854775808 ≤ f ∧ f ≤ 9223372036854775807) (hp : -9223372036854775808 ≤ p ∧ p ≤ 9223372036854775807) (hc : -9223372036854775808 ≤ c ∧ c ≤ 9223372036854775807) (X : ByteArray) (hX : X.data.toList = recordL [numF nCount c, numF nFirst f, numF nPos p]) :
    Calls Tryz.prog 22 #[.agg (dnC k f p c R e)] w fun e w' => e = .returned (.agg #[.int .i64 200, .string X, .bool false]) ∧ Below w.heap.size w w' := by
  subst hk
  go_enter Tryz.func22, Tryz.ntmps22
  go_wp2_with fail
  have hx := new_at w (dnC 1 f p c R e) tDn
  obtain ⟨w1, hw1⟩ : ∃ w1, w1 = (w.alloc (.cells (dnC 1 f p c R e) tDn)).alloc (.cells #[.int .i64 0, .string ⟨#[]⟩, .bool false] 40) := ⟨_, rfl⟩
  have hx0 := keep_at hx (below_alloc (w.alloc (.cells (dnC 1 f p c R e) tDn)) (.cells #[.int .i64 0, .string ⟨#[]⟩, .bool false] 40))
  rw [← hw1] at hx0 ⊢
  have hy0 : StAt 40 (w.heap.size + 1) #[.int .i64 0, .string ⟨#[]⟩, .bool false] w1 := by
    have h := new_at (w.alloc (.cells (dnC 1 f p c R e) tDn)) #[.int .i64 0, .string ⟨#[]⟩, .bool false] 40
    rw [← hw1, show (w.alloc (.cells (dnC 1 f p c R e) tDn)).heap.size = w.heap.size + 1 from Array.size_push ..] at h
    exact h
  have hE1 : Env w1 := by rw [hw1]; exact (hE.new _).new _
  have hb1 : Below w.heap.size w w1 := by rw [hw1]; exact below_then (below_alloc w _) (below_alloc _ _)
  clear hx hw1
  refine wp_region_tame 9 (fun W => StAt tDn w.heap.size (dnC 1 f p c R e) W ∧ Below w1.heap.size w1 W) (by kernel_rfl) (by kernel_rfl) ⟨hx0, (Below.refl _ w1).drew⟩ ?_
  simp only [List.take_succ_cons, List.take_zero, List.drop_succ_cons, List.drop_zero]
  refine Exists.intro (.pointer (some ⟨w.heap.size, 3, none⟩)) (And.intro (Or.inl (And.intro (by rfl) (fun W hS => ?tg1))) ?_)
  case tg1 =>
    go_simp
    exact ⟨rfl, hS⟩
  simp only [Act.put, List.setIfInBounds_toArray, List.set_cons_zero, List.set_cons_succ]
  refine Exists.intro (.int .i64 c) (And.intro (Or.inl (And.intro (by rfl) (fun W hS => ?tg2))) ?_)
  case tg2 =>
    have h1 := Lib.cell_of_heap hS.1 3
    have h2 := Lib.frozen_of_heap hS.1 3
    go_simp
    exact ⟨rfl, hS⟩
  simp only [Act.put, List.setIfInBounds_toArray, List.set_cons_zero, List.set_cons_succ]
  refine Exists.intro (numV ⟨#[99, 111, 117, 110, 116]⟩ c) (And.intro (Or.inl (And.intro (by rfl) (fun W hS => ?tg3))) ?_)
  case tg3 =>
    go_simp
    refine (num_any _ _ _).mono ?_
    rintro e w' ⟨rfl, hb⟩
    exact ⟨rfl, keep_at hS.1 hb, hS.2.trans (hb.mono hS.2.size)⟩
  simp only [Act.put, List.setIfInBounds_toArray, List.set_cons_zero, List.set_cons_succ]
  refine Exists.intro (.pointer (some ⟨w.heap.size, 1, none⟩)) (And.intro (Or.inl (And.intro (by rfl) (fun W hS => ?tg4))) ?_)
  case tg4 =>
    go_simp
    exact ⟨rfl, hS⟩
  simp only [Act.put, List.setIfInBounds_toArray, List.set_cons_zero, List.set_cons_succ]
  refine Exists.intro (.int .i64 f) (And.intro (Or.inl (And.intro (by rfl) (fun W hS => ?tg5))) ?_)
  case tg5 =>
    have h1 := Lib.cell_of_heap hS.1 1
    have h2 := Lib.frozen_of_heap hS.1 1
    go_simp
    exact ⟨rfl, hS⟩
  simp only [Act.put, List.setIfInBounds_toArray, List.set_cons_zero, List.set_cons_succ]
  refine Exists.intro (numV ⟨#[102, 105, 114, 115, 116]⟩ f) (And.intro (Or.inl (And.intro (by rfl) (fun W hS => ?tg6))) ?_)
  case tg6 =>
    go_simp
    refine (num_any _ _ _).mono ?_
    rintro e w' ⟨rfl, hb⟩
    exact ⟨rfl, keep_at hS.1 hb, hS.2.trans (hb.mono hS.2.size)⟩
  simp only [Act.put, List.setIfInBounds_toArray, List.set_cons_zero, List.set_cons_succ]
  refine Exists.intro (.pointer (some ⟨w.heap.size, 2, none⟩)) (And.intro (Or.inl (And.intro (by rfl) (fun W hS => ?tg7))) ?_)
  case tg7 =>
    go_simp
    exact ⟨rfl, hS⟩
  simp only [Act.put, List.setIfInBounds_toArray, List.set_cons_zero, List.set_cons_succ]
  refine Exists.intro (.int .i64 p) (And.intro (Or.inl (And.intro (by rfl) (fun W hS => ?tg8))) ?_)
  case tg8 =>
    have h1 := Lib.cell_of_heap hS.1 2
    have h2 := Lib.frozen_of_heap hS.1 2
    go_simp
    exact ⟨rfl, hS⟩
  simp only [Act.put, List.setIfInBounds_toArray, List.set_cons_zero, List.set_cons_succ]
  refine Exists.intro (numV ⟨#[112, 111, 115]⟩ p) (And.intro (Or.inl (And.intro (by rfl) (fun W hS => ?tg9))) ?_)
  case tg9 =>
    go_simp
    refine (num_any _ _ _).mono ?_
    rintro e w' ⟨rfl, hb⟩
    exact ⟨rfl, keep_at hS.1 hb, hS.2.trans (hb.mono hS.2.size)⟩
  simp only [Act.put, List.setIfInBounds_toArray, List.set_cons_zero, List.set_cons_succ]
  intro W hS
  go_wp2_with fail
  have hr := rows_lit (l := [numF nCount c, numF nFirst f, numF nPos p]) (new_at W #[.string ⟨#[99, 111, 117, 110, 116]⟩, .bool false, .int .i64 c, .string ⟨#[]⟩, .string ⟨#[102, 105, 114, 115, 116]⟩, .bool false, .int .i64 f, .string ⟨#[]⟩, .string ⟨#[112, 111, 115]⟩, .bool false, .int .i64 p, .string ⟨#[]⟩] 54) 3
  have hE2 := (hE1.keep hS.2).new (.cells #[.string ⟨#[99, 111, 117, 110, 116]⟩, .bool false, .int .i64 c, .string ⟨#[]⟩, .string ⟨#[102, 105, 114, 115, 116]⟩, .bool false, .int .i64 f, .string ⟨#[]⟩, .string ⟨#[112, 111, 115]⟩, .bool false, .int .i64 p, .string ⟨#[]⟩] 54)
  have hb2 := below_then hS.2 (below_alloc W (.cells #[.string ⟨#[99, 111, 117, 110, 116]⟩, .bool false, .int .i64 c, .string ⟨#[]⟩, .string ⟨#[102, 105, 114, 115, 116]⟩, .bool false, .int .i64 f, .string ⟨#[]⟩, .string ⟨#[112, 111, 115]⟩, .bool false, .int .i64 p, .string ⟨#[]⟩] 54))
  refine (record_any _ _ X hX _ hE2 hr (by simp) ?_).mono ?_
  · intro x hx
    simp only [List.mem_cons, List.not_mem_nil, or_false] at hx
    rcases hx with rfl | rfl | rfl
    · exact hc
    · exact hf
    · exact hp
  rintro e w2 ⟨rfl, hb3⟩
  have hb4 := below_then hb2 hb3
  have hy2 := keep_at hy0 hb4
  have hb5 := below_then hb1 hb4
  go_wp2_with (refine put_st rfl _ _ _ rfl (w.heap.size + 1) #[.int .i64 200, .string X, .bool false] rfl rfl hy2 infoRp rfl (by simp [Value.oneCell']) ?_; intro w9 h1 h2 h3)
  exact bodyPost_ret (v := .agg #[.int .i64 200, .string X, .bool false]) (ret_st1 Tryz.results22 _ _ _ _ rfl (load_rp h1 rfl)) rfl ⟨rfl, hb5.trans (h2.mono (Nat.le_succ _))⟩
end Go.Proofs.YtfkmgnldkmpeiaaGreatDoor.W20
