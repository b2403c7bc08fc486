/-
  Walks of layer 18: the reference's chunks. Conditions: the text is within Go's own limit, the place stands within it.
  Layer 18: what reading a request hands back, as a value; plain laws for the walks of Parse. No condition.
  Walks of layer 18: the reference's Parse. Condition: the text is within Go's own limit.
-/
import Derived.Test.YtcgeiimihihhpaaGreatDoorGh
import Derived.Test.YtcgeiimihihhpaaGreatDoorGf
import Derived.Deep.Onto

namespace Go.Proofs.YtcgeiimihihhpaaGreatDoor.W18
open Go Go.RowKit P12 P18

/-- What the reference's chunks hand back. -/
def ChunkPost (s : ByteArray) (R : Res P12.By) (w : World) (e : Ending) (w' : World) : Prop :=
  Below w.heap.size w w' ∧ ∃ (X : ByteArray) (n st : Int), e = .returned (.tuple #[.string X, .int .i64 n, .int .i64 st]) ∧ match R with
    | .stop t => st = t
    | .ok x r => X.data.toList = x ∧ st = 200 ∧ ∃ j : Nat, j ≤ s.size ∧ n = j ∧ r = s.data.toList.drop j
theorem chk_stop {s : ByteArray} {R : Res P12.By} {w w' : World} {X : ByteArray} {n t : Int} (h : R = .stop t) (hB : Below w.heap.size w w') : ChunkPost s R w (.returned (.tuple #[.string X, .int .i64 n, .int .i64 t])) w' := by
  subst h
  exact ⟨hB, X, n, t, rfl, rfl⟩
theorem chk_ok {s : ByteArray} {R : Res P12.By} {w w' : World} {X : ByteArray} {j : Nat} (h : R = .ok X.data.toList (s.data.toList.drop j)) (hj : j ≤ s.size) (hB : Below w.heap.size w w') : ChunkPost s R w (.returned (.tuple #[.string X, .int .i64 j, .int .i64 200])) w' := by
  subst h
  exact ⟨hB, X, j, 200, rfl, rfl, rfl, j, hj, rfl, rfl⟩
theorem get_off {s : ByteArray} {j n : Nat} {c : UInt8} (h : (s.data.toList.drop j)[n]? = some c) : s.data.toList[j + n]? = some c := by rw [← h, List.getElem?_drop]
theorem line_ne {s : P12.By} {t : Int} (h : lineL s = .stop t) : t ≠ 200 := told_ne (tells_line _ _ h)
set_option maxHeartbeats 8000000 in
set_option maxRecDepth 100000 in
theorem refChunks_any (s : ByteArray) (j0 : Nat) (hj0 : j0 ≤ s.size) (hs : s.size ≤ 281474976710656) (w : World) :
    Calls Tryz.prog 27 #[.string s, .int .i64 j0] w (ChunkPost s (chunksGo 1000 (s.data.toList.drop j0)) w) := by
  obtain ⟨R, hR⟩ : ∃ R, R = chunksGo 1000 (s.data.toList.drop j0) := ⟨_, rfl⟩
  rw [← hR]
  have HR := Lib.hid (show R = (chunksGo (1000 - (⟨#[]⟩ : ByteArray).data.toList.length) (s.data.toList.drop j0)).map ((⟨#[]⟩ : ByteArray).data.toList ++ ·) by
    rw [hR]
    show chunksGo 1000 _ = (chunksGo 1000 _).map ([] ++ ·)
    cases chunksGo 1000 (s.data.toList.drop j0) <;> simp [Res.map])
  clear hR
  go_enter Tryz.func27, Tryz.ntmps27
  go_wp2_with fail
  go_loopw [1, 7] (fun a b wr => ∃ (j : Nat) (A : ByteArray), a = .int .i64 j ∧ b = .string A ∧ j ≤ s.size ∧ A.size ≤ 1000 ∧ Hid (R = (chunksGo (1000 - A.data.toList.length) (s.data.toList.drop j)).map (A.data.toList ++ ·)) ∧ Below w.heap.size w wr) (fun a _ _ => s.size - (intOf a).toNat)
  case atStart => exact ⟨j0, ⟨#[]⟩, rfl, rfl, hj0, by decide, HR, Below.refl _ _⟩
  case round =>
    clear HR
    obtain ⟨j, A, rfl, rfl, hj, hA, HR, hB⟩ := hrel
    have hcon := fun W => refLine_any s j hj hs W
    cases hl : lineL (s.data.toList.drop j) with
    | stop t =>
      have hv := HR.out
      rw [chunks_stop hl] at hv
      have HV := Lib.hid (show R = .stop t from hv)
      have hne := line_ne hl
      have z : ((t : Int) == 200) = false := beq_eq_false_iff_ne.2 hne
      rw [hl] at hcon
      simp only [lineV] at hcon
      clear hv HR hl
      go_wp2_with (go_at_call 22; (with_reducible refine (hcon _).mono ?_); rintro e w2 ⟨rfl, rfl⟩)
      go_ret3
      exact chk_stop HV.out hB
    | ok l r =>
      obtain ⟨j1, hkj, hjd, hrj, hje⟩ := line_ok_at hj hl
      have hll : l.length ≤ 256 := (P18.line_ok.1 hl).2.1
      obtain ⟨L, hL⟩ : ∃ L : ByteArray, L = ⟨l.toArray⟩ := ⟨_, rfl⟩
      rw [hl] at hcon
      simp only [lineV, bs] at hcon
      rw [← hje, ← hL] at hcon
      have hLd : L.data.toList = l := by rw [hL]
      have hLs : L.size ≤ 256 := by rw [← size_data, hLd]; exact hll
      have hsz := fun W => refSize_any L (by omega) W
      rw [hLd] at hsz
      have HL := Lib.hid hl
      clear hl hL hje hll
      cases hc : chunkSize l with
      | none =>
        have hv := HR.out
        rw [chunks_bad HL.out hc] at hv
        have HV := Lib.hid (show R = .stop 400 from hv)
        rw [hc] at hsz
        simp only [sizeV] at hsz
        clear hv HR HL hc
        go_wp2_with (first
          | (go_at_call 22; (with_reducible refine (hcon _).mono ?_); rintro e w2 ⟨rfl, rfl⟩)
          | (go_at_call 60; (with_reducible refine (hsz _).mono ?_); rintro e w3 ⟨rfl, hb3⟩))
        go_ret3
        exact chk_stop HV.out (below_then hB hb3)
      | some n =>
        have hn65 := chunkSize_lt hc
        rw [hc] at hsz
        simp only [sizeV] at hsz
        have HC := Lib.hid hc
        clear hc
        have hAl : A.data.toList.length = A.size := size_data A
        have n0 : ¬ (n : Int) < 0 := by omega
        have i1 : IntKind.i64.wrap ((A.size : Int) + n) = (A.size : Int) + n := by rw [IntKind.wrap_i64]; omega
        go_wp2_with (first
          | (go_at_call 22; (with_reducible refine (hcon _).mono ?_); rintro e w2 ⟨rfl, rfl⟩)
          | (go_at_call 60; (with_reducible refine (hsz _).mono ?_); rintro e w3 ⟨rfl, hb3⟩; refine Hid.out ?_))
        refine Lib.hid ?_
        have hB3 := below_then hB hb3
        clear hcon hsz hB hb3
        by_cases hlim : 1000 - A.size < n
        · have z : (1000 : Int) < (A.size : Int) + n := by omega
          have hv := HR.out
          rw [chunks_413 HL.out HC.out (by rw [hAl]; exact hlim)] at hv
          have HV := Lib.hid (show R = .stop 413 from hv)
          clear hv HR HL HC
          go_wp2_with fail
          go_ret3
          exact chk_stop HV.out hB3
        · have z : ¬ (1000 : Int) < (A.size : Int) + n := by omega
          by_cases hn0 : n = 0
          · subst hn0
            have hv := HR.out
            rw [chunks_last HL.out HC.out, hrj] at hv
            have hcon2 := fun W => refLine_any s j1 hjd hs W
            cases hl2 : lineL (s.data.toList.drop j1) with
            | stop t =>
              rw [hl2] at hv hcon2
              simp only [lineV] at hcon2
              have HV := Lib.hid (show R = .stop t from hv)
              have hne := line_ne hl2
              have z2' : ((t : Int) == 200) = false := beq_eq_false_iff_ne.2 hne
              clear hv HR hl2 HL HC
              go_wp2_with (go_at_call 22; (with_reducible refine (hcon2 _).mono ?_); rintro e w2 ⟨rfl, rfl⟩)
              go_ret3
              exact chk_stop HV.out hB3
            | ok l2 r2 =>
              rw [hl2] at hv hcon2
              simp only [lineV, bs] at hcon2
              obtain ⟨j2, hkj2, hjd2, hrj2, hje2⟩ := line_ok_at hjd hl2
              obtain ⟨L2, hL2⟩ : ∃ L : ByteArray, L = ⟨l2.toArray⟩ := ⟨_, rfl⟩
              rw [← hje2, ← hL2] at hcon2
              have hLd2 : L2.data.toList = l2 := by rw [hL2]
              by_cases h20 : l2 = []
              · have g20 : L2.toList = [] := by rw [Lib.toList_data, hLd2]; exact h20
                have HV := Lib.hid (show R = .ok A.data.toList (s.data.toList.drop j2) by
                  rw [hv]
                  simp only [Res.bind, if_pos h20, Res.map, hrj2, List.append_nil])
                clear hv HR hl2 hL2 hje2 h20 HL HC
                go_wp2_with (go_at_call 22; (with_reducible refine (hcon2 _).mono ?_); rintro e w2 ⟨rfl, rfl⟩)
                go_ret3
                exact chk_ok HV.out hjd2 hB3
              · have g20 : ¬ L2.toList = [] := by rw [Lib.toList_data, hLd2]; exact h20
                have g20' : L2.toList.isEmpty = false := by simpa [List.isEmpty_iff] using g20
                have HV := Lib.hid (show R = .stop 400 by
                  rw [hv]
                  simp only [Res.bind, if_neg h20, Res.map])
                clear hv HR hl2 hL2 hje2 h20 HL HC
                go_wp2_with (go_at_call 22; (with_reducible refine (hcon2 _).mono ?_); rintro e w2 ⟨rfl, rfl⟩)
                go_ret3
                exact chk_stop HV.out hB3
          · have hz1 : ((n : Int) == 0) = false := by rw [beq_eq_false_iff_ne]; omega
            have hnle : n ≤ 1000 := by omega
            obtain ⟨S, hS⟩ : ∃ S, S = s.data.toList.drop j1 := ⟨_, rfl⟩
            have hSl : S.length = s.size - j1 := by rw [hS, List.length_drop, size_data]
            have hv := HR.out
            rw [chunks_next HL.out HC.out (by rw [hAl]; exact hlim) hn0, hrj, ← hS] at hv
            have w1 : IntKind.i64.wrap ((j1 : Int) + n) = (j1 : Int) + n := by rw [IntKind.wrap_i64]; omega
            have w2' : IntKind.i64.wrap ((j1 : Int) + n + 1) = (j1 : Int) + n + 1 := by rw [IntKind.wrap_i64]; omega
            have w3' : IntKind.i64.wrap ((j1 : Int) + n + 2) = (j1 : Int) + n + 2 := by rw [IntKind.wrap_i64]; omega
            have HSd := Lib.hid hS
            clear HR HL HC
            cases hSn : S[n]? with
            | none =>
              have hge := List.getElem?_eq_none_iff.1 hSn
              rw [data_short (fun c hc => by rw [hSn] at hc; cases hc) (by omega)] at hv
              have HV := Lib.hid (show R = .stop 0 from hv)
              have y1 : ¬ (j1 : Int) + n < (s.size : Int) := by omega
              have y2 : ¬ (j1 : Int) + n + 1 < (s.size : Int) := by omega
              have y3 : (s.size : Int) < (j1 : Int) + n + 2 := by omega
              clear hv hSn hge hS
              go_wp2_with fail
              go_ret3
              exact chk_stop HV.out hB3
            | some c =>
              have hlt := (List.getElem?_eq_some_iff.1 hSn).1
              have y1 : (j1 : Int) + n < (s.size : Int) := by omega
              have hx := run_at s (j1 + n) c (get_off (by rw [← hS]; exact hSn))
              rw [show ((j1 + n : Nat) : Int) = (j1 : Int) + n by omega] at hx
              by_cases h13 : c = 13
              · subst h13
                cases hSn1 : S[n + 1]? with
                | none =>
                  have hge := List.getElem?_eq_none_iff.1 hSn1
                  rw [data_short (fun c hc => by rw [hSn] at hc; exact (Option.some.inj hc).symm) (by omega)] at hv
                  have HV := Lib.hid (show R = .stop 0 from hv)
                  have y2 : ¬ (j1 : Int) + n + 1 < (s.size : Int) := by omega
                  have y3 : (s.size : Int) < (j1 : Int) + n + 2 := by omega
                  clear hv hSn hge hS hSn1
                  go_wp2_with fail
                  go_ret3
                  exact chk_stop HV.out hB3
                | some c =>
                  have hlt2 := (List.getElem?_eq_some_iff.1 hSn1).1
                  have y2 : (j1 : Int) + n + 1 < (s.size : Int) := by omega
                  have y3 : ¬ (s.size : Int) < (j1 : Int) + n + 2 := by omega
                  have hx2 := run_at s (j1 + n + 1) c (get_off (n := n + 1) (by rw [← hS]; exact hSn1))
                  rw [show ((j1 + n + 1 : Nat) : Int) = (j1 : Int) + n + 1 by omega] at hx2
                  by_cases h10 : c = 10
                  · subst h10
                    rw [data_full hSn hSn1] at hv
                    obtain ⟨T, hT⟩ : ∃ T : ByteArray, T = s.extract j1 (j1 + n) := ⟨_, rfl⟩
                    have hTd : T.data.toList = S.take n := by rw [hT, hS, Lib.extract_data]; simp
                    have hTs : T.size = n := by rw [hT, ByteArray.size_extract]; omega
                    obtain ⟨U, hU⟩ : ∃ U : ByteArray, U = A ++ T := ⟨_, rfl⟩
                    have hadd : ∀ w, (Op.stringOp .add A T).run Tryz.prog w = .ok (.string U) w := fun w => by rw [hU]; exact run_string_add_sum w A T (by omega)
                    have hUs : U.size ≤ 1000 := by rw [hU, ByteArray.size_append]; omega
                    have hUd : U.data.toList = A.data.toList ++ S.take n := by rw [hU, ByteArray.data_append, Array.toList_append, hTd]
                    have hdrop : S.drop (n + 2) = s.data.toList.drop (j1 + n + 2) := by rw [hS, List.drop_drop]; congr 1
                    have HV := Lib.hid (show R = (chunksGo (1000 - U.data.toList.length) (s.data.toList.drop (j1 + n + 2))).map (U.data.toList ++ ·) by
                      rw [hv, hUd, ← hdrop]
                      have e : 1000 - (A.data.toList ++ S.take n).length = 1000 - A.data.toList.length - n := by
                        rw [List.length_append, List.length_take]; omega
                      rw [e]
                      simp only [Res.bind]
                      cases chunksGo (1000 - A.data.toList.length - n) (S.drop (n + 2)) <;> simp [Res.map])
                    have b1 : (0 : Int) ≤ (j1 : Int) := by omega
                    have b2 : (j1 : Int) ≤ (j1 : Int) + n := by omega
                    have b3 : (j1 : Int) + n ≤ (s.size : Int) := by omega
                    have HT := Lib.hid hT
                    clear hv hSn hS hSn1 hTd hdrop hUd hU hT hTs
                    go_wp2_with (rw [← HT.out])
                    go_roundw
                    case rel => exact ⟨j1 + n + 2, U, by first | rfl | (congr 1; omega), rfl, by omega, hUs, HV, hB3⟩
                    case measure => simp [intOf]; omega
                  · have z10 : ((c.toNat : Int) == 10) = false := toNat_ne h10
                    have z10' : ¬ (c.toNat : Int) = 10 := beq_eq_false_iff_ne.1 z10
                    rw [data_second hSn hSn1 h10] at hv
                    have HV := Lib.hid (show R = .stop 400 from hv)
                    clear hv hSn hS hSn1 h10
                    go_wp2_with fail
                    go_ret3
                    exact chk_stop HV.out hB3
              · have z13 : ((c.toNat : Int) == 13) = false := toNat_ne h13
                have z13' : ¬ (c.toNat : Int) = 13 := beq_eq_false_iff_ne.1 z13
                rw [data_first hSn h13] at hv
                have HV := Lib.hid (show R = .stop 400 from hv)
                clear hv hSn hS h13
                go_wp2_with fail
                go_ret3
                exact chk_stop HV.out hB3
end Go.Proofs.YtcgeiimihihhpaaGreatDoor.W18

namespace Go.Proofs.YtcgeiimihihhpaaGreatDoor.W18
open Go Go.RowKit P12 P18

theorem hv_dw (p : UInt8 → Bool) : ∀ l : P12.By, (l.dropWhile p).length ≤ l.length := rdropWhile_le p
theorem header_val {l : P12.By} {h : Hdr} (e : headerL l = some h) : h.value.length ≤ l.length := by
  unfold headerL at e
  split at e
  · injection e with e
    rw [← e]
    exact Nat.le_trans (rtrim_le _) (cut_le 58 l).2
  · cases e
theorem heads_vals : ∀ (k : Nat) (s : P12.By) (hs : List Hdr) (r : P12.By), headsGo k s = .ok hs r → ∀ h ∈ hs, h.value.length ≤ 256
  | k, s, hs, r, e => by
    rw [headsGo_line] at e
    cases hl : lineL s with
    | stop t => rw [hl] at e; cases e
    | ok l r1 =>
      have hll : l.length ≤ 256 := (P18.line_ok.1 hl).2.1
      rw [hl] at e
      simp only [Res.bind] at e
      unfold hdrStep at e
      split at e
      · injection e with e1 e2
        subst e1
        intro h hh
        cases hh
      · match k, e with
        | 0, e => cases e
        | k + 1, e =>
          simp only at e
          cases hx : headerL l with
          | none => rw [hx] at e; cases e
          | some x =>
            rw [hx] at e
            simp only at e
            cases hg : headsGo k r1 with
            | stop t => rw [hg] at e; cases e
            | ok hs' r' =>
              rw [hg] at e
              simp only [Res.map, Res.ok.injEq] at e
              obtain ⟨e1, e2⟩ := e
              subst e1
              intro h hh
              rcases List.mem_cons.1 hh with rfl | hh
              · exact Nat.le_trans (header_val hx) hll
              · exact heads_vals k r1 hs' r' hg h hh
/-- A request that was read, as Parse hands it back. -/
def parsedV (P : Rq × Nat × Int) (v : Value) : Value := .tuple #[.agg #[bs P.1.method, bs P.1.path, bs P.1.query, v, bs P.1.body, .bool P.1.close], .int .i64 (P.2.1 : Nat), .int .i64 P.2.2]
def ParsePost (s : ByteArray) (w : World) (e : Ending) (w' : World) : Prop :=
  Below w.heap.size w w' ∧ ∃ v, e = .returned (parsedV (parseL s.data.toList) v) ∧ OwnH w' w.heap.size v (parseL s.data.toList).1.headers
theorem parse_stop {s : ByteArray} {w w' : World} {t : Int} (h : parseR s.data.toList = .stop t) (hB : Below w.heap.size w w') : ParsePost s w (.returned (.tuple #[.agg z6, .int .i64 0, .int .i64 t])) w' := by
  have hp : parseL s.data.toList = (zeroR, 0, t) := by unfold parseL; rw [h]
  unfold ParsePost
  rw [hp]
  exact ⟨hB, .slice none 0 0, rfl, World.ownsRow_nil _ _ _ _⟩
theorem parse_whole {s : ByteArray} {w w' : World} {a : Rq} {j : Nat} {v : Value} (h : parseR s.data.toList = .ok a (s.data.toList.drop j)) (hj : j ≤ s.size) (hB : Below w.heap.size w w') (ho : OwnH w' w.heap.size v a.headers) :
    ParsePost s w (.returned (.tuple #[.agg #[bs a.method, bs a.path, bs a.query, v, bs a.body, .bool a.close], .int .i64 (j : Nat), .int .i64 200])) w' := by
  have hp : parseL s.data.toList = (a, j, 200) := by
    unfold parseL
    rw [h]
    simp only [Prod.mk.injEq, and_true, true_and]
    rw [List.length_drop, size_data]
    omega
  unfold ParsePost
  rw [hp]
  exact ⟨hB, v, rfl, ho⟩
theorem pr_line {s : P12.By} {t : Int} (h : lineL s = .stop t) : parseR s = .stop t := by unfold parseR; rw [h]; rfl
theorem pr_first {s l r : P12.By} (h : lineL s = .ok l r) (hf : (firstL l).1 ≠ 200) : parseR s = .stop (firstL l).1 := by unfold parseR; rw [h]; simp only [Res.bind, if_pos hf]
theorem pr_heads {s l r : P12.By} {t : Int} (h : lineL s = .ok l r) (hf : (firstL l).1 = 200) (hh : headsL r = .stop t) : parseR s = .stop t := by unfold parseR; rw [h]; simp only [Res.bind, if_neg (show ¬ (firstL l).1 ≠ 200 by rw [hf]; decide), hh]
theorem pr_size {s l r r2 : P12.By} {hs : List Hdr} (h : lineL s = .ok l r) (hf : (firstL l).1 = 200) (hh : headsL r = .ok hs r2) (hz : (sizeL hs).1 ≠ 200) : parseR s = .stop (sizeL hs).1 := by unfold parseR; rw [h]; simp only [Res.bind, if_neg (show ¬ (firstL l).1 ≠ 200 by rw [hf]; decide), hh, if_pos hz]
theorem pr_body {s l r r2 : P12.By} {hs : List Hdr} (h : lineL s = .ok l r) (hf : (firstL l).1 = 200) (hh : headsL r = .ok hs r2) (hz : (sizeL hs).1 = 200) :
    parseR s = (bodyL (sizeL hs).2 r2).map fun b => ⟨(firstL l).2.method, (firstL l).2.path, (firstL l).2.query, hs, b, closeL hs⟩ := by unfold parseR; rw [h]; simp only [Res.bind, if_neg (show ¬ (firstL l).1 ≠ 200 by rw [hf]; decide), hh, if_neg (show ¬ (sizeL hs).1 ≠ 200 by rw [hz]; decide)]
theorem set_any {N : Nat} {c : Array Value} {t : TypeId} {w : World} (h : w.heap[N]? = some (.cells c t (0, 0))) (i : Nat) (v : Value) (hi : i < c.size) : (w.setCell ⟨N, i, none⟩ v).heap[N]? = some (.cells (c.set i v hi) t (0, 0)) := by
  have hlt := lt_of_block h
  have h' : w.heap[N] = .cells c t (0, 0) := by
    rw [Array.getElem?_eq_getElem hlt] at h
    exact Option.some.inj h
  show (w.heap.modify N _)[N]? = _
  rw [Array.getElem?_eq_getElem (by simpa using hlt), Array.getElem_modify_self, h']
  simp [Array.setIfInBounds, hi]
theorem RqAt.set3 {N : Nat} {a b c d e f : Value} {w : World} (h : RqAt N #[a, b, c, d, e, f] w) (v : Value) : RqAt N #[a, b, c, v, e, f] (w.setCell ⟨N, 3, none⟩ v) := set_any h 3 v (by simp)
theorem RqAt.set4 {N : Nat} {a b c d e f : Value} {w : World} (h : RqAt N #[a, b, c, d, e, f] w) (v : Value) : RqAt N #[a, b, c, d, v, f] (w.setCell ⟨N, 4, none⟩ v) := set_any h 4 v (by simp)
theorem RqAt.set5 {N : Nat} {a b c d e f : Value} {w : World} (h : RqAt N #[a, b, c, d, e, f] w) (v : Value) : RqAt N #[a, b, c, d, e, v] (w.setCell ⟨N, 5, none⟩ v) := set_any h 5 v (by simp)
theorem keep_other {N M : Nat} {o : Obj} {w : World} {i : Nat} {v : Value} (h : w.heap[N]? = some o) (hne : N ≠ M) : (w.setCell ⟨M, i, none⟩ v).heap[N]? = some o := (Below.heap_setCell w ⟨M, i, none⟩ v N hne).trans h
theorem frozen6 {N : Nat} {c : Array Value} {w : World} (h : RqAt N c w) (i : Nat) : w.frozen? ⟨N, i, none⟩ = false := Lib.frozen_of_heap h i
end Go.Proofs.YtcgeiimihihhpaaGreatDoor.W18

namespace Go.Proofs.YtcgeiimihihhpaaGreatDoor.W18
open Go Go.RowKit P12 P18

theorem size_val {hs : List Hdr} (h : (sizeL hs).1 = 200) : (sizeL hs).2 = -1 ∨ ∃ n : Nat, n ≤ 1000 ∧ (sizeL hs).2 = n := by
  unfold sizeL at h ⊢
  split at h
  · cases h
  · rename_i h1
    rw [if_neg h1]
    split at h
    · rename_i h2
      rw [if_pos h2]
      split at h
      · cases h
      · rename_i h3
        rw [if_neg h3]
        split at h
        · rename_i h4; rw [if_pos h4]; exact .inl rfl
        · cases h
    · rename_i h2
      rw [if_neg h2]
      split at h
      · rename_i h3
        rw [if_pos h3]
        split at h
        · rename_i h4
          rw [if_pos h4]
          split at h
          · rename_i h5; rw [if_pos h5]; exact .inr ⟨_, h5, rfl⟩
          · cases h
        · cases h
      · rename_i h3
        rw [if_neg h3]
        exact .inr ⟨0, by omega, rfl⟩
theorem own_oth {w w' : World} {base N : Nat} {v : Value} {l : List Hdr} (h : OwnH w base v l) (hk : ∀ k, k ≠ N → w'.heap[k]? = w.heap[k]?) (hN : N < base) : OwnH w' base v l := by
  refine ⟨h.1, ?_⟩
  rcases h.2 with hn | ⟨g, cap, cur, rfl, hbg, hgg, rest⟩
  · exact .inl hn
  · exact .inr ⟨g, cap, cur, rfl, hbg, (hk g (by omega)).trans hgg, rest⟩
set_option maxHeartbeats 8000000 in
set_option maxRecDepth 100000 in
theorem refParse_any (s : ByteArray) (hs : s.size ≤ 281474976710656) (w : World) :
    Calls Tryz.prog 10 #[.string s] w (ParsePost s w) := by
  have hbl0 := below_alloc w (.cells z6 25)
  have hh0 : RqAt w.heap.size z6 (w.alloc (.cells z6 25)) := new_at w _ _
  have hcon : ∀ W, Calls Tryz.prog 22 #[.string s, .int .i64 0] W fun e w' => e = .returned (lineV 0 (lineL s.data.toList)) ∧ W = w' := fun W => refLine_any s 0 (Nat.zero_le _) hs W
  cases hl : lineL s.data.toList with
  | stop t =>
    have HV := Lib.hid (pr_line hl)
    have hne := line_ne hl
    have z : ((t : Int) == 200) = false := beq_eq_false_iff_ne.2 hne
    rw [hl] at hcon
    simp only [lineV] at hcon
    clear hl
    go_enter Tryz.func10, Tryz.ntmps10
    go_wp2_with (first
      | (go_at_call 22; (with_reducible refine (hcon _).mono ?_); rintro e w2 ⟨rfl, rfl⟩)
      | (refine put_rq rfl _ _ rfl w.heap.size z6 rfl rfl hh0 rfl rfl (by kernel_rfl) ?_; intro w4 hh4 hb4 _))
    refine ⟨rfl, _, ret_rq2 rfl _ _ w.heap.size z6 rfl hh4 rfl, ?_⟩
    exact parse_stop HV.out (hbl0.trans hb4)
  | ok l r =>
    have hl' : lineL (s.data.toList.drop 0) = .ok l r := by rw [List.drop_zero]; exact hl
    obtain ⟨j1, hkj, hjd, hrj, hje⟩ := line_ok_at (Nat.zero_le _) hl'
    have hll : l.length ≤ 256 := (P18.line_ok.1 hl).2.1
    obtain ⟨L, hL⟩ : ∃ L : ByteArray, L = ⟨l.toArray⟩ := ⟨_, rfl⟩
    rw [hl] at hcon
    simp only [lineV, bs] at hcon
    rw [← hje, ← hL] at hcon
    have hLd : L.data.toList = l := by rw [hL]
    have hLs : L.size ≤ 256 := by rw [← size_data, hLd]; exact hll
    have hfi := fun W => refFirst_any L (by omega) W
    rw [hLd] at hfi
    obtain ⟨F, hF⟩ : ∃ F, F = firstL l := ⟨_, rfl⟩
    obtain ⟨st, hst⟩ : ∃ st, st = F.1 := ⟨_, rfl⟩
    obtain ⟨M, hM⟩ : ∃ M : ByteArray, M = ⟨F.2.method.toArray⟩ := ⟨_, rfl⟩
    obtain ⟨P, hP⟩ : ∃ M : ByteArray, M = ⟨F.2.path.toArray⟩ := ⟨_, rfl⟩
    obtain ⟨Q, hQ⟩ : ∃ M : ByteArray, M = ⟨F.2.query.toArray⟩ := ⟨_, rfl⟩
    rw [← hF] at hfi
    simp only [firstV, bs] at hfi
    rw [← hst, ← hM, ← hP, ← hQ] at hfi
    have HL := Lib.hid hl
    have HF := Lib.hid hF
    have HM := Lib.hid hM
    have HP := Lib.hid hP
    have HQ := Lib.hid hQ
    have HST := Lib.hid hst
    have HR := Lib.hid hrj
    clear hl hl' hL hje hll hF hM hP hQ hst hLd hrj
    go_enter Tryz.func10, Tryz.ntmps10
    go_wp2_with (first
      | (go_at_call 22; (with_reducible refine (hcon _).mono ?_); rintro e w1 ⟨rfl, rfl⟩)
      | (go_at_call 23; (with_reducible refine (hfi _).mono ?_); rintro e w2 ⟨rfl, hb2⟩; refine Hid.out ?_))
    refine Lib.hid ?_
    have B2 := below_then hbl0 hb2
    have z2' : RqAt w.heap.size z6 w2 := keep_at hh0 hb2
    have hNb : w.heap.size < w2.heap.size := lt_of_block z2'
    clear hbl0 hh0 hb2 hcon hfi
    have hal := below_alloc w2 (.cells #[.string M, .string P, .string Q, .slice none 0 0, .string ⟨#[]⟩, .bool false] 25)
    have z3 : RqAt w.heap.size z6 (w2.alloc (.cells #[.string M, .string P, .string Q, .slice none 0 0, .string ⟨#[]⟩, .bool false] 25)) := keep_at z2' hal
    have B3 := below_then B2 hal
    by_cases hs200 : st = 200
    · subst hs200
      have r3 : RqAt w2.heap.size #[.string M, .string P, .string Q, .slice none 0 0, .string ⟨#[]⟩, .bool false] (w2.alloc (.cells #[.string M, .string P, .string Q, .slice none 0 0, .string ⟨#[]⟩, .bool false] 25)) := new_at w2 _ _
      obtain ⟨RES, hRES⟩ : ∃ R, R = headsL r := ⟨_, rfl⟩
      have HH := Lib.hid (show RES = (headsGo (16 - ([] : List Hdr).length) (s.data.toList.drop j1)).map ([] ++ ·) by
        rw [hRES, HR.out]
        show headsGo 16 _ = (headsGo 16 _).map _
        cases headsGo 16 (s.data.toList.drop j1) <;> simp [Res.map])
      have HRS := Lib.hid hRES
      clear hRES hal B2 z2'
      go_wp2_with fail
      go_loopw [6] (fun a wr => ∃ (j : Nat) (h6 : List Hdr) (v : Value), a = .int .i64 j ∧ j ≤ s.size ∧ h6.length ≤ 16 ∧ Hid (RES = (headsGo (16 - h6.length) (s.data.toList.drop j)).map (h6 ++ ·)) ∧ RqAt w.heap.size z6 wr ∧ RqAt w2.heap.size #[.string M, .string P, .string Q, v, .string ⟨#[]⟩, .bool false] wr ∧ OwnH wr (w2.heap.size + 1) v h6 ∧ Below w.heap.size w wr) (fun a _ => s.size - (intOf a).toNat)
      case atStart => exact ⟨j1, [], _, rfl, hjd, by simp, HH, z3, r3, World.ownsRow_nil _ _ _ _, B3⟩
      case round =>
        clear HH z3 r3 B3
        obtain ⟨j, h6, v, rfl, hj, hn, HH, zz, rr, own, BB⟩ := hrel
        have hcon := fun W => refLine_any s j hj hs W
        have hN1w := lt_of_block rr
        cases hl2 : lineL (s.data.toList.drop j) with
        | stop t =>
          have HV := Lib.hid (show parseR s.data.toList = .stop t by
            refine pr_heads HL.out (by rw [← HF.out, ← HST.out]) ?_
            rw [← HRS.out, HH.out, headsGo_line, hl2]
            rfl)
          have hne := line_ne hl2
          have z : ((t : Int) == 200) = false := beq_eq_false_iff_ne.2 hne
          rw [hl2] at hcon
          simp only [lineV] at hcon
          clear hl2 HH
          go_wp2_with (first
            | (go_at_call 22; (with_reducible refine (hcon _).mono ?_); rintro e w3 ⟨rfl, rfl⟩)
            | (refine put_rq rfl _ _ rfl w.heap.size z6 rfl rfl zz rfl rfl (by kernel_rfl) ?_; intro w4 hh4 hb4 _))
          refine ⟨rfl, _, ret_rq2 rfl _ _ w.heap.size z6 rfl hh4 rfl, ?_⟩
          exact parse_stop HV.out (BB.trans hb4)
        | ok l2 r2 =>
          obtain ⟨j2, hkj2, hjd2, hrj2, hje2⟩ := line_ok_at hj hl2
          have hll : l2.length ≤ 256 := (P18.line_ok.1 hl2).2.1
          obtain ⟨L2, hL2⟩ : ∃ L : ByteArray, L = ⟨l2.toArray⟩ := ⟨_, rfl⟩
          rw [hl2] at hcon
          simp only [lineV, bs] at hcon
          rw [← hje2, ← hL2] at hcon
          have hLd2 : L2.data.toList = l2 := by rw [hL2]
          have hLs2 : L2.size ≤ 256 := by rw [← size_data, hLd2]; exact hll
          have hh := HH.out
          rw [headsGo_line, hl2] at hh
          replace hh : RES = (hdrStep (16 - h6.length) l2 r2).map (h6 ++ ·) := hh
          rw [hrj2] at hh
          clear hl2 HH hje2 hll hL2 hrj2
          by_cases h20 : l2 = []
          · have g20 : L2.toList = [] := by rw [Lib.toList_data, hLd2]; exact h20
            rw [hdr_nil h20] at hh
            have hvals : ∀ h ∈ h6, h.value.length ≤ 1000 := fun h hm => by
              have := heads_vals 16 _ _ _ (HRS.out.symm.trans hh) h hm
              omega
            have HHS := Lib.hid (show headsL r = .ok h6 (s.data.toList.drop j2) from HRS.out.symm.trans hh)
            have hlen := refLength_any M P Q v ⟨#[]⟩ false h6 wr own.rows hn hvals
            have HVL := Lib.hid hvals
            obtain ⟨o, cp, rfl⟩ := own_slice own
            obtain ⟨S, hS⟩ : ∃ S, S = sizeL h6 := ⟨_, rfl⟩
            rw [← hS] at hlen
            obtain ⟨st, sz⟩ := S
            simp only [lenV, reqV] at hlen
            have HS := Lib.hid hS
            obtain ⟨y0, y1, y2, y3, y4, y5⟩ := cells6 rr
            clear hh hvals hS h20 hLd2 hLs2
            go_wp2_with (first
              | (go_at_call 22; (with_reducible refine (hcon _).mono ?_); rintro e w3 ⟨rfl, rfl⟩)
              | (go_at_call 25; (with_reducible refine hlen.mono ?_); rintro e w5 ⟨rfl, hb5⟩; refine Hid.out ?_)
              | fail)
            refine Lib.hid ?_
            have z5' := keep_at zz hb5
            have r5 := keep_at rr hb5
            have o5 := own_keep own hb5
            have B5 := below_then BB hb5
            clear hlen y0 y1 y2 y3 y4 y5 zz rr own BB hb5 hcon
            by_cases hst : st = 200
            · subst hst
              have hS1 : (sizeL h6).1 = 200 := by rw [← HS.out]
              have hS2 : (sizeL h6).2 = sz := by rw [← HS.out]
              have HPB := Lib.hid (show parseR s.data.toList = (bodyL sz (s.data.toList.drop j2)).map fun b => ⟨F.2.method, F.2.path, F.2.query, h6, b, closeL h6⟩ by
                rw [← hS2, HF.out]
                exact pr_body HL.out (by rw [← HF.out, ← HST.out]) HHS.out hS1)
              have hsv := size_val hS1
              rw [hS2] at hsv
              have hclo := refCloses_any M P Q (.slice o h6.length cp) ⟨#[]⟩ false h6 w5 (OwnH.rows o5) hn HVL.out
              obtain ⟨C, hC⟩ : ∃ C, C = closeL h6 := ⟨_, rfl⟩
              rw [← hC] at hclo
              have HC := Lib.hid hC
              obtain ⟨y0, y1, y2, y3, y4, y5⟩ := cells6 r5
              have hN1 := lt_of_block r5
              clear hS1 hS2 hC HS HHS HVL
              go_wp2_with (go_at_call 26; (with_reducible refine hclo.mono ?_); rintro e w6 ⟨rfl, hb6⟩; refine Hid.out ?_)
              refine Lib.hid ?_
              have z6' := keep_at z5' hb6
              have r6 := keep_at r5 hb6
              have o6 := own_keep o5 hb6
              have B6 := below_then B5 hb6
              clear hclo y0 y1 y2 y3 y4 y5 z5' r5 o5 B5 hb6
              obtain ⟨y0, y1, y2, y3, y4, y5⟩ := cells6 r6
              have f5 := frozen6 r6 5
              have r7 := RqAt.set5 r6 (.bool C)
              have z7 : RqAt w.heap.size z6 (w6.setCell ⟨w2.heap.size, 5, none⟩ (.bool C)) := keep_other z6' (by omega)
              have o7 := ownsRow_setCell_below o6 (a := ⟨w2.heap.size, 5, none⟩) (Nat.lt_succ_self _) (.bool C)
              have B7 : Below w.heap.size w (w6.setCell ⟨w2.heap.size, 5, none⟩ (.bool C)) := B6.setCell (p := ⟨w2.heap.size, 5, none⟩) (Nat.le_of_lt hNb) _
              have hN17 := lt_of_block r7
              have hw7 : ∃ w7, w7 = w6.setCell ⟨w2.heap.size, 5, none⟩ (.bool C) := ⟨_, rfl⟩
              obtain ⟨w7, hw7⟩ := hw7
              rw [← hw7] at r7 z7 o7 B7 hN17
              have HW7 := Lib.hid hw7
              clear hw7 z6' r6 o6 B6
              rcases hsv with rfl | ⟨n, hn1, rfl⟩
              · have hch := refChunks_any s j2 hjd2 hs w7
                rw [show bodyL (-1) (s.data.toList.drop j2) = chunksGo 1000 (s.data.toList.drop j2) from rfl] at HPB
                go_wp2_with (first
                  | (rw [← HW7.out]; go_at_call 27; (with_reducible refine hch.mono ?_); rintro e w8 ⟨hb8, X, n8, st8, rfl, hR8⟩; refine Hid.out ?_))
                refine Lib.hid ?_
                have z8 := keep_at z7 hb8
                have r8 := keep_at r7 hb8
                have o8 := own_keep o7 hb8
                have B8 := below_then B7 hb8
                clear hch hb8 z7 r7 o7 B7 y0 y1 y2 y3 y4 y5 f5
                cases hR : chunksGo 1000 (s.data.toList.drop j2) with
                | stop t =>
                  rw [hR] at hR8
                  obtain rfl : st8 = t := hR8
                  have hne : st8 ≠ 200 := told_ne (tells_chunks 1000 1000 (Nat.le_refl _) _ _ hR)
                  have z : ((st8 : Int) == 200) = false := beq_eq_false_iff_ne.2 hne
                  have HV := Lib.hid (show parseR s.data.toList = .stop st8 by rw [HPB.out, hR]; rfl)
                  clear hR HPB
                  go_wp2_with (first
                    | (refine put_rq rfl _ _ rfl w.heap.size z6 rfl rfl z8 rfl rfl (by kernel_rfl) ?_; intro w4 hh4 hb4 _))
                  refine ⟨rfl, _, ret_rq2 rfl _ _ w.heap.size z6 rfl hh4 rfl, ?_⟩
                  exact parse_stop HV.out (B8.trans hb4)
                | ok x r9 =>
                  rw [hR] at hR8
                  obtain ⟨hX, rfl, j9, hj9, rfl, rfl⟩ := hR8
                  have HV := Lib.hid (show parseR s.data.toList = .ok ⟨F.2.method, F.2.path, F.2.query, h6, X.data.toList, C⟩ (s.data.toList.drop j9) by rw [HPB.out, hR, HC.out, hX]; rfl)
                  clear hR HPB hX
                  obtain ⟨y0, y1, y2, y3, y4, y5⟩ := cells6 r8
                  have f4 := frozen6 r8 4
                  have r9 := RqAt.set4 r8 (.string X)
                  have z9 : RqAt w.heap.size z6 (w8.setCell ⟨w2.heap.size, 4, none⟩ (.string X)) := keep_other z8 (by omega)
                  have o9 := ownsRow_setCell_below o8 (a := ⟨w2.heap.size, 4, none⟩) (Nat.lt_succ_self _) (.string X)
                  have B9 : Below w.heap.size w (w8.setCell ⟨w2.heap.size, 4, none⟩ (.string X)) := B8.setCell (p := ⟨w2.heap.size, 4, none⟩) (Nat.le_of_lt hNb) _
                  obtain ⟨x0, x1, x2, x3, x4, x5⟩ := cells6 r9
                  clear z8 r8 o8 B8
                  go_wp2_with (refine put_rq rfl _ _ rfl w.heap.size #[.string M, .string P, .string Q, .slice o h6.length cp, .string X, .bool C] rfl rfl z9 rfl rfl (one6 _ _ _ _ _ _ _ _) ?_; intro wf hhf hbf hof)
                  refine ⟨rfl, _, ret_rq2 rfl _ _ w.heap.size _ rfl hhf rfl, ?_⟩
                  have := parse_whole HV.out hj9 (B9.trans hbf) (World.ownsRow.mono (own_oth o9 hof (by omega)) (by omega))
                  simp only [← HM.out, ← HP.out, ← HQ.out, bs_data, bs] at this
                  exact this
              · have n0 : (0 : Int) ≤ (n : Int) := by omega
                have w1' : IntKind.i64.wrap ((j2 : Int) + n) = (j2 : Int) + n := by rw [IntKind.wrap_i64]; omega
                rw [show bodyL (n : Int) (s.data.toList.drop j2) = takeL n (s.data.toList.drop j2) by unfold bodyL; rw [if_pos n0]; rfl] at HPB
                by_cases hfit : j2 + n ≤ s.size
                · have q1 : ¬ (s.size : Int) < (j2 : Int) + n := by omega
                  have b1 : (0 : Int) ≤ (j2 : Int) := by omega
                  have b2 : (j2 : Int) ≤ (j2 : Int) + n := by omega
                  have b3 : (j2 : Int) + n ≤ (s.size : Int) := by omega
                  obtain ⟨X, hX⟩ : ∃ X : ByteArray, X = s.extract j2 (j2 + n) := ⟨_, rfl⟩
                  have hXd : X.data.toList = (s.data.toList.drop j2).take n := by rw [hX, Lib.extract_data]; simp
                  have HV := Lib.hid (show parseR s.data.toList = .ok ⟨F.2.method, F.2.path, F.2.query, h6, X.data.toList, C⟩ (s.data.toList.drop (j2 + n)) by
                    rw [HPB.out, HC.out, hXd]
                    unfold takeL
                    rw [if_pos (by rw [List.length_drop, size_data]; omega), List.drop_drop]
                    rfl)
                  have HX := Lib.hid hX
                  clear HPB hX hXd
                  have f4 := frozen6 r7 4
                  obtain ⟨x0, x1, x2, x3, x4, x5⟩ := cells6 r7
                  have r9 := RqAt.set4 r7 (.string X)
                  have z9 : RqAt w.heap.size z6 (w7.setCell ⟨w2.heap.size, 4, none⟩ (.string X)) := keep_other z7 (by omega)
                  have o9 := ownsRow_setCell_below o7 (a := ⟨w2.heap.size, 4, none⟩) (Nat.lt_succ_self _) (.string X)
                  have B9 : Below w.heap.size w (w7.setCell ⟨w2.heap.size, 4, none⟩ (.string X)) := B7.setCell (p := ⟨w2.heap.size, 4, none⟩) (Nat.le_of_lt hNb) _
                  obtain ⟨v0, v1, v2, v3, v4, v5⟩ := cells6 r9
                  clear z7 o7 B7
                  rw [HX.out] at v0 v1 v2 v3 v4 v5 r9 z9 o9 B9 HV
                  rw [HW7.out] at v0 v1 v2 v3 v4 v5 r9 z9 o9 B9 f4 x0 x1 x2 x3 x4 x5
                  go_wp2_with (refine put_rq rfl _ _ rfl w.heap.size #[.string M, .string P, .string Q, .slice o h6.length cp, .string (s.extract j2 (j2 + n)), .bool C] rfl rfl z9 rfl rfl (one6 _ _ _ _ _ _ _ _) ?_; intro wf hhf hbf hof)
                  refine ⟨rfl, _, ret_rq2 rfl _ _ w.heap.size _ rfl hhf rfl, ?_⟩
                  have := parse_whole HV.out hfit (B9.trans hbf) (World.ownsRow.mono (own_oth o9 hof (by omega)) (by omega))
                  simp only [← HM.out, ← HP.out, ← HQ.out, bs_data, bs] at this
                  exact this
                · have q1 : (s.size : Int) < (j2 : Int) + n := by omega
                  have HV := Lib.hid (show parseR s.data.toList = .stop 0 by
                    rw [HPB.out]
                    unfold takeL
                    rw [if_neg (by rw [List.length_drop, size_data]; omega)]
                    rfl)
                  clear HPB
                  rw [HW7.out] at z7 B7
                  go_wp2_with (first
                    | (refine put_rq rfl _ _ rfl w.heap.size z6 rfl rfl z7 rfl rfl (by kernel_rfl) ?_; intro w4 hh4 hb4 _))
                  refine ⟨rfl, _, ret_rq2 rfl _ _ w.heap.size z6 rfl hh4 rfl, ?_⟩
                  exact parse_stop HV.out (B7.trans hb4)
            · have z : ((st : Int) == 200) = false := beq_eq_false_iff_ne.2 hst
              have HV := Lib.hid (show parseR s.data.toList = .stop st by
                have := pr_size HL.out (by rw [← HF.out, ← HST.out]) HHS.out (by rw [← HS.out]; exact hst)
                rw [← HS.out] at this
                exact this)
              clear HHS HVL HS
              go_wp2_with (first
                | (refine put_rq rfl _ _ rfl w.heap.size z6 rfl rfl z5' rfl rfl (by kernel_rfl) ?_; intro w4 hh4 hb4 _))
              refine ⟨rfl, _, ret_rq2 rfl _ _ w.heap.size z6 rfl hh4 rfl, ?_⟩
              exact parse_stop HV.out (B5.trans hb4)
          · have g20 : ¬ L2.toList = [] := by rw [Lib.toList_data, hLd2]; exact h20
            have g20' : L2.toList.isEmpty = false := by simpa [List.isEmpty_iff] using g20
            obtain ⟨o, cp, rfl⟩ := own_slice own
            obtain ⟨y0, y1, y2, y3, y4, y5⟩ := cells6 rr
            by_cases h16 : h6.length = 16
            · have z16 : ((h6.length : Int) == 16) = true := by rw [beq_iff_eq]; omega
              rw [hdr_full h20 h16] at hh
              have HV := Lib.hid (show parseR s.data.toList = .stop 431 from pr_heads HL.out (by rw [← HF.out, ← HST.out]) (HRS.out.symm.trans hh))
              clear hh h20 hLd2 hLs2
              go_wp2_with (first
                | (go_at_call 22; (with_reducible refine (hcon _).mono ?_); rintro e w3 ⟨rfl, rfl⟩)
                | (refine put_rq rfl _ _ rfl w.heap.size z6 rfl rfl zz rfl rfl (by kernel_rfl) ?_; intro w4 hh4 hb4 _))
              refine ⟨rfl, _, ret_rq2 rfl _ _ w.heap.size z6 rfl hh4 rfl, ?_⟩
              exact parse_stop HV.out (BB.trans hb4)
            · have z16 : ((h6.length : Int) == 16) = false := by rw [beq_eq_false_iff_ne]; omega
              have hn16 : h6.length < 16 := by omega
              have hhd := fun W => refHeader_any L2 (by omega) W
              rw [hLd2] at hhd
              cases hx : headerL l2 with
              | none =>
                rw [hx] at hhd
                simp only [hdrV] at hhd
                rw [hdr_bad h20 hn16 hx] at hh
                have HV := Lib.hid (show parseR s.data.toList = .stop 400 from pr_heads HL.out (by rw [← HF.out, ← HST.out]) (HRS.out.symm.trans hh))
                clear hh h20 hLd2 hLs2 hx
                go_wp2_with (first
                  | (go_at_call 22; (with_reducible refine (hcon _).mono ?_); rintro e w3 ⟨rfl, rfl⟩)
                  | (go_at_call 24; (with_reducible refine (hhd _).mono ?_); rintro e w5 ⟨rfl, hb5⟩; have z5' : RqAt w.heap.size z6 (w5.alloc (.cells z2 32)) := keep_at (keep_at zz hb5) (below_alloc _ _); have B5 := below_then (below_then BB hb5) (below_alloc w5 (.cells z2 32)))
                  | (refine put_rq rfl _ _ rfl w.heap.size z6 rfl rfl z5' rfl rfl (by kernel_rfl) ?_; intro w4 hh4 hb4 _))
                refine ⟨rfl, _, ret_rq2 rfl _ _ w.heap.size z6 rfl hh4 rfl, ?_⟩
                exact parse_stop HV.out (B5.trans hb4)
              | some x =>
                rw [hx] at hhd
                simp only [hdrV, bs] at hhd
                rw [hdr_some h20 hn16 hx] at hh
                obtain ⟨A, hA⟩ : ∃ A : ByteArray, A = ⟨x.name.toArray⟩ := ⟨_, rfl⟩
                obtain ⟨B, hB⟩ : ∃ A : ByteArray, A = ⟨x.value.toArray⟩ := ⟨_, rfl⟩
                rw [← hA, ← hB] at hhd
                have HA := Lib.hid hA
                have HB := Lib.hid hB
                have HH := Lib.hid hh
                clear hh h20 hLd2 hLs2 hx hA hB
                go_wp2_with (first
                  | (go_at_call 22; (with_reducible refine (hcon _).mono ?_); rintro e w3 ⟨rfl, rfl⟩)
                  | (go_at_call 24; (with_reducible refine (hhd _).mono ?_); rintro e w5 ⟨rfl, hb5⟩; refine Hid.out ?_))
                refine Lib.hid ?_
                have z5' := keep_at zz hb5
                have r5 := keep_at rr hb5
                have o5 := own_keep own hb5
                have B5 := below_then BB hb5
                clear y0 y1 y2 y3 y4 y5 zz rr own BB hb5 hcon hhd
                obtain ⟨w6, hw6⟩ : ∃ w6, w6 = w5.alloc (.cells #[.string A, .string B] 32) := ⟨_, rfl⟩
                have ba := below_alloc w5 (.cells #[.string A, .string B] 32)
                have h6' := new_at w5 #[.string A, .string B] 32
                rw [← hw6] at ba h6'
                have HW6 := Lib.hid hw6
                have z6' := keep_at z5' ba
                have r6 := keep_at r5 ba
                have o6 := own_keep o5 ba
                have B6 := below_then B5 ba
                obtain ⟨y0, y1, y2, y3, y4, y5⟩ := cells6 r6
                obtain ⟨c0, c1⟩ : w6.cell? ⟨w5.heap.size, 0, none⟩ = some (.string A) ∧ w6.cell? ⟨w5.heap.size, 1, none⟩ = some (.string B) := ⟨Lib.cell_of_heap h6' 0, Lib.cell_of_heap h6' 1⟩
                have hN16 := lt_of_block r6
                have hN06 := lt_of_block z6'
                obtain ⟨i0, hi, hz0, hz1, hz2⟩ := info_parts infoH
                clear ba h6' hw6 z5' r5 o5 B5
                go_wp2_with (first
                  | (rw [← HW6.out])
                  | (at_builtin; refine wpList_append_own _ rfl _ _ 23 rfl (w2.heap.size + 1) 32 i0 (.agg #[.string ⟨#[]⟩, .string ⟨#[]⟩]) 2 32 Tryz.underlying23 hi hz0 hz1 hz2 rfl (by decide) _ _ _ rfl (o6.alloc _) ⟨w6.heap.size, 0, none⟩ 1 1 [.string A, .string B] rfl rfl ?c1 ?c2 ?c3 ?c4 ?c5 ?_))
                case c1 =>
                  intro j u hj
                  match j, hj with
                  | 0, hj => simp at hj; subst hj; simp [Addr.add]
                  | 1, hj => simp at hj; subst hj; simp [Addr.add]
                case c2 => intro u hu; simp at hu; rcases hu with rfl | rfl <;> rfl
                case c3 => unfold maxLen; omega
                case c4 => omega
                case c5 => simp; omega
                intro v' w8 hown' hgrow _
                have hne : ∀ k, (Value.slice o h6.length cp).ownBlock = some k → w2.heap.size + 1 ≤ k := fun k e => (o6.lt k e).1
                have B8 : Below w.heap.size w w8 := ((B6.alloc (by omega) _).grown hgrow (by simp; omega) (fun k e => by have := hne k e; omega))
                have r8 : RqAt w2.heap.size #[.string M, .string P, .string Q, .slice o h6.length cp, .string ⟨#[]⟩, .bool false] w8 := (hgrow.block _ (by simp; omega) (fun e => by have := hne _ e.symm; omega)).trans (keep_at r6 (below_alloc _ _))
                have z8 : RqAt w.heap.size z6 w8 := (hgrow.block _ (by simp; omega) (fun e => by have := hne _ e.symm; omega)).trans (keep_at z6' (below_alloc _ _))
                have o8 : OwnH w8 (w2.heap.size + 1) v' (h6 ++ [x]) := by
                  have := hown'
                  rw [HA.out, HB.out] at this
                  show World.ownsRow w8 _ _ _ _ (h6 ++ [x]).length (cellsH (h6 ++ [x]))
                  rw [cellsH_app, List.length_append]
                  exact this
                clear hown' hgrow y0 y1 y2 y3 y4 y5 z6' r6 o6 B6 c0 c1
                obtain ⟨y0, y1, y2, y3, y4, y5⟩ := cells6 r8
                have f3 := frozen6 r8 3
                have r9 := RqAt.set3 r8 v'
                have z9 : RqAt w.heap.size z6 (w8.setCell ⟨w2.heap.size, 3, none⟩ v') := keep_other z8 (by omega)
                have o9 := ownsRow_setCell_below o8 (a := ⟨w2.heap.size, 3, none⟩) (Nat.lt_succ_self _) v'
                have B9 : Below w.heap.size w (w8.setCell ⟨w2.heap.size, 3, none⟩ v') := B8.setCell (p := ⟨w2.heap.size, 3, none⟩) (Nat.le_of_lt hNb) _
                obtain ⟨o', c', rfl⟩ := own_slice o8
                have hl6 : (h6 ++ [x]).length = h6.length + 1 := by simp
                go_wp2_with fail
                go_roundw
                case rel => exact ⟨j2, h6 ++ [x], .slice o' (h6.length + 1) c', rfl, hjd2, by simp; omega, HH, by rw [← hl6]; exact z9, by rw [← hl6]; exact r9, by rw [← hl6]; exact o9, by rw [← hl6]; exact B9⟩
                case measure => simp [intOf]; omega
    · have zs : ((st : Int) == 200) = false := beq_eq_false_iff_ne.2 hs200
      have HV := Lib.hid (show parseR s.data.toList = .stop st by
        rw [HST.out, HF.out]
        exact pr_first HL.out (by rw [← HF.out, ← HST.out]; exact hs200))
      go_wp2_with (refine put_rq rfl _ _ rfl w.heap.size z6 rfl rfl z3 rfl rfl (by kernel_rfl) ?_; intro w4 hh4 hb4 _)
      refine ⟨rfl, _, ret_rq2 rfl _ _ w.heap.size z6 rfl hh4 rfl, ?_⟩
      exact parse_stop HV.out (B3.trans hb4)
end Go.Proofs.YtcgeiimihihhpaaGreatDoor.W18
