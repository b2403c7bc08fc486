/-
  Walks of layer 20: Streams, of the program and of the reference. Conditions: the library's error values; the names' and the numbers' cells hold them; the numbers are ints. Printed by wip/tools/streams20.py.
  Plain laws of layer 20, second part: a name that is escaped is found in its path; lines that are told are read again. No condition, no program in sight.
-/
import Derived.Test.YtfkmgnldkmpeiaaGreatDoorGax
import Derived.Test.YtfkmgnldkmpeiaaGreatDoorGac

namespace Go.Proofs.YtfkmgnldkmpeiaaGreatDoor.W20
open Go Go.RowKit P12 P18 P20 W12

/-- A slice of ints, as a value in a world. -/
def IntsV (v : Value) (l : List Int) (w : World) : Prop :=
  ∃ o c, v = .slice o l.length c ∧ (l = [] ∨ ∃ g off, o = some ⟨g, off, none⟩ ∧ ∀ (j : Nat) (x : Int), l[j]? = some x → w.cell? ⟨g, off + j, none⟩ = some (.int .i64 x))
theorem IntsV.keep {v : Value} {l : List Int} {w w' : World} (h : IntsV v l w) (hb : Below w.heap.size w w') : IntsV v l w' := by
  obtain ⟨o, c, rfl, h0⟩ := h
  exact ⟨o, c, rfl, h0.imp id fun ⟨g, off, e, h⟩ => ⟨g, off, e, fun j x hj => keep_cell hb (h j x hj)⟩⟩
theorem pairUp_len : ∀ (ns : List By) (vs : List Int), (pairUp ns vs).length = ns.length
  | [], _ => rfl
  | n :: ns, vs => by show (pairUp ns vs.tail).length + 1 = ns.length + 1; rw [pairUp_len ns vs.tail]
theorem pairUp_at : ∀ {ns : List By} {vs : List Int} {k : Nat} {s : By}, ns[k]? = some s → (pairUp ns vs)[k]? = some (s, (vs[k]?).getD 0)
  | [], _, _, _, h => by simp at h
  | n :: ns, vs, 0, s, h => by
    simp at h
    subst h
    cases vs <;> rfl
  | n :: ns, vs, k + 1, s, h => by
    have := pairUp_at (vs := vs.tail) (k := k) (by simpa using h)
    show (pairUp ns vs.tail)[k]? = _
    rw [this]
    cases vs <;> simp
theorem stream_range {x : By × Int} (h : -9223372036854775808 ≤ x.2 ∧ x.2 ≤ 9223372036854775807) : ∀ f ∈ [textFl nName x.1, numF nVersion x.2], rangeF f := by
  intro f hf
  simp only [List.mem_cons, List.not_mem_nil, or_false] at hf
  rcases hf with rfl | rfl
  · exact range_text _ _
  · exact h
theorem pair_range {ns : List By} {vs : List Int} (h : ∀ x ∈ vs, -9223372036854775808 ≤ x ∧ x ≤ 9223372036854775807) : ∀ x ∈ pairUp ns vs, -9223372036854775808 ≤ x.2 ∧ x.2 ≤ 9223372036854775807 := by
  intro x hx
  obtain ⟨k, hk⟩ := List.getElem?_of_mem hx
  have hlt := (List.getElem?_eq_some_iff.1 hk).1
  rw [pairUp_len] at hlt
  rw [pairUp_at (List.getElem?_eq_getElem hlt)] at hk
  injection hk with hk
  subst hk
  show -9223372036854775808 ≤ (vs[k]?).getD 0 ∧ (vs[k]?).getD 0 ≤ 9223372036854775807
  cases hv : vs[k]? with
  | none => exact ⟨by decide, by decide⟩
  | some x => exact h x (List.mem_of_getElem? hv)
/-- There is a number for the name, or there is none. -/
theorem number_at (vs : List Int) (k : Nat) (n : Int) (hn : n = (vs[k]?).getD 0) : (k < vs.length ∧ vs[k]? = some n) ∨ (¬ k < vs.length ∧ n = 0) := by
  by_cases h : k < vs.length
  · exact .inl ⟨h, by rw [hn, List.getElem?_eq_getElem h]; rfl⟩
  · exact .inr ⟨h, by rw [hn, List.getElem?_eq_none (by omega)]; rfl⟩
set_option maxHeartbeats 6400000 in
set_option maxRecDepth 100000 in
theorem streams_puts (bx bz : Nat) (v u : Value) (ns : List By) (vs : List Int) (w0 : World) (hE : Env w0) (hx : w0.cell? ⟨bx, 0, none⟩ = some v) (hz : w0.cell? ⟨bz, 0, none⟩ = some u) (hr : W12.Strs v ns w0) (hu : IntsV u vs w0) (hlen : ns.length ≤ 4611686018427387904) (hlen2 : vs.length ≤ 9223372036854775807) (hrange : ∀ x ∈ vs, -9223372036854775808 ≤ x ∧ x ≤ 9223372036854775807) : Puts 54 #[.pointer (some ⟨bx, 0, none⟩), .pointer (some ⟨bz, 0, none⟩)] ((pairUp ns vs).map lineS) w0 := by
  intro W B b out hW hB hBw hbl hout
  show Calls Tryz.prog 54 #[putF b, .pointer (some ⟨bx, 0, none⟩), .pointer (some ⟨bz, 0, none⟩)] W _
  have hx1 := keep_cell hW hx
  obtain ⟨o, c, rfl, hcl⟩ := hr
  obtain ⟨o2, c2, rfl, hcu⟩ := hu
  have HC := Lib.hid hcl
  have HU := Lib.hid hcu
  have HRG := Lib.hid (pair_range (ns := ns) hrange)
  have HE := Lib.hid hE
  have HB := Lib.hid hbl
  have HZ := Lib.hid hz
  clear hcl hcu hrange hE hbl hx hz
  go_enter Tryz.func54, Tryz.ntmps54
  go_wp2_with fail
  go_loopw [9] (fun i wr => ∃ (k : Nat) (O : By), k ≤ ns.length ∧ i = .int .i64 k ∧ O.length ≤ 60000 ∧ Hid (Bld B b O wr) ∧ Hid (pageL out ((pairUp ns vs).map lineS) = pageL O (((pairUp ns vs).drop k).map lineS)) ∧ B ≤ wr.heap.size ∧ Hid (Kpt B b W wr)) (fun i _ => ns.length - (intOf i).toNat)
  case atStart => exact ⟨0, out, Nat.zero_le _, rfl, hout, HB, Lib.hid (by rw [List.drop_zero]), hBw, Lib.hid (kpt_of hBw (Below.refl _ W))⟩
  case round =>
    clear HB hx1
    obtain ⟨k, O, hk, rfl, hO, HB, HP, hBr, HK⟩ := hrel
    by_cases hlt : k < ns.length
    · have hlt' : (k : Int) < (ns.length : Int) := by omega
      have hwr : Below w0.heap.size w0 wr := hW.trans (HK.out.1.mono hB)
      rcases HC.out with h0 | ⟨g, off, rfl, hcell⟩
      · rw [h0] at hlt; exact absurd hlt (Nat.not_lt_zero _)
      obtain ⟨s, hs⟩ : ∃ s, ns[k]? = some s := ⟨_, List.getElem?_eq_getElem hlt⟩
      obtain ⟨S, hS⟩ : ∃ S : ByteArray, S.data.toList = s := ⟨⟨s.toArray⟩, rfl⟩
      have hc0 := keep_cell hwr (hcell k s hs)
      rw [← hS, bs_data] at hc0
      have hz1 := keep_cell hwr HZ.out
      have hEr := HE.out.keep hwr
      obtain ⟨n, hn⟩ : ∃ n : Int, n = (vs[k]?).getD 0 := ⟨_, rfl⟩
      have hpk := pairUp_at (vs := vs) hs
      rw [← hn] at hpk
      have hrx := HRG.out _ (List.mem_of_getElem? hpk)
      obtain ⟨F, T, hF, hFs, hT, hTs, p1⟩ := line_named [textFl nName s, numF nVersion n] (stream_range hrx)
      have HPk : Hid (pageL out ((pairUp ns vs).map lineS) = pageL O (T.data.toList :: ((pairUp ns vs).drop (k + 1)).map lineS)) := Lib.hid (by
        rw [HP.out, drop_cons hpk, List.map_cons, hT]; rfl)
      have HF := Lib.hid (show F.data.toList = recordL [textFl nName S.data.toList, numF nVersion n] by rw [hF, hS])
      have HRX := Lib.hid (show ∀ f ∈ [textFl nName S.data.toList, numF nVersion n], rangeF f from by rw [hS]; exact stream_range hrx)
      have hcase := number_at vs k n hn
      clear hcell hs hS hn hrx hF hT HP hpk
      rcases hcase with ⟨hv, hvk⟩ | ⟨hv, hn0⟩
      · have hv' : (k : Int) < (vs.length : Int) := by omega
        rcases HU.out with h0 | ⟨g2, off2, rfl, hcell2⟩
        · rw [h0] at hv; exact absurd hv (Nat.not_lt_zero _)
        have hc2 := keep_cell hwr (hcell2 k n hvk)
        clear hcell2 hvk hwr
        go_wp2_with (go_at_call 45; refine (text_any _ _ _).mono ?_; rintro e w3 ⟨rfl, hb3⟩; refine Hid.out ?_)
        refine Lib.hid ?_
        go_wp2_with (go_at_call 44; refine (num_any _ _ _).mono ?_; rintro e w4 ⟨rfl, hb4⟩; refine Hid.out ?_)
        refine Lib.hid ?_
        have hbV := below_then (below_then hb3 hb4) (below_alloc w4 (.cells #[.string ⟨#[110, 97, 109, 101]⟩, .bool true, .int .i64 0, .string S, .string ⟨#[118, 101, 114, 115, 105, 111, 110]⟩, .bool false, .int .i64 n, .string ⟨#[]⟩] 54))
        have hrw := rows_lit (l := [textFl nName S.data.toList, numF nVersion n]) (show StAt 54 w4.heap.size _ (w4.alloc (.cells #[.string ⟨#[110, 97, 109, 101]⟩, .bool true, .int .i64 0, .string S, .string ⟨#[118, 101, 114, 115, 105, 111, 110]⟩, .bool false, .int .i64 n, .string ⟨#[]⟩] 54)) from new_at w4 _ _) 2
        have HRC := Lib.hid (record_any _ _ F HF.out _ (hEr.keep hbV) hrw (by simp) HRX.out)
        clear hrw hb3 hb4 hc0 hz1
        go_wp2_with (go_at_call 43; refine HRC.out.mono ?_; rintro e w5 ⟨rfl, hb5⟩; refine Hid.out ?_)
        refine Lib.hid ?_
        have hb6 := below_then hbV hb5
        have hB6 := HB.out.keep hb6
        have hBr6 : B ≤ w5.heap.size := Nat.le_trans hBr hb6.size
        have HK6 := Lib.hid (kpt_then HK.out (kpt_of hBr hb6))
        by_cases hfit : O.length + T.size ≤ 60000
        · have HPP := Lib.hid (put_yes B b O T w5 hB6 hfit hBr6)
          have HPn : Hid (pageL out ((pairUp ns vs).map lineS) = pageL (O ++ T.data.toList) (((pairUp ns vs).drop (k + 1)).map lineS)) := Lib.hid (by rw [HPk.out, pageL_go (by rw [size_data]; omega)])
          clear hB6 HRC hbV hb5 hb6 HPk HB HK
          go_wp2_with (go_at_call 78; refine HPP.out.mono ?_; rintro e w7 ⟨rfl, hB7, hk7⟩; have HB7 := Lib.hid hB7; have HK7 := Lib.hid hk7; clear hB7 hk7)
          go_roundw
          case rel => exact ⟨k + 1, O ++ T.data.toList, by omega, by go_num, by rw [List.length_append, size_data]; exact hfit, HB7, HPn, Nat.le_trans hBr6 HK7.out.1.size, Lib.hid (kpt_then HK6.out HK7.out)⟩
          case measure => simp [intOf]; omega
        · have HPP := Lib.hid (put_no B b O T w5 hB6 (by omega) hO (by omega))
          have HPn : Hid (pageL out ((pairUp ns vs).map lineS) = O) := Lib.hid (by rw [HPk.out, pageL_stop (by rw [size_data]; omega)])
          have HB6 := Lib.hid hB6
          clear hB6 HRC hbV hb5 hb6 HPk HB HK
          go_wp2_with (go_at_call 78; refine HPP.out.mono ?_; rintro e w7 ⟨rfl, rfl⟩)
          exact bodyPost_ret (v := .tuple #[]) (by simp [results, Tryz.results54, go_sem]) rfl ⟨rfl, by rw [HPn.out]; exact HB6.out, HK6.out⟩
      · have hv' : ¬ (k : Int) < (vs.length : Int) := by omega
        subst hn0
        clear hwr
        go_wp2_with (go_at_call 45; refine (text_any _ _ _).mono ?_; rintro e w3 ⟨rfl, hb3⟩; refine Hid.out ?_)
        refine Lib.hid ?_
        go_wp2_with (go_at_call 44; refine (num_any _ _ _).mono ?_; rintro e w4 ⟨rfl, hb4⟩; refine Hid.out ?_)
        refine Lib.hid ?_
        have hbV := below_then (below_then hb3 hb4) (below_alloc w4 (.cells #[.string ⟨#[110, 97, 109, 101]⟩, .bool true, .int .i64 0, .string S, .string ⟨#[118, 101, 114, 115, 105, 111, 110]⟩, .bool false, .int .i64 0, .string ⟨#[]⟩] 54))
        have hrw := rows_lit (l := [textFl nName S.data.toList, numF nVersion 0]) (show StAt 54 w4.heap.size _ (w4.alloc (.cells #[.string ⟨#[110, 97, 109, 101]⟩, .bool true, .int .i64 0, .string S, .string ⟨#[118, 101, 114, 115, 105, 111, 110]⟩, .bool false, .int .i64 0, .string ⟨#[]⟩] 54)) from new_at w4 _ _) 2
        have HRC := Lib.hid (record_any _ _ F HF.out _ (hEr.keep hbV) hrw (by simp) HRX.out)
        clear hrw hb3 hb4 hc0 hz1
        go_wp2_with (go_at_call 43; refine HRC.out.mono ?_; rintro e w5 ⟨rfl, hb5⟩; refine Hid.out ?_)
        refine Lib.hid ?_
        have hb6 := below_then hbV hb5
        have hB6 := HB.out.keep hb6
        have hBr6 : B ≤ w5.heap.size := Nat.le_trans hBr hb6.size
        have HK6 := Lib.hid (kpt_then HK.out (kpt_of hBr hb6))
        by_cases hfit : O.length + T.size ≤ 60000
        · have HPP := Lib.hid (put_yes B b O T w5 hB6 hfit hBr6)
          have HPn : Hid (pageL out ((pairUp ns vs).map lineS) = pageL (O ++ T.data.toList) (((pairUp ns vs).drop (k + 1)).map lineS)) := Lib.hid (by rw [HPk.out, pageL_go (by rw [size_data]; omega)])
          clear hB6 HRC hbV hb5 hb6 HPk HB HK
          go_wp2_with (go_at_call 78; refine HPP.out.mono ?_; rintro e w7 ⟨rfl, hB7, hk7⟩; have HB7 := Lib.hid hB7; have HK7 := Lib.hid hk7; clear hB7 hk7)
          go_roundw
          case rel => exact ⟨k + 1, O ++ T.data.toList, by omega, by go_num, by rw [List.length_append, size_data]; exact hfit, HB7, HPn, Nat.le_trans hBr6 HK7.out.1.size, Lib.hid (kpt_then HK6.out HK7.out)⟩
          case measure => simp [intOf]; omega
        · have HPP := Lib.hid (put_no B b O T w5 hB6 (by omega) hO (by omega))
          have HPn : Hid (pageL out ((pairUp ns vs).map lineS) = O) := Lib.hid (by rw [HPk.out, pageL_stop (by rw [size_data]; omega)])
          have HB6 := Lib.hid hB6
          clear hB6 HRC hbV hb5 hb6 HPk HB HK
          go_wp2_with (go_at_call 78; refine HPP.out.mono ?_; rintro e w7 ⟨rfl, rfl⟩)
          exact bodyPost_ret (v := .tuple #[]) (by simp [results, Tryz.results54, go_sem]) rfl ⟨rfl, by rw [HPn.out]; exact HB6.out, HK6.out⟩
    · obtain rfl : k = ns.length := by omega
      have HPn : Hid (pageL out ((pairUp ns vs).map lineS) = O) := Lib.hid (by rw [HP.out, ← pairUp_len ns vs, List.drop_length]; rfl)
      clear HC HU
      go_wp2_with fail
      go_end0
      exact ⟨rfl, by rw [HPn.out]; exact HB.out, HK.out⟩
set_option maxHeartbeats 3200000 in
set_option maxRecDepth 100000 in
theorem Streams_any (v u : Value) (ns : List By) (vs : List Int) (w : World) (hE : Env w) (hr : W12.Strs v ns w) (hu : IntsV u vs w) (hlen : ns.length ≤ 4611686018427387904) (hlen2 : vs.length ≤ 9223372036854775807) (hrange : ∀ x ∈ vs, -9223372036854775808 ≤ x ∧ x ≤ 9223372036854775807) (X : ByteArray) (hX : X.data.toList = streamsL ns vs) :
    Calls Tryz.prog 20 #[v, u] w fun e w' => e = .returned (.agg #[.int .i64 200, .string X, .bool false]) ∧ Below w.heap.size w w' := by
  obtain ⟨o, c, rfl, -⟩ := id hr
  obtain ⟨o2, c2, rfl, -⟩ := id hu
  obtain ⟨w1, hw1⟩ : ∃ w1, w1 = ((w.alloc (.cells #[.slice o ns.length c] 42)).alloc (.cells #[.slice o2 vs.length c2] 56)).alloc (.cells zRp 40) := ⟨_, rfl⟩
  have hb1 : Below w.heap.size w w1 := by rw [hw1]; exact below_then (below_then (below_alloc _ _) (below_alloc _ _)) (below_alloc _ _)
  have hx1 : w1.cell? ⟨w.heap.size, 0, none⟩ = some (.slice o ns.length c) := by rw [hw1]; exact Lib.cell_of_heap (keep_at (keep_at (new_at w #[.slice o ns.length c] _) (below_alloc _ _)) (below_alloc _ _)) 0
  have hz1 : w1.cell? ⟨w.heap.size + 1, 0, none⟩ = some (.slice o2 vs.length c2) := by
    have := new_at (w.alloc (.cells #[.slice o ns.length c] 42)) #[.slice o2 vs.length c2] 56
    rw [World.size_alloc] at this
    rw [hw1]
    exact Lib.cell_of_heap (keep_at this (below_alloc _ _)) 0
  have hy1 : StAt 40 (w.heap.size + 2) zRp w1 := by
    have := new_at ((w.alloc (.cells #[.slice o ns.length c] 42)).alloc (.cells #[.slice o2 vs.length c2] 56)) zRp 40
    rw [World.size_alloc, World.size_alloc] at this
    rw [hw1]
    exact this
  have HPG := Lib.hid (page_any ⟨#[]⟩ 54 #[.pointer (some ⟨w.heap.size, 0, none⟩), .pointer (some ⟨w.heap.size + 1, 0, none⟩)] ((pairUp ns vs).map lineS) w1 (fun args W => by simp [go_sem]) (streams_puts w.heap.size (w.heap.size + 1) _ _ ns vs w1 (hE.keep hb1) hx1 hz1 (hr.keep hb1) (hu.keep hb1) hlen hlen2 hrange) (by decide) X hX)
  have HW := Lib.hid hw1
  clear hX hr hu hrange hE hx1 hz1 hw1
  go_enter Tryz.func20, Tryz.ntmps20
  go_wp2_with (go_at_call 41; rw [← HW.out]; refine HPG.out.mono ?_; rintro e w4 ⟨rfl, hb6⟩; refine Hid.out ?_)
  refine Lib.hid ?_
  have hy6 := keep_at hy1 hb6
  have hb7 := below_then hb1 hb6
  go_wp2_with (refine put_st rfl _ _ _ rfl (w.heap.size + 2) #[.int .i64 200, .string X, .bool false] rfl rfl hy6 infoRp rfl (by simp [Value.oneCell']) ?_; intro w9 h1 h2 h3)
  exact bodyPost_ret (v := .agg #[.int .i64 200, .string X, .bool false]) (ret_st1 Tryz.results20 _ _ _ _ rfl (load_rp h1 rfl)) rfl ⟨rfl, hb7.trans (h2.mono (by omega))⟩

/-! ## The reference's -/
set_option maxHeartbeats 6400000 in
set_option maxRecDepth 100000 in
theorem refStreams_any (v u : Value) (ns : List By) (vs : List Int) (w : World) (hE : Env w) (hr : W12.Strs v ns w) (hu : IntsV u vs w) (hlen : (ns.length + 1) * 16 ≤ 140737488355328) (hlen2 : vs.length ≤ 9223372036854775807) (hrange : ∀ x ∈ vs, -9223372036854775808 ≤ x ∧ x ≤ 9223372036854775807) (X : ByteArray) (hX : X.data.toList = streamsL ns vs) :
    Calls Tryz.prog 21 #[v, u] w fun e w' => e = .returned (.agg #[.int .i64 200, .string X, .bool false]) ∧ Below w.heap.size w w' := by
  obtain ⟨w1, hw1⟩ : ∃ w1, w1 = w.alloc (.cells zRp 40) := ⟨_, rfl⟩
  have hb1 : Below w.heap.size w w1 := by rw [hw1]; exact below_alloc _ _
  have hy1 : StAt 40 w.heap.size zRp w1 := by rw [hw1]; exact new_at w _ _
  obtain ⟨o, c, rfl, hcl⟩ := hr.keep hb1
  obtain ⟨o2, c2, rfl, hcu⟩ := hu.keep hb1
  have HC := Lib.hid hcl
  have HU := Lib.hid hcu
  have HE := Lib.hid (hE.keep hb1)
  have HX : Hid (X.data.toList = pageL (⟨#[]⟩ : ByteArray).data.toList ((pairUp ns vs).map lineS)) := Lib.hid hX
  have HRG := Lib.hid (pair_range (ns := ns) hrange)
  have HLL : Hid (∀ b ∈ (pairUp ns vs).map lineS, b.length ≤ 1000000) := Lib.hid (by
    intro b hb
    obtain ⟨x, hx, rfl⟩ := List.mem_map.1 hb
    have := W12.write_size (stream_range (pair_range hrange x hx))
    show (recordL _ ++ [10]).length ≤ _
    rw [List.length_append]
    show (writeL _).1.length + 1 ≤ _
    omega)
  obtain ⟨i0, hi, hz0, hz1, hz2⟩ := info_parts W12.infoS
  have HW := Lib.hid hw1
  have HPL := Lib.hid (pairUp_len ns vs)
  clear hX hrange hr hu hE hcl hcu hw1
  go_enter Tryz.func21, Tryz.ntmps21
  go_wp2_with fail
  rw [← HW.out]
  go_loopw [5, 6] (fun t i wr => ∃ (k : Nat), k ≤ ns.length ∧ i = .int .i64 k ∧ wr.ownsRow w1.heap.size 9 1 t k (W12.cellsS (((pairUp ns vs).map lineS).take k)) ∧ Below w1.heap.size w1 wr) (fun _ i _ => ns.length - (intOf i).toNat)
  case atStart => exact ⟨0, Nat.zero_le _, rfl, World.ownsRow_nil _ _ _ _, Below.refl _ _⟩
  case round =>
    obtain ⟨k, hk, rfl, hI, hwr⟩ := hrel
    by_cases hlt : k < ns.length
    · have hlt' : (k : Int) < (ns.length : Int) := by omega
      rcases HC.out with h0 | ⟨g, off, rfl, hcell⟩
      · rw [h0] at hlt; exact absurd hlt (Nat.not_lt_zero _)
      obtain ⟨s, hs⟩ : ∃ s, ns[k]? = some s := ⟨_, List.getElem?_eq_getElem hlt⟩
      obtain ⟨S, hS⟩ : ∃ S : ByteArray, S.data.toList = s := ⟨⟨s.toArray⟩, rfl⟩
      have hc0 := keep_cell hwr (hcell k s hs)
      rw [← hS, bs_data] at hc0
      have hEr := HE.out.keep hwr
      obtain ⟨n, hn⟩ : ∃ n : Int, n = (vs[k]?).getD 0 := ⟨_, rfl⟩
      have hpk := pairUp_at (vs := vs) hs
      rw [← hn] at hpk
      have hrx := HRG.out _ (List.mem_of_getElem? hpk)
      obtain ⟨F, T, hF, hFs, hT, hTs, p1⟩ := line_named [textFl nName s, numF nVersion n] (stream_range hrx)
      have HSN : Hid (W12.cellsS (((pairUp ns vs).map lineS).take (k + 1)) = W12.cellsS (((pairUp ns vs).map lineS).take k) ++ [.string T]) := Lib.hid (by
        rw [map_take_snoc lineS hpk, W12.cellsS_snoc, show lineS (s, n) = T.data.toList from hT.symm, bs_data])
      have HF := Lib.hid (show F.data.toList = recordL [textFl nName S.data.toList, numF nVersion n] by rw [hF, hS])
      have HRX := Lib.hid (show ∀ f ∈ [textFl nName S.data.toList, numF nVersion n], rangeF f from by rw [hS]; exact stream_range hrx)
      have hcase := number_at vs k n hn
      have HIr := Lib.hid hI
      have HWR := Lib.hid hwr
      clear hcell hs hS hn hrx hF hT hpk hI
      rcases hcase with ⟨hv, hvk⟩ | ⟨hv, hn0⟩
      · have hv' : (k : Int) < (vs.length : Int) := by omega
        rcases HU.out with h0 | ⟨g2, off2, rfl, hcell2⟩
        · rw [h0] at hv; exact absurd hv (Nat.not_lt_zero _)
        have hc2 := keep_cell hwr (hcell2 k n hvk)
        clear hcell2 hvk hwr
        go_wp2_with (go_at_call 56; refine (refText_any _ _ _).mono ?_; rintro e w3 ⟨rfl, hb3⟩; refine Hid.out ?_)
        refine Lib.hid ?_
        go_wp2_with (go_at_call 57; refine (refNum_any _ _ _).mono ?_; rintro e w4 ⟨rfl, hb4⟩; refine Hid.out ?_)
        refine Lib.hid ?_
        have hbV := below_then (below_then hb3 hb4) (below_alloc w4 (.cells #[.string ⟨#[110, 97, 109, 101]⟩, .bool true, .int .i64 0, .string S, .string ⟨#[118, 101, 114, 115, 105, 111, 110]⟩, .bool false, .int .i64 n, .string ⟨#[]⟩] 54))
        have hrw := rows_lit (l := [textFl nName S.data.toList, numF nVersion n]) (show StAt 54 w4.heap.size _ (w4.alloc (.cells #[.string ⟨#[110, 97, 109, 101]⟩, .bool true, .int .i64 0, .string S, .string ⟨#[118, 101, 114, 115, 105, 111, 110]⟩, .bool false, .int .i64 n, .string ⟨#[]⟩] 54)) from new_at w4 _ _) 2
        have HRC := Lib.hid (refRecord_any _ _ F HF.out _ (hEr.keep hbV) hrw (by simp) HRX.out)
        clear hrw hb3 hb4 hc0
        go_wp2_with (go_at_call 55; refine HRC.out.mono ?_; rintro e w5 ⟨rfl, hb5⟩; refine Hid.out ?_)
        refine Lib.hid ?_
        have hb6 := below_then hbV hb5
        have hwr6 := below_then HWR.out hb6
        have hsz6 := hwr6.size
        have hI6 := W12.own_keep HIr.out hb6
        have HLK : Hid ((W12.cellsS (((pairUp ns vs).map lineS).take k)).length = k) := Lib.hid (by simp [W12.cellsS]; rw [HPL.out]; omega)
        clear HRC hbV hb5
        go_wp2_with (at_builtin; refine wpList_append_own _ rfl _ _ 42 rfl w1.heap.size 9 i0 (.string ⟨#[]⟩) 1 16 Tryz.underlying42 hi hz0 hz1 hz2 rfl (by decide) _ _ _ rfl (hI6.alloc _) ⟨w5.heap.size, 0, none⟩ 1 1 [.string T] rfl rfl ?c1 ?c2 ?c3 ?c4 ?c5 ?_)
        case c1 =>
          intro j u hj
          match j, hj with
          | 0, hj => simp at hj; subst hj; simp [Addr.add]
        case c2 => intro u hu; simp at hu; subst hu; rfl
        case c3 => unfold maxLen; omega
        case c4 => omega
        case c5 => simp; omega
        intro v' w7 hown' hgrow _
        have hB7 : Below w1.heap.size w1 w7 := ((hwr6.alloc (by omega) _).grown hgrow (by simp; omega) (fun j e => (hI6.lt j e).1))
        have HOW := Lib.hid hown'
        clear hgrow hI6 hown' hb6 hwr6
        go_wp2_with fail
        go_roundw
        case rel => exact ⟨k + 1, by omega, by go_num, by rw [HSN.out]; exact HOW.out, hB7⟩
        case measure => simp [intOf]; omega
      · have hv' : ¬ (k : Int) < (vs.length : Int) := by omega
        subst hn0
        clear hwr
        go_wp2_with (go_at_call 56; refine (refText_any _ _ _).mono ?_; rintro e w3 ⟨rfl, hb3⟩; refine Hid.out ?_)
        refine Lib.hid ?_
        go_wp2_with (go_at_call 57; refine (refNum_any _ _ _).mono ?_; rintro e w4 ⟨rfl, hb4⟩; refine Hid.out ?_)
        refine Lib.hid ?_
        have hbV := below_then (below_then hb3 hb4) (below_alloc w4 (.cells #[.string ⟨#[110, 97, 109, 101]⟩, .bool true, .int .i64 0, .string S, .string ⟨#[118, 101, 114, 115, 105, 111, 110]⟩, .bool false, .int .i64 0, .string ⟨#[]⟩] 54))
        have hrw := rows_lit (l := [textFl nName S.data.toList, numF nVersion 0]) (show StAt 54 w4.heap.size _ (w4.alloc (.cells #[.string ⟨#[110, 97, 109, 101]⟩, .bool true, .int .i64 0, .string S, .string ⟨#[118, 101, 114, 115, 105, 111, 110]⟩, .bool false, .int .i64 0, .string ⟨#[]⟩] 54)) from new_at w4 _ _) 2
        have HRC := Lib.hid (refRecord_any _ _ F HF.out _ (hEr.keep hbV) hrw (by simp) HRX.out)
        clear hrw hb3 hb4 hc0
        go_wp2_with (go_at_call 55; refine HRC.out.mono ?_; rintro e w5 ⟨rfl, hb5⟩; refine Hid.out ?_)
        refine Lib.hid ?_
        have hb6 := below_then hbV hb5
        have hwr6 := below_then HWR.out hb6
        have hsz6 := hwr6.size
        have hI6 := W12.own_keep HIr.out hb6
        have HLK : Hid ((W12.cellsS (((pairUp ns vs).map lineS).take k)).length = k) := Lib.hid (by simp [W12.cellsS]; rw [HPL.out]; omega)
        clear HRC hbV hb5
        go_wp2_with (at_builtin; refine wpList_append_own _ rfl _ _ 42 rfl w1.heap.size 9 i0 (.string ⟨#[]⟩) 1 16 Tryz.underlying42 hi hz0 hz1 hz2 rfl (by decide) _ _ _ rfl (hI6.alloc _) ⟨w5.heap.size, 0, none⟩ 1 1 [.string T] rfl rfl ?c1 ?c2 ?c3 ?c4 ?c5 ?_)
        case c1 =>
          intro j u hj
          match j, hj with
          | 0, hj => simp at hj; subst hj; simp [Addr.add]
        case c2 => intro u hu; simp at hu; subst hu; rfl
        case c3 => unfold maxLen; omega
        case c4 => omega
        case c5 => simp; omega
        intro v' w7 hown' hgrow _
        have hB7 : Below w1.heap.size w1 w7 := ((hwr6.alloc (by omega) _).grown hgrow (by simp; omega) (fun j e => (hI6.lt j e).1))
        have HOW := Lib.hid hown'
        clear hgrow hI6 hown' hb6 hwr6
        go_wp2_with fail
        go_roundw
        case rel => exact ⟨k + 1, by omega, by go_num, by rw [HSN.out]; exact HOW.out, hB7⟩
        case measure => simp [intOf]; omega
    · obtain rfl : k = ns.length := by omega
      have hS0 : W12.Strs _ ((pairUp ns vs).map lineS) wr := W12.strs_own (l := (pairUp ns vs).map lineS) (by rw [← HPL.out, ← List.length_map (f := lineS), List.take_length] at hI; exact hI)
      have HS0 := Lib.hid hS0
      have HPG := Lib.hid (refPage_any ⟨#[]⟩ _ ((pairUp ns vs).map lineS) wr hS0 (by decide) HLL.out (by rw [List.length_map, HPL.out]; omega) X HX.out)
      have hy6 := keep_at hy1 hwr
      have hb7 := below_then hb1 hwr
      clear hI hS0 HC HU hy1 hb1 hwr
      go_wp2_with (go_at_call 58; refine HPG.out.mono ?_; rintro e w5 ⟨rfl, hb8⟩; refine Hid.out ?_)
      refine Lib.hid ?_
      have hy9 := keep_at hy6 hb8
      have hb9 := below_then hb7 hb8
      go_wp2_with (refine put_st rfl _ _ _ rfl w.heap.size #[.int .i64 200, .string X, .bool false] rfl rfl hy9 infoRp rfl (by simp [Value.oneCell']) ?_; intro w9 h1 h2 h3)
      exact bodyPost_ret (v := .agg #[.int .i64 200, .string X, .bool false]) (ret_st1 Tryz.results21 _ _ _ _ rfl (load_rp h1 rfl)) rfl ⟨rfl, hb9.trans h2⟩
end Go.Proofs.YtfkmgnldkmpeiaaGreatDoor.W20

namespace Go.Proofs.YtfkmgnldkmpeiaaGreatDoor.P20
open Go P12 P18
open Dig (isDig)

/-! ## Names in paths -/
theorem esc_noslash (s : By) : (47 : UInt8) ∉ escL s := fun h => absurd (escL_fine s _ h) (by decide)
theorem parts_esc {k : UInt8} (hk : k ≠ 47) (s : By) : partsL 47 (k :: 47 :: escL s) = [[k], escL s] := by
  have := partsL_at (c := 47) (p := [k]) (by simpa using fun h => hk h.symm) (escL s)
  rw [List.singleton_append] at this
  rw [this, partsL_free (esc_noslash s)]
theorem parts_esc2 {k : UInt8} (hk : k ≠ 47) (s t : By) : partsL 47 (k :: 47 :: (escL s ++ 47 :: escL t)) = [[k], escL s, escL t] := by
  have := partsL_at (c := 47) (p := [k]) (by simpa using fun h => hk h.symm) (escL s ++ 47 :: escL t)
  rw [List.singleton_append] at this
  rw [this, partsL_at (esc_noslash s), partsL_free (esc_noslash t)]
theorem unesc_one {k : UInt8} (hk : plainC k = true) : unescL [k] = some [k] := by rw [unesc_plain hk, unesc_nil]; rfl
theorem find_one {k : UInt8} (hk : k ≠ 47) (hp : plainC k = true) (s : By) : findC (47 :: k :: 47 :: escL s) = callL [[k], s] := by
  unfold findC partsU
  simp only [if_true]
  rw [parts_esc hk]
  simp only [unescAll, unesc_one hp, unesc_of_esc]
  rfl
theorem find_two {k : UInt8} (hk : k ≠ 47) (hp : plainC k = true) (s t : By) : findC (47 :: k :: 47 :: (escL s ++ 47 :: escL t)) = callL [[k], s, t] := by
  unfold findC partsU
  simp only [if_true]
  rw [parts_esc2 hk]
  simp only [unescAll, unesc_one hp, unesc_of_esc]
  rfl
theorem route_s (s : By) : routeL ⟨getM, 47 :: 115 :: 47 :: escL s, [], [], [], false⟩ = if fitsL s = true then ({ zeroC with kind := 2, stream := s }, 200) else (zeroC, 404) := by
  unfold routeL
  rw [show findC (⟨getM, 47 :: 115 :: 47 :: escL s, [], [], [], false⟩ : Rq).path = callL [kS, s] from find_one (by decide) (by decide) s]
  by_cases hf : fitsL s = true
  · rw [show callL [kS, s] = some ({ zeroC with kind := 2, stream := s }, false) by simp [callL, hf], if_pos hf]
    rfl
  · rw [show callL [kS, s] = none by simp [callL, hf], if_neg hf]
theorem route_e (s : By) : routeL ⟨getM, 47 :: 101 :: 47 :: escL s, [], [], [], false⟩ = if fitsL s = true then ({ zeroC with kind := 3, stream := s, most := 50 }, 200) else (zeroC, 404) := by
  unfold routeL
  rw [show findC (⟨getM, 47 :: 101 :: 47 :: escL s, [], [], [], false⟩ : Rq).path = callL [kE, s] from find_one (by decide) (by decide) s]
  by_cases hf : fitsL s = true
  · rw [show callL [kE, s] = some ({ zeroC with kind := 3, stream := s, most := 50 }, false) by simp [callL, hf, show kE ≠ kS by decide], if_pos hf]
    rfl
  · rw [show callL [kE, s] = none by simp [callL, hf, show kE ≠ kS by decide], if_neg hf]
theorem route_c (s t : By) : routeL ⟨postM, 47 :: 99 :: 47 :: (escL s ++ 47 :: escL t), [], [], [], false⟩ = if (fitsL s && nameL t) = true then ({ zeroC with kind := 1, cstream := s, cname := t, cexp := -1 }, 200) else (zeroC, 404) := by
  unfold routeL
  rw [show findC (⟨postM, 47 :: 99 :: 47 :: (escL s ++ 47 :: escL t), [], [], [], false⟩ : Rq).path = callL [kC, s, t] from find_two (by decide) (by decide) s t]
  by_cases hf : (fitsL s && nameL t) = true
  · rw [show callL [kC, s, t] = some ({ zeroC with kind := 1, cstream := s, cname := t, cexp := -1 }, true) by simp only [callL, if_true, hf], if_pos hf]
    rfl
  · rw [show callL [kC, s, t] = none by simp only [callL, if_true, hf]; rfl, if_neg hf]

/-! ## Lines -/
theorem text_free {c : UInt8} (hc : c = 10 ∨ c = 124) {f : Fld} (h : nameL f.name = true) : c ∉ textF f := by
  have hn : okName c = false := by rcases hc with rfl | rfl <;> decide
  have hf : fine c = false := by rcases hc with rfl | rfl <;> decide
  have hd : isDig c = false := by rcases hc with rfl | rfl <;> decide
  have h4 : c ≠ 45 := by rcases hc with rfl | rfl <;> decide
  have h9 : c ≠ 39 := by rcases hc with rfl | rfl <;> decide
  have h6 : c ≠ 61 := by rcases hc with rfl | rfl <;> decide
  intro hm
  unfold textF at hm
  rcases List.mem_append.1 hm with hm | hm
  · rw [nameL_chars h _ hm] at hn; cases hn
  · rcases List.mem_cons.1 hm with hm | hm
    · exact h6 hm
    · split at hm
      · rcases List.mem_cons.1 hm with hm | hm
        · exact h9 hm
        · rw [escL_fine f.s c hm] at hf; cases hf
      · rcases itoa_chars f.n c hm with hm | hm
        · exact h4 hm
        · rw [hm] at hd; cases hd
theorem record_free {c : UInt8} (hc : c = 10 ∨ c = 124) (l : List Fld) : c ∉ recordL l := by
  unfold recordL writeL
  by_cases h : checkL l = 0
  · rw [if_neg (by simp [h])]
    obtain ⟨-, h2, -⟩ := (check_iff l).1 h
    intro hm
    have hm := List.mem_of_mem_drop hm
    obtain ⟨x, hx, hcx⟩ := List.mem_flatten.1 hm
    obtain ⟨f, hf, rfl⟩ := List.mem_map.1 hx
    rcases List.mem_cons.1 hcx with e | e
    · rcases hc with rfl | rfl <;> exact absurd e (by decide)
    · exact text_free hc ((fieldL_iff f).1 (h2 f hf)).1 e
  · rw [if_pos h]; simp
/-- What a page holds: its first lines, whole. -/
theorem pageL_take : ∀ (ls : List By) (out : By), ∃ m, m ≤ ls.length ∧ pageL out ls = out ++ (ls.take m).flatten ∧ (out.length ≤ 60000 → (pageL out ls).length ≤ 60000)
  | [], out => ⟨0, Nat.le_refl _, by simp [pageL], fun h => h⟩
  | l :: ls, out => by
    unfold pageL
    by_cases h : 60000 < out.length + l.length
    · rw [if_pos h]
      exact ⟨0, Nat.zero_le _, by simp, fun h => h⟩
    · rw [if_neg h]
      obtain ⟨m, h1, h2, h3⟩ := pageL_take ls (out ++ l)
      exact ⟨m + 1, by simp; omega, by rw [h2]; simp, fun _ => h3 (by simp; omega)⟩
theorem parts_lines : ∀ (bs : List By), (∀ b ∈ bs, (10 : UInt8) ∉ b) → partsL 10 (bs.map (· ++ [10])).flatten = bs ++ [[]]
  | [], _ => rfl
  | b :: bs, h => by
    have := partsL_at (h b (by simp)) (bs.map (· ++ [10])).flatten
    rw [parts_lines bs fun x hx => h x (by simp [hx])] at this
    simpa using this
/-- A line of events without its end. -/
def bodyE (x : En) : By := recordL (headF x) ++ 124 :: recordL x.fields
theorem lineE_body (x : En) : lineE x = bodyE x ++ [10] := by simp [lineE, bodyE]
theorem body_free (x : En) : (10 : UInt8) ∉ bodyE x := by
  intro h
  rcases List.mem_append.1 h with h | h
  · exact record_free (.inl rfl) _ h
  · rcases List.mem_cons.1 h with h | h
    · exact absurd h (by decide)
    · exact record_free (.inl rfl) _ h
theorem body_parts (x : En) : partsL 124 (bodyE x) = [recordL (headF x), recordL x.fields] := by
  unfold bodyE
  rw [partsL_at (record_free (.inr rfl) _), partsL_free (record_free (.inr rfl) _)]
/-- The lines of an events' reply. -/
theorem entries_lines (l : List En) : ∃ m, m ≤ l.length ∧ partsL 10 (entriesL l) = (l.take m).map bodyE ++ [[]] ∧ (entriesL l).length ≤ 60000 := by
  obtain ⟨m, h1, h2, h3⟩ := pageL_take (l.map lineE) []
  refine ⟨m, by simpa using h1, ?_, h3 (by simp)⟩
  unfold entriesL
  rw [h2, List.nil_append, ← List.map_take, show (l.take m).map lineE = ((l.take m).map bodyE).map (· ++ [10]) by rw [List.map_map]; exact List.map_congr_left fun x _ => lineE_body x]
  refine parts_lines _ fun b hb => ?_
  obtain ⟨x, -, rfl⟩ := List.mem_map.1 hb
  exact body_free x
theorem head_check {x : En} (hs : x.stream.length ≤ 200) (ht : x.type.length ≤ 200) : checkL (headF x) = 0 := by
  rw [check_iff]
  refine ⟨by simp [headF], ?_, ?_⟩
  · intro f hf
    rw [fieldL_iff]
    simp only [headF, List.mem_cons, List.not_mem_nil, or_false] at hf
    rcases hf with rfl | rfl | rfl | rfl | rfl
    · exact ⟨show nameL nNumber = true by decide, by simp [numF], by simp [numF]⟩
    · exact ⟨show nameL nPos = true by decide, by simp [numF], by simp [numF]⟩
    · exact ⟨show nameL nStream = true by decide, by simp [textFl, hs], by simp [textFl]⟩
    · exact ⟨show nameL nType = true by decide, by simp [textFl, ht], by simp [textFl]⟩
    · exact ⟨show nameL nVersion = true by decide, by simp [numF], by simp [numF]⟩
  · simp only [headF, Srt, List.pairwise_cons, List.mem_cons, List.not_mem_nil, or_false]
    simp only [numF, textFl]
    refine ⟨?_, ?_, ?_, ?_, ?_⟩
    all_goals simp only [forall_eq_or_imp, forall_eq, false_imp_iff, implies_true]
    all_goals first | trivial | decide
def rangeE (x : En) : Prop := (-9223372036854775808 ≤ x.number ∧ x.number ≤ 9223372036854775807) ∧ (-9223372036854775808 ≤ x.pos ∧ x.pos ≤ 9223372036854775807) ∧ (-9223372036854775808 ≤ x.version ∧ x.version ≤ 9223372036854775807) ∧ ∀ f ∈ x.fields, rangeF f
theorem head_range {x : En} (h : rangeE x) : ∀ f ∈ headF x, rangeF f := by
  intro f hf
  simp only [headF, List.mem_cons, List.not_mem_nil, or_false] at hf
  rcases hf with rfl | rfl | rfl | rfl | rfl
  · exact h.1
  · exact h.2.1
  · exact ⟨by simp [textFl], by simp [textFl]⟩
  · exact ⟨by simp [textFl], by simp [textFl]⟩
  · exact h.2.2.1
theorem head_back {x : En} (h : rangeE x) (hs : x.stream.length ≤ 200) (ht : x.type.length ≤ 200) : readL (recordL (headF x)) = (headF x, 0) := read_write (head_check hs ht) (head_range h)
theorem fields_back {x : En} (h : rangeE x) (hc : checkL x.fields = 0) : readL (recordL x.fields) = (x.fields, 0) := read_write hc h.2.2.2
end Go.Proofs.YtfkmgnldkmpeiaaGreatDoor.P20
