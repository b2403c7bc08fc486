/-
  Walks of layer 18: the program's closing. Conditions: the reader and the headers' rows lie in memory; the text is within Go's own limit.
-/
import Derived.Test.YtcgeiimihihhpaaGreatDoorGf

namespace Go.Proofs.YtcgeiimihihhpaaGreatDoor.W18
open Go Go.RowKit P12 P18

abbrev mark (D : Nat) : Deferred := { target := .collected D, args := #[] }
theorem leaves_marks {F : Fence} {n : Nat} {fn : Func} {tmps : Array Value} {R : Ending → World → Prop} (lim : Nat) : ∀ (Ds : List Nat) (W : World), (∀ D ∈ Ds, W.heap[D]? = some (.deferred (some [])) ∧ lim ≤ D) → Ds.Pairwise (· ≠ ·) →
    (∀ W', Below lim W W' → LeavesInM F n Tryz.prog fn tmps R [] .returning W') → LeavesInM F n Tryz.prog fn tmps R (Ds.map mark) .returning W
  | [], W, _, _, h => h W (Below.refl _ _)
  | D :: Ds, W, hD, hP, h => by
    obtain ⟨h1, h2⟩ := hD D (by simp)
    rw [List.pairwise_cons] at hP
    refine ⟨by simp, .inl ⟨D, _, rfl, run_takeDeferred h1, ?_⟩⟩
    refine leaves_marks lim Ds _ (fun E hE => ?_) hP.2 (fun W' hb => h W' ((only_putObj h2 W _).trans hb))
    obtain ⟨e1, e2⟩ := hD E (by simp [hE])
    exact ⟨(World.putObj_heap_other (hP.1 E hE).symm).trans e1, e2⟩
/-- Where the loop over the headers stands. -/
def ClI (b : Nat) (d : ByteArray) (j : Nat) (m p q v y z : Value) (c : Bool) (hs : List Hdr) (w : World) (base : Nat) (a : Act) (W : World) : Prop :=
  ∃ (k : Nat) (Ds : List Nat) (i : Int), k ≤ hs.length ∧ i = k ∧ (∃ t3 t4 t12 t13 t14 t15 t16 t17 t18 t19 t20 t21 t22 t23 t24 t25 t26 t27 t28 t29 t30 t31 t32 t33 t34 t35 t36 t37 t38 t39 : Value, a = { tmps := #[.pointer (some ⟨b, 0, none⟩), .pointer (some ⟨w.heap.size, 0, none⟩), undef, t3, t4, .pointer (some ⟨b, 0, none⟩), .pointer (some ⟨b, 0, none⟩), .pointer (some ⟨b, 2, none⟩), .pointer (some ⟨b, 5, none⟩), v, .int .i64 hs.length, .int .i64 i, t12, t13, t14, t15, t16, t17, t18, t19, t20, t21, t22, t23, t24, t25, t26, t27, t28, t29, t30, t31, t32, t33, t34, t35, t36, t37, t38, t39], defers := Ds.map mark }) ∧
    Rd b (rdr d j m p q v y (.bool (c || (hs.take k).any closeH)) z) W ∧ Only b w W ∧ OwnH W base v hs ∧ W.heap[w.heap.size]? = some (.cells #[.pointer (some ⟨b, 0, none⟩)] 42 (0, 0)) ∧
    (∀ D ∈ Ds, W.heap[D]? = some (.deferred (some [])) ∧ w.heap.size + 1 ≤ D) ∧ Ds.Pairwise (· ≠ ·)
def clM (n : Nat) (a : Act) : Nat := match (a.tmps[11]? : Option Value) with
  | some (Value.int _ i) => n - i.toNat
  | _ => 0
def partC (x : P12.By) : Bool := decide (smallL (trimL x) = closeV)
theorem closeH_eq (h : Hdr) : closeH h = (decide (h.name = connN) && (partsL 44 h.value).any partC) := rfl
theorem own_lim {w w' : World} {B base : Nat} {e : TypeId} {size : Nat} {v : Value} {n : Nat} {xs : List Value} (hlim : ∀ k, v.ownBlock = some k → k < B) (h : w.ownsRow base e size v n xs) (hb : Below B w w') : w'.ownsRow base e size v n xs := by
  refine ⟨h.1, ?_⟩
  rcases h.2 with hn | ⟨g, cap, cur, rfl, hbg, hgg, rest⟩
  · exact .inl hn
  · exact .inr ⟨g, cap, cur, rfl, hbg, (hb.block g (hlim g rfl)).trans hgg, rest⟩
theorem dropWhile_le (p : UInt8 → Bool) : ∀ l : P12.By, (l.dropWhile p).length ≤ l.length
  | [] => by simp
  | c :: l => by
    have := dropWhile_le p l
    rw [List.dropWhile_cons]
    split
    · simp; omega
    · simp
theorem trim_le (l : P12.By) : (trimL l).length ≤ l.length := by
  unfold trimL
  rw [List.length_reverse]
  refine Nat.le_trans (dropWhile_le _ _) ?_
  rw [List.length_reverse]
  exact dropWhile_le _ _
theorem four_allocs (W : World) (a b c d : Obj) : ((((W.alloc a).alloc b).alloc c).alloc d).heap[W.heap.size]? = some a ∧ ((((W.alloc a).alloc b).alloc c).alloc d).heap[W.heap.size + 1]? = some b ∧
    ((((W.alloc a).alloc b).alloc c).alloc d).heap[W.heap.size + 1 + 1]? = some c ∧ ((((W.alloc a).alloc b).alloc c).alloc d).heap[W.heap.size + 1 + 2]? = some d := by
  show ((((W.heap.push a).push b).push c).push d)[W.heap.size]? = some a ∧ ((((W.heap.push a).push b).push c).push d)[W.heap.size + 1]? = some b ∧ ((((W.heap.push a).push b).push c).push d)[W.heap.size + 1 + 1]? = some c ∧ ((((W.heap.push a).push b).push c).push d)[W.heap.size + 1 + 2]? = some d
  generalize W.heap = h
  refine ⟨?_, ?_, ?_, ?_⟩
  · simp only [Array.getElem?_push, Array.size_push]
    rw [if_neg (by omega), if_neg (by omega), if_neg (by omega)]
    simp
  · simp only [Array.getElem?_push, Array.size_push]
    rw [if_neg (by omega), if_neg (by omega)]
    simp
  · simp only [Array.getElem?_push, Array.size_push]
    rw [if_neg (by omega)]
    simp
  · simp only [Array.getElem?_push, Array.size_push]
    simp
theorem any_next {l : List Hdr} {k : Nat} {x : Hdr} (h : l[k]? = some x) : (l.take (k + 1)).any closeH = ((l.take k).any closeH || closeH x) := by
  obtain ⟨hk, e⟩ := List.getElem?_eq_some_iff.1 h
  rw [List.take_succ_eq_append_getElem hk, List.any_append, e]
  simp
theorem any_part {l : List P12.By} {k : Nat} {x : P12.By} (h : l[k]? = some x) : (l.take (k + 1)).any partC = ((l.take k).any partC || partC x) := by
  obtain ⟨hk, e⟩ := List.getElem?_eq_some_iff.1 h
  rw [List.take_succ_eq_append_getElem hk, List.any_append, e]
  simp

attribute [local go_sem] Oper.semAt_some undef
set_option maxHeartbeats 3200000 in
set_option maxRecDepth 1000000 in
theorem closing_any (b : Nat) (d : ByteArray) (j : Nat) (m p q v y z : Value) (c : Bool) (hs : List Hdr) (w : World) (base : Nat) (hr : Rd b (rdr d j m p q v y (.bool c) z) w) (hv : OwnH w base v hs) (hbb : b < base) (hl : hs.length ≤ 16) (hval : ∀ h ∈ hs, h.value.length ≤ 1000) :
    Calls Tryz.prog 21 #[.pointer (some ⟨b, 0, none⟩)] w fun e w' => e = .returned (.tuple #[]) ∧ Rd b (rdr d j m p q v y (.bool (c || closeL hs)) z) w' ∧ Only b w w' := by
  have hbl := hr.lt
  have hb0 := below_alloc w (.cells #[.pointer (some ⟨b, 0, none⟩)] 42)
  have hx0 := heap_new w (.cells #[.pointer (some ⟨b, 0, none⟩)] 42)
  have hr0 := hr.keep hb0
  have hv0 := own_keep hv hb0
  have hO0 := Only.of hbl hb0
  obtain ⟨o, cp, rfl⟩ := own_slice hv
  have x5 : w.cell? ⟨b, 5, none⟩ = some (.slice o hs.length cp) := hr.cell 5
  refine (callsIn_wide (n := 5)).1 ?_
  refine callsIn_of_wp_marks Tryz.func21 rfl trivial ?_ rfl
  refine wpIn_wide.2 ?_
  simp only [Tryz.ntmps21, List.size_toArray, List.length_cons, List.length_nil, Nat.reduceAdd, Nat.reduceSub, Array.replicate_succ, Array.replicate_zero, List.push_toArray, List.append_toArray, List.nil_append, List.cons_append]
  go_wp2_with fail
  refine wp_loop (fun a W => ClI b d j m p q (.slice o hs.length cp) y z c hs w base a W) (fun a _ => clM hs.length a) ?_ ?_
  · exact ⟨0, [], 0, by omega, rfl, ⟨_, _, _, _, _, _, _, _, _, _, _, _, _, _, _, _, _, _, _, _, _, _, _, _, _, _, _, _, _, _, rfl⟩, by simpa using hr0, hO0, hv0, hx0, by simp, by simp⟩
  · clear hr hv hb0 hx0 hr0 hv0 hO0 x5
    rintro a W ⟨k, Ds, i, hk, rfl, ⟨t3, t4, t12, t13, t14, t15, t16, t17, t18, t19, t20, t21, t22, t23, t24, t25, t26, t27, t28, t29, t30, t31, t32, t33, t34, t35, t36, t37, t38, t39, rfl⟩, hr1, hO1, hv1, hx1, hD, hP⟩
    by_cases hlt : k < hs.length
    · obtain ⟨o2, c2, e2, hrow⟩ := OwnH.rows hv1
      injection e2 with e3 e4 e5
      subst e3 e5
      obtain ⟨g, off, rfl, hcl⟩ := hrow.resolve_left (by rintro rfl; simp at hlt)
      obtain ⟨x, hx⟩ : ∃ x, hs[k]? = some x := ⟨hs[k]'hlt, List.getElem?_eq_getElem _⟩
      have y0 := (hcl k x hx).1
      have y1 := (hcl k x hx).2
      have hlim : ∀ n, (Value.slice (some ⟨g, off, none⟩) hs.length cp).ownBlock = some n → n < W.heap.size := fun n e => (hv1.lt n e).2
      obtain ⟨A, hA⟩ : ∃ A : ByteArray, A = ⟨x.name.toArray⟩ := ⟨_, rfl⟩
      obtain ⟨B, hB⟩ : ∃ A : ByteArray, A = ⟨x.value.toArray⟩ := ⟨_, rfl⟩
      simp only [bs] at y0 y1
      rw [← hA] at y0
      rw [← hB] at y1
      have hAd : A.data.toList = x.name := by rw [hA]
      have hBd : B.data.toList = x.value := by rw [hB]
      have hBs : B.size ≤ 1000 := by rw [← size_data, hBd]; exact hval x (List.mem_of_getElem? hx)
      have hlt' : (k : Int) < (hs.length : Int) := by omega
      have i6 : IntKind.i64.wrap ((k : Int) + 1) = (k : Int) + 1 := by rw [IntKind.wrap_i64]; omega
      have hnx := any_next hx
      obtain ⟨c1, hc1⟩ : ∃ c1, c1 = (c || (hs.take k).any closeH) := ⟨_, rfl⟩
      rw [← hc1] at hr1
      have HNX := Lib.hid (show (c || (hs.take (k + 1)).any closeH) = (c1 || (decide (x.name = connN) && (partsL 44 B.data.toList).any partC)) by rw [hnx, ← Bool.or_assoc, ← hc1, closeH_eq, hBd])
      have hWlt := hr1.lt
      have hxlt := lt_of_block hx1
      have HD := Lib.hid hD
      have HDlt := Lib.hid (show ∀ D ∈ Ds, D < W.heap.size from fun D hd => lt_of_block (hD D hd).1)
      clear hnx hc1 hcl hrow hA hB hx hBd hD
      obtain ⟨W4, hW4⟩ : ∃ W4, W4 = (((W.alloc (.cells #[.string A, .string B] 32)).alloc (.cells #[.string B] 9)).alloc (.cells #[.string ⟨#[44]⟩] 9)).alloc (.cells #[.int .i64 0] 3) := ⟨_, rfl⟩
      have hz4 : W4.heap.size = W.heap.size + 4 := by rw [hW4]; simp
      have hb4 : Below W.heap.size W W4 := by rw [hW4]; exact ((((Below.refl _ W).alloc (Nat.le_refl _) _).alloc (by simp) _).alloc (by simp; omega) _).alloc (by simp; omega) _
      have hfour := four_allocs W (.cells #[.string A, .string B] 32) (.cells #[.string B] 9) (.cells #[.string ⟨#[44]⟩] 9) (.cells #[.int .i64 0] 3)
      rw [← hW4] at hfour
      obtain ⟨g0, g1, g2, g3⟩ := hfour
      have hsq := SplitSeq_any B (W.alloc (.cells #[.string A, .string B] 32))
      rw [← hW4] at hsq
      simp only [World.size_alloc] at hsq
      clear hW4
      go_wp2_with (go_at_call 52; refine hsq.mono ?_; rintro e W5 ⟨rfl, rfl⟩; refine Hid.out ?_)
      refine Lib.hid ?_
      clear hsq
      go_wp2_with fail
      refine wp_rangeSplit (gf := 104) (lb := #[.pointer (some ⟨W.heap.size + 1 + 1, 0, none⟩), .pointer (some ⟨W.heap.size + 1, 0, none⟩), .pointer (some ⟨W.heap.size + 1 + 2, 0, none⟩)]) rfl (fun _ _ => by kernel_rfl) (W.heap.size + 1) b (by omega) (by omega) (partsL 44 B.data.toList) (split_gives B (W.heap.size + 1) W5 (by omega) g1 g2 g3) rfl
        (fun n W2 => Rd b (rdr d j m p q (.slice (some ⟨g, off, none⟩) hs.length cp) y (.bool (c1 || (decide (x.name = connN) && ((partsL 44 B.data.toList).take n).any partC))) z) W2 ∧ Only b w W2 ∧ OwnH W2 base (.slice (some ⟨g, off, none⟩) hs.length cp) hs ∧ W2.heap[w.heap.size]? = some (.cells #[.pointer (some ⟨b, 0, none⟩)] 42 (0, 0)) ∧ W2.heap[W.heap.size]? = some (.cells #[.string A, .string B] 32 (0, 0)) ∧ (∀ D ∈ Ds, W2.heap[D]? = some (.deferred (some []))))
        ?hI ?h0 ?a1 ?assign ?body ?done
      case assign =>
        intro l px W2 K hK
        gi_wp2
        exact hK
      case hI =>
        rintro n X Y ⟨h1, h2, h3, h4, h5, h6⟩ hb
        exact ⟨h1.over (by omega) hb, h2.over hbl (hb.mono (by omega)), own_lim (fun n e => by have := hlim n e; omega) h3 hb, (hb.block _ (by omega)).trans h4, (hb.block _ (by omega)).trans h5, fun D hd => (hb.block D (by have := HDlt.out D hd; omega)).trans (h6 D hd)⟩
      case h0 =>
        refine ⟨?_, hO1.trans (Only.of hWlt hb4), own_keep hv1 hb4, (hb4.block _ hxlt).trans hx1, g0, fun D hd => (hb4.block D (HDlt.out D hd)).trans (HD.out D hd).1⟩
        have := hr1.keep hb4
        simpa using this
      case body =>
        intro l n px W2 hpx hI2
        obtain ⟨h1, h2, h3, h4, h5, h6⟩ := hI2
        have hpl : px.length ≤ 1000 := by
          have := parts_le (List.mem_of_getElem? hpx)
          rw [size_data] at this
          omega
        have hmx : Tryz.prog.follows .mixedOrders = true := by kernel_rfl
        have e1 := cell_of_one h4
        have e2 : W2.cell? ⟨W.heap.size, 0, none⟩ = some (.string A) := by unfold World.cell?; dsimp only; rw [h5]; rfl
        have e3 : W2.cell? ⟨b, 7, none⟩ = some (.bool (c1 || (decide (x.name = connN) && ((partsL 44 B.data.toList).take n).any partC))) := h1.cell 7
        have f7 := h1.free 7
        have hap := any_part hpx
        obtain ⟨C, hC⟩ : ∃ C, C = (c1 || (decide (x.name = connN) && ((partsL 44 B.data.toList).take n).any partC)) := ⟨_, rfl⟩
        rw [← hC] at h1 e3
        have hnxt : (c1 || (decide (x.name = connN) && ((partsL 44 B.data.toList).take (n + 1)).any partC)) = (C || (decide (x.name = connN) && partC px)) := by
          rw [hap, hC, Bool.or_assoc, Bool.and_or_distrib_left]
        have HN := Lib.hid hnxt
        have h1lt := h1.lt
        have H5 := Lib.hid h5
        clear hap hC hnxt hpx h5
        have hend : ∀ (W' : World) (v : Bool), v = (C || (decide (x.name = connN) && partC px)) → Below W2.heap.size W2 W' → Only b W2 (W'.setCell ⟨b, 7, none⟩ (.bool v)) ∧ (Rd b (rdr d j m p q (.slice (some ⟨g, off, none⟩) hs.length cp) y (.bool (c1 || (decide (x.name = connN) && ((partsL 44 B.data.toList).take (n + 1)).any partC))) z) (W'.setCell ⟨b, 7, none⟩ (.bool v)) ∧ Only b w (W'.setCell ⟨b, 7, none⟩ (.bool v)) ∧ OwnH (W'.setCell ⟨b, 7, none⟩ (.bool v)) base (.slice (some ⟨g, off, none⟩) hs.length cp) hs ∧ (W'.setCell ⟨b, 7, none⟩ (.bool v)).heap[w.heap.size]? = some (.cells #[.pointer (some ⟨b, 0, none⟩)] 42 (0, 0)) ∧ (W'.setCell ⟨b, 7, none⟩ (.bool v)).heap[W.heap.size]? = some (.cells #[.string A, .string B] 32 (0, 0)) ∧ (∀ D ∈ Ds, (W'.setCell ⟨b, 7, none⟩ (.bool v)).heap[D]? = some (.deferred (some [])))) := by
          intro W' v hv hb
          have hs7 := (h1.keep hb).set 7 (.bool v) (by simp)
          have ho := (Only.of h1lt hb).trans (Only.set W' 7 (.bool v))
          refine ⟨ho, ?_, h2.trans ho, ownsRow_setCell_below (own_keep h3 hb) (a := ⟨b, 7, none⟩) hbb _, ?_, ?_, fun D hd => ?_⟩
          · rw [HN.out, ← hv]
            exact hs7
          · exact (ho.other (by omega) (lt_of_block h4)).trans h4
          · exact (ho.other (by omega) (lt_of_block H5.out)).trans H5.out
          · exact (ho.other (by have := (HD.out D hd).2; omega) (lt_of_block (h6 D hd))).trans (h6 D hd)
        cases C with
        | true =>
          gi_wp2
          gi_region_with_o (first | (refine ⟨trivial, ?_⟩))
          all_goals gi_wp2
          all_goals first | exact hend W2.drew true rfl (below_drewN W2 1) | exact ⟨rfl, hend W2.drew true rfl (below_drewN W2 1)⟩
        | false =>
          by_cases hcn : x.name = connN
          · have gA : A.toList = [99, 111, 110, 110, 101, 99, 116, 105, 111, 110] := by rw [Lib.toList_data, hAd]; exact hcn
            obtain ⟨T, hT⟩ : ∃ X : ByteArray, X = ⟨(trimL (⟨px.toArray⟩ : ByteArray).data.toList).toArray⟩ := ⟨_, rfl⟩
            obtain ⟨S, hS⟩ : ∃ X : ByteArray, X = ⟨(smallL T.data.toList).toArray⟩ := ⟨_, rfl⟩
            have hTs : T.size ≤ 1000 := by
              rw [hT, size_mk]
              exact Nat.le_trans (trim_le _) hpl
            have htr := fun X => Trim_any ⟨px.toArray⟩ T hT X (by rw [size_mk]; omega)
            have hsm := fun X => small_any T S hS X (by omega)
            have hSd : S.data.toList = smallL (trimL px) := by rw [hS, hT]
            have hcc : (false || (decide (x.name = connN) && partC px)) = partC px := by rw [decide_eq_true hcn]; rfl
            rw [hcc] at hend
            clear hcc hcn
            by_cases hcl : S.data.toList = closeV
            · have gS : S.toList = [99, 108, 111, 115, 101] := by rw [Lib.toList_data]; exact hcl
              have hpc : partC px = true := by unfold partC; rw [← hSd]; exact decide_eq_true hcl
              clear hT hS hcl hSd
              gi_wp2
              gi_region_with_o (first
                | (refine ⟨trivial, ?_⟩; gi_at_call 44; refine (CallsIn.inRound l (callsIn_wide.2 (htr _))).mono ?_; rintro e w3 ⟨rfl, hb3⟩; have r3 := Rd.keep (w := W2.drew) h1 hb3; have q7 := r3.free 7; have u7 : w3.cell? ⟨b, 7, none⟩ = some (.bool false) := r3.cell 7; have z1 := keep_cell (w := W2.drew) hb3 e1)
                | (refine ⟨trivial, ?_⟩; gi_at_call 43; refine (CallsIn.inRound l (callsIn_wide.2 (hsm _))).mono ?_; rintro e w4 ⟨rfl, hb4⟩; have r4 := r3.keep hb4; have s7 := r4.free 7; have v7 : w4.cell? ⟨b, 7, none⟩ = some (.bool false) := r4.cell 7; have z2 := keep_cell hb4 z1))
              all_goals gi_wp2
              all_goals first | exact hend w4 true hpc.symm (below_then (below_then (below_drewN W2 1) hb3) hb4) | exact ⟨rfl, hend w4 true hpc.symm (below_then (below_then (below_drewN W2 1) hb3) hb4)⟩
            · have gS : ¬ S.toList = [99, 108, 111, 115, 101] := by rw [Lib.toList_data]; exact hcl
              have gS' : (S.toList == [99, 108, 111, 115, 101]) = false := beq_eq_false_iff_ne.2 gS
              have hpc : partC px = false := by unfold partC; rw [← hSd]; exact decide_eq_false hcl
              clear hT hS hcl hSd
              gi_wp2
              gi_region_with_o (first
                | (refine ⟨trivial, ?_⟩; gi_at_call 44; refine (CallsIn.inRound l (callsIn_wide.2 (htr _))).mono ?_; rintro e w3 ⟨rfl, hb3⟩; have r3 := Rd.keep (w := W2.drew) h1 hb3; have q7 := r3.free 7; have u7 : w3.cell? ⟨b, 7, none⟩ = some (.bool false) := r3.cell 7; have z1 := keep_cell (w := W2.drew) hb3 e1)
                | (refine ⟨trivial, ?_⟩; gi_at_call 43; refine (CallsIn.inRound l (callsIn_wide.2 (hsm _))).mono ?_; rintro e w4 ⟨rfl, hb4⟩; have r4 := r3.keep hb4; have s7 := r4.free 7; have v7 : w4.cell? ⟨b, 7, none⟩ = some (.bool false) := r4.cell 7; have z2 := keep_cell hb4 z1))
              all_goals gi_wp2
              all_goals first | exact hend w4 false hpc.symm (below_then (below_then (below_drewN W2 1) hb3) hb4) | exact ⟨rfl, hend w4 false hpc.symm (below_then (below_then (below_drewN W2 1) hb3) hb4)⟩
          · have gA : ¬ A.toList = [99, 111, 110, 110, 101, 99, 116, 105, 111, 110] := by rw [Lib.toList_data, hAd]; exact hcn
            have gA' : (A.toList == [99, 111, 110, 110, 101, 99, 116, 105, 111, 110]) = false := beq_eq_false_iff_ne.2 gA
            have hcc : (false || (decide (x.name = connN) && partC px)) = false := by rw [decide_eq_false hcn]; rfl
            rw [hcc] at hend
            clear hcc hcn
            gi_wp2
            gi_region_with_o (first | (refine ⟨trivial, ?_⟩))
            all_goals gi_wp2
            all_goals first | exact hend W2.drew false rfl (below_drewN W2 1) | exact ⟨rfl, hend W2.drew false rfl (below_drewN W2 1)⟩
      case done =>
        rintro W2 ⟨h1, h2, h3, h4, h5, h6⟩ hdef
        rw [List.take_of_length_le (Nat.le_refl _), ← HNX.out] at h1
        go_wp2_with fail
        refine ⟨⟨k + 1, W5.heap.size :: Ds, (k : Int) + 1, by omega, by omega, ⟨_, _, _, _, _, _, _, _, _, _, _, _, _, _, _, _, _, _, _, _, _, _, _, _, _, _, _, _, _, _, rfl⟩, h1, h2, h3, h4, ?_, ?_⟩, ?_⟩
        · intro D hd
          rcases List.mem_cons.1 hd with rfl | hd
          · exact ⟨hdef, by omega⟩
          · exact ⟨h6 D hd, (HD.out D hd).2⟩
        · exact List.pairwise_cons.2 ⟨fun D hd => by have := HDlt.out D hd; omega, hP⟩
        · simp [clM]; omega
    · obtain rfl : k = hs.length := by omega
      go_wp2_with fail
      refine leaves_marks (w.heap.size + 1) Ds W hD hP (fun W' hb => ?_)
      refine ⟨_, results_none rfl _ _ _, rfl, ?_, hO1.over hbl (hb.mono (by omega))⟩
      have := hr1.over (by omega) hb
      rw [List.take_of_length_le (Nat.le_refl _)] at this
      exact this
end Go.Proofs.YtcgeiimihihhpaaGreatDoor.W18
