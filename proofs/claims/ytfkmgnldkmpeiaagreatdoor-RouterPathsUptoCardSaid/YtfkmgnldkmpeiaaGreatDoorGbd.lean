/-
  Walks of layer 20: the reference's call, way by way. Conditions: sixteen times the path's length is within Go's own limit. Printed by wip/tools/refcall20.py.
-/
import Derived.Test.YtfkmgnldkmpeiaaGreatDoorGbc
import Derived.StillTailTactics

namespace Go.Proofs.YtfkmgnldkmpeiaaGreatDoor.W20
open Go Go.RowKit P12 P18 P20 W12

/-- The path has these parts. -/
def HasParts (s : ByteArray) (us : List By) : Prop := ∀ W, Calls Tryz.prog 68 #[.string s] W fun e w' => ∃ v, e = .returned (.tuple #[v, .bool true]) ∧ Strs v us w' ∧ Below W.heap.size W w'
theorem hasParts {s : ByteArray} (hs : s.size ≤ 1000000000000) {us : List By} (h : partsU s.data.toList = some us) : HasParts s us := fun W => (refParts_any s hs W).mono fun e w' ⟨h1, hb⟩ => by
  rcases h1 with ⟨h2, _⟩ | ⟨us', v, h2, he, hst⟩
  · rw [h] at h2; cases h2
  · rw [h] at h2
    injection h2 with h2
    subst h2
    exact ⟨v, he, hst, hb⟩
theorem noParts {s : ByteArray} (hs : s.size ≤ 1000000000000) (h : partsU s.data.toList = none) (W : World) : Calls Tryz.prog 68 #[.string s] W fun e w' => e = .returned (.tuple #[.slice none 0 0, .bool false]) ∧ Below W.heap.size W w' := (refParts_any s hs W).mono fun e w' ⟨h1, hb⟩ => by
  rcases h1 with ⟨_, he⟩ | ⟨us', v, h2, _, _⟩
  · exact ⟨he, hb⟩
  · rw [h] at h2; cases h2
theorem strs1 {v : Value} {A : ByteArray} {W : World} (h : Strs v [A.data.toList] W) : ∃ g off c, v = .slice (some ⟨g, off, none⟩) 1 c ∧ W.cell? ⟨g, off, none⟩ = some (.string A) := by
  obtain ⟨g, off, c, rfl, hh⟩ := strs_one h
  rw [bs_data] at hh
  exact ⟨g, off, c, rfl, hh⟩
theorem strs2 {v : Value} {A B : ByteArray} {W : World} (h : Strs v [A.data.toList, B.data.toList] W) : ∃ g off c, v = .slice (some ⟨g, off, none⟩) 2 c ∧ W.cell? ⟨g, off, none⟩ = some (.string A) ∧ W.cell? ⟨g, off + 1, none⟩ = some (.string B) := by
  obtain ⟨g, off, c, rfl, hh, kk⟩ := strs_two h
  rw [bs_data] at hh kk
  exact ⟨g, off, c, rfl, hh, kk⟩
theorem strs3 {v : Value} {A B C : ByteArray} {W : World} (h : Strs v [A.data.toList, B.data.toList, C.data.toList] W) : ∃ g off c, v = .slice (some ⟨g, off, none⟩) 3 c ∧ W.cell? ⟨g, off, none⟩ = some (.string A) ∧ W.cell? ⟨g, off + 1, none⟩ = some (.string B) ∧ W.cell? ⟨g, off + 2, none⟩ = some (.string C) := by
  obtain ⟨o, c, rfl, h⟩ := h
  obtain ⟨g, off, rfl, hc⟩ := h.resolve_left (by simp)
  have h0 := hc 0 _ rfl
  have h1 := hc 1 _ rfl
  have h2 := hc 2 _ rfl
  rw [bs_data, Nat.add_zero] at h0
  rw [bs_data] at h1 h2
  exact ⟨g, off, c, rfl, h0, h1, h2⟩
set_option maxHeartbeats 3200000 in
set_option maxRecDepth 100000 in
theorem rc_c_yes (s A B C : ByteArray) (w : World) (hp : HasParts s [A.data.toList, B.data.toList, C.data.toList]) (hk : A.data.toList = [99]) (hfits : fitsL B.data.toList = true) (hname : nameL C.data.toList = true) : Calls Tryz.prog 32 #[.string s] w fun e w' => e = .returned (.tuple #[.agg #[.int .i64 1, .string B, .string C, .string ⟨#[]⟩, .int .i64 (-1), .slice none 0 0, .string ⟨#[]⟩, .int .i64 0, .int .i64 0, .string ⟨#[]⟩, .string ⟨#[]⟩], .string postB]) ∧ Below w.heap.size w w' := by
  have hb := below_alloc w (.cells zeroCl tCl)
  have hx := new_at w zeroCl tCl
  have hz : A.toList = [99] := by rw [Lib.toList_data]; exact hk
  have cfits := fun V => refFits_any B V
  rw [hfits] at cfits
  have Hfits := Lib.hid cfits
  have cname := fun V => refName_any C V
  rw [hname] at cname
  have Hname := Lib.hid cname
  have HP := Lib.hid hp
  clear hp hk hfits cfits hname cname
  go_enter Tryz.func32, Tryz.ntmps32
  go_wp2_with (first
    | (go_at_call 68; refine (HP.out _).mono ?_; rintro e w2 ⟨v, rfl, hst, hb2⟩; obtain ⟨g, off, cp, rfl, ca, cb, cc⟩ := strs3 hst; have hx2 := keep_at hx hb2; have hbb2 := below_then hb hb2; clear hx)
    | (go_at_call 69; refine (Hfits.out _).mono ?_; rintro e w' ⟨rfl, rfl⟩)
    | (go_at_call 70; refine (Hname.out _).mono ?_; rintro e w3 ⟨rfl, hb3⟩; have hx3 := keep_at hx2 hb3; have hbb3 := below_then hbb2 hb3; have ca3 := keep_cell hb3 ca; have cb3 := keep_cell hb3 cb; have cc3 := keep_cell hb3 cc))
  go_still_tail 8, (by kernel_rfl)
  have hx8 : StAt tCl w.heap.size zeroCl w3.drew := hx3
  have hb8 : Below w.heap.size w w3.drew := hbb3.trans ((below_drewN w3 1).mono hbb3.size)
  change wpList _ _ _ _ _ w3.drew
  generalize w3.drew = w8 at hx8 hb8 ⊢
  go_wp2_with (refine put_st rfl _ _ _ rfl w.heap.size #[.int .i64 1, .string B, .string C, .string ⟨#[]⟩, .int .i64 (-1), .slice none 0 0, .string ⟨#[]⟩, .int .i64 0, .int .i64 0, .string ⟨#[]⟩, .string ⟨#[]⟩] rfl rfl hx8 infoCl rfl (by simp [Value.oneCell']) ?_; intro w9 h1 h2 h3)
  exact bodyPost_ret (v := .tuple #[.agg #[.int .i64 1, .string B, .string C, .string ⟨#[]⟩, .int .i64 (-1), .slice none 0 0, .string ⟨#[]⟩, .int .i64 0, .int .i64 0, .string ⟨#[]⟩, .string ⟨#[]⟩], .string postB]) (ret_st2 Tryz.results32 _ _ _ _ rfl (load_cl h1 rfl)) rfl ⟨rfl, hb8.trans h2⟩
set_option maxHeartbeats 3200000 in
set_option maxRecDepth 100000 in
theorem rc_c_noname (s A B C : ByteArray) (w : World) (hp : HasParts s [A.data.toList, B.data.toList, C.data.toList]) (hk : A.data.toList = [99]) (hfits : fitsL B.data.toList = true) (hname : nameL C.data.toList = false) : Calls Tryz.prog 32 #[.string s] w fun e w' => e = .returned (.tuple #[.agg zeroCl, .string ⟨#[]⟩]) ∧ Below w.heap.size w w' := by
  have hb := below_alloc w (.cells zeroCl tCl)
  have hx := new_at w zeroCl tCl
  have hz : A.toList = [99] := by rw [Lib.toList_data]; exact hk
  have cfits := fun V => refFits_any B V
  rw [hfits] at cfits
  have Hfits := Lib.hid cfits
  have cname := fun V => refName_any C V
  rw [hname] at cname
  have Hname := Lib.hid cname
  have HP := Lib.hid hp
  clear hp hk hfits cfits hname cname
  go_enter Tryz.func32, Tryz.ntmps32
  go_wp2_with (first
    | (go_at_call 68; refine (HP.out _).mono ?_; rintro e w2 ⟨v, rfl, hst, hb2⟩; obtain ⟨g, off, cp, rfl, ca, cb, cc⟩ := strs3 hst; have hx2 := keep_at hx hb2; have hbb2 := below_then hb hb2; clear hx)
    | (go_at_call 69; refine (Hfits.out _).mono ?_; rintro e w' ⟨rfl, rfl⟩)
    | (go_at_call 70; refine (Hname.out _).mono ?_; rintro e w3 ⟨rfl, hb3⟩; have hx3 := keep_at hx2 hb3; have hbb3 := below_then hbb2 hb3; have ca3 := keep_cell hb3 ca; have cb3 := keep_cell hb3 cb; have cc3 := keep_cell hb3 cc)
    | (refine put_st rfl _ _ _ rfl w.heap.size zeroCl rfl rfl hx3 infoCl rfl (by simp [Value.oneCell']) ?_; intro w9 h1 h2 h3))
  exact bodyPost_ret (v := .tuple #[.agg zeroCl, .string ⟨#[]⟩]) (ret_st2 Tryz.results32 _ _ _ _ rfl (load_cl h1 rfl)) rfl ⟨rfl, hbb3.trans h2⟩
set_option maxHeartbeats 3200000 in
set_option maxRecDepth 100000 in
theorem rc_c_nofit (s A B C : ByteArray) (w : World) (hp : HasParts s [A.data.toList, B.data.toList, C.data.toList]) (hk : A.data.toList = [99]) (hfits : fitsL B.data.toList = false) : Calls Tryz.prog 32 #[.string s] w fun e w' => e = .returned (.tuple #[.agg zeroCl, .string ⟨#[]⟩]) ∧ Below w.heap.size w w' := by
  have hb := below_alloc w (.cells zeroCl tCl)
  have hx := new_at w zeroCl tCl
  have hz : A.toList = [99] := by rw [Lib.toList_data]; exact hk
  have cfits := fun V => refFits_any B V
  rw [hfits] at cfits
  have Hfits := Lib.hid cfits
  have HP := Lib.hid hp
  clear hp hk hfits cfits
  go_enter Tryz.func32, Tryz.ntmps32
  go_wp2_with (first
    | (go_at_call 68; refine (HP.out _).mono ?_; rintro e w2 ⟨v, rfl, hst, hb2⟩; obtain ⟨g, off, cp, rfl, ca, cb, cc⟩ := strs3 hst; have hx2 := keep_at hx hb2; have hbb2 := below_then hb hb2; clear hx)
    | (go_at_call 69; refine (Hfits.out _).mono ?_; rintro e w' ⟨rfl, rfl⟩)
    | (refine put_st rfl _ _ _ rfl w.heap.size zeroCl rfl rfl hx2 infoCl rfl (by simp [Value.oneCell']) ?_; intro w9 h1 h2 h3))
  exact bodyPost_ret (v := .tuple #[.agg zeroCl, .string ⟨#[]⟩]) (ret_st2 Tryz.results32 _ _ _ _ rfl (load_cl h1 rfl)) rfl ⟨rfl, hbb2.trans h2⟩
set_option maxHeartbeats 3200000 in
set_option maxRecDepth 100000 in
theorem rc_p_yes (s A B C : ByteArray) (w : World) (hp : HasParts s [A.data.toList, B.data.toList, C.data.toList]) (hk : A.data.toList = [112]) (hname : nameL B.data.toList = true) (hfits : fitsL C.data.toList = true) : Calls Tryz.prog 32 #[.string s] w fun e w' => e = .returned (.tuple #[.agg #[.int .i64 6, .string ⟨#[]⟩, .string ⟨#[]⟩, .string ⟨#[]⟩, .int .i64 0, .slice none 0 0, .string ⟨#[]⟩, .int .i64 0, .int .i64 0, .string B, .string C], .string getB]) ∧ Below w.heap.size w w' := by
  have hb := below_alloc w (.cells zeroCl tCl)
  have hx := new_at w zeroCl tCl
  have hz : A.toList = [112] := by rw [Lib.toList_data]; exact hk
  have cname := fun V => refName_any B V
  rw [hname] at cname
  have Hname := Lib.hid cname
  have cfits := fun V => refFits_any C V
  rw [hfits] at cfits
  have Hfits := Lib.hid cfits
  have HP := Lib.hid hp
  clear hp hk hname cname hfits cfits
  go_enter Tryz.func32, Tryz.ntmps32
  go_wp2_with (first
    | (go_at_call 68; refine (HP.out _).mono ?_; rintro e w2 ⟨v, rfl, hst, hb2⟩; obtain ⟨g, off, cp, rfl, ca, cb, cc⟩ := strs3 hst; have hx2 := keep_at hx hb2; have hbb2 := below_then hb hb2; clear hx)
    | (go_at_call 70; refine (Hname.out _).mono ?_; rintro e w3 ⟨rfl, hb3⟩; have hx3 := keep_at hx2 hb3; have hbb3 := below_then hbb2 hb3; have ca3 := keep_cell hb3 ca; have cb3 := keep_cell hb3 cb; have cc3 := keep_cell hb3 cc)
    | (go_at_call 69; refine (Hfits.out _).mono ?_; rintro e w' ⟨rfl, rfl⟩))
  go_still_tail 7, (by kernel_rfl)
  have hx8 : StAt tCl w.heap.size zeroCl w3.drew := hx3
  have hb8 : Below w.heap.size w w3.drew := hbb3.trans ((below_drewN w3 1).mono hbb3.size)
  change wpList _ _ _ _ _ w3.drew
  generalize w3.drew = w8 at hx8 hb8 ⊢
  go_wp2_with (refine put_st rfl _ _ _ rfl w.heap.size #[.int .i64 6, .string ⟨#[]⟩, .string ⟨#[]⟩, .string ⟨#[]⟩, .int .i64 0, .slice none 0 0, .string ⟨#[]⟩, .int .i64 0, .int .i64 0, .string B, .string C] rfl rfl hx8 infoCl rfl (by simp [Value.oneCell']) ?_; intro w9 h1 h2 h3)
  exact bodyPost_ret (v := .tuple #[.agg #[.int .i64 6, .string ⟨#[]⟩, .string ⟨#[]⟩, .string ⟨#[]⟩, .int .i64 0, .slice none 0 0, .string ⟨#[]⟩, .int .i64 0, .int .i64 0, .string B, .string C], .string getB]) (ret_st2 Tryz.results32 _ _ _ _ rfl (load_cl h1 rfl)) rfl ⟨rfl, hb8.trans h2⟩
set_option maxHeartbeats 3200000 in
set_option maxRecDepth 100000 in
theorem rc_p_nofit (s A B C : ByteArray) (w : World) (hp : HasParts s [A.data.toList, B.data.toList, C.data.toList]) (hk : A.data.toList = [112]) (hname : nameL B.data.toList = true) (hfits : fitsL C.data.toList = false) : Calls Tryz.prog 32 #[.string s] w fun e w' => e = .returned (.tuple #[.agg zeroCl, .string ⟨#[]⟩]) ∧ Below w.heap.size w w' := by
  have hb := below_alloc w (.cells zeroCl tCl)
  have hx := new_at w zeroCl tCl
  have hz : A.toList = [112] := by rw [Lib.toList_data]; exact hk
  have cname := fun V => refName_any B V
  rw [hname] at cname
  have Hname := Lib.hid cname
  have cfits := fun V => refFits_any C V
  rw [hfits] at cfits
  have Hfits := Lib.hid cfits
  have HP := Lib.hid hp
  clear hp hk hname cname hfits cfits
  go_enter Tryz.func32, Tryz.ntmps32
  go_wp2_with (first
    | (go_at_call 68; refine (HP.out _).mono ?_; rintro e w2 ⟨v, rfl, hst, hb2⟩; obtain ⟨g, off, cp, rfl, ca, cb, cc⟩ := strs3 hst; have hx2 := keep_at hx hb2; have hbb2 := below_then hb hb2; clear hx)
    | (go_at_call 70; refine (Hname.out _).mono ?_; rintro e w3 ⟨rfl, hb3⟩; have hx3 := keep_at hx2 hb3; have hbb3 := below_then hbb2 hb3; have ca3 := keep_cell hb3 ca; have cb3 := keep_cell hb3 cb; have cc3 := keep_cell hb3 cc)
    | (go_at_call 69; refine (Hfits.out _).mono ?_; rintro e w' ⟨rfl, rfl⟩)
    | (refine put_st rfl _ _ _ rfl w.heap.size zeroCl rfl rfl hx3 infoCl rfl (by simp [Value.oneCell']) ?_; intro w9 h1 h2 h3))
  exact bodyPost_ret (v := .tuple #[.agg zeroCl, .string ⟨#[]⟩]) (ret_st2 Tryz.results32 _ _ _ _ rfl (load_cl h1 rfl)) rfl ⟨rfl, hbb3.trans h2⟩
set_option maxHeartbeats 3200000 in
set_option maxRecDepth 100000 in
theorem rc_p_noname (s A B C : ByteArray) (w : World) (hp : HasParts s [A.data.toList, B.data.toList, C.data.toList]) (hk : A.data.toList = [112]) (hname : nameL B.data.toList = false) : Calls Tryz.prog 32 #[.string s] w fun e w' => e = .returned (.tuple #[.agg zeroCl, .string ⟨#[]⟩]) ∧ Below w.heap.size w w' := by
  have hb := below_alloc w (.cells zeroCl tCl)
  have hx := new_at w zeroCl tCl
  have hz : A.toList = [112] := by rw [Lib.toList_data]; exact hk
  have cname := fun V => refName_any B V
  rw [hname] at cname
  have Hname := Lib.hid cname
  have HP := Lib.hid hp
  clear hp hk hname cname
  go_enter Tryz.func32, Tryz.ntmps32
  go_wp2_with (first
    | (go_at_call 68; refine (HP.out _).mono ?_; rintro e w2 ⟨v, rfl, hst, hb2⟩; obtain ⟨g, off, cp, rfl, ca, cb, cc⟩ := strs3 hst; have hx2 := keep_at hx hb2; have hbb2 := below_then hb hb2; clear hx)
    | (go_at_call 70; refine (Hname.out _).mono ?_; rintro e w3 ⟨rfl, hb3⟩; have hx3 := keep_at hx2 hb3; have hbb3 := below_then hbb2 hb3; have ca3 := keep_cell hb3 ca; have cb3 := keep_cell hb3 cb; have cc3 := keep_cell hb3 cc)
    | (refine put_st rfl _ _ _ rfl w.heap.size zeroCl rfl rfl hx3 infoCl rfl (by simp [Value.oneCell']) ?_; intro w9 h1 h2 h3))
  exact bodyPost_ret (v := .tuple #[.agg zeroCl, .string ⟨#[]⟩]) (ret_st2 Tryz.results32 _ _ _ _ rfl (load_cl h1 rfl)) rfl ⟨rfl, hbb3.trans h2⟩
set_option maxHeartbeats 3200000 in
set_option maxRecDepth 100000 in
theorem rc_3 (s A B C : ByteArray) (w : World) (hp : HasParts s [A.data.toList, B.data.toList, C.data.toList]) (hk0 : A.data.toList ≠ [99]) (hk1 : A.data.toList ≠ [112]) : Calls Tryz.prog 32 #[.string s] w fun e w' => e = .returned (.tuple #[.agg zeroCl, .string ⟨#[]⟩]) ∧ Below w.heap.size w w' := by
  have hb := below_alloc w (.cells zeroCl tCl)
  have hx := new_at w zeroCl tCl
  have hz0 : ¬ A.toList = [99] := by rw [Lib.toList_data]; exact hk0
  have hy0 : (A.toList == [99]) = false := beq_eq_false_iff_ne.2 hz0
  have hz1 : ¬ A.toList = [112] := by rw [Lib.toList_data]; exact hk1
  have hy1 : (A.toList == [112]) = false := beq_eq_false_iff_ne.2 hz1
  have HP := Lib.hid hp
  clear hp hk0 hk1
  go_enter Tryz.func32, Tryz.ntmps32
  go_wp2_with (first
    | (go_at_call 68; refine (HP.out _).mono ?_; rintro e w2 ⟨v, rfl, hst, hb2⟩; obtain ⟨g, off, cp, rfl, ca, cb, cc⟩ := strs3 hst; have hx2 := keep_at hx hb2; have hbb2 := below_then hb hb2; clear hx)
    | (refine put_st rfl _ _ _ rfl w.heap.size zeroCl rfl rfl hx2 infoCl rfl (by simp [Value.oneCell']) ?_; intro w9 h1 h2 h3))
  exact bodyPost_ret (v := .tuple #[.agg zeroCl, .string ⟨#[]⟩]) (ret_st2 Tryz.results32 _ _ _ _ rfl (load_cl h1 rfl)) rfl ⟨rfl, hbb2.trans h2⟩
set_option maxHeartbeats 3200000 in
set_option maxRecDepth 100000 in
theorem rc_s_yes (s A B : ByteArray) (w : World) (hp : HasParts s [A.data.toList, B.data.toList]) (hk : A.data.toList = [115]) (hfits : fitsL B.data.toList = true) : Calls Tryz.prog 32 #[.string s] w fun e w' => e = .returned (.tuple #[.agg #[.int .i64 2, .string ⟨#[]⟩, .string ⟨#[]⟩, .string ⟨#[]⟩, .int .i64 0, .slice none 0 0, .string B, .int .i64 0, .int .i64 0, .string ⟨#[]⟩, .string ⟨#[]⟩], .string getB]) ∧ Below w.heap.size w w' := by
  have hb := below_alloc w (.cells zeroCl tCl)
  have hx := new_at w zeroCl tCl
  have hz : A.toList = [115] := by rw [Lib.toList_data]; exact hk
  have cfits := fun V => refFits_any B V
  rw [hfits] at cfits
  have Hfits := Lib.hid cfits
  have HP := Lib.hid hp
  clear hp hk hfits cfits
  go_enter Tryz.func32, Tryz.ntmps32
  go_wp2_with (first
    | (go_at_call 68; refine (HP.out _).mono ?_; rintro e w2 ⟨v, rfl, hst, hb2⟩; obtain ⟨g, off, cp, rfl, ca, cb⟩ := strs2 hst; have hx2 := keep_at hx hb2; have hbb2 := below_then hb hb2; clear hx)
    | (go_at_call 69; refine (Hfits.out _).mono ?_; rintro e w' ⟨rfl, rfl⟩)
    | (refine put_st rfl _ _ _ rfl w.heap.size #[.int .i64 2, .string ⟨#[]⟩, .string ⟨#[]⟩, .string ⟨#[]⟩, .int .i64 0, .slice none 0 0, .string B, .int .i64 0, .int .i64 0, .string ⟨#[]⟩, .string ⟨#[]⟩] rfl rfl hx2 infoCl rfl (by simp [Value.oneCell']) ?_; intro w9 h1 h2 h3))
  exact bodyPost_ret (v := .tuple #[.agg #[.int .i64 2, .string ⟨#[]⟩, .string ⟨#[]⟩, .string ⟨#[]⟩, .int .i64 0, .slice none 0 0, .string B, .int .i64 0, .int .i64 0, .string ⟨#[]⟩, .string ⟨#[]⟩], .string getB]) (ret_st2 Tryz.results32 _ _ _ _ rfl (load_cl h1 rfl)) rfl ⟨rfl, hbb2.trans h2⟩
set_option maxHeartbeats 3200000 in
set_option maxRecDepth 100000 in
theorem rc_s_no (s A B : ByteArray) (w : World) (hp : HasParts s [A.data.toList, B.data.toList]) (hk : A.data.toList = [115]) (hfits : fitsL B.data.toList = false) : Calls Tryz.prog 32 #[.string s] w fun e w' => e = .returned (.tuple #[.agg zeroCl, .string ⟨#[]⟩]) ∧ Below w.heap.size w w' := by
  have hb := below_alloc w (.cells zeroCl tCl)
  have hx := new_at w zeroCl tCl
  have hz : A.toList = [115] := by rw [Lib.toList_data]; exact hk
  have cfits := fun V => refFits_any B V
  rw [hfits] at cfits
  have Hfits := Lib.hid cfits
  have HP := Lib.hid hp
  clear hp hk hfits cfits
  go_enter Tryz.func32, Tryz.ntmps32
  go_wp2_with (first
    | (go_at_call 68; refine (HP.out _).mono ?_; rintro e w2 ⟨v, rfl, hst, hb2⟩; obtain ⟨g, off, cp, rfl, ca, cb⟩ := strs2 hst; have hx2 := keep_at hx hb2; have hbb2 := below_then hb hb2; clear hx)
    | (go_at_call 69; refine (Hfits.out _).mono ?_; rintro e w' ⟨rfl, rfl⟩)
    | (refine put_st rfl _ _ _ rfl w.heap.size zeroCl rfl rfl hx2 infoCl rfl (by simp [Value.oneCell']) ?_; intro w9 h1 h2 h3))
  exact bodyPost_ret (v := .tuple #[.agg zeroCl, .string ⟨#[]⟩]) (ret_st2 Tryz.results32 _ _ _ _ rfl (load_cl h1 rfl)) rfl ⟨rfl, hbb2.trans h2⟩
set_option maxHeartbeats 3200000 in
set_option maxRecDepth 100000 in
theorem rc_e_yes (s A B : ByteArray) (w : World) (hp : HasParts s [A.data.toList, B.data.toList]) (hk : A.data.toList = [101]) (hfits : fitsL B.data.toList = true) : Calls Tryz.prog 32 #[.string s] w fun e w' => e = .returned (.tuple #[.agg #[.int .i64 3, .string ⟨#[]⟩, .string ⟨#[]⟩, .string ⟨#[]⟩, .int .i64 0, .slice none 0 0, .string B, .int .i64 0, .int .i64 50, .string ⟨#[]⟩, .string ⟨#[]⟩], .string getB]) ∧ Below w.heap.size w w' := by
  have hb := below_alloc w (.cells zeroCl tCl)
  have hx := new_at w zeroCl tCl
  have hz : A.toList = [101] := by rw [Lib.toList_data]; exact hk
  have cfits := fun V => refFits_any B V
  rw [hfits] at cfits
  have Hfits := Lib.hid cfits
  have HP := Lib.hid hp
  clear hp hk hfits cfits
  go_enter Tryz.func32, Tryz.ntmps32
  go_wp2_with (first
    | (go_at_call 68; refine (HP.out _).mono ?_; rintro e w2 ⟨v, rfl, hst, hb2⟩; obtain ⟨g, off, cp, rfl, ca, cb⟩ := strs2 hst; have hx2 := keep_at hx hb2; have hbb2 := below_then hb hb2; clear hx)
    | (go_at_call 69; refine (Hfits.out _).mono ?_; rintro e w' ⟨rfl, rfl⟩)
    | (refine put_st rfl _ _ _ rfl w.heap.size #[.int .i64 3, .string ⟨#[]⟩, .string ⟨#[]⟩, .string ⟨#[]⟩, .int .i64 0, .slice none 0 0, .string B, .int .i64 0, .int .i64 50, .string ⟨#[]⟩, .string ⟨#[]⟩] rfl rfl hx2 infoCl rfl (by simp [Value.oneCell']) ?_; intro w9 h1 h2 h3))
  exact bodyPost_ret (v := .tuple #[.agg #[.int .i64 3, .string ⟨#[]⟩, .string ⟨#[]⟩, .string ⟨#[]⟩, .int .i64 0, .slice none 0 0, .string B, .int .i64 0, .int .i64 50, .string ⟨#[]⟩, .string ⟨#[]⟩], .string getB]) (ret_st2 Tryz.results32 _ _ _ _ rfl (load_cl h1 rfl)) rfl ⟨rfl, hbb2.trans h2⟩
set_option maxHeartbeats 3200000 in
set_option maxRecDepth 100000 in
theorem rc_e_no (s A B : ByteArray) (w : World) (hp : HasParts s [A.data.toList, B.data.toList]) (hk : A.data.toList = [101]) (hfits : fitsL B.data.toList = false) : Calls Tryz.prog 32 #[.string s] w fun e w' => e = .returned (.tuple #[.agg zeroCl, .string ⟨#[]⟩]) ∧ Below w.heap.size w w' := by
  have hb := below_alloc w (.cells zeroCl tCl)
  have hx := new_at w zeroCl tCl
  have hz : A.toList = [101] := by rw [Lib.toList_data]; exact hk
  have cfits := fun V => refFits_any B V
  rw [hfits] at cfits
  have Hfits := Lib.hid cfits
  have HP := Lib.hid hp
  clear hp hk hfits cfits
  go_enter Tryz.func32, Tryz.ntmps32
  go_wp2_with (first
    | (go_at_call 68; refine (HP.out _).mono ?_; rintro e w2 ⟨v, rfl, hst, hb2⟩; obtain ⟨g, off, cp, rfl, ca, cb⟩ := strs2 hst; have hx2 := keep_at hx hb2; have hbb2 := below_then hb hb2; clear hx)
    | (go_at_call 69; refine (Hfits.out _).mono ?_; rintro e w' ⟨rfl, rfl⟩)
    | (refine put_st rfl _ _ _ rfl w.heap.size zeroCl rfl rfl hx2 infoCl rfl (by simp [Value.oneCell']) ?_; intro w9 h1 h2 h3))
  exact bodyPost_ret (v := .tuple #[.agg zeroCl, .string ⟨#[]⟩]) (ret_st2 Tryz.results32 _ _ _ _ rfl (load_cl h1 rfl)) rfl ⟨rfl, hbb2.trans h2⟩
set_option maxHeartbeats 3200000 in
set_option maxRecDepth 100000 in
theorem rc_v_yes (s A B : ByteArray) (w : World) (hp : HasParts s [A.data.toList, B.data.toList]) (hk : A.data.toList = [112]) (hname : nameL B.data.toList = true) : Calls Tryz.prog 32 #[.string s] w fun e w' => e = .returned (.tuple #[.agg #[.int .i64 5, .string ⟨#[]⟩, .string ⟨#[]⟩, .string ⟨#[]⟩, .int .i64 0, .slice none 0 0, .string ⟨#[]⟩, .int .i64 0, .int .i64 0, .string B, .string ⟨#[]⟩], .string getB]) ∧ Below w.heap.size w w' := by
  have hb := below_alloc w (.cells zeroCl tCl)
  have hx := new_at w zeroCl tCl
  have hz : A.toList = [112] := by rw [Lib.toList_data]; exact hk
  have cname := fun V => refName_any B V
  rw [hname] at cname
  have Hname := Lib.hid cname
  have HP := Lib.hid hp
  clear hp hk hname cname
  go_enter Tryz.func32, Tryz.ntmps32
  go_wp2_with (first
    | (go_at_call 68; refine (HP.out _).mono ?_; rintro e w2 ⟨v, rfl, hst, hb2⟩; obtain ⟨g, off, cp, rfl, ca, cb⟩ := strs2 hst; have hx2 := keep_at hx hb2; have hbb2 := below_then hb hb2; clear hx)
    | (go_at_call 70; refine (Hname.out _).mono ?_; rintro e w3 ⟨rfl, hb3⟩; have hx3 := keep_at hx2 hb3; have hbb3 := below_then hbb2 hb3; have ca3 := keep_cell hb3 ca; have cb3 := keep_cell hb3 cb)
    | (refine put_st rfl _ _ _ rfl w.heap.size #[.int .i64 5, .string ⟨#[]⟩, .string ⟨#[]⟩, .string ⟨#[]⟩, .int .i64 0, .slice none 0 0, .string ⟨#[]⟩, .int .i64 0, .int .i64 0, .string B, .string ⟨#[]⟩] rfl rfl hx3 infoCl rfl (by simp [Value.oneCell']) ?_; intro w9 h1 h2 h3))
  exact bodyPost_ret (v := .tuple #[.agg #[.int .i64 5, .string ⟨#[]⟩, .string ⟨#[]⟩, .string ⟨#[]⟩, .int .i64 0, .slice none 0 0, .string ⟨#[]⟩, .int .i64 0, .int .i64 0, .string B, .string ⟨#[]⟩], .string getB]) (ret_st2 Tryz.results32 _ _ _ _ rfl (load_cl h1 rfl)) rfl ⟨rfl, hbb3.trans h2⟩
set_option maxHeartbeats 3200000 in
set_option maxRecDepth 100000 in
theorem rc_v_no (s A B : ByteArray) (w : World) (hp : HasParts s [A.data.toList, B.data.toList]) (hk : A.data.toList = [112]) (hname : nameL B.data.toList = false) : Calls Tryz.prog 32 #[.string s] w fun e w' => e = .returned (.tuple #[.agg zeroCl, .string ⟨#[]⟩]) ∧ Below w.heap.size w w' := by
  have hb := below_alloc w (.cells zeroCl tCl)
  have hx := new_at w zeroCl tCl
  have hz : A.toList = [112] := by rw [Lib.toList_data]; exact hk
  have cname := fun V => refName_any B V
  rw [hname] at cname
  have Hname := Lib.hid cname
  have HP := Lib.hid hp
  clear hp hk hname cname
  go_enter Tryz.func32, Tryz.ntmps32
  go_wp2_with (first
    | (go_at_call 68; refine (HP.out _).mono ?_; rintro e w2 ⟨v, rfl, hst, hb2⟩; obtain ⟨g, off, cp, rfl, ca, cb⟩ := strs2 hst; have hx2 := keep_at hx hb2; have hbb2 := below_then hb hb2; clear hx)
    | (go_at_call 70; refine (Hname.out _).mono ?_; rintro e w3 ⟨rfl, hb3⟩; have hx3 := keep_at hx2 hb3; have hbb3 := below_then hbb2 hb3; have ca3 := keep_cell hb3 ca; have cb3 := keep_cell hb3 cb)
    | (refine put_st rfl _ _ _ rfl w.heap.size zeroCl rfl rfl hx3 infoCl rfl (by simp [Value.oneCell']) ?_; intro w9 h1 h2 h3))
  exact bodyPost_ret (v := .tuple #[.agg zeroCl, .string ⟨#[]⟩]) (ret_st2 Tryz.results32 _ _ _ _ rfl (load_cl h1 rfl)) rfl ⟨rfl, hbb3.trans h2⟩
set_option maxHeartbeats 3200000 in
set_option maxRecDepth 100000 in
theorem rc_2 (s A B : ByteArray) (w : World) (hp : HasParts s [A.data.toList, B.data.toList]) (hk0 : A.data.toList ≠ [115]) (hk1 : A.data.toList ≠ [101]) (hk2 : A.data.toList ≠ [112]) : Calls Tryz.prog 32 #[.string s] w fun e w' => e = .returned (.tuple #[.agg zeroCl, .string ⟨#[]⟩]) ∧ Below w.heap.size w w' := by
  have hb := below_alloc w (.cells zeroCl tCl)
  have hx := new_at w zeroCl tCl
  have hz0 : ¬ A.toList = [115] := by rw [Lib.toList_data]; exact hk0
  have hy0 : (A.toList == [115]) = false := beq_eq_false_iff_ne.2 hz0
  have hz1 : ¬ A.toList = [101] := by rw [Lib.toList_data]; exact hk1
  have hy1 : (A.toList == [101]) = false := beq_eq_false_iff_ne.2 hz1
  have hz2 : ¬ A.toList = [112] := by rw [Lib.toList_data]; exact hk2
  have hy2 : (A.toList == [112]) = false := beq_eq_false_iff_ne.2 hz2
  have HP := Lib.hid hp
  clear hp hk0 hk1 hk2
  go_enter Tryz.func32, Tryz.ntmps32
  go_wp2_with (first
    | (go_at_call 68; refine (HP.out _).mono ?_; rintro e w2 ⟨v, rfl, hst, hb2⟩; obtain ⟨g, off, cp, rfl, ca, cb⟩ := strs2 hst; have hx2 := keep_at hx hb2; have hbb2 := below_then hb hb2; clear hx)
    | (refine put_st rfl _ _ _ rfl w.heap.size zeroCl rfl rfl hx2 infoCl rfl (by simp [Value.oneCell']) ?_; intro w9 h1 h2 h3))
  exact bodyPost_ret (v := .tuple #[.agg zeroCl, .string ⟨#[]⟩]) (ret_st2 Tryz.results32 _ _ _ _ rfl (load_cl h1 rfl)) rfl ⟨rfl, hbb2.trans h2⟩
set_option maxHeartbeats 3200000 in
set_option maxRecDepth 100000 in
theorem rc_log (s A : ByteArray) (w : World) (hp : HasParts s [A.data.toList]) (hk : A.data.toList = [108, 111, 103]) : Calls Tryz.prog 32 #[.string s] w fun e w' => e = .returned (.tuple #[.agg #[.int .i64 4, .string ⟨#[]⟩, .string ⟨#[]⟩, .string ⟨#[]⟩, .int .i64 0, .slice none 0 0, .string ⟨#[]⟩, .int .i64 0, .int .i64 50, .string ⟨#[]⟩, .string ⟨#[]⟩], .string getB]) ∧ Below w.heap.size w w' := by
  have hb := below_alloc w (.cells zeroCl tCl)
  have hx := new_at w zeroCl tCl
  have hz : A.toList = [108, 111, 103] := by rw [Lib.toList_data]; exact hk
  have HP := Lib.hid hp
  clear hp hk
  go_enter Tryz.func32, Tryz.ntmps32
  go_wp2_with (first
    | (go_at_call 68; refine (HP.out _).mono ?_; rintro e w2 ⟨v, rfl, hst, hb2⟩; obtain ⟨g, off, cp, rfl, ca⟩ := strs1 hst; have hx2 := keep_at hx hb2; have hbb2 := below_then hb hb2; clear hx)
    | (refine put_st rfl _ _ _ rfl w.heap.size #[.int .i64 4, .string ⟨#[]⟩, .string ⟨#[]⟩, .string ⟨#[]⟩, .int .i64 0, .slice none 0 0, .string ⟨#[]⟩, .int .i64 0, .int .i64 50, .string ⟨#[]⟩, .string ⟨#[]⟩] rfl rfl hx2 infoCl rfl (by simp [Value.oneCell']) ?_; intro w9 h1 h2 h3))
  exact bodyPost_ret (v := .tuple #[.agg #[.int .i64 4, .string ⟨#[]⟩, .string ⟨#[]⟩, .string ⟨#[]⟩, .int .i64 0, .slice none 0 0, .string ⟨#[]⟩, .int .i64 0, .int .i64 50, .string ⟨#[]⟩, .string ⟨#[]⟩], .string getB]) (ret_st2 Tryz.results32 _ _ _ _ rfl (load_cl h1 rfl)) rfl ⟨rfl, hbb2.trans h2⟩
set_option maxHeartbeats 3200000 in
set_option maxRecDepth 100000 in
theorem rc_streams (s A : ByteArray) (w : World) (hp : HasParts s [A.data.toList]) (hk : A.data.toList = [115, 116, 114, 101, 97, 109, 115]) : Calls Tryz.prog 32 #[.string s] w fun e w' => e = .returned (.tuple #[.agg #[.int .i64 7, .string ⟨#[]⟩, .string ⟨#[]⟩, .string ⟨#[]⟩, .int .i64 0, .slice none 0 0, .string ⟨#[]⟩, .int .i64 0, .int .i64 0, .string ⟨#[]⟩, .string ⟨#[]⟩], .string getB]) ∧ Below w.heap.size w w' := by
  have hb := below_alloc w (.cells zeroCl tCl)
  have hx := new_at w zeroCl tCl
  have hz : A.toList = [115, 116, 114, 101, 97, 109, 115] := by rw [Lib.toList_data]; exact hk
  have HP := Lib.hid hp
  clear hp hk
  go_enter Tryz.func32, Tryz.ntmps32
  go_wp2_with (first
    | (go_at_call 68; refine (HP.out _).mono ?_; rintro e w2 ⟨v, rfl, hst, hb2⟩; obtain ⟨g, off, cp, rfl, ca⟩ := strs1 hst; have hx2 := keep_at hx hb2; have hbb2 := below_then hb hb2; clear hx)
    | (refine put_st rfl _ _ _ rfl w.heap.size #[.int .i64 7, .string ⟨#[]⟩, .string ⟨#[]⟩, .string ⟨#[]⟩, .int .i64 0, .slice none 0 0, .string ⟨#[]⟩, .int .i64 0, .int .i64 0, .string ⟨#[]⟩, .string ⟨#[]⟩] rfl rfl hx2 infoCl rfl (by simp [Value.oneCell']) ?_; intro w9 h1 h2 h3))
  exact bodyPost_ret (v := .tuple #[.agg #[.int .i64 7, .string ⟨#[]⟩, .string ⟨#[]⟩, .string ⟨#[]⟩, .int .i64 0, .slice none 0 0, .string ⟨#[]⟩, .int .i64 0, .int .i64 0, .string ⟨#[]⟩, .string ⟨#[]⟩], .string getB]) (ret_st2 Tryz.results32 _ _ _ _ rfl (load_cl h1 rfl)) rfl ⟨rfl, hbb2.trans h2⟩
set_option maxHeartbeats 3200000 in
set_option maxRecDepth 100000 in
theorem rc_ping (s A : ByteArray) (w : World) (hp : HasParts s [A.data.toList]) (hk : A.data.toList = [112, 105, 110, 103]) : Calls Tryz.prog 32 #[.string s] w fun e w' => e = .returned (.tuple #[.agg #[.int .i64 8, .string ⟨#[]⟩, .string ⟨#[]⟩, .string ⟨#[]⟩, .int .i64 0, .slice none 0 0, .string ⟨#[]⟩, .int .i64 0, .int .i64 0, .string ⟨#[]⟩, .string ⟨#[]⟩], .string getB]) ∧ Below w.heap.size w w' := by
  have hb := below_alloc w (.cells zeroCl tCl)
  have hx := new_at w zeroCl tCl
  have hz : A.toList = [112, 105, 110, 103] := by rw [Lib.toList_data]; exact hk
  have HP := Lib.hid hp
  clear hp hk
  go_enter Tryz.func32, Tryz.ntmps32
  go_wp2_with (first
    | (go_at_call 68; refine (HP.out _).mono ?_; rintro e w2 ⟨v, rfl, hst, hb2⟩; obtain ⟨g, off, cp, rfl, ca⟩ := strs1 hst; have hx2 := keep_at hx hb2; have hbb2 := below_then hb hb2; clear hx)
    | (refine put_st rfl _ _ _ rfl w.heap.size #[.int .i64 8, .string ⟨#[]⟩, .string ⟨#[]⟩, .string ⟨#[]⟩, .int .i64 0, .slice none 0 0, .string ⟨#[]⟩, .int .i64 0, .int .i64 0, .string ⟨#[]⟩, .string ⟨#[]⟩] rfl rfl hx2 infoCl rfl (by simp [Value.oneCell']) ?_; intro w9 h1 h2 h3))
  exact bodyPost_ret (v := .tuple #[.agg #[.int .i64 8, .string ⟨#[]⟩, .string ⟨#[]⟩, .string ⟨#[]⟩, .int .i64 0, .slice none 0 0, .string ⟨#[]⟩, .int .i64 0, .int .i64 0, .string ⟨#[]⟩, .string ⟨#[]⟩], .string getB]) (ret_st2 Tryz.results32 _ _ _ _ rfl (load_cl h1 rfl)) rfl ⟨rfl, hbb2.trans h2⟩
set_option maxHeartbeats 3200000 in
set_option maxRecDepth 100000 in
theorem rc_1 (s A : ByteArray) (w : World) (hp : HasParts s [A.data.toList]) (hk0 : A.data.toList ≠ [108, 111, 103]) (hk1 : A.data.toList ≠ [115, 116, 114, 101, 97, 109, 115]) (hk2 : A.data.toList ≠ [112, 105, 110, 103]) : Calls Tryz.prog 32 #[.string s] w fun e w' => e = .returned (.tuple #[.agg zeroCl, .string ⟨#[]⟩]) ∧ Below w.heap.size w w' := by
  have hb := below_alloc w (.cells zeroCl tCl)
  have hx := new_at w zeroCl tCl
  have hz0 : ¬ A.toList = [108, 111, 103] := by rw [Lib.toList_data]; exact hk0
  have hy0 : (A.toList == [108, 111, 103]) = false := beq_eq_false_iff_ne.2 hz0
  have hz1 : ¬ A.toList = [115, 116, 114, 101, 97, 109, 115] := by rw [Lib.toList_data]; exact hk1
  have hy1 : (A.toList == [115, 116, 114, 101, 97, 109, 115]) = false := beq_eq_false_iff_ne.2 hz1
  have hz2 : ¬ A.toList = [112, 105, 110, 103] := by rw [Lib.toList_data]; exact hk2
  have hy2 : (A.toList == [112, 105, 110, 103]) = false := beq_eq_false_iff_ne.2 hz2
  have HP := Lib.hid hp
  clear hp hk0 hk1 hk2
  go_enter Tryz.func32, Tryz.ntmps32
  go_wp2_with (first
    | (go_at_call 68; refine (HP.out _).mono ?_; rintro e w2 ⟨v, rfl, hst, hb2⟩; obtain ⟨g, off, cp, rfl, ca⟩ := strs1 hst; have hx2 := keep_at hx hb2; have hbb2 := below_then hb hb2; clear hx)
    | (refine put_st rfl _ _ _ rfl w.heap.size zeroCl rfl rfl hx2 infoCl rfl (by simp [Value.oneCell']) ?_; intro w9 h1 h2 h3))
  exact bodyPost_ret (v := .tuple #[.agg zeroCl, .string ⟨#[]⟩]) (ret_st2 Tryz.results32 _ _ _ _ rfl (load_cl h1 rfl)) rfl ⟨rfl, hbb2.trans h2⟩
set_option maxHeartbeats 3200000 in
set_option maxRecDepth 100000 in
theorem rc_many (s : ByteArray) (us : List By) (w : World) (hp : HasParts s us) (h3 : us.length ≠ 3) (h2 : us.length ≠ 2) (h1 : us.length ≠ 1) : Calls Tryz.prog 32 #[.string s] w fun e w' => e = .returned (.tuple #[.agg zeroCl, .string ⟨#[]⟩]) ∧ Below w.heap.size w w' := by
  have hb := below_alloc w (.cells zeroCl tCl)
  have hx := new_at w zeroCl tCl
  obtain ⟨n, hn⟩ : ∃ n, n = us.length := ⟨_, rfl⟩
  have hp2 : ∀ W, Calls Tryz.prog 68 #[.string s] W fun e w' => ∃ o cp, e = .returned (.tuple #[.slice o n cp, .bool true]) ∧ Below W.heap.size W w' := fun W => (hp W).mono fun e w' ⟨v, he, hst, hb⟩ => by
    obtain ⟨o, cp, rfl, _⟩ := hst
    exact ⟨o, cp, by rw [he, hn], hb⟩
  rw [← hn] at h1 h2 h3
  have HP := Lib.hid hp2
  have y3 : ((n : Int) == 3) = false := by rw [beq_eq_false_iff_ne]; omega
  have y2 : ((n : Int) == 2) = false := by rw [beq_eq_false_iff_ne]; omega
  have y1 : ((n : Int) == 1) = false := by rw [beq_eq_false_iff_ne]; omega
  clear hp hp2 hn h1 h2 h3
  go_enter Tryz.func32, Tryz.ntmps32
  go_wp2_with (first
    | (go_at_call 68; refine (HP.out _).mono ?_; rintro e w2 ⟨o, cp, rfl, hb2⟩; have hx2 := keep_at hx hb2; have hbb2 := below_then hb hb2; clear hx)
    | (refine put_st rfl _ _ _ rfl w.heap.size zeroCl rfl rfl hx2 infoCl rfl (by simp [Value.oneCell']) ?_; intro w9 h1 h2 h3))
  exact bodyPost_ret (v := .tuple #[.agg zeroCl, .string ⟨#[]⟩]) (ret_st2 Tryz.results32 _ _ _ _ rfl (load_cl h1 rfl)) rfl ⟨rfl, hbb2.trans h2⟩
set_option maxHeartbeats 3200000 in
set_option maxRecDepth 100000 in
theorem rc_none (s : ByteArray) (w : World) (hp : ∀ W, Calls Tryz.prog 68 #[.string s] W fun e w' => e = .returned (.tuple #[.slice none 0 0, .bool false]) ∧ Below W.heap.size W w') : Calls Tryz.prog 32 #[.string s] w fun e w' => e = .returned (.tuple #[.agg zeroCl, .string ⟨#[]⟩]) ∧ Below w.heap.size w w' := by
  have hb := below_alloc w (.cells zeroCl tCl)
  have hx := new_at w zeroCl tCl
  have HP := Lib.hid hp
  clear hp
  go_enter Tryz.func32, Tryz.ntmps32
  go_wp2_with (first
    | (go_at_call 68; refine (HP.out _).mono ?_; rintro e w2 ⟨rfl, hb2⟩; have hx2 := keep_at hx hb2; have hbb2 := below_then hb hb2; clear hx)
    | (refine put_st rfl _ _ _ rfl w.heap.size zeroCl rfl rfl hx2 infoCl rfl (by simp [Value.oneCell']) ?_; intro w9 h1 h2 h3))
  exact bodyPost_ret (v := .tuple #[.agg zeroCl, .string ⟨#[]⟩]) (ret_st2 Tryz.results32 _ _ _ _ rfl (load_cl h1 rfl)) rfl ⟨rfl, hbb2.trans h2⟩
end Go.Proofs.YtfkmgnldkmpeiaaGreatDoor.W20
