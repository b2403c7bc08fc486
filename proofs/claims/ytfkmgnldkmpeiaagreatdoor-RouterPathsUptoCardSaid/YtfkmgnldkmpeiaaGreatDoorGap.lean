/-
  Walks of layer 20: the closures of the paths s, e, p, and of those of one part. Conditions: the parts' cells hold them. Printed by wip/tools/paths20.py.
-/
import Derived.Test.YtfkmgnldkmpeiaaGreatDoorGao

namespace Go.Proofs.YtfkmgnldkmpeiaaGreatDoor.W20
open Go Go.RowKit P12 P18 P20 W12

/-- Parts in a row. -/
structure PartsAt (g off cp : Nat) (l : List By) (W : World) : Prop where
  cap : l.length ≤ cp
  lt : g < W.heap.size
  at_ : ∀ (j : Nat) (p : By), l[j]? = some p → W.cell? ⟨g, off + j, none⟩ = some (bs p)
theorem PartsAt.keep {g off cp : Nat} {l : List By} {W W' : World} (h : PartsAt g off cp l W) (hb : Below W.heap.size W W') : PartsAt g off cp l W' :=
  ⟨h.cap, by have := hb.size; have := h.lt; omega, fun j p hj => keep_cell hb (h.at_ j p hj)⟩
theorem join_any (g off cp : Nat) (l : List By) (W : World) (h : PartsAt g off cp l W) (hN : l.length ≤ 140737488355328) (hJ : (Lib.join l [47]).length ≤ 140737488355328) :
    Calls Tryz.prog 93 #[.slice (some ⟨g, off, none⟩) l.length cp, .string ⟨#[47]⟩] W fun e w' => e = .returned (bs (Lib.join l [47])) ∧ Below W.heap.size W w' := by
  by_cases h0 : l = []
  · subst h0
    refine (Tryz.strings_Join_none (some ⟨g, off, none⟩) cp ⟨#[47]⟩ W).mono ?_
    rintro e w' ⟨rfl, rfl⟩
    exact ⟨rfl, Below.refl _ _⟩
  · have e1 : (l.map fun p => (⟨p.toArray⟩ : ByteArray)).map (·.data.toList) = l := by rw [List.map_map]; show l.map (fun p => p) = l; simp
    have := Tryz.strings_Join g off cp (l.map fun p => ⟨p.toArray⟩) ⟨#[47]⟩ W (fun j x hj => by
      rw [List.getElem?_map, Option.map_eq_some_iff] at hj
      obtain ⟨p, hp, rfl⟩ := hj
      exact h.at_ j p hp) h.lt (by simpa using hN) (by simpa using h.cap) (by rw [e1]; exact hJ)
    rw [e1, List.length_map] at this
    exact this

set_option maxHeartbeats 1600000 in
set_option maxRecDepth 100000 in
theorem s_one_true (a : ByteArray) (g off cp : Nat) (W : World) (hc : PartsAt g off cp [a.data.toList] W) (hs : a.size ≤ 140737488355328) (hf1 : fitsL a.data.toList = true) : Calls Tryz.prog 92 #[.slice (some ⟨g, off, none⟩) 1 cp] W fun e W' => e = .returned (.tuple #[.agg #[.int .i64 2, .string ⟨#[]⟩, .string ⟨#[]⟩, .string ⟨#[]⟩, .int .i64 0, .slice none 0 0, .string a, .int .i64 0, .int .i64 0, .string ⟨#[]⟩, .string ⟨#[]⟩], .bool true]) ∧ Below W.heap.size W W' := by
  have hb := below_alloc W (.cells zeroCl tCl)
  have hx := new_at W zeroCl tCl
  have hf := fun V => fits_any a V
  rw [hf1] at hf
  have hJ := fun V hV => join_any g off cp [a.data.toList] V hV (by simp) (by rw [Lib.join_one, size_data]; exact hs)
  rw [Lib.join_one, bs_data] at hJ
  simp only [List.length_singleton] at hJ
  have hcell := hc.at_ 0 _ rfl
  rw [bs_data, Nat.add_zero] at hcell
  have hcell1 := keep_cell hb hcell
  have HF := Lib.hid hf
  have HJ := Lib.hid hJ
  have HP := Lib.hid hc
  clear hf hf1 hJ hc hcell
  go_enter Tryz.func92, Tryz.ntmps92
  go_wp2_with (first
    | (go_at_call 93; refine (HJ.out _ (HP.out.keep hb)).mono ?_; rintro e w2 ⟨rfl, hb2⟩; have hx2 := keep_at hx hb2; have hbb2 := below_then hb hb2; have hcell2 := keep_cell hb2 hcell1; clear hx)
    | (go_at_call 66; refine (HF.out _).mono ?_; rintro e w' ⟨rfl, rfl⟩)
    | (refine put_st rfl _ _ _ rfl W.heap.size #[.int .i64 2, .string ⟨#[]⟩, .string ⟨#[]⟩, .string ⟨#[]⟩, .int .i64 0, .slice none 0 0, .string a, .int .i64 0, .int .i64 0, .string ⟨#[]⟩, .string ⟨#[]⟩] rfl rfl hx2 infoCl rfl (by simp [Value.oneCell']) ?_; intro w1 h1 h2 h3))
  exact bodyPost_ret (v := .tuple #[.agg #[.int .i64 2, .string ⟨#[]⟩, .string ⟨#[]⟩, .string ⟨#[]⟩, .int .i64 0, .slice none 0 0, .string a, .int .i64 0, .int .i64 0, .string ⟨#[]⟩, .string ⟨#[]⟩], .bool true]) (ret_st2 Tryz.results92 _ _ _ _ rfl (load_cl h1 rfl)) rfl ⟨rfl, hbb2.trans h2⟩
set_option maxHeartbeats 1600000 in
set_option maxRecDepth 100000 in
theorem s_one_false (a : ByteArray) (g off cp : Nat) (W : World) (hc : PartsAt g off cp [a.data.toList] W) (hs : a.size ≤ 140737488355328) (hf1 : fitsL a.data.toList = false) : Calls Tryz.prog 92 #[.slice (some ⟨g, off, none⟩) 1 cp] W fun e W' => e = .returned (.tuple #[.agg #[.int .i64 2, .string ⟨#[]⟩, .string ⟨#[]⟩, .string ⟨#[]⟩, .int .i64 0, .slice none 0 0, .string a, .int .i64 0, .int .i64 0, .string ⟨#[]⟩, .string ⟨#[]⟩], .bool false]) ∧ Below W.heap.size W W' := by
  have hb := below_alloc W (.cells zeroCl tCl)
  have hx := new_at W zeroCl tCl
  have hf := fun V => fits_any a V
  rw [hf1] at hf
  have hJ := fun V hV => join_any g off cp [a.data.toList] V hV (by simp) (by rw [Lib.join_one, size_data]; exact hs)
  rw [Lib.join_one, bs_data] at hJ
  simp only [List.length_singleton] at hJ
  have hcell := hc.at_ 0 _ rfl
  rw [bs_data, Nat.add_zero] at hcell
  have hcell1 := keep_cell hb hcell
  have HF := Lib.hid hf
  have HJ := Lib.hid hJ
  have HP := Lib.hid hc
  clear hf hf1 hJ hc hcell
  go_enter Tryz.func92, Tryz.ntmps92
  go_wp2_with (first
    | (go_at_call 93; refine (HJ.out _ (HP.out.keep hb)).mono ?_; rintro e w2 ⟨rfl, hb2⟩; have hx2 := keep_at hx hb2; have hbb2 := below_then hb hb2; have hcell2 := keep_cell hb2 hcell1; clear hx)
    | (go_at_call 66; refine (HF.out _).mono ?_; rintro e w' ⟨rfl, rfl⟩)
    | (refine put_st rfl _ _ _ rfl W.heap.size #[.int .i64 2, .string ⟨#[]⟩, .string ⟨#[]⟩, .string ⟨#[]⟩, .int .i64 0, .slice none 0 0, .string a, .int .i64 0, .int .i64 0, .string ⟨#[]⟩, .string ⟨#[]⟩] rfl rfl hx2 infoCl rfl (by simp [Value.oneCell']) ?_; intro w1 h1 h2 h3))
  exact bodyPost_ret (v := .tuple #[.agg #[.int .i64 2, .string ⟨#[]⟩, .string ⟨#[]⟩, .string ⟨#[]⟩, .int .i64 0, .slice none 0 0, .string a, .int .i64 0, .int .i64 0, .string ⟨#[]⟩, .string ⟨#[]⟩], .bool false]) (ret_st2 Tryz.results92 _ _ _ _ rfl (load_cl h1 rfl)) rfl ⟨rfl, hbb2.trans h2⟩
set_option maxHeartbeats 1600000 in
set_option maxRecDepth 100000 in
theorem s_other (l : List By) (g off cp : Nat) (W : World) (hc : PartsAt g off cp l W) (hn : l.length ≤ 140737488355328) (hj : (Lib.join l [47]).length ≤ 140737488355328) (h1 : l.length ≠ 1) : Calls Tryz.prog 92 #[.slice (some ⟨g, off, none⟩) l.length cp] W fun e W' => e = .returned (.tuple #[.agg #[.int .i64 2, .string ⟨#[]⟩, .string ⟨#[]⟩, .string ⟨#[]⟩, .int .i64 0, .slice none 0 0, bs (Lib.join l [47]), .int .i64 0, .int .i64 0, .string ⟨#[]⟩, .string ⟨#[]⟩], .bool false]) ∧ Below W.heap.size W W' := by
  have hb := below_alloc W (.cells zeroCl tCl)
  have hx := new_at W zeroCl tCl
  have hJ := fun V hV => join_any g off cp l V hV hn hj
  obtain ⟨n, hln⟩ : ∃ n, n = l.length := ⟨_, rfl⟩
  obtain ⟨J, hJJ⟩ : ∃ J : ByteArray, J = ⟨(Lib.join l [47]).toArray⟩ := ⟨_, rfl⟩
  rw [← hln] at hJ h1 ⊢
  unfold bs at hJ ⊢
  rw [← hJJ] at hJ ⊢
  have z1 : ((n : Int) == 1) = false := by rw [beq_eq_false_iff_ne]; omega
  have HJ := Lib.hid hJ
  have HP := Lib.hid hc
  clear hJ hc hln hJJ h1 hn hj
  go_enter Tryz.func92, Tryz.ntmps92
  go_wp2_with (first
    | (go_at_call 93; refine (HJ.out _ (HP.out.keep hb)).mono ?_; rintro e w2 ⟨rfl, hb2⟩; have hx2 := keep_at hx hb2; have hbb2 := below_then hb hb2; clear hx)
    | (refine put_st rfl _ _ _ rfl W.heap.size #[.int .i64 2, .string ⟨#[]⟩, .string ⟨#[]⟩, .string ⟨#[]⟩, .int .i64 0, .slice none 0 0, .string J, .int .i64 0, .int .i64 0, .string ⟨#[]⟩, .string ⟨#[]⟩] rfl rfl hx2 infoCl rfl (by simp [Value.oneCell']) ?_; intro w1 h1 h2 h3))
  exact bodyPost_ret (v := .tuple #[.agg #[.int .i64 2, .string ⟨#[]⟩, .string ⟨#[]⟩, .string ⟨#[]⟩, .int .i64 0, .slice none 0 0, .string J, .int .i64 0, .int .i64 0, .string ⟨#[]⟩, .string ⟨#[]⟩], .bool false]) (ret_st2 Tryz.results92 _ _ _ _ rfl (load_cl h1 rfl)) rfl ⟨rfl, hbb2.trans h2⟩
set_option maxHeartbeats 1600000 in
set_option maxRecDepth 100000 in
theorem e_one_true (a : ByteArray) (g off cp : Nat) (W : World) (hc : PartsAt g off cp [a.data.toList] W) (hs : a.size ≤ 140737488355328) (hf1 : fitsL a.data.toList = true) : Calls Tryz.prog 94 #[.slice (some ⟨g, off, none⟩) 1 cp] W fun e W' => e = .returned (.tuple #[.agg #[.int .i64 3, .string ⟨#[]⟩, .string ⟨#[]⟩, .string ⟨#[]⟩, .int .i64 0, .slice none 0 0, .string a, .int .i64 0, .int .i64 50, .string ⟨#[]⟩, .string ⟨#[]⟩], .bool true]) ∧ Below W.heap.size W W' := by
  have hb := below_alloc W (.cells zeroCl tCl)
  have hx := new_at W zeroCl tCl
  have hf := fun V => fits_any a V
  rw [hf1] at hf
  have hJ := fun V hV => join_any g off cp [a.data.toList] V hV (by simp) (by rw [Lib.join_one, size_data]; exact hs)
  rw [Lib.join_one, bs_data] at hJ
  simp only [List.length_singleton] at hJ
  have hcell := hc.at_ 0 _ rfl
  rw [bs_data, Nat.add_zero] at hcell
  have hcell1 := keep_cell hb hcell
  have HF := Lib.hid hf
  have HJ := Lib.hid hJ
  have HP := Lib.hid hc
  clear hf hf1 hJ hc hcell
  go_enter Tryz.func94, Tryz.ntmps94
  go_wp2_with (first
    | (go_at_call 93; refine (HJ.out _ (HP.out.keep hb)).mono ?_; rintro e w2 ⟨rfl, hb2⟩; have hx2 := keep_at hx hb2; have hbb2 := below_then hb hb2; have hcell2 := keep_cell hb2 hcell1; clear hx)
    | (go_at_call 66; refine (HF.out _).mono ?_; rintro e w' ⟨rfl, rfl⟩)
    | (refine put_st rfl _ _ _ rfl W.heap.size #[.int .i64 3, .string ⟨#[]⟩, .string ⟨#[]⟩, .string ⟨#[]⟩, .int .i64 0, .slice none 0 0, .string a, .int .i64 0, .int .i64 50, .string ⟨#[]⟩, .string ⟨#[]⟩] rfl rfl hx2 infoCl rfl (by simp [Value.oneCell']) ?_; intro w1 h1 h2 h3))
  exact bodyPost_ret (v := .tuple #[.agg #[.int .i64 3, .string ⟨#[]⟩, .string ⟨#[]⟩, .string ⟨#[]⟩, .int .i64 0, .slice none 0 0, .string a, .int .i64 0, .int .i64 50, .string ⟨#[]⟩, .string ⟨#[]⟩], .bool true]) (ret_st2 Tryz.results94 _ _ _ _ rfl (load_cl h1 rfl)) rfl ⟨rfl, hbb2.trans h2⟩
set_option maxHeartbeats 1600000 in
set_option maxRecDepth 100000 in
theorem e_one_false (a : ByteArray) (g off cp : Nat) (W : World) (hc : PartsAt g off cp [a.data.toList] W) (hs : a.size ≤ 140737488355328) (hf1 : fitsL a.data.toList = false) : Calls Tryz.prog 94 #[.slice (some ⟨g, off, none⟩) 1 cp] W fun e W' => e = .returned (.tuple #[.agg #[.int .i64 3, .string ⟨#[]⟩, .string ⟨#[]⟩, .string ⟨#[]⟩, .int .i64 0, .slice none 0 0, .string a, .int .i64 0, .int .i64 50, .string ⟨#[]⟩, .string ⟨#[]⟩], .bool false]) ∧ Below W.heap.size W W' := by
  have hb := below_alloc W (.cells zeroCl tCl)
  have hx := new_at W zeroCl tCl
  have hf := fun V => fits_any a V
  rw [hf1] at hf
  have hJ := fun V hV => join_any g off cp [a.data.toList] V hV (by simp) (by rw [Lib.join_one, size_data]; exact hs)
  rw [Lib.join_one, bs_data] at hJ
  simp only [List.length_singleton] at hJ
  have hcell := hc.at_ 0 _ rfl
  rw [bs_data, Nat.add_zero] at hcell
  have hcell1 := keep_cell hb hcell
  have HF := Lib.hid hf
  have HJ := Lib.hid hJ
  have HP := Lib.hid hc
  clear hf hf1 hJ hc hcell
  go_enter Tryz.func94, Tryz.ntmps94
  go_wp2_with (first
    | (go_at_call 93; refine (HJ.out _ (HP.out.keep hb)).mono ?_; rintro e w2 ⟨rfl, hb2⟩; have hx2 := keep_at hx hb2; have hbb2 := below_then hb hb2; have hcell2 := keep_cell hb2 hcell1; clear hx)
    | (go_at_call 66; refine (HF.out _).mono ?_; rintro e w' ⟨rfl, rfl⟩)
    | (refine put_st rfl _ _ _ rfl W.heap.size #[.int .i64 3, .string ⟨#[]⟩, .string ⟨#[]⟩, .string ⟨#[]⟩, .int .i64 0, .slice none 0 0, .string a, .int .i64 0, .int .i64 50, .string ⟨#[]⟩, .string ⟨#[]⟩] rfl rfl hx2 infoCl rfl (by simp [Value.oneCell']) ?_; intro w1 h1 h2 h3))
  exact bodyPost_ret (v := .tuple #[.agg #[.int .i64 3, .string ⟨#[]⟩, .string ⟨#[]⟩, .string ⟨#[]⟩, .int .i64 0, .slice none 0 0, .string a, .int .i64 0, .int .i64 50, .string ⟨#[]⟩, .string ⟨#[]⟩], .bool false]) (ret_st2 Tryz.results94 _ _ _ _ rfl (load_cl h1 rfl)) rfl ⟨rfl, hbb2.trans h2⟩
set_option maxHeartbeats 1600000 in
set_option maxRecDepth 100000 in
theorem e_other (l : List By) (g off cp : Nat) (W : World) (hc : PartsAt g off cp l W) (hn : l.length ≤ 140737488355328) (hj : (Lib.join l [47]).length ≤ 140737488355328) (h1 : l.length ≠ 1) : Calls Tryz.prog 94 #[.slice (some ⟨g, off, none⟩) l.length cp] W fun e W' => e = .returned (.tuple #[.agg #[.int .i64 3, .string ⟨#[]⟩, .string ⟨#[]⟩, .string ⟨#[]⟩, .int .i64 0, .slice none 0 0, bs (Lib.join l [47]), .int .i64 0, .int .i64 50, .string ⟨#[]⟩, .string ⟨#[]⟩], .bool false]) ∧ Below W.heap.size W W' := by
  have hb := below_alloc W (.cells zeroCl tCl)
  have hx := new_at W zeroCl tCl
  have hJ := fun V hV => join_any g off cp l V hV hn hj
  obtain ⟨n, hln⟩ : ∃ n, n = l.length := ⟨_, rfl⟩
  obtain ⟨J, hJJ⟩ : ∃ J : ByteArray, J = ⟨(Lib.join l [47]).toArray⟩ := ⟨_, rfl⟩
  rw [← hln] at hJ h1 ⊢
  unfold bs at hJ ⊢
  rw [← hJJ] at hJ ⊢
  have z1 : ((n : Int) == 1) = false := by rw [beq_eq_false_iff_ne]; omega
  have HJ := Lib.hid hJ
  have HP := Lib.hid hc
  clear hJ hc hln hJJ h1 hn hj
  go_enter Tryz.func94, Tryz.ntmps94
  go_wp2_with (first
    | (go_at_call 93; refine (HJ.out _ (HP.out.keep hb)).mono ?_; rintro e w2 ⟨rfl, hb2⟩; have hx2 := keep_at hx hb2; have hbb2 := below_then hb hb2; clear hx)
    | (refine put_st rfl _ _ _ rfl W.heap.size #[.int .i64 3, .string ⟨#[]⟩, .string ⟨#[]⟩, .string ⟨#[]⟩, .int .i64 0, .slice none 0 0, .string J, .int .i64 0, .int .i64 50, .string ⟨#[]⟩, .string ⟨#[]⟩] rfl rfl hx2 infoCl rfl (by simp [Value.oneCell']) ?_; intro w1 h1 h2 h3))
  exact bodyPost_ret (v := .tuple #[.agg #[.int .i64 3, .string ⟨#[]⟩, .string ⟨#[]⟩, .string ⟨#[]⟩, .int .i64 0, .slice none 0 0, .string J, .int .i64 0, .int .i64 50, .string ⟨#[]⟩, .string ⟨#[]⟩], .bool false]) (ret_st2 Tryz.results94 _ _ _ _ rfl (load_cl h1 rfl)) rfl ⟨rfl, hbb2.trans h2⟩
set_option maxHeartbeats 1600000 in
set_option maxRecDepth 100000 in
theorem p_one_true (a : ByteArray) (g off cp : Nat) (W : World) (ha : W.cell? ⟨g, off, none⟩ = some (.string a)) (hn1 : nameL a.data.toList = true) : Calls Tryz.prog 95 #[.slice (some ⟨g, off, none⟩) 1 cp] W fun e W' => e = .returned (.tuple #[.agg #[.int .i64 5, .string ⟨#[]⟩, .string ⟨#[]⟩, .string ⟨#[]⟩, .int .i64 0, .slice none 0 0, .string ⟨#[]⟩, .int .i64 0, .int .i64 0, .string a, .string ⟨#[]⟩], .bool true]) ∧ Below W.heap.size W W' := by
  have hb := below_alloc W (.cells zeroCl tCl)
  have hx := new_at W zeroCl tCl
  have hn := fun V => Name_any a V
  have ha1 := keep_cell hb ha
  rw [hn1] at hn
  have HN := Lib.hid hn
  clear hn hn1 ha
  go_enter Tryz.func95, Tryz.ntmps95
  go_wp2_with (first
    | (go_at_call 14; refine (HN.out _).mono ?_; rintro e w2 ⟨rfl, hb2⟩; have hx2 := keep_at hx hb2; have hbb2 := below_then hb hb2; have ha2 := keep_cell hb2 ha1; clear hx)
    | (refine put_st rfl _ _ _ rfl W.heap.size #[.int .i64 5, .string ⟨#[]⟩, .string ⟨#[]⟩, .string ⟨#[]⟩, .int .i64 0, .slice none 0 0, .string ⟨#[]⟩, .int .i64 0, .int .i64 0, .string a, .string ⟨#[]⟩] rfl rfl hx2 infoCl rfl (by simp [Value.oneCell']) ?_; intro w1 h1 h2 h3))
  exact bodyPost_ret (v := .tuple #[.agg #[.int .i64 5, .string ⟨#[]⟩, .string ⟨#[]⟩, .string ⟨#[]⟩, .int .i64 0, .slice none 0 0, .string ⟨#[]⟩, .int .i64 0, .int .i64 0, .string a, .string ⟨#[]⟩], .bool true]) (ret_st2 Tryz.results95 _ _ _ _ rfl (load_cl h1 rfl)) rfl ⟨rfl, hbb2.trans h2⟩
set_option maxHeartbeats 1600000 in
set_option maxRecDepth 100000 in
theorem p_one_false (a : ByteArray) (g off cp : Nat) (W : World) (ha : W.cell? ⟨g, off, none⟩ = some (.string a)) (hn1 : nameL a.data.toList = false) : Calls Tryz.prog 95 #[.slice (some ⟨g, off, none⟩) 1 cp] W fun e W' => e = .returned (.tuple #[.agg zeroCl, .bool false]) ∧ Below W.heap.size W W' := by
  have hb := below_alloc W (.cells zeroCl tCl)
  have hx := new_at W zeroCl tCl
  have hn := fun V => Name_any a V
  have ha1 := keep_cell hb ha
  rw [hn1] at hn
  have HN := Lib.hid hn
  clear hn hn1 ha
  go_enter Tryz.func95, Tryz.ntmps95
  go_wp2_with (first
    | (go_at_call 14; refine (HN.out _).mono ?_; rintro e w2 ⟨rfl, hb2⟩; have hx2 := keep_at hx hb2; have hbb2 := below_then hb hb2; have ha2 := keep_cell hb2 ha1; clear hx)
    | (refine put_st rfl _ _ _ rfl W.heap.size zeroCl rfl rfl hx2 infoCl rfl (by simp [Value.oneCell']) ?_; intro w1 h1 h2 h3))
  exact bodyPost_ret (v := .tuple #[.agg zeroCl, .bool false]) (ret_st2 Tryz.results95 _ _ _ _ rfl (load_cl h1 rfl)) rfl ⟨rfl, hbb2.trans h2⟩
set_option maxHeartbeats 1600000 in
set_option maxRecDepth 100000 in
theorem p_two_noname (a b : ByteArray) (g off cp : Nat) (W : World) (ha : W.cell? ⟨g, off, none⟩ = some (.string a)) (hbb : W.cell? ⟨g, off + 1, none⟩ = some (.string b)) (hn1 : nameL a.data.toList = false) : Calls Tryz.prog 95 #[.slice (some ⟨g, off, none⟩) 2 cp] W fun e W' => e = .returned (.tuple #[.agg zeroCl, .bool false]) ∧ Below W.heap.size W W' := by
  have hb := below_alloc W (.cells zeroCl tCl)
  have hx := new_at W zeroCl tCl
  have hn := fun V => Name_any a V
  have ha1 := keep_cell hb ha
  rw [hn1] at hn
  have HN := Lib.hid hn
  have hb1 := keep_cell hb hbb
  clear hn hn1 ha hbb
  go_enter Tryz.func95, Tryz.ntmps95
  go_wp2_with (first
    | (go_at_call 14; refine (HN.out _).mono ?_; rintro e w2 ⟨rfl, hb2⟩; have hx2 := keep_at hx hb2; have hbb2 := below_then hb hb2; have ha2 := keep_cell hb2 ha1; have hb2' := keep_cell hb2 hb1; clear hx)
    | (refine put_st rfl _ _ _ rfl W.heap.size zeroCl rfl rfl hx2 infoCl rfl (by simp [Value.oneCell']) ?_; intro w1 h1 h2 h3))
  exact bodyPost_ret (v := .tuple #[.agg zeroCl, .bool false]) (ret_st2 Tryz.results95 _ _ _ _ rfl (load_cl h1 rfl)) rfl ⟨rfl, hbb2.trans h2⟩
set_option maxHeartbeats 1600000 in
set_option maxRecDepth 100000 in
theorem p_two_nofit (a b : ByteArray) (g off cp : Nat) (W : World) (ha : W.cell? ⟨g, off, none⟩ = some (.string a)) (hbb : W.cell? ⟨g, off + 1, none⟩ = some (.string b)) (hn1 : nameL a.data.toList = true) (hf1 : fitsL b.data.toList = false) : Calls Tryz.prog 95 #[.slice (some ⟨g, off, none⟩) 2 cp] W fun e W' => e = .returned (.tuple #[.agg zeroCl, .bool false]) ∧ Below W.heap.size W W' := by
  have hb := below_alloc W (.cells zeroCl tCl)
  have hx := new_at W zeroCl tCl
  have hn := fun V => Name_any a V
  have ha1 := keep_cell hb ha
  rw [hn1] at hn
  have HN := Lib.hid hn
  have hb1 := keep_cell hb hbb
  clear hn hn1 ha hbb
  have hf := fun V => fits_any b V
  rw [hf1] at hf
  have HF := Lib.hid hf
  clear hf hf1
  go_enter Tryz.func95, Tryz.ntmps95
  go_wp2_with (first
    | (go_at_call 14; refine (HN.out _).mono ?_; rintro e w2 ⟨rfl, hb2⟩; have hx2 := keep_at hx hb2; have hbb2 := below_then hb hb2; have ha2 := keep_cell hb2 ha1; have hb2' := keep_cell hb2 hb1; clear hx)
    | (go_at_call 66; refine (HF.out _).mono ?_; rintro e w' ⟨rfl, rfl⟩)
    | (refine put_st rfl _ _ _ rfl W.heap.size zeroCl rfl rfl hx2 infoCl rfl (by simp [Value.oneCell']) ?_; intro w1 h1 h2 h3))
  exact bodyPost_ret (v := .tuple #[.agg zeroCl, .bool false]) (ret_st2 Tryz.results95 _ _ _ _ rfl (load_cl h1 rfl)) rfl ⟨rfl, hbb2.trans h2⟩
set_option maxHeartbeats 1600000 in
set_option maxRecDepth 100000 in
theorem p_two_yes (a b : ByteArray) (g off cp : Nat) (W : World) (ha : W.cell? ⟨g, off, none⟩ = some (.string a)) (hbb : W.cell? ⟨g, off + 1, none⟩ = some (.string b)) (hn1 : nameL a.data.toList = true) (hf1 : fitsL b.data.toList = true) : Calls Tryz.prog 95 #[.slice (some ⟨g, off, none⟩) 2 cp] W fun e W' => e = .returned (.tuple #[.agg #[.int .i64 6, .string ⟨#[]⟩, .string ⟨#[]⟩, .string ⟨#[]⟩, .int .i64 0, .slice none 0 0, .string ⟨#[]⟩, .int .i64 0, .int .i64 0, .string a, .string b], .bool true]) ∧ Below W.heap.size W W' := by
  have hb := below_alloc W (.cells zeroCl tCl)
  have hx := new_at W zeroCl tCl
  have hn := fun V => Name_any a V
  have ha1 := keep_cell hb ha
  rw [hn1] at hn
  have HN := Lib.hid hn
  have hb1 := keep_cell hb hbb
  clear hn hn1 ha hbb
  have hf := fun V => fits_any b V
  rw [hf1] at hf
  have HF := Lib.hid hf
  clear hf hf1
  go_enter Tryz.func95, Tryz.ntmps95
  go_wp2_with (first
    | (go_at_call 14; refine (HN.out _).mono ?_; rintro e w2 ⟨rfl, hb2⟩; have hx2 := keep_at hx hb2; have hbb2 := below_then hb hb2; have ha2 := keep_cell hb2 ha1; have hb2' := keep_cell hb2 hb1; clear hx)
    | (go_at_call 66; refine (HF.out _).mono ?_; rintro e w' ⟨rfl, rfl⟩))
  go_still_tail 7, (by kernel_rfl)
  have hx3 : StAt tCl W.heap.size zeroCl w2.drew := hx2
  have hb3 : Below W.heap.size W w2.drew := hbb2.trans ((below_drewN w2 1).mono hbb2.size)
  change wpList _ _ _ _ _ w2.drew
  generalize w2.drew = w3 at hx3 hb3 ⊢
  go_wp2_with (refine put_st rfl _ _ _ rfl W.heap.size #[.int .i64 6, .string ⟨#[]⟩, .string ⟨#[]⟩, .string ⟨#[]⟩, .int .i64 0, .slice none 0 0, .string ⟨#[]⟩, .int .i64 0, .int .i64 0, .string a, .string b] rfl rfl hx3 infoCl rfl (by simp [Value.oneCell']) ?_; intro w1 h1 h2 h3)
  exact bodyPost_ret (v := .tuple #[.agg #[.int .i64 6, .string ⟨#[]⟩, .string ⟨#[]⟩, .string ⟨#[]⟩, .int .i64 0, .slice none 0 0, .string ⟨#[]⟩, .int .i64 0, .int .i64 0, .string a, .string b], .bool true]) (ret_st2 Tryz.results95 _ _ _ _ rfl (load_cl h1 rfl)) rfl ⟨rfl, hb3.trans h2⟩
set_option maxHeartbeats 1600000 in
set_option maxRecDepth 100000 in
theorem p_other (n : Nat) (o : Option Addr) (cp : Nat) (h1 : n ≠ 1) (h2 : n ≠ 2) (W : World) : Calls Tryz.prog 95 #[.slice o n cp] W fun e W' => e = .returned (.tuple #[.agg zeroCl, .bool false]) ∧ Below W.heap.size W W' := by
  have hb := below_alloc W (.cells zeroCl tCl)
  have hx := new_at W zeroCl tCl
  have z1 : ((n : Int) == 1) = false := by rw [beq_eq_false_iff_ne]; omega
  have z2 : ((n : Int) == 2) = false := by rw [beq_eq_false_iff_ne]; omega
  clear h1 h2
  go_enter Tryz.func95, Tryz.ntmps95
  go_wp2_with (refine put_st rfl _ _ _ rfl W.heap.size zeroCl rfl rfl hx infoCl rfl (by simp [Value.oneCell']) ?_; intro w1 h1 h2 h3)
  exact bodyPost_ret (v := .tuple #[.agg zeroCl, .bool false]) (ret_st2 Tryz.results95 _ _ _ _ rfl (load_cl h1 rfl)) rfl ⟨rfl, hb.trans h2⟩
set_option maxHeartbeats 1600000 in
set_option maxRecDepth 100000 in
theorem alone_true (n : Nat) (hn : n = 0) (o : Option Addr) (cp b : Nat) (k m : Int) (W : World) (hc : StAt tCl b (clK k m) W) : Calls Tryz.prog 125 #[.slice o n cp, .pointer (some ⟨b, 0, none⟩)] W fun e W' => e = .returned (.tuple #[.agg (clK k m), .bool true]) ∧ Below W.heap.size W W' := by
  have hb := below_alloc W (.cells zeroCl tCl)
  have hx := new_at W zeroCl tCl
  subst hn
  have hc1 := keep_at hc hb
  clear hc
  go_enter Tryz.func125, Tryz.ntmps125
  go_wp2_with (first
    | (refine wpList_load_row rfl _ _ rfl b rfl _ _ _ _ hc1 Tryz.underlying30 rfl infoCl ?_)
    | (refine put_st rfl _ _ _ rfl W.heap.size (clK k m) rfl rfl hx infoCl rfl (by simp [Value.oneCell']) ?_; intro w1 h1 h2 h3))
  exact bodyPost_ret (v := .tuple #[.agg (clK k m), .bool true]) (ret_st2 Tryz.results125 _ _ _ _ rfl (load_cl h1 rfl)) rfl ⟨rfl, hb.trans h2⟩
set_option maxHeartbeats 1600000 in
set_option maxRecDepth 100000 in
theorem alone_false (n : Nat) (hn : n ≠ 0) (o : Option Addr) (cp b : Nat) (k m : Int) (W : World) (hc : StAt tCl b (clK k m) W) : Calls Tryz.prog 125 #[.slice o n cp, .pointer (some ⟨b, 0, none⟩)] W fun e W' => e = .returned (.tuple #[.agg (clK k m), .bool false]) ∧ Below W.heap.size W W' := by
  have hb := below_alloc W (.cells zeroCl tCl)
  have hx := new_at W zeroCl tCl
  have z1 : ((n : Int) == 0) = false := by rw [beq_eq_false_iff_ne]; omega
  clear hn
  have hc1 := keep_at hc hb
  clear hc
  go_enter Tryz.func125, Tryz.ntmps125
  go_wp2_with (first
    | (refine wpList_load_row rfl _ _ rfl b rfl _ _ _ _ hc1 Tryz.underlying30 rfl infoCl ?_)
    | (refine put_st rfl _ _ _ rfl W.heap.size (clK k m) rfl rfl hx infoCl rfl (by simp [Value.oneCell']) ?_; intro w1 h1 h2 h3))
  exact bodyPost_ret (v := .tuple #[.agg (clK k m), .bool false]) (ret_st2 Tryz.results125 _ _ _ _ rfl (load_cl h1 rfl)) rfl ⟨rfl, hb.trans h2⟩
end Go.Proofs.YtfkmgnldkmpeiaaGreatDoor.W20
