/-
  Walks of layer 20: Answer, of the program and of the reference. Conditions: the library's error values; its numbers are ints. Printed by wip/tools/answer20.py.
-/
import Derived.Test.YtfkmgnldkmpeiaaGreatDoorGax

namespace Go.Proofs.YtfkmgnldkmpeiaaGreatDoor.W20
open Go Go.RowKit P12 P18 P20 W12

set_option maxHeartbeats 3200000 in
set_option maxRecDepth 100000 in
theorem answer_1 (f p c : Int) (R : ByteArray) (e : Int) (w : World) (hE : Env w) (hr : ∀ x ∈ [numF nCount c, numF nFirst f, numF nPos p], rangeF x) (X : ByteArray) (hX : X.data.toList = recordL [numF nCount c, numF nFirst f, numF nPos p]) :
    Calls Tryz.prog 22 #[.agg (dnC 1 f p c R e)] w fun e w' => e = .returned (.agg #[.int .i64 200, .string X, .bool false]) ∧ Below w.heap.size w w' := by
  obtain ⟨w1, hw1⟩ : ∃ w1, w1 = (w.alloc (.cells (dnC 1 f p c R e) tDn)).alloc (.cells zRp 40) := ⟨_, rfl⟩
  have hb1 : Below w.heap.size w w1 := by rw [hw1]; exact below_then (below_alloc _ _) (below_alloc _ _)
  have hx0 : StAt tDn w.heap.size (dnC 1 f p c R e) w1 := by rw [hw1]; exact keep_at (new_at w _ _) (below_alloc _ _)
  have hy0 : StAt 40 (w.heap.size + 1) zRp w1 := by
    have := new_at (w.alloc (.cells (dnC 1 f p c R e) tDn)) zRp 40
    rw [World.size_alloc] at this
    rw [hw1]
    exact this
  have hE1 := hE.keep hb1
  have HX := Lib.hid hX
  have HR := Lib.hid hr
  clear hX hr hE
  go_enter Tryz.func22, Tryz.ntmps22
  go_upto_region 4 with (fail)
  rw [← hw1]
  clear hw1
  refine wp_region_tame 9 (fun V => Below w1.heap.size w1 V) (by kernel_rfl) (by kernel_rfl) ((Below.refl _ w1).drew) ?_
  simp only [List.take_succ_cons, List.take_zero, List.drop_succ_cons, List.drop_zero]
  refine Exists.intro (.pointer (some ⟨w.heap.size, 3, none⟩)) (And.intro (Or.inl (And.intro (by rfl) (fun V hS => ?tg1))) ?_)
  case tg1 =>
    go_simp
    exact ⟨rfl, hS⟩
  simp only [Act.put, List.setIfInBounds_toArray, List.set_cons_zero, List.set_cons_succ]
  refine Exists.intro (.int .i64 c) (And.intro (Or.inl (And.intro (by rfl) (fun V hS => ?tg2))) ?_)
  case tg2 =>
    have h1 := Lib.cell_of_heap (keep_at hx0 hS) 3
    have h2 := Lib.frozen_of_heap (keep_at hx0 hS) 3
    go_simp
    exact ⟨rfl, hS⟩
  simp only [Act.put, List.setIfInBounds_toArray, List.set_cons_zero, List.set_cons_succ]
  refine Exists.intro (numV ⟨#[99, 111, 117, 110, 116]⟩ c) (And.intro (Or.inl (And.intro (by rfl) (fun V hS => ?tg3))) ?_)
  case tg3 =>
    go_simp
    refine (num_any _ _ _).mono ?_
    rintro e w' ⟨rfl, hb⟩
    exact ⟨rfl, below_then hS hb⟩
  simp only [Act.put, List.setIfInBounds_toArray, List.set_cons_zero, List.set_cons_succ]
  refine Exists.intro (.pointer (some ⟨w.heap.size, 1, none⟩)) (And.intro (Or.inl (And.intro (by rfl) (fun V hS => ?tg4))) ?_)
  case tg4 =>
    go_simp
    exact ⟨rfl, hS⟩
  simp only [Act.put, List.setIfInBounds_toArray, List.set_cons_zero, List.set_cons_succ]
  refine Exists.intro (.int .i64 f) (And.intro (Or.inl (And.intro (by rfl) (fun V hS => ?tg5))) ?_)
  case tg5 =>
    have h1 := Lib.cell_of_heap (keep_at hx0 hS) 1
    have h2 := Lib.frozen_of_heap (keep_at hx0 hS) 1
    go_simp
    exact ⟨rfl, hS⟩
  simp only [Act.put, List.setIfInBounds_toArray, List.set_cons_zero, List.set_cons_succ]
  refine Exists.intro (numV ⟨#[102, 105, 114, 115, 116]⟩ f) (And.intro (Or.inl (And.intro (by rfl) (fun V hS => ?tg6))) ?_)
  case tg6 =>
    go_simp
    refine (num_any _ _ _).mono ?_
    rintro e w' ⟨rfl, hb⟩
    exact ⟨rfl, below_then hS hb⟩
  simp only [Act.put, List.setIfInBounds_toArray, List.set_cons_zero, List.set_cons_succ]
  refine Exists.intro (.pointer (some ⟨w.heap.size, 2, none⟩)) (And.intro (Or.inl (And.intro (by rfl) (fun V hS => ?tg7))) ?_)
  case tg7 =>
    go_simp
    exact ⟨rfl, hS⟩
  simp only [Act.put, List.setIfInBounds_toArray, List.set_cons_zero, List.set_cons_succ]
  refine Exists.intro (.int .i64 p) (And.intro (Or.inl (And.intro (by rfl) (fun V hS => ?tg8))) ?_)
  case tg8 =>
    have h1 := Lib.cell_of_heap (keep_at hx0 hS) 2
    have h2 := Lib.frozen_of_heap (keep_at hx0 hS) 2
    go_simp
    exact ⟨rfl, hS⟩
  simp only [Act.put, List.setIfInBounds_toArray, List.set_cons_zero, List.set_cons_succ]
  refine Exists.intro (numV ⟨#[112, 111, 115]⟩ p) (And.intro (Or.inl (And.intro (by rfl) (fun V hS => ?tg9))) ?_)
  case tg9 =>
    go_simp
    refine (num_any _ _ _).mono ?_
    rintro e w' ⟨rfl, hb⟩
    exact ⟨rfl, below_then hS hb⟩
  simp only [Act.put, List.setIfInBounds_toArray, List.set_cons_zero, List.set_cons_succ]
  intro V hS
  have hbV := below_then hS (below_alloc V (.cells #[.string ⟨#[99, 111, 117, 110, 116]⟩, .bool false, .int .i64 c, .string ⟨#[]⟩, .string ⟨#[102, 105, 114, 115, 116]⟩, .bool false, .int .i64 f, .string ⟨#[]⟩, .string ⟨#[112, 111, 115]⟩, .bool false, .int .i64 p, .string ⟨#[]⟩] 54))
  have hrw := rows_lit (l := [numF nCount c, numF nFirst f, numF nPos p]) (show StAt 54 V.heap.size _ (V.alloc (.cells #[.string ⟨#[99, 111, 117, 110, 116]⟩, .bool false, .int .i64 c, .string ⟨#[]⟩, .string ⟨#[102, 105, 114, 115, 116]⟩, .bool false, .int .i64 f, .string ⟨#[]⟩, .string ⟨#[112, 111, 115]⟩, .bool false, .int .i64 p, .string ⟨#[]⟩] 54)) from new_at V _ _) 3
  have HRC := Lib.hid (record_any _ _ X HX.out _ (hE1.keep hbV) hrw (by simp) HR.out)
  clear hrw hS
  go_wp2_with (go_at_call 43; refine HRC.out.mono ?_; rintro e w2 ⟨rfl, hb3⟩; refine Hid.out ?_)
  refine Lib.hid ?_
  have hb4 := below_then hbV hb3
  have hy2 := keep_at hy0 hb4
  have hb5 := below_then hb1 hb4
  go_wp2_with (refine put_st rfl _ _ _ rfl (w.heap.size + 1) #[.int .i64 200, .string X, .bool false] rfl rfl hy2 infoRp rfl (by simp [Value.oneCell']) ?_; intro w9 h1 h2 h3)
  exact bodyPost_ret (v := .agg #[.int .i64 200, .string X, .bool false]) (ret_st1 Tryz.results22 _ _ _ _ rfl (load_rp h1 rfl)) rfl ⟨rfl, hb5.trans (h2.mono (Nat.le_succ _))⟩
set_option maxHeartbeats 3200000 in
set_option maxRecDepth 100000 in
theorem answer_2 (f p c : Int) (R : ByteArray) (e : Int) (w : World) (hE : Env w) (hr : ∀ x ∈ [numF nCount c, numF nFirst f, numF nPos p], rangeF x) (X : ByteArray) (hX : X.data.toList = recordL [numF nCount c, numF nFirst f, numF nPos p]) :
    Calls Tryz.prog 22 #[.agg (dnC 2 f p c R e)] w fun e w' => e = .returned (.agg #[.int .i64 200, .string X, .bool false]) ∧ Below w.heap.size w w' := by
  obtain ⟨w1, hw1⟩ : ∃ w1, w1 = (w.alloc (.cells (dnC 2 f p c R e) tDn)).alloc (.cells zRp 40) := ⟨_, rfl⟩
  have hb1 : Below w.heap.size w w1 := by rw [hw1]; exact below_then (below_alloc _ _) (below_alloc _ _)
  have hx0 : StAt tDn w.heap.size (dnC 2 f p c R e) w1 := by rw [hw1]; exact keep_at (new_at w _ _) (below_alloc _ _)
  have hy0 : StAt 40 (w.heap.size + 1) zRp w1 := by
    have := new_at (w.alloc (.cells (dnC 2 f p c R e) tDn)) zRp 40
    rw [World.size_alloc] at this
    rw [hw1]
    exact this
  have hE1 := hE.keep hb1
  have HX := Lib.hid hX
  have HR := Lib.hid hr
  clear hX hr hE
  go_enter Tryz.func22, Tryz.ntmps22
  go_upto_region 4 with (fail)
  rw [← hw1]
  clear hw1
  refine wp_region_tame 9 (fun V => Below w1.heap.size w1 V) (by kernel_rfl) (by kernel_rfl) ((Below.refl _ w1).drew) ?_
  simp only [List.take_succ_cons, List.take_zero, List.drop_succ_cons, List.drop_zero]
  refine Exists.intro (.pointer (some ⟨w.heap.size, 3, none⟩)) (And.intro (Or.inl (And.intro (by rfl) (fun V hS => ?tg10))) ?_)
  case tg10 =>
    go_simp
    exact ⟨rfl, hS⟩
  simp only [Act.put, List.setIfInBounds_toArray, List.set_cons_zero, List.set_cons_succ]
  refine Exists.intro (.int .i64 c) (And.intro (Or.inl (And.intro (by rfl) (fun V hS => ?tg11))) ?_)
  case tg11 =>
    have h1 := Lib.cell_of_heap (keep_at hx0 hS) 3
    have h2 := Lib.frozen_of_heap (keep_at hx0 hS) 3
    go_simp
    exact ⟨rfl, hS⟩
  simp only [Act.put, List.setIfInBounds_toArray, List.set_cons_zero, List.set_cons_succ]
  refine Exists.intro (numV ⟨#[99, 111, 117, 110, 116]⟩ c) (And.intro (Or.inl (And.intro (by rfl) (fun V hS => ?tg12))) ?_)
  case tg12 =>
    go_simp
    refine (num_any _ _ _).mono ?_
    rintro e w' ⟨rfl, hb⟩
    exact ⟨rfl, below_then hS hb⟩
  simp only [Act.put, List.setIfInBounds_toArray, List.set_cons_zero, List.set_cons_succ]
  refine Exists.intro (.pointer (some ⟨w.heap.size, 1, none⟩)) (And.intro (Or.inl (And.intro (by rfl) (fun V hS => ?tg13))) ?_)
  case tg13 =>
    go_simp
    exact ⟨rfl, hS⟩
  simp only [Act.put, List.setIfInBounds_toArray, List.set_cons_zero, List.set_cons_succ]
  refine Exists.intro (.int .i64 f) (And.intro (Or.inl (And.intro (by rfl) (fun V hS => ?tg14))) ?_)
  case tg14 =>
    have h1 := Lib.cell_of_heap (keep_at hx0 hS) 1
    have h2 := Lib.frozen_of_heap (keep_at hx0 hS) 1
    go_simp
    exact ⟨rfl, hS⟩
  simp only [Act.put, List.setIfInBounds_toArray, List.set_cons_zero, List.set_cons_succ]
  refine Exists.intro (numV ⟨#[102, 105, 114, 115, 116]⟩ f) (And.intro (Or.inl (And.intro (by rfl) (fun V hS => ?tg15))) ?_)
  case tg15 =>
    go_simp
    refine (num_any _ _ _).mono ?_
    rintro e w' ⟨rfl, hb⟩
    exact ⟨rfl, below_then hS hb⟩
  simp only [Act.put, List.setIfInBounds_toArray, List.set_cons_zero, List.set_cons_succ]
  refine Exists.intro (.pointer (some ⟨w.heap.size, 2, none⟩)) (And.intro (Or.inl (And.intro (by rfl) (fun V hS => ?tg16))) ?_)
  case tg16 =>
    go_simp
    exact ⟨rfl, hS⟩
  simp only [Act.put, List.setIfInBounds_toArray, List.set_cons_zero, List.set_cons_succ]
  refine Exists.intro (.int .i64 p) (And.intro (Or.inl (And.intro (by rfl) (fun V hS => ?tg17))) ?_)
  case tg17 =>
    have h1 := Lib.cell_of_heap (keep_at hx0 hS) 2
    have h2 := Lib.frozen_of_heap (keep_at hx0 hS) 2
    go_simp
    exact ⟨rfl, hS⟩
  simp only [Act.put, List.setIfInBounds_toArray, List.set_cons_zero, List.set_cons_succ]
  refine Exists.intro (numV ⟨#[112, 111, 115]⟩ p) (And.intro (Or.inl (And.intro (by rfl) (fun V hS => ?tg18))) ?_)
  case tg18 =>
    go_simp
    refine (num_any _ _ _).mono ?_
    rintro e w' ⟨rfl, hb⟩
    exact ⟨rfl, below_then hS hb⟩
  simp only [Act.put, List.setIfInBounds_toArray, List.set_cons_zero, List.set_cons_succ]
  intro V hS
  have hbV := below_then hS (below_alloc V (.cells #[.string ⟨#[99, 111, 117, 110, 116]⟩, .bool false, .int .i64 c, .string ⟨#[]⟩, .string ⟨#[102, 105, 114, 115, 116]⟩, .bool false, .int .i64 f, .string ⟨#[]⟩, .string ⟨#[112, 111, 115]⟩, .bool false, .int .i64 p, .string ⟨#[]⟩] 54))
  have hrw := rows_lit (l := [numF nCount c, numF nFirst f, numF nPos p]) (show StAt 54 V.heap.size _ (V.alloc (.cells #[.string ⟨#[99, 111, 117, 110, 116]⟩, .bool false, .int .i64 c, .string ⟨#[]⟩, .string ⟨#[102, 105, 114, 115, 116]⟩, .bool false, .int .i64 f, .string ⟨#[]⟩, .string ⟨#[112, 111, 115]⟩, .bool false, .int .i64 p, .string ⟨#[]⟩] 54)) from new_at V _ _) 3
  have HRC := Lib.hid (record_any _ _ X HX.out _ (hE1.keep hbV) hrw (by simp) HR.out)
  clear hrw hS
  go_wp2_with (go_at_call 43; refine HRC.out.mono ?_; rintro e w2 ⟨rfl, hb3⟩; refine Hid.out ?_)
  refine Lib.hid ?_
  have hb4 := below_then hbV hb3
  have hy2 := keep_at hy0 hb4
  have hb5 := below_then hb1 hb4
  go_wp2_with (refine put_st rfl _ _ _ rfl (w.heap.size + 1) #[.int .i64 200, .string X, .bool false] rfl rfl hy2 infoRp rfl (by simp [Value.oneCell']) ?_; intro w9 h1 h2 h3)
  exact bodyPost_ret (v := .agg #[.int .i64 200, .string X, .bool false]) (ret_st1 Tryz.results22 _ _ _ _ rfl (load_rp h1 rfl)) rfl ⟨rfl, hb5.trans (h2.mono (Nat.le_succ _))⟩
set_option maxHeartbeats 3200000 in
set_option maxRecDepth 100000 in
theorem answer_3 (f p c : Int) (R : ByteArray) (e : Int) (w : World) (hE : Env w) :
    Calls Tryz.prog 22 #[.agg (dnC 3 f p c R e)] w fun e w' => e = .returned (.agg #[.int .i64 409, .string ⟨#[]⟩, .bool false]) ∧ Below w.heap.size w w' := by
  obtain ⟨w1, hw1⟩ : ∃ w1, w1 = (w.alloc (.cells (dnC 3 f p c R e) tDn)).alloc (.cells zRp 40) := ⟨_, rfl⟩
  have hb1 : Below w.heap.size w w1 := by rw [hw1]; exact below_then (below_alloc _ _) (below_alloc _ _)
  have hx0 : StAt tDn w.heap.size (dnC 3 f p c R e) w1 := by rw [hw1]; exact keep_at (new_at w _ _) (below_alloc _ _)
  have hy0 : StAt 40 (w.heap.size + 1) zRp w1 := by
    have := new_at (w.alloc (.cells (dnC 3 f p c R e) tDn)) zRp 40
    rw [World.size_alloc] at this
    rw [hw1]
    exact this
  have hE1 := hE.keep hb1
  clear hE
  go_enter Tryz.func22, Tryz.ntmps22
  rw [hw1] at hy0
  go_wp2_with (refine put_st rfl _ _ _ rfl (w.heap.size + 1) #[.int .i64 409, .string ⟨#[]⟩, .bool false] rfl rfl hy0 infoRp rfl (by simp [Value.oneCell']) ?_; intro w9 h1 h2 h3)
  exact bodyPost_ret (v := .agg #[.int .i64 409, .string ⟨#[]⟩, .bool false]) (ret_st1 Tryz.results22 _ _ _ _ rfl (load_rp h1 rfl)) rfl ⟨rfl, (by rw [hw1] at hb1; exact hb1 : Below w.heap.size w _).trans (h2.mono (Nat.le_succ _))⟩
set_option maxHeartbeats 3200000 in
set_option maxRecDepth 100000 in
theorem answer_4 (f p c : Int) (R : ByteArray) (e : Int) (w : World) (hE : Env w) (hr : ∀ x ∈ [textFl nReason R.data.toList], rangeF x) (X : ByteArray) (hX : X.data.toList = recordL [textFl nReason R.data.toList]) :
    Calls Tryz.prog 22 #[.agg (dnC 4 f p c R e)] w fun e w' => e = .returned (.agg #[.int .i64 422, .string X, .bool false]) ∧ Below w.heap.size w w' := by
  obtain ⟨w1, hw1⟩ : ∃ w1, w1 = (w.alloc (.cells (dnC 4 f p c R e) tDn)).alloc (.cells zRp 40) := ⟨_, rfl⟩
  have hb1 : Below w.heap.size w w1 := by rw [hw1]; exact below_then (below_alloc _ _) (below_alloc _ _)
  have hx0 : StAt tDn w.heap.size (dnC 4 f p c R e) w1 := by rw [hw1]; exact keep_at (new_at w _ _) (below_alloc _ _)
  have hy0 : StAt 40 (w.heap.size + 1) zRp w1 := by
    have := new_at (w.alloc (.cells (dnC 4 f p c R e) tDn)) zRp 40
    rw [World.size_alloc] at this
    rw [hw1]
    exact this
  have hE1 := hE.keep hb1
  have HX := Lib.hid hX
  have HR := Lib.hid hr
  have HW := Lib.hid hw1
  clear hX hr hE hw1
  go_enter Tryz.func22, Tryz.ntmps22
  go_wp2_with (go_at_call 45; rw [← HW.out]; refine (text_any _ _ _).mono ?_; rintro e w2 ⟨rfl, hb2⟩; refine Hid.out ?_)
  refine Lib.hid ?_
  have hbV := below_then hb2 (below_alloc w2 (.cells #[.string ⟨#[114, 101, 97, 115, 111, 110]⟩, .bool true, .int .i64 0, .string R] 54))
  have hrw := rows_lit (l := [textFl nReason R.data.toList]) (show StAt 54 w2.heap.size _ (w2.alloc (.cells #[.string ⟨#[114, 101, 97, 115, 111, 110]⟩, .bool true, .int .i64 0, .string R] 54)) from new_at w2 _ _) 1
  have HRC := Lib.hid (record_any _ _ X HX.out _ (hE1.keep hbV) hrw (by simp) HR.out)
  clear hrw hb2
  go_wp2_with (go_at_call 43; refine HRC.out.mono ?_; rintro e w3 ⟨rfl, hb3⟩; refine Hid.out ?_)
  refine Lib.hid ?_
  have hb4 := below_then hbV hb3
  have hy2 := keep_at hy0 hb4
  have hb5 := below_then hb1 hb4
  go_wp2_with (refine put_st rfl _ _ _ rfl (w.heap.size + 1) #[.int .i64 422, .string X, .bool false] rfl rfl hy2 infoRp rfl (by simp [Value.oneCell']) ?_; intro w9 h1 h2 h3)
  exact bodyPost_ret (v := .agg #[.int .i64 422, .string X, .bool false]) (ret_st1 Tryz.results22 _ _ _ _ rfl (load_rp h1 rfl)) rfl ⟨rfl, hb5.trans (h2.mono (Nat.le_succ _))⟩
set_option maxHeartbeats 3200000 in
set_option maxRecDepth 100000 in
theorem answer_5 (f p c : Int) (R : ByteArray) (e : Int) (w : World) (hE : Env w) :
    Calls Tryz.prog 22 #[.agg (dnC 5 f p c R e)] w fun e w' => e = .returned (.agg #[.int .i64 507, .string ⟨#[]⟩, .bool false]) ∧ Below w.heap.size w w' := by
  obtain ⟨w1, hw1⟩ : ∃ w1, w1 = (w.alloc (.cells (dnC 5 f p c R e) tDn)).alloc (.cells zRp 40) := ⟨_, rfl⟩
  have hb1 : Below w.heap.size w w1 := by rw [hw1]; exact below_then (below_alloc _ _) (below_alloc _ _)
  have hx0 : StAt tDn w.heap.size (dnC 5 f p c R e) w1 := by rw [hw1]; exact keep_at (new_at w _ _) (below_alloc _ _)
  have hy0 : StAt 40 (w.heap.size + 1) zRp w1 := by
    have := new_at (w.alloc (.cells (dnC 5 f p c R e) tDn)) zRp 40
    rw [World.size_alloc] at this
    rw [hw1]
    exact this
  have hE1 := hE.keep hb1
  clear hE
  go_enter Tryz.func22, Tryz.ntmps22
  rw [hw1] at hy0
  go_wp2_with (refine put_st rfl _ _ _ rfl (w.heap.size + 1) #[.int .i64 507, .string ⟨#[]⟩, .bool false] rfl rfl hy0 infoRp rfl (by simp [Value.oneCell']) ?_; intro w9 h1 h2 h3)
  exact bodyPost_ret (v := .agg #[.int .i64 507, .string ⟨#[]⟩, .bool false]) (ret_st1 Tryz.results22 _ _ _ _ rfl (load_rp h1 rfl)) rfl ⟨rfl, (by rw [hw1] at hb1; exact hb1 : Below w.heap.size w _).trans (h2.mono (Nat.le_succ _))⟩
set_option maxHeartbeats 3200000 in
set_option maxRecDepth 100000 in
theorem answer_6 (f p c : Int) (R : ByteArray) (e : Int) (w : World) (hE : Env w) (hr : ∀ x ∈ [numF nError e], rangeF x) (X : ByteArray) (hX : X.data.toList = recordL [numF nError e]) :
    Calls Tryz.prog 22 #[.agg (dnC 6 f p c R e)] w fun e w' => e = .returned (.agg #[.int .i64 422, .string X, .bool false]) ∧ Below w.heap.size w w' := by
  obtain ⟨w1, hw1⟩ : ∃ w1, w1 = (w.alloc (.cells (dnC 6 f p c R e) tDn)).alloc (.cells zRp 40) := ⟨_, rfl⟩
  have hb1 : Below w.heap.size w w1 := by rw [hw1]; exact below_then (below_alloc _ _) (below_alloc _ _)
  have hx0 : StAt tDn w.heap.size (dnC 6 f p c R e) w1 := by rw [hw1]; exact keep_at (new_at w _ _) (below_alloc _ _)
  have hy0 : StAt 40 (w.heap.size + 1) zRp w1 := by
    have := new_at (w.alloc (.cells (dnC 6 f p c R e) tDn)) zRp 40
    rw [World.size_alloc] at this
    rw [hw1]
    exact this
  have hE1 := hE.keep hb1
  have HX := Lib.hid hX
  have HR := Lib.hid hr
  have HW := Lib.hid hw1
  clear hX hr hE hw1
  go_enter Tryz.func22, Tryz.ntmps22
  go_wp2_with (go_at_call 44; rw [← HW.out]; refine (num_any _ _ _).mono ?_; rintro e w2 ⟨rfl, hb2⟩; refine Hid.out ?_)
  refine Lib.hid ?_
  have hbV := below_then hb2 (below_alloc w2 (.cells #[.string ⟨#[101, 114, 114, 111, 114]⟩, .bool false, .int .i64 e, .string ⟨#[]⟩] 54))
  have hrw := rows_lit (l := [numF nError e]) (show StAt 54 w2.heap.size _ (w2.alloc (.cells #[.string ⟨#[101, 114, 114, 111, 114]⟩, .bool false, .int .i64 e, .string ⟨#[]⟩] 54)) from new_at w2 _ _) 1
  have HRC := Lib.hid (record_any _ _ X HX.out _ (hE1.keep hbV) hrw (by simp) HR.out)
  clear hrw hb2
  go_wp2_with (go_at_call 43; refine HRC.out.mono ?_; rintro e w3 ⟨rfl, hb3⟩; refine Hid.out ?_)
  refine Lib.hid ?_
  have hb4 := below_then hbV hb3
  have hy2 := keep_at hy0 hb4
  have hb5 := below_then hb1 hb4
  go_wp2_with (refine put_st rfl _ _ _ rfl (w.heap.size + 1) #[.int .i64 422, .string X, .bool false] rfl rfl hy2 infoRp rfl (by simp [Value.oneCell']) ?_; intro w9 h1 h2 h3)
  exact bodyPost_ret (v := .agg #[.int .i64 422, .string X, .bool false]) (ret_st1 Tryz.results22 _ _ _ _ rfl (load_rp h1 rfl)) rfl ⟨rfl, hb5.trans (h2.mono (Nat.le_succ _))⟩
set_option maxHeartbeats 3200000 in
set_option maxRecDepth 100000 in
theorem answer_x (k : Int) (hk : k ≠ 1 ∧ k ≠ 2 ∧ k ≠ 3 ∧ k ≠ 4 ∧ k ≠ 5 ∧ k ≠ 6) (f p c : Int) (R : ByteArray) (e : Int) (w : World) (hE : Env w) :
    Calls Tryz.prog 22 #[.agg (dnC k f p c R e)] w fun e w' => e = .returned (.agg #[.int .i64 503, .string ⟨#[]⟩, .bool false]) ∧ Below w.heap.size w w' := by
  obtain ⟨w1, hw1⟩ : ∃ w1, w1 = (w.alloc (.cells (dnC k f p c R e) tDn)).alloc (.cells zRp 40) := ⟨_, rfl⟩
  have hb1 : Below w.heap.size w w1 := by rw [hw1]; exact below_then (below_alloc _ _) (below_alloc _ _)
  have hx0 : StAt tDn w.heap.size (dnC k f p c R e) w1 := by rw [hw1]; exact keep_at (new_at w _ _) (below_alloc _ _)
  have hy0 : StAt 40 (w.heap.size + 1) zRp w1 := by
    have := new_at (w.alloc (.cells (dnC k f p c R e) tDn)) zRp 40
    rw [World.size_alloc] at this
    rw [hw1]
    exact this
  have hE1 := hE.keep hb1
  have k1 : (k == 1) = false := beq_eq_false_iff_ne.2 hk.1
  have k2 : (k == 2) = false := beq_eq_false_iff_ne.2 hk.2.1
  have k3 : (k == 3) = false := beq_eq_false_iff_ne.2 hk.2.2.1
  have k4 : (k == 4) = false := beq_eq_false_iff_ne.2 hk.2.2.2.1
  have k5 : (k == 5) = false := beq_eq_false_iff_ne.2 hk.2.2.2.2.1
  have k6 : (k == 6) = false := beq_eq_false_iff_ne.2 hk.2.2.2.2.2
  clear hE hk
  go_enter Tryz.func22, Tryz.ntmps22
  rw [hw1] at hy0
  go_wp2_with (refine put_st rfl _ _ _ rfl (w.heap.size + 1) #[.int .i64 503, .string ⟨#[]⟩, .bool false] rfl rfl hy0 infoRp rfl (by simp [Value.oneCell']) ?_; intro w9 h1 h2 h3)
  exact bodyPost_ret (v := .agg #[.int .i64 503, .string ⟨#[]⟩, .bool false]) (ret_st1 Tryz.results22 _ _ _ _ rfl (load_rp h1 rfl)) rfl ⟨rfl, (by rw [hw1] at hb1; exact hb1 : Below w.heap.size w _).trans (h2.mono (Nat.le_succ _))⟩
theorem Answer_any (k f p c : Int) (R : ByteArray) (e : Int) (w : World) (hE : Env w) (hf : -9223372036854775808 ≤ f ∧ f ≤ 9223372036854775807) (hp : -9223372036854775808 ≤ p ∧ p ≤ 9223372036854775807) (hc : -9223372036854775808 ≤ c ∧ c ≤ 9223372036854775807) (he : -9223372036854775808 ≤ e ∧ e ≤ 9223372036854775807) (X : ByteArray) (hX : X.data.toList = (answerL ⟨k, f, p, c, R.data.toList, e⟩).2) (st : Int) (hst : st = (answerL ⟨k, f, p, c, R.data.toList, e⟩).1) :
    Calls Tryz.prog 22 #[.agg (dnC k f p c R e)] w fun e w' => e = .returned (.agg #[.int .i64 st, .string X, .bool false]) ∧ Below w.heap.size w w' := by
  subst hst
  have hr : ∀ x ∈ [numF nCount c, numF nFirst f, numF nPos p], rangeF x := by
    intro x hx
    simp only [List.mem_cons, List.not_mem_nil, or_false] at hx
    rcases hx with rfl | rfl | rfl
    · exact hc
    · exact hf
    · exact hp
  by_cases k1 : k = 1
  · subst k1; exact answer_1 f p c R e w hE hr X hX
  by_cases k2 : k = 2
  · subst k2; exact answer_2 f p c R e w hE hr X hX
  by_cases k3 : k = 3
  · subst k3; obtain rfl : X = ⟨#[]⟩ := ba_ext hX; exact answer_3 f p c R e w hE
  by_cases k4 : k = 4
  · subst k4; exact answer_4 f p c R e w hE (by intro x hx; rw [List.mem_singleton] at hx; subst hx; exact range_text _ _) X hX
  by_cases k5 : k = 5
  · subst k5; obtain rfl : X = ⟨#[]⟩ := ba_ext hX; exact answer_5 f p c R e w hE
  by_cases k6 : k = 6
  · subst k6; exact answer_6 f p c R e w hE (by intro x hx; rw [List.mem_singleton] at hx; subst hx; exact he) X hX
  have ha : answerL ⟨k, f, p, c, R.data.toList, e⟩ = (503, []) := by
    unfold answerL
    simp only
    rw [if_neg (by omega), if_neg k3, if_neg k4, if_neg k5, if_neg k6]
  rw [ha] at hX ⊢
  obtain rfl : X = ⟨#[]⟩ := ba_ext hX
  exact answer_x k ⟨k1, k2, k3, k4, k5, k6⟩ f p c R e w hE

/-! ## The reference's -/
set_option maxHeartbeats 3200000 in
set_option maxRecDepth 100000 in
theorem refAnswer_1 (f p c : Int) (R : ByteArray) (e : Int) (w : World) (hE : Env w) (hr : ∀ x ∈ [numF nCount c, numF nFirst f, numF nPos p], rangeF x) (X : ByteArray) (hX : X.data.toList = recordL [numF nCount c, numF nFirst f, numF nPos p]) :
    Calls Tryz.prog 23 #[.agg (dnC 1 f p c R e)] w fun e w' => e = .returned (.agg #[.int .i64 200, .string X, .bool false]) ∧ Below w.heap.size w w' := by
  obtain ⟨w1, hw1⟩ : ∃ w1, w1 = (w.alloc (.cells (dnC 1 f p c R e) tDn)).alloc (.cells zRp 40) := ⟨_, rfl⟩
  have hb1 : Below w.heap.size w w1 := by rw [hw1]; exact below_then (below_alloc _ _) (below_alloc _ _)
  have hx0 : StAt tDn w.heap.size (dnC 1 f p c R e) w1 := by rw [hw1]; exact keep_at (new_at w _ _) (below_alloc _ _)
  have hy0 : StAt 40 (w.heap.size + 1) zRp w1 := by
    have := new_at (w.alloc (.cells (dnC 1 f p c R e) tDn)) zRp 40
    rw [World.size_alloc] at this
    rw [hw1]
    exact this
  have hE1 := hE.keep hb1
  have HX := Lib.hid hX
  have HR := Lib.hid hr
  clear hX hr hE
  go_enter Tryz.func23, Tryz.ntmps23
  go_upto_region 4 with (fail)
  rw [← hw1]
  clear hw1
  refine wp_region_tame 9 (fun V => Below w1.heap.size w1 V) (by kernel_rfl) (by kernel_rfl) ((Below.refl _ w1).drew) ?_
  simp only [List.take_succ_cons, List.take_zero, List.drop_succ_cons, List.drop_zero]
  refine Exists.intro (.pointer (some ⟨w.heap.size, 3, none⟩)) (And.intro (Or.inl (And.intro (by rfl) (fun V hS => ?tg19))) ?_)
  case tg19 =>
    go_simp
    exact ⟨rfl, hS⟩
  simp only [Act.put, List.setIfInBounds_toArray, List.set_cons_zero, List.set_cons_succ]
  refine Exists.intro (.int .i64 c) (And.intro (Or.inl (And.intro (by rfl) (fun V hS => ?tg20))) ?_)
  case tg20 =>
    have h1 := Lib.cell_of_heap (keep_at hx0 hS) 3
    have h2 := Lib.frozen_of_heap (keep_at hx0 hS) 3
    go_simp
    exact ⟨rfl, hS⟩
  simp only [Act.put, List.setIfInBounds_toArray, List.set_cons_zero, List.set_cons_succ]
  refine Exists.intro (numV ⟨#[99, 111, 117, 110, 116]⟩ c) (And.intro (Or.inl (And.intro (by rfl) (fun V hS => ?tg21))) ?_)
  case tg21 =>
    go_simp
    refine (refNum_any _ _ _).mono ?_
    rintro e w' ⟨rfl, hb⟩
    exact ⟨rfl, below_then hS hb⟩
  simp only [Act.put, List.setIfInBounds_toArray, List.set_cons_zero, List.set_cons_succ]
  refine Exists.intro (.pointer (some ⟨w.heap.size, 1, none⟩)) (And.intro (Or.inl (And.intro (by rfl) (fun V hS => ?tg22))) ?_)
  case tg22 =>
    go_simp
    exact ⟨rfl, hS⟩
  simp only [Act.put, List.setIfInBounds_toArray, List.set_cons_zero, List.set_cons_succ]
  refine Exists.intro (.int .i64 f) (And.intro (Or.inl (And.intro (by rfl) (fun V hS => ?tg23))) ?_)
  case tg23 =>
    have h1 := Lib.cell_of_heap (keep_at hx0 hS) 1
    have h2 := Lib.frozen_of_heap (keep_at hx0 hS) 1
    go_simp
    exact ⟨rfl, hS⟩
  simp only [Act.put, List.setIfInBounds_toArray, List.set_cons_zero, List.set_cons_succ]
  refine Exists.intro (numV ⟨#[102, 105, 114, 115, 116]⟩ f) (And.intro (Or.inl (And.intro (by rfl) (fun V hS => ?tg24))) ?_)
  case tg24 =>
    go_simp
    refine (refNum_any _ _ _).mono ?_
    rintro e w' ⟨rfl, hb⟩
    exact ⟨rfl, below_then hS hb⟩
  simp only [Act.put, List.setIfInBounds_toArray, List.set_cons_zero, List.set_cons_succ]
  refine Exists.intro (.pointer (some ⟨w.heap.size, 2, none⟩)) (And.intro (Or.inl (And.intro (by rfl) (fun V hS => ?tg25))) ?_)
  case tg25 =>
    go_simp
    exact ⟨rfl, hS⟩
  simp only [Act.put, List.setIfInBounds_toArray, List.set_cons_zero, List.set_cons_succ]
  refine Exists.intro (.int .i64 p) (And.intro (Or.inl (And.intro (by rfl) (fun V hS => ?tg26))) ?_)
  case tg26 =>
    have h1 := Lib.cell_of_heap (keep_at hx0 hS) 2
    have h2 := Lib.frozen_of_heap (keep_at hx0 hS) 2
    go_simp
    exact ⟨rfl, hS⟩
  simp only [Act.put, List.setIfInBounds_toArray, List.set_cons_zero, List.set_cons_succ]
  refine Exists.intro (numV ⟨#[112, 111, 115]⟩ p) (And.intro (Or.inl (And.intro (by rfl) (fun V hS => ?tg27))) ?_)
  case tg27 =>
    go_simp
    refine (refNum_any _ _ _).mono ?_
    rintro e w' ⟨rfl, hb⟩
    exact ⟨rfl, below_then hS hb⟩
  simp only [Act.put, List.setIfInBounds_toArray, List.set_cons_zero, List.set_cons_succ]
  intro V hS
  have hbV := below_then hS (below_alloc V (.cells #[.string ⟨#[99, 111, 117, 110, 116]⟩, .bool false, .int .i64 c, .string ⟨#[]⟩, .string ⟨#[102, 105, 114, 115, 116]⟩, .bool false, .int .i64 f, .string ⟨#[]⟩, .string ⟨#[112, 111, 115]⟩, .bool false, .int .i64 p, .string ⟨#[]⟩] 54))
  have hrw := rows_lit (l := [numF nCount c, numF nFirst f, numF nPos p]) (show StAt 54 V.heap.size _ (V.alloc (.cells #[.string ⟨#[99, 111, 117, 110, 116]⟩, .bool false, .int .i64 c, .string ⟨#[]⟩, .string ⟨#[102, 105, 114, 115, 116]⟩, .bool false, .int .i64 f, .string ⟨#[]⟩, .string ⟨#[112, 111, 115]⟩, .bool false, .int .i64 p, .string ⟨#[]⟩] 54)) from new_at V _ _) 3
  have HRC := Lib.hid (refRecord_any _ _ X HX.out _ (hE1.keep hbV) hrw (by simp) HR.out)
  clear hrw hS
  go_wp2_with (go_at_call 55; refine HRC.out.mono ?_; rintro e w2 ⟨rfl, hb3⟩; refine Hid.out ?_)
  refine Lib.hid ?_
  have hb4 := below_then hbV hb3
  have hy2 := keep_at hy0 hb4
  have hb5 := below_then hb1 hb4
  go_wp2_with (refine put_st rfl _ _ _ rfl (w.heap.size + 1) #[.int .i64 200, .string X, .bool false] rfl rfl hy2 infoRp rfl (by simp [Value.oneCell']) ?_; intro w9 h1 h2 h3)
  exact bodyPost_ret (v := .agg #[.int .i64 200, .string X, .bool false]) (ret_st1 Tryz.results23 _ _ _ _ rfl (load_rp h1 rfl)) rfl ⟨rfl, hb5.trans (h2.mono (Nat.le_succ _))⟩
set_option maxHeartbeats 3200000 in
set_option maxRecDepth 100000 in
theorem refAnswer_2 (f p c : Int) (R : ByteArray) (e : Int) (w : World) (hE : Env w) (hr : ∀ x ∈ [numF nCount c, numF nFirst f, numF nPos p], rangeF x) (X : ByteArray) (hX : X.data.toList = recordL [numF nCount c, numF nFirst f, numF nPos p]) :
    Calls Tryz.prog 23 #[.agg (dnC 2 f p c R e)] w fun e w' => e = .returned (.agg #[.int .i64 200, .string X, .bool false]) ∧ Below w.heap.size w w' := by
  obtain ⟨w1, hw1⟩ : ∃ w1, w1 = (w.alloc (.cells (dnC 2 f p c R e) tDn)).alloc (.cells zRp 40) := ⟨_, rfl⟩
  have hb1 : Below w.heap.size w w1 := by rw [hw1]; exact below_then (below_alloc _ _) (below_alloc _ _)
  have hx0 : StAt tDn w.heap.size (dnC 2 f p c R e) w1 := by rw [hw1]; exact keep_at (new_at w _ _) (below_alloc _ _)
  have hy0 : StAt 40 (w.heap.size + 1) zRp w1 := by
    have := new_at (w.alloc (.cells (dnC 2 f p c R e) tDn)) zRp 40
    rw [World.size_alloc] at this
    rw [hw1]
    exact this
  have hE1 := hE.keep hb1
  have HX := Lib.hid hX
  have HR := Lib.hid hr
  clear hX hr hE
  go_enter Tryz.func23, Tryz.ntmps23
  go_upto_region 4 with (fail)
  rw [← hw1]
  clear hw1
  refine wp_region_tame 9 (fun V => Below w1.heap.size w1 V) (by kernel_rfl) (by kernel_rfl) ((Below.refl _ w1).drew) ?_
  simp only [List.take_succ_cons, List.take_zero, List.drop_succ_cons, List.drop_zero]
  refine Exists.intro (.pointer (some ⟨w.heap.size, 3, none⟩)) (And.intro (Or.inl (And.intro (by rfl) (fun V hS => ?tg28))) ?_)
  case tg28 =>
    go_simp
    exact ⟨rfl, hS⟩
  simp only [Act.put, List.setIfInBounds_toArray, List.set_cons_zero, List.set_cons_succ]
  refine Exists.intro (.int .i64 c) (And.intro (Or.inl (And.intro (by rfl) (fun V hS => ?tg29))) ?_)
  case tg29 =>
    have h1 := Lib.cell_of_heap (keep_at hx0 hS) 3
    have h2 := Lib.frozen_of_heap (keep_at hx0 hS) 3
    go_simp
    exact ⟨rfl, hS⟩
  simp only [Act.put, List.setIfInBounds_toArray, List.set_cons_zero, List.set_cons_succ]
  refine Exists.intro (numV ⟨#[99, 111, 117, 110, 116]⟩ c) (And.intro (Or.inl (And.intro (by rfl) (fun V hS => ?tg30))) ?_)
  case tg30 =>
    go_simp
    refine (refNum_any _ _ _).mono ?_
    rintro e w' ⟨rfl, hb⟩
    exact ⟨rfl, below_then hS hb⟩
  simp only [Act.put, List.setIfInBounds_toArray, List.set_cons_zero, List.set_cons_succ]
  refine Exists.intro (.pointer (some ⟨w.heap.size, 1, none⟩)) (And.intro (Or.inl (And.intro (by rfl) (fun V hS => ?tg31))) ?_)
  case tg31 =>
    go_simp
    exact ⟨rfl, hS⟩
  simp only [Act.put, List.setIfInBounds_toArray, List.set_cons_zero, List.set_cons_succ]
  refine Exists.intro (.int .i64 f) (And.intro (Or.inl (And.intro (by rfl) (fun V hS => ?tg32))) ?_)
  case tg32 =>
    have h1 := Lib.cell_of_heap (keep_at hx0 hS) 1
    have h2 := Lib.frozen_of_heap (keep_at hx0 hS) 1
    go_simp
    exact ⟨rfl, hS⟩
  simp only [Act.put, List.setIfInBounds_toArray, List.set_cons_zero, List.set_cons_succ]
  refine Exists.intro (numV ⟨#[102, 105, 114, 115, 116]⟩ f) (And.intro (Or.inl (And.intro (by rfl) (fun V hS => ?tg33))) ?_)
  case tg33 =>
    go_simp
    refine (refNum_any _ _ _).mono ?_
    rintro e w' ⟨rfl, hb⟩
    exact ⟨rfl, below_then hS hb⟩
  simp only [Act.put, List.setIfInBounds_toArray, List.set_cons_zero, List.set_cons_succ]
  refine Exists.intro (.pointer (some ⟨w.heap.size, 2, none⟩)) (And.intro (Or.inl (And.intro (by rfl) (fun V hS => ?tg34))) ?_)
  case tg34 =>
    go_simp
    exact ⟨rfl, hS⟩
  simp only [Act.put, List.setIfInBounds_toArray, List.set_cons_zero, List.set_cons_succ]
  refine Exists.intro (.int .i64 p) (And.intro (Or.inl (And.intro (by rfl) (fun V hS => ?tg35))) ?_)
  case tg35 =>
    have h1 := Lib.cell_of_heap (keep_at hx0 hS) 2
    have h2 := Lib.frozen_of_heap (keep_at hx0 hS) 2
    go_simp
    exact ⟨rfl, hS⟩
  simp only [Act.put, List.setIfInBounds_toArray, List.set_cons_zero, List.set_cons_succ]
  refine Exists.intro (numV ⟨#[112, 111, 115]⟩ p) (And.intro (Or.inl (And.intro (by rfl) (fun V hS => ?tg36))) ?_)
  case tg36 =>
    go_simp
    refine (refNum_any _ _ _).mono ?_
    rintro e w' ⟨rfl, hb⟩
    exact ⟨rfl, below_then hS hb⟩
  simp only [Act.put, List.setIfInBounds_toArray, List.set_cons_zero, List.set_cons_succ]
  intro V hS
  have hbV := below_then hS (below_alloc V (.cells #[.string ⟨#[99, 111, 117, 110, 116]⟩, .bool false, .int .i64 c, .string ⟨#[]⟩, .string ⟨#[102, 105, 114, 115, 116]⟩, .bool false, .int .i64 f, .string ⟨#[]⟩, .string ⟨#[112, 111, 115]⟩, .bool false, .int .i64 p, .string ⟨#[]⟩] 54))
  have hrw := rows_lit (l := [numF nCount c, numF nFirst f, numF nPos p]) (show StAt 54 V.heap.size _ (V.alloc (.cells #[.string ⟨#[99, 111, 117, 110, 116]⟩, .bool false, .int .i64 c, .string ⟨#[]⟩, .string ⟨#[102, 105, 114, 115, 116]⟩, .bool false, .int .i64 f, .string ⟨#[]⟩, .string ⟨#[112, 111, 115]⟩, .bool false, .int .i64 p, .string ⟨#[]⟩] 54)) from new_at V _ _) 3
  have HRC := Lib.hid (refRecord_any _ _ X HX.out _ (hE1.keep hbV) hrw (by simp) HR.out)
  clear hrw hS
  go_wp2_with (go_at_call 55; refine HRC.out.mono ?_; rintro e w2 ⟨rfl, hb3⟩; refine Hid.out ?_)
  refine Lib.hid ?_
  have hb4 := below_then hbV hb3
  have hy2 := keep_at hy0 hb4
  have hb5 := below_then hb1 hb4
  go_wp2_with (refine put_st rfl _ _ _ rfl (w.heap.size + 1) #[.int .i64 200, .string X, .bool false] rfl rfl hy2 infoRp rfl (by simp [Value.oneCell']) ?_; intro w9 h1 h2 h3)
  exact bodyPost_ret (v := .agg #[.int .i64 200, .string X, .bool false]) (ret_st1 Tryz.results23 _ _ _ _ rfl (load_rp h1 rfl)) rfl ⟨rfl, hb5.trans (h2.mono (Nat.le_succ _))⟩
set_option maxHeartbeats 3200000 in
set_option maxRecDepth 100000 in
theorem refAnswer_3 (f p c : Int) (R : ByteArray) (e : Int) (w : World) (hE : Env w) :
    Calls Tryz.prog 23 #[.agg (dnC 3 f p c R e)] w fun e w' => e = .returned (.agg #[.int .i64 409, .string ⟨#[]⟩, .bool false]) ∧ Below w.heap.size w w' := by
  obtain ⟨w1, hw1⟩ : ∃ w1, w1 = (w.alloc (.cells (dnC 3 f p c R e) tDn)).alloc (.cells zRp 40) := ⟨_, rfl⟩
  have hb1 : Below w.heap.size w w1 := by rw [hw1]; exact below_then (below_alloc _ _) (below_alloc _ _)
  have hx0 : StAt tDn w.heap.size (dnC 3 f p c R e) w1 := by rw [hw1]; exact keep_at (new_at w _ _) (below_alloc _ _)
  have hy0 : StAt 40 (w.heap.size + 1) zRp w1 := by
    have := new_at (w.alloc (.cells (dnC 3 f p c R e) tDn)) zRp 40
    rw [World.size_alloc] at this
    rw [hw1]
    exact this
  have hE1 := hE.keep hb1
  clear hE
  go_enter Tryz.func23, Tryz.ntmps23
  rw [hw1] at hy0
  go_wp2_with (refine put_st rfl _ _ _ rfl (w.heap.size + 1) #[.int .i64 409, .string ⟨#[]⟩, .bool false] rfl rfl hy0 infoRp rfl (by simp [Value.oneCell']) ?_; intro w9 h1 h2 h3)
  exact bodyPost_ret (v := .agg #[.int .i64 409, .string ⟨#[]⟩, .bool false]) (ret_st1 Tryz.results23 _ _ _ _ rfl (load_rp h1 rfl)) rfl ⟨rfl, (by rw [hw1] at hb1; exact hb1 : Below w.heap.size w _).trans (h2.mono (Nat.le_succ _))⟩
set_option maxHeartbeats 3200000 in
set_option maxRecDepth 100000 in
theorem refAnswer_4 (f p c : Int) (R : ByteArray) (e : Int) (w : World) (hE : Env w) (hr : ∀ x ∈ [textFl nReason R.data.toList], rangeF x) (X : ByteArray) (hX : X.data.toList = recordL [textFl nReason R.data.toList]) :
    Calls Tryz.prog 23 #[.agg (dnC 4 f p c R e)] w fun e w' => e = .returned (.agg #[.int .i64 422, .string X, .bool false]) ∧ Below w.heap.size w w' := by
  obtain ⟨w1, hw1⟩ : ∃ w1, w1 = (w.alloc (.cells (dnC 4 f p c R e) tDn)).alloc (.cells zRp 40) := ⟨_, rfl⟩
  have hb1 : Below w.heap.size w w1 := by rw [hw1]; exact below_then (below_alloc _ _) (below_alloc _ _)
  have hx0 : StAt tDn w.heap.size (dnC 4 f p c R e) w1 := by rw [hw1]; exact keep_at (new_at w _ _) (below_alloc _ _)
  have hy0 : StAt 40 (w.heap.size + 1) zRp w1 := by
    have := new_at (w.alloc (.cells (dnC 4 f p c R e) tDn)) zRp 40
    rw [World.size_alloc] at this
    rw [hw1]
    exact this
  have hE1 := hE.keep hb1
  have HX := Lib.hid hX
  have HR := Lib.hid hr
  have HW := Lib.hid hw1
  clear hX hr hE hw1
  go_enter Tryz.func23, Tryz.ntmps23
  go_wp2_with (go_at_call 56; rw [← HW.out]; refine (refText_any _ _ _).mono ?_; rintro e w2 ⟨rfl, hb2⟩; refine Hid.out ?_)
  refine Lib.hid ?_
  have hbV := below_then hb2 (below_alloc w2 (.cells #[.string ⟨#[114, 101, 97, 115, 111, 110]⟩, .bool true, .int .i64 0, .string R] 54))
  have hrw := rows_lit (l := [textFl nReason R.data.toList]) (show StAt 54 w2.heap.size _ (w2.alloc (.cells #[.string ⟨#[114, 101, 97, 115, 111, 110]⟩, .bool true, .int .i64 0, .string R] 54)) from new_at w2 _ _) 1
  have HRC := Lib.hid (refRecord_any _ _ X HX.out _ (hE1.keep hbV) hrw (by simp) HR.out)
  clear hrw hb2
  go_wp2_with (go_at_call 55; refine HRC.out.mono ?_; rintro e w3 ⟨rfl, hb3⟩; refine Hid.out ?_)
  refine Lib.hid ?_
  have hb4 := below_then hbV hb3
  have hy2 := keep_at hy0 hb4
  have hb5 := below_then hb1 hb4
  go_wp2_with (refine put_st rfl _ _ _ rfl (w.heap.size + 1) #[.int .i64 422, .string X, .bool false] rfl rfl hy2 infoRp rfl (by simp [Value.oneCell']) ?_; intro w9 h1 h2 h3)
  exact bodyPost_ret (v := .agg #[.int .i64 422, .string X, .bool false]) (ret_st1 Tryz.results23 _ _ _ _ rfl (load_rp h1 rfl)) rfl ⟨rfl, hb5.trans (h2.mono (Nat.le_succ _))⟩
set_option maxHeartbeats 3200000 in
set_option maxRecDepth 100000 in
theorem refAnswer_5 (f p c : Int) (R : ByteArray) (e : Int) (w : World) (hE : Env w) :
    Calls Tryz.prog 23 #[.agg (dnC 5 f p c R e)] w fun e w' => e = .returned (.agg #[.int .i64 507, .string ⟨#[]⟩, .bool false]) ∧ Below w.heap.size w w' := by
  obtain ⟨w1, hw1⟩ : ∃ w1, w1 = (w.alloc (.cells (dnC 5 f p c R e) tDn)).alloc (.cells zRp 40) := ⟨_, rfl⟩
  have hb1 : Below w.heap.size w w1 := by rw [hw1]; exact below_then (below_alloc _ _) (below_alloc _ _)
  have hx0 : StAt tDn w.heap.size (dnC 5 f p c R e) w1 := by rw [hw1]; exact keep_at (new_at w _ _) (below_alloc _ _)
  have hy0 : StAt 40 (w.heap.size + 1) zRp w1 := by
    have := new_at (w.alloc (.cells (dnC 5 f p c R e) tDn)) zRp 40
    rw [World.size_alloc] at this
    rw [hw1]
    exact this
  have hE1 := hE.keep hb1
  clear hE
  go_enter Tryz.func23, Tryz.ntmps23
  rw [hw1] at hy0
  go_wp2_with (refine put_st rfl _ _ _ rfl (w.heap.size + 1) #[.int .i64 507, .string ⟨#[]⟩, .bool false] rfl rfl hy0 infoRp rfl (by simp [Value.oneCell']) ?_; intro w9 h1 h2 h3)
  exact bodyPost_ret (v := .agg #[.int .i64 507, .string ⟨#[]⟩, .bool false]) (ret_st1 Tryz.results23 _ _ _ _ rfl (load_rp h1 rfl)) rfl ⟨rfl, (by rw [hw1] at hb1; exact hb1 : Below w.heap.size w _).trans (h2.mono (Nat.le_succ _))⟩
set_option maxHeartbeats 3200000 in
set_option maxRecDepth 100000 in
theorem refAnswer_6 (f p c : Int) (R : ByteArray) (e : Int) (w : World) (hE : Env w) (hr : ∀ x ∈ [numF nError e], rangeF x) (X : ByteArray) (hX : X.data.toList = recordL [numF nError e]) :
    Calls Tryz.prog 23 #[.agg (dnC 6 f p c R e)] w fun e w' => e = .returned (.agg #[.int .i64 422, .string X, .bool false]) ∧ Below w.heap.size w w' := by
  obtain ⟨w1, hw1⟩ : ∃ w1, w1 = (w.alloc (.cells (dnC 6 f p c R e) tDn)).alloc (.cells zRp 40) := ⟨_, rfl⟩
  have hb1 : Below w.heap.size w w1 := by rw [hw1]; exact below_then (below_alloc _ _) (below_alloc _ _)
  have hx0 : StAt tDn w.heap.size (dnC 6 f p c R e) w1 := by rw [hw1]; exact keep_at (new_at w _ _) (below_alloc _ _)
  have hy0 : StAt 40 (w.heap.size + 1) zRp w1 := by
    have := new_at (w.alloc (.cells (dnC 6 f p c R e) tDn)) zRp 40
    rw [World.size_alloc] at this
    rw [hw1]
    exact this
  have hE1 := hE.keep hb1
  have HX := Lib.hid hX
  have HR := Lib.hid hr
  have HW := Lib.hid hw1
  clear hX hr hE hw1
  go_enter Tryz.func23, Tryz.ntmps23
  go_wp2_with (go_at_call 57; rw [← HW.out]; refine (refNum_any _ _ _).mono ?_; rintro e w2 ⟨rfl, hb2⟩; refine Hid.out ?_)
  refine Lib.hid ?_
  have hbV := below_then hb2 (below_alloc w2 (.cells #[.string ⟨#[101, 114, 114, 111, 114]⟩, .bool false, .int .i64 e, .string ⟨#[]⟩] 54))
  have hrw := rows_lit (l := [numF nError e]) (show StAt 54 w2.heap.size _ (w2.alloc (.cells #[.string ⟨#[101, 114, 114, 111, 114]⟩, .bool false, .int .i64 e, .string ⟨#[]⟩] 54)) from new_at w2 _ _) 1
  have HRC := Lib.hid (refRecord_any _ _ X HX.out _ (hE1.keep hbV) hrw (by simp) HR.out)
  clear hrw hb2
  go_wp2_with (go_at_call 55; refine HRC.out.mono ?_; rintro e w3 ⟨rfl, hb3⟩; refine Hid.out ?_)
  refine Lib.hid ?_
  have hb4 := below_then hbV hb3
  have hy2 := keep_at hy0 hb4
  have hb5 := below_then hb1 hb4
  go_wp2_with (refine put_st rfl _ _ _ rfl (w.heap.size + 1) #[.int .i64 422, .string X, .bool false] rfl rfl hy2 infoRp rfl (by simp [Value.oneCell']) ?_; intro w9 h1 h2 h3)
  exact bodyPost_ret (v := .agg #[.int .i64 422, .string X, .bool false]) (ret_st1 Tryz.results23 _ _ _ _ rfl (load_rp h1 rfl)) rfl ⟨rfl, hb5.trans (h2.mono (Nat.le_succ _))⟩
set_option maxHeartbeats 3200000 in
set_option maxRecDepth 100000 in
theorem refAnswer_x (k : Int) (hk : k ≠ 1 ∧ k ≠ 2 ∧ k ≠ 3 ∧ k ≠ 4 ∧ k ≠ 5 ∧ k ≠ 6) (f p c : Int) (R : ByteArray) (e : Int) (w : World) (hE : Env w) :
    Calls Tryz.prog 23 #[.agg (dnC k f p c R e)] w fun e w' => e = .returned (.agg #[.int .i64 503, .string ⟨#[]⟩, .bool false]) ∧ Below w.heap.size w w' := by
  obtain ⟨w1, hw1⟩ : ∃ w1, w1 = (w.alloc (.cells (dnC k f p c R e) tDn)).alloc (.cells zRp 40) := ⟨_, rfl⟩
  have hb1 : Below w.heap.size w w1 := by rw [hw1]; exact below_then (below_alloc _ _) (below_alloc _ _)
  have hx0 : StAt tDn w.heap.size (dnC k f p c R e) w1 := by rw [hw1]; exact keep_at (new_at w _ _) (below_alloc _ _)
  have hy0 : StAt 40 (w.heap.size + 1) zRp w1 := by
    have := new_at (w.alloc (.cells (dnC k f p c R e) tDn)) zRp 40
    rw [World.size_alloc] at this
    rw [hw1]
    exact this
  have hE1 := hE.keep hb1
  have k1 : (k == 1) = false := beq_eq_false_iff_ne.2 hk.1
  have k2 : (k == 2) = false := beq_eq_false_iff_ne.2 hk.2.1
  have k3 : (k == 3) = false := beq_eq_false_iff_ne.2 hk.2.2.1
  have k4 : (k == 4) = false := beq_eq_false_iff_ne.2 hk.2.2.2.1
  have k5 : (k == 5) = false := beq_eq_false_iff_ne.2 hk.2.2.2.2.1
  have k6 : (k == 6) = false := beq_eq_false_iff_ne.2 hk.2.2.2.2.2
  clear hE hk
  go_enter Tryz.func23, Tryz.ntmps23
  rw [hw1] at hy0
  go_wp2_with (refine put_st rfl _ _ _ rfl (w.heap.size + 1) #[.int .i64 503, .string ⟨#[]⟩, .bool false] rfl rfl hy0 infoRp rfl (by simp [Value.oneCell']) ?_; intro w9 h1 h2 h3)
  exact bodyPost_ret (v := .agg #[.int .i64 503, .string ⟨#[]⟩, .bool false]) (ret_st1 Tryz.results23 _ _ _ _ rfl (load_rp h1 rfl)) rfl ⟨rfl, (by rw [hw1] at hb1; exact hb1 : Below w.heap.size w _).trans (h2.mono (Nat.le_succ _))⟩
theorem refAnswer_any (k f p c : Int) (R : ByteArray) (e : Int) (w : World) (hE : Env w) (hf : -9223372036854775808 ≤ f ∧ f ≤ 9223372036854775807) (hp : -9223372036854775808 ≤ p ∧ p ≤ 9223372036854775807) (hc : -9223372036854775808 ≤ c ∧ c ≤ 9223372036854775807) (he : -9223372036854775808 ≤ e ∧ e ≤ 9223372036854775807) (X : ByteArray) (hX : X.data.toList = (answerL ⟨k, f, p, c, R.data.toList, e⟩).2) (st : Int) (hst : st = (answerL ⟨k, f, p, c, R.data.toList, e⟩).1) :
    Calls Tryz.prog 23 #[.agg (dnC k f p c R e)] w fun e w' => e = .returned (.agg #[.int .i64 st, .string X, .bool false]) ∧ Below w.heap.size w w' := by
  subst hst
  have hr : ∀ x ∈ [numF nCount c, numF nFirst f, numF nPos p], rangeF x := by
    intro x hx
    simp only [List.mem_cons, List.not_mem_nil, or_false] at hx
    rcases hx with rfl | rfl | rfl
    · exact hc
    · exact hf
    · exact hp
  by_cases k1 : k = 1
  · subst k1; exact refAnswer_1 f p c R e w hE hr X hX
  by_cases k2 : k = 2
  · subst k2; exact refAnswer_2 f p c R e w hE hr X hX
  by_cases k3 : k = 3
  · subst k3; obtain rfl : X = ⟨#[]⟩ := ba_ext hX; exact refAnswer_3 f p c R e w hE
  by_cases k4 : k = 4
  · subst k4; exact refAnswer_4 f p c R e w hE (by intro x hx; rw [List.mem_singleton] at hx; subst hx; exact range_text _ _) X hX
  by_cases k5 : k = 5
  · subst k5; obtain rfl : X = ⟨#[]⟩ := ba_ext hX; exact refAnswer_5 f p c R e w hE
  by_cases k6 : k = 6
  · subst k6; exact refAnswer_6 f p c R e w hE (by intro x hx; rw [List.mem_singleton] at hx; subst hx; exact he) X hX
  have ha : answerL ⟨k, f, p, c, R.data.toList, e⟩ = (503, []) := by
    unfold answerL
    simp only
    rw [if_neg (by omega), if_neg k3, if_neg k4, if_neg k5, if_neg k6]
  rw [ha] at hX ⊢
  obtain rfl : X = ⟨#[]⟩ := ba_ext hX
  exact refAnswer_x k ⟨k1, k2, k3, k4, k5, k6⟩ f p c R e w hE
end Go.Proofs.YtfkmgnldkmpeiaaGreatDoor.W20
