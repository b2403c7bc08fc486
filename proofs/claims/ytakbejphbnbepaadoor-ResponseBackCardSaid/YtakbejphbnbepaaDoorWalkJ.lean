/-
  Walks of layer 19: Read. Conditions: the library's table; the text's own bound.
-/
import Derived.Test.YtakbejphbnbepaaDoorWalkI
import Derived.LoopN
import Derived.Deep.RegionHeld3
namespace Go.Proofs.YtakbejphbnbepaaDoor.W19
open Go Go.RowKit P19

/-- The four steps, bound to the variables of one call. -/
def fsOf (B : Nat) : Array Value :=
  #[.func (.func 23) #[] #[.pointer (some ⟨B + 1 + 1 + 1 + 1, 0, none⟩), .pointer (some ⟨B + 1, 0, none⟩), .pointer (some ⟨B + 1 + 1 + 1, 0, none⟩)],
    .func (.func 25) #[] #[.pointer (some ⟨B + 1 + 1 + 1 + 1, 0, none⟩), .pointer (some ⟨B + 1 + 1 + 1, 0, none⟩)],
    .func (.func 27) #[] #[.pointer (some ⟨B + 1 + 1 + 1 + 1, 0, none⟩), .pointer (some ⟨B + 1 + 1, 0, none⟩), .pointer (some ⟨B + 1 + 1 + 1, 0, none⟩)],
    .func (.func 29) #[] #[.pointer (some ⟨B + 1 + 1 + 1 + 1, 0, none⟩), .pointer (some ⟨B + 1, 0, none⟩), .pointer (some ⟨B + 1 + 1 + 1, 0, none⟩)]]
def W0 (s : ByteArray) (w : World) : World :=
  (((((w.alloc (.cells #[.int .i64 0, .string ⟨#[]⟩, .bool false] 25)).alloc (.cells #[.int .i64 0, .string ⟨#[]⟩, .bool false] 25)).alloc (.cells #[.int .i64 0] 3)).alloc
    (.cells #[.int .i64 0] 26)).alloc (.cells #[.string s] 9)).alloc (.cells (fsOf w.heap.size) 45)
theorem size_al (w : World) (o : Obj) : (w.alloc o).heap.size = w.heap.size + 1 := by simp
theorem heap_al (w : World) (o : Obj) (k : Nat) (h : k < w.heap.size) : (w.alloc o).heap[k]? = w.heap[k]? := Below.heap_alloc w o k h
theorem heap_al_at (w : World) (o : Obj) (k : Nat) (h : k = w.heap.size) : (w.alloc o).heap[k]? = some o := by subst h; exact heap_new w o
theorem start (s : ByteArray) (w : World) : Bx w.heap.size (fsOf w.heap.size) 0 ⟨#[]⟩ false 0 0 s (W0 s w) := by
  unfold W0
  refine ⟨?_, ?_, ?_, ?_, ?_, ?_⟩
  · rw [heap_al _ _ _ (by simp only [size_al]; omega), heap_al _ _ _ (by simp only [size_al]; omega), heap_al _ _ _ (by simp only [size_al]; omega), heap_al _ _ _ (by simp only [size_al]; omega), heap_al _ _ _ (by simp only [size_al]; omega)]
    exact heap_al_at _ _ _ rfl
  · rw [heap_al _ _ _ (by simp only [size_al]; omega), heap_al _ _ _ (by simp only [size_al]; omega), heap_al _ _ _ (by simp only [size_al]; omega), heap_al _ _ _ (by simp only [size_al]; omega)]
    exact heap_al_at _ _ _ (by simp only [size_al])
  · rw [heap_al _ _ _ (by simp only [size_al]; omega), heap_al _ _ _ (by simp only [size_al]; omega), heap_al _ _ _ (by simp only [size_al]; omega)]
    exact heap_al_at _ _ _ (by simp only [size_al])
  · rw [heap_al _ _ _ (by simp only [size_al]; omega), heap_al _ _ _ (by simp only [size_al]; omega)]
    exact heap_al_at _ _ _ (by simp only [size_al])
  · rw [heap_al _ _ _ (by simp only [size_al]; omega)]
    exact heap_al_at _ _ _ (by simp only [size_al])
  · exact heap_al_at _ _ _ (by simp only [size_al])
theorem below_W0 (s : ByteArray) (w : World) : Below w.heap.size w (W0 s w) :=
  below_then (below_alloc w _) (below_then (below_alloc _ _) (below_then (below_alloc _ _) (below_then (below_alloc _ _) (below_then (below_alloc _ _) (below_alloc _ _)))))

section
variable {B : Nat} {st : Int} {b : ByteArray} {c : Bool} {n e : Int} {r : ByteArray} {w : World}
/-- What Read itself reads of its variables, in the walk's spelling. -/
theorem Bx.reads (h : Bx B (fsOf B) st b c n e r w) :
    (w.cell? ⟨B, 0, none⟩ = some (.int .i64 0) ∧ w.cell? ⟨B, 1, none⟩ = some (.string ⟨#[]⟩) ∧ w.cell? ⟨B, 2, none⟩ = some (.bool false)) ∧ (w.frozen? ⟨B, 0, none⟩ = false ∧ w.frozen? ⟨B, 1, none⟩ = false ∧ w.frozen? ⟨B, 2, none⟩ = false) ∧
    (w.cell? ⟨B + 1, 0, none⟩ = some (.int .i64 st) ∧ w.cell? ⟨B + 1, 1, none⟩ = some (.string b) ∧ w.cell? ⟨B + 1, 2, none⟩ = some (.bool c) ∧ w.frozen? ⟨B + 1, 1, none⟩ = false) ∧
    w.cell? ⟨B + 1 + 1, 0, none⟩ = some (.int .i64 n) ∧ w.cell? ⟨B + 1 + 1 + 1 + 1, 0, none⟩ = some (.string r) ∧
    (w.cell? ⟨B + 1 + 1 + 1 + 1 + 1, 1, none⟩ = (fsOf B)[1]? ∧ w.cell? ⟨B + 1 + 1 + 1 + 1 + 1, 2, none⟩ = (fsOf B)[2]? ∧ w.cell? ⟨B + 1 + 1 + 1 + 1 + 1, 3, none⟩ = (fsOf B)[3]?) :=
  ⟨⟨Lib.cell_of_heap h.zero 0, Lib.cell_of_heap h.zero 1, Lib.cell_of_heap h.zero 2⟩, ⟨frozen_of_heap h.zero 0, frozen_of_heap h.zero 1, frozen_of_heap h.zero 2⟩,
    ⟨Lib.cell_of_heap h.out 0, Lib.cell_of_heap h.out 1, Lib.cell_of_heap h.out 2, frozen_of_heap h.out 1⟩, Lib.cell_of_heap h.num 0, Lib.cell_of_heap h.rest 0,
    ⟨Lib.cell_of_heap h.fns 1, Lib.cell_of_heap h.fns 2, Lib.cell_of_heap h.fns 3⟩⟩
end


set_option maxHeartbeats 3200000 in
theorem Read_e1 (s : ByteArray) (w : World) (hT : Tab w) (E : Int) (he : (E == 0) = false) (m : Int) (R1 : ByteArray) (h1 : statusL s.data.toList = (m, R1.data.toList, E)) :
    Calls Tryd.prog 13 #[.string s] w fun e w' => e = .returned (.tuple #[.agg #[.int .i64 0, .string ⟨#[]⟩, .bool false], .int .i64 0, .int .i64 E]) ∧ Below w.heap.size w w' := by
  have H1 := Lib.hid h1
  clear h1
  have hmf : ∀ (fn : Fn) (first cap : Array Value) (w : World), (Instr.makeFunc fn first cap).run Tryd.prog w = .ok (.func fn first cap) w := fun _ _ _ _ => rfl
  have hb0 := below_W0 s w
  go_enter Tryd.func13, Tryd.ntmps13
  go_wp2_with fail
  refine wp_loop_rounds 5 ?_
  rw [rounds_succ]
  go_wp2_with fail
  refine (step1 (start s w) (hT.keep hb0) m R1 E H1.out).mono ?_
  rintro en w1 ⟨rfl, hx1, hb1⟩
  obtain ⟨⟨z0, z1, z2⟩, ⟨y0, y1, y2⟩, -⟩ := hx1.reads
  have HX1 := Lib.hid hx1
  have hbb1 := hb0.trans hb1
  clear hx1 hb1
  go_wp2_with fail
  exact bodyPost_ret (v := .tuple #[.agg #[.int .i64 0, .string ⟨#[]⟩, .bool false], .int .i64 0, .int .i64 E]) (by simp [results, Tryd.results13, go_sem, z0, z1, z2]) rfl ⟨rfl, (((hbb1).setCell (by simp) _).setCell (by simp) _).setCell (by simp) _⟩

set_option maxHeartbeats 3200000 in
theorem Read_e2 (s : ByteArray) (w : World) (hT : Tab w) (E : Int) (he : (E == 0) = false) (m : Int) (R1 : ByteArray) (h1 : statusL s.data.toList = (m, R1.data.toList, 0)) (R2 : ByteArray) (h2 : wordL R1.data.toList lenB = (R2.data.toList, E)) :
    Calls Tryd.prog 13 #[.string s] w fun e w' => e = .returned (.tuple #[.agg #[.int .i64 0, .string ⟨#[]⟩, .bool false], .int .i64 0, .int .i64 E]) ∧ Below w.heap.size w w' := by
  have H1 := Lib.hid h1
  clear h1
  have H2 := Lib.hid h2
  clear h2
  have hmf : ∀ (fn : Fn) (first cap : Array Value) (w : World), (Instr.makeFunc fn first cap).run Tryd.prog w = .ok (.func fn first cap) w := fun _ _ _ _ => rfl
  have hb0 := below_W0 s w
  go_enter Tryd.func13, Tryd.ntmps13
  go_wp2_with fail
  refine wp_loop_rounds 5 ?_
  rw [rounds_succ]
  go_wp2_with fail
  refine (step1 (start s w) (hT.keep hb0) m R1 0 H1.out).mono ?_
  rintro en w1 ⟨rfl, hx1, hb1⟩
  obtain ⟨-, -, -, -, -, g1, g2, g3⟩ := hx1.reads
  simp only [fsOf, List.getElem?_toArray, List.getElem?_cons_zero, List.getElem?_cons_succ] at g1 g2 g3
  have HX1 := Lib.hid hx1
  have hbb1 := hb0.trans hb1
  clear hx1 hb1
  go_wp2_with fail
  rw [rounds_succ]
  go_wp2_with fail
  refine (step2 HX1.out R2 E H2.out).mono ?_
  rintro en w2 ⟨rfl, hx2, hb2⟩
  clear g1 g2 g3
  obtain ⟨⟨z0, z1, z2⟩, ⟨y0, y1, y2⟩, -⟩ := hx2.reads
  have HX2 := Lib.hid hx2
  have hbb2 := hbb1.trans hb2
  clear hx2 hb2
  go_wp2_with fail
  exact bodyPost_ret (v := .tuple #[.agg #[.int .i64 0, .string ⟨#[]⟩, .bool false], .int .i64 0, .int .i64 E]) (by simp [results, Tryd.results13, go_sem, z0, z1, z2]) rfl ⟨rfl, (((hbb2).setCell (by simp) _).setCell (by simp) _).setCell (by simp) _⟩

set_option maxHeartbeats 3200000 in
theorem Read_e3 (s : ByteArray) (w : World) (hT : Tab w) (E : Int) (he : (E == 0) = false) (m : Int) (R1 : ByteArray) (h1 : statusL s.data.toList = (m, R1.data.toList, 0)) (R2 : ByteArray) (h2 : wordL R1.data.toList lenB = (R2.data.toList, 0)) (n : Nat) (R3 : ByteArray) (h3 : numberL R2.data.toList = (n, R3.data.toList, E)) (hm2 : R2.size ≤ 9223372036854775806) :
    Calls Tryd.prog 13 #[.string s] w fun e w' => e = .returned (.tuple #[.agg #[.int .i64 0, .string ⟨#[]⟩, .bool false], .int .i64 0, .int .i64 E]) ∧ Below w.heap.size w w' := by
  have H1 := Lib.hid h1
  clear h1
  have H2 := Lib.hid h2
  clear h2
  have H3 := Lib.hid h3
  clear h3
  have hmf : ∀ (fn : Fn) (first cap : Array Value) (w : World), (Instr.makeFunc fn first cap).run Tryd.prog w = .ok (.func fn first cap) w := fun _ _ _ _ => rfl
  have hb0 := below_W0 s w
  go_enter Tryd.func13, Tryd.ntmps13
  go_wp2_with fail
  refine wp_loop_rounds 5 ?_
  rw [rounds_succ]
  go_wp2_with fail
  refine (step1 (start s w) (hT.keep hb0) m R1 0 H1.out).mono ?_
  rintro en w1 ⟨rfl, hx1, hb1⟩
  obtain ⟨-, -, -, -, -, g1, g2, g3⟩ := hx1.reads
  simp only [fsOf, List.getElem?_toArray, List.getElem?_cons_zero, List.getElem?_cons_succ] at g1 g2 g3
  have HX1 := Lib.hid hx1
  have hbb1 := hb0.trans hb1
  clear hx1 hb1
  go_wp2_with fail
  rw [rounds_succ]
  go_wp2_with fail
  refine (step2 HX1.out R2 0 H2.out).mono ?_
  rintro en w2 ⟨rfl, hx2, hb2⟩
  clear g1 g2 g3
  obtain ⟨-, -, -, -, -, g1, g2, g3⟩ := hx2.reads
  simp only [fsOf, List.getElem?_toArray, List.getElem?_cons_zero, List.getElem?_cons_succ] at g1 g2 g3
  have HX2 := Lib.hid hx2
  have hbb2 := hbb1.trans hb2
  clear hx2 hb2
  go_wp2_with fail
  rw [rounds_succ]
  go_wp2_with fail
  refine (step3 HX2.out hm2 n R3 E H3.out).mono ?_
  rintro en w3 ⟨rfl, hx3, hb3⟩
  clear g1 g2 g3
  obtain ⟨⟨z0, z1, z2⟩, ⟨y0, y1, y2⟩, -⟩ := hx3.reads
  have HX3 := Lib.hid hx3
  have hbb3 := hbb2.trans hb3
  clear hx3 hb3
  go_wp2_with fail
  exact bodyPost_ret (v := .tuple #[.agg #[.int .i64 0, .string ⟨#[]⟩, .bool false], .int .i64 0, .int .i64 E]) (by simp [results, Tryd.results13, go_sem, z0, z1, z2]) rfl ⟨rfl, (((hbb3).setCell (by simp) _).setCell (by simp) _).setCell (by simp) _⟩

set_option maxHeartbeats 3200000 in
theorem Read_e4 (s : ByteArray) (w : World) (hT : Tab w) (E : Int) (he : (E == 0) = false) (m : Int) (R1 : ByteArray) (h1 : statusL s.data.toList = (m, R1.data.toList, 0)) (R2 : ByteArray) (h2 : wordL R1.data.toList lenB = (R2.data.toList, 0)) (n : Nat) (R3 : ByteArray) (h3 : numberL R2.data.toList = (n, R3.data.toList, 0)) (hm2 : R2.size ≤ 9223372036854775806) (h4 : (tailL R3.data.toList).2.2 = E) :
    Calls Tryd.prog 13 #[.string s] w fun e w' => e = .returned (.tuple #[.agg #[.int .i64 0, .string ⟨#[]⟩, .bool false], .int .i64 0, .int .i64 E]) ∧ Below w.heap.size w w' := by
  have H1 := Lib.hid h1
  clear h1
  have H2 := Lib.hid h2
  clear h2
  have H3 := Lib.hid h3
  clear h3
  have hmf : ∀ (fn : Fn) (first cap : Array Value) (w : World), (Instr.makeFunc fn first cap).run Tryd.prog w = .ok (.func fn first cap) w := fun _ _ _ _ => rfl
  have hb0 := below_W0 s w
  go_enter Tryd.func13, Tryd.ntmps13
  go_wp2_with fail
  refine wp_loop_rounds 5 ?_
  rw [rounds_succ]
  go_wp2_with fail
  refine (step1 (start s w) (hT.keep hb0) m R1 0 H1.out).mono ?_
  rintro en w1 ⟨rfl, hx1, hb1⟩
  obtain ⟨-, -, -, -, -, g1, g2, g3⟩ := hx1.reads
  simp only [fsOf, List.getElem?_toArray, List.getElem?_cons_zero, List.getElem?_cons_succ] at g1 g2 g3
  have HX1 := Lib.hid hx1
  have hbb1 := hb0.trans hb1
  clear hx1 hb1
  go_wp2_with fail
  rw [rounds_succ]
  go_wp2_with fail
  refine (step2 HX1.out R2 0 H2.out).mono ?_
  rintro en w2 ⟨rfl, hx2, hb2⟩
  clear g1 g2 g3
  obtain ⟨-, -, -, -, -, g1, g2, g3⟩ := hx2.reads
  simp only [fsOf, List.getElem?_toArray, List.getElem?_cons_zero, List.getElem?_cons_succ] at g1 g2 g3
  have HX2 := Lib.hid hx2
  have hbb2 := hbb1.trans hb2
  clear hx2 hb2
  go_wp2_with fail
  rw [rounds_succ]
  go_wp2_with fail
  refine (step3 HX2.out hm2 n R3 0 H3.out).mono ?_
  rintro en w3 ⟨rfl, hx3, hb3⟩
  clear g1 g2 g3
  obtain ⟨-, -, -, -, -, g1, g2, g3⟩ := hx3.reads
  simp only [fsOf, List.getElem?_toArray, List.getElem?_cons_zero, List.getElem?_cons_succ] at g1 g2 g3
  have HX3 := Lib.hid hx3
  have hbb3 := hbb2.trans hb3
  clear hx3 hb3
  go_wp2_with fail
  rw [rounds_succ]
  go_wp2_with fail
  refine (step4 HX3.out).mono ?_
  rintro en w4 ⟨rfl, -, ⟨c', R', e', hx4⟩, hb4⟩
  clear g1 g2 g3
  obtain ⟨⟨z0, z1, z2⟩, ⟨y0, y1, y2⟩, -⟩ := hx4.reads
  have hbb4 := hbb3.trans hb4
  clear hx4 hb4
  rw [h4]
  go_wp2_with fail
  exact bodyPost_ret (v := .tuple #[.agg #[.int .i64 0, .string ⟨#[]⟩, .bool false], .int .i64 0, .int .i64 E]) (by simp [results, Tryd.results13, go_sem, z0, z1, z2]) rfl ⟨rfl, (((hbb4).setCell (by simp) _).setCell (by simp) _).setCell (by simp) _⟩

set_option maxHeartbeats 3200000 in
theorem Read_short (s : ByteArray) (w : World) (hT : Tab w) (m : Int) (R1 : ByteArray) (h1 : statusL s.data.toList = (m, R1.data.toList, 0)) (R2 : ByteArray) (h2 : wordL R1.data.toList lenB = (R2.data.toList, 0)) (n : Nat) (R3 : ByteArray) (h3 : numberL R2.data.toList = (n, R3.data.toList, 0)) (hm2 : R2.size ≤ 9223372036854775806) (c : Bool) (R : ByteArray) (h4 : tailL R3.data.toList = (c, R.data.toList, 0)) (hR : R.size ≤ s.size) (hlt : R.size < n) :
    Calls Tryd.prog 13 #[.string s] w fun e w' => e = .returned (.tuple #[.agg #[.int .i64 0, .string ⟨#[]⟩, .bool false], .int .i64 0, .int .i64 192]) ∧ Below w.heap.size w w' := by
  have H1 := Lib.hid h1
  clear h1
  have H2 := Lib.hid h2
  clear h2
  have H3 := Lib.hid h3
  clear h3
  have hmf : ∀ (fn : Fn) (first cap : Array Value) (w : World), (Instr.makeFunc fn first cap).run Tryd.prog w = .ok (.func fn first cap) w := fun _ _ _ _ => rfl
  have hb0 := below_W0 s w
  go_enter Tryd.func13, Tryd.ntmps13
  go_wp2_with fail
  refine wp_loop_rounds 5 ?_
  rw [rounds_succ]
  go_wp2_with fail
  refine (step1 (start s w) (hT.keep hb0) m R1 0 H1.out).mono ?_
  rintro en w1 ⟨rfl, hx1, hb1⟩
  obtain ⟨-, -, -, -, -, g1, g2, g3⟩ := hx1.reads
  simp only [fsOf, List.getElem?_toArray, List.getElem?_cons_zero, List.getElem?_cons_succ] at g1 g2 g3
  have HX1 := Lib.hid hx1
  have hbb1 := hb0.trans hb1
  clear hx1 hb1
  go_wp2_with fail
  rw [rounds_succ]
  go_wp2_with fail
  refine (step2 HX1.out R2 0 H2.out).mono ?_
  rintro en w2 ⟨rfl, hx2, hb2⟩
  clear g1 g2 g3
  obtain ⟨-, -, -, -, -, g1, g2, g3⟩ := hx2.reads
  simp only [fsOf, List.getElem?_toArray, List.getElem?_cons_zero, List.getElem?_cons_succ] at g1 g2 g3
  have HX2 := Lib.hid hx2
  have hbb2 := hbb1.trans hb2
  clear hx2 hb2
  go_wp2_with fail
  rw [rounds_succ]
  go_wp2_with fail
  refine (step3 HX2.out hm2 n R3 0 H3.out).mono ?_
  rintro en w3 ⟨rfl, hx3, hb3⟩
  clear g1 g2 g3
  obtain ⟨-, -, -, -, -, g1, g2, g3⟩ := hx3.reads
  simp only [fsOf, List.getElem?_toArray, List.getElem?_cons_zero, List.getElem?_cons_succ] at g1 g2 g3
  have HX3 := Lib.hid hx3
  have hbb3 := hbb2.trans hb3
  clear hx3 hb3
  have h4z : (tailL R3.data.toList).2.2 = 0 := by rw [h4]
  have H4 := Lib.hid h4
  have H4Z := Lib.hid h4z
  clear h4 h4z
  go_wp2_with fail
  rw [rounds_succ]
  go_wp2_with fail
  refine (step4 HX3.out).mono ?_
  rintro en w4 ⟨rfl, hR4, -, hb4⟩
  rw [H4Z.out]
  obtain ⟨R', e', hR', hx4⟩ := hR4 H4Z.out
  clear hR4 g1 g2 g3
  rw [H4.out] at hR' hx4
  obtain rfl : R' = R := ba_ext hR'
  obtain ⟨⟨z0, z1, z2⟩, ⟨y0, y1, y2⟩, ⟨x0, x1, x2, x3⟩, n0, r0, -⟩ := hx4.reads
  have hbb4 := hbb3.trans hb4
  clear hx4 hb4 hR'
  go_wp2_with fail
  rw [rounds_succ]
  go_wp2_with fail
  exact bodyPost_ret (v := .tuple #[.agg #[.int .i64 0, .string ⟨#[]⟩, .bool false], .int .i64 0, .int .i64 192]) (by simp [results, Tryd.results13, go_sem, z0, z1, z2]) rfl ⟨rfl, (((hbb4).setCell (by simp) _).setCell (by simp) _).setCell (by simp) _⟩

set_option maxHeartbeats 3200000 in
theorem Read_ok (s : ByteArray) (w : World) (hT : Tab w) (m : Int) (R1 : ByteArray) (h1 : statusL s.data.toList = (m, R1.data.toList, 0)) (R2 : ByteArray) (h2 : wordL R1.data.toList lenB = (R2.data.toList, 0)) (n : Nat) (R3 : ByteArray) (h3 : numberL R2.data.toList = (n, R3.data.toList, 0)) (hm2 : R2.size ≤ 9223372036854775806) (c : Bool) (R : ByteArray) (h4 : tailL R3.data.toList = (c, R.data.toList, 0)) (hR : R.size ≤ s.size) (hlt : n ≤ R.size) (hm : s.size ≤ 9223372036854770000) (hn : n ≤ 100000) :
    Calls Tryd.prog 13 #[.string s] w fun e w' => e = .returned (.tuple #[.agg #[.int .i64 m, .string (R.extract 0 n), .bool c], .int .i64 (s.size - R.size + n : Int), .int .i64 0]) ∧ Below w.heap.size w w' := by
  have H1 := Lib.hid h1
  clear h1
  have H2 := Lib.hid h2
  clear h2
  have H3 := Lib.hid h3
  clear h3
  have hmf : ∀ (fn : Fn) (first cap : Array Value) (w : World), (Instr.makeFunc fn first cap).run Tryd.prog w = .ok (.func fn first cap) w := fun _ _ _ _ => rfl
  have hb0 := below_W0 s w
  go_enter Tryd.func13, Tryd.ntmps13
  go_wp2_with fail
  refine wp_loop_rounds 5 ?_
  rw [rounds_succ]
  go_wp2_with fail
  refine (step1 (start s w) (hT.keep hb0) m R1 0 H1.out).mono ?_
  rintro en w1 ⟨rfl, hx1, hb1⟩
  obtain ⟨-, -, -, -, -, g1, g2, g3⟩ := hx1.reads
  simp only [fsOf, List.getElem?_toArray, List.getElem?_cons_zero, List.getElem?_cons_succ] at g1 g2 g3
  have HX1 := Lib.hid hx1
  have hbb1 := hb0.trans hb1
  clear hx1 hb1
  go_wp2_with fail
  rw [rounds_succ]
  go_wp2_with fail
  refine (step2 HX1.out R2 0 H2.out).mono ?_
  rintro en w2 ⟨rfl, hx2, hb2⟩
  clear g1 g2 g3
  obtain ⟨-, -, -, -, -, g1, g2, g3⟩ := hx2.reads
  simp only [fsOf, List.getElem?_toArray, List.getElem?_cons_zero, List.getElem?_cons_succ] at g1 g2 g3
  have HX2 := Lib.hid hx2
  have hbb2 := hbb1.trans hb2
  clear hx2 hb2
  go_wp2_with fail
  rw [rounds_succ]
  go_wp2_with fail
  refine (step3 HX2.out hm2 n R3 0 H3.out).mono ?_
  rintro en w3 ⟨rfl, hx3, hb3⟩
  clear g1 g2 g3
  obtain ⟨-, -, -, -, -, g1, g2, g3⟩ := hx3.reads
  simp only [fsOf, List.getElem?_toArray, List.getElem?_cons_zero, List.getElem?_cons_succ] at g1 g2 g3
  have HX3 := Lib.hid hx3
  have hbb3 := hbb2.trans hb3
  clear hx3 hb3
  have h4z : (tailL R3.data.toList).2.2 = 0 := by rw [h4]
  have H4 := Lib.hid h4
  have H4Z := Lib.hid h4z
  clear h4 h4z
  go_wp2_with fail
  rw [rounds_succ]
  go_wp2_with fail
  refine (step4 HX3.out).mono ?_
  rintro en w4 ⟨rfl, hR4, -, hb4⟩
  rw [H4Z.out]
  obtain ⟨R', e', hR', hx4⟩ := hR4 H4Z.out
  clear hR4 g1 g2 g3
  rw [H4.out] at hR' hx4
  obtain rfl : R' = R := ba_ext hR'
  obtain ⟨⟨z0, z1, z2⟩, ⟨y0, y1, y2⟩, ⟨x0, x1, x2, x3⟩, n0, r0, -⟩ := hx4.reads
  have hbb4 := hbb3.trans hb4
  have HX5 := Lib.hid (hx4.setB (R'.extract 0 n))
  have hbb5 := hbb4.setCell (p := ⟨w.heap.size + 1, 1, none⟩) (by simp) (.string (R'.extract 0 n))
  clear hx4 hb4 hR'
  go_wp2_with fail
  rw [rounds_succ]
  go_wp2_with fail
  clear z0 z1 z2 y0 y1 y2 x0 x1 x2 x3 n0 r0
  generalize w4.setCell ⟨w.heap.size + 1, 1, none⟩ (.string (R'.extract 0 n)) = W at HX5 hbb5 ⊢
  obtain ⟨⟨z0, z1, z2⟩, ⟨y0, y1, y2⟩, ⟨x0, x1, x2, x3⟩, n0, r0, -⟩ := HX5.out.reads
  have hs1 : IntKind.i64.wrap ((s.size : Int) - (R'.size : Int)) = (s.size : Int) - (R'.size : Int) := IntWalk.i64_in _ (by omega)
  have hs2 : IntKind.i64.wrap ((s.size : Int) - (R'.size : Int) + (n : Int)) = (s.size : Int) - (R'.size : Int) + (n : Int) := IntWalk.i64_in _ (by omega)
  have q1 : w.heap.size ≠ w.heap.size + 1 + 1 := by omega
  have q2 : w.heap.size + 1 + 1 ≠ w.heap.size := by omega
  have q3 : w.heap.size ≠ w.heap.size + 1 + 1 + 1 + 1 := by omega
  have q4 : w.heap.size + 1 + 1 + 1 + 1 ≠ w.heap.size := by omega
  go_region_held3 (fun w' => (w'.cell? ⟨w.heap.size + 1, 0, none⟩ = some (.int .i64 m) ∧ w'.cell? ⟨w.heap.size + 1, 1, none⟩ = some (.string (R'.extract 0 n)) ∧ w'.cell? ⟨w.heap.size + 1, 2, none⟩ = some (.bool c)) ∧
      w'.cell? ⟨w.heap.size + 1 + 1, 0, none⟩ = some (.int .i64 n) ∧ w'.cell? ⟨w.heap.size + 1 + 1 + 1 + 1, 0, none⟩ = some (.string R')) (go_keep) (fail)
  clear hs1 hs2
  all_goals (go_wp2_with fail)
  all_goals exact bodyPost_ret (v := .tuple #[.agg #[.int .i64 m, .string (R'.extract 0 n), .bool c], .int .i64 ((s.size : Int) - R'.size + n), .int .i64 0]) (by simp [results, Tryd.results13, go_sem, z0, z1, z2]) rfl ⟨rfl, (((hbb5.drew).setCell (by simp) _).setCell (by simp) _).setCell (by simp) _⟩
end Go.Proofs.YtakbejphbnbepaaDoor.W19
