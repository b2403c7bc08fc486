/-
  Walks of layer 20: the map of the paths. Conditions: none.
  Walks of layer 20: what stands behind each path's first part. Conditions: the parts' cells hold them.
-/
import Derived.Test.YtfkmgnldkmpeiaaGreatDoorGan
import Derived.StillTailTactics

namespace Go.Proofs.YtfkmgnldkmpeiaaGreatDoor.W20
open Go Go.RowKit P12 P18 P20 W12

/-! ## A map's entries, laid one by one -/
section
variable {P : Program}
theorem setObj_at (w : World) (b : Nat) (es : Array MapEntry) (c : Nat) (o' : Obj) (h : w.heap[b]? = some (.map es c)) : (setObj b o').run P w = .ok () { w with heap := w.heap.setIfInBounds b o' } := by
  simp only [setObj, Sem.run]
  rw [h]
theorem run_insert_any (t k e : TypeId) (ht : P.underlying t = some (.map k e)) (hk : P.underlying k = some .string) (w : World) (b : Nat) (es : Array MapEntry) (c : Nat) (hb : w.heap[b]? = some (.map es c)) (x : ByteArray) (v : Value) (hno : Instr.findNow .string (.string x) es.toList 0 = some none) :
    (Instr.mapUpdate t (.map (some b)) (.string x) v).run P w = .ok () { w with heap := w.heap.setIfInBounds b (.map (es.push { key := .string x, val := v, born := c }) (c + 1)) } := by
  have hc := MapL.checkKey_str (P := P) w false k x hk 9999
  simp [Instr.mapUpdate, run_underlying ht, MapL.getObj_at hb, hc, MapL.findKey_none _ k _ hk _ _ hno, Result.andThen, setObj_at w b _ _ _ hb]
theorem wpList_ins {ops : Array Oper} {rest : List Oper} {o : Oper} {a : Act} {w : World} {Q : Exit → Act → World → Prop} (hgd : o.guard = none) (t : TypeId) (x y z : Operand) (ho : o.op = .insert t x y z) (k e : TypeId) (ht : P.underlying t = some (.map k e)) (hk : P.underlying k = some .string)
    (b : Nat) (es : Array MapEntry) (c : Nat) (key : ByteArray) (v : Value) (hx : a.eval x = .map (some b)) (hy : a.eval y = .string key) (hz : a.eval z = v) (hb : w.heap[b]? = some (.map es c)) (hno : Instr.findNow .string (.string key) es.toList 0 = some none)
    (h : ∀ w', w'.heap[b]? = some (.map (es.push { key := .string key, val := v, born := c }) (c + 1)) → Below b w w' → (∀ j, j ≠ b → w'.heap[j]? = w.heap[j]?) → wpList P ops Q rest (a.put o.dst undef) w') : wpList P ops Q (o :: rest) a w := by
  refine wpList_plain hgd fun K' hK' => ?_
  have hrun := run_insert_any (P := P) t k e ht hk w b es c hb key v hno
  unfold Oper.wp
  simp [execOp, ho, hx, hy, hz, hrun, Result.andThen]
  have hlt : b < w.heap.size := (Array.getElem?_eq_some_iff.1 hb).1
  refine hK' _ _ (h _ ?_ ?_ ?_)
  · simp [hlt]
  · exact ⟨rfl, rfl, rfl, by simp, fun i hi => by simp [Array.getElem?_setIfInBounds_ne (show b ≠ i by omega)]⟩
  · exact fun j hj => by simp [Array.getElem?_setIfInBounds_ne (show b ≠ j from fun e => hj e.symm)]
/-- 'v, ok := m[x]' at string keys. -/
theorem run_look_str (t k e : TypeId) (ht : P.underlying t = some (.map k e)) (hk : P.underlying k = some .string) (w : World) (b : Nat) (es : Array MapEntry) (c : Nat) (hb : w.heap[b]? = some (.map es c)) (x : ByteArray) (r : Option (Nat × Value)) (hf : Instr.findNow .string (.string x) es.toList 0 = some r)
    (z : Value) (hz : (zeroValue e).run P w = .ok z w) :
    (Instr.lookup t (.map (some b)) (.string x) true).run P w = .ok (.tuple #[(r.map (·.2)).getD z, .bool r.isSome]) w := by
  have hc := MapL.checkKey_str (P := P) w es.isEmpty k x hk 9999
  cases r with
  | none => simp [Instr.lookup, run_underlying ht, MapL.getObj_at hb, hc, MapL.findKey_none _ k _ hk _ _ hf, hz, Result.andThen]
  | some r => simp [Instr.lookup, run_underlying ht, MapL.getObj_at hb, hc, MapL.findKey_some _ k _ hk _ _ r hf, Result.andThen]
end

/-! ## The calls -/
abbrev clC (c : Cl) (fv : Value) : Array Value := #[.int .i64 c.kind, bs c.cstream, bs c.cname, bs c.ckey, .int .i64 c.cexp, fv, bs c.stream, .int .i64 c.frm, .int .i64 c.most, bs c.view, bs c.key]
abbrev zeroCl : Array Value := #[.int .i64 0, .string ⟨#[]⟩, .string ⟨#[]⟩, .string ⟨#[]⟩, .int .i64 0, .slice none 0 0, .string ⟨#[]⟩, .int .i64 0, .int .i64 0, .string ⟨#[]⟩, .string ⟨#[]⟩]
abbrev clK (k m : Int) : Array Value := #[.int .i64 k, .string ⟨#[]⟩, .string ⟨#[]⟩, .string ⟨#[]⟩, .int .i64 0, .slice none 0 0, .string ⟨#[]⟩, .int .i64 0, .int .i64 m, .string ⟨#[]⟩, .string ⟨#[]⟩]
abbrev tCl : TypeId := 30
abbrev fAlone : Nat := 125
abbrev getB : ByteArray := ⟨#[71, 69, 84]⟩
abbrev postB : ByteArray := ⟨#[80, 79, 83, 84]⟩
set_option maxRecDepth 100000 in
theorem alone_any (k m : Int) (w : World) : Calls Tryz.prog 96 #[.agg (clK k m)] w fun e w' => ∃ b, e = .returned (.agg #[.string getB, .func (.func fAlone) #[] #[.pointer (some ⟨b, 0, none⟩)]]) ∧ StAt tCl b (clK k m) w' ∧ w.heap.size ≤ b ∧ Below w.heap.size w w' := by
  go_enter Tryz.func96, Tryz.ntmps96
  have hx := keep_at (new_at w (clK k m) tCl) (below_alloc (w.alloc (.cells (clK k m) tCl)) (.cells #[.string ⟨#[]⟩, .nilFunc] 118))
  have hy := new_at (w.alloc (.cells (clK k m) tCl)) #[.string ⟨#[]⟩, .nilFunc] 118
  have hb := below_then (below_alloc w (.cells (clK k m) tCl)) (below_alloc (w.alloc (.cells (clK k m) tCl)) (.cells #[.string ⟨#[]⟩, .nilFunc] 118))
  have hz : (w.alloc (.cells (clK k m) tCl)).heap.size = w.heap.size + 1 := by simp
  rw [hz] at hy
  go_wp2_with (refine put_st rfl _ _ _ rfl (w.heap.size + 1) #[.string getB, .func (.func fAlone) #[] #[.pointer (some ⟨w.heap.size, 0, none⟩)]] rfl rfl hy infoPa rfl (by simp [Value.oneCell']) ?_; intro w1 h1 h2 h3)
  exact bodyPost_ret (v := .agg #[.string getB, .func (.func fAlone) #[] #[.pointer (some ⟨w.heap.size, 0, none⟩)]]) (ret_st1 Tryz.results96 _ _ _ _ rfl (load_pa h1 rfl)) rfl ⟨w.heap.size, rfl, (h3 _ (by omega)).trans hx, Nat.le_refl _, hb.trans (h2.mono (by omega))⟩

def pent (k : By) (v : Value) (n : Nat) : MapEntry := { key := .string ⟨k.toArray⟩, val := v, born := n }
abbrev pV (m : ByteArray) (f : Nat) (lb : Array Value) : Value := .agg #[.string m, .func (.func f) #[] lb]
abbrev pAl (b : Nat) : Value := pV getB fAlone #[.pointer (some ⟨b, 0, none⟩)]
def pes (b1 b2 b3 : Nat) : List MapEntry :=
  [pent kC (pV postB 91 #[]) 0, pent kS (pV getB 92 #[]) 1, pent kE (pV getB 94 #[]) 2, pent kP (pV getB 95 #[]) 3, pent kLog (pAl b1) 4, pent kStreams (pAl b2) 5, pent kPing (pAl b3) 6]
/-- While the map of block B is being made: its entries; the calls that its closures hold. -/
structure PI (w W : World) (B : Nat) (es : Array MapEntry) (c : Nat) (L : List (Nat × Array Value)) : Prop where
  base : w.heap.size ≤ B
  map : W.heap[B]? = some (.map es c)
  below : Below w.heap.size w W
  held : ∀ x ∈ L, x.1 ≠ B ∧ w.heap.size ≤ x.1 ∧ StAt tCl x.1 x.2 W
theorem PI.start (w : World) : PI w (w.alloc (.map #[] 0)) w.heap.size #[] 0 [] := ⟨Nat.le_refl _, heap_new w _, below_alloc w _, fun x hx => by cases hx⟩
theorem PI.ins {w W W' : World} {B : Nat} {es es' : Array MapEntry} {c c' : Nat} {L : List (Nat × Array Value)} (h : PI w W B es c L) (h1 : W'.heap[B]? = some (.map es' c')) (h2 : Below B W W') (h3 : ∀ j, j ≠ B → W'.heap[j]? = W.heap[j]?) : PI w W' B es' c' L :=
  ⟨h.base, h1, h.below.trans (h2.mono h.base), fun x hx => ⟨(h.held x hx).1, (h.held x hx).2.1, (h3 _ (h.held x hx).1).trans (h.held x hx).2.2⟩⟩
theorem PI.more {w W W' : World} {B b : Nat} {es : Array MapEntry} {c : Nat} {L : List (Nat × Array Value)} {cs : Array Value} (h : PI w W B es c L) (h1 : StAt tCl b cs W') (h2 : W.heap.size ≤ b) (h3 : Below W.heap.size W W') : PI w W' B es c ((b, cs) :: L) := by
  have hlt : B < W.heap.size := (Array.getElem?_eq_some_iff.1 h.map).1
  have hle := h.below.size
  refine ⟨h.base, (h3.block B hlt).trans h.map, below_then h.below h3, fun x hx => ?_⟩
  rcases List.mem_cons.1 hx with rfl | hx
  · exact ⟨by show b ≠ B; omega, by show _ ≤ b; omega, h1⟩
  · obtain ⟨g1, g2, g3⟩ := h.held x hx
    exact ⟨g1, g2, keep_at g3 h3⟩
theorem PI.keep {w W W' : World} {B : Nat} {es : Array MapEntry} {c : Nat} {L : List (Nat × Array Value)} (h : PI w W B es c L) (h3 : Below W.heap.size W W') : PI w W' B es c L := by
  have hlt : B < W.heap.size := (Array.getElem?_eq_some_iff.1 h.map).1
  exact ⟨h.base, (h3.block B hlt).trans h.map, below_then h.below h3, fun x hx => ⟨(h.held x hx).1, (h.held x hx).2.1, keep_at (h.held x hx).2.2 h3⟩⟩
set_option maxHeartbeats 1600000 in
set_option maxRecDepth 100000 in
theorem paths_any (w : World) : Calls Tryz.prog 64 #[] w fun e W => ∃ B b1 b2 b3, e = .returned (.map (some B)) ∧ PI w W B (pes b1 b2 b3).toArray 7 [(b3, clK 8 0), (b2, clK 7 0), (b1, clK 4 50)] := by
  have hmm : ∀ w : World, (Instr.makeMap 120 none).run Tryz.prog w = .ok (.map (some w.heap.size)) (w.alloc (.map #[] 0)) := fun w => run_makeMap _ w
  have hI := PI.start w
  go_enter Tryz.func64, Tryz.ntmps64
  go_wp2_with (first
    | (refine wpList_ins rfl _ _ _ _ rfl 9 118 Tryz.underlying120 Tryz.underlying9 _ _ _ _ _ rfl rfl rfl hI.map (by rfl) ?_; intro W h1 h2 h3; replace hI := hI.ins h1 h2 h3; clear h1 h2 h3)
    | (go_at_call 96; refine (alone_any _ _ _).mono ?_; rintro e W ⟨b, rfl, h1, h2, h3⟩; replace hI := hI.more h1 h2 h3; clear h1 h2 h3))
  go_ret
  exact ⟨_, _, _, _, rfl, hI⟩
end Go.Proofs.YtfkmgnldkmpeiaaGreatDoor.W20

namespace Go.Proofs.YtfkmgnldkmpeiaaGreatDoor.W20
open Go Go.RowKit P12 P18 P20 W12

/-- What a path's closure comes to, by the first part and those behind it. -/
def CallPost (key : By) (l : List By) (post : Bool) (W : World) (e : Ending) (W' : World) : Prop :=
  ∃ (c : Cl) (ok : Bool), e = .returned (.tuple #[.agg (clC c (.slice none 0 0)), .bool ok]) ∧ (ok = true → callL (key :: l) = some (c, post)) ∧ (ok = false → callL (key :: l) = none) ∧ Below W.heap.size W W'
theorem strs_one {v : Value} {a : By} {W : World} (h : Strs v [a] W) : ∃ g off c, v = .slice (some ⟨g, off, none⟩) 1 c ∧ W.cell? ⟨g, off, none⟩ = some (bs a) := by
  obtain ⟨o, c, rfl, h⟩ := h
  obtain ⟨g, off, rfl, hc⟩ := h.resolve_left (by simp)
  exact ⟨g, off, c, rfl, hc 0 a rfl⟩
theorem strs_two {v : Value} {a b : By} {W : World} (h : Strs v [a, b] W) : ∃ g off c, v = .slice (some ⟨g, off, none⟩) 2 c ∧ W.cell? ⟨g, off, none⟩ = some (bs a) ∧ W.cell? ⟨g, off + 1, none⟩ = some (bs b) := by
  obtain ⟨o, c, rfl, h⟩ := h
  obtain ⟨g, off, rfl, hc⟩ := h.resolve_left (by simp)
  exact ⟨g, off, c, rfl, hc 0 a rfl, hc 1 b rfl⟩
theorem fits_B (a : By) (W : World) : Calls Tryz.prog 66 #[bs a] W fun e w' => e = .returned (.bool (fitsL a)) ∧ W = w' := fits_any ⟨a.toArray⟩ W
theorem name_B (a : By) (W : World) : Calls Tryz.prog 14 #[bs a] W fun e w' => e = .returned (.bool (nameL a)) ∧ Below W.heap.size W w' := Name_any ⟨a.toArray⟩ W
theorem step_put {ops : Array Oper} {o : Oper} {a : Act} {w : World} {K : Act → World → Prop} {Q : Exit → Act → World → Prop} {E : Prop} (hgd : o.guard = none) (t : TypeId) (x y : Operand) (ho : o.op = .store t x y)
    (N : Nat) (c : Array Value) (hx : a.eval x = .pointer (some ⟨N, 0, none⟩)) (hy : a.eval y = .agg c) {old : Array Value} (hg : StAt t N old w) (hi : (Tryz.prog.info? t).map (·.size) = some c.size) (hs : old.size = c.size) (h1 : c.all (·.oneCell') = true)
    (h : ∀ w', StAt t N c w' → Below N w w' → (∀ k, k ≠ N → w'.heap[k]? = w.heap[k]?) → K (a.put o.dst undef) w') : if Region.wanted o (yielded ops a.tmps) = true then Oper.wp Tryz.prog o a w K Q else E := by
  rw [if_pos (by simp [Region.wanted, hgd])]
  exact wp_store_row t x y ho N c hx hy t old hg hi hs h1 (h _ (setRow_heap w N old c t (0, 0) hg) (below_row (Below.refl _ _) (Nat.le_refl _) _) (fun k hk => setRow_other w N k c hk))
set_option maxHeartbeats 1600000 in
set_option maxRecDepth 100000 in
theorem c_other (n : Nat) (o : Option Addr) (cp : Nat) (h2 : n ≠ 2) (W : World) : Calls Tryz.prog 91 #[.slice o n cp] W fun e W' => e = .returned (.tuple #[.agg zeroCl, .bool false]) ∧ Below W.heap.size W W' := by
  have z1 : ((n : Int) == 2) = false := by rw [beq_eq_false_iff_ne]; omega
  have z2 : ((n : Int) != 2) = true := by rw [bne, z1]; rfl
  have hb := below_alloc W (.cells zeroCl tCl)
  have hx := new_at W zeroCl tCl
  go_enter Tryz.func91, Tryz.ntmps91
  go_wp2_with (refine put_st rfl _ _ _ rfl W.heap.size zeroCl rfl rfl hx infoCl rfl (by simp [Value.oneCell']) ?_; intro w1 h1 h2 h3)
  exact bodyPost_ret (v := .tuple #[.agg zeroCl, .bool false]) (ret_st2 Tryz.results91 _ _ _ _ rfl (load_cl h1 rfl)) rfl ⟨rfl, hb.trans h2⟩
set_option maxHeartbeats 1600000 in
set_option maxRecDepth 100000 in
theorem c_nofit (a : ByteArray) (g off cp : Nat) (W : World) (ha : W.cell? ⟨g, off, none⟩ = some (.string a)) (hf1 : fitsL a.data.toList = false) : Calls Tryz.prog 91 #[.slice (some ⟨g, off, none⟩) 2 cp] W fun e W' => e = .returned (.tuple #[.agg zeroCl, .bool false]) ∧ Below W.heap.size W W' := by
  have hb := below_alloc W (.cells zeroCl tCl)
  have hx := new_at W zeroCl tCl
  have hf := fun V => fits_any a V
  rw [hf1] at hf
  have ha1 := keep_cell hb ha
  have HF := Lib.hid hf
  clear hf hf1
  go_enter Tryz.func91, Tryz.ntmps91
  go_wp2_with (first
    | (go_at_call 66; refine (HF.out _).mono ?_; rintro e w' ⟨rfl, rfl⟩)
    | (refine put_st rfl _ _ _ rfl W.heap.size zeroCl rfl rfl hx infoCl rfl (by simp [Value.oneCell']) ?_; intro w1 h1 h2 h3))
  exact bodyPost_ret (v := .tuple #[.agg zeroCl, .bool false]) (ret_st2 Tryz.results91 _ _ _ _ rfl (load_cl h1 rfl)) rfl ⟨rfl, hb.trans h2⟩
set_option maxHeartbeats 1600000 in
set_option maxRecDepth 100000 in
theorem c_noname (a b : ByteArray) (g off cp : Nat) (W : World) (ha : W.cell? ⟨g, off, none⟩ = some (.string a)) (hbb : W.cell? ⟨g, off + 1, none⟩ = some (.string b)) (hf1 : fitsL a.data.toList = true) (hn1 : nameL b.data.toList = false) : Calls Tryz.prog 91 #[.slice (some ⟨g, off, none⟩) 2 cp] W fun e W' => e = .returned (.tuple #[.agg zeroCl, .bool false]) ∧ Below W.heap.size W W' := by
  have hb := below_alloc W (.cells zeroCl tCl)
  have hx := new_at W zeroCl tCl
  have hf := fun V => fits_any a V
  have hn := fun V => Name_any b V
  have ha1 := keep_cell hb ha
  have hb1 := keep_cell hb hbb
  rw [hf1] at hf
  rw [hn1] at hn
  have HF := Lib.hid hf
  have HN := Lib.hid hn
  clear hf hf1 hn hn1 ha hbb
  go_enter Tryz.func91, Tryz.ntmps91
  go_wp2_with (first
    | (go_at_call 66; refine (HF.out _).mono ?_; rintro e w' ⟨rfl, rfl⟩)
    | (go_at_call 14; refine (HN.out _).mono ?_; rintro e w2 ⟨rfl, hb2⟩; have hx2 := keep_at hx hb2; have hbb2 := below_then hb hb2; have ha2 := keep_cell hb2 ha1; have hb2' := keep_cell hb2 hb1; clear hx)
    | (refine put_st rfl _ _ _ rfl W.heap.size zeroCl rfl rfl hx2 infoCl rfl (by simp [Value.oneCell']) ?_; intro w1 h1 h2 h3))
  exact bodyPost_ret (v := .tuple #[.agg zeroCl, .bool false]) (ret_st2 Tryz.results91 _ _ _ _ rfl (load_cl h1 rfl)) rfl ⟨rfl, hbb2.trans h2⟩
set_option maxHeartbeats 1600000 in
set_option maxRecDepth 100000 in
theorem c_yes (a b : ByteArray) (g off cp : Nat) (W : World) (ha : W.cell? ⟨g, off, none⟩ = some (.string a)) (hbb : W.cell? ⟨g, off + 1, none⟩ = some (.string b)) (hf1 : fitsL a.data.toList = true) (hn1 : nameL b.data.toList = true) : Calls Tryz.prog 91 #[.slice (some ⟨g, off, none⟩) 2 cp] W fun e W' => e = .returned (.tuple #[.agg #[.int .i64 1, .string a, .string b, .string ⟨#[]⟩, .int .i64 (-1), .slice none 0 0, .string ⟨#[]⟩, .int .i64 0, .int .i64 0, .string ⟨#[]⟩, .string ⟨#[]⟩], .bool true]) ∧ Below W.heap.size W W' := by
  have hb := below_alloc W (.cells zeroCl tCl)
  have hx := new_at W zeroCl tCl
  have hf := fun V => fits_any a V
  have hn := fun V => Name_any b V
  have ha1 := keep_cell hb ha
  have hb1 := keep_cell hb hbb
  rw [hf1] at hf
  rw [hn1] at hn
  have HF := Lib.hid hf
  have HN := Lib.hid hn
  clear hf hf1 hn hn1 ha hbb
  go_enter Tryz.func91, Tryz.ntmps91
  go_wp2_with (first
    | (go_at_call 66; refine (HF.out _).mono ?_; rintro e w' ⟨rfl, rfl⟩)
    | (go_at_call 14; refine (HN.out _).mono ?_; rintro e w2 ⟨rfl, hb2⟩; have hx2 := keep_at hx hb2; have hbb2 := below_then hb hb2; have ha2 := keep_cell hb2 ha1; have hb2' := keep_cell hb2 hb1; clear hx))
  go_still_tail 8, (by kernel_rfl)
  have hx3 : StAt tCl W.heap.size zeroCl w2.drew := hx2
  have hb3 : Below W.heap.size W w2.drew := hbb2.trans ((below_drewN w2 1).mono hbb2.size)
  change wpList _ _ _ _ _ w2.drew
  generalize w2.drew = w3 at hx3 hb3 ⊢
  go_wp2_with (refine put_st rfl _ _ _ rfl W.heap.size #[.int .i64 1, .string a, .string b, .string ⟨#[]⟩, .int .i64 (-1), .slice none 0 0, .string ⟨#[]⟩, .int .i64 0, .int .i64 0, .string ⟨#[]⟩, .string ⟨#[]⟩] rfl rfl hx3 infoCl rfl (by simp [Value.oneCell']) ?_; intro w1 h1 h2 h3)
  exact bodyPost_ret (v := .tuple #[.agg #[.int .i64 1, .string a, .string b, .string ⟨#[]⟩, .int .i64 (-1), .slice none 0 0, .string ⟨#[]⟩, .int .i64 0, .int .i64 0, .string ⟨#[]⟩, .string ⟨#[]⟩], .bool true]) (ret_st2 Tryz.results91 _ _ _ _ rfl (load_cl h1 rfl)) rfl ⟨rfl, hb3.trans h2⟩
end Go.Proofs.YtfkmgnldkmpeiaaGreatDoor.W20
