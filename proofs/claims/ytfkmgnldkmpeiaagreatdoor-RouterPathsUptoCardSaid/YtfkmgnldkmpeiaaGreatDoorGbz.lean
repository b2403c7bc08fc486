/-
  A world in which every variable that the rows list holds what they list: for the rows' witnesses. No condition.
  What a row asks behind a call that returned true and left the old heap as it was. No condition beside those it names.
  The seat's closed facts for its cards; arguments opened: lists of fields, headers, rows, events, texts, ints; a request; what a command has come to. No condition.
  A request and what a command has come to, as arguments, opened; how large their parts are. No condition.
-/
import Derived.Test.YtfkmgnldkmpeiaaGreatDoorCards
import Derived.WalkKit
import Derived.ProofKit
import Derived.LaidLaws
import Derived.Test.YtfkmgnldkmpeiaaGreatDoorChecked
import Derived.Carry
import Derived.OpenShut
import Derived.ChangeSame
import Derived.Test.YtfkmgnldkmpeiaaGreatDoorTie
import Derived.Test.YtfkmgnldkmpeiaaGreatDoorGbb
import Derived.Deep.DeepHandedRow
import Derived.Deep.Slices
import Derived.Deep.Strs
import Derived.Lib.LaidTab
import Derived.Lib.SmallJoins
import Derived.Stop.LaidErr
import Derived.SizedLaws
import Derived.ChangeMaps5
import Derived.Shelf.Vars

namespace Go.Proofs.YtfkmgnldkmpeiaaGreatDoor
open Go Go.RowKit

def lits1 : DataW Unit → List Value | .lit (.int k z) => [.int k z] | .lit (.bool b) => [.bool b] | _ => []
def lits2 : DataW Unit → List Value | .agg l => l.flatMap lits1 | x => lits1 x
/-- The cells of a listed table (numbers; at most two levels of arrays and structs). -/
def lits : DataW Unit → List Value | .agg l => l.flatMap lits2 | x => lits1 x
def put (h : Array Obj) (g : Nat) (cs : Array Value) : Array Obj := h.modify g fun
  | .cells _ t frozen => .cells cs t frozen
  | o => o
noncomputable def low : Nat := (World.holding Tryz.prog default ⟨#[], #[], []⟩).heap.size
noncomputable def laidWorld (os : Os) : World :=
  { World.holding Tryz.prog os ⟨#[.cells #[.string ⟨#[118, 97, 108, 117, 101, 32, 111, 117, 116, 32, 111, 102, 32, 114, 97, 110, 103, 101]⟩] 196, .cells #[.string ⟨#[105, 110, 118, 97, 108, 105, 100, 32, 115, 121, 110, 116, 97, 120]⟩] 196], #[], []⟩ with heap := put (put (put (put (put (put (put ((World.holding Tryz.prog os ⟨#[.cells #[.string ⟨#[118, 97, 108, 117, 101, 32, 111, 117, 116, 32, 111, 102, 32, 114, 97, 110, 103, 101]⟩] 196, .cells #[.string ⟨#[105, 110, 118, 97, 108, 105, 100, 32, 115, 121, 110, 116, 97, 120]⟩] 196], #[], []⟩).heap) 6 (lits Rows.laid_math_bits_deBruijn32tab).toArray) 7 (lits Rows.laid_math_bits_deBruijn64tab).toArray) 3 (lits Rows.laid_internal_strconv_uint64pow10).toArray) 5 (lits Rows.laid_unicode_utf8_acceptRanges).toArray) 2 #[.iface 194 (.pointer (some ⟨low + 0, 0, none⟩))]) 1 #[.iface 194 (.pointer (some ⟨low + 1, 0, none⟩))]) 4 (lits Rows.laid_unicode_utf8_first).toArray }
theorem laid_met (os : Os) (args : Array Value) : laidMet Tryz.prog Rows.routerNamesRow.laid ((laidWorld os).forCall (fun _ _ => 0) ⟨#[], args, []⟩).memory :=
  laidMet_of_run' 8 (by kernel_rfl) (by kernel_rfl)
end Go.Proofs.YtfkmgnldkmpeiaaGreatDoor

namespace Go.Proofs.YtfkmgnldkmpeiaaGreatDoor
open Go Go.ChangeShapes Go.WideShapes Go.RowKit

section
variable {H : Type} {enc : TypeId × Value → H} {P : Program}

/-- Each of these types can be read and is a row of the program's table. -/
def typesRead (P : Program) (ts : List TypeId) : Bool := ts.all fun t => P.readableRec t && decide (t < P.types.size)

theorem args_stay (hl : laidOutB P = true) {W W' : World} {sp : Nat → Bool} : ∀ {ts : List TypeId} {vs : List Value} {ds : List (DataW H)} {ps : List MemPlace}, typesRead P ts = true →
    DataW.TrodAll enc P W 0 (fun _ => true) true ts vs ds ps → (∀ p ∈ ps, W.sameAt W' p) → (∀ p ∈ ps, sp p.block = true) → DataW.TrodAll enc P W' 0 sp true ts vs ds ps
  | [], vs, ds, ps, _, h, _, _ => by
    obtain ⟨rfl, rfl, rfl⟩ := trodAll_nil h
    exact trodAll_mk0
  | t :: ts, vs, ds, ps, hr, h, hsame, hsp => by
    obtain ⟨v, vs', d, ds', p, q, rfl, rfl, rfl, h1, h2⟩ := trodAll_cons h
    simp only [typesRead, List.all_cons, Bool.and_eq_true, decide_eq_true_eq] at hr
    exact trodAll_cons_mk (WideElems.Trod_stays hl hr.1.1 hr.1.2 h1 (fun x hx => hsame x (by simp [hx])) (fun x hx => hsp x (by simp [hx])))
      (args_stay hl hr.2 h2 (fun x hx => hsame x (by simp [hx])) (fun x hx => hsp x (by simp [hx])))

theorem post_true {f : Func} {s : ChangeSpec} {W W' : World} {args : Array Value} {ds gs : List (DataW H)} {before : List MemPlace} {tb : TypeId}
    (hW : DataW.Whole enc P f.params.toList s.vars false W args.toList ds gs before) (hv : s.vars = []) (hl : laidOutB P = true) (ht : typesRead P f.params.toList = true)
    (hr : f.resultTypes = #[tb]) (hb : P.underlying tb = some .bool) (hs : s.fn H ds = { results := [.lit (.bool true)], args := ds }) (hB : Below W.heap.size W W') :
    s.post enc P f false true false false W args (.bool true) W' := by
  have hlt : ∀ p ∈ before, p.block < W.heap.size := fun p hp => hW.lt p hp
  have hW' := hW
  obtain ⟨p, q, hA, hV, rfl, _, _⟩ := hW
  rw [hv] at hV
  obtain ⟨rfl, rfl⟩ := trodVars_none hV
  refine ⟨ds, [], _, [], p, [], hW', ?_, ?_, ?_, World.keptBut_mono (fun x hx => ⟨hx, ?_⟩) (hB.frame (· ∈ p ++ [])), fun h => by cases h⟩
  · rw [List.append_nil, hs, hr]
    exact trodAll_mk1 (shut_bool hb true)
  · rw [List.append_nil, hs]
    exact args_stay hl ht hA (fun x hx => hB.same (hlt x (by simp [hx]))) (fun x hx => by simpa using hlt x (by simp [hx]))
  · rw [List.append_nil, hs, hv]
    rfl
  · rw [List.append_nil] at hx
    exact .inr (.inl hx)
end
end Go.Proofs.YtfkmgnldkmpeiaaGreatDoor

namespace Go.Proofs.YtfkmgnldkmpeiaaGreatDoor
open Go Go.ChangeShapes Go.WideShapes Go.ChangeAt Go.RowKit

theorem own : ownKnob Tryz.prog.godebug = none := by kernel_rfl
theorem laidOut : laidOutB Tryz.prog = true := by kernel_rfl
theorem gPow : Tryz.prog.globalNamed "internal/strconv.uint64pow10" = some 3 := by kernel_rfl
theorem gPowType : (Tryz.prog.globals[3]?).map (·.type) = some 198 := by kernel_rfl
theorem cellsPow : Tryz.prog.cellsOf 198 = 20 := by kernel_rfl
theorem cellsU64 : Tryz.prog.cellsOf 139 = 1 := by kernel_rfl
theorem gRng : Tryz.prog.globalNamed "strconv.ErrRange" = some 2 := by kernel_rfl
theorem gRngType : (Tryz.prog.globals[2]?).map (·.type) = some 84 := by kernel_rfl
theorem gSyn : Tryz.prog.globalNamed "strconv.ErrSyntax" = some 1 := by kernel_rfl
theorem gSynType : (Tryz.prog.globals[1]?).map (·.type) = some 84 := by kernel_rfl
theorem cellsES : Tryz.prog.cellsOf 196 = 1 := by kernel_rfl
theorem cellsStr : Tryz.prog.cellsOf 9 = 1 := by kernel_rfl
theorem star : "*" ++ "errors.errorString" = "*errors.errorString" := by decide
theorem rowES (u : TypeId) (h : Tryz.prog.typeName? 3 u = some "*errors.errorString") : u = 194 :=
  typeName_ptr_named (nm := "errors.errorString") (by rw [star]; kernel_rfl) (by kernel_rfl) (by decide) u (by rw [star]; exact h)
/-- What the rows' list gives: the library's table of powers of ten, and its two error values. -/
theorem env_of_laid {W : World} (h : laidMetH Tryz.prog Rows.routerNamesRow.laid W) : W12.Env W := by
  have h3 := laidMet.tail (laidMet.tail h)
  have h5 := laidMet.tail (laidMet.tail h3)
  refine ⟨Lib.tabIs_of_head gPow gPowType Tryz.underlying198 Tryz.underlying139 cellsU64 cellsPow h3, ?_, ?_⟩
  · obtain ⟨a, s, hv, _⟩ := laid_sentinel (laidMet.tail h5) gSyn gSynType Tryz.underlying84 rowES Tryz.underlying194 Tryz.underlying196 rfl rfl Tryz.underlying9 cellsES cellsStr
    exact ⟨_, World.var?_cell gSyn hv 0, .inr ⟨_, _, rfl⟩⟩
  · obtain ⟨a, s, hv, _⟩ := laid_sentinel h5 gRng gRngType Tryz.underlying84 rowES Tryz.underlying194 Tryz.underlying196 rfl rfl Tryz.underlying9 cellsES cellsStr
    exact ⟨_, World.var?_cell gRng hv 0, .inr ⟨_, _, rfl⟩⟩
theorem maxl_of {W : World} (h : W.ShapedOpen Tryz.prog) : W20.MaxL W :=
  cell_of_shapedOpen_int (P := Tryz.prog) (g := 0) (t := 3) (zero := #[.int .i64 0]) h (of_decide_eq_true (by kernel_rfl)) (by kernel_rfl) rfl (by kernel_rfl) (by kernel_rfl) Tryz.underlying3
end Go.Proofs.YtfkmgnldkmpeiaaGreatDoor
namespace Go.Proofs.YtfkmgnldkmpeiaaGreatDoor.W20
open Go Go.Joins Go.ChangeShapes Go.WideShapes Go.ChangeAt Go.RowKit Go.Deep P12 P18 P20

theorem cellsFld : Tryz.prog.cellsOf 54 = 4 := by kernel_rfl
theorem cellsHdr : Tryz.prog.cellsOf 67 = 2 := by kernel_rfl
theorem cellsRow : Tryz.prog.cellsOf 111 = 2 := by kernel_rfl
theorem cellsEnt : Tryz.prog.cellsOf 47 = 6 := by kernel_rfl
theorem cellsEvn : Tryz.prog.cellsOf 45 = 3 := by kernel_rfl
theorem cellsFds : Tryz.prog.cellsOf 26 = 1 := by kernel_rfl
theorem cellsInt : Tryz.prog.cellsOf 3 = 1 := by kernel_rfl
theorem cellsTxt : Tryz.prog.cellsOf 9 = 1 := by kernel_rfl
theorem cellsBoo : Tryz.prog.cellsOf 4 = 1 := by kernel_rfl
theorem bytesFld : Tryz.prog.bytesOf 54 = 48 := by kernel_rfl
theorem bytesHdr : Tryz.prog.bytesOf 67 = 32 := by kernel_rfl
theorem bytesRow : Tryz.prog.bytesOf 111 = 24 := by kernel_rfl
theorem bytesEnt : Tryz.prog.bytesOf 47 = 80 := by kernel_rfl
theorem bytesTxt : Tryz.prog.bytesOf 9 = 16 := by kernel_rfl
theorem bytesInt : Tryz.prog.bytesOf 3 = 8 := by kernel_rfl
instance : Inhabited Fld := ⟨⟨[], false, 0, []⟩⟩
instance : Inhabited Hdr := ⟨⟨[], []⟩⟩
instance : Inhabited En := ⟨⟨0, [], 0, [], 0, []⟩⟩
theorem wf_int {n : Int} (h : (Lit.int .i64 n).wf = true) : -9223372036854775808 ≤ n ∧ n ≤ 9223372036854775807 := by
  have hr : IntKind.i64.min ≤ n ∧ n ≤ IntKind.i64.max := by simpa [Lit.wf] using h
  rw [show IntKind.i64.min = -9223372036854775808 by decide, show IntKind.i64.max = 9223372036854775807 by decide] at hr
  exact hr
section
variable {H : Type} {enc : TypeId × Value → H} {P : Program} {w : World} {base : Nat} {spare : Nat → Bool} {held : Bool}
theorem open_agg6 {r : Reach} {b0 : Nat} {t : TypeId} {f0 f1 f2 f3 f4 f5 : Field} {v : Value} {d : DataW H} {p : List MemPlace} (hs : P.underlying t = some (.struct #[f0, f1, f2, f3, f4, f5])) (hone : oneCellFields P #[f0, f1, f2, f3, f4, f5] = true) (hC : P.cellsOf t = 6)
    (hv : Value.okWide P w r b0 t v) (h : DataW.Trod enc P w base spare held t v d p) :
    ∃ (v0 v1 v2 v3 v4 v5 : Value) (y0 y1 y2 y3 y4 y5 : DataW H × List MemPlace) (n : Nat), v = .agg #[v0, v1, v2, v3, v4, v5] ∧ d = .agg [y0.1, y1.1, y2.1, y3.1, y4.1, y5.1] ∧
      DataW.trod enc P w base spare held n f0.type [v0] = some y0 ∧ DataW.trod enc P w base spare held n f1.type [v1] = some y1 ∧ DataW.trod enc P w base spare held n f2.type [v2] = some y2 ∧ DataW.trod enc P w base spare held n f3.type [v3] = some y3 ∧ DataW.trod enc P w base spare held n f4.type [v4] = some y4 ∧ DataW.trod enc P w base spare held n f5.type [v5] = some y5 := by
  obtain ⟨cs, rfl, hsz⟩ := okWide_struct hs hv
  obtain ⟨l⟩ := cs
  match l, hsz.trans hC with
  | [c0, c1, c2, c3, c4, c5], _ =>
    obtain ⟨fuel, hf⟩ := h
    obtain ⟨xs, n, _, hx, _, hlen, hg⟩ := DataW.trod_struct hs hf
    obtain ⟨o0, k0⟩ := hone_of hone 0 f0 rfl
    obtain ⟨o1, k1⟩ := hone_of hone 1 f1 rfl
    obtain ⟨o2, k2⟩ := hone_of hone 2 f2 rfl
    obtain ⟨o3, k3⟩ := hone_of hone 3 f3 rfl
    obtain ⟨o4, k4⟩ := hone_of hone 4 f4 rfl
    obtain ⟨o5, k5⟩ := hone_of hone 5 f5 rfl
    match xs, hlen with
    | [y0, y1, y2, y3, y4, y5], _ =>
      simp only [Prod.mk.injEq] at hx
      exact ⟨c0, c1, c2, c3, c4, c5, y0, y1, y2, y3, y4, y5, n, rfl, by simpa using hx.1, by simpa [Value.cells, o0, k0] using hg 0 f0 rfl, by simpa [Value.cells, o1, k1] using hg 1 f1 rfl, by simpa [Value.cells, o2, k2] using hg 2 f2 rfl, by simpa [Value.cells, o3, k3] using hg 3 f3 rfl, by simpa [Value.cells, o4, k4] using hg 4 f4 rfl, by simpa [Value.cells, o5, k5] using hg 5 f5 rfl⟩
/-- A slice opened, each element by what is shown of one. -/
theorem open_any {α : Type} [Inhabited α] {t e : TypeId} {n : Nat} {v : Value} {y : DataW H × List MemPlace} (ht : P.underlying t = some (.slice e)) (Pr : α → Addr → DataW H → Prop) (h : DataW.trod enc P w base spare held n t [v] = some y)
    (helt : ∀ (a : Addr) cs' (k : Nat) D Pl, w.cells? base a (P.cellsOf e) = some cs' → DataW.trod enc P w base spare held k e cs' = some (D, Pl) → ∃ q : α, Pr q a D) :
    (v = .slice none 0 0 ∧ y.1 = .nil) ∨ ∃ a len cap es sp, ∃ l : List α, v = .slice (some a) len cap ∧ len ≤ cap ∧ cap ≤ maxLen ∧ l.length = len ∧ y.1 = .slice es sp ∧ es.length = len ∧ ∀ (i : Nat) (q : α), l[i]? = some q → ∃ D, es[i]? = some D ∧ Pr q (a.add (i * P.cellsOf e)) D := by
  rcases open_slice ht h with ⟨hv, hd⟩ | ⟨a, len, cap, m, k, D, Pl, hv, hb, hl, hm, hmm, hd, hx⟩
  · exact .inl ⟨by simpa using hv, by rw [hd]⟩
  · right
    have hlm : len ≤ m := by rw [hmm]; split <;> omega
    have each : ∀ i, i < len → ∃ q : α, Pr q (a.add (i * P.cellsOf e)) (D i) := by
      intro i hi
      obtain ⟨cs', h1, h2⟩ := hx i (by omega)
      exact helt _ _ _ _ _ h1 h2
    obtain ⟨q, hq⟩ := choose_lt each
    refine ⟨a, len, cap, (List.range len).map D, (List.range (m - len)).map (fun j => D (len + j)), (List.range len).map q, by simpa using hv, hl, hm, by simp, by rw [hd], by simp, fun i r hr => ?_⟩
    have hi : i < len := by
      have := (List.getElem?_eq_some_iff.1 hr).1
      simpa using this
    rw [List.getElem?_map, List.getElem?_range hi] at hr
    have hr : q i = r := by simpa using hr
    subst hr
    exact ⟨D i, by rw [List.getElem?_map, List.getElem?_range hi]; rfl, hq i hi⟩
theorem cells_two {a : Addr} {cs' : List Value} {k : Nat} (h : w.cells? base a k = some cs') : cs'.length = k ∧ ∀ j v, cs'[j]? = some v → w.cell? (a.add j) = some v := by
  obtain ⟨_, hl, hc⟩ := World.cells?_some h
  refine ⟨hl, fun j v hj => ?_⟩
  have hlt := (List.getElem?_eq_some_iff.1 hj).1
  rw [hc j (by omega), hj]
end
theorem spot_none {w : World} {a : Addr} {v : Value} {n : Nat} (h : w.cell? (a.add (0 * n)) = some v) : a.spot = none := by
  have := World.cell?_spot h
  simpa [Addr.add] using this
section
variable {H : Type} {enc : TypeId × Value → H} {w : World} {spare : Nat → Bool} {held : Bool}
/-- A datum that is a list of n: nothing, or a slice's. -/
def Counts (d : DataW H) (n : Nat) : Prop := (d = .nil ∧ n = 0) ∨ ∃ es sp, d = .slice es sp ∧ es.length = n
set_option maxRecDepth 100000 in
theorem open_fldsT {n : Nat} {v : Value} {y : DataW H × List MemPlace} (h : DataW.trod enc Tryz.prog w 0 spare held n 26 [v] = some y) :
    ∃ l : List Fld, W12.Rows v l w ∧ (∀ f ∈ l, rangeF f) ∧ Counts y.1 l.length := by
  refine Or.elim (open_any (α := Fld) Tryz.underlying26 (fun q a _ => (w.cell? a = some (bs q.name) ∧ w.cell? (a.add 1) = some (.bool q.text) ∧ w.cell? (a.add 2) = some (.int .i64 q.n) ∧ w.cell? (a.add 3) = some (bs q.s)) ∧ rangeF q) h ?helt) ?_ ?_
  case helt =>
    intro a cs' k D Pl h1 h2
    rw [cellsFld] at h1
    obtain ⟨hlen, hcell⟩ := cells_two h1
    obtain ⟨y0, y1, y2, y3, k', hxy, _, u0, u1, u2, u3⟩ := Joins.trod_struct4 Tryz.underlying54 h2
    match cs', hlen with
    | [v0, v1, v2, v3], _ =>
      simp only [cellsInt, cellsTxt, cellsBoo, List.drop, List.take] at u0 u1 u2 u3
      obtain ⟨b, e0, d0, hbm⟩ := DataW.trod_string Tryz.underlying9 u0
      obtain ⟨c, e1, d1⟩ := DataW.trod_bool Tryz.underlying4 u1
      obtain ⟨st, e2, d2, wf⟩ := DataW.trod_int Tryz.underlying3 u2
      obtain ⟨b', e3, d3, hbm'⟩ := DataW.trod_string Tryz.underlying9 u3
      simp only [List.cons.injEq, and_true] at e0 e1 e2 e3
      subst e0 e1 e2 e3
      refine ⟨⟨b.data.toList, c, st, b'.data.toList⟩, ⟨?_, hcell 1 _ rfl, hcell 2 _ rfl, by rw [bs_data]; exact hcell 3 _ rfl⟩, wf_int wf⟩
      have := hcell 0 _ rfl
      rw [bs_data]
      simpa [Addr.add] using this
  · rintro ⟨rfl, hy⟩
    exact ⟨[], ⟨none, 0, rfl, .inl rfl⟩, by simp, .inl ⟨hy, rfl⟩⟩
  · rintro ⟨a, len, cap, es, sp, l, rfl, hl, hm, hll, hy, hes, hc⟩
    refine ⟨l, ⟨some a, cap, by rw [hll], ?_⟩, ?_, .inr ⟨es, sp, hy, by rw [hes, hll]⟩⟩
    · by_cases h0 : l = []
      · exact .inl h0
      · right
        obtain ⟨f0, hf0⟩ : ∃ f, l[0]? = some f := ⟨_, List.getElem?_eq_getElem (by have := List.length_pos_iff.2 h0; omega)⟩
        obtain ⟨D, -, ⟨k0, -⟩, -⟩ := hc 0 f0 hf0
        obtain ⟨g, off, spot⟩ := a
        obtain rfl : spot = none := spot_none k0
        refine ⟨g, off, rfl, fun j f hj => ?_⟩
        obtain ⟨D, -, ⟨k0, k1, k2, k3⟩, -⟩ := hc j f hj
        rw [cellsFld] at k0 k1 k2 k3
        rw [Lib.add_plain] at k0 k1 k2 k3
        rw [Lib.add_plain] at k1 k2 k3
        exact ⟨k0, k1, k2, k3⟩
    · intro f hf
      obtain ⟨i, hi⟩ := List.getElem?_of_mem hf
      obtain ⟨D, -, -, hr⟩ := hc i f hi
      exact hr
set_option maxRecDepth 100000 in
theorem open_hdrsT {n : Nat} {v : Value} {y : DataW H × List MemPlace} (h : DataW.trod enc Tryz.prog w 0 spare held n 23 [v] = some y) :
    ∃ l : List Hdr, RowsH v l w ∧ (∀ (i : Nat) (x : Hdr), l[i]? = some x → ∃ es sp, y.1 = .slice es sp ∧ es[i]? = some (.agg [.lit (.string x.name), .lit (.string x.value)])) ∧ Counts y.1 l.length := by
  refine Or.elim (open_any (α := Hdr) Tryz.underlying23 (fun q a D => (w.cell? a = some (bs q.name) ∧ w.cell? (a.add 1) = some (bs q.value)) ∧ D = .agg [.lit (.string q.name), .lit (.string q.value)]) h ?helt) ?_ ?_
  case helt =>
    intro a cs' k D Pl h1 h2
    rw [cellsHdr] at h1
    obtain ⟨hlen, hcell⟩ := cells_two h1
    obtain ⟨y0, y1, k', hxy, _, u0, u1⟩ := trod_struct2 Tryz.underlying67 h2
    match cs', hlen with
    | [v0, v1], _ =>
      simp only [cellsTxt, List.drop, List.take] at u0 u1
      obtain ⟨b, e0, d0, hbm⟩ := DataW.trod_string Tryz.underlying9 u0
      obtain ⟨b', e1, d1, hbm'⟩ := DataW.trod_string Tryz.underlying9 u1
      simp only [List.cons.injEq, and_true] at e0 e1
      subst e0 e1
      refine ⟨⟨b.data.toList, b'.data.toList⟩, ⟨?_, by rw [bs_data]; exact hcell 1 _ rfl⟩, ?_⟩
      · have := hcell 0 _ rfl
        rw [bs_data]
        simpa [Addr.add] using this
      · simp only [Prod.mk.injEq] at hxy
        rw [hxy.1, d0, d1]
  · rintro ⟨rfl, hy⟩
    exact ⟨[], rowsH_nil w, by simp, .inl ⟨hy, rfl⟩⟩
  · rintro ⟨a, len, cap, es, sp, l, rfl, hl, hm, hll, hy, hes, hc⟩
    refine ⟨l, ⟨some a, cap, by rw [hll], ?_⟩, ?_, .inr ⟨es, sp, hy, by rw [hes, hll]⟩⟩
    · by_cases h0 : l = []
      · exact .inl h0
      · right
        obtain ⟨f0, hf0⟩ : ∃ f, l[0]? = some f := ⟨_, List.getElem?_eq_getElem (by have := List.length_pos_iff.2 h0; omega)⟩
        obtain ⟨D, -, ⟨k0, -⟩, -⟩ := hc 0 f0 hf0
        obtain ⟨g, off, spot⟩ := a
        obtain rfl : spot = none := spot_none k0
        refine ⟨g, off, rfl, fun j f hj => ?_⟩
        obtain ⟨D, -, ⟨k0, k1⟩, -⟩ := hc j f hj
        rw [cellsHdr] at k0 k1
        rw [Lib.add_plain] at k0 k1
        rw [Lib.add_plain] at k1
        exact ⟨k0, k1⟩
    · intro i x hx
      obtain ⟨D, hD, -, rfl⟩ := hc i x hx
      exact ⟨es, sp, hy, hD⟩
set_option maxRecDepth 100000 in
theorem open_rowsT {n : Nat} {v : Value} {y : DataW H × List MemPlace} (h : DataW.trod enc Tryz.prog w 0 spare held n 61 [v] = some y) :
    ∃ l : List (By × Int), RowsR v l w ∧ (∀ x ∈ l, -9223372036854775808 ≤ x.2 ∧ x.2 ≤ 9223372036854775807) ∧ Counts y.1 l.length := by
  refine Or.elim (open_any (α := By × Int) Tryz.underlying61 (fun q a _ => (w.cell? a = some (bs q.1) ∧ w.cell? (a.add 1) = some (.int .i64 q.2)) ∧ (-9223372036854775808 ≤ q.2 ∧ q.2 ≤ 9223372036854775807)) h ?helt) ?_ ?_
  case helt =>
    intro a cs' k D Pl h1 h2
    rw [cellsRow] at h1
    obtain ⟨hlen, hcell⟩ := cells_two h1
    obtain ⟨y0, y1, k', hxy, _, u0, u1⟩ := trod_struct2 Tryz.underlying111 h2
    match cs', hlen with
    | [v0, v1], _ =>
      simp only [cellsTxt, cellsInt, List.drop, List.take] at u0 u1
      obtain ⟨b, e0, d0, hbm⟩ := DataW.trod_string Tryz.underlying9 u0
      obtain ⟨st, e1, d1, wf⟩ := DataW.trod_int Tryz.underlying3 u1
      simp only [List.cons.injEq, and_true] at e0 e1
      subst e0 e1
      refine ⟨⟨b.data.toList, st⟩, ⟨?_, hcell 1 _ rfl⟩, wf_int wf⟩
      have := hcell 0 _ rfl
      rw [bs_data]
      simpa [Addr.add] using this
  · rintro ⟨rfl, hy⟩
    exact ⟨[], ⟨none, 0, rfl, .inl rfl⟩, by simp, .inl ⟨hy, rfl⟩⟩
  · rintro ⟨a, len, cap, es, sp, l, rfl, hl, hm, hll, hy, hes, hc⟩
    refine ⟨l, ⟨some a, cap, by rw [hll], ?_⟩, ?_, .inr ⟨es, sp, hy, by rw [hes, hll]⟩⟩
    · by_cases h0 : l = []
      · exact .inl h0
      · right
        obtain ⟨f0, hf0⟩ : ∃ f, l[0]? = some f := ⟨_, List.getElem?_eq_getElem (by have := List.length_pos_iff.2 h0; omega)⟩
        obtain ⟨D, -, ⟨k0, -⟩, -⟩ := hc 0 f0 hf0
        obtain ⟨g, off, spot⟩ := a
        obtain rfl : spot = none := spot_none k0
        refine ⟨g, off, rfl, fun j f hj => ?_⟩
        obtain ⟨D, -, ⟨k0, k1⟩, -⟩ := hc j f hj
        rw [cellsRow] at k0 k1
        rw [Lib.add_plain] at k0 k1
        rw [Lib.add_plain] at k1
        exact ⟨k0, k1⟩
    · intro f hf
      obtain ⟨i, hi⟩ := List.getElem?_of_mem hf
      obtain ⟨D, -, -, hr⟩ := hc i f hi
      exact hr
set_option maxRecDepth 100000 in
theorem open_textsT {n : Nat} {v : Value} {y : DataW H × List MemPlace} (h : DataW.trod enc Tryz.prog w 0 spare held n 42 [v] = some y) :
    ∃ l : List By, W12.Strs v l w ∧ Counts y.1 l.length := by
  refine Or.elim (open_any (α := By) Tryz.underlying42 (fun q a _ => w.cell? a = some (bs q)) h ?helt) ?_ ?_
  case helt =>
    intro a cs' k D Pl h1 h2
    rw [cellsTxt] at h1
    obtain ⟨hlen, hcell⟩ := cells_two h1
    match cs', hlen with
    | [v0], _ =>
      obtain ⟨b, e0, d0, hbm⟩ := DataW.trod_string Tryz.underlying9 h2
      simp only [List.cons.injEq, and_true] at e0
      subst e0
      refine ⟨b.data.toList, ?_⟩
      have := hcell 0 _ rfl
      rw [bs_data]
      simpa [Addr.add] using this
  · rintro ⟨rfl, hy⟩
    exact ⟨[], ⟨none, 0, rfl, .inl rfl⟩, .inl ⟨hy, rfl⟩⟩
  · rintro ⟨a, len, cap, es, sp, l, rfl, hl, hm, hll, hy, hes, hc⟩
    refine ⟨l, ⟨some a, cap, by rw [hll], ?_⟩, .inr ⟨es, sp, hy, by rw [hes, hll]⟩⟩
    by_cases h0 : l = []
    · exact .inl h0
    · right
      obtain ⟨f0, hf0⟩ : ∃ f, l[0]? = some f := ⟨_, List.getElem?_eq_getElem (by have := List.length_pos_iff.2 h0; omega)⟩
      obtain ⟨D, -, k0⟩ := hc 0 f0 hf0
      obtain ⟨g, off, spot⟩ := a
      obtain rfl : spot = none := spot_none k0
      refine ⟨g, off, rfl, fun j f hj => ?_⟩
      obtain ⟨D, -, k0⟩ := hc j f hj
      rw [cellsTxt, Lib.add_plain, Nat.mul_one] at k0
      exact k0
set_option maxRecDepth 100000 in
theorem open_intsT {n : Nat} {v : Value} {y : DataW H × List MemPlace} (h : DataW.trod enc Tryz.prog w 0 spare held n 56 [v] = some y) :
    ∃ l : List Int, IntsV v l w ∧ l.length ≤ maxLen ∧ (∀ x ∈ l, -9223372036854775808 ≤ x ∧ x ≤ 9223372036854775807) := by
  refine Or.elim (open_any (α := Int) Tryz.underlying56 (fun q a _ => w.cell? a = some (.int .i64 q) ∧ (-9223372036854775808 ≤ q ∧ q ≤ 9223372036854775807)) h ?helt) ?_ ?_
  case helt =>
    intro a cs' k D Pl h1 h2
    rw [cellsInt] at h1
    obtain ⟨hlen, hcell⟩ := cells_two h1
    match cs', hlen with
    | [v0], _ =>
      obtain ⟨st, e0, d0, wf⟩ := DataW.trod_int Tryz.underlying3 h2
      simp only [List.cons.injEq, and_true] at e0
      subst e0
      refine ⟨st, ?_, wf_int wf⟩
      have := hcell 0 _ rfl
      simpa [Addr.add] using this
  · rintro ⟨rfl, hy⟩
    exact ⟨[], ⟨none, 0, rfl, .inl rfl⟩, Nat.zero_le _, by simp⟩
  · rintro ⟨a, len, cap, es, sp, l, rfl, hl, hm, hll, hy, hes, hc⟩
    refine ⟨l, ⟨some a, cap, by rw [hll], ?_⟩, by omega, ?_⟩
    · by_cases h0 : l = []
      · exact .inl h0
      · right
        obtain ⟨f0, hf0⟩ : ∃ f, l[0]? = some f := ⟨_, List.getElem?_eq_getElem (by have := List.length_pos_iff.2 h0; omega)⟩
        obtain ⟨D, -, k0, -⟩ := hc 0 f0 hf0
        obtain ⟨g, off, spot⟩ := a
        obtain rfl : spot = none := spot_none k0
        refine ⟨g, off, rfl, fun j f hj => ?_⟩
        obtain ⟨D, -, k0, -⟩ := hc j f hj
        rw [cellsInt, Lib.add_plain, Nat.mul_one] at k0
        exact k0
    · intro f hf
      obtain ⟨i, hi⟩ := List.getElem?_of_mem hf
      obtain ⟨D, -, -, hr⟩ := hc i f hi
      exact hr
/-- The datum of an event in its place: its fields' datum is the last one. -/
def EntD (D : DataW H) (n : Nat) : Prop := ∃ a b c t v d, D = .agg [a, b, c, .agg [t, v, d]] ∧ Counts d n
set_option maxRecDepth 100000 in
theorem open_entsT {n : Nat} {v : Value} {y : DataW H × List MemPlace} (h : DataW.trod enc Tryz.prog w 0 spare held n 38 [v] = some y) :
    ∃ l : List En, RowsE v l w ∧ (∀ x ∈ l, rangeE x) ∧ ((y.1 = .nil ∧ l = []) ∨ ∃ es sp, y.1 = .slice es sp ∧ es.length = l.length ∧ ∀ (i : Nat) (x : En), l[i]? = some x → ∃ D, es[i]? = some D ∧ EntD D x.fields.length) := by
  refine Or.elim (open_any (α := En) Tryz.underlying38 (fun q a D => (∃ fv, (w.cell? a = some (.int .i64 q.pos) ∧ w.cell? (a.add 1) = some (bs q.stream) ∧ w.cell? (a.add 2) = some (.int .i64 q.number) ∧ w.cell? (a.add 3) = some (bs q.type) ∧ w.cell? (a.add 4) = some (.int .i64 q.version) ∧ w.cell? (a.add 5) = some fv) ∧ W12.Rows fv q.fields w) ∧ rangeE q ∧ EntD D q.fields.length) h ?helt) ?_ ?_
  case helt =>
    intro a cs' k D Pl h1 h2
    rw [cellsEnt] at h1
    obtain ⟨hlen, hcell⟩ := cells_two h1
    obtain ⟨y0, y1, y2, y3, k', hxy, _, u0, u1, u2, u3⟩ := Joins.trod_struct4 Tryz.underlying47 h2
    match cs', hlen with
    | [v0, v1, v2, v3, v4, v5], _ =>
      simp only [cellsInt, cellsTxt, cellsEvn, List.drop, List.take] at u0 u1 u2 u3
      obtain ⟨z0, z1, z2, k'', hxz, _, q0, q1, q2⟩ := trod_struct3 Tryz.underlying45 u3
      simp only [cellsInt, cellsTxt, cellsFds, List.drop, List.take] at q0 q1 q2
      obtain ⟨po, e0, d0, wf0⟩ := DataW.trod_int Tryz.underlying3 u0
      obtain ⟨st, e1, d1, hbm⟩ := DataW.trod_string Tryz.underlying9 u1
      obtain ⟨nu, e2, d2, wf2⟩ := DataW.trod_int Tryz.underlying3 u2
      obtain ⟨ty, e3, d3, hbm'⟩ := DataW.trod_string Tryz.underlying9 q0
      obtain ⟨ve, e4, d4, wf4⟩ := DataW.trod_int Tryz.underlying3 q1
      obtain ⟨fl, hfl, hfr, hfc⟩ := open_fldsT q2
      simp only [List.cons.injEq, and_true] at e0 e1 e2 e3 e4
      subst e0 e1 e2 e3 e4
      refine ⟨⟨po, st.data.toList, nu, ty.data.toList, ve, fl⟩, ⟨v5, ⟨?_, by rw [bs_data]; exact hcell 1 _ rfl, hcell 2 _ rfl, by rw [bs_data]; exact hcell 3 _ rfl, hcell 4 _ rfl, hcell 5 _ rfl⟩, hfl⟩, ⟨wf_int wf2, wf_int wf0, wf_int wf4, hfr⟩, ?_⟩
      · have := hcell 0 _ rfl
        simpa [Addr.add] using this
      · simp only [Prod.mk.injEq] at hxy hxz
        exact ⟨_, _, _, _, _, _, by rw [hxy.1, hxz], hfc⟩
  · rintro ⟨rfl, hy⟩
    exact ⟨[], ⟨none, 0, rfl, .inl rfl⟩, by simp, .inl ⟨hy, rfl⟩⟩
  · rintro ⟨a, len, cap, es, sp, l, rfl, hl, hm, hll, hy, hes, hc⟩
    refine ⟨l, ⟨some a, cap, by rw [hll], ?_⟩, ?_, .inr ⟨es, sp, hy, by rw [hes, hll], ?_⟩⟩
    · by_cases h0 : l = []
      · exact .inl h0
      · right
        obtain ⟨f0, hf0⟩ : ∃ f, l[0]? = some f := ⟨_, List.getElem?_eq_getElem (by have := List.length_pos_iff.2 h0; omega)⟩
        obtain ⟨D, -, ⟨fv, ⟨k0, -⟩, -⟩, -⟩ := hc 0 f0 hf0
        obtain ⟨g, off, spot⟩ := a
        obtain rfl : spot = none := spot_none k0
        refine ⟨g, off, rfl, fun j f hj => ?_⟩
        obtain ⟨D, -, ⟨fv, ⟨k0, k1, k2, k3, k4, k5⟩, hr⟩, -⟩ := hc j f hj
        rw [cellsEnt] at k0 k1 k2 k3 k4 k5
        rw [Lib.add_plain] at k0 k1 k2 k3 k4 k5
        rw [Lib.add_plain] at k1 k2 k3 k4 k5
        exact ⟨fv, ⟨k0, k1, k2, k3, k4, k5⟩, hr⟩
    · intro f hf
      obtain ⟨i, hi⟩ := List.getElem?_of_mem hf
      obtain ⟨D, -, -, hr, -⟩ := hc i f hi
      exact hr
    · intro i x hx
      obtain ⟨D, hD, -, -, hE⟩ := hc i x hx
      exact ⟨D, hD, hE⟩
set_option maxRecDepth 100000 in
/-- A slice as an argument, by its own reading. -/
theorem arg_slice {r : Reach} {b0 : Nat} {t e : TypeId} {v : Value} {d : DataW H} {p : List MemPlace} (ht : Tryz.prog.underlying t = some (.slice e)) (hval : Value.okWide Tryz.prog w r b0 t v) (h : DataW.Trod enc Tryz.prog w 0 spare held t v d p) :
    ∃ n y, DataW.trod enc Tryz.prog w 0 spare held n t [v] = some y ∧ y.1 = d := by
  obtain ⟨a', l', c', rfl⟩ := okWide_slice ht hval
  obtain ⟨fuel, h⟩ := h
  exact ⟨fuel, _, h, rfl⟩
end
/-! ## Sizes -/
theorem weightsAll_mem {H : Type} {P : Program} {e : TypeId} : ∀ {l : List (DataW H)} {d : DataW H} (_ : d ∈ l) {n : Nat}, n ∈ d.weights P e → n ∈ DataW.weightsAll P e l
  | [], _, h, _, _ => by cases h
  | x :: l, d, h, n, hn => by
    simp only [DataW.weightsAll, List.mem_append]
    rcases List.mem_cons.1 h with rfl | h
    · exact .inl hn
    · exact .inr (weightsAll_mem h hn)
section
variable {H : Type} {ts : List TypeId} {ds : List (DataW H)}
set_option maxRecDepth 100000 in
theorem sized_fields (h : (DataW.weightsEach Tryz.prog ts ds).all (· ≤ reachBytes) = true) {j : Nat} {es sp : List (DataW H)} (ht : ts[j]? = some 38) (hd : ds[j]? = some (.slice es sp)) {D : DataW H} {n : Nat} (hD : D ∈ es) (hE : EntD D n) : n ≤ 4611686018427387904 := by
  obtain ⟨a, b, c, t, v, d, rfl, hc⟩ := hE
  rcases hc with ⟨-, rfl⟩ | ⟨fs, fp, rfl, rfl⟩
  · exact Nat.zero_le _
  · have hm : (fs.length + fp.length) * Tryz.prog.bytesOf 54 ∈ DataW.weightsEach Tryz.prog ts ds := by
      refine DataW.weights_mem_each ht hd _ ?_
      simp only [DataW.weights, Tryz.underlying38, List.mem_cons, List.mem_append]
      refine .inr (.inl (weightsAll_mem hD ?_))
      simp [DataW.weights, Tryz.underlying47, Tryz.underlying45, Tryz.underlying26, DataW.weightsEach]
    have := List.all_eq_true.1 h _ hm
    rw [bytesFld] at this
    have hr : reachBytes ≤ 140737488355328 := by decide
    have := of_decide_eq_true this
    omega
theorem sized_counts (h : (DataW.weightsEach Tryz.prog ts ds).all (· ≤ reachBytes) = true) {j : Nat} {t e : TypeId} {d : DataW H} {n : Nat} (ht : ts[j]? = some t) (hd : ds[j]? = some d) (hu : Tryz.prog.underlying t = some (.slice e)) (hc : Counts d n) : n * Tryz.prog.bytesOf e ≤ reachBytes := by
  rcases hc with ⟨-, rfl⟩ | ⟨es, sp, rfl, rfl⟩
  · rw [Nat.zero_mul]; exact Nat.zero_le _
  · have := sized_slice h ht hd hu
    exact Nat.le_trans (Nat.mul_le_mul_right _ (Nat.le_add_right _ _)) this
end
end Go.Proofs.YtfkmgnldkmpeiaaGreatDoor.W20

namespace Go.Proofs.YtfkmgnldkmpeiaaGreatDoor.W20
open Go Go.Joins Go.ChangeShapes Go.WideShapes Go.ChangeAt Go.RowKit Go.Deep P12 P18 P20

theorem cellsDon : Tryz.prog.cellsOf 60 = 6 := by kernel_rfl
theorem cellsReq : Tryz.prog.cellsOf 25 = 6 := by kernel_rfl
section
variable {H : Type} {enc : TypeId × Value → H} {w : World} {spare : Nat → Bool} {held : Bool}
set_option maxRecDepth 100000 in
theorem open_dn {r : Reach} {b0 : Nat} {v : Value} {d : DataW H} {p : List MemPlace} (hval : Value.okWide Tryz.prog w r b0 60 v) (h : DataW.Trod enc Tryz.prog w 0 spare held 60 v d p) :
    ∃ (k f q c e : Int) (R : ByteArray), v = .agg (dnC k f q c R e) ∧ (-9223372036854775808 ≤ f ∧ f ≤ 9223372036854775807) ∧ (-9223372036854775808 ≤ q ∧ q ≤ 9223372036854775807) ∧ (-9223372036854775808 ≤ c ∧ c ≤ 9223372036854775807) ∧ (-9223372036854775808 ≤ e ∧ e ≤ 9223372036854775807) := by
  obtain ⟨v0, v1, v2, v3, v4, v5, y0, y1, y2, y3, y4, y5, n, rfl, rfl, u0, u1, u2, u3, u4, u5⟩ := open_agg6 Tryz.underlying60 (by kernel_rfl) cellsDon hval h
  obtain ⟨k, e0, d0, w0⟩ := DataW.trod_int Tryz.underlying3 u0
  obtain ⟨f, e1, d1, w1⟩ := DataW.trod_int Tryz.underlying3 u1
  obtain ⟨q, e2, d2, w2⟩ := DataW.trod_int Tryz.underlying3 u2
  obtain ⟨c, e3, d3, w3⟩ := DataW.trod_int Tryz.underlying3 u3
  obtain ⟨R, e4, d4, hbm⟩ := DataW.trod_string Tryz.underlying9 u4
  obtain ⟨e, e5, d5, w5⟩ := DataW.trod_int Tryz.underlying48 u5
  simp only [List.cons.injEq, and_true] at e0 e1 e2 e3 e4 e5
  subst e0 e1 e2 e3 e4 e5
  exact ⟨k, f, q, c, e, R, rfl, wf_int w1, wf_int w2, wf_int w3, wf_int w5⟩
set_option maxRecDepth 100000 in
theorem open_rq {r : Reach} {b0 : Nat} {v : Value} {d : DataW H} {p : List MemPlace} (hval : Value.okWide Tryz.prog w r b0 25 v) (h : DataW.Trod enc Tryz.prog w 0 spare held 25 v d p) :
    ∃ (M Pa Q Y : ByteArray) (hv : Value) (cl : Bool) (hs : List Hdr) (y : DataW H), v = reqV M Pa Q hv Y cl ∧ d = .agg [.lit (.string M.data.toList), .lit (.string Pa.data.toList), .lit (.string Q.data.toList), y, .lit (.string Y.data.toList), .lit (.bool cl)] ∧
      RowsH hv hs w ∧ (∀ (i : Nat) (x : Hdr), hs[i]? = some x → ∃ es sp, y = .slice es sp ∧ es[i]? = some (.agg [.lit (.string x.name), .lit (.string x.value)])) ∧ Counts y hs.length := by
  obtain ⟨v0, v1, v2, v3, v4, v5, y0, y1, y2, y3, y4, y5, n, rfl, rfl, u0, u1, u2, u3, u4, u5⟩ := open_agg6 Tryz.underlying25 (by kernel_rfl) cellsReq hval h
  obtain ⟨M, e0, d0, -⟩ := DataW.trod_string Tryz.underlying9 u0
  obtain ⟨Pa, e1, d1, -⟩ := DataW.trod_string Tryz.underlying9 u1
  obtain ⟨Q, e2, d2, -⟩ := DataW.trod_string Tryz.underlying9 u2
  obtain ⟨hs, hr, hx, hc⟩ := open_hdrsT u3
  obtain ⟨Y, e4, d4, -⟩ := DataW.trod_string Tryz.underlying9 u4
  obtain ⟨cl, e5, d5⟩ := DataW.trod_bool Tryz.underlying4 u5
  simp only [List.cons.injEq, and_true] at e0 e1 e2 e4 e5
  subst e0 e1 e2 e4 e5
  exact ⟨M, Pa, Q, Y, v3, cl, hs, y3.1, rfl, by rw [d0, d1, d2, d4, d5], hr, hx, hc⟩
end
/-- A header's value is empty, or one of the headers'. -/
theorem getV_of (hs : List Hdr) (n : P12.By) : getV hs n = [] ∨ ∃ (i : Nat) (x : Hdr), hs[i]? = some x ∧ getV hs n = x.value := by
  unfold getV
  cases h : getH hs n with
  | nil => exact .inl rfl
  | cons v l =>
    right
    have hm : v ∈ getH hs n := by rw [h]; simp
    unfold getH at hm
    obtain ⟨x, hx, rfl⟩ := List.mem_map.1 hm
    obtain ⟨i, hi⟩ := List.getElem?_of_mem (List.mem_filter.1 hx).1
    exact ⟨i, x, hi, rfl⟩
theorem bulk_mem {H : Type} : ∀ {l : List (DataW H)} {d : DataW H}, d ∈ l → Rows.uptoBulk d ≤ Rows.uptoBulkAll l
  | x :: l, d, h => by
    rw [Rows.uptoBulkAll]
    rcases List.mem_cons.1 h with rfl | h
    · omega
    · have := bulk_mem h
      omega
theorem bulk_len {H : Type} : ∀ {l : List (DataW H)}, l.length ≤ Rows.uptoBulkAll l
  | [] => Nat.zero_le _
  | x :: l => by
    rw [Rows.uptoBulkAll, List.length_cons]
    have := bulk_len (l := l)
    have : 1 ≤ Rows.uptoBulk x := by
      cases x with
      | lit l => cases l <;> simp [Rows.uptoBulk]
      | map es => cases es <;> simp [Rows.uptoBulk]
      | _ => simp [Rows.uptoBulk]
    omega
/-- What a request of a small bulk says of its parts' sizes. -/
theorem rq_sizes {H : Type} {M Pa Q Y : ByteArray} {cl : Bool} {hs : List Hdr} {y : DataW H} (hb : Rows.uptoBulkAll [.agg [.lit (.string M.data.toList), .lit (.string Pa.data.toList), .lit (.string Q.data.toList), y, .lit (.string Y.data.toList), .lit (.bool cl)]] ≤ 1048576)
    (hx : ∀ (i : Nat) (x : Hdr), hs[i]? = some x → ∃ es sp, y = .slice es sp ∧ es[i]? = some (.agg [.lit (.string x.name), .lit (.string x.value)])) (hc : Counts y hs.length) :
    Pa.size ≤ 1048576 ∧ Q.size ≤ 1048576 ∧ Y.size ≤ 1048576 ∧ hs.length ≤ 1048576 ∧ (getV hs expN).length ≤ 1048576 := by
  simp only [Rows.uptoBulkAll, Rows.uptoBulk, size_data] at hb
  refine ⟨by omega, by omega, by omega, ?_, ?_⟩
  · rcases hc with ⟨-, h⟩ | ⟨es, sp, rfl, h⟩
    · omega
    · have := bulk_len (l := es)
      simp only [Rows.uptoBulk] at hb
      omega
  · rcases getV_of hs expN with h | ⟨i, x, hi, h⟩
    · rw [h]; exact Nat.zero_le _
    · obtain ⟨es, sp, rfl, he⟩ := hx i x hi
      have := bulk_mem (List.mem_of_getElem? he)
      simp only [Rows.uptoBulk, Rows.uptoBulkAll] at this hb
      rw [h]
      omega
section
variable {H : Type} {ts : List TypeId} {ds : List (DataW H)}
/-- How many events, and how many fields each has. -/
theorem ents_sizes (h : (DataW.weightsEach Tryz.prog ts ds).all (· ≤ reachBytes) = true) {j : Nat} {d : DataW H} {l : List En} (ht : ts[j]? = some 38) (hd : ds[j]? = some d)
    (hc : (d = .nil ∧ l = []) ∨ ∃ es sp, d = .slice es sp ∧ es.length = l.length ∧ ∀ (i : Nat) (x : En), l[i]? = some x → ∃ D, es[i]? = some D ∧ EntD D x.fields.length) :
    l.length * 80 ≤ reachBytes ∧ ∀ x ∈ l, x.fields.length ≤ 4611686018427387904 := by
  rcases hc with ⟨-, rfl⟩ | ⟨es, sp, rfl, he, hx⟩
  · exact ⟨by simp, by simp⟩
  · have h1 := sized_slice h ht hd Tryz.underlying38
    rw [bytesEnt] at h1
    refine ⟨by rw [← he]; omega, fun x hm => ?_⟩
    obtain ⟨i, hi⟩ := List.getElem?_of_mem hm
    obtain ⟨D, hD, hE⟩ := hx i x hi
    exact sized_fields h ht hd (List.mem_of_getElem? hD) hE
end
end Go.Proofs.YtfkmgnldkmpeiaaGreatDoor.W20
