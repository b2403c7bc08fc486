/-
  Laws on maps whose entries are written out: an insertion of a new key, a look-up. No program is in sight here. Conditions: the types are the map's.
-/
import Derived.WalkKit
import Derived.Carry
namespace Go.Proofs.YtakbejphbnbepaaDoor.MapL
open Go Go.RowKit

variable {P : Program}

theorem checkKey_int (w : World) (b : Bool) (k : TypeId) (q : IntKind) (x : Int) (hk : P.underlying k = some (.int q)) (n : Nat) : (Instr.checkKey b (n + 1) k (.int q x)).run P w = .ok () w := by
  simp [Instr.checkKey, run_underlying hk]
theorem checkKey_str (w : World) (b : Bool) (k : TypeId) (x : ByteArray) (hk : P.underlying k = some .string) (n : Nat) : (Instr.checkKey b (n + 1) k (.string x)).run P w = .ok () w := by
  simp [Instr.checkKey, run_underlying hk]
theorem getObj_at {w : World} {b : Nat} {es : Array MapEntry} {c : Nat} (h : w.heap[b]? = some (.map es c)) : (getObj b).run P w = .ok (.map es c) w := MapKept.run_getObj_map h
theorem setObj_last (w : World) (es : Array MapEntry) (c : Nat) (o' : Obj) : (setObj w.heap.size o').run P (w.alloc (.map es c)) = .ok () (w.alloc o') := by
  simp only [setObj, Sem.run]
  have h1 : (w.alloc (.map es c)).heap[w.heap.size]? = some (.map es c) := by show (w.heap.push _)[w.heap.size]? = _; simp
  rw [h1]
  show Result.ok () ({ w.alloc (.map es c) with heap := (w.heap.push (.map es c)).setIfInBounds w.heap.size o' } : World) = _
  have hp : (w.heap.push (.map es c)).setIfInBounds w.heap.size o' = w.heap.push o' := by apply Array.toList_inj.1; simp
  rw [hp]
  rfl
theorem findKey_none (w : World) (k : TypeId) (d : TypeDesc) (hk : P.underlying k = some d) (key : Value) (es : List MapEntry) (h : Instr.findNow d key es 0 = some none) : (Instr.findKey k key es).run P w = .ok none w := by
  simp [Instr.findKey, run_underlying hk, h]
theorem findKey_some (w : World) (k : TypeId) (d : TypeDesc) (hk : P.underlying k = some d) (key : Value) (es : List MapEntry) (r : Nat × Value) (h : Instr.findNow d key es 0 = some (some r)) : (Instr.findKey k key es).run P w = .ok (some r) w := by
  simp [Instr.findKey, run_underlying hk, h]

/-- A NEW KEY (an integer) into the map that is the last block. -/
theorem run_insert_int (t k e : TypeId) (q : IntKind) (ht : P.underlying t = some (.map k e)) (hk : P.underlying k = some (.int q)) (w : World) (es : Array MapEntry) (c : Nat) (x : Int) (v : Value) (hno : Instr.findNow (.int q) (.int q x) es.toList 0 = some none) :
    (Instr.mapUpdate t (.map (some w.heap.size)) (.int q x) v).run P (w.alloc (.map es c)) = .ok () (w.alloc (.map (es.push { key := .int q x, val := v, born := c }) (c + 1))) := by
  have h1 : (w.alloc (.map es c)).heap[w.heap.size]? = some (.map es c) := by show (w.heap.push _)[w.heap.size]? = _; simp
  have hc := checkKey_int (P := P) (w.alloc (.map es c)) false k q x hk 9999
  simp [Instr.mapUpdate, run_underlying ht, getObj_at h1, hc, findKey_none _ k _ hk _ _ hno, Result.andThen, setObj_last]
theorem run_insert_str (t k e : TypeId) (ht : P.underlying t = some (.map k e)) (hk : P.underlying k = some .string) (w : World) (es : Array MapEntry) (c : Nat) (x : ByteArray) (v : Value) (hno : Instr.findNow .string (.string x) es.toList 0 = some none) :
    (Instr.mapUpdate t (.map (some w.heap.size)) (.string x) v).run P (w.alloc (.map es c)) = .ok () (w.alloc (.map (es.push { key := .string x, val := v, born := c }) (c + 1))) := by
  have h1 : (w.alloc (.map es c)).heap[w.heap.size]? = some (.map es c) := by show (w.heap.push _)[w.heap.size]? = _; simp
  have hc := checkKey_str (P := P) (w.alloc (.map es c)) false k x hk 9999
  simp [Instr.mapUpdate, run_underlying ht, getObj_at h1, hc, findKey_none _ k _ hk _ _ hno, Result.andThen, setObj_last]

/-- 'm[x]': the element that is found, or the element type's zero. -/
theorem run_lookup_int (t k e : TypeId) (q : IntKind) (ht : P.underlying t = some (.map k e)) (hk : P.underlying k = some (.int q)) (w : World) (b : Nat) (es : Array MapEntry) (c : Nat) (hb : w.heap[b]? = some (.map es c)) (x : Int) (r : Option (Nat × Value)) (hf : Instr.findNow (.int q) (.int q x) es.toList 0 = some r)
    (z : Value) (hz : (zeroValue e).run P w = .ok z w) :
    (Instr.lookup t (.map (some b)) (.int q x) false).run P w = .ok ((r.map (·.2)).getD z) w := by
  have hc := checkKey_int (P := P) w es.isEmpty k q x hk 9999
  cases r with
  | none => simp [Instr.lookup, run_underlying ht, getObj_at hb, hc, findKey_none _ k _ hk _ _ hf, hz, Result.andThen]
  | some r => simp [Instr.lookup, run_underlying ht, getObj_at hb, hc, findKey_some _ k _ hk _ _ r hf, Result.andThen]
end Go.Proofs.YtakbejphbnbepaaDoor.MapL
