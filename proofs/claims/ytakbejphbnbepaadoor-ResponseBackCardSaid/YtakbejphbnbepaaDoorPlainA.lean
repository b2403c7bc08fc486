/-
  Replies as plain Lean over lists of bytes: the statuses' words, how a reply is written, how one is read (as the program reads it, and as the document's reference reads it), and the laws between them. No program is in sight here. Conditions: none.
-/
import Derived.Lib.ItoaLen
import Derived.Lib.Strings
namespace Go.Proofs.YtakbejphbnbepaaDoor.P19
open Go

abbrev By := List UInt8
def crlf : By := [13, 10]
def verB : By := [72, 84, 84, 80, 47, 49, 46, 49, 32]
def lenB : By := [67, 111, 110, 116, 101, 110, 116, 45, 76, 101, 110, 103, 116, 104, 58, 32]
def closeB : By := [67, 111, 110, 110, 101, 99, 116, 105, 111, 110, 58, 32, 99, 108, 111, 115, 101, 13, 10]

/-- A status's word; empty: there is no such status. -/
def reason (s : Int) : By :=
  if s = 200 then [79, 75] else
  if s = 400 then [66, 97, 100, 32, 82, 101, 113, 117, 101, 115, 116] else
  if s = 404 then [78, 111, 116, 32, 70, 111, 117, 110, 100] else
  if s = 405 then [77, 101, 116, 104, 111, 100, 32, 78, 111, 116, 32, 65, 108, 108, 111, 119, 101, 100] else
  if s = 409 then [67, 111, 110, 102, 108, 105, 99, 116] else
  if s = 413 then [67, 111, 110, 116, 101, 110, 116, 32, 84, 111, 111, 32, 76, 97, 114, 103, 101] else
  if s = 422 then [85, 110, 112, 114, 111, 99, 101, 115, 115, 97, 98, 108, 101, 32, 67, 111, 110, 116, 101, 110, 116] else
  if s = 431 then [82, 101, 113, 117, 101, 115, 116, 32, 72, 101, 97, 100, 101, 114, 32, 70, 105, 101, 108, 100, 115, 32, 84, 111, 111, 32, 76, 97, 114, 103, 101] else
  if s = 501 then [78, 111, 116, 32, 73, 109, 112, 108, 101, 109, 101, 110, 116, 101, 100] else
  if s = 503 then [83, 101, 114, 118, 105, 99, 101, 32, 85, 110, 97, 118, 97, 105, 108, 97, 98, 108, 101] else
  if s = 507 then [73, 110, 115, 117, 102, 102, 105, 99, 105, 101, 110, 116, 32, 83, 116, 111, 114, 97, 103, 101] else
  []
def stats : List Int := [200, 400, 404, 405, 409, 413, 422, 431, 501, 503, 507]

/-! ## How a reply is written -/
def first (s : Int) : By := verB ++ (Lib.itoa s ++ ([32] ++ (reason s ++ crlf)))
def startOf (s : Int) : By := first s ++ lenB
def closing (c : Bool) : By := if c then closeB else []
def headL (s : Int) (n : Nat) (c : Bool) : By := startOf s ++ (Lib.itoa n ++ (crlf ++ (closing c ++ crlf)))

structure Rep where
  status : Int
  body : By
  close : Bool

def zeroRep : Rep := ⟨0, [], false⟩
def writeL (r : Rep) : By × Int :=
  if reason r.status = [] then ([], 190) else if 100000 < r.body.length then ([], 191)
  else (headL r.status r.body.length r.close ++ r.body, 0)

/-! ## How the program reads one -/
def wordL (s w : By) : By × Int :=
  if Lib.hasPrefix s w then (s.drop w.length, 0) else if Lib.hasPrefix w s then ([], 192) else ([], 193)

def statusL (s : By) : Int × By × Int :=
  match stats.find? (fun n => Lib.hasPrefix s (first n)) with
  | some n => (n, s.drop (first n).length, 0)
  | none => (0, [], if stats.any (fun n => Lib.hasPrefix (first n) s) then 192 else 193)

def isDig (c : UInt8) : Bool := decide (48 ≤ c.toNat ∧ c.toNat ≤ 57)
def valFrom (v : Nat) (l : List UInt8) : Nat := l.foldl (fun n c => 10 * n + (c.toNat - 48)) v
theorem valFrom_nil (v : Nat) : valFrom v [] = v := List.foldl_nil
theorem valFrom_cons (v : Nat) (c : UInt8) (l : List UInt8) : valFrom v (c :: l) = valFrom (10 * v + (c.toNat - 48)) l := List.foldl_cons ..
def val (l : By) : Nat := valFrom 0 l
def digs (s : By) : By := s.takeWhile isDig

def numberL (s : By) : Nat × By × Int :=
  if s = [] then (0, [], 192)
  else if (digs s).length = 0 ∨ 6 < (digs s).length ∨ (1 < (digs s).length ∧ s.head? = some 48) then (0, [], 193)
  else if 100000 < val (digs s) then (0, [], 193)
  else (val (digs s), wordL (s.drop (digs s).length) crlf)

def tailL (s : By) : Bool × By × Int :=
  if (wordL s closeB).2 = 0 then (true, wordL (wordL s closeB).1 crlf)
  else if (wordL s closeB).2 = 192 then (false, [], 192)
  else (false, wordL s crlf)

def bodyL (st : Int) (n : Nat) (c : Bool) (rest : By) (len : Nat) : Rep × Nat × Int :=
  if rest.length < n then (zeroRep, 0, 192) else (⟨st, rest.take n, c⟩, len - rest.length + n, 0)

def readL (s : By) : Rep × Nat × Int :=
  if (statusL s).2.2 ≠ 0 then (zeroRep, 0, (statusL s).2.2) else
  if (wordL (statusL s).2.1 lenB).2 ≠ 0 then (zeroRep, 0, (wordL (statusL s).2.1 lenB).2) else
  if (numberL (wordL (statusL s).2.1 lenB).1).2.2 ≠ 0 then (zeroRep, 0, (numberL (wordL (statusL s).2.1 lenB).1).2.2) else
  if (tailL (numberL (wordL (statusL s).2.1 lenB).1).2.1).2.2 ≠ 0 then (zeroRep, 0, (tailL (numberL (wordL (statusL s).2.1 lenB).1).2.1).2.2) else
  bodyL (statusL s).1 (numberL (wordL (statusL s).2.1 lenB).1).1 (tailL (numberL (wordL (statusL s).2.1 lenB).1).2.1).1 (tailL (numberL (wordL (statusL s).2.1 lenB).1).2.1).2.1 s.length

/-! ## How the reference reads one -/
def refNumber (s : By) : Nat × Nat :=
  if ((s.take 7).takeWhile isDig).length = 0 ∨ (1 < ((s.take 7).takeWhile isDig).length ∧ s.head? = some 48) then (0, 0)
  else (val ((s.take 7).takeWhile isDig), ((s.take 7).takeWhile isDig).length)

def refBody (s : By) (i : Int) (n : Nat) (c : Bool) : Rep × Nat × Int :=
  if s.length < (headL i n c).length + n then (zeroRep, 0, 192)
  else (⟨i, (s.drop (headL i n c).length).take n, c⟩, (headL i n c).length + n, 0)

/-- One status: an answer, or none and whether the text may be too short. -/
def refAt (s : By) (i : Int) : Option (Rep × Nat × Int) × Bool :=
  if Lib.hasPrefix s (startOf i) then
    if s.drop (startOf i).length = [] then (some (zeroRep, 0, 192), false)
    else if (refNumber (s.drop (startOf i).length)).2 = 0 ∨ 100000 < (refNumber (s.drop (startOf i).length)).1 then (some (zeroRep, 0, 193), false)
    else if (refNumber (s.drop (startOf i).length)).2 = (s.drop (startOf i).length).length then (some (zeroRep, 0, 192), false)
    else if Lib.hasPrefix s (headL i (refNumber (s.drop (startOf i).length)).1 false) then (some (refBody s i (refNumber (s.drop (startOf i).length)).1 false), false)
    else if Lib.hasPrefix s (headL i (refNumber (s.drop (startOf i).length)).1 true) then (some (refBody s i (refNumber (s.drop (startOf i).length)).1 true), false)
    else (none, Lib.hasPrefix (headL i (refNumber (s.drop (startOf i).length)).1 false) s || Lib.hasPrefix (headL i (refNumber (s.drop (startOf i).length)).1 true) s)
  else (none, Lib.hasPrefix (startOf i) s)

def refLoop (s : By) : List Int → Bool → Rep × Nat × Int
  | [], short => (zeroRep, 0, if short then 192 else 193)
  | i :: l, short =>
    match (refAt s i).1 with
    | some r => r
    | none => refLoop s l (short || (refAt s i).2)

def refReadL (s : By) : Rep × Nat × Int := refLoop s stats false
end Go.Proofs.YtakbejphbnbepaaDoor.P19
