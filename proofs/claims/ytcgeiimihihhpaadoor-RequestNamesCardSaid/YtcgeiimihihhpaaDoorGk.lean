/-
  Walks of layer 18: the calls whose answers the document fixes (awake). Condition: the library's variable MaxLen holds an int.
  Walks of layer 18: RequestNames, RequestHeads. Conditions: the library's variable MaxLen holds an int; the last argument is a slice of truth values.
  Walks of layer 18: RequestHeads. Conditions: the texts are within Go's own limit; the library's variable MaxLen holds an int; the last argument is a slice of truth values.
  A slice of truth values as an argument, opened. No condition.
-/
import Derived.Test.YtcgeiimihihhpaaDoorGj
import Derived.Test.YtcgeiimihihhpaaDoorGa
import Derived.Test.YtcgeiimihihhpaaDoorGb
import Derived.Test.YtcgeiimihihhpaaDoorGe
import Derived.Deep.Grids
import Derived.Deep.Slices
import Derived.SizedLaws
import Derived.Deep.DeepHandedRow
import Derived.Lib.SmallJoins
import Derived.ChangeMaps5

namespace Go.Proofs.YtcgeiimihihhpaaDoor.W18
open Go Go.RowKit P12 P18

abbrev txt1 : ByteArray := ⟨#[80, 79, 83, 84, 32, 47, 99, 63, 120, 32, 72, 84, 84, 80, 47, 49, 46, 49, 13, 10, 72, 111, 115, 116, 58, 32, 104, 13, 10, 67, 111, 110, 116, 101, 110, 116, 45, 76, 101, 110, 103, 116, 104, 58, 32, 51, 13, 10, 13, 10, 97, 98, 99, 100]⟩
abbrev txt2 : ByteArray := ⟨#[71, 69, 84, 32, 47]⟩
abbrev txt3 : ByteArray := ⟨#[71, 69, 84, 32, 47, 10]⟩
def hdr1 : List Hdr := [⟨hostN, [104]⟩, ⟨clN, [51]⟩]
theorem cl_1 : cleanL [47] [47, 99] = true := by
  rw [clean_cons, if_pos (by decide), clean_cons, if_pos (by decide), clean_nil']
theorem cl_2 : cleanL [47, 61, 38, 39] [120] = true := by
  rw [clean_cons, if_pos (by decide), clean_nil']
theorem fst1 : firstL [80, 79, 83, 84, 32, 47, 99, 63, 120, 32, 72, 84, 84, 80, 47, 49, 46, 49] = (200, ⟨postM, [47, 99], [120], [], [], false⟩) := by
  unfold firstL
  rw [show partsL 32 [80, 79, 83, 84, 32, 47, 99, 63, 120, 32, 72, 84, 84, 80, 47, 49, 46, 49] = [postM, [47, 99, 63, 120], http] by decide]
  simp only
  rw [if_pos (by decide), show cutL 63 [47, 99, 63, 120] = ([47, 99], [120], true) by decide, if_pos ⟨cl_1, cl_2⟩, if_pos (by decide)]
theorem prs1 : parseR txt1.data.toList = .ok ⟨postM, [47, 99], [120], hdr1, [97, 98, 99], false⟩ [100] := by
  have h1 : lineL txt1.data.toList = .ok [80, 79, 83, 84, 32, 47, 99, 63, 120, 32, 72, 84, 84, 80, 47, 49, 46, 49] (txt1.data.toList.drop 20) := rfl
  have h2 : headsL (txt1.data.toList.drop 20) = .ok hdr1 (txt1.data.toList.drop 50) := by kernel_rfl
  have h3 : sizeL hdr1 = (200, 3) := by decide
  have := pr_body h1 (by rw [fst1]) h2 (by rw [h3])
  rw [this, fst1, h3]
  rfl
theorem aw1 : parseL txt1.data.toList = (⟨postM, [47, 99], [120], hdr1, [97, 98, 99], false⟩, 53, 200) := by
  unfold parseL
  rw [prs1]
  rfl
theorem aw2 : parseL txt2.data.toList = (zeroR, 0, 0) := by
  unfold parseL
  rw [pr_line (t := 0) rfl]
theorem aw3 : parseL txt3.data.toList = (zeroR, 0, 400) := by
  unfold parseL
  rw [pr_line (t := 400) rfl]
theorem MaxL.new {w : World} (h : MaxL w) (o : Obj) : MaxL (w.alloc o) := h.keep (below_alloc w o)
/-- Parse, with what it hands back spelled. -/
theorem Parse_at (s : ByteArray) (hs : s.size ≤ 281474976710656) (a : Rq) (n : Nat) (st : Int) (hp : parseL s.data.toList = (a, n, st)) (M P Q Y : ByteArray) (hM : M = ⟨a.method.toArray⟩) (hP : P = ⟨a.path.toArray⟩) (hQ : Q = ⟨a.query.toArray⟩) (hY : Y = ⟨a.body.toArray⟩) (c : Bool) (hc : c = a.close) (w : World) (hL : MaxL w) :
    Calls Tryd.prog 6 #[.string s] w fun e w' => ∃ o cp, e = .returned (.tuple #[.agg #[.string M, .string P, .string Q, .slice o a.headers.length cp, .string Y, .bool c], .int .i64 n, .int .i64 st]) ∧ OwnH w' w.heap.size (.slice o a.headers.length cp) a.headers ∧ Below w.heap.size w w' := by
  refine (Parse_any s hs w hL).mono ?_
  rintro e w' ⟨hB, v, he, ho⟩
  rw [hp] at he ho
  obtain ⟨o, cp, rfl⟩ := own_slice ho
  refine ⟨o, cp, ?_, ho, hB⟩
  rw [he, hM, hP, hQ, hY, hc]
  rfl
set_option maxHeartbeats 3200000 in
set_option maxRecDepth 100000 in
theorem awake_any (w : World) (hL : MaxL w) : Calls Tryd.prog 5 #[] w fun e w' => e = .returned (.bool true) ∧ Below w.heap.size w w' := by
  have h1 := fun W hW => Parse_at txt1 (by decide) _ _ _ aw1 ⟨#[80, 79, 83, 84]⟩ ⟨#[47, 99]⟩ ⟨#[120]⟩ ⟨#[97, 98, 99]⟩ rfl rfl rfl rfl false rfl W hW
  have h2 := fun W hW => Parse_at txt2 (by decide) _ _ _ aw2 ⟨#[]⟩ ⟨#[]⟩ ⟨#[]⟩ ⟨#[]⟩ rfl rfl rfl rfl false rfl W hW
  have h3 := fun W hW => Parse_at txt3 (by decide) _ _ _ aw3 ⟨#[]⟩ ⟨#[]⟩ ⟨#[]⟩ ⟨#[]⟩ rfl rfl rfl rfl false rfl W hW
  have H1 := Lib.hid h1
  have H2 := Lib.hid h2
  have H3 := Lib.hid h3
  clear h1 h2 h3
  go_enter Tryd.func5, Tryd.ntmps5
  go_wp2_with (go_at_call 6; (with_reducible refine (H1.out _ hL).mono ?_); rintro e w1 ⟨o1, cp1, rfl, -, hb1⟩; refine Hid.out ?_)
  refine Lib.hid ?_
  have x1 := new_at w1 #[.string ⟨#[80, 79, 83, 84]⟩, .string ⟨#[47, 99]⟩, .string ⟨#[120]⟩, .slice o1 hdr1.length cp1, .string ⟨#[97, 98, 99]⟩, .bool false] 27
  have hL1 := MaxL.new (hL.keep hb1)
  have b1 := fun o => below_then hb1 (below_alloc w1 o)
  go_wp2_with (go_at_call 6; (refine (H2.out _ (hL1 _)).mono ?_); rintro e w2 ⟨o2, cp2, rfl, -, hb2⟩; refine Hid.out ?_)
  refine Lib.hid ?_
  have x2 := keep_at x1 hb2
  have hL2 := MaxL.new ((hL1 _).keep hb2)
  have b2 := fun o => below_then (below_then (b1 _) hb2) (below_alloc w2 o)
  have x3 := fun o => keep_at x2 (below_alloc w2 o)
  go_wp2_with (go_at_call 6; (refine (H3.out _ (hL2 _)).mono ?_); rintro e w3 ⟨o3, cp3, rfl, -, hb3⟩; refine Hid.out ?_)
  refine Lib.hid ?_
  have x4 := keep_at (x3 _) hb3
  have b3 := fun o => below_then (below_then (b2 _) hb3) (below_alloc w3 o)
  have x5 := keep_at x4 (below_alloc w3 (.cells #[.string ⟨#[]⟩, .string ⟨#[]⟩, .string ⟨#[]⟩, .slice o3 zeroR.headers.length cp3, .string ⟨#[]⟩, .bool false] 27))
  obtain ⟨y0, y1, y2, y3, y4, y5⟩ := cells6 x5
  clear x1 x2 x3 x4 x5
  go_wp2_with fail
  go_ret
  exact ⟨rfl, b3 _⟩
end Go.Proofs.YtcgeiimihihhpaaDoor.W18

namespace Go.Proofs.YtcgeiimihihhpaaDoor.W18
open Go Go.RowKit P12 P18

theorem names_walk (w : World) (hL : MaxL w) : Calls Tryd.prog 3 #[] w fun e w' => e = .returned (.bool true) ∧ Below w.heap.size w w' := by
  have H0 := awake_any w hL
  go_enter Tryd.func3, Tryd.ntmps3
  go_wp2_with (go_at_call 5; (refine H0.mono ?_); rintro e w0 ⟨rfl, hb0⟩)
  go_ret
  exact ⟨rfl, hb0⟩

/-- A slice of n truth values. -/
def Bools (v : Value) (n : Nat) (w : World) : Prop := ∃ o c, v = .slice o n c ∧ (n = 0 ∨ ∃ g off, o = some ⟨g, off, none⟩ ∧ ∀ j, j < n → ∃ b, w.cell? ⟨g, off + j, none⟩ = some (.bool b))
theorem Bools.keep {v : Value} {n : Nat} {w w' : World} (h : Bools v n w) (hb : Below w.heap.size w w') : Bools v n w' := by
  obtain ⟨o, c, h1, h2⟩ := h
  refine ⟨o, c, h1, ?_⟩
  rcases h2 with h2 | ⟨g, off, h2, h3⟩
  · exact .inl h2
  · exact .inr ⟨g, off, h2, fun j hj => by obtain ⟨b, hb'⟩ := h3 j hj; exact ⟨b, keep_cell hb hb'⟩⟩
theorem low_facts (c : UInt8) (h : 97 ≤ c.toNat) (h2 : c.toNat ≤ 122) : smallC c = c ∧ smallC (c - 32) = c ∧ letterC c = true ∧ letterC (c - 32) = true ∧ (c - 32).toNat = c.toNat - 32 := by
  have hall : ((List.range 256).all fun n => decide (97 ≤ n → n ≤ 122 → smallC n.toUInt8 = n.toUInt8 ∧ smallC (n.toUInt8 - 32) = n.toUInt8 ∧ letterC n.toUInt8 = true ∧ letterC (n.toUInt8 - 32) = true ∧ (n.toUInt8 - 32).toNat = n - 32)) = true := by decide +kernel
  have := of_decide_eq_true (List.all_eq_true.1 hall c.toNat (List.mem_range.2 c.toNat_lt)) h h2
  rwa [show c.toNat.toUInt8 = c by simp] at this
/-- The name's bytes when k rounds are over: each one as it was, or great. -/
def UpTo (s l : P12.By) (k : Nat) : Prop := l.length = s.length ∧ ∀ i (h : i < s.length) (h' : i < l.length), (i < k → (97 ≤ (s[i]'h).toNat ∧ (s[i]'h).toNat ≤ 122) ∧ (l[i]'h' = s[i]'h ∨ l[i]'h' = s[i]'h - 32)) ∧ (k ≤ i → l[i]'h' = s[i]'h)
theorem up_start (s : P12.By) : UpTo s s 0 := ⟨rfl, fun i h h' => ⟨fun h => absurd h (Nat.not_lt_zero _), fun _ => rfl⟩⟩
theorem up_same {s l : P12.By} {k : Nat} (h : UpTo s l k) (hk : k < s.length) (h1 : 97 ≤ (s[k]'hk).toNat) (h2 : (s[k]'hk).toNat ≤ 122) : UpTo s l (k + 1) := by
  refine ⟨h.1, fun i hi hi' => ⟨fun hik => ?_, fun hik => (h.2 i hi hi').2 (by omega)⟩⟩
  by_cases e : i = k
  · subst e
    exact ⟨⟨h1, h2⟩, .inl ((h.2 i hi hi').2 (Nat.le_refl _))⟩
  · exact (h.2 i hi hi').1 (by omega)
theorem up_set {s l : P12.By} {k : Nat} (h : UpTo s l k) (hk : k < s.length) (h1 : 97 ≤ (s[k]'hk).toNat) (h2 : (s[k]'hk).toNat ≤ 122) : UpTo s (l.set k (s[k]'hk - 32)) (k + 1) := by
  refine ⟨by rw [List.length_set]; exact h.1, fun i hi hi' => ⟨fun hik => ?_, fun hik => ?_⟩⟩
  · by_cases e : i = k
    · subst e
      exact ⟨⟨h1, h2⟩, .inr (by simp)⟩
    · rw [List.getElem_set_ne (fun e' => e e'.symm)]
      exact (h.2 i hi (by rw [List.length_set] at hi'; exact hi')).1 (by omega)
  · rw [List.getElem_set_ne (by omega)]
    exact (h.2 i hi (by rw [List.length_set] at hi'; exact hi')).2 (by omega)
theorem up_end {s l : P12.By} (h : UpTo s l s.length) : smallL l = s ∧ ∀ c ∈ l, letterC c = true := by
  constructor
  · refine List.ext_getElem (by rw [smallL, List.length_map]; exact h.1) (fun i h1 h2 => ?_)
    have hl : i < l.length := by rw [smallL, List.length_map] at h1; exact h1
    obtain ⟨⟨a1, a2⟩, a3⟩ := (h.2 i h2 hl).1 h2
    obtain ⟨f1, f2, -⟩ := low_facts _ a1 a2
    simp only [smallL, List.getElem_map]
    rcases a3 with e | e
    · rw [e, f1]
    · rw [e, f2]
  · intro c hc
    obtain ⟨i, hi, rfl⟩ := List.getElem_of_mem hc
    have h2 : i < s.length := by rw [← h.1]; exact hi
    obtain ⟨⟨a1, a2⟩, a3⟩ := (h.2 i h2 hi).1 h2
    obtain ⟨-, -, f3, f4, -⟩ := low_facts _ a1 a2
    rcases a3 with e | e
    · rw [e]; exact f3
    · rw [e]; exact f4
end Go.Proofs.YtcgeiimihihhpaaDoor.W18

namespace Go.Proofs.YtcgeiimihihhpaaDoor.W18
open Go Go.RowKit P12 P18

set_option maxHeartbeats 12000000 in
set_option maxRecDepth 100000 in
theorem heads_walk (s val : ByteArray) (gv : Value) (gn : Nat) (hs : s.size ≤ 140737488355328) (hvs : val.size ≤ 140737488355328) (hgn : gn ≤ 9223372036854775807) (w : World) (hL : MaxL w) (hg : Bools gv gn w) :
    Calls Tryd.prog 4 #[.string s, .string val, gv] w fun e w' => e = .returned (.bool true) ∧ Below w.heap.size w w' := by
  have H0 := Lib.hid (awake_any w hL)
  obtain ⟨go, gc, rfl, -⟩ := id hg
  go_enter Tryd.func4, Tryd.ntmps4
  go_wp2_with (go_at_call 5; (refine (H0.out).mono ?_); rintro e w0 ⟨rfl, hb0⟩; refine Hid.out ?_)
  refine Lib.hid ?_
  have hL0 := hL.keep hb0
  have hg0 := hg.keep hb0
  clear H0 hg
  by_cases c1 : s.size = 0
  · have z1 : ((s.size : Int) == 0) = true := by rw [beq_iff_eq]; omega
    clear c1
    go_wp2_with fail
    go_ret
    exact ⟨rfl, hb0⟩
  have z1 : ((s.size : Int) == 0) = false := by rw [beq_eq_false_iff_ne]; omega
  have z1' : ¬ (s.size : Int) = 0 := by omega
  by_cases c2 : 40 < s.size
  · have z2' : (40 : Int) < (s.size : Int) := by omega
    go_wp2_with fail
    go_ret
    exact ⟨rfl, hb0⟩
  have z2' : ¬ (40 : Int) < (s.size : Int) := by omega
  by_cases c3 : 150 < val.size
  · have z3 : (150 : Int) < (val.size : Int) := by omega
    go_wp2_with fail
    go_ret
    exact ⟨rfl, hb0⟩
  have z3 : ¬ (150 : Int) < (val.size : Int) := by omega
  have hcv := run_bytes_of_string (P := Tryd.prog) w0 9 24 5 s Tryd.underlying9 Tryd.underlying24 Tryd.underlying5
  have hba := bytesAt_new w0 s
  have hbl := ((below_drewN w0 1).alloc (Nat.le_refl _) (.cells (bytesRow s (grownCap w0 s.size 0 5)) 5 ((bytesRow s (grownCap w0 s.size 0 5)).size, (bytesRow s (grownCap w0 s.size 0 5)).size + 1)))
  rw [show w0.drewN 1 = w0.drew from rfl] at hbl
  have hsz : w0.heap.size + 1 ≤ (w0.drew.alloc (.cells (bytesRow s (grownCap w0 s.size 0 5)) 5 ((bytesRow s (grownCap w0 s.size 0 5)).size, (bytesRow s (grownCap w0 s.size 0 5)).size + 1))).heap.size := by simp
  generalize (w0.drew.alloc (.cells (bytesRow s (grownCap w0 s.size 0 5)) 5 ((bytesRow s (grownCap w0 s.size 0 5)).size, (bytesRow s (grownCap w0 s.size 0 5)).size + 1))) = w1 at *
  generalize grownCap w0 s.size 0 5 = cap at *
  go_wp2_with fail
  clear hcv
  go_loopw [9] (fun i wr => ∃ (k : Nat) (l : P12.By), k ≤ s.size ∧ i = .int .i64 k ∧ Hid (UpTo s.data.toList l k) ∧ BytesAt w0.heap.size l wr ∧ Below w0.heap.size w0 wr ∧ w0.heap.size + 1 ≤ wr.heap.size) (fun i _ => s.size - (intOf i).toNat)
  case atStart => exact ⟨0, _, by omega, rfl, Lib.hid (up_start _), hba, hbl, hsz⟩
  case round =>
    clear hba hbl hsz
    obtain ⟨k, l, hk, rfl, HU, hI, hB, hZ⟩ := hrel
    have hll : l.length = s.size := by rw [HU.out.1, size_data]
    by_cases hlt : k < s.size
    · have hl : k < s.data.toList.length := by rw [size_data]; exact hlt
      have hl2 : k < l.length := by rw [hll]; exact hlt
      have c0 := hI.cell k hl2
      have f0 := hI.free k hl2
      rw [(HU.out.2 k hl hl2).2 (Nat.le_refl _)] at c0
      have hlt' : (k : Int) < (s.size : Int) := by omega
      obtain ⟨n, hn⟩ : ∃ n, n = (s.data.toList[k]'hl).toNat := ⟨_, rfl⟩
      have hn256 : n < 256 := by rw [hn]; exact UInt8.toNat_lt _
      rw [← hn] at c0
      by_cases h97 : n < 97
      · have y1 : (n : Int) < 97 := by omega
        clear hn f0 HU hI
        go_wp2_with fail
        go_ret
        exact ⟨rfl, below_then hb0 hB⟩
      have y1 : ¬ (n : Int) < 97 := by omega
      by_cases h122 : 122 < n
      · have y2 : (122 : Int) < (n : Int) := by omega
        clear hn f0 HU hI
        go_wp2_with fail
        go_ret
        exact ⟨rfl, below_then hb0 hB⟩
      have y2 : ¬ (122 : Int) < (n : Int) := by omega
      have a1 : 97 ≤ (s.data.toList[k]'hl).toNat := by omega
      have a2 : (s.data.toList[k]'hl).toNat ≤ 122 := by omega
      have HS : Hid (UpTo s.data.toList l (k + 1)) := Lib.hid (up_same HU.out hl a1 a2)
      have HT : Hid (UpTo s.data.toList (l.set k (s.data.toList[k]'hl - 32)) (k + 1)) := Lib.hid (up_set HU.out hl a1 a2)
      have hnx := hI.set k (s.data.toList[k]'hl - 32) hl2
      rw [show (((s.data.toList[k]'hl - 32).toNat : Nat) : Int) = (n : Int) - 32 by rw [(low_facts _ a1 a2).2.2.2.2, ← hn]; omega] at hnx
      have HN := Lib.hid hn
      by_cases hkg : k < gn
      · have y3 : (k : Int) < (gn : Int) := by omega
        obtain ⟨o', c', e', hcl⟩ := hg0.keep hB
        injection e' with e1 e2 e3
        subst e1 e3
        obtain ⟨g, off, rfl, hcc⟩ := hcl.resolve_left (by omega)
        obtain ⟨b, hbc⟩ := hcc k hkg
        clear hcl hcc e2 hn a1 a2 HU
        cases b with
        | true =>
          clear HS hI
          go_wp2_with fail
          go_roundw
          case rel => exact ⟨k + 1, _, by omega, by go_num, HT, hnx, hB.setCell (p := ⟨w0.heap.size, k, none⟩) (Nat.le_refl _) _, by simp [World.setCell]; omega⟩
          case measure => simp [intOf]; omega
        | false =>
          clear HT hnx f0
          go_wp2_with fail
          go_roundw
          case rel => exact ⟨k + 1, l, by omega, by go_num, HS, hI, hB, hZ⟩
          case measure => simp [intOf]; omega
      · have y3 : ¬ (k : Int) < (gn : Int) := by omega
        clear hn a1 a2 hnx HT
        go_wp2_with fail
        go_roundw
        case rel => exact ⟨k + 1, l, by omega, by go_num, HS, hI, hB, hZ⟩
        case measure => simp [intOf]; omega
    · obtain rfl : k = s.size := by omega
      have hue := HU.out
      rw [← size_data] at hue
      obtain ⟨hsm, hlet⟩ := up_end hue
      have HSM := Lib.hid hsm
      have HLT := Lib.hid hlet
      clear hue hsm hlet HU
      go_wp2_with fail
      go_loop [10] (fun i => ∃ k : Nat, k ≤ val.size ∧ i = .int .i64 k ∧ Hid (∀ c ∈ val.data.toList.take k, 33 ≤ c ∧ c ≠ 127)) (fun i => val.size - (intOf i).toNat)
      case atStart => exact ⟨0, by omega, rfl, Lib.hid (fun c hc => by simp at hc)⟩
      case round =>
        obtain ⟨k, hk2, rfl, HV⟩ := hrel
        by_cases hlt2 : k < val.size
        · have hlt3 : (k : Int) < (val.size : Int) := by omega
          have hx := run_at val k (val[k]'hlt2) (by rw [List.getElem?_eq_getElem (by rw [size_data]; exact hlt2)]; rfl)
          have htk : val.data.toList.take (k + 1) = val.data.toList.take k ++ [val[k]'hlt2] := by
            rw [List.take_succ_eq_append_getElem (by rw [size_data]; exact hlt2)]
            rfl
          obtain ⟨n, hn⟩ : ∃ n, n = (val[k]'hlt2).toNat := ⟨_, rfl⟩
          rw [← hn] at hx
          by_cases h33 : n < 33
          · have y1 : (n : Int) < 33 := by omega
            clear hn htk HV
            go_wp2_with fail
            go_ret
            exact ⟨rfl, below_then hb0 hB⟩
          have y1 : ¬ (n : Int) < 33 := by omega
          by_cases h127 : n = 127
          · have y2 : ((n : Int) == 127) = true := by rw [beq_iff_eq]; omega
            subst h127
            clear hn htk HV
            go_wp2_with fail
            go_ret
            exact ⟨rfl, below_then hb0 hB⟩
          have y2 : ((n : Int) == 127) = false := by rw [beq_eq_false_iff_ne]; omega
          have HV2 : Hid (∀ c ∈ val.data.toList.take (k + 1), 33 ≤ c ∧ c ≠ 127) := Lib.hid (fun c hc => by
            rw [htk] at hc
            rcases List.mem_append.1 hc with hc | hc
            · exact HV.out c hc
            · simp at hc
              subst hc
              refine ⟨UInt8.le_iff_toNat_le.2 (by show 33 ≤ _; omega), fun e => h127 (by rw [hn, e]; rfl)⟩)
          clear hn htk HV
          go_wp2_with fail
          go_round
          case rel => exact ⟨k + 1, by omega, by go_num, HV2⟩
          case measure => simp [intOf]; omega
        · obtain rfl : k = val.size := by omega
          have hval := HV.out
          rw [List.take_of_length_le (by rw [size_data]; exact Nat.le_refl _)] at hval
          have HVL := Lib.hid hval
          clear hval HV
          by_cases d1 : s.data.toList = hostN
          · have g1 : s.toList = [104, 111, 115, 116] := by rw [Lib.toList_data]; exact d1
            clear d1
            go_wp2_with fail
            go_ret
            exact ⟨rfl, below_then hb0 hB⟩
          have g1 : ¬ s.toList = [104, 111, 115, 116] := by rw [Lib.toList_data]; exact d1
          have g1' : (s.toList == [104, 111, 115, 116]) = false := beq_eq_false_iff_ne.2 g1
          by_cases d2 : s.data.toList = connN
          · have g2 : s.toList = [99, 111, 110, 110, 101, 99, 116, 105, 111, 110] := by rw [Lib.toList_data]; exact d2
            clear d1 d2
            go_wp2_with fail
            go_ret
            exact ⟨rfl, below_then hb0 hB⟩
          have g2 : ¬ s.toList = [99, 111, 110, 110, 101, 99, 116, 105, 111, 110] := by rw [Lib.toList_data]; exact d2
          have g2' : (s.toList == [99, 111, 110, 110, 101, 99, 116, 105, 111, 110]) = false := beq_eq_false_iff_ne.2 g2
          by_cases d3 : s.data.toList = clN
          · have g3 : s.toList = [99, 111, 110, 116, 101, 110, 116, 45, 108, 101, 110, 103, 116, 104] := by rw [Lib.toList_data]; exact d3
            clear d1 d2 d3
            go_wp2_with fail
            go_ret
            exact ⟨rfl, below_then hb0 hB⟩
          have g3 : ¬ s.toList = [99, 111, 110, 116, 101, 110, 116, 45, 108, 101, 110, 103, 116, 104] := by rw [Lib.toList_data]; exact d3
          have g3' : (s.toList == [99, 111, 110, 116, 101, 110, 116, 45, 108, 101, 110, 103, 116, 104]) = false := beq_eq_false_iff_ne.2 g3
          obtain ⟨R, hR⟩ : ∃ R : ByteArray, R = ⟨l.toArray⟩ := ⟨_, rfl⟩
          have hRd : R.data.toList = l := by rw [hR]
          have hRs : R.size = s.size := by rw [← size_data, hRd, hll]
          have hbk := fun cap => run_convert_bytes_back (P := Tryd.prog) wr 24 9 5 ⟨w0.heap.size, 0, none⟩ cap l Tryd.underlying24 Tryd.underlying5 Tryd.underlying9 (fun j hj => by have := hI.cell j hj; simp only [Addr.add]; split <;> simp_all)
          rw [hll, ← hR] at hbk
          obtain ⟨T1, hT1⟩ : ∃ T : ByteArray, T = (⟨#[71, 69, 84, 32, 47, 32, 72, 84, 84, 80, 47, 49, 46, 49, 13, 10, 72, 111, 115, 116, 58, 32, 104, 13, 10]⟩ : ByteArray) ++ R := ⟨_, rfl⟩
          obtain ⟨T2, hT2⟩ : ∃ T : ByteArray, T = T1 ++ (⟨#[58, 32, 9, 32]⟩ : ByteArray) := ⟨_, rfl⟩
          obtain ⟨T3, hT3⟩ : ∃ T : ByteArray, T = T2 ++ val := ⟨_, rfl⟩
          obtain ⟨T4, hT4⟩ : ∃ T : ByteArray, T = T3 ++ (⟨#[32, 9, 13, 10, 13, 10]⟩ : ByteArray) := ⟨_, rfl⟩
          have q1 : T1.size = 25 + s.size := by rw [hT1, ByteArray.size_append, hRs]; rfl
          have q2 : T2.size = 29 + s.size := by rw [hT2, ByteArray.size_append, q1]; show 25 + s.size + 4 = _; omega
          have q3 : T3.size = 29 + s.size + val.size := by rw [hT3, ByteArray.size_append, q2]
          have q4 : T4.size = 35 + s.size + val.size := by rw [hT4, ByteArray.size_append, q3]; show 29 + s.size + val.size + 6 = _; omega
          have p1 : ∀ W, (Op.stringOp .add ⟨#[71, 69, 84, 32, 47, 32, 72, 84, 84, 80, 47, 49, 46, 49, 13, 10, 72, 111, 115, 116, 58, 32, 104, 13, 10]⟩ R).run Tryd.prog W = .ok (.string T1) W := fun W => by rw [hT1]; exact run_string_add_sum W _ _ (by rw [hRs]; show 25 + s.size ≤ _; omega)
          have p2 : ∀ W, (Op.stringOp .add T1 ⟨#[58, 32, 9, 32]⟩).run Tryd.prog W = .ok (.string T2) W := fun W => by rw [hT2]; exact run_string_add_sum W _ _ (by rw [q1]; show 25 + s.size + 4 ≤ _; omega)
          have p3 : ∀ W, (Op.stringOp .add T2 val).run Tryd.prog W = .ok (.string T3) W := fun W => by rw [hT3]; exact run_string_add_sum W _ _ (by omega)
          have p4 : ∀ W, (Op.stringOp .add T3 ⟨#[32, 9, 13, 10, 13, 10]⟩).run Tryd.prog W = .ok (.string T4) W := fun W => by rw [hT4]; exact run_string_add_sum W _ _ (by rw [q3]; show 29 + s.size + val.size + 6 ≤ _; omega)
          have hT : T4.data.toList = lineG ++ 13 :: 10 :: (lineH ++ 13 :: 10 :: ((l ++ [58, 32, 9, 32] ++ val.data.toList ++ [32, 9]) ++ 13 :: 10 :: (13 :: 10 :: []))) := by
            rw [hT4, hT3, hT2, hT1]
            simp only [ByteArray.data_append, Array.toList_append, hRd, List.append_assoc]
            rfl
          have hl0 : l ≠ [] := fun e => c1 (by rw [← hll, e]; rfl)
          have hlaw := heads_law (raw := l) (value := val.data.toList) hl0 (by omega) HLT.out (by rw [size_data]; omega) HVL.out (by rw [HSM.out]; exact d1) (by rw [HSM.out]; exact d2)
          rw [← hT, HSM.out] at hlaw
          have hpl : parseL T4.data.toList = (⟨getM, [47], [], [hostH, ⟨s.data.toList, val.data.toList⟩], [], false⟩, T4.size, 200) := by
            unfold parseL
            rw [hlaw]
            simp
          have HP := Lib.hid (fun W hW => Parse_at T4 (by omega) _ _ _ hpl ⟨#[71, 69, 84]⟩ ⟨#[47]⟩ ⟨#[]⟩ ⟨#[]⟩ rfl rfl rfl rfl false rfl W hW)
          have hgm : ∀ W v, RowsH v [hostH, ⟨s.data.toList, val.data.toList⟩] W → Calls Tryd.prog 7 #[reqV ⟨#[71, 69, 84]⟩ ⟨#[47]⟩ ⟨#[]⟩ v ⟨#[]⟩ false, .string s] W fun e w' => e = .returned (.tuple #[.string val, .int .i64 1]) ∧ Below W.heap.size W w' := fun W v hv => by
            have := Get_any ⟨#[71, 69, 84]⟩ ⟨#[47]⟩ ⟨#[]⟩ v ⟨#[]⟩ false [hostH, ⟨s.data.toList, val.data.toList⟩] s W hv (by show 2 ≤ 1000; omega)
            have e1 : getH [hostH, ⟨s.data.toList, val.data.toList⟩] s.data.toList = [val.data.toList] := by
              unfold getH
              rw [List.filter_cons_of_neg (fun e => d1 (of_decide_eq_true e).symm), List.filter_cons_of_pos (by simp)]
              rfl
            unfold getV getN at this
            rw [e1] at this
            simp only [List.headD_cons, List.length_cons, List.length_nil, bs_data] at this
            exact this
          have HG := Lib.hid hgm
          have hLr := hL0.keep hB
          have hBr := below_then hb0 hB
          clear hT1 hT2 hT3 hT4 hT hl0 hlaw hpl hgm d1 d2 d3 hR hRd hI HSM HLT HVL hg0
          go_wp2_with (go_at_call 6; (refine (HP.out _ hLr).mono ?_); rintro e w2 ⟨o1, cp1, rfl, ho1, hb1⟩; refine Hid.out ?_)
          refine Lib.hid ?_
          have x1 := new_at w2 #[.string ⟨#[71, 69, 84]⟩, .string ⟨#[47]⟩, .string ⟨#[]⟩, .slice o1 [hostH, (⟨s.data.toList, val.data.toList⟩ : Hdr)].length cp1, .string ⟨#[]⟩, .bool false] 27
          have bA := below_alloc w2 (.cells #[.string ⟨#[71, 69, 84]⟩, .string ⟨#[47]⟩, .string ⟨#[]⟩, .slice o1 [hostH, (⟨s.data.toList, val.data.toList⟩ : Hdr)].length cp1, .string ⟨#[]⟩, .bool false] 27)
          have oA := own_keep ho1 bA
          have bB := below_then (below_then hBr hb1) bA
          have hgc := HG.out _ _ (OwnH.rows oA)
          obtain ⟨y0, y1, y2, y3, y4, y5⟩ := cells6 x1
          clear HP HG ho1 bA oA
          go_wp2_with (go_at_call 7; (refine hgc.mono ?_); rintro e w4 ⟨rfl, hb4⟩; refine Hid.out ?_)
          refine Lib.hid ?_
          have x1 := keep_at x1 hb4
          have bB := below_then bB hb4
          clear y0 y1 y2 y3 y4 y5 hgc
          obtain ⟨y0, y1, y2, y3, y4, y5⟩ := cells6 x1
          go_wp2_with fail
          go_ret
          exact ⟨rfl, bB⟩
end Go.Proofs.YtcgeiimihihhpaaDoor.W18

namespace Go.Proofs.YtcgeiimihihhpaaDoor.W18
open Go Go.ChangeShapes Go.WideShapes Go.ChangeAt Go.RowKit Go.Deep

theorem cellsBl : Tryd.prog.cellsOf 4 = 1 := by kernel_rfl
section
variable {H : Type} {enc : TypeId × Value → H} {w : World} {held : Bool}
set_option maxRecDepth 100000 in
theorem open_bls {r : Reach} {b0 : Nat} {v : Value} {d : DataW H} {p : List MemPlace} (hval : Value.okWide Tryd.prog w r b0 23 v) (h : DataW.Trod enc Tryd.prog w 0 (fun _ => true) held 23 v d p) : ∃ n, n ≤ maxLen ∧ Bools v n w := by
  obtain ⟨a', l', c', rfl⟩ := okWide_slice Tryd.underlying23 hval
  obtain ⟨fuel, h⟩ := h
  rcases open_bools Tryd.underlying23 Tryd.underlying4 cellsBl h with ⟨hv, -⟩ | ⟨a, len, cap, B, hv, -, hl, hm, -, hc⟩
  · have hv' : Value.slice a' l' c' = .slice none 0 0 := by simpa [Value.cells] using hv
    exact ⟨0, Nat.zero_le _, none, 0, hv', .inl rfl⟩
  · have hv' : Value.slice a' l' c' = .slice (some a) len cap := by simpa [Value.cells] using hv
    refine ⟨len, Nat.le_trans hl hm, some a, cap, hv', ?_⟩
    by_cases h0 : len = 0
    · exact .inl h0
    · obtain ⟨g, off, spot⟩ := a
      have hsp : spot = none := by
        have := World.cell?_spot (hc 0 (by omega))
        simpa [Addr.add] using this
      subst hsp
      refine .inr ⟨g, off, rfl, fun j hj => ⟨B j, ?_⟩⟩
      have := hc j (by omega)
      rwa [Lib.add_plain] at this
end
end Go.Proofs.YtcgeiimihihhpaaDoor.W18
