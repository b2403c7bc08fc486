/-
  Walks of layer 20: find. Conditions: the path is shorter than the library's counts; the library's error values and its variable MaxLen.
-/
import Derived.Test.YtfkmgnldkmpeiaaGreatDoorGaq
import Derived.Test.YtfkmgnldkmpeiaaGreatDoorGag
import Derived.Laws.EntriesVeiled
import Derived.Deep.RegionHeld3
import Derived.Deep.CutRange
import Derived.RegionTactic

namespace Go.Proofs.YtfkmgnldkmpeiaaGreatDoor.W20
open Go Go.RowKit P12 P18 P20 W12

/-! ## Lengths -/
def tot : List By → Nat
  | [] => 0
  | p :: l => p.length + 1 + tot l
theorem tot_parts (c : UInt8) : ∀ s : By, tot (partsL c s) = s.length + 1
  | [] => rfl
  | d :: l => by
    have ih := tot_parts c l
    unfold partsL
    split
    · simp only [tot, List.length_nil, List.length_cons, ih]
      omega
    · have hne := partsL_ne c l
      split
      · rename_i h; exact absurd h hne
      · rename_i p ps h
        rw [h] at ih
        simp only [tot, List.length_cons] at ih ⊢
        omega
theorem unescL_le : ∀ (n : Nat) (s u : By), s.length ≤ n → unescL s = some u → u.length ≤ s.length
  | n, [], u, _, h => by rw [unesc_nil] at h; injection h with h; subst h; exact Nat.le_refl _
  | 0, c :: l, u, hn, _ => by simp at hn
  | n + 1, c :: l, u, hn, h => by
    rw [unescL.eq_def] at h
    simp only at h
    split at h
    · obtain ⟨v, hv, rfl⟩ := Option.map_eq_some_iff.1 h
      have := unescL_le n l v (by simpa using hn) hv
      simpa using this
    · split at h
      · split at h
        · rename_i a b l'
          split at h
          · obtain ⟨v, hv, rfl⟩ := Option.map_eq_some_iff.1 h
            have := unescL_le n l' v (by simp at hn; omega) hv
            simp only [List.length_cons]
            omega
          · cases h
        · cases h
      · cases h
theorem tot_unesc : ∀ {l r : List By}, unescAll l = some r → tot r ≤ tot l
  | [], r, h => by simp only [unescAll, Option.some.injEq] at h; subst h; exact Nat.le_refl _
  | p :: l, r, h => by
    unfold unescAll at h
    split at h
    · rename_i u r' h1 h2
      simp only [Option.some.injEq] at h
      subst h
      have := tot_unesc h2
      have := unescL_le _ _ _ (Nat.le_refl _) h1
      simp only [tot]
      omega
    · cases h
theorem join_le (c : By) (hc : c.length = 1) : ∀ l : List By, (Lib.join l c).length ≤ tot l
  | [] => by simp [Lib.join_nil, tot]
  | p :: l => by
    rw [Lib.join_cons, List.length_append]
    have : (Lib.joinTail c l).length = tot l := by
      unfold Lib.joinTail
      induction l with
      | nil => rfl
      | cons q l ih => simp only [List.map_cons, List.flatten_cons, List.length_append, ih, tot, hc]; omega
    simp only [tot]
    omega
theorem len_tot : ∀ l : List By, l.length ≤ tot l
  | [] => Nat.le_refl _
  | p :: l => by have := len_tot l; simp only [tot, List.length_cons]; omega
theorem unescAll_snoc : ∀ {l r : List By} {p u : By}, unescAll l = some r → unescL p = some u → unescAll (l ++ [p]) = some (r ++ [u])
  | [], r, p, u, h, hp => by
    simp only [unescAll, Option.some.injEq] at h
    subst h
    simp [unescAll, hp]
  | q :: l, r, p, u, h, hp => by
    unfold unescAll at h
    split at h
    · rename_i v r' h1 h2
      simp only [Option.some.injEq] at h
      subst h
      rw [List.cons_append, unescAll, h1, unescAll_snoc h2 hp]
      rfl
    · cases h
theorem cutp (s : ByteArray) : ∃ (R : ByteArray) (is : Bool), (⟨(Lib.trimPrefix s.data.toList (⟨#[47]⟩ : ByteArray).data.toList).toArray⟩ : ByteArray) = R ∧ Lib.hasPrefix s.data.toList (⟨#[47]⟩ : ByteArray).data.toList = is ∧ (is = true → partsU s.data.toList = unescAll (partsL 47 R.data.toList)) ∧ (is = false → partsU s.data.toList = none) ∧ R.size ≤ s.size := by
  refine ⟨_, _, rfl, rfl, ?_, ?_, ?_⟩
  · intro h
    cases hl : s.data.toList with
    | nil => rw [hl] at h; cases h
    | cons c r =>
      rw [hl] at h
      have hc : c = 47 := by
        have : (47 == c) = true := by simpa [Lib.hasPrefix, List.isPrefixOf] using h
        exact (beq_iff_eq.1 this).symm
      subst hc
      unfold Lib.trimPrefix
      rw [if_pos h]
      simp [partsU]
  · intro h
    cases hl : s.data.toList with
    | nil => rfl
    | cons c r =>
      rw [hl] at h
      have hc : c ≠ 47 := by
        rintro rfl
        simp [Lib.hasPrefix, List.isPrefixOf] at h
      simp [partsU, hc]
  · rw [size_mk, ← size_data s]
    unfold Lib.trimPrefix
    split
    · rw [List.length_drop]; omega
    · exact Nat.le_refl _
def FindPost (s : By) (w : World) (e : Ending) (w' : World) : Prop :=
  ∃ (c : Cl) (m : ByteArray) (ok : Bool), e = .returned (.tuple #[.agg (clC c (.slice none 0 0)), .string m, .bool ok]) ∧ (ok = true → ∃ post, findC s = some (c, post) ∧ m.data.toList = methodOf post) ∧ (ok = false → findC s = none) ∧ Below w.heap.size w w'
theorem find_no {s : By} (h : partsU s = none) : findC s = none := by unfold findC; rw [h]; rfl
theorem find_bad {s : By} {l : List By} (h : partsU s = unescAll l) (k : Nat) (p : By) (hk : l[k]? = some p) (hp : unescL p = none) : findC s = none := by
  unfold findC
  rw [h, unescAll_none k p hk hp]
  rfl
theorem fail_post {s : By} {w w' : World} (h : findC s = none) (hb : Below w.heap.size w w') : FindPost s w (.returned (.tuple #[.agg zeroCl, .string ⟨#[]⟩, .bool false])) w' :=
  ⟨zeroC, ⟨#[]⟩, false, rfl, fun h => (by cases h), fun _ => h, hb⟩
theorem set_part {us : List By} {k : Nat} {p u : By} {L : List By} (hk : us.length = k) (hd : L.drop k = p :: L.drop (k + 1)) : (((us ++ L.drop k).map bs).toArray.setIfInBounds k (bs u)) = (((us ++ [u]) ++ L.drop (k + 1)).map bs).toArray := by
  rw [hd, List.setIfInBounds_toArray]
  congr 1
  rw [List.map_append, List.set_append_right _ _ (by simp; omega)]
  simp [hk]
theorem zero_cells {N : Nat} {w : World} (h : StAt tCl N zeroCl w) : w.cell? ⟨N, 0, none⟩ = some (.int .i64 0) ∧ w.cell? ⟨N, 1, none⟩ = some (.string ⟨#[]⟩) ∧ w.cell? ⟨N, 2, none⟩ = some (.string ⟨#[]⟩) ∧ w.cell? ⟨N, 3, none⟩ = some (.string ⟨#[]⟩) ∧ w.cell? ⟨N, 4, none⟩ = some (.int .i64 0) ∧ w.cell? ⟨N, 5, none⟩ = some (.slice none 0 0) ∧ w.cell? ⟨N, 6, none⟩ = some (.string ⟨#[]⟩) ∧ w.cell? ⟨N, 7, none⟩ = some (.int .i64 0) ∧ w.cell? ⟨N, 8, none⟩ = some (.int .i64 0) ∧ w.cell? ⟨N, 9, none⟩ = some (.string ⟨#[]⟩) ∧ w.cell? ⟨N, 10, none⟩ = some (.string ⟨#[]⟩) ∧ ∀ o, w.frozen? ⟨N, o, none⟩ = false :=
  ⟨Lib.cell_of_heap h 0, Lib.cell_of_heap h 1, Lib.cell_of_heap h 2, Lib.cell_of_heap h 3, Lib.cell_of_heap h 4, Lib.cell_of_heap h 5, Lib.cell_of_heap h 6, Lib.cell_of_heap h 7, Lib.cell_of_heap h 8, Lib.cell_of_heap h 9, Lib.cell_of_heap h 10, fun o => Lib.frozen_of_heap h o⟩
/-- Behind the look-up of a first part that there is. -/
def Mid (a : By) (wr wx : World) (p c : Value) : Prop :=
  ∃ (P : Nat) (m : ByteArray) (q : Nat) (lb : Array Value) (post : Bool), p = .pointer (some ⟨P, 0, none⟩) ∧ c = .bool true ∧ StAt tPa P #[.string m, .func (.func q) #[] lb] wx ∧ wr.heap.size ≤ P ∧ Goes m q lb a post 0 wx ∧ Below wr.heap.size wr wx
theorem mid_new {a : By} {wr w3 : World} {m : ByteArray} {q : Nat} {lb : Array Value} {post : Bool} {N : Nat} (hGo : Goes m q lb a post N w3) (hb : Below wr.heap.size wr w3) :
    Mid a wr (w3.alloc (.cells #[.string m, .func (.func q) #[] lb] tPa)) (.pointer (some ⟨w3.heap.size, 0, none⟩)) (.bool true) := by
  have hal := below_alloc w3 (.cells #[.string m, .func (.func q) #[] lb] tPa)
  exact ⟨_, m, q, lb, post, rfl, rfl, new_at w3 _ _, hb.size, hGo.then hal.size (fun k _ h => hal.block k h), below_then hb hal⟩
theorem mid_old {a : By} {wr W3 w3 : World} {m : ByteArray} {q : Nat} {lb : Array Value} {post : Bool} (hW : W3.heap.size = wr.heap.size + 1) (hGo : Goes m q lb a post W3.heap.size w3) (hb : Below wr.heap.size wr w3) (hn : StAt tPa wr.heap.size zPa w3) :
    Mid a wr ((w3.setCell ⟨wr.heap.size, 0, none⟩ (.string m)).setCell ⟨wr.heap.size, 1, none⟩ (.func (.func q) #[] lb)) (.pointer (some ⟨wr.heap.size, 0, none⟩)) (.bool true) := by
  have h1 := heap_setCell_same w3 wr.heap.size 0 _ _ (.string m) hn
  have h2 := heap_setCell_same _ wr.heap.size 1 _ _ (.func (.func q) #[] lb) h1
  have hs1 : (w3.setCell ⟨wr.heap.size, 0, none⟩ (.string m)).heap.size = w3.heap.size := by simp [World.setCell]
  have hs2 : ((w3.setCell ⟨wr.heap.size, 0, none⟩ (.string m)).setCell ⟨wr.heap.size, 1, none⟩ (.func (.func q) #[] lb)).heap.size = w3.heap.size := by simp [World.setCell]
  refine ⟨_, m, q, lb, post, rfl, rfl, h2, Nat.le_refl _, hGo.then (by rw [hs2]; exact Nat.le_refl _) (fun k h _ => ?_), (hb.setCell (by simp) _).setCell (by simp) _⟩
  rw [heap_setCell_other _ ⟨wr.heap.size, 1, none⟩ k _ (by show k ≠ wr.heap.size; omega), heap_setCell_other _ ⟨wr.heap.size, 0, none⟩ k _ (by show k ≠ wr.heap.size; omega)]
theorem cl_cells {N : Nat} {C : Cl} {fv : Value} {w : World} (h : StAt tCl N (clC C fv) w) : w.cell? ⟨N, 0, none⟩ = some (.int .i64 C.kind) ∧ w.cell? ⟨N, 1, none⟩ = some (bs C.cstream) ∧ w.cell? ⟨N, 2, none⟩ = some (bs C.cname) ∧ w.cell? ⟨N, 3, none⟩ = some (bs C.ckey) ∧ w.cell? ⟨N, 4, none⟩ = some (.int .i64 C.cexp) ∧ w.cell? ⟨N, 5, none⟩ = some (fv) ∧ w.cell? ⟨N, 6, none⟩ = some (bs C.stream) ∧ w.cell? ⟨N, 7, none⟩ = some (.int .i64 C.frm) ∧ w.cell? ⟨N, 8, none⟩ = some (.int .i64 C.most) ∧ w.cell? ⟨N, 9, none⟩ = some (bs C.view) ∧ w.cell? ⟨N, 10, none⟩ = some (bs C.key) :=
  ⟨Lib.cell_of_heap h 0, Lib.cell_of_heap h 1, Lib.cell_of_heap h 2, Lib.cell_of_heap h 3, Lib.cell_of_heap h 4, Lib.cell_of_heap h 5, Lib.cell_of_heap h 6, Lib.cell_of_heap h 7, Lib.cell_of_heap h 8, Lib.cell_of_heap h 9, Lib.cell_of_heap h 10⟩
/-- A call stored cell by cell. -/
abbrev nestCl (C : Cl) (N : Nat) (w5 : World) : World := (((((((((((w5.setCell ⟨N, 0, none⟩ (.int .i64 C.kind)).setCell ⟨N, 1, none⟩ (bs C.cstream)).setCell ⟨N, 2, none⟩ (bs C.cname)).setCell ⟨N, 3, none⟩ (bs C.ckey)).setCell ⟨N, 4, none⟩ (.int .i64 C.cexp)).setCell ⟨N, 5, none⟩ (.slice none 0 0)).setCell ⟨N, 6, none⟩ (bs C.stream)).setCell ⟨N, 7, none⟩ (.int .i64 C.frm)).setCell ⟨N, 8, none⟩ (.int .i64 C.most)).setCell ⟨N, 9, none⟩ (bs C.view)).setCell ⟨N, 10, none⟩ (bs C.key))
theorem set_cl {N : Nat} {C : Cl} {w5 : World} (h0 : StAt tCl N zeroCl w5) : StAt tCl N (clC C (.slice none 0 0)) (nestCl C N w5) := by
  have h1 := heap_setCell_same _ N 0 _ _ (.int .i64 C.kind) h0
  have h2 := heap_setCell_same _ N 1 _ _ (bs C.cstream) h1
  have h3 := heap_setCell_same _ N 2 _ _ (bs C.cname) h2
  have h4 := heap_setCell_same _ N 3 _ _ (bs C.ckey) h3
  have h5 := heap_setCell_same _ N 4 _ _ (.int .i64 C.cexp) h4
  have h6 := heap_setCell_same _ N 5 _ _ (.slice none 0 0) h5
  have h7 := heap_setCell_same _ N 6 _ _ (bs C.stream) h6
  have h8 := heap_setCell_same _ N 7 _ _ (.int .i64 C.frm) h7
  have h9 := heap_setCell_same _ N 8 _ _ (.int .i64 C.most) h8
  have h10 := heap_setCell_same _ N 9 _ _ (bs C.view) h9
  have h11 := heap_setCell_same _ N 10 _ _ (bs C.key) h10
  simpa using h11
theorem below_cl {B N : Nat} {C : Cl} {w0 w5 : World} (hb : Below B w0 w5) (hN : B ≤ N) : Below B w0 (nestCl C N w5) :=
  (((((((((((hb.setCell (p := ⟨N, 0, none⟩) hN _).setCell (p := ⟨N, 1, none⟩) hN _).setCell (p := ⟨N, 2, none⟩) hN _).setCell (p := ⟨N, 3, none⟩) hN _).setCell (p := ⟨N, 4, none⟩) hN _).setCell (p := ⟨N, 5, none⟩) hN _).setCell (p := ⟨N, 6, none⟩) hN _).setCell (p := ⟨N, 7, none⟩) hN _).setCell (p := ⟨N, 8, none⟩) hN _).setCell (p := ⟨N, 9, none⟩) hN _).setCell (p := ⟨N, 10, none⟩) hN _)
/-- Behind the closure's call. -/
def Mid2 (a : By) (l : List By) (post : Bool) (wc wx : World) (p c : Value) : Prop :=
  ∃ (P : Nat) (C : Cl) (ok : Bool), p = .pointer (some ⟨P, 0, none⟩) ∧ c = .bool ok ∧ StAt tCl P (clC C (.slice none 0 0)) wx ∧ Hid ((ok = true → callL (a :: l) = some (C, post)) ∧ (ok = false → callL (a :: l) = none)) ∧ Below wc.heap.size wc wx
theorem mid2_new {a : By} {l : List By} {post ok : Bool} {wc w5 : World} {C : Cl} (hb : Below wc.heap.size wc w5) (h : Hid ((ok = true → callL (a :: l) = some (C, post)) ∧ (ok = false → callL (a :: l) = none))) :
    Mid2 a l post wc (w5.alloc (.cells (clC C (.slice none 0 0)) tCl)) (.pointer (some ⟨w5.heap.size, 0, none⟩)) (.bool ok) :=
  ⟨_, C, ok, rfl, rfl, new_at w5 _ _, h, below_then hb (below_alloc w5 _)⟩
theorem mid2_old {a : By} {l : List By} {post ok : Bool} {wc w5 : World} {C : Cl} (hb : Below wc.heap.size wc w5) (h : Hid ((ok = true → callL (a :: l) = some (C, post)) ∧ (ok = false → callL (a :: l) = none))) (h0 : StAt tCl wc.heap.size zeroCl w5) :
    Mid2 a l post wc (nestCl C wc.heap.size w5) (.pointer (some ⟨wc.heap.size, 0, none⟩)) (.bool ok) :=
  ⟨_, C, ok, rfl, rfl, set_cl h0, h, below_cl hb (Nat.le_refl _)⟩
theorem at_drew {t : TypeId} {N : Nat} {c : Array Value} {w : World} (h : StAt t N c w) : StAt t N c w.drew := h
theorem drew_cl {N : Nat} {C : Cl} {w5 : World} (h0 : StAt tCl N zeroCl w5) : StAt tCl N (clC C (.slice none 0 0)) (nestCl C N w5).drew := at_drew (set_cl h0)
theorem done_post {s : By} {a : By} {l : List By} {w w8 : World} {C : Cl} {m : ByteArray} {ok post : Bool} (hb : Below w.heap.size w w8) (hF : findC s = callL (a :: l)) (hm : m.data.toList = methodOf post) (h : (ok = true → callL (a :: l) = some (C, post)) ∧ (ok = false → callL (a :: l) = none)) :
    FindPost s w (.returned (.tuple #[.agg (clC C (.slice none 0 0)), .string m, .bool ok])) (nestCl C w.heap.size w8).drew :=
  ⟨C, m, ok, rfl, fun e => ⟨post, by rw [hF]; exact h.1 e, hm⟩, fun e => by rw [hF]; exact h.2 e, (below_cl hb (Nat.le_refl _)).drew⟩
/-- Behind the look-up of a first part that there is not. -/
def Mis (wr wx : World) (c : Value) : Prop := c = .bool false ∧ Below wr.heap.size wr wx
theorem mis_of {wr wx : World} (h : Below wr.heap.size wr wx) : Mis wr wx (.bool false) := ⟨rfl, h⟩
set_option maxHeartbeats 6400000 in
set_option maxRecDepth 100000 in
theorem find_any (s : ByteArray) (hs : s.size < 4294967281) (w : World) (hE : Env w) (hM : MaxL w) : Calls Tryz.prog 29 #[.string s] w (FindPost s.data.toList w) := by
  obtain ⟨R, is, hR, hi, hyes, hno, hRs⟩ := cutp s
  have hcut := fun W => Tryz.strings_CutPrefix s ⟨#[47]⟩ W
  rw [hR, hi] at hcut
  obtain ⟨L, hL⟩ : ∃ L, L = partsL 47 R.data.toList := ⟨_, rfl⟩
  obtain ⟨n, hn⟩ : ∃ n, n = L.length := ⟨_, rfl⟩
  have htot : tot L = R.size + 1 := by rw [hL, tot_parts, size_data]
  have hn1 : 1 ≤ n := by
    rw [hn, hL]
    exact List.length_pos_iff.2 (partsL_ne 47 _)
  have hn2 : n ≤ 4294967281 := by have := len_tot L; omega
  rw [← hL] at hyes
  have hb1 := below_alloc w (.cells zeroCl tCl)
  have hx1 := new_at w zeroCl tCl
  obtain ⟨G, hG⟩ : ∃ G, G = w.heap.size + 1 := ⟨_, rfl⟩
  have hsz : (w.alloc (.cells zeroCl tCl)).heap.size = G := by rw [hG]; simp
  obtain ⟨mx, hmx⟩ := hM.keep hb1
  have hsp := Split_any R 47 mx (w.alloc (.cells zeroCl tCl)) (by omega) hmx
  rw [← hL, ← hn, hsz] at hsp
  have hb2 := below_then hb1 (below_alloc (w.alloc (.cells zeroCl tCl)) (.cells (L.map bs).toArray 9))
  have hx2 := keep_at hx1 (below_alloc (w.alloc (.cells zeroCl tCl)) (.cells (L.map bs).toArray 9))
  have hg2 := new_at (w.alloc (.cells zeroCl tCl)) (L.map bs).toArray 9
  rw [hsz] at hg2
  have HC := Lib.hid hcut
  have HS := Lib.hid hsp
  have HY := Lib.hid hyes
  have HNo := Lib.hid hno
  have HN := Lib.hid hn
  have HG := Lib.hid hG
  have hGw : w.heap.size < G := by omega
  have HT := Lib.hid htot
  clear hR hi hcut hsp hyes hno hn hL hG hsz hb1 hx1 hmx htot hM
  go_enter Tryz.func29, Tryz.ntmps29
  go_wp2_with (first
    | (go_at_call 61; refine (HC.out _).mono ?_; rintro e w1 ⟨rfl, rfl⟩)
    | (go_at_call 62; refine HS.out.mono ?_; rintro e w2 ⟨rfl, rfl⟩))
  generalize ((w.alloc (.cells zeroCl tCl)).alloc (.cells (L.map bs).toArray 9)) = w2 at *
  go_loopw [25] (fun i wr => ∃ (k : Nat) (us : List By), k ≤ n ∧ i = .int .i64 k ∧ Hid (unescAll (L.take k) = some us) ∧ StAt tCl w.heap.size zeroCl wr ∧ StAt 9 G ((us ++ L.drop k).map bs).toArray wr ∧ Below w.heap.size w wr ∧ (is = true ∨ k = 0)) (fun i _ => n - (intOf i).toNat)
  case atStart => exact ⟨0, [], by omega, rfl, Lib.hid rfl, hx2, hg2, hb2, .inr rfl⟩
  case round =>
    clear hx2 hg2 hb2
    obtain ⟨k, us, hk, rfl, HU, hx, hg, hb, hik⟩ := hrel
    have hul : us.length = k := by rw [unescAll_len HU.out, List.length_take, ← HN.out, Nat.min_eq_left hk]
    by_cases hlt : k < n
    · obtain ⟨p, hp⟩ : ∃ p, L[k]? = some p := ⟨_, List.getElem?_eq_getElem (by rw [← HN.out]; exact hlt)⟩
      have hdr : L.drop k = p :: L.drop (k + 1) := by
        rw [List.drop_eq_getElem_cons (by rw [← HN.out]; exact hlt)]
        congr 1
        rw [List.getElem?_eq_getElem (by rw [← HN.out]; exact hlt)] at hp
        exact Option.some.inj hp
      have hcell : wr.cell? ⟨G, k, none⟩ = some (bs p) := by
        rw [Lib.cell_of_heap hg k, List.getElem?_toArray, List.getElem?_map, List.getElem?_append_right (by omega), hul, Nat.sub_self, hdr]
        rfl
      have hpl : p.length ≤ 4294967281 := by
        have : ∀ (l : List By) (j : Nat) (q : By), l[j]? = some q → q.length ≤ tot l := by
          intro l
          induction l with
          | nil => intro j q h; simp at h
          | cons x l ih =>
            intro j q h
            match j with
            | 0 => simp at h; subst h; simp only [tot]; omega
            | j + 1 => have := ih j q (by simpa using h); simp only [tot]; omega
        have := this L k p hp
        have := HT.out
        omega
      have hun := Unescape_any ⟨p.toArray⟩ wr (hE.keep hb) (by rw [size_mk]; omega)
      have hk1 : (k : Int) < (n : Int) := by omega
      have hun2 : Calls Tryz.prog 63 #[bs p] wr fun e w' => e = .returned (unescEnd (unescL p)) ∧ Below wr.heap.size wr w' := hun
      clear hun
      have HDR := Lib.hid hdr
      have HP := Lib.hid hp
      have HUL := Lib.hid hul
      cases hu : unescL p with
      | none =>
        rw [hu] at hun2
        have hfn : findC s.data.toList = none := by
          cases hi : is with
          | true => exact find_bad (HY.out hi) k p hp hu
          | false => exact find_no (HNo.out hi)
        have HF := Lib.hid hfn
        have HUN := Lib.hid hun2
        clear hun2 hu hfn hp hdr hul
        unfold unescEnd at HUN
        go_wp2_with (first
          | (go_at_call 63; refine HUN.out.mono ?_; rintro e w3 ⟨rfl, hb3⟩; have hx3 := keep_at hx hb3; have hbb3 := below_then hb hb3; have hg3 := keep_at hg hb3)
          | (refine put_st rfl _ _ _ rfl w.heap.size zeroCl rfl rfl hx3 infoCl rfl (by simp [Value.oneCell']) ?_; intro w4 h1 h2 h3))
        exact bodyPost_ret (v := .tuple #[.agg zeroCl, .string ⟨#[]⟩, .bool false]) (ret_st3 Tryz.results29 _ _ _ _ rfl (load_cl h1 rfl)) rfl (fail_post HF.out (hbb3.trans h2))
      | some u =>
        rw [hu] at hun2
        have HUN := Lib.hid hun2
        unfold unescEnd at HUN
        have HUU := Lib.hid hu
        clear hun2 hu hp hdr hul
        cases is with
        | false =>
          have HF := Lib.hid (find_no (HNo.out rfl))
          go_wp2_with (first
            | (go_at_call 63; refine HUN.out.mono ?_; rintro e w3 ⟨rfl, hb3⟩; have hx3 := keep_at hx hb3; have hbb3 := below_then hb hb3; have hg3 := keep_at hg hb3)
            | (refine put_st rfl _ _ _ rfl w.heap.size zeroCl rfl rfl hx3 infoCl rfl (by simp [Value.oneCell']) ?_; intro w4 h1 h2 h3))
          exact bodyPost_ret (v := .tuple #[.agg zeroCl, .string ⟨#[]⟩, .bool false]) (ret_st3 Tryz.results29 _ _ _ _ rfl (load_cl h1 rfl)) rfl (fail_post HF.out (hbb3.trans h2))
        | true =>
          obtain ⟨U, hUd⟩ : ∃ U : ByteArray, bs u = .string U := ⟨_, rfl⟩
          have HUD := Lib.hid hUd
          simp only [hUd] at HUN
          clear hUd
          go_wp2_with (first
            | (go_at_call 63; refine HUN.out.mono ?_; rintro e w3 ⟨rfl, hb3⟩; have hx3 := keep_at hx hb3; have hbb3 := below_then hb hb3; have hg3 := keep_at hg hb3; have hcell3 := keep_cell hb3 hcell; have hfz3 := Lib.frozen_of_heap hg3 k))
          have hsame := heap_setCell_same w3 G k _ _ (.string U) hg3
          have hoth := heap_setCell_other w3 ⟨G, k, none⟩ w.heap.size (.string U) (by show w.heap.size ≠ G; omega)
          rw [← HUD.out, set_part HUL.out HDR.out] at hsame
          rw [← HUD.out] at hoth
          have HA := Lib.hid hsame
          have HO := Lib.hid hoth
          clear hsame hoth
          go_roundw
          case rel =>
            refine ⟨k + 1, us ++ [u], by omega, by go_num, Lib.hid ?_, ?_, ?_, hbb3.setCell (by show w.heap.size ≤ G; omega) _, .inl trivial⟩
            · rw [List.take_succ_eq_append_getElem (by rw [← HN.out]; exact hlt)]
              have := List.getElem?_eq_getElem (l := L) (i := k) (by rw [← HN.out]; exact hlt)
              rw [HP.out] at this
              rw [← Option.some.inj this]
              exact unescAll_snoc HU.out HUU.out
            · rw [← HUD.out]; exact HO.out.trans hx3
            · rw [← HUD.out]; exact HA.out
          case measure => simp [intOf]; omega
    · obtain rfl : k = n := by omega
      have hi : is = true := hik.resolve_right (by omega)
      have hU : unescAll L = some us := by have := HU.out; rwa [List.take_of_length_le (by rw [← HN.out]; exact Nat.le_refl _)] at this
      have hfind : findC s.data.toList = callL us := by unfold findC; rw [HY.out hi, hU]; rfl
      have hdn : L.drop k = [] := List.drop_eq_nil_of_le (by rw [← HN.out]; exact Nat.le_refl _)
      rw [hdn, List.append_nil] at hg
      have htu : tot us ≤ 4294967282 := by have := tot_unesc hU; have := HT.out; omega
      have HFI := Lib.hid hfind
      have HUL := Lib.hid hul
      subst hi
      obtain ⟨a, l, rfl⟩ : ∃ a l, us = a :: l := by
        match us, hul with
        | [], h => simp at h; omega
        | a :: l, _ => exact ⟨a, l, rfl⟩
      have hcell : wr.cell? ⟨G, 0, none⟩ = some (bs a) := by rw [Lib.cell_of_heap hg 0]; rfl
      obtain ⟨A, hA⟩ : ∃ A : ByteArray, (⟨a.toArray⟩ : ByteArray) = A := ⟨_, rfl⟩
      unfold bs at hcell
      rw [hA] at hcell
      have HA := Lib.hid hA
      have HGR := Lib.hid hg
      have HXX := Lib.hid hx
      have hgl := at_lt hg
      have hcd : wr.drew.cell? ⟨G, 0, none⟩ = some (.string A) := hcell
      clear hU hfind hdn HU HY HNo HC HT HS hul hik hA hg hx hk hlt
      by_cases hkey : IsKey a
      · have HK := Lib.hid hkey
        clear hkey
        go_upto_region 11 with (fail)
        go_cut [12, 13] from 47 (fun p c wx => Mid a wr wx p c)
        case first =>
          have HPH := Lib.hid (fun W => paths_hit HA.out HK.out W)
          have hcda : (wr.drew.alloc (.cells zPa tPa)).cell? ⟨G, 0, none⟩ = some (.string A) := keep_cell (below_alloc _ _) hcd
          have hn0 : StAt tPa wr.heap.size zPa (wr.drew.alloc (.cells zPa tPa)) := new_at wr.drew zPa tPa
          go_region_with ((go_at_call 64; refine (HPH.out _).mono ?_; rintro e w3 ⟨B, m, q, lb, post, rfl, hLk, hGo, hb3⟩; obtain ⟨hl1, hl2⟩ := id hLk; have hcell3 := keep_cell hb3 (by assumption : _ = some (Value.string A)); have hcell3a : (w3.alloc (.cells zPa tPa)).cell? ⟨G, 0, none⟩ = some (.string A) := keep_cell (below_alloc _ _) hcell3; (first | (have hn3 := keep_at hn0 hb3; have hs0 : w3.cell? ⟨wr.heap.size, 0, none⟩ = some (.string ⟨#[]⟩) := Lib.cell_of_heap hn3 0; have hs1 : w3.cell? ⟨wr.heap.size, 1, none⟩ = some .nilFunc := Lib.cell_of_heap hn3 1; have hz0 := Lib.frozen_of_heap hn3 0; have hz1 := Lib.frozen_of_heap hn3 1) | skip)))
          all_goals
            go_wp2_with fail
            go_meet
            case rel => first
              | exact mid_new hGo (below_then (below_drewN wr 1) hb3)
              | exact mid_old (by simp) hGo (below_then (below_drewN wr 1) (below_then (below_alloc wr.drew _) hb3)) hn3
        case rest =>
          obtain ⟨P, m, q, lb, post, rfl, rfl, hP, hle, hGo, hbw⟩ := hcut
          obtain ⟨wA, rfl⟩ : ∃ wA : World, wA = wc := ⟨_, rfl⟩
          have hx4 := keep_at HXX.out hbw
          have hg4 := keep_at HGR.out hbw
          have hbw2 := hb.trans (hbw.mono hb.size)
          have hPl := at_lt hP
          have hp1 : wA.cell? ⟨P, 1, none⟩ = some (.func (.func q) #[] lb) := Lib.cell_of_heap hP 1
          obtain ⟨hm, heg, hld⟩ := hGo
          have HM := Lib.hid hm
          have HEG := Lib.hid heg
          have HLD := Lib.hid hld
          have HX4 := Lib.hid hx4
          have HG4 := Lib.hid hg4
          have HPP := Lib.hid hP
          clear hm heg hld hx4 hg4 hP hcell hcd
          go_upto_region 14 with (fail)
          go_cut [14, 15] from 57 (fun p c wx => Mid2 a l post wA wx p c)
          case first =>
            have eg := HEG.out
            have hp1d : wA.drew.cell? ⟨P, 1, none⟩ = some (.func (.func q) #[] lb) := hp1
            have hp1a : (wA.drew.alloc (.cells zeroCl tCl)).cell? ⟨P, 1, none⟩ = some (.func (.func q) #[] lb) := keep_cell (below_alloc _ _) hp1d
            have hn0 : StAt tCl wA.heap.size zeroCl (wA.drew.alloc (.cells zeroCl tCl)) := new_at wA.drew zeroCl tCl
            have hGc : G < wA.heap.size := by have := hbw.size; omega
            by_cases hk1 : k = 1
            · subst hk1
              have hl0 : l = [] := by
                have := HUL.out
                simpa using this
              subst hl0
              have HCON := Lib.hid (fun W' (hW : Below wA.heap.size wA W') => HLD.out W' [] G 0 0 (fun k _ h => hW.block k h) ⟨Nat.le_refl _, by have := hW.size; omega, fun j p h => by simp at h⟩ (by simp) (by simp [Lib.join_nil]))
              simp only [List.length_nil] at HCON
              go_region_with ((go_at_fn q; refine (HCON.out _ (by first | exact below_drewN wA 1 | exact below_then (below_drewN wA 1) (below_alloc _ _))).mono ?_; rintro e w5 ⟨c, ok, rfl, ht, hf, hb5⟩; have HT2 := Lib.hid (And.intro ht hf); clear ht hf; (first | (have hn5 := keep_at hn0 hb5; obtain ⟨hs0, hs1, hs2, hs3, hs4, hs5, hs6, hs7, hs8, hs9, hs10, hz5⟩ := zero_cells hn5) | skip)))
              all_goals
                go_wp2_with fail
                go_meet
                case rel =>
                  have hbb : Below wA.heap.size wA w5 := by first
                    | exact below_then (below_drewN wA 1) (below_then (below_alloc wA.drew _) hb5)
                    | exact below_then (below_drewN wA 1) hb5
                  with_reducible first
                    | exact mid2_new hbb HT2
                    | exact mid2_old hbb HT2 hn5
            · obtain ⟨j, rfl⟩ : ∃ j, k = j + 2 := ⟨k - 2, by omega⟩
              have hlj : l.length = j + 1 := by
                have := HUL.out
                simp only [List.length_cons] at this
                omega
              have HCON := Lib.hid (fun W' (hW : Below wA.heap.size wA W') => HLD.out W' l G 1 (j + 1) (fun k _ h => hW.block k h) ⟨by omega, by have := hW.size; omega, fun i p h => keep_cell hW (by
                rw [Lib.cell_of_heap HG4.out (1 + i), List.getElem?_toArray, List.getElem?_map, Nat.add_comm 1 i, List.getElem?_cons_succ, h]
                rfl)⟩ (by omega) (by have := join_le [47] rfl l; simp only [tot] at htu; omega))
              rw [hlj] at HCON
              have z1 : (1 : Int) ≤ ((j + 2 : Nat) : Int) := by omega
              clear hlj hk1
              go_region_with ((go_at_fn q; refine (HCON.out _ (by first | exact below_drewN wA 1 | exact below_then (below_drewN wA 1) (below_alloc _ _))).mono ?_; rintro e w5 ⟨c, ok, rfl, ht, hf, hb5⟩; have HT2 := Lib.hid (And.intro ht hf); clear ht hf; (first | (have hn5 := keep_at hn0 hb5; obtain ⟨hs0, hs1, hs2, hs3, hs4, hs5, hs6, hs7, hs8, hs9, hs10, hz5⟩ := zero_cells hn5) | skip)))
              all_goals
                go_wp2_with fail
                go_meet
                case rel =>
                  have hbb : Below wA.heap.size wA w5 := by first
                    | exact below_then (below_drewN wA 1) (below_then (below_alloc wA.drew _) hb5)
                    | exact below_then (below_drewN wA 1) hb5
                  with_reducible first
                    | exact mid2_new hbb HT2
                    | exact mid2_old hbb HT2 hn5
          case rest =>
            obtain ⟨P2, C, ok, rfl, rfl, hC, HOK, hbc⟩ := hcut
            have hx6 := keep_at HX4.out hbc
            have hp6 := keep_at HPP.out hbc
            have hmc : wc.cell? ⟨P, 0, none⟩ = some (.string m) := Lib.cell_of_heap hp6 0
            obtain ⟨k0, k1, k2, k3, k4, k5, k6, k7, k8, k9, k10⟩ := cl_cells hC
            have hbw3 := hbw2.trans (hbc.mono hbw2.size)
            obtain ⟨hs0, hs1, hs2, hs3, hs4, hs5, hs6, hs7, hs8, hs9, hs10, hz5⟩ := zero_cells hx6
            have hne1 : P ≠ w.heap.size := by omega
            have hne2 : w.heap.size ≠ P := by omega
            have HX7 := Lib.hid (drew_cl (C := C) hx6)
            have HP7 := Lib.hid (done_post hbw3 HFI.out HM.out HOK.out)
            clear hp1 hbc hx6 hp6 hC
            go_upto_region 15 with (fail)
            go_region
            go_wp2_with fail
            have hld := load_cl HX7.out rfl
            have hpo := HP7.out
            generalize (nestCl C w.heap.size wc).drew = w9 at hld hpo ⊢
            exact bodyPost_ret (v := .tuple #[.agg (clC C (.slice none 0 0)), .string m, .bool ok]) (ret_st3 Tryz.results29 _ _ _ _ rfl hld) rfl hpo
      · have HK := Lib.hid hkey
        clear hkey
        go_upto_region 11 with (fail)
        go_cut [12, 13] from 47 (fun _ c wx => Mis wr wx c)
        case first =>
          have HPH := Lib.hid (fun W => paths_miss HA.out HK.out W)
          have hcda : (wr.drew.alloc (.cells zPa tPa)).cell? ⟨G, 0, none⟩ = some (.string A) := keep_cell (below_alloc _ _) hcd
          have hn0 : StAt tPa wr.heap.size zPa (wr.drew.alloc (.cells zPa tPa)) := new_at wr.drew zPa tPa
          go_region_with ((go_at_call 64; refine (HPH.out _).mono ?_; rintro e w3 ⟨B, rfl, hLk, hb3⟩; obtain ⟨hl1, hl2⟩ := id hLk; have hcell3 := keep_cell hb3 (by assumption : _ = some (Value.string A)); have hcell3a : (w3.alloc (.cells zPa tPa)).cell? ⟨G, 0, none⟩ = some (.string A) := keep_cell (below_alloc _ _) hcell3; (first | (have hn3 := keep_at hn0 hb3; have hs0 : w3.cell? ⟨wr.heap.size, 0, none⟩ = some (.string ⟨#[]⟩) := Lib.cell_of_heap hn3 0; have hs1 : w3.cell? ⟨wr.heap.size, 1, none⟩ = some .nilFunc := Lib.cell_of_heap hn3 1; have hz0 := Lib.frozen_of_heap hn3 0; have hz1 := Lib.frozen_of_heap hn3 1) | skip)))
          all_goals
            go_wp2_with fail
            go_meet
            case rel =>
              have hbb : Below wr.heap.size wr w3 := by first
                | exact below_then (below_drewN wr 1) (below_then (below_alloc wr.drew _) hb3)
                | exact below_then (below_drewN wr 1) hb3
              with_reducible first
                | exact mis_of (below_then hbb (below_alloc w3 _))
                | exact mis_of ((hbb.setCell (p := ⟨wr.heap.size, 0, none⟩) (Nat.le_refl _) _).setCell (p := ⟨wr.heap.size, 1, none⟩) (Nat.le_refl _) _)
        case rest =>
          obtain ⟨rfl, hbw⟩ := hcut
          have hx3 := keep_at HXX.out hbw
          have hbb3 := hb.trans (hbw.mono hb.size)
          have HF : Hid (findC s.data.toList = none) := Lib.hid (by rw [HFI.out]; exact (pick_none HK.out 0 0 0).2 l)
          go_wp2_with (refine put_st rfl _ _ _ rfl w.heap.size zeroCl rfl rfl hx3 infoCl rfl (by simp [Value.oneCell']) ?_; intro w4 h1 h2 h3)
          exact bodyPost_ret (v := .tuple #[.agg zeroCl, .string ⟨#[]⟩, .bool false]) (ret_st3 Tryz.results29 _ _ _ _ rfl (load_cl h1 rfl)) rfl (fail_post HF.out (hbb3.trans h2))
end Go.Proofs.YtfkmgnldkmpeiaaGreatDoor.W20
