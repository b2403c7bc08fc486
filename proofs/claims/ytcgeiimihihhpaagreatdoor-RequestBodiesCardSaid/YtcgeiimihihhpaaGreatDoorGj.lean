/-
  Walks of layer 18: the five parts of the program's Parse, as steps. Conditions: the text is within Go's own limit; the library's variable MaxLen holds an int.
  Walks of layer 18: what the program's Parse defers (it recovers). Conditions: the results' variables lie in memory.
  Walks of layer 18: the program's Parse. Conditions: the text is within Go's own limit; the library's variable MaxLen holds an int.
-/
import Derived.Test.YtcgeiimihihhpaaGreatDoorTRqW
import Derived.Test.YtcgeiimihihhpaaGreatDoorGi
import Derived.Test.YtcgeiimihihhpaaGreatDoorGd
import Derived.Test.YtcgeiimihihhpaaGreatDoorGa
import Derived.Defers
import Derived.Recover

namespace Go.Proofs.YtcgeiimihihhpaaGreatDoor.W18
open Go Go.RowKit P12 P18

abbrev e0 : Value := .string ⟨#[]⟩
abbrev n0 : Value := .slice none 0 0
def St1 (s : ByteArray) (b : Nat) (w : World) : Prop :=
  ∃ l j, lineL s.data.toList = .ok l (s.data.toList.drop j) ∧ j ≤ s.size ∧ (firstL l).1 = 200 ∧ Rd b (rdr s j (bs (firstL l).2.method) (bs (firstL l).2.path) (bs (firstL l).2.query) n0 e0 (.bool false) (.int .i64 0)) w
def St2 (s : ByteArray) (b : Nat) (w : World) : Prop :=
  ∃ l r hs j v, lineL s.data.toList = .ok l r ∧ (firstL l).1 = 200 ∧ headsL r = .ok hs (s.data.toList.drop j) ∧ j ≤ s.size ∧ Rd b (rdr s j (bs (firstL l).2.method) (bs (firstL l).2.path) (bs (firstL l).2.query) v e0 (.bool false) (.int .i64 0)) w ∧ OwnH w (b + 1) v hs
def St3 (s : ByteArray) (b : Nat) (w : World) : Prop :=
  ∃ l r hs j v, lineL s.data.toList = .ok l r ∧ (firstL l).1 = 200 ∧ headsL r = .ok hs (s.data.toList.drop j) ∧ j ≤ s.size ∧ (sizeL hs).1 = 200 ∧ Rd b (rdr s j (bs (firstL l).2.method) (bs (firstL l).2.path) (bs (firstL l).2.query) v e0 (.bool false) (.int .i64 (sizeL hs).2)) w ∧ OwnH w (b + 1) v hs
def St4 (s : ByteArray) (b : Nat) (w : World) : Prop :=
  ∃ m p q hs x j v z, parseR s.data.toList = .ok ⟨m, p, q, hs, x, closeL hs⟩ (s.data.toList.drop j) ∧ j ≤ s.size ∧ hs.length ≤ 16 ∧ (∀ h ∈ hs, h.value.length ≤ 1000) ∧ Rd b (rdr s j (bs m) (bs p) (bs q) v (bs x) (.bool false) z) w ∧ OwnH w (b + 1) v hs
def St5 (s : ByteArray) (b : Nat) (w : World) : Prop :=
  ∃ a j v z, parseR s.data.toList = .ok a (s.data.toList.drop j) ∧ j ≤ s.size ∧ Rd b (rdr s j (bs a.method) (bs a.path) (bs a.query) v (bs a.body) (.bool a.close) z) w ∧ OwnH w (b + 1) v a.headers
def StepTo (s : ByteArray) (f : FuncId) (b : Nat) (W : World) (S : World → Prop) : Prop :=
  (Calls Tryz.prog f #[.pointer (some ⟨b, 0, none⟩)] W fun e w' => e = .returned (.tuple #[]) ∧ Only b W w' ∧ S w') ∨
  (∃ t, parseR s.data.toList = .stop t ∧ Calls Tryz.prog f #[.pointer (some ⟨b, 0, none⟩)] W fun e w' => e = gives t ∧ Only b W w')

set_option maxHeartbeats 1600000 in
set_option maxRecDepth 100000 in
theorem first_stop (b : Nat) (d : ByteArray) (k : Nat) (m p q v y c z : Value) (w : World) (hr : Rd b (rdr d k m p q v y c z) w) (hk : k ≤ d.size) (hd : d.size ≤ 281474976710656) (t : Int) (h : lineL (d.data.toList.drop k) = .stop t) :
    Calls Tryz.prog 17 #[.pointer (some ⟨b, 0, none⟩)] w fun e w' => e = gives t ∧ Only b w w' := by
  have hcon := line_stop b d k m p q v y c z w hr hk hd t h
  have hbl := hr.lt
  clear h
  go_enter Tryz.func17, Tryz.ntmps17
  go_wp2_with (go_at_call 31; refine hcon.mono ?_; rintro e w1 ⟨rfl, hb1⟩)
  exact ⟨rfl, rfl, Only.of hbl hb1⟩

theorem step_first (s : ByteArray) (b : Nat) (W : World) (hs : s.size ≤ 281474976710656) (hM : MaxL W) (hbn : b ≠ 1) (hr : Rd b (rdr s 0 e0 e0 e0 n0 e0 (.bool false) (.int .i64 0)) W) :
    StepTo s 17 b W (St1 s b) := by
  have h0 : s.data.toList.drop 0 = s.data.toList := List.drop_zero
  cases hl : lineL s.data.toList with
  | stop t => exact .inr ⟨t, pr_line hl, first_stop b s 0 _ _ _ _ _ _ _ W hr (Nat.zero_le _) hs t (by rw [h0]; exact hl)⟩
  | ok l r =>
    have hl' : lineL (s.data.toList.drop 0) = .ok l r := by rw [h0]; exact hl
    obtain ⟨j, hkj, hjd, hrj, hje⟩ := line_ok_at (Nat.zero_le _) hl'
    have hf : Calls Tryz.prog 17 #[.pointer (some ⟨b, 0, none⟩)] W (FirstPost b s j n0 e0 (.bool false) (.int .i64 0) (firstL l) W) := by
      by_cases h3 : (partsL 32 l).length = 3
      · obtain ⟨ms, ws, vs, hp⟩ : ∃ ms ws vs, partsL 32 l = [ms, ws, vs] := by
          match hq : partsL 32 l, h3 with
          | [ms, ws, vs], _ => exact ⟨ms, ws, vs, rfl⟩
        exact first_three b s 0 _ _ _ _ _ _ _ W hr (Nat.zero_le _) hs hM hbn l r hl' ms ws vs hp j hje
      · exact first_few b s 0 _ _ _ _ _ _ _ W hr (Nat.zero_le _) hs hM hbn l r hl' h3 j hje
    by_cases hst : (firstL l).1 = 200
    · refine .inl (hf.mono ?_)
      rintro e w' ⟨hO, ⟨-, he, hr'⟩ | ⟨hne, -⟩⟩
      · exact ⟨he, hO, l, j, by rw [← hrj]; exact hl, hjd, hst, hr'⟩
      · exact absurd hst hne
    · refine .inr ⟨_, pr_first hl hst, hf.mono ?_⟩
      rintro e w' ⟨hO, ⟨h2, -, -⟩ | ⟨-, he⟩⟩
      · exact absurd h2 hst
      · exact ⟨he, hO⟩
theorem step_headers (s : ByteArray) (b : Nat) (W : World) (hs : s.size ≤ 281474976710656) (h : St1 s b W) : StepTo s 18 b W (St2 s b) := by
  obtain ⟨l, j, hl, hj, hf, hr⟩ := h
  have hcon := headers_any b s j _ _ _ _ _ _ W hr hj hs
  cases hh : headsL (s.data.toList.drop j) with
  | stop t =>
    refine .inr ⟨t, pr_heads hl hf hh, hcon.mono ?_⟩
    rintro e w' ⟨hO, hp⟩
    rw [hh] at hp
    exact ⟨hp, hO⟩
  | ok hds r2 =>
    refine .inl (hcon.mono ?_)
    rintro e w' ⟨hO, hp⟩
    rw [hh] at hp
    obtain ⟨he, j2, v, hj2, hr2, hr', ho⟩ := hp
    exact ⟨he, hO, l, _, hds, j2, v, hl, hf, by rw [hh, hr2], hj2, hr', World.ownsRow.mono ho hr.lt⟩
theorem heads_small {r : P12.By} {hs : List Hdr} {r2 : P12.By} (h : headsL r = .ok hs r2) : hs.length ≤ 16 ∧ ∀ x ∈ hs, x.value.length ≤ 1000 :=
  ⟨heads_len 16 _ _ _ h, fun x hx => by have := heads_vals 16 _ _ _ h x hx; omega⟩
theorem step_head (s : ByteArray) (b : Nat) (W : World) (h : St2 s b W) : StepTo s 19 b W (St3 s b) := by
  obtain ⟨l, r, hds, j, v, hl, hf, hh, hj, hr, ho⟩ := h
  obtain ⟨h16, hval⟩ := heads_small hh
  have hcon := head_any b s j _ _ _ v _ _ hds W hr (OwnH.rows ho) h16 hval
  by_cases hst : (sizeL hds).1 = 200
  · refine .inl (hcon.mono ?_)
    rintro e w' ⟨hO, ⟨-, he, hr'⟩ | ⟨hne, -⟩⟩
    · exact ⟨he, hO, l, r, hds, j, v, hl, hf, hh, hj, hst, hr', own_only (Nat.lt_succ_self _) ho hO⟩
    · exact absurd hst hne
  · refine .inr ⟨_, pr_size hl hf hh hst, hcon.mono ?_⟩
    rintro e w' ⟨hO, ⟨h2, -, -⟩ | ⟨-, he⟩⟩
    · exact absurd h2 hst
    · exact ⟨he, hO⟩
theorem step_body (s : ByteArray) (b : Nat) (W : World) (hs : s.size ≤ 281474976710656) (h : St3 s b W) : StepTo s 20 b W (St4 s b) := by
  obtain ⟨l, r, hds, j, v, hl, hf, hh, hj, hst, hr, ho⟩ := h
  obtain ⟨h16, hval⟩ := heads_small hh
  have hpb := pr_body hl hf hh hst
  have hcon : Calls Tryz.prog 20 #[.pointer (some ⟨b, 0, none⟩)] W (BodyPost b s (bs (firstL l).2.method) (bs (firstL l).2.path) (bs (firstL l).2.query) v (.bool false) (.int .i64 (sizeL hds).2) (bodyL (sizeL hds).2 (s.data.toList.drop j)) W) := by
    rcases size_val hst with e | ⟨n, hn, e⟩
    · rw [e] at hr ⊢
      exact body_chunks b s j _ _ _ _ _ _ W hr hj hs
    · rw [e] at hr ⊢
      rw [show bodyL (n : Int) (s.data.toList.drop j) = takeL n (s.data.toList.drop j) by unfold bodyL; rw [if_pos (by omega)]; rfl]
      exact body_take b s j n _ _ _ _ _ _ W hr hj hs hn
  cases hb : bodyL (sizeL hds).2 (s.data.toList.drop j) with
  | stop t =>
    rw [hb] at hpb hcon
    refine .inr ⟨t, hpb, hcon.mono ?_⟩
    rintro e w' ⟨hO, hp⟩
    exact ⟨hp, hO⟩
  | ok x r9 =>
    rw [hb] at hpb hcon
    refine .inl (hcon.mono ?_)
    rintro e w' ⟨hO, he, j9, hj9, rfl, hr'⟩
    exact ⟨he, hO, _, _, _, hds, x, j9, v, _, hpb, hj9, h16, hval, hr', own_only (Nat.lt_succ_self _) ho hO⟩
theorem step_closing (s : ByteArray) (b : Nat) (W : World) (h : St4 s b W) : StepTo s 21 b W (St5 s b) := by
  obtain ⟨m, p, q, hds, x, j, v, z, hp, hj, h16, hval, hr, ho⟩ := h
  refine .inl ((closing_any b s j _ _ _ v _ _ false hds W (b + 1) hr ho (Nat.lt_succ_self _) h16 hval).mono ?_)
  rintro e w' ⟨he, hr', hO⟩
  rw [Bool.false_or] at hr'
  exact ⟨he, hO, _, j, v, z, hp, hj, hr', own_only (Nat.lt_succ_self _) ho hO⟩
end Go.Proofs.YtcgeiimihihhpaaGreatDoor.W18

namespace Go.Proofs.YtcgeiimihihhpaaGreatDoor.W18
open Go Go.RowKit P12 P18

theorem ta_yes (t : Int) (W : World) : (Instr.typeAssert (.iface 40 (.int .i64 t)) 20 40 true).run Tryz.prog W = .ok (.tuple #[.int .i64 t, .bool true]) W := by kernel_rfl
theorem ta_nil (W : World) : (Instr.typeAssert .nilIface 20 40 true).run Tryz.prog W = .ok (.tuple #[.int .i64 0, .bool false]) W := by kernel_rfl
set_option maxHeartbeats 1600000 in
set_option maxRecDepth 100000 in
theorem catch_panic (N : Nat) (t a b : Int) (c : Array Value) (w : World) (hN : RqAt N c w) (hc : c.size = 6) (hn : w.heap[N + 1]? = some (.cells #[.int .i64 a] 3 (0, 0))) (hs : w.heap[N + 2]? = some (.cells #[.int .i64 b] 3 (0, 0))) :
    CallsD Tryz.prog 16 #[.pointer (some ⟨N, 0, none⟩), .pointer (some ⟨N + 1, 0, none⟩), .pointer (some ⟨N + 2, 0, none⟩)] (.panicking ({ v := .iface 40 (.int .i64 t), recovered := false } :: [])) w fun e u' w' =>
      e = .returned (.tuple #[]) ∧ u' = .panicking ({ v := .iface 40 (.int .i64 t), recovered := true } :: []) ∧ RqAt N z6 w' ∧ w'.cell? ⟨N + 1, 0, none⟩ = some (.int .i64 0) ∧ w'.cell? ⟨N + 2, 0, none⟩ = some (.int .i64 t) ∧ Below N w w' := by
  refine callsD_of_wpS Tryz.func16 rfl fun c₀ cs hu => ?_
  apply wpS_seq
  apply wpS_region
  simp [wpOpsS, go_sem, recoverD, hu, Tryz.ntmps16, Exit.thenS]
  have ht : (#[.pointer (some ⟨N, 0, none⟩), .pointer (some ⟨N + 1, 0, none⟩), .pointer (some ⟨N + 2, 0, none⟩)] ++ ((Array.replicate 15 undef).setIfInBounds 3 (.iface 40 (.int .i64 t))).setIfInBounds 0 (.iface 40 (.int .i64 t)) : Array Value) =
    #[.pointer (some ⟨N, 0, none⟩), .pointer (some ⟨N + 1, 0, none⟩), .pointer (some ⟨N + 2, 0, none⟩), .iface 40 (.int .i64 t), undef, undef, .iface 40 (.int .i64 t), undef, undef, undef, undef, undef, undef, undef, undef, undef, undef, undef] := rfl
  rw [ht]
  refine wpS_of_wp ?_
  clear ht
  have hta := ta_yes t
  have hN1 := lt_of_block hn
  have hN2 := lt_of_block hs
  go_wp2_with (refine put_rq rfl _ _ rfl N z6 rfl rfl hN hc rfl (by kernel_rfl) ?_; intro w4 hh4 hb4 ho4; have g1 := (ho4 (N + 1) (by omega)).trans hn; have g2 := (ho4 (N + 2) (by omega)).trans hs; have x1 := cell_of_one g1; have x2 := cell_of_one g2; have f1 := free_of_one g1; have f2 := free_of_one g2)
  have k1 : (w4.setCell ⟨N + 1, 0, none⟩ (.int .i64 0)).heap[N + 1]? = some (.cells #[.int .i64 0] 3 (0, 0)) := one_setCell g1
  have k2 : (w4.setCell ⟨N + 1, 0, none⟩ (.int .i64 0)).heap[N + 2]? = some (.cells #[.int .i64 b] 3 (0, 0)) := keep_other g2 (by omega)
  refine ⟨rfl, _, rfl, _, results_none rfl _ _ _, rfl, rfl, keep_other (keep_other hh4 (by omega)) (by omega), cell_of_one (keep_other k1 (by omega)), cell_of_one (one_setCell k2), ?_⟩
  exact (hb4.setCell (p := ⟨N + 1, 0, none⟩) (Nat.le_succ N) _).setCell (p := ⟨N + 2, 0, none⟩) (Nat.le_add_right N 2) _

set_option maxHeartbeats 1600000 in
set_option maxRecDepth 100000 in
theorem catch_idle (N : Nat) (w : World) :
    CallsD Tryz.prog 16 #[.pointer (some ⟨N, 0, none⟩), .pointer (some ⟨N + 1, 0, none⟩), .pointer (some ⟨N + 2, 0, none⟩)] .returning w fun e u' w' =>
      e = .returned (.tuple #[]) ∧ u' = .returning ∧ w' = w := by
  refine callsD_of_wpS Tryz.func16 rfl fun c₀ cs hu => ?_
  apply wpS_seq
  apply wpS_region
  simp [wpOpsS, go_sem, recoverD, hu, Tryz.ntmps16, Exit.thenS]
  have ht : (#[.pointer (some ⟨N, 0, none⟩), .pointer (some ⟨N + 1, 0, none⟩), .pointer (some ⟨N + 2, 0, none⟩)] ++ ((Array.replicate 15 undef).setIfInBounds 3 .nilIface).setIfInBounds 0 .nilIface : Array Value) =
    #[.pointer (some ⟨N, 0, none⟩), .pointer (some ⟨N + 1, 0, none⟩), .pointer (some ⟨N + 2, 0, none⟩), .nilIface, undef, undef, .nilIface, undef, undef, undef, undef, undef, undef, undef, undef, undef, undef, undef] := rfl
  rw [ht]
  refine wpS_of_wp ?_
  clear ht
  have hta := ta_nil
  have hnn : ∀ W, (binOp BinOp.neq 20 .nilIface .nilIface).run Tryz.prog W = .ok (.bool false) W := fun _ => by kernel_rfl
  go_wp2_with fail
  refine ⟨rfl, .returning, ?_, _, results_none rfl _ _ _, rfl, rfl, rfl⟩
  cases c₀
  simp_all
end Go.Proofs.YtcgeiimihihhpaaGreatDoor.W18

namespace Go.Proofs.YtcgeiimihihhpaaGreatDoor.W18
open Go Go.RowKit P12 P18

def StK (s : ByteArray) (b : Nat) : Nat → World → Prop
  | 0, w => Rd b (rdr s 0 e0 e0 e0 n0 e0 (.bool false) (.int .i64 0)) w
  | 1, w => St1 s b w
  | 2, w => St2 s b w
  | 3, w => St3 s b w
  | 4, w => St4 s b w
  | _, w => St5 s b w
theorem six_set {N : Nat} {w : World} {u0 u1 u2 u3 u4 u5 : Value} (h : RqAt N #[u0, u1, u2, u3, u4, u5] w) (a b c d e f : Value) :
    RqAt N #[a, b, c, d, e, f] ((((((w.setCell ⟨N, 0, none⟩ a).setCell ⟨N, 1, none⟩ b).setCell ⟨N, 2, none⟩ c).setCell ⟨N, 3, none⟩ d).setCell ⟨N, 4, none⟩ e).setCell ⟨N, 5, none⟩ f) := by
  have h1 : RqAt N #[a, u1, u2, u3, u4, u5] (w.setCell ⟨N, 0, none⟩ a) := set_any h 0 a (by simp)
  have h2 : RqAt N #[a, b, u2, u3, u4, u5] ((w.setCell ⟨N, 0, none⟩ a).setCell ⟨N, 1, none⟩ b) := set_any h1 1 b (by simp)
  have h3 : RqAt N #[a, b, c, u3, u4, u5] (((w.setCell ⟨N, 0, none⟩ a).setCell ⟨N, 1, none⟩ b).setCell ⟨N, 2, none⟩ c) := set_any h2 2 c (by simp)
  have h4 := RqAt.set3 h3 d
  have h5 := RqAt.set4 h4 e
  exact RqAt.set5 h5 f
theorem maxl_lt {w : World} (h : MaxL w) : 1 < w.heap.size := by
  obtain ⟨m, hm⟩ := h
  exact block_lt_of_cell hm

theorem own_past {w w' : World} {base : Nat} {v : Value} {l : List Hdr} (h : OwnH w base v l) (hk : ∀ k, base ≤ k → w'.heap[k]? = w.heap[k]?) : OwnH w' base v l := by
  refine ⟨h.1, ?_⟩
  rcases h.2 with hn | ⟨g, cap, cur, rfl, hbg, hgg, rest⟩
  · exact .inl hn
  · exact .inr ⟨g, cap, cur, rfl, hbg, (hk g hbg).trans hgg, rest⟩
theorem done_set {N : Nat} {w wr W : World} {a : Rq} {o : Option Addr} {cp j : Nat}
    (hW : W = ((((((((wr.setCell ⟨N, 0, none⟩ (bs a.method)).setCell ⟨N, 1, none⟩ (bs a.path)).setCell ⟨N, 2, none⟩ (bs a.query)).setCell ⟨N, 3, none⟩ (.slice o a.headers.length cp)).setCell ⟨N, 4, none⟩ (bs a.body)).setCell ⟨N, 5, none⟩ (.bool a.close)).setCell ⟨N + 1, 0, none⟩ (.int .i64 j)).setCell ⟨N + 1 + 1, 0, none⟩ (.int .i64 200)).drew)
    (g0 : RqAt N z6 wr) (g1 : wr.heap[N + 1]? = some (.cells #[.int .i64 0] 3 (0, 0))) (g2 : wr.heap[N + 1 + 1]? = some (.cells #[.int .i64 0] 3 (0, 0))) (ho : OwnH wr (N + 1 + 1 + 1 + 1) (.slice o a.headers.length cp) a.headers) (hB : Below N w wr) :
    RqAt N #[bs a.method, bs a.path, bs a.query, .slice o a.headers.length cp, bs a.body, .bool a.close] W ∧ W.cell? ⟨N + 1, 0, none⟩ = some (.int .i64 j) ∧ W.cell? ⟨N + 1 + 1, 0, none⟩ = some (.int .i64 200) ∧ OwnH W N (.slice o a.headers.length cp) a.headers ∧ Below N w W := by
  have k6 : ∀ (M : Nat) (x : Obj), M ≠ N → wr.heap[M]? = some x → ((((((wr.setCell ⟨N, 0, none⟩ (bs a.method)).setCell ⟨N, 1, none⟩ (bs a.path)).setCell ⟨N, 2, none⟩ (bs a.query)).setCell ⟨N, 3, none⟩ (.slice o a.headers.length cp)).setCell ⟨N, 4, none⟩ (bs a.body)).setCell ⟨N, 5, none⟩ (.bool a.close)).heap[M]? = some x := fun M x hM h =>
    keep_other (keep_other (keep_other (keep_other (keep_other (keep_other h hM) hM) hM) hM) hM) hM
  have r6 := six_set g0 (bs a.method) (bs a.path) (bs a.query) (.slice o a.headers.length cp) (bs a.body) (.bool a.close)
  have h1 := k6 (N + 1) _ (by omega) g1
  have h2 := k6 (N + 1 + 1) _ (by omega) g2
  have hb6 : Below N w ((((((wr.setCell ⟨N, 0, none⟩ (bs a.method)).setCell ⟨N, 1, none⟩ (bs a.path)).setCell ⟨N, 2, none⟩ (bs a.query)).setCell ⟨N, 3, none⟩ (.slice o a.headers.length cp)).setCell ⟨N, 4, none⟩ (bs a.body)).setCell ⟨N, 5, none⟩ (.bool a.close)) :=
    (((((hB.setCell (p := ⟨N, 0, none⟩) (Nat.le_refl N) _).setCell (p := ⟨N, 1, none⟩) (Nat.le_refl N) _).setCell (p := ⟨N, 2, none⟩) (Nat.le_refl N) _).setCell (p := ⟨N, 3, none⟩) (Nat.le_refl N) _).setCell (p := ⟨N, 4, none⟩) (Nat.le_refl N) _).setCell (p := ⟨N, 5, none⟩) (Nat.le_refl N) _
  have o6 : ∀ k, N + 1 + 1 + 1 + 1 ≤ k → ((((((wr.setCell ⟨N, 0, none⟩ (bs a.method)).setCell ⟨N, 1, none⟩ (bs a.path)).setCell ⟨N, 2, none⟩ (bs a.query)).setCell ⟨N, 3, none⟩ (.slice o a.headers.length cp)).setCell ⟨N, 4, none⟩ (bs a.body)).setCell ⟨N, 5, none⟩ (.bool a.close)).heap[k]? = wr.heap[k]? := fun k hk => by
    have hN : k ≠ N := by omega
    rw [Below.heap_setCell _ ⟨N, 5, none⟩ _ k hN, Below.heap_setCell _ ⟨N, 4, none⟩ _ k hN, Below.heap_setCell _ ⟨N, 3, none⟩ _ k hN, Below.heap_setCell _ ⟨N, 2, none⟩ _ k hN, Below.heap_setCell _ ⟨N, 1, none⟩ _ k hN, Below.heap_setCell _ ⟨N, 0, none⟩ _ k hN]
  have o7 := own_past ho o6
  generalize (((((wr.setCell ⟨N, 0, none⟩ (bs a.method)).setCell ⟨N, 1, none⟩ (bs a.path)).setCell ⟨N, 2, none⟩ (bs a.query)).setCell ⟨N, 3, none⟩ (.slice o a.headers.length cp)).setCell ⟨N, 4, none⟩ (bs a.body)).setCell ⟨N, 5, none⟩ (.bool a.close) = V at *
  subst hW
  have h1' : (V.setCell ⟨N + 1, 0, none⟩ (.int .i64 j)).heap[N + 1]? = some (.cells #[.int .i64 j] 3 (0, 0)) := one_setCell h1
  have h2' : (V.setCell ⟨N + 1, 0, none⟩ (.int .i64 j)).heap[N + 1 + 1]? = some (.cells #[.int .i64 0] 3 (0, 0)) := keep_other h2 (by omega)
  have h2'' : ((V.setCell ⟨N + 1, 0, none⟩ (.int .i64 j)).setCell ⟨N + 1 + 1, 0, none⟩ (.int .i64 200)).heap[N + 1 + 1]? = some (.cells #[.int .i64 200] 3 (0, 0)) := one_setCell h2'
  refine ⟨keep_other (keep_other r6 (by omega)) (by omega), cell_of_one (keep_other h1' (by omega)), cell_of_one h2'', ?_, ?_⟩
  · refine World.ownsRow.mono (base := N + 1 + 1 + 1 + 1) (own_past o7 fun k hk => ?_) (by omega)
    show ((V.setCell ⟨N + 1, 0, none⟩ (.int .i64 j)).setCell ⟨N + 1 + 1, 0, none⟩ (.int .i64 200)).heap[k]? = _
    rw [Below.heap_setCell _ ⟨N + 1 + 1, 0, none⟩ _ k (by show k ≠ N + 1 + 1; omega), Below.heap_setCell _ ⟨N + 1, 0, none⟩ _ k (by show k ≠ N + 1; omega)]
  · have hq := (hb6.setCell (p := ⟨N + 1, 0, none⟩) (Nat.le_succ N) (.int .i64 j)).setCell (p := ⟨N + 1 + 1, 0, none⟩) (Nat.le_add_right N 2) (.int .i64 200)
    exact ⟨hq.os, hq.tape, hq.output, hq.size, hq.block⟩

set_option maxHeartbeats 6400000 in
set_option maxRecDepth 100000 in
theorem Parse_any (s : ByteArray) (hs : s.size ≤ 281474976710656) (w : World) (hM : MaxL w) :
    Calls Tryz.prog 9 #[.string s] w (ParsePost s w) := by
  have hmf : ∀ (fn : Fn) (first cap : Array Value) (w : World), (Instr.makeFunc fn first cap).run Tryz.prog w = .ok (.func fn first cap) w := fun _ _ _ _ => rfl
  have hMlt := maxl_lt hM
  obtain ⟨w5, hw5⟩ : ∃ w5, w5 = (((((w.alloc (.cells z6 25)).alloc (.cells #[.int .i64 0] 3)).alloc (.cells #[.int .i64 0] 3)).alloc (.cells (rdr s 0 e0 e0 e0 n0 e0 (.bool false) (.int .i64 0)) 44)).alloc (.cells #[.func (.func 17) #[.pointer (some ⟨w.heap.size + 1 + 1 + 1, 0, none⟩)] #[], .func (.func 18) #[.pointer (some ⟨w.heap.size + 1 + 1 + 1, 0, none⟩)] #[], .func (.func 19) #[.pointer (some ⟨w.heap.size + 1 + 1 + 1, 0, none⟩)] #[], .func (.func 20) #[.pointer (some ⟨w.heap.size + 1 + 1 + 1, 0, none⟩)] #[], .func (.func 21) #[.pointer (some ⟨w.heap.size + 1 + 1 + 1, 0, none⟩)] #[]] 1)) := ⟨_, rfl⟩
  have B5 : Below w.heap.size w w5 := by
    rw [hw5]
    exact (((((Below.refl _ w).alloc (Nat.le_refl _) _).alloc (by simp) _).alloc (by simp; omega) _).alloc (by simp; omega) _).alloc (by simp; omega) _
  obtain ⟨g0, g1, g2, g3, g4⟩ : w5.heap[w.heap.size]? = some (.cells z6 25 (0, 0)) ∧ w5.heap[w.heap.size + 1]? = some (.cells #[.int .i64 0] 3 (0, 0)) ∧ w5.heap[w.heap.size + 1 + 1]? = some (.cells #[.int .i64 0] 3 (0, 0)) ∧
      w5.heap[w.heap.size + 1 + 1 + 1]? = some (.cells (rdr s 0 e0 e0 e0 n0 e0 (.bool false) (.int .i64 0)) 44 (0, 0)) ∧
      w5.heap[w.heap.size + 1 + 1 + 1 + 1]? = some (.cells #[.func (.func 17) #[.pointer (some ⟨w.heap.size + 1 + 1 + 1, 0, none⟩)] #[], .func (.func 18) #[.pointer (some ⟨w.heap.size + 1 + 1 + 1, 0, none⟩)] #[], .func (.func 19) #[.pointer (some ⟨w.heap.size + 1 + 1 + 1, 0, none⟩)] #[], .func (.func 20) #[.pointer (some ⟨w.heap.size + 1 + 1 + 1, 0, none⟩)] #[], .func (.func 21) #[.pointer (some ⟨w.heap.size + 1 + 1 + 1, 0, none⟩)] #[]] 1 (0, 0)) := by
    rw [hw5]
    show (((((w.heap.push _).push _).push _).push _).push _)[_]? = _ ∧ (((((w.heap.push _).push _).push _).push _).push _)[_]? = _ ∧ (((((w.heap.push _).push _).push _).push _).push _)[_]? = _ ∧ (((((w.heap.push _).push _).push _).push _).push _)[_]? = _ ∧ (((((w.heap.push _).push _).push _).push _).push _)[_]? = _
    generalize w.heap = h
    refine ⟨?_, ?_, ?_, ?_, ?_⟩
    · simp only [Array.getElem?_push, Array.size_push]
      rw [if_neg (by omega), if_neg (by omega), if_neg (by omega), if_neg (by omega)]
      simp
    · simp only [Array.getElem?_push, Array.size_push]
      rw [if_neg (by omega), if_neg (by omega), if_neg (by omega)]
      simp
    · simp only [Array.getElem?_push, Array.size_push]
      rw [if_neg (by omega), if_neg (by omega)]
      simp
    · simp only [Array.getElem?_push, Array.size_push]
      rw [if_neg (by omega)]
      simp
    · simp only [Array.getElem?_push, Array.size_push]
      simp
  have HM := hM.keep B5
  have HW := Lib.hid hw5
  clear hw5 hM
  go_enter_defers Tryz.func9, Tryz.ntmps9
  go_wp2_with fail
  go_loopw [24] (fun i wr => ∃ k : Nat, k ≤ 5 ∧ i = .int .i64 k ∧ Hid (StK s (w.heap.size + 1 + 1 + 1) k wr) ∧ wr.heap[w.heap.size]? = some (.cells z6 25 (0, 0)) ∧ wr.heap[w.heap.size + 1]? = some (.cells #[.int .i64 0] 3 (0, 0)) ∧ wr.heap[w.heap.size + 1 + 1]? = some (.cells #[.int .i64 0] 3 (0, 0)) ∧
      wr.heap[w.heap.size + 1 + 1 + 1 + 1]? = some (.cells #[.func (.func 17) #[.pointer (some ⟨w.heap.size + 1 + 1 + 1, 0, none⟩)] #[], .func (.func 18) #[.pointer (some ⟨w.heap.size + 1 + 1 + 1, 0, none⟩)] #[], .func (.func 19) #[.pointer (some ⟨w.heap.size + 1 + 1 + 1, 0, none⟩)] #[], .func (.func 20) #[.pointer (some ⟨w.heap.size + 1 + 1 + 1, 0, none⟩)] #[], .func (.func 21) #[.pointer (some ⟨w.heap.size + 1 + 1 + 1, 0, none⟩)] #[]] 1 (0, 0)) ∧ Below w.heap.size w wr ∧ MaxL wr) (fun i _ => 5 - (intOf i).toNat)
  case atStart =>
    have e := HW.out
    rw [e] at g0 g1 g2 g3 g4 B5 HM
    exact ⟨0, by omega, rfl, Lib.hid g3, g0, g1, g2, g4, B5, HM⟩
  case round =>
    clear g0 g1 g2 g3 g4 B5 HM HW
    obtain ⟨k, hk, rfl, HS, g0, g1, g2, g4, BB, HM⟩ := hrel
    have hlt1 := lt_of_block g1
    have hlt2 := lt_of_block g2
    have hlt4 := lt_of_block g4
    rcases (show k = 0 ∨ k = 1 ∨ k = 2 ∨ k = 3 ∨ k = 4 ∨ k = 5 by omega) with rfl | rfl | rfl | rfl | rfl | rfl
    · have c4 : wr.cell? ⟨w.heap.size + 1 + 1 + 1 + 1, 0, none⟩ = some (.func (.func 17) #[.pointer (some ⟨w.heap.size + 1 + 1 + 1, 0, none⟩)] #[]) := Lib.cell_of_heap g4 0
      have hst := step_first s _ wr hs HM (by omega) HS.out
      clear HS
      rcases hst with hc | ⟨t, hp, hc⟩
      · go_wp2_with (go_at_call 17; (with_reducible refine hc.mono ?_); rintro e w2 ⟨rfl, hO, hS⟩; refine Hid.out ?_)
        refine Lib.hid ?_
        have q0 := (hO.other (by omega) (by omega)).trans g0
        have q1 := (hO.other (by omega) hlt1).trans g1
        have q2 := (hO.other (by omega) hlt2).trans g2
        have qB := BB.trans (hO.to (by omega))
        have q4 := (hO.other (by omega) hlt4).trans g4
        have qM := HM.only hO (by omega)
        clear c4 hc g0 g1 g2 g4 BB HM
        go_wp2_with fail
        go_roundw
        case rel => exact ⟨1, by omega, rfl, Lib.hid hS, q0, q1, q2, q4, qB, qM⟩
        case measure => simp [intOf]
      · go_wp2_with (go_at_call 17; (with_reducible refine hc.mono ?_); rintro e w2 ⟨rfl, hO⟩)
        have q0 := (hO.other (by omega) (by omega)).trans g0
        have q1 := (hO.other (by omega) hlt1).trans g1
        have q2 := (hO.other (by omega) hlt2).trans g2
        have qB := BB.trans (hO.to (by omega))
        refine leaves_cons (f := 16) (args := #[.pointer (some ⟨w.heap.size, 0, none⟩), .pointer (some ⟨w.heap.size + 1, 0, none⟩), .pointer (some ⟨w.heap.size + 1 + 1, 0, none⟩)]) (by simp) (by simp [go_sem]) ?_
        refine (catch_panic w.heap.size t 0 0 z6 w2 q0 rfl q1 q2).mono ?_
        rintro e u' w3 ⟨rfl, rfl, hR, h1, h2, hB⟩
        change Leaves _ _ _ _ [] .returning w3
        refine ⟨_, ret_rq3 rfl _ _ w.heap.size z6 rfl hR rfl ⟨w.heap.size + 1, 0, none⟩ ⟨w.heap.size + 2, 0, none⟩ rfl rfl 0 t h1 h2, ?_⟩
        exact parse_stop hp (qB.trans hB)
    · have c4 : wr.cell? ⟨w.heap.size + 1 + 1 + 1 + 1, 1, none⟩ = some (.func (.func 18) #[.pointer (some ⟨w.heap.size + 1 + 1 + 1, 0, none⟩)] #[]) := Lib.cell_of_heap g4 1
      have hst := step_headers s _ wr hs HS.out
      clear HS
      rcases hst with hc | ⟨t, hp, hc⟩
      · go_wp2_with (go_at_call 18; (with_reducible refine hc.mono ?_); rintro e w2 ⟨rfl, hO, hS⟩; refine Hid.out ?_)
        refine Lib.hid ?_
        have q0 := (hO.other (by omega) (by omega)).trans g0
        have q1 := (hO.other (by omega) hlt1).trans g1
        have q2 := (hO.other (by omega) hlt2).trans g2
        have qB := BB.trans (hO.to (by omega))
        have q4 := (hO.other (by omega) hlt4).trans g4
        have qM := HM.only hO (by omega)
        clear c4 hc g0 g1 g2 g4 BB HM
        go_wp2_with fail
        go_roundw
        case rel => exact ⟨2, by omega, rfl, Lib.hid hS, q0, q1, q2, q4, qB, qM⟩
        case measure => simp [intOf]
      · go_wp2_with (go_at_call 18; (with_reducible refine hc.mono ?_); rintro e w2 ⟨rfl, hO⟩)
        have q0 := (hO.other (by omega) (by omega)).trans g0
        have q1 := (hO.other (by omega) hlt1).trans g1
        have q2 := (hO.other (by omega) hlt2).trans g2
        have qB := BB.trans (hO.to (by omega))
        refine leaves_cons (f := 16) (args := #[.pointer (some ⟨w.heap.size, 0, none⟩), .pointer (some ⟨w.heap.size + 1, 0, none⟩), .pointer (some ⟨w.heap.size + 1 + 1, 0, none⟩)]) (by simp) (by simp [go_sem]) ?_
        refine (catch_panic w.heap.size t 0 0 z6 w2 q0 rfl q1 q2).mono ?_
        rintro e u' w3 ⟨rfl, rfl, hR, h1, h2, hB⟩
        change Leaves _ _ _ _ [] .returning w3
        refine ⟨_, ret_rq3 rfl _ _ w.heap.size z6 rfl hR rfl ⟨w.heap.size + 1, 0, none⟩ ⟨w.heap.size + 2, 0, none⟩ rfl rfl 0 t h1 h2, ?_⟩
        exact parse_stop hp (qB.trans hB)
    · have c4 : wr.cell? ⟨w.heap.size + 1 + 1 + 1 + 1, 2, none⟩ = some (.func (.func 19) #[.pointer (some ⟨w.heap.size + 1 + 1 + 1, 0, none⟩)] #[]) := Lib.cell_of_heap g4 2
      have hst := step_head s _ wr HS.out
      clear HS
      rcases hst with hc | ⟨t, hp, hc⟩
      · go_wp2_with (go_at_call 19; (with_reducible refine hc.mono ?_); rintro e w2 ⟨rfl, hO, hS⟩; refine Hid.out ?_)
        refine Lib.hid ?_
        have q0 := (hO.other (by omega) (by omega)).trans g0
        have q1 := (hO.other (by omega) hlt1).trans g1
        have q2 := (hO.other (by omega) hlt2).trans g2
        have qB := BB.trans (hO.to (by omega))
        have q4 := (hO.other (by omega) hlt4).trans g4
        have qM := HM.only hO (by omega)
        clear c4 hc g0 g1 g2 g4 BB HM
        go_wp2_with fail
        go_roundw
        case rel => exact ⟨3, by omega, rfl, Lib.hid hS, q0, q1, q2, q4, qB, qM⟩
        case measure => simp [intOf]
      · go_wp2_with (go_at_call 19; (with_reducible refine hc.mono ?_); rintro e w2 ⟨rfl, hO⟩)
        have q0 := (hO.other (by omega) (by omega)).trans g0
        have q1 := (hO.other (by omega) hlt1).trans g1
        have q2 := (hO.other (by omega) hlt2).trans g2
        have qB := BB.trans (hO.to (by omega))
        refine leaves_cons (f := 16) (args := #[.pointer (some ⟨w.heap.size, 0, none⟩), .pointer (some ⟨w.heap.size + 1, 0, none⟩), .pointer (some ⟨w.heap.size + 1 + 1, 0, none⟩)]) (by simp) (by simp [go_sem]) ?_
        refine (catch_panic w.heap.size t 0 0 z6 w2 q0 rfl q1 q2).mono ?_
        rintro e u' w3 ⟨rfl, rfl, hR, h1, h2, hB⟩
        change Leaves _ _ _ _ [] .returning w3
        refine ⟨_, ret_rq3 rfl _ _ w.heap.size z6 rfl hR rfl ⟨w.heap.size + 1, 0, none⟩ ⟨w.heap.size + 2, 0, none⟩ rfl rfl 0 t h1 h2, ?_⟩
        exact parse_stop hp (qB.trans hB)
    · have c4 : wr.cell? ⟨w.heap.size + 1 + 1 + 1 + 1, 3, none⟩ = some (.func (.func 20) #[.pointer (some ⟨w.heap.size + 1 + 1 + 1, 0, none⟩)] #[]) := Lib.cell_of_heap g4 3
      have hst := step_body s _ wr hs HS.out
      clear HS
      rcases hst with hc | ⟨t, hp, hc⟩
      · go_wp2_with (go_at_call 20; (with_reducible refine hc.mono ?_); rintro e w2 ⟨rfl, hO, hS⟩; refine Hid.out ?_)
        refine Lib.hid ?_
        have q0 := (hO.other (by omega) (by omega)).trans g0
        have q1 := (hO.other (by omega) hlt1).trans g1
        have q2 := (hO.other (by omega) hlt2).trans g2
        have qB := BB.trans (hO.to (by omega))
        have q4 := (hO.other (by omega) hlt4).trans g4
        have qM := HM.only hO (by omega)
        clear c4 hc g0 g1 g2 g4 BB HM
        go_wp2_with fail
        go_roundw
        case rel => exact ⟨4, by omega, rfl, Lib.hid hS, q0, q1, q2, q4, qB, qM⟩
        case measure => simp [intOf]
      · go_wp2_with (go_at_call 20; (with_reducible refine hc.mono ?_); rintro e w2 ⟨rfl, hO⟩)
        have q0 := (hO.other (by omega) (by omega)).trans g0
        have q1 := (hO.other (by omega) hlt1).trans g1
        have q2 := (hO.other (by omega) hlt2).trans g2
        have qB := BB.trans (hO.to (by omega))
        refine leaves_cons (f := 16) (args := #[.pointer (some ⟨w.heap.size, 0, none⟩), .pointer (some ⟨w.heap.size + 1, 0, none⟩), .pointer (some ⟨w.heap.size + 1 + 1, 0, none⟩)]) (by simp) (by simp [go_sem]) ?_
        refine (catch_panic w.heap.size t 0 0 z6 w2 q0 rfl q1 q2).mono ?_
        rintro e u' w3 ⟨rfl, rfl, hR, h1, h2, hB⟩
        change Leaves _ _ _ _ [] .returning w3
        refine ⟨_, ret_rq3 rfl _ _ w.heap.size z6 rfl hR rfl ⟨w.heap.size + 1, 0, none⟩ ⟨w.heap.size + 2, 0, none⟩ rfl rfl 0 t h1 h2, ?_⟩
        exact parse_stop hp (qB.trans hB)
    · have c4 : wr.cell? ⟨w.heap.size + 1 + 1 + 1 + 1, 4, none⟩ = some (.func (.func 21) #[.pointer (some ⟨w.heap.size + 1 + 1 + 1, 0, none⟩)] #[]) := Lib.cell_of_heap g4 4
      have hst := step_closing s _ wr HS.out
      clear HS
      rcases hst with hc | ⟨t, hp, hc⟩
      · go_wp2_with (go_at_call 21; (with_reducible refine hc.mono ?_); rintro e w2 ⟨rfl, hO, hS⟩; refine Hid.out ?_)
        refine Lib.hid ?_
        have q0 := (hO.other (by omega) (by omega)).trans g0
        have q1 := (hO.other (by omega) hlt1).trans g1
        have q2 := (hO.other (by omega) hlt2).trans g2
        have qB := BB.trans (hO.to (by omega))
        have q4 := (hO.other (by omega) hlt4).trans g4
        have qM := HM.only hO (by omega)
        clear c4 hc g0 g1 g2 g4 BB HM
        go_wp2_with fail
        go_roundw
        case rel => exact ⟨5, by omega, rfl, Lib.hid hS, q0, q1, q2, q4, qB, qM⟩
        case measure => simp [intOf]
      · go_wp2_with (go_at_call 21; (with_reducible refine hc.mono ?_); rintro e w2 ⟨rfl, hO⟩)
        have q0 := (hO.other (by omega) (by omega)).trans g0
        have q1 := (hO.other (by omega) hlt1).trans g1
        have q2 := (hO.other (by omega) hlt2).trans g2
        have qB := BB.trans (hO.to (by omega))
        refine leaves_cons (f := 16) (args := #[.pointer (some ⟨w.heap.size, 0, none⟩), .pointer (some ⟨w.heap.size + 1, 0, none⟩), .pointer (some ⟨w.heap.size + 1 + 1, 0, none⟩)]) (by simp) (by simp [go_sem]) ?_
        refine (catch_panic w.heap.size t 0 0 z6 w2 q0 rfl q1 q2).mono ?_
        rintro e u' w3 ⟨rfl, rfl, hR, h1, h2, hB⟩
        change Leaves _ _ _ _ [] .returning w3
        refine ⟨_, ret_rq3 rfl _ _ w.heap.size z6 rfl hR rfl ⟨w.heap.size + 1, 0, none⟩ ⟨w.heap.size + 2, 0, none⟩ rfl rfl 0 t h1 h2, ?_⟩
        exact parse_stop hp (qB.trans hB)
    · obtain ⟨a, j, v, z, hp, hj, hr, ho⟩ := HS.out
      obtain ⟨o, cp, rfl⟩ := own_slice ho
      obtain ⟨y0, y1, y2, y3, y4, y5⟩ := cells6 g0
      have x1 : wr.cell? ⟨w.heap.size + 1 + 1 + 1, 1, none⟩ = some (.int .i64 j) := hr.cell 1
      have x2 : wr.cell? ⟨w.heap.size + 1 + 1 + 1, 2, none⟩ = some (bs a.method) := hr.cell 2
      have x3 : wr.cell? ⟨w.heap.size + 1 + 1 + 1, 3, none⟩ = some (bs a.path) := hr.cell 3
      have x4 : wr.cell? ⟨w.heap.size + 1 + 1 + 1, 4, none⟩ = some (bs a.query) := hr.cell 4
      have x5 : wr.cell? ⟨w.heap.size + 1 + 1 + 1, 5, none⟩ = some (.slice o a.headers.length cp) := hr.cell 5
      have x6 : wr.cell? ⟨w.heap.size + 1 + 1 + 1, 6, none⟩ = some (bs a.body) := hr.cell 6
      have x7 : wr.cell? ⟨w.heap.size + 1 + 1 + 1, 7, none⟩ = some (.bool a.close) := hr.cell 7
      have f0 := frozen6 g0 0
      have f1 := frozen6 g0 1
      have f2 := frozen6 g0 2
      have f3 := frozen6 g0 3
      have f4 := frozen6 g0 4
      have f5 := frozen6 g0 5
      have t1 := cell_of_one g1
      have t2 := cell_of_one g2
      have u1 := free_of_one g1
      have u2 := free_of_one g2
      have HP := Lib.hid hp
      have HR := Lib.hid hr
      have HO := Lib.hid ho
      have G0 := Lib.hid g0
      have G1 := Lib.hid g1
      have G2 := Lib.hid g2
      clear HS hp hr ho g0 g1 g2 g4 HM
      go_wp2_with fail
      go_region
      all_goals go_wp2_with fail
      all_goals
        obtain ⟨W, hW⟩ : ∃ W, W = ((((((((wr.setCell ⟨w.heap.size, 0, none⟩ (bs a.method)).setCell ⟨w.heap.size, 1, none⟩ (bs a.path)).setCell ⟨w.heap.size, 2, none⟩ (bs a.query)).setCell ⟨w.heap.size, 3, none⟩ (.slice o a.headers.length cp)).setCell ⟨w.heap.size, 4, none⟩ (bs a.body)).setCell ⟨w.heap.size, 5, none⟩ (.bool a.close)).setCell ⟨w.heap.size + 1, 0, none⟩ (.int .i64 j)).setCell ⟨w.heap.size + 1 + 1, 0, none⟩ (.int .i64 200)).drew := ⟨_, rfl⟩
        obtain ⟨e1, e2, e3, e4, e5⟩ := done_set (a := a) (o := o) (cp := cp) (j := j) (hW := hW) G0.out G1.out G2.out HO.out BB
        rw [← hW]
        refine leaves_cons (f := 16) (args := #[.pointer (some ⟨w.heap.size, 0, none⟩), .pointer (some ⟨w.heap.size + 1, 0, none⟩), .pointer (some ⟨w.heap.size + 1 + 1, 0, none⟩)]) (by simp) (by simp [go_sem]) ?_
        refine (catch_idle w.heap.size W).mono ?_
        rintro e u' w3 ⟨rfl, rfl, rfl⟩
        change Leaves _ _ _ _ [] .returning w3
        refine ⟨_, ret_rq3 rfl _ _ w.heap.size _ rfl e1 rfl ⟨w.heap.size + 1, 0, none⟩ ⟨w.heap.size + 1 + 1, 0, none⟩ rfl rfl j 200 e2 e3, ?_⟩
        exact parse_whole HP.out hj e5 e4
end Go.Proofs.YtcgeiimihihhpaaGreatDoor.W18
