/-
  Walk of layer 19: the law ResponseBack. Conditions: the library's table; the argument's elements as the row's reading gives them.
-/
import Derived.Test.YtakbejphbnbepaaDoorWalkP
namespace Go.Proofs.YtakbejphbnbepaaDoor.W19
open Go Go.RowKit P19
attribute [local go_sem ↓] Go.wp_at_zero Go.wp_at_succ

/-- The length of the last one's text. -/
def lastLen (L : List Rep) : Nat := match L.getLast? with | none => 0 | some r => (writeL r).1.length
theorem lastLen_snoc (L : List Rep) (r : Rep) : lastLen (L ++ [r]) = (writeL r).1.length := by simp [lastLen]
theorem write_1000 (r : Rep) (h0 : -9223372036854775808 ≤ r.status) (h1 : r.status ≤ 9223372036854775807) : (writeL r).1.length ≤ 101000 := by
  unfold writeL
  by_cases h1 : reason r.status = []
  · rw [if_pos h1]; simp
  · by_cases h2 : 100000 < r.body.length
    · rw [if_neg h1, if_pos h2]; simp
    · rw [if_neg h1, if_neg h2]
      have := headL_len r.status r.body.length r.close h0 (by assumption) (by omega)
      simp
      omega

set_option maxRecDepth 100000 in
set_option maxHeartbeats 3200000 in
theorem back_law (o : Option Addr) (c0 n : Nat) (l : List Rep) (cut : Int) (w : World) (hn : l.length = n) (hcap : n * 32 ≤ 140737488355328) (hc0 : -9223372036854775808 ≤ cut) (hc1 : cut ≤ 9223372036854775807)
    (hr : ∀ r ∈ l, -9223372036854775808 ≤ r.status ∧ r.status ≤ 9223372036854775807 ∧ r.body.length ≤ maxLen)
    (hl : n = 0 ∨ ∃ g off, o = some ⟨g, off, none⟩ ∧ ∀ (j : Nat) (r : Rep), l[j]? = some r → w.cell? ⟨g, off + j * 3, none⟩ = some (.int .i64 r.status) ∧ w.cell? ⟨g, off + j * 3 + 1, none⟩ = some (bs r.body) ∧ w.cell? ⟨g, off + j * 3 + 2, none⟩ = some (.bool r.close)) (hT : Tab w) :
    Calls Tryd.prog 7 #[.slice o n c0, .int .i64 cut] w fun e w' => e = .returned (.bool true) ∧ Below w.heap.size w w' := by
  obtain ⟨i0, hi, hz0, hz1, hz2⟩ := info_parts infoR
  have HR := Lib.hid hr
  have HL := Lib.hid hl
  have HN := Lib.hid hn
  clear hr hl hn
  go_enter Tryd.func7, Tryd.ntmps7
  go_wp2_with fail
  refine (awake_any _ hT).mono ?_
  rintro e w1 ⟨rfl, hb1⟩
  go_wp2_with fail
  go_loopw [6, 7, 8, 9] (fun t v z i wr => ∃ (k : Nat) (T : ByteArray) (L : List Rep), k ≤ n ∧ i = .int .i64 k ∧ t = .string T ∧ z = .int .i64 (lastLen L : Nat) ∧ T.data.toList = texts L ∧ T.size ≤ k * 101000 ∧ L.length ≤ k ∧ lastLen L ≤ T.size ∧ (∀ r ∈ L, (writeL r).2 = 0) ∧
      wr.ownsRow w.heap.size 25 3 v L.length (cellsL L) ∧ Below w.heap.size w wr) (fun _ _ _ i _ => n - (intOf i).toNat)
  case atStart => exact ⟨0, ⟨#[]⟩, [], by omega, rfl, rfl, rfl, rfl, Nat.le_of_eq rfl, Nat.le_refl _, Nat.zero_le _, by simp, World.ownsRow_nil _ _ _ _, hb1⟩
  case round =>
    obtain ⟨k, T, L, hk, rfl, rfl, rfl, hTt, hTs, hLk, hlast, hgood, hown, hB⟩ := hrel
    have hT1 := hT.keep hB
    have HG := Lib.hid hgood
    have HT := Lib.hid hTt
    have HO := Lib.hid hown
    by_cases hlt : k < n
    · obtain ⟨g, off, rfl, hcells⟩ := HL.out.resolve_left (by omega)
      obtain ⟨r, hrk⟩ : ∃ r, l[k]? = some r := ⟨l[k]'(by rw [HN.out]; exact hlt), List.getElem?_eq_getElem _⟩
      obtain ⟨a0, a1, a2⟩ := hcells k r hrk
      obtain ⟨r0, r1, r2⟩ := HR.out r (List.mem_of_getElem? hrk)
      replace a0 := keep_cell hB a0
      replace a1 := keep_cell hB a1
      replace a2 := keep_cell hB a2
      obtain ⟨b, hb⟩ : ∃ b : ByteArray, b = ⟨r.body.toArray⟩ := ⟨_, rfl⟩
      rw [show bs r.body = .string b by rw [hb]] at a1
      have hrb : r = ⟨r.status, b.data.toList, r.close⟩ := by rw [hb]
      obtain ⟨X, E, hX⟩ := write_named r
      have hX' : writeL ⟨r.status, b.data.toList, r.close⟩ = (X.data.toList, E) := by rw [← hrb]; exact hX
      have hbm : b.size ≤ maxLen := by rw [hb, size_mk]; exact r2
      have hXs : X.size ≤ 101000 := by have := write_1000 r r0 r1; rw [hX] at this; simpa [size_data] using this
      have HX := Lib.hid hX
      have HX' := Lib.hid hX'
      have HRB := Lib.hid hrb
      generalize hst : r.status = st at *
      generalize hcl : r.close = c at *
      clear hX hX' hcells hrk hb hgood hTt hown hrb
      have hadd : ∀ w, (Op.stringOp .add T X).run Tryd.prog w = .ok (.string (T ++ X)) w := fun w => run_string_add_sum w T X (by omega)
      have hk0 : (0 : Int) ≤ (k : Int) := by omega
      have hk1 : (k : Int) < (n : Int) := by omega
      go_wp2_with fail
      refine (Write_as st b c X E HX'.out _ r0 r1 hbm hT1).mono ?_
      rintro e w2 ⟨rfl, hb2⟩
      replace a0 := keep_cell hb2 a0
      replace a1 := keep_cell hb2 a1
      replace a2 := keep_cell hb2 a2
      have hown2 := own_keep HO.out hb2
      have hs1 := hB.size
      have hs2 := hb2.size
      by_cases hE : E = 0
      · subst hE
        go_wp2_with (at_builtin; refine wpList_append_own _ rfl _ _ 33 rfl w.heap.size 25 i0 (.agg #[.int .i64 0, .string ⟨#[]⟩, .bool false]) 3 32 Tryd.underlying33 hi hz0 hz1 hz2 rfl (by decide) _ _ _ rfl (hown2.alloc _) ⟨w2.heap.size, 0, none⟩ 1 1 [.int .i64 st, .string b, .bool c] rfl rfl ?c1 ?c2 ?c3 ?c4 ?c5 ?_)
        case c1 => exact news_at w2 [.int .i64 st, .string b, .bool c] 25
        case c2 =>
          intro u hu
          simp only [List.mem_cons, List.mem_nil_iff, or_false] at hu
          rcases hu with rfl | rfl | rfl <;> rfl
        case c3 => unfold maxLen; omega
        case c4 => omega
        case c5 => simp; omega
        · intro v' w3 hown' hgrow _
          have hB3 : Below w.heap.size w w3 := (((hB.trans (hb2.mono hs1)).alloc (by omega) _).grown hgrow (by simp; omega) (fun j e => (hown2.lt j e).1))
          clear hgrow hown2
          go_wp2_with fail
          go_roundw
          case rel =>
            have ec : cellsR r = [.int .i64 st, .string b, .bool c] := by unfold cellsR; rw [hst, hcl, HRB.out, bs_data]
            have hwr : writeL r = (X.data.toList, 0) := HX.out
            refine ⟨k + 1, T ++ X, L ++ [r], by omega, by go_num, rfl, ?_, ?_, ?_, ?_, ?_, ?_, ?_, hB3⟩
            · rw [lastLen_snoc, hwr, size_data]
            · rw [texts_snoc, hwr, ByteArray.data_append, Array.toList_append, HT.out]
            · rw [ByteArray.size_append]; omega
            · simp; omega
            · rw [lastLen_snoc, hwr, size_data, ByteArray.size_append]; omega
            · intro q hq
              rcases List.mem_append.1 hq with hq | hq
              · exact HG.out q hq
              · rw [List.mem_singleton.1 hq, hwr]
            · rw [cellsL_snoc, List.length_append, ec]; exact hown'
          case measure => simp [intOf]; omega
      · have hEb : (E == 0) = false := ne_bool hE
        clear hE
        go_wp2_with fail
        go_roundw
        case rel => exact ⟨k + 1, T, L, by omega, by go_num, rfl, rfl, HT.out, Nat.le_trans hTs (Nat.mul_le_mul_right _ (Nat.le_succ k)), Nat.le_succ_of_le hLk, hlast, HG.out, hown2, hB.trans (hb2.mono hs1)⟩
        case measure => simp [intOf]; omega
    · obtain rfl : k = n := by omega
      have hLcap : L.length * 32 ≤ 140737488355328 := Nat.le_trans (Nat.mul_le_mul_right _ hLk) hcap
      have hTb : T.size ≤ 9223372036854700000 := by omega
      obtain ⟨Z, hZ⟩ : ∃ Z : ByteArray, Z = T ++ ⟨#[13, 10]⟩ := ⟨_, rfl⟩
      have hZs : Z.size ≤ 9223372036854770000 := by rw [hZ, ByteArray.size_append]; have : (⟨#[13, 10]⟩ : ByteArray).size = 2 := rfl; omega
      have hadd : ∀ w, (Op.stringOp .add T ⟨#[13, 10]⟩).run Tryd.prog w = .ok (.string Z) w := fun w => by rw [hZ]; exact run_string_add_sum w T ⟨#[13, 10]⟩ (by have : (⟨#[13, 10]⟩ : ByteArray).size = 2 := rfl; omega)
      have hall : allL Z.data.toList = (L, T.size) := by
        rw [hZ, ByteArray.data_append, Array.toList_append, HT.out, show (⟨#[13, 10]⟩ : ByteArray).data.toList = [13, 10] from rfl, allL_texts L [13, 10] HG.out readL_crlf, ← HT.out, size_data]
      have hcapZ : (allL Z.data.toList).1.length * 32 ≤ 140737488355328 := by rw [hall]; exact hLcap
      have HALL := Lib.hid hall
      clear hZ hall hgood hTt
      go_wp2_with fail
      have q1 := All_any Z wr hT1 hZs hcapZ
      refine q1.mono ?_
      clear q1
      rintro e w2 ⟨v2, rfl, hO2, hb2⟩
      rw [HALL.out] at hO2 ⊢
      simp only at hO2 ⊢
      have hown2 := own_keep HO.out hb2
      have hB2 := hB.trans (hb2.mono hB.size)
      have hT2 := hT1.keep hb2
      go_wp2_with fail
      have q2 := Same_any _ _ L w2 (by omega) (rows_of_own hO2) (rows_of_own hown2)
      refine q2.mono ?_
      clear q2
      rintro e w3 ⟨rfl, hb3⟩
      have hB3 := hB2.trans (hb3.mono hB2.size)
      have hT3 := hT2.keep hb3
      obtain ⟨og, cg, hvg, -⟩ := rows_of_own hown2
      clear hown2 hO2 hown
      by_cases h1 : cut < 1
      · go_wp2_with fail
        go_ret
        exact ⟨rfl, hB3⟩
      · by_cases h2 : (lastLen L : Int) < cut
        · go_wp2_with fail
          go_ret
          exact ⟨rfl, hB3⟩
        · go_wp2_with fail
          obtain ⟨L', r, rfl⟩ : ∃ L' r, L = L' ++ [r] := by
            rcases List.eq_nil_or_concat L with rfl | ⟨L', r, rfl⟩
            · exfalso
              have : lastLen [] = 0 := rfl
              rw [this] at h2
              omega
            · exact ⟨L', r, by simp⟩
          obtain ⟨c, rfl⟩ : ∃ c : Nat, cut = c := ⟨cut.toNat, by omega⟩
          have hq : lastLen (L' ++ [r]) = (writeL r).1.length := lastLen_snoc L' r
          have hsz : T.size = (texts L').length + lastLen (L' ++ [r]) := by rw [hq, ← size_data, HT.out, texts_snoc, List.length_append]
          have e0 : ((T.size : Int) - (c : Int)).toNat = T.size - c := by omega
          rw [e0]
          clear e0
          obtain ⟨Y, hY⟩ : ∃ Y : ByteArray, Y = T.extract 0 (T.size - c) := ⟨_, rfl⟩
          rw [← hY]
          have hYd : Y.data.toList = (texts (L' ++ [r])).take ((texts (L' ++ [r])).length - c) := by
            rw [hY, ← HT.out, size_data]
            simp
          have hall2 : allL Y.data.toList = (L', (texts L').length) := by
            rw [hYd]
            exact allL_cut L' r HG.out c (by omega) (by omega)
          have hYs : Y.size ≤ 9223372036854770000 := by rw [hY, ByteArray.size_extract]; omega
          have hlen : (L' ++ [r]).length = L'.length + 1 := by simp
          have hcapY : (allL Y.data.toList).1.length * 32 ≤ 140737488355328 := by rw [hall2]; show L'.length * 32 ≤ _; omega
          have HALL2 := Lib.hid hall2
          rw [hlen]
          clear hall2 hYd hq hlen
          have q3 := All_any Y w3 hT3 hYs hcapY
          refine q3.mono ?_
          clear q3 hcapY
          rintro e w4 ⟨v4, rfl, hO4, hb4⟩
          rw [HALL2.out] at hO4 ⊢
          simp only at hO4 ⊢
          obtain ⟨oy, cy, rfl, -⟩ := rows_of_own hO4
          clear hO4
          have hB4 := hB3.trans (hb4.mono hB3.size)
          have hz : (T.size : Int) - (lastLen (L' ++ [r]) : Int) = ((texts L').length : Int) := by omega
          have hq2 : lastLen (L' ++ [r]) ≤ T.size := by omega
          have hp : L'.length ≤ 140737488355328 := by simp at hLcap; omega
          rename_i hh
          clear hh
          clear HT HG HALL HALL2 HR HL HN HO hT hT1 hT2 hT3 hcap hsz hY hcapZ hadd hLcap hLk hlast
          clear hb2 hb3 hb4 hB hB2 hB3 hTs hZs hYs h1 h2 hc0 hc1 hk hlt
          generalize (texts L').length = m at hz ⊢
          generalize lastLen (L' ++ [r]) = q at hz hq2 ⊢
          generalize L'.length = p at hp ⊢
          go_wp2_with fail
          go_ret
          exact ⟨rfl, hB4⟩
end Go.Proofs.YtakbejphbnbepaaDoor.W19
