/-
  The card of RouterAnswers. Conditions: those of the row and its card.
-/
import Derived.Test.YtfkmgnldkmpeiaaGreatDoorGbz
import Derived.Test.YtfkmgnldkmpeiaaGreatDoorGbb

namespace Go.Proofs.YtfkmgnldkmpeiaaGreatDoor
open Go Go.ChangeShapes Go.WideShapes Go.ChangeAt Go.RowKit
namespace RouterAnswers
theorem reads (os : Os) {H : Type} (enc : TypeId × Value → H) : ∃ places, DataW.whole enc Tryz.prog ((laidWorld os).forCall (fun _ _ => 0) ⟨#[], #[.agg #[.int .i64 0, .int .i64 0, .int .i64 0, .int .i64 0, .string ⟨#[]⟩, .int .i64 0], .int .i64 0, .slice none 0 0, .slice none 0 0, .slice none 0 0], []⟩).memory Tryz.f8.params.toList Rows.routerAnswersSpec.vars false (#[.agg #[.int .i64 0, .int .i64 0, .int .i64 0, .int .i64 0, .string ⟨#[]⟩, .int .i64 0], .int .i64 0, .slice none 0 0, .slice none 0 0, .slice none 0 0] : Array Value).toList 8 = some ([.agg [.lit (.int .i64 0), .lit (.int .i64 0), .lit (.int .i64 0), .lit (.int .i64 0), .lit (.string []), .lit (.int .i64 0)], .lit (.int .i64 0), .nil, .nil, .nil], [], places) :=
  ⟨[], by kernel_rfl⟩

set_option maxRecDepth 100000 in
theorem lifted (os : Os) (started : os.Started) (H : Type) (enc : TypeId × Value → H) (F : Stop.Interp) :
    ReturnsInHanded {} Tryz.checked os 8 .any ((OpenSpec.ofChange Rows.routerAnswersSpec).preRow enc Tryz.prog Tryz.f8 Rows.routerAnswersRow.domain false Rows.routerAnswersRow.laid) (((OpenSpec.ofChange Rows.routerAnswersSpec).at F).post enc Tryz.prog Tryz.f8 false true false false) := by
  obtain ⟨places, hx⟩ := reads os enc
  refine returnsInHanded_of_row (C := Tryz.checked) (s := OpenSpec.ofChange Rows.routerAnswersSpec) own started (by kernel_rfl) Tryz.func8
    (witness_row_at (enc := enc) (C := Tryz.checked) false (laidWorld os) #[.agg #[.int .i64 0, .int .i64 0, .int .i64 0, .int .i64 0, .string ⟨#[]⟩, .int .i64 0], .int .i64 0, .slice none 0 0, .slice none 0 0, .slice none 0 0] rfl (by kernel_rfl) (by kernel_rfl) (by kernel_rfl)
      (OpenSpec.preRow_of_cond 8 hx (by kernel_rfl) (fun k hk => by cases hk) (by kernel_rfl) (laid_met os _))) ?_
  intro W base args ds gs before hval hW _ _ hsz hL hS _
  have hW' := hW
  obtain ⟨p, q, hA0, hV0, -, -, -⟩ := hW
  obtain ⟨rfl, rfl⟩ := trodVars_none hV0
  have hA : DataW.TrodAll enc Tryz.prog W 0 (fun _ => true) true Tryz.f8.params.toList args.toList ds p := hA0
  rw [Tryz.params8] at hA hval
  have hE := env_of_laid hL
  have hM := maxl_of hS
  obtain ⟨v0, vs0, d0, ds0, p0, q0, hargs, rfl, rfl, h0, r0⟩ := trodAll_cons hA
  obtain ⟨v1, vs1, d1, ds1, p1, q1, rfl, rfl, rfl, h1, r1⟩ := trodAll_cons r0
  obtain ⟨v2, vs2, d2, ds2, p2, q2, rfl, rfl, rfl, h2, r2⟩ := trodAll_cons r1
  obtain ⟨v3, vs3, d3, ds3, p3, q3, rfl, rfl, rfl, h3, r3⟩ := trodAll_cons r2
  obtain ⟨v4, vs4, d4, ds4, p4, q4, rfl, rfl, rfl, h4, r4⟩ := trodAll_cons r3
  obtain ⟨rfl, rfl, rfl⟩ := trodAll_nil r4
  obtain rfl : args = #[v0, v1, v2, v3, v4] := by cases args; simp_all
  have k0 := hval 0 _ v0 rfl rfl
  have k1 := hval 1 _ v1 rfl rfl
  have k2 := hval 2 _ v2 rfl rfl
  have k3 := hval 3 _ v3 rfl rfl
  have k4 := hval 4 _ v4 rfl rfl
  clear hA0
  have walk : Calls Tryz.prog 8 #[v0, v1, v2, v3, v4] W fun e W' => e = .returned (.bool true) ∧ Below W.heap.size W W' := by
    obtain ⟨k, f, q, c, e, R, rfl, hf, hq, hc, he⟩ := W20.open_dn k0 h0
    obtain ⟨n, rfl, rfl, hp1, hw1⟩ := open_int Tryz.underlying3 k1 h1
    obtain ⟨n2, y2, t2, e2⟩ := W20.arg_slice Tryz.underlying26 k2 h2
    obtain ⟨ls, hls, hlr, hlc⟩ := W20.open_fldsT t2
    obtain ⟨n3, y3, t3, e3⟩ := W20.arg_slice Tryz.underlying38 k3 h3
    obtain ⟨le, hle, her, hec⟩ := W20.open_entsT t3
    obtain ⟨n4, y4, t4, e4⟩ := W20.arg_slice Tryz.underlying61 k4 h4
    obtain ⟨lr, hlr4, hrr, hrc⟩ := W20.open_rowsT t4
    rw [e2] at hlc
    rw [e3] at hec
    rw [e4] at hrc
    have z2 := W20.sized_counts hsz (j := 2) (t := 26) (e := 54) rfl rfl Tryz.underlying26 hlc
    rw [W20.bytesFld] at z2
    obtain ⟨s1, s2⟩ := W20.ents_sizes hsz (j := 3) rfl rfl hec
    have z4 := W20.sized_counts hsz (j := 4) (t := 61) (e := 111) rfl rfl Tryz.underlying61 hrc
    rw [W20.bytesRow] at z4
    have hrb : reachBytes + 80 ≤ 140737488355328 := by decide
    exact W20.answers_law k f q c R e n v2 v3 v4 ls le lr W hE hM hf hq hc he (W20.wf_int hw1) hls (by omega) hlr hle (by omega) (fun x hx => ⟨her x hx, s2 x hx⟩) hlr4 (by omega) hrr
  refine walk.mono fun e W' ⟨he, hB⟩ => ⟨_, he, ?_⟩
  exact post_true (f := Tryz.f8) (s := Rows.routerAnswersSpec) hW' rfl laidOut (by kernel_rfl) (by kernel_rfl) Tryz.underlying4 rfl hB

theorem said : Rows.RouterAnswersSaid :=
  OpenClaim.holds_of_cond 8 Tryz.f8 rfl rfl rfl rfl rfl rfl rfl ⟨rfl, rfl, rfl, rfl, rfl⟩ rfl rfl rfl rfl rfl (by kernel_rfl) Tryz.func8 (by kernel_rfl)
    (of_decide_eq_true (by kernel_rfl)) (by unfold Func.isWrapper; first | (rw [if_pos (by decide +kernel)]; kernel_rfl) | (rw [if_neg (by decide +kernel)]; exact ⟨rfl, rfl⟩))
    (fun os started H enc _ F => by rw [OpenClaim.pre_eq_preRow]; exact lifted os started H enc F)

theorem plain (f : FuncId) (fn : Func) (hf : Tryz.pinned.checked.prog.funcNamed "cartulary/cartularylaw20.RouterAnswers" = some f) (hfn : Tryz.pinned.checked.prog.funcs[f]? = some fn) :
    true = Tryz.pinned.checked.prog.looks [] ∧ ∀ (j : Nat) t, fn.params[j]? = some t → Tryz.pinned.checked.prog.wantsStandIn t = false := by
  obtain rfl : f = 8 := Option.some.inj ((show Tryz.prog.funcNamed "cartulary/cartularylaw20.RouterAnswers" = some 8 by kernel_rfl).symm.trans hf) |>.symm
  obtain rfl : fn = Tryz.f8 := (Option.some.inj (Tryz.func8.symm.trans hfn)).symm
  refine ⟨by kernel_rfl, fun j t ht => ?_⟩
  rw [Tryz.params8] at ht
  have hm := Array.mem_of_getElem? ht
  simp only [List.mem_toArray, List.mem_cons, List.not_mem_nil, or_false] at hm
  rcases hm with rfl | rfl | rfl | rfl | rfl
  · exact (show Tryz.prog.wantsStandIn 60 = false by kernel_rfl)
  · exact (show Tryz.prog.wantsStandIn 3 = false by kernel_rfl)
  · exact (show Tryz.prog.wantsStandIn 26 = false by kernel_rfl)
  · exact (show Tryz.prog.wantsStandIn 38 = false by kernel_rfl)
  · exact (show Tryz.prog.wantsStandIn 61 = false by kernel_rfl)

theorem card : Rows.RouterAnswersCardSaid :=
  Claim7.holds_tied_plain_at .later [] _ _ _ _ said (fun _ h => by cases h) (by kernel_rfl) (fun _ h => by cases h) routerAnswers_row_tie rfl ⟨rfl, rfl⟩ (by kernel_rfl) rfl plain (by kernel_rfl)
end RouterAnswers
end Go.Proofs.YtfkmgnldkmpeiaaGreatDoor
