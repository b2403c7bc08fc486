/-
  The card of FormBack. Conditions: those of the row and its card.
-/
import Derived.Test.YtmcnblibnbkfjaaDoorOpen
import Derived.Test.YtmcnblibnbkfjaaDoorWalkR
import Derived.Test.YtmcnblibnbkfjaaDoorOpenS
namespace Go.Proofs.YtmcnblibnbkfjaaDoor
open Go Go.ChangeShapes Go.WideShapes Go.ChangeAt Go.RowKit
namespace FormBack
theorem reads (os : Os) {H : Type} (enc : TypeId × Value → H) : ∃ places, DataW.whole enc Tryd.prog ((laidWorld os).forCall (fun _ _ => 0) ⟨#[], #[.slice none 0 0, .string ⟨#[]⟩], []⟩).memory Tryd.f5.params.toList Rows.formBackSpec.vars false (#[.slice none 0 0, .string ⟨#[]⟩] : Array Value).toList 8 = some ([.nil, .lit (.string [])], [], places) :=
  ⟨[], by kernel_rfl⟩

set_option maxRecDepth 100000 in
theorem lifted (os : Os) (started : os.Started) (H : Type) (enc : TypeId × Value → H) (F : Stop.Interp) :
    ReturnsInHanded {} Tryd.checked os 5 .any ((OpenSpec.ofChange Rows.formBackSpec).preRow enc Tryd.prog Tryd.f5 Rows.formBackRow.domain false Rows.formBackRow.laid) (((OpenSpec.ofChange Rows.formBackSpec).at F).post enc Tryd.prog Tryd.f5 false true false false) := by
  obtain ⟨places, hx⟩ := reads os enc
  refine returnsInHanded_of_row (C := Tryd.checked) (s := OpenSpec.ofChange Rows.formBackSpec) own started (by kernel_rfl) Tryd.func5
    (witness_row_at (enc := enc) (C := Tryd.checked) false (laidWorld os) #[.slice none 0 0, .string ⟨#[]⟩] rfl (by kernel_rfl) (by kernel_rfl) (by kernel_rfl)
      (OpenSpec.preRow_of_cond 8 hx (by kernel_rfl) (fun k hk => by cases hk) (by kernel_rfl) (laid_met os _))) ?_
  intro W base args ds gs before hval hW _ _ hsz hL _ _
  have hW' := hW
  obtain ⟨p, q, hA0, hV0, -, -, -⟩ := hW
  obtain ⟨rfl, rfl⟩ := trodVars_none hV0
  have hA : DataW.TrodAll enc Tryd.prog W 0 (fun _ => true) true Tryd.f5.params.toList args.toList ds p := hA0
  rw [Tryd.params5] at hA hval
  have hT := env_of_laid hL
  obtain ⟨v0, vs0, d0, ds0, p0, q0, hargs, rfl, rfl, h0, r0⟩ := trodAll_cons hA
  obtain ⟨v1, vs1, d1, ds1, p1, q1, rfl, rfl, rfl, h1, r1⟩ := trodAll_cons r0
  obtain ⟨rfl, rfl, rfl⟩ := trodAll_nil r1
  obtain rfl : args = #[v0, v1] := by cases args; simp_all
  have k0 := hval 0 _ v0 rfl rfl
  have k1 := hval 1 _ v1 rfl rfl
  clear hA0
  have walk : Calls Tryd.prog 5 #[v0, v1] W fun e W' => e = .returned (.bool true) ∧ Below W.heap.size W W' := by
    obtain ⟨l, hr, hx, hd⟩ := W12.open_flds k0 h0
    obtain ⟨t, rfl, rfl, hp, hm⟩ := ChangeMaps.open_string Tryd.underlying9 k1 h1
    have hlen : l.length ≤ 4611686018427387904 := by
      rcases hd with ⟨-, h⟩ | ⟨es, sp, rfl, he⟩
      · rw [h]; exact Nat.zero_le _
      · have hs : (es.length + sp.length) * Tryd.prog.bytesOf 38 ≤ reachBytes := sized_slice hsz (j := 0) (t := 23) (e := 38) rfl rfl Tryd.underlying23
        rw [W12.bytesF] at hs
        have := reachBytes_lt
        omega
    have hst := sized_string hsz (j := 1) (t := 9) rfl rfl
    have hrb := reachBytes_lt
    rw [← size_data] at hm
    exact W12.back_law v0 l t W hT hr hlen (fun f hf => (hx f hf).1) (by rw [← size_data]; omega)
  refine walk.mono fun e W' ⟨he, hB⟩ => ⟨_, he, ?_⟩
  exact post_true (f := Tryd.f5) (s := Rows.formBackSpec) hW' rfl laidOut (by kernel_rfl) (by kernel_rfl) Tryd.underlying4 rfl hB

theorem said : Rows.FormBackSaid :=
  OpenClaim.holds_of_cond 5 Tryd.f5 rfl rfl rfl rfl rfl rfl rfl ⟨rfl, rfl, rfl, rfl, rfl⟩ rfl rfl rfl rfl rfl (by kernel_rfl) Tryd.func5 (by kernel_rfl)
    (of_decide_eq_true (by kernel_rfl)) (by unfold Func.isWrapper; first | (rw [if_pos (by decide +kernel)]; kernel_rfl) | (rw [if_neg (by decide +kernel)]; exact ⟨rfl, rfl⟩))
    (fun os started H enc _ F => by rw [OpenClaim.pre_eq_preRow]; exact lifted os started H enc F)

theorem plain (f : FuncId) (fn : Func) (hf : Tryd.pinned.checked.prog.funcNamed "cartulary/cartularylaw12.FormBack" = some f) (hfn : Tryd.pinned.checked.prog.funcs[f]? = some fn) :
    true = Tryd.pinned.checked.prog.looks [] ∧ ∀ (j : Nat) t, fn.params[j]? = some t → Tryd.pinned.checked.prog.wantsStandIn t = false := by
  obtain rfl : f = 5 := Option.some.inj ((show Tryd.prog.funcNamed "cartulary/cartularylaw12.FormBack" = some 5 by kernel_rfl).symm.trans hf) |>.symm
  obtain rfl : fn = Tryd.f5 := (Option.some.inj (Tryd.func5.symm.trans hfn)).symm
  refine ⟨by kernel_rfl, fun j t ht => ?_⟩
  rw [Tryd.params5] at ht
  have hm := Array.mem_of_getElem? ht
  simp only [List.mem_toArray, List.mem_cons, List.not_mem_nil, or_false] at hm
  rcases hm with rfl | rfl
  · exact (show Tryd.prog.wantsStandIn 23 = false by kernel_rfl)
  · exact (show Tryd.prog.wantsStandIn 9 = false by kernel_rfl)

theorem card : Rows.FormBackCardSaid :=
  Claim7.holds_tied_plain_at .later [] _ _ _ _ said (fun _ h => by cases h) (by kernel_rfl) (fun _ h => by cases h) formBack_row_tie rfl ⟨rfl, rfl⟩ (by kernel_rfl) rfl plain (by kernel_rfl)
end FormBack
end Go.Proofs.YtmcnblibnbkfjaaDoor
