/- PolicyFirst: whatever the outputs, the default and the mask, soffitlaw17.PolicyFirst gives true; all three read behind the call as before. Its condition: the listed variables hold what their initialisers lay. -/
import Derived.Test.YtfhmjkdpohepaaaDoorLawFirst
import Derived.Test.YtfhmjkdpohepaaaDoorOpenV
import Derived.Test.YtfhmjkdpohepaaaDoorEntry
set_option linter.unusedSimpArgs false
set_option linter.unusedVariables false
namespace Go.Proofs.YtfhmjkdpohepaaaDoor
open Go.ChangeShapes Go.WideShapes Go.ChangeAt Go.RowKit Go.Lib

set_option maxRecDepth 100000 in
theorem policyFirst_contract (H : Type) (enc : TypeId × Value → H) (W : World) (base : Nat) (args : Array Value) (ds gs : List (DataW H)) (before : List MemPlace)
    (hval : ∀ (j : Nat) t v, Tryd.f7.params[j]? = some t → args[j]? = some v → Value.okWide Tryd.prog W .any base t v)
    (hW : DataW.Whole enc Tryd.prog Tryd.f7.params.toList Rows.policyFirstSpec.vars false W args.toList ds gs before) (hL : laidMetH Tryd.prog Rows.policyFirstRow.laid W) :
    Calls Tryd.prog 7 args W fun e W' => ∃ v, e = .returned v ∧ Rows.policyFirstSpec.post enc Tryd.prog Tryd.f7 false true false false W args v W' := by
  have hW' := hW
  obtain ⟨p, q, hA0, hV, rfl, hfz, hnd⟩ := hW
  have hA : DataW.TrodAll enc Tryd.prog W 0 (fun _ => true) true Tryd.f7.params.toList args.toList ds p := hA0
  clear hA0
  rw [Tryd.params7] at hA hval
  obtain ⟨v0, v1, v2, d0, d1, d2, p0, p1, p2, rfl, rfl, rfl, h0, h1, h2⟩ := trodAll_three hA
  obtain ⟨n0, o0⟩ := arg_slice Tryd.underlying22 (hval 0 _ v0 rfl rfl) h0
  obtain ⟨A, os, ca, e0, rA, okA, lA, _⟩ := open_list Vl.cells5 Vl.wf Tryd.underlying22 cV (by decide) (fun _ _ _ h => open_val h) o0
  obtain rfl := List.cons.inj e0 |>.1
  obtain ⟨cs1, k1, rfl, o1⟩ := arg_struct Tryd.underlying26 (hval 1 _ v1 rfl rfl) h1
  obtain ⟨df, rfl, wd⟩ := open_val o1
  obtain ⟨m, rfl, rfl, rfl, _⟩ := open_int Tryd.underlying35 (hval 2 _ v2 rfl rfl) h2
  have hL' : laidMet Tryd.prog Rows.policyFirstRow.laid W := hL
  have hE : Env W := ⟨tabs_of hL' (by first | exact .head _ | exact .tail _ (.head _) | exact .tail _ (.tail _ (.head _)) | exact .tail _ (.tail _ (.tail _ (.head _)))) (by first | exact .head _ | exact .tail _ (.head _) | exact .tail _ (.tail _ (.head _)) | exact .tail _ (.tail _ (.tail _ (.head _))))⟩
  refine (lawFirst_any os df m A ca W rA okA wd lA hE).mono ?_
  rintro e W' ⟨rfl, hb⟩
  exact ⟨_, rfl, post_true rfl (by kernel_rfl) hW' (by kernel_rfl) (fun gs hg => by subst hg; rfl) hb⟩

/-- what the witness reads as -/
theorem policyFirst_reads (os : Os) {H : Type} (enc : TypeId × Value → H) :
    ∃ places, DataW.whole enc Tryd.prog ((laidWorld os).forCall (fun _ _ => 0) ⟨#[], #[.slice none 0 0, .agg #[.int .i64 0, .int .i64 0, .int .i64 0, .string ⟨#[]⟩, .int .i64 0], .int .u16 0], []⟩).memory Tryd.f7.params.toList Rows.policyFirstSpec.vars false (#[.slice none 0 0, .agg #[.int .i64 0, .int .i64 0, .int .i64 0, .string ⟨#[]⟩, .int .i64 0], .int .u16 0] : Array Value).toList 8 = some ([.nil, .agg [.lit (.int .i64 0), .agg [.lit (.int .i64 0), .lit (.int .i64 0)], .lit (.string []), .lit (.int .i64 0)], .lit (.int .u16 0)], [], places) :=
  ⟨[], by kernel_rfl⟩
theorem policyFirst_met (os : Os) : laidMet Tryd.prog Rows.policyFirstRow.laid ((laidWorld os).forCall (fun _ _ => 0) ⟨#[], #[.slice none 0 0, .agg #[.int .i64 0, .int .i64 0, .int .i64 0, .string ⟨#[]⟩, .int .i64 0], .int .u16 0], []⟩).memory :=
  laidMet_of_run' 8 (by kernel_rfl) (by kernel_rfl)

set_option maxRecDepth 100000 in
set_option maxHeartbeats 2000000 in
theorem policyFirst_lifted (os : Os) (started : os.Started) (H : Type) (enc : TypeId × Value → H) (F : Stop.Interp) :
    ReturnsInHanded {} Tryd.checked os 7 .any ((OpenSpec.ofChange Rows.policyFirstSpec).preRow enc Tryd.prog Tryd.f7 Rows.policyFirstRow.domain false Rows.policyFirstRow.laid) (((OpenSpec.ofChange Rows.policyFirstSpec).at F).post enc Tryd.prog Tryd.f7 false true false false) := by
  obtain ⟨places, hx⟩ := policyFirst_reads os enc
  refine returnsInHanded_of_row (C := Tryd.checked) (s := OpenSpec.ofChange Rows.policyFirstSpec) own started (by kernel_rfl) Tryd.func7
    (witness_row_at (enc := enc) (C := Tryd.checked) false (laidWorld os) #[.slice none 0 0, .agg #[.int .i64 0, .int .i64 0, .int .i64 0, .string ⟨#[]⟩, .int .i64 0], .int .u16 0] rfl (by kernel_rfl) (by kernel_rfl) (by kernel_rfl)
      (OpenSpec.preRow_of_cond 8 hx (by kernel_rfl) (fun k hk => by cases hk) (by kernel_rfl) (policyFirst_met os))) ?_
  intro W base args ds gs before hval hW _ _ _ hL _ _
  exact policyFirst_contract H enc W base args ds gs before hval hW hL

theorem policyFirst_said : Rows.PolicyFirstSaid :=
  OpenClaim.holds_of_cond 7 Tryd.f7 rfl rfl rfl rfl rfl rfl rfl ⟨rfl, rfl, rfl, rfl, rfl⟩ rfl rfl rfl rfl rfl (by kernel_rfl) Tryd.func7 (by kernel_rfl)
    (of_decide_eq_true (by kernel_rfl)) (by unfold Func.isWrapper; first | (rw [if_pos (by decide +kernel)]; kernel_rfl) | (rw [if_neg (by decide +kernel)]; exact ⟨rfl, rfl⟩))
    (fun os started H enc _ F => by rw [OpenClaim.pre_eq_preRow]; exact policyFirst_lifted os started H enc F)

theorem policyFirst_plain (f : FuncId) (fn : Func) (hf : Tryd.pinned.checked.prog.funcNamed "soffit/soffitlaw17.PolicyFirst" = some f) (hfn : Tryd.pinned.checked.prog.funcs[f]? = some fn) :
    false = Tryd.pinned.checked.prog.looks [] ∧ ∀ (j : Nat) t, fn.params[j]? = some t → Tryd.pinned.checked.prog.wantsStandIn t = false := by
  obtain rfl : f = 7 := Option.some.inj ((show Tryd.prog.funcNamed "soffit/soffitlaw17.PolicyFirst" = some 7 by kernel_rfl).symm.trans hf) |>.symm
  obtain rfl : fn = Tryd.f7 := (Option.some.inj (Tryd.func7.symm.trans hfn)).symm
  refine ⟨by kernel_rfl, fun j t ht => ?_⟩
  have hall : (Tryd.f7.params.all fun t => Tryd.pinned.checked.prog.wantsStandIn t == false) = true := by kernel_rfl
  have := Array.all_eq_true'.1 hall t (Array.mem_of_getElem? ht)
  simpa using this
/-- ████ THE CARD ████ -/
theorem policyFirst_card : Rows.PolicyFirstCardSaid :=
  Claim7.holds_tied_plain_at .later [] _ _ _ _ policyFirst_said (fun _ h => by cases h) (by kernel_rfl) (fun _ h => by cases h) policyFirst_row_tie rfl ⟨rfl, rfl⟩ (by kernel_rfl) rfl policyFirst_plain (by kernel_rfl)
#print axioms policyFirst_card
end Go.Proofs.YtfhmjkdpohepaaaDoor
