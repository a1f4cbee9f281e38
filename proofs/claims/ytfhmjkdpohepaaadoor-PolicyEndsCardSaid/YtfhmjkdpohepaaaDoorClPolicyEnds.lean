/- PolicyEnds: whatever the outputs and the mask, soffitlaw17.PolicyEnds gives true; both read behind the call as before. Its condition: the listed variables hold what their initialisers lay. -/
import Derived.Test.YtfhmjkdpohepaaaDoorLawEnds
import Derived.Test.YtfhmjkdpohepaaaDoorOpenV
import Derived.Test.YtfhmjkdpohepaaaDoorEntry
set_option linter.unusedSimpArgs false
set_option linter.unusedVariables false
namespace Go.Proofs.YtfhmjkdpohepaaaDoor
open Go.ChangeShapes Go.WideShapes Go.ChangeAt Go.RowKit Go.Lib

theorem lawEnds_any (os : List Vl) (m : Int) (A : Option Addr) (ca : Nat) (w : World) (hA : RdL w 5 A (os.map Vl.cells5)) (hos : ∀ v ∈ os, v.wf) (n1 : os.length ≤ 9223372036854775807) (hE : Env w) :
    Calls Tryd.prog 6 #[.slice A os.length ca, .int .u16 m] w fun e w' => e = .returned (.bool true) ∧ Below w.heap.size w w' := by
  cases hs : allSnd os
  · exact ends_no os m A ca w hA hos n1 hE (by unfold sndAll; rw [hs]; rfl)
  · exact ends_yes os m A ca w hA hos n1 hE hs

set_option maxRecDepth 100000 in
theorem policyEnds_contract (H : Type) (enc : TypeId × Value → H) (W : World) (base : Nat) (args : Array Value) (ds gs : List (DataW H)) (before : List MemPlace)
    (hval : ∀ (j : Nat) t v, Tryd.f6.params[j]? = some t → args[j]? = some v → Value.okWide Tryd.prog W .any base t v)
    (hW : DataW.Whole enc Tryd.prog Tryd.f6.params.toList Rows.policyEndsSpec.vars false W args.toList ds gs before) (hL : laidMetH Tryd.prog Rows.policyEndsRow.laid W) :
    Calls Tryd.prog 6 args W fun e W' => ∃ v, e = .returned v ∧ Rows.policyEndsSpec.post enc Tryd.prog Tryd.f6 false true false false W args v W' := by
  have hW' := hW
  obtain ⟨p, q, hA0, hV, rfl, hfz, hnd⟩ := hW
  have hA : DataW.TrodAll enc Tryd.prog W 0 (fun _ => true) true Tryd.f6.params.toList args.toList ds p := hA0
  clear hA0
  rw [Tryd.params6] at hA hval
  obtain ⟨v0, v1, d0, d1, p0, p1, rfl, rfl, rfl, h0, h1⟩ := trodAll_two hA
  obtain ⟨n0, o0⟩ := arg_slice Tryd.underlying22 (hval 0 _ v0 rfl rfl) h0
  obtain ⟨A, os, ca, e0, rA, okA, lA, _⟩ := open_list Vl.cells5 Vl.wf Tryd.underlying22 cV (by decide) (fun _ _ _ h => open_val h) o0
  obtain rfl := List.cons.inj e0 |>.1
  obtain ⟨m, rfl, rfl, rfl, _⟩ := open_int Tryd.underlying35 (hval 1 _ v1 rfl rfl) h1
  have hL' : laidMet Tryd.prog Rows.policyEndsRow.laid W := hL
  have hE : Env W := ⟨tabs_of hL' (by first | exact .head _ | exact .tail _ (.head _) | exact .tail _ (.tail _ (.head _)) | exact .tail _ (.tail _ (.tail _ (.head _)))) (by first | exact .head _ | exact .tail _ (.head _) | exact .tail _ (.tail _ (.head _)) | exact .tail _ (.tail _ (.tail _ (.head _))))⟩
  refine (lawEnds_any os m A ca W rA okA lA hE).mono ?_
  rintro e W' ⟨rfl, hb⟩
  exact ⟨_, rfl, post_true rfl (by kernel_rfl) hW' (by kernel_rfl) (fun gs hg => by subst hg; rfl) hb⟩

/-- what the witness reads as -/
theorem policyEnds_reads (os : Os) {H : Type} (enc : TypeId × Value → H) :
    ∃ places, DataW.whole enc Tryd.prog ((laidWorld os).forCall (fun _ _ => 0) ⟨#[], #[.slice none 0 0, .int .u16 0], []⟩).memory Tryd.f6.params.toList Rows.policyEndsSpec.vars false (#[.slice none 0 0, .int .u16 0] : Array Value).toList 8 = some ([.nil, .lit (.int .u16 0)], [], places) :=
  ⟨[], by kernel_rfl⟩
theorem policyEnds_met (os : Os) : laidMet Tryd.prog Rows.policyEndsRow.laid ((laidWorld os).forCall (fun _ _ => 0) ⟨#[], #[.slice none 0 0, .int .u16 0], []⟩).memory :=
  laidMet_of_run' 8 (by kernel_rfl) (by kernel_rfl)

set_option maxRecDepth 100000 in
set_option maxHeartbeats 2000000 in
theorem policyEnds_lifted (os : Os) (started : os.Started) (H : Type) (enc : TypeId × Value → H) (F : Stop.Interp) :
    ReturnsInHanded {} Tryd.checked os 6 .any ((OpenSpec.ofChange Rows.policyEndsSpec).preRow enc Tryd.prog Tryd.f6 Rows.policyEndsRow.domain false Rows.policyEndsRow.laid) (((OpenSpec.ofChange Rows.policyEndsSpec).at F).post enc Tryd.prog Tryd.f6 false true false false) := by
  obtain ⟨places, hx⟩ := policyEnds_reads os enc
  refine returnsInHanded_of_row (C := Tryd.checked) (s := OpenSpec.ofChange Rows.policyEndsSpec) own started (by kernel_rfl) Tryd.func6
    (witness_row_at (enc := enc) (C := Tryd.checked) false (laidWorld os) #[.slice none 0 0, .int .u16 0] rfl (by kernel_rfl) (by kernel_rfl) (by kernel_rfl)
      (OpenSpec.preRow_of_cond 8 hx (by kernel_rfl) (fun k hk => by cases hk) (by kernel_rfl) (policyEnds_met os))) ?_
  intro W base args ds gs before hval hW _ _ _ hL _ _
  exact policyEnds_contract H enc W base args ds gs before hval hW hL

theorem policyEnds_said : Rows.PolicyEndsSaid :=
  OpenClaim.holds_of_cond 6 Tryd.f6 rfl rfl rfl rfl rfl rfl rfl ⟨rfl, rfl, rfl, rfl, rfl⟩ rfl rfl rfl rfl rfl (by kernel_rfl) Tryd.func6 (by kernel_rfl)
    (of_decide_eq_true (by kernel_rfl)) (by unfold Func.isWrapper; first | (rw [if_pos (by decide +kernel)]; kernel_rfl) | (rw [if_neg (by decide +kernel)]; exact ⟨rfl, rfl⟩))
    (fun os started H enc _ F => by rw [OpenClaim.pre_eq_preRow]; exact policyEnds_lifted os started H enc F)

theorem policyEnds_plain (f : FuncId) (fn : Func) (hf : Tryd.pinned.checked.prog.funcNamed "soffit/soffitlaw17.PolicyEnds" = some f) (hfn : Tryd.pinned.checked.prog.funcs[f]? = some fn) :
    false = Tryd.pinned.checked.prog.looks [] ∧ ∀ (j : Nat) t, fn.params[j]? = some t → Tryd.pinned.checked.prog.wantsStandIn t = false := by
  obtain rfl : f = 6 := Option.some.inj ((show Tryd.prog.funcNamed "soffit/soffitlaw17.PolicyEnds" = some 6 by kernel_rfl).symm.trans hf) |>.symm
  obtain rfl : fn = Tryd.f6 := (Option.some.inj (Tryd.func6.symm.trans hfn)).symm
  refine ⟨by kernel_rfl, fun j t ht => ?_⟩
  have hall : (Tryd.f6.params.all fun t => Tryd.pinned.checked.prog.wantsStandIn t == false) = true := by kernel_rfl
  have := Array.all_eq_true'.1 hall t (Array.mem_of_getElem? ht)
  simpa using this
/-- ████ THE CARD ████ -/
theorem policyEnds_card : Rows.PolicyEndsCardSaid :=
  Claim7.holds_tied_plain_at .later [] _ _ _ _ policyEnds_said (fun _ h => by cases h) (by kernel_rfl) (fun _ h => by cases h) policyEnds_row_tie rfl ⟨rfl, rfl⟩ (by kernel_rfl) rfl policyEnds_plain (by kernel_rfl)
#print axioms policyEnds_card
end Go.Proofs.YtfhmjkdpohepaaaDoor
