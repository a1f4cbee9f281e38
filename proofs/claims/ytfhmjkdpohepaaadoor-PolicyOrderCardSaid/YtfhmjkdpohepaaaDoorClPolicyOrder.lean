/- PolicyOrder: whatever the policy's number, the outputs and the mask, soffitlaw17.PolicyOrder gives true; all read behind the call as before. Its condition: the listed variables hold what their initialisers lay. -/
import Derived.Test.YtfhmjkdpohepaaaDoorLawOrdA
import Derived.Test.YtfhmjkdpohepaaaDoorLawOrdB
import Derived.Test.YtfhmjkdpohepaaaDoorOpenV
import Derived.Test.YtfhmjkdpohepaaaDoorEntry
set_option linter.unusedSimpArgs false
set_option linter.unusedVariables false
namespace Go.Proofs.YtfhmjkdpohepaaaDoor
open Go.ChangeShapes Go.WideShapes Go.ChangeAt Go.RowKit Go.Lib

theorem lawOrder_any (k : Int) (hk0 : 0 ≤ k) (hk1 : k ≤ 255) (os : List Vl) (m : Int) (A : Option Addr) (ca : Nat) (w : World) (hA : RdL w 5 A (os.map Vl.cells5)) (hos : ∀ v ∈ os, v.wf) (hca : os.length ≤ ca) (n1 : os.length ≤ 9223372036854775807) (hE : Env w) :
    Calls Tryd.prog 5 #[.int .u8 k, .slice A os.length ca, .int .u16 m] w fun e w' => e = .returned (.bool true) ∧ Below w.heap.size w w' := by
  by_cases h : os.length ≤ 16
  · exact order_few k hk0 hk1 os m A ca w hA hos hca n1 hE h
  · exact order_many k hk0 hk1 os m A ca w hA hos hca n1 hE (by omega)

set_option maxRecDepth 100000 in
theorem policyOrder_contract (H : Type) (enc : TypeId × Value → H) (W : World) (base : Nat) (args : Array Value) (ds gs : List (DataW H)) (before : List MemPlace)
    (hval : ∀ (j : Nat) t v, Tryd.f5.params[j]? = some t → args[j]? = some v → Value.okWide Tryd.prog W .any base t v)
    (hW : DataW.Whole enc Tryd.prog Tryd.f5.params.toList Rows.policyOrderSpec.vars false W args.toList ds gs before) (hL : laidMetH Tryd.prog Rows.policyOrderRow.laid W) :
    Calls Tryd.prog 5 args W fun e W' => ∃ v, e = .returned v ∧ Rows.policyOrderSpec.post enc Tryd.prog Tryd.f5 false true false false W args v W' := by
  have hW' := hW
  obtain ⟨p, q, hA0, hV, rfl, hfz, hnd⟩ := hW
  have hA : DataW.TrodAll enc Tryd.prog W 0 (fun _ => true) true Tryd.f5.params.toList args.toList ds p := hA0
  clear hA0
  rw [Tryd.params5] at hA hval
  obtain ⟨v0, v1, v2, d0, d1, d2, p0, p1, p2, rfl, rfl, rfl, h0, h1, h2⟩ := trodAll_three hA
  obtain ⟨k, rfl, rfl, rfl, hk⟩ := open_int Tryd.underlying5 (hval 0 _ v0 rfl rfl) h0
  obtain ⟨n0, o0⟩ := arg_slice Tryd.underlying22 (hval 1 _ v1 rfl rfl) h1
  obtain ⟨A, os, ca, e0, rA, okA, lA, cA⟩ := open_list Vl.cells5 Vl.wf Tryd.underlying22 cV (by decide) (fun _ _ _ h => open_val h) o0
  obtain rfl := List.cons.inj e0 |>.1
  obtain ⟨m, rfl, rfl, rfl, _⟩ := open_int Tryd.underlying35 (hval 2 _ v2 rfl rfl) h2
  have hL' : laidMet Tryd.prog Rows.policyOrderRow.laid W := hL
  have hE : Env W := ⟨tabs_of hL' (by first | exact .head _ | exact .tail _ (.head _) | exact .tail _ (.tail _ (.head _)) | exact .tail _ (.tail _ (.tail _ (.head _))) | exact .tail _ (.tail _ (.tail _ (.tail _ (.head _))))) (by first | exact .head _ | exact .tail _ (.head _) | exact .tail _ (.tail _ (.head _)) | exact .tail _ (.tail _ (.tail _ (.head _))) | exact .tail _ (.tail _ (.tail _ (.tail _ (.head _)))))⟩
  have hkb : 0 ≤ k ∧ k ≤ 255 := by
    have := hk
    simp [Lit.wf, IntKind.min, IntKind.max, IntKind.signed, IntKind.bits] at this
    omega
  refine (lawOrder_any k hkb.1 hkb.2 os m A ca W rA okA cA lA hE).mono ?_
  rintro e W' ⟨rfl, hb⟩
  exact ⟨_, rfl, post_true rfl (by kernel_rfl) hW' (by kernel_rfl) (fun gs hg => by subst hg; rfl) hb⟩

/-- what the witness reads as -/
theorem policyOrder_reads (os : Os) {H : Type} (enc : TypeId × Value → H) :
    ∃ places, DataW.whole enc Tryd.prog ((laidWorld os).forCall (fun _ _ => 0) ⟨#[], #[.int .u8 0, .slice none 0 0, .int .u16 0], []⟩).memory Tryd.f5.params.toList Rows.policyOrderSpec.vars false (#[.int .u8 0, .slice none 0 0, .int .u16 0] : Array Value).toList 8 = some ([.lit (.int .u8 0), .nil, .lit (.int .u16 0)], [], places) :=
  ⟨[], by kernel_rfl⟩
theorem policyOrder_met (os : Os) : laidMet Tryd.prog Rows.policyOrderRow.laid ((laidWorld os).forCall (fun _ _ => 0) ⟨#[], #[.int .u8 0, .slice none 0 0, .int .u16 0], []⟩).memory :=
  laidMet_of_run' 8 (by kernel_rfl) (by kernel_rfl)

set_option maxRecDepth 100000 in
set_option maxHeartbeats 2000000 in
theorem policyOrder_lifted (os : Os) (started : os.Started) (H : Type) (enc : TypeId × Value → H) (F : Stop.Interp) :
    ReturnsInHanded {} Tryd.checked os 5 .any ((OpenSpec.ofChange Rows.policyOrderSpec).preRow enc Tryd.prog Tryd.f5 Rows.policyOrderRow.domain false Rows.policyOrderRow.laid) (((OpenSpec.ofChange Rows.policyOrderSpec).at F).post enc Tryd.prog Tryd.f5 false true false false) := by
  obtain ⟨places, hx⟩ := policyOrder_reads os enc
  refine returnsInHanded_of_row (C := Tryd.checked) (s := OpenSpec.ofChange Rows.policyOrderSpec) own started (by kernel_rfl) Tryd.func5
    (witness_row_at (enc := enc) (C := Tryd.checked) false (laidWorld os) #[.int .u8 0, .slice none 0 0, .int .u16 0] rfl (by kernel_rfl) (by kernel_rfl) (by kernel_rfl)
      (OpenSpec.preRow_of_cond 8 hx (by kernel_rfl) (fun k hk => by cases hk) (by kernel_rfl) (policyOrder_met os))) ?_
  intro W base args ds gs before hval hW _ _ _ hL _ _
  exact policyOrder_contract H enc W base args ds gs before hval hW hL

theorem policyOrder_said : Rows.PolicyOrderSaid :=
  OpenClaim.holds_of_cond 5 Tryd.f5 rfl rfl rfl rfl rfl rfl rfl ⟨rfl, rfl, rfl, rfl, rfl⟩ rfl rfl rfl rfl rfl (by kernel_rfl) Tryd.func5 (by kernel_rfl)
    (of_decide_eq_true (by kernel_rfl)) (by unfold Func.isWrapper; first | (rw [if_pos (by decide +kernel)]; kernel_rfl) | (rw [if_neg (by decide +kernel)]; exact ⟨rfl, rfl⟩))
    (fun os started H enc _ F => by rw [OpenClaim.pre_eq_preRow]; exact policyOrder_lifted os started H enc F)

theorem policyOrder_plain (f : FuncId) (fn : Func) (hf : Tryd.pinned.checked.prog.funcNamed "soffit/soffitlaw17.PolicyOrder" = some f) (hfn : Tryd.pinned.checked.prog.funcs[f]? = some fn) :
    false = Tryd.pinned.checked.prog.looks [] ∧ ∀ (j : Nat) t, fn.params[j]? = some t → Tryd.pinned.checked.prog.wantsStandIn t = false := by
  obtain rfl : f = 5 := Option.some.inj ((show Tryd.prog.funcNamed "soffit/soffitlaw17.PolicyOrder" = some 5 by kernel_rfl).symm.trans hf) |>.symm
  obtain rfl : fn = Tryd.f5 := (Option.some.inj (Tryd.func5.symm.trans hfn)).symm
  refine ⟨by kernel_rfl, fun j t ht => ?_⟩
  have hall : (Tryd.f5.params.all fun t => Tryd.pinned.checked.prog.wantsStandIn t == false) = true := by kernel_rfl
  have := Array.all_eq_true'.1 hall t (Array.mem_of_getElem? ht)
  simpa using this
/-- ████ THE CARD ████ -/
theorem policyOrder_card : Rows.PolicyOrderCardSaid :=
  Claim7.holds_tied_plain_at .later [] _ _ _ _ policyOrder_said (fun _ h => by cases h) (by kernel_rfl) (fun _ h => by cases h) policyOrder_row_tie rfl ⟨rfl, rfl⟩ (by kernel_rfl) rfl policyOrder_plain (by kernel_rfl)
#print axioms policyOrder_card
end Go.Proofs.YtfhmjkdpohepaaaDoor
