/- PolicyOutcomes, the second form: whatever the policy, the outputs, the order, the default and the fired rules, of at most so many values and letters together, soffitlaw17.PolicyOutcomes gives true; all read behind the call as before. Its condition: the listed variables hold what their initialisers lay. -/
import Derived.Test.YtfhmjkdpohepaaaDoorPk43
import Derived.Test.YtfhmjkdpohepaaaDoorPk46
set_option linter.unusedSimpArgs false
set_option linter.unusedVariables false
namespace Go.Proofs.YtfhmjkdpohepaaaDoor
open Go.ChangeShapes Go.WideShapes Go.ChangeAt Go.RowKit Go.Lib

set_option maxRecDepth 100000 in
theorem policyOutcomes_contract (H : Type) (enc : TypeId × Value → H) (W : World) (base : Nat) (args : Array Value) (ds gs : List (DataW H)) (before : List MemPlace)
    (hval : ∀ (j : Nat) t v, Tryd.f3.params[j]? = some t → args[j]? = some v → Value.okWide Tryd.prog W .any base t v)
    (hW : DataW.Whole enc Tryd.prog Tryd.f3.params.toList Rows.policyOutcomesSpec.vars false W args.toList ds gs before) (hk : Rows.uptoSmall H (ds ++ gs) = true) (hL : laidMetH Tryd.prog Rows.policyOutcomesUptoRow.laid W) :
    Calls Tryd.prog 3 args W fun e W' => ∃ v, e = .returned v ∧ Rows.policyOutcomesSpec.post enc Tryd.prog Tryd.f3 false true false false W args v W' := by
  have hW' := hW
  obtain ⟨p, q, hA0, hV, rfl, hfz, hnd⟩ := hW
  have hA : DataW.TrodAll enc Tryd.prog W 0 (fun _ => true) true Tryd.f3.params.toList args.toList ds p := hA0
  clear hA0
  rw [Tryd.params3] at hA hval
  obtain ⟨v0, v1, v2, v3, v4, d0, d1, d2, d3, d4, p0, p1, p2, p3, p4, rfl, rfl, h0, h1, h2, h3, h4⟩ := five_args hA
  obtain ⟨p, rfl, rfl, rfl, hp⟩ := open_int Tryd.underlying3 (hval 0 _ v0 rfl rfl) h0
  obtain ⟨n1, o1⟩ := arg_slice Tryd.underlying22 (hval 1 _ v1 rfl rfl) h1
  obtain ⟨A, os, ca, e1, rA, okA, lA, cA, bA⟩ := open_list2 Vl.cells5 Vl.wf Tryd.underlying22 cV (by decide) (fun _ _ _ h => open_valB h) o1
  obtain rfl := List.cons.inj e1 |>.1
  obtain ⟨n2, o2⟩ := arg_slice Tryd.underlying22 (hval 2 _ v2 rfl rfl) h2
  obtain ⟨B, od, cb, e2, rB, okB, lB, cB, bB⟩ := open_list2 Vl.cells5 Vl.wf Tryd.underlying22 cV (by decide) (fun _ _ _ h => open_valB h) o2
  obtain rfl := List.cons.inj e2 |>.1
  obtain ⟨cs3, n3, rfl, o3⟩ := arg_struct Tryd.underlying26 (hval 3 _ v3 rfl rfl) h3
  obtain ⟨df, rfl, wd⟩ := open_val o3
  obtain ⟨n4, o4⟩ := arg_slice Tryd.underlying27 (hval 4 _ v4 rfl rfl) h4
  obtain ⟨F, fs, cf, e4, rF, okF, lF, cF⟩ := open_list intC (fun _ => True) Tryd.underlying27 cI (by decide) (fun _ _ _ h => by obtain ⟨x, cx, _, _⟩ := DataW.trod_int Tryd.underlying3 h; exact ⟨x, cx, trivial⟩) o4
  obtain rfl := List.cons.inj e4 |>.1
  have bA := bA 1048576 (bulk_arg hk (by simp))
  have bB := bB 1048576 (bulk_arg hk (by simp))
  have hL' : laidMet Tryd.prog Rows.policyOutcomesUptoRow.laid W := hL
  have hE : Env W := ⟨tabs_of hL' (by first | exact .head _ | exact .tail _ (.head _) | exact .tail _ (.tail _ (.head _)) | exact .tail _ (.tail _ (.tail _ (.head _))) | exact .tail _ (.tail _ (.tail _ (.tail _ (.head _)))) | exact .tail _ (.tail _ (.tail _ (.tail _ (.tail _ (.head _))))) | exact .tail _ (.tail _ (.tail _ (.tail _ (.tail _ (.tail _ (.head _)))))) | exact .tail _ (.tail _ (.tail _ (.tail _ (.tail _ (.tail _ (.tail _ (.head _)))))))) (by first | exact .head _ | exact .tail _ (.head _) | exact .tail _ (.tail _ (.head _)) | exact .tail _ (.tail _ (.tail _ (.head _))) | exact .tail _ (.tail _ (.tail _ (.tail _ (.head _)))) | exact .tail _ (.tail _ (.tail _ (.tail _ (.tail _ (.head _))))) | exact .tail _ (.tail _ (.tail _ (.tail _ (.tail _ (.tail _ (.head _)))))) | exact .tail _ (.tail _ (.tail _ (.tail _ (.tail _ (.tail _ (.tail _ (.head _))))))))⟩
  refine (lawOut_any p os od df fs A B F ca cb cf W rA rB rF okA okB wd (by omega) (by omega) lF hE).mono ?_
  rintro e W' ⟨rfl, hb⟩
  exact ⟨_, rfl, post_true rfl (by kernel_rfl) hW' (by kernel_rfl) (fun gs hg => by subst hg; rfl) hb⟩

/-- what the witness reads as -/
theorem policyOutcomes_reads (os : Os) {H : Type} (enc : TypeId × Value → H) :
    ∃ places, DataW.whole enc Tryd.prog ((laidWorld os).forCall (fun _ _ => 0) ⟨#[], #[.int .i64 0, .slice none 0 0, .slice none 0 0, .agg #[.int .i64 0, .int .i64 0, .int .i64 0, .string ⟨#[]⟩, .int .i64 0], .slice none 0 0], []⟩).memory Tryd.f3.params.toList Rows.policyOutcomesSpec.vars false (#[.int .i64 0, .slice none 0 0, .slice none 0 0, .agg #[.int .i64 0, .int .i64 0, .int .i64 0, .string ⟨#[]⟩, .int .i64 0], .slice none 0 0] : Array Value).toList 8 = some ([.lit (.int .i64 0), .nil, .nil, .agg [.lit (.int .i64 0), .agg [.lit (.int .i64 0), .lit (.int .i64 0)], .lit (.string []), .lit (.int .i64 0)], .nil], [], places) :=
  ⟨[], by kernel_rfl⟩
theorem policyOutcomes_met (os : Os) : laidMet Tryd.prog Rows.policyOutcomesUptoRow.laid ((laidWorld os).forCall (fun _ _ => 0) ⟨#[], #[.int .i64 0, .slice none 0 0, .slice none 0 0, .agg #[.int .i64 0, .int .i64 0, .int .i64 0, .string ⟨#[]⟩, .int .i64 0], .slice none 0 0], []⟩).memory :=
  laidMet_of_run' 8 (by kernel_rfl) (by kernel_rfl)

set_option maxRecDepth 100000 in
set_option maxHeartbeats 2000000 in
theorem policyOutcomes_lifted (os : Os) (started : os.Started) (H : Type) (enc : TypeId × Value → H) (F : Stop.Interp) :
    ReturnsInHanded {} Tryd.checked os 3 .any ((Rows.OpenSpec.upto Rows.policyOutcomesSpec).preRow enc Tryd.prog Tryd.f3 Rows.policyOutcomesUptoRow.domain false Rows.policyOutcomesUptoRow.laid) (((Rows.OpenSpec.upto Rows.policyOutcomesSpec).at F).post enc Tryd.prog Tryd.f3 false true false false) := by
  obtain ⟨places, hx⟩ := policyOutcomes_reads os enc
  refine returnsInHanded_of_row (C := Tryd.checked) (s := Rows.OpenSpec.upto Rows.policyOutcomesSpec) own started (by kernel_rfl) Tryd.func3
    (witness_row_at (enc := enc) (C := Tryd.checked) false (laidWorld os) #[.int .i64 0, .slice none 0 0, .slice none 0 0, .agg #[.int .i64 0, .int .i64 0, .int .i64 0, .string ⟨#[]⟩, .int .i64 0], .slice none 0 0] rfl (by kernel_rfl) (by kernel_rfl) (by kernel_rfl)
      (OpenSpec.preRow_of_cond 8 hx (by kernel_rfl) (fun k hk => by cases hk; kernel_rfl) (by kernel_rfl) (policyOutcomes_met os))) ?_
  intro W base args ds gs before hval hW _ hk _ hL _ _
  exact policyOutcomes_contract H enc W base args ds gs before hval hW (hk _ rfl) hL

theorem policyOutcomes_said : Rows.PolicyOutcomesUptoSaid :=
  OpenClaim.holds_of_cond 3 Tryd.f3 rfl rfl rfl rfl rfl rfl rfl ⟨rfl, rfl, rfl, rfl, rfl⟩ rfl rfl rfl rfl rfl (by kernel_rfl) Tryd.func3 (by kernel_rfl)
    (of_decide_eq_true (by kernel_rfl)) (by unfold Func.isWrapper; first | (rw [if_pos (by decide +kernel)]; kernel_rfl) | (rw [if_neg (by decide +kernel)]; exact ⟨rfl, rfl⟩))
    (fun os started H enc _ F => by rw [OpenClaim.pre_eq_preRow]; exact policyOutcomes_lifted os started H enc F)

theorem policyOutcomes_plain (f : FuncId) (fn : Func) (hf : Tryd.pinned.checked.prog.funcNamed "soffit/soffitlaw17.PolicyOutcomes" = some f) (hfn : Tryd.pinned.checked.prog.funcs[f]? = some fn) :
    false = Tryd.pinned.checked.prog.looks [] ∧ ∀ (j : Nat) t, fn.params[j]? = some t → Tryd.pinned.checked.prog.wantsStandIn t = false := by
  obtain rfl : f = 3 := Option.some.inj ((show Tryd.prog.funcNamed "soffit/soffitlaw17.PolicyOutcomes" = some 3 by kernel_rfl).symm.trans hf) |>.symm
  obtain rfl : fn = Tryd.f3 := (Option.some.inj (Tryd.func3.symm.trans hfn)).symm
  refine ⟨by kernel_rfl, fun j t ht => ?_⟩
  have hall : (Tryd.f3.params.all fun t => Tryd.pinned.checked.prog.wantsStandIn t == false) = true := by kernel_rfl
  have := Array.all_eq_true'.1 hall t (Array.mem_of_getElem? ht)
  simpa using this
/-- ████ THE CARD ████ -/
theorem policyOutcomes_card : Rows.PolicyOutcomesUptoCardSaid :=
  Claim7.holds_tied_plain_at .later [] _ _ _ _ policyOutcomes_said (fun _ h => by cases h) (by kernel_rfl) (fun _ h => by cases h) policyOutcomesUpto_row_tie rfl ⟨rfl, rfl⟩ (by kernel_rfl) rfl policyOutcomes_plain (by kernel_rfl)
#print axioms policyOutcomes_card
end Go.Proofs.YtfhmjkdpohepaaaDoor
