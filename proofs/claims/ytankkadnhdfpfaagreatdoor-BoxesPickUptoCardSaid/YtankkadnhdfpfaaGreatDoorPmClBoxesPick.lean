/- BoxesPick, the second form: whatever the types, the box, the boxes and the values, of at most so many values and letters together, soffitlaw16.BoxesPick gives true; all read behind the call as before. Its condition: the listed variables hold what their initialisers lay. -/
import Derived.Test.YtankkadnhdfpfaaGreatDoorPk49
import Derived.Test.YtankkadnhdfpfaaGreatDoorPk30
set_option linter.unusedSimpArgs false
set_option linter.unusedVariables false
namespace Go.Proofs.YtankkadnhdfpfaaGreatDoor
open Go.ChangeShapes Go.WideShapes Go.ChangeAt Go.RowKit Go.Lib Wd

set_option maxRecDepth 100000 in
theorem boxesPick_contract (H : Type) (enc : TypeId × Value → H) (W : World) (base : Nat) (args : Array Value) (ds gs : List (DataW H)) (before : List MemPlace)
    (hval : ∀ (j : Nat) t v, Tryz.f4.params[j]? = some t → args[j]? = some v → Value.okWide Tryz.prog W .any base t v)
    (hW : DataW.Whole enc Tryz.prog Tryz.f4.params.toList Rows.boxesPickSpec.vars false W args.toList ds gs before) (hk : Rows.uptoSmall H (ds ++ gs) = true) (hL : laidMetH Tryz.prog Rows.boxesPickUptoRow.laid W) :
    Calls Tryz.prog 4 args W fun e W' => ∃ v, e = .returned v ∧ Rows.boxesPickSpec.post enc Tryz.prog Tryz.f4 false true false false W args v W' := by
  have hW' := hW
  obtain ⟨p, q, hA0, hV, rfl, hfz, hnd⟩ := hW
  have hA : DataW.TrodAll enc Tryz.prog W 0 (fun _ => true) true Tryz.f4.params.toList args.toList ds p := hA0
  clear hA0
  rw [Tryz.params4] at hA hval
  obtain ⟨v0, v1, v2, v3, d0, d1, d2, d3, p0, p1, p2, p3, rfl, rfl, rfl, h0, h1, h2, h3⟩ := trodAll_four hA
  obtain ⟨n0, o0⟩ := arg_slice Tryz.underlying47 (hval 0 _ v0 rfl rfl) h0
  obtain ⟨T, ts, ct, e0, hT, hlc, bT⟩ := open_types o0
  obtain rfl := List.cons.inj e0 |>.1
  obtain ⟨n1, o1⟩ := arg_slice Tryz.underlying48 (hval 1 _ v1 rfl rfl) h1
  obtain ⟨A, ss, ca, e1, hS, lS, bS⟩ := open_box o1
  obtain rfl := List.cons.inj e1 |>.1
  obtain ⟨n2, o2⟩ := arg_slice Tryz.underlying49 (hval 2 _ v2 rfl rfl) h2
  obtain ⟨B, bs, cb, e2, hB, hbc, bB⟩ := open_boxes o2
  obtain rfl := List.cons.inj e2 |>.1
  obtain ⟨n3, o3⟩ := arg_slice Tryz.underlying50 (hval 3 _ v3 rfl rfl) h3
  obtain ⟨V, vs, cv, e3, hV, bV⟩ := open_vals o3
  obtain rfl := List.cons.inj e3 |>.1
  have bS := bS 1048576 (bulk_arg hk (by simp))
  have bB := bB 1048576 (bulk_arg hk (by simp))
  have hL' : laidMet Tryz.prog Rows.boxesPickUptoRow.laid W := hL
  have hE : EnvP W := ⟨⟨tabs_of hL' (by first | exact .head _ | exact .tail _ (.head _) | exact .tail _ (.tail _ (.head _)) | exact .tail _ (.tail _ (.tail _ (.head _))) | exact .tail _ (.tail _ (.tail _ (.tail _ (.head _)))) | exact .tail _ (.tail _ (.tail _ (.tail _ (.tail _ (.head _))))) | exact .tail _ (.tail _ (.tail _ (.tail _ (.tail _ (.tail _ (.head _)))))) | exact .tail _ (.tail _ (.tail _ (.tail _ (.tail _ (.tail _ (.tail _ (.head _)))))))) (by first | exact .head _ | exact .tail _ (.head _) | exact .tail _ (.tail _ (.head _)) | exact .tail _ (.tail _ (.tail _ (.head _))) | exact .tail _ (.tail _ (.tail _ (.tail _ (.head _)))) | exact .tail _ (.tail _ (.tail _ (.tail _ (.tail _ (.head _))))) | exact .tail _ (.tail _ (.tail _ (.tail _ (.tail _ (.tail _ (.head _)))))) | exact .tail _ (.tail _ (.tail _ (.tail _ (.tail _ (.tail _ (.tail _ (.head _)))))))), null_of hL' (by first | exact .head _ | exact .tail _ (.head _) | exact .tail _ (.tail _ (.head _)) | exact .tail _ (.tail _ (.tail _ (.head _))) | exact .tail _ (.tail _ (.tail _ (.tail _ (.head _)))) | exact .tail _ (.tail _ (.tail _ (.tail _ (.tail _ (.head _))))) | exact .tail _ (.tail _ (.tail _ (.tail _ (.tail _ (.tail _ (.head _)))))) | exact .tail _ (.tail _ (.tail _ (.tail _ (.tail _ (.tail _ (.tail _ (.head _))))))))⟩, pow_of hL' (by first | exact .head _ | exact .tail _ (.head _) | exact .tail _ (.tail _ (.head _)) | exact .tail _ (.tail _ (.tail _ (.head _))) | exact .tail _ (.tail _ (.tail _ (.tail _ (.head _)))) | exact .tail _ (.tail _ (.tail _ (.tail _ (.tail _ (.head _))))) | exact .tail _ (.tail _ (.tail _ (.tail _ (.tail _ (.tail _ (.head _)))))) | exact .tail _ (.tail _ (.tail _ (.tail _ (.tail _ (.tail _ (.tail _ (.head _))))))))⟩
  refine (lawPick_any ts ss bs vs 1048576 T A B V ct ca cb cv W hT hlc hS bS.2 hB hbc (fun b hb x hx => (bB.2 b hb).2 x hx) (Nat.le_refl _) hV hE).mono ?_
  rintro e W' ⟨rfl, hbl⟩
  exact ⟨_, rfl, post_true rfl (by kernel_rfl) hW' (by kernel_rfl) (fun gs hg => by subst hg; rfl) hbl⟩

theorem boxesPick_reads (os : Os) {H : Type} (enc : TypeId × Value → H) :
    ∃ places, DataW.whole enc Tryz.prog ((laidWorldW os).forCall (fun _ _ => 0) ⟨#[], #[.slice none 0 0, .slice none 0 0, .slice none 0 0, .slice none 0 0], []⟩).memory Tryz.f4.params.toList Rows.boxesPickSpec.vars false (#[.slice none 0 0, .slice none 0 0, .slice none 0 0, .slice none 0 0] : Array Value).toList 8 = some ([.nil, .nil, .nil, .nil], [], places) :=
  ⟨[], by kernel_rfl⟩
theorem boxesPick_met (os : Os) : laidMet Tryz.prog Rows.boxesPickUptoRow.laid ((laidWorldW os).forCall (fun _ _ => 0) ⟨#[], #[.slice none 0 0, .slice none 0 0, .slice none 0 0, .slice none 0 0], []⟩).memory :=
  laidMet_of_run' 8 (by kernel_rfl) (by kernel_rfl)

set_option maxRecDepth 100000 in
set_option maxHeartbeats 2000000 in
theorem boxesPick_lifted (os : Os) (started : os.Started) (H : Type) (enc : TypeId × Value → H) (F : Stop.Interp) :
    ReturnsInHanded {} Tryz.checked os 4 .any ((Rows.OpenSpec.upto Rows.boxesPickSpec).preRow enc Tryz.prog Tryz.f4 Rows.boxesPickUptoRow.domain false Rows.boxesPickUptoRow.laid) (((Rows.OpenSpec.upto Rows.boxesPickSpec).at F).post enc Tryz.prog Tryz.f4 false true false false) := by
  obtain ⟨places, hx⟩ := boxesPick_reads os enc
  refine returnsInHanded_of_row (C := Tryz.checked) (s := Rows.OpenSpec.upto Rows.boxesPickSpec) own started (by kernel_rfl) Tryz.func4
    (witness_row_at (enc := enc) (C := Tryz.checked) false (laidWorldW os) #[.slice none 0 0, .slice none 0 0, .slice none 0 0, .slice none 0 0] rfl (by kernel_rfl) (by kernel_rfl) (by kernel_rfl)
      (OpenSpec.preRow_of_cond 8 hx (by kernel_rfl) (fun k hk => by cases hk; kernel_rfl) (by kernel_rfl) (boxesPick_met os))) ?_
  intro W base args ds gs before hval hW _ hk _ hL _ _
  exact boxesPick_contract H enc W base args ds gs before hval hW (hk _ rfl) hL

theorem boxesPick_said : Rows.BoxesPickUptoSaid :=
  OpenClaim.holds_of_cond 4 Tryz.f4 rfl rfl rfl rfl rfl rfl rfl ⟨rfl, rfl, rfl, rfl, rfl⟩ rfl rfl rfl rfl rfl (by kernel_rfl) Tryz.func4 (by kernel_rfl)
    (of_decide_eq_true (by kernel_rfl)) (by unfold Func.isWrapper; first | (rw [if_pos (by decide +kernel)]; kernel_rfl) | (rw [if_neg (by decide +kernel)]; exact ⟨rfl, rfl⟩))
    (fun os started H enc _ F => by rw [OpenClaim.pre_eq_preRow]; exact boxesPick_lifted os started H enc F)

theorem boxesPick_plain (f : FuncId) (fn : Func) (hf : Tryz.pinned.checked.prog.funcNamed "soffit/soffitlaw16.BoxesPick" = some f) (hfn : Tryz.pinned.checked.prog.funcs[f]? = some fn) :
    false = Tryz.pinned.checked.prog.looks [] ∧ ∀ (j : Nat) t, fn.params[j]? = some t → Tryz.pinned.checked.prog.wantsStandIn t = false := by
  obtain rfl : f = 4 := Option.some.inj ((show Tryz.prog.funcNamed "soffit/soffitlaw16.BoxesPick" = some 4 by kernel_rfl).symm.trans hf) |>.symm
  obtain rfl : fn = Tryz.f4 := (Option.some.inj (Tryz.func4.symm.trans hfn)).symm
  refine ⟨by kernel_rfl, fun j t ht => ?_⟩
  have hall : (Tryz.f4.params.all fun t => Tryz.pinned.checked.prog.wantsStandIn t == false) = true := by kernel_rfl
  have := Array.all_eq_true'.1 hall t (Array.mem_of_getElem? ht)
  simpa using this
theorem boxesPick_card : Rows.BoxesPickUptoCardSaid :=
  Claim7.holds_tied_plain_at .later [] _ _ _ _ boxesPick_said (fun _ h => by cases h) (by kernel_rfl) (fun _ h => by cases h) boxesPickUpto_row_tie rfl ⟨rfl, rfl⟩ (by kernel_rfl) rfl boxesPick_plain (by kernel_rfl)
#print axioms boxesPick_card
end Go.Proofs.YtankkadnhdfpfaaGreatDoor
