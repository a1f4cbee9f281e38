/- BoxesFull, the second form: whatever the types, the number, the set and the values, of at most so many values and letters together, soffitlaw16.BoxesFull gives true; all read behind the call as before. Its condition: the listed variables hold what their initialisers lay. -/
import Derived.Test.YtankkadnhdfpfaaGreatDoorPk48
import Derived.Test.YtankkadnhdfpfaaGreatDoorPk30
import Derived.Test.YtankkadnhdfpfaaGreatDoorPk29
set_option linter.unusedSimpArgs false
set_option linter.unusedVariables false
namespace Go.Proofs.YtankkadnhdfpfaaGreatDoor
open Go.ChangeShapes Go.WideShapes Go.ChangeAt Go.RowKit Go.Lib Wd

set_option maxRecDepth 100000 in
theorem boxesFull_contract (H : Type) (enc : TypeId × Value → H) (W : World) (base : Nat) (args : Array Value) (ds gs : List (DataW H)) (before : List MemPlace)
    (hval : ∀ (j : Nat) t v, Tryz.f5.params[j]? = some t → args[j]? = some v → Value.okWide Tryz.prog W .any base t v)
    (hW : DataW.Whole enc Tryz.prog Tryz.f5.params.toList Rows.boxesFullSpec.vars false W args.toList ds gs before) (hk : Rows.uptoSmall H (ds ++ gs) = true) (hL : laidMetH Tryz.prog Rows.boxesFullUptoRow.laid W) :
    Calls Tryz.prog 5 args W fun e W' => ∃ v, e = .returned v ∧ Rows.boxesFullSpec.post enc Tryz.prog Tryz.f5 false true false false W args v W' := by
  have hW' := hW
  obtain ⟨p, q, hA0, hV, rfl, hfz, hnd⟩ := hW
  have hA : DataW.TrodAll enc Tryz.prog W 0 (fun _ => true) true Tryz.f5.params.toList args.toList ds p := hA0
  clear hA0
  rw [Tryz.params5] at hA hval
  obtain ⟨v0, v1, v2, v3, d0, d1, d2, d3, p0, p1, p2, p3, rfl, rfl, rfl, h0, h1, h2, h3⟩ := trodAll_four hA
  obtain ⟨n0, o0⟩ := arg_slice Tryz.underlying47 (hval 0 _ v0 rfl rfl) h0
  obtain ⟨T, ts, ct, e0, hT, hlc, bT⟩ := open_types o0
  obtain rfl := List.cons.inj e0 |>.1
  obtain ⟨n, rfl, rfl, rfl, hn⟩ := open_int Tryz.underlying3 (hval 1 _ v1 rfl rfl) h1
  obtain ⟨cs2, n2, rfl, o2⟩ := arg_struct Tryz.underlying36 (hval 2 _ v2 rfl rfl) h2
  obtain ⟨⟨s, A, ca, B, cb⟩, rfl, hs, os⟩ := open_set o2
  have os := os 1048576 (bulk_arg hk (by simp))
  obtain ⟨n3, o3⟩ := arg_slice Tryz.underlying50 (hval 3 _ v3 rfl rfl) h3
  obtain ⟨V, vs, cv, e3, hV, bV⟩ := open_vals o3
  obtain rfl := List.cons.inj e3 |>.1
  have hL' : laidMet Tryz.prog Rows.boxesFullUptoRow.laid W := hL
  have hE : Env W := ⟨tabs_of hL' (by first | exact .head _ | exact .tail _ (.head _) | exact .tail _ (.tail _ (.head _)) | exact .tail _ (.tail _ (.tail _ (.head _))) | exact .tail _ (.tail _ (.tail _ (.tail _ (.head _)))) | exact .tail _ (.tail _ (.tail _ (.tail _ (.tail _ (.head _))))) | exact .tail _ (.tail _ (.tail _ (.tail _ (.tail _ (.tail _ (.head _)))))) | exact .tail _ (.tail _ (.tail _ (.tail _ (.tail _ (.tail _ (.tail _ (.head _)))))))) (by first | exact .head _ | exact .tail _ (.head _) | exact .tail _ (.tail _ (.head _)) | exact .tail _ (.tail _ (.tail _ (.head _))) | exact .tail _ (.tail _ (.tail _ (.tail _ (.head _)))) | exact .tail _ (.tail _ (.tail _ (.tail _ (.tail _ (.head _))))) | exact .tail _ (.tail _ (.tail _ (.tail _ (.tail _ (.tail _ (.head _)))))) | exact .tail _ (.tail _ (.tail _ (.tail _ (.tail _ (.tail _ (.tail _ (.head _)))))))), null_of hL' (by first | exact .head _ | exact .tail _ (.head _) | exact .tail _ (.tail _ (.head _)) | exact .tail _ (.tail _ (.tail _ (.head _))) | exact .tail _ (.tail _ (.tail _ (.tail _ (.head _)))) | exact .tail _ (.tail _ (.tail _ (.tail _ (.tail _ (.head _))))) | exact .tail _ (.tail _ (.tail _ (.tail _ (.tail _ (.tail _ (.head _)))))) | exact .tail _ (.tail _ (.tail _ (.tail _ (.tail _ (.tail _ (.tail _ (.head _))))))))⟩
  refine (lawFull_any ts n s vs 1048576 T A B V ct ca cb cv W hT hlc hs os (Nat.le_refl _) hV hE).mono ?_
  rintro e W' ⟨rfl, hbl⟩
  exact ⟨_, rfl, post_true rfl (by kernel_rfl) hW' (by kernel_rfl) (fun gs hg => by subst hg; rfl) hbl⟩

/-- what the witness reads as -/
theorem boxesFull_reads (os : Os) {H : Type} (enc : TypeId × Value → H) :
    ∃ places, DataW.whole enc Tryz.prog ((laidWorld os).forCall (fun _ _ => 0) ⟨#[], #[.slice none 0 0, .int .i64 0, .agg #[.int .i64 0, .slice none 0 0, .bool false, .slice none 0 0, .int .i64 0, .bool false], .slice none 0 0], []⟩).memory Tryz.f5.params.toList Rows.boxesFullSpec.vars false (#[.slice none 0 0, .int .i64 0, .agg #[.int .i64 0, .slice none 0 0, .bool false, .slice none 0 0, .int .i64 0, .bool false], .slice none 0 0] : Array Value).toList 8 = some ([.nil, .lit (.int .i64 0), .agg [.lit (.int .i64 0), .nil, .agg [.lit (.bool false), .nil], .lit (.int .i64 0), .lit (.bool false)], .nil], [], places) :=
  ⟨[], by kernel_rfl⟩
theorem boxesFull_met (os : Os) : laidMet Tryz.prog Rows.boxesFullUptoRow.laid ((laidWorld os).forCall (fun _ _ => 0) ⟨#[], #[.slice none 0 0, .int .i64 0, .agg #[.int .i64 0, .slice none 0 0, .bool false, .slice none 0 0, .int .i64 0, .bool false], .slice none 0 0], []⟩).memory :=
  laidMet_of_run' 8 (by kernel_rfl) (by kernel_rfl)

set_option maxRecDepth 100000 in
set_option maxHeartbeats 2000000 in
theorem boxesFull_lifted (os : Os) (started : os.Started) (H : Type) (enc : TypeId × Value → H) (F : Stop.Interp) :
    ReturnsInHanded {} Tryz.checked os 5 .any ((Rows.OpenSpec.upto Rows.boxesFullSpec).preRow enc Tryz.prog Tryz.f5 Rows.boxesFullUptoRow.domain false Rows.boxesFullUptoRow.laid) (((Rows.OpenSpec.upto Rows.boxesFullSpec).at F).post enc Tryz.prog Tryz.f5 false true false false) := by
  obtain ⟨places, hx⟩ := boxesFull_reads os enc
  refine returnsInHanded_of_row (C := Tryz.checked) (s := Rows.OpenSpec.upto Rows.boxesFullSpec) own started (by kernel_rfl) Tryz.func5
    (witness_row_at (enc := enc) (C := Tryz.checked) false (laidWorld os) #[.slice none 0 0, .int .i64 0, .agg #[.int .i64 0, .slice none 0 0, .bool false, .slice none 0 0, .int .i64 0, .bool false], .slice none 0 0] rfl (by kernel_rfl) (by kernel_rfl) (by kernel_rfl)
      (OpenSpec.preRow_of_cond 8 hx (by kernel_rfl) (fun k hk => by cases hk; kernel_rfl) (by kernel_rfl) (boxesFull_met os))) ?_
  intro W base args ds gs before hval hW _ hk _ hL _ _
  exact boxesFull_contract H enc W base args ds gs before hval hW (hk _ rfl) hL

theorem boxesFull_said : Rows.BoxesFullUptoSaid :=
  OpenClaim.holds_of_cond 5 Tryz.f5 rfl rfl rfl rfl rfl rfl rfl ⟨rfl, rfl, rfl, rfl, rfl⟩ rfl rfl rfl rfl rfl (by kernel_rfl) Tryz.func5 (by kernel_rfl)
    (of_decide_eq_true (by kernel_rfl)) (by unfold Func.isWrapper; first | (rw [if_pos (by decide +kernel)]; kernel_rfl) | (rw [if_neg (by decide +kernel)]; exact ⟨rfl, rfl⟩))
    (fun os started H enc _ F => by rw [OpenClaim.pre_eq_preRow]; exact boxesFull_lifted os started H enc F)

theorem boxesFull_plain (f : FuncId) (fn : Func) (hf : Tryz.pinned.checked.prog.funcNamed "soffit/soffitlaw16.BoxesFull" = some f) (hfn : Tryz.pinned.checked.prog.funcs[f]? = some fn) :
    false = Tryz.pinned.checked.prog.looks [] ∧ ∀ (j : Nat) t, fn.params[j]? = some t → Tryz.pinned.checked.prog.wantsStandIn t = false := by
  obtain rfl : f = 5 := Option.some.inj ((show Tryz.prog.funcNamed "soffit/soffitlaw16.BoxesFull" = some 5 by kernel_rfl).symm.trans hf) |>.symm
  obtain rfl : fn = Tryz.f5 := (Option.some.inj (Tryz.func5.symm.trans hfn)).symm
  refine ⟨by kernel_rfl, fun j t ht => ?_⟩
  have hall : (Tryz.f5.params.all fun t => Tryz.pinned.checked.prog.wantsStandIn t == false) = true := by kernel_rfl
  have := Array.all_eq_true'.1 hall t (Array.mem_of_getElem? ht)
  simpa using this
/-- ████ THE CARD ████ -/
theorem boxesFull_card : Rows.BoxesFullUptoCardSaid :=
  Claim7.holds_tied_plain_at .later [] _ _ _ _ boxesFull_said (fun _ h => by cases h) (by kernel_rfl) (fun _ h => by cases h) boxesFullUpto_row_tie rfl ⟨rfl, rfl⟩ (by kernel_rfl) rfl boxesFull_plain (by kernel_rfl)
#print axioms boxesFull_card
end Go.Proofs.YtankkadnhdfpfaaGreatDoor
