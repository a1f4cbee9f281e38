/- ValueSounds: whatever the value, the kind and the scale, soffitlaw04.ValueSounds gives true; all read behind the call as before. Its condition: the listed variables hold what their initialisers lay. -/
import Derived.Test.YthicilfhnakhmaaGreatDoorLaw04b
import Derived.Test.YthicilfhnakhmaaGreatDoorOpenV
import Derived.Test.YthicilfhnakhmaaGreatDoorEntryP
set_option linter.unusedSimpArgs false
set_option linter.unusedVariables false
namespace Go.Proofs.YthicilfhnakhmaaGreatDoor
open Go.ChangeShapes Go.WideShapes Go.ChangeAt Go.RowKit Go.Lib

set_option maxRecDepth 100000 in
theorem valueSounds_contract (H : Type) (enc : TypeId × Value → H) (W : World) (base : Nat) (args : Array Value) (ds gs : List (DataW H)) (before : List MemPlace)
    (hval : ∀ (j : Nat) t v, Tryz.f6.params[j]? = some t → args[j]? = some v → Value.okWide Tryz.prog W .any base t v)
    (hW : DataW.Whole enc Tryz.prog Tryz.f6.params.toList Rows.valueSoundsSpec.vars false W args.toList ds gs before) (hz : (DataW.weightsEach Tryz.prog (Tryz.f6.params.toList ++ (OpenSpec.ofChange Rows.valueSoundsSpec).bare.plain.varTypes Tryz.prog) (ds ++ gs)).all (· ≤ reachBytes) = true) (hL : laidMetH Tryz.prog Rows.valueSoundsRow.laid W) :
    Calls Tryz.prog 6 args W fun e W' => ∃ v, e = .returned v ∧ Rows.valueSoundsSpec.post enc Tryz.prog Tryz.f6 false true false false W args v W' := by
  have hW' := hW
  obtain ⟨p, q, hA0, hV, rfl, hfz, hnd⟩ := hW
  have hA : DataW.TrodAll enc Tryz.prog W 0 (fun _ => true) true Tryz.f6.params.toList args.toList ds p := hA0
  clear hA0
  rw [Tryz.params6] at hA hval
  obtain ⟨v0, v1, v2, d0, d1, d2, p0, p1, p2, rfl, rfl, rfl, h0, h1, h2⟩ := trodAll_three hA
  obtain ⟨cs0, n0, rfl, o0⟩ := arg_struct Tryz.underlying25 (hval 0 _ v0 rfl rfl) h0
  obtain ⟨v, rfl, hv⟩ := open_val o0
  obtain ⟨k, rfl, rfl, rfl, _⟩ := open_int Tryz.underlying3 (hval 1 _ v1 rfl rfl) h1
  obtain ⟨s, rfl, rfl, rfl, _⟩ := open_int Tryz.underlying3 (hval 2 _ v2 rfl rfl) h2
  have hL' : laidMet Tryz.prog Rows.valueSoundsRow.laid W := hL
  have hE : EnvP W := ⟨⟨tabs_of hL' (by first | exact .head _ | exact .tail _ (.head _) | exact .tail _ (.tail _ (.head _)) | exact .tail _ (.tail _ (.tail _ (.head _))) | exact .tail _ (.tail _ (.tail _ (.tail _ (.head _))))) (by first | exact .head _ | exact .tail _ (.head _) | exact .tail _ (.tail _ (.head _)) | exact .tail _ (.tail _ (.tail _ (.head _))) | exact .tail _ (.tail _ (.tail _ (.tail _ (.head _)))))⟩, pow_of hL' (by first | exact .head _ | exact .tail _ (.head _) | exact .tail _ (.tail _ (.head _)) | exact .tail _ (.tail _ (.tail _ (.head _))) | exact .tail _ (.tail _ (.tail _ (.tail _ (.head _)))))⟩
  refine (lawSounds_any v k s W hv hE).mono ?_
  rintro e W' ⟨rfl, hbl⟩
  exact ⟨_, rfl, post_true rfl (by kernel_rfl) hW' (by kernel_rfl) (fun gs hg => by subst hg; rfl) hbl⟩

/-- what the witness reads as -/
theorem valueSounds_reads (os : Os) {H : Type} (enc : TypeId × Value → H) :
    ∃ places, DataW.whole enc Tryz.prog ((laidWorldW os).forCall (fun _ _ => 0) ⟨#[], #[.agg #[.int .i64 0, .int .i64 0, .int .i64 0, .string ⟨#[]⟩, .int .i64 0], .int .i64 0, .int .i64 0], []⟩).memory Tryz.f6.params.toList Rows.valueSoundsSpec.vars false (#[.agg #[.int .i64 0, .int .i64 0, .int .i64 0, .string ⟨#[]⟩, .int .i64 0], .int .i64 0, .int .i64 0] : Array Value).toList 8 = some ([.agg [.lit (.int .i64 0), .agg [.lit (.int .i64 0), .lit (.int .i64 0)], .lit (.string []), .lit (.int .i64 0)], .lit (.int .i64 0), .lit (.int .i64 0)], [], places) :=
  ⟨[], by kernel_rfl⟩
theorem valueSounds_met (os : Os) : laidMet Tryz.prog Rows.valueSoundsRow.laid ((laidWorldW os).forCall (fun _ _ => 0) ⟨#[], #[.agg #[.int .i64 0, .int .i64 0, .int .i64 0, .string ⟨#[]⟩, .int .i64 0], .int .i64 0, .int .i64 0], []⟩).memory :=
  laidMet_of_run' 8 (by kernel_rfl) (by kernel_rfl)

set_option maxRecDepth 100000 in
set_option maxHeartbeats 2000000 in
theorem valueSounds_lifted (os : Os) (started : os.Started) (H : Type) (enc : TypeId × Value → H) (F : Stop.Interp) :
    ReturnsInHanded {} Tryz.checked os 6 .any ((OpenSpec.ofChange Rows.valueSoundsSpec).preRow enc Tryz.prog Tryz.f6 Rows.valueSoundsRow.domain false Rows.valueSoundsRow.laid) (((OpenSpec.ofChange Rows.valueSoundsSpec).at F).post enc Tryz.prog Tryz.f6 false true false false) := by
  obtain ⟨places, hx⟩ := valueSounds_reads os enc
  refine returnsInHanded_of_row (C := Tryz.checked) (s := OpenSpec.ofChange Rows.valueSoundsSpec) own started (by kernel_rfl) Tryz.func6
    (witness_row_at (enc := enc) (C := Tryz.checked) false (laidWorldW os) #[.agg #[.int .i64 0, .int .i64 0, .int .i64 0, .string ⟨#[]⟩, .int .i64 0], .int .i64 0, .int .i64 0] rfl (by kernel_rfl) (by kernel_rfl) (by kernel_rfl)
      (OpenSpec.preRow_of_cond 8 hx (by kernel_rfl) (fun k hk => by cases hk) (by kernel_rfl) (valueSounds_met os))) ?_
  intro W base args ds gs before hval hW _ _ hz hL _ _
  exact valueSounds_contract H enc W base args ds gs before hval hW hz hL

theorem valueSounds_said : Rows.ValueSoundsSaid :=
  OpenClaim.holds_of_cond 6 Tryz.f6 rfl rfl rfl rfl rfl rfl rfl ⟨rfl, rfl, rfl, rfl, rfl⟩ rfl rfl rfl rfl rfl (by kernel_rfl) Tryz.func6 (by kernel_rfl)
    (of_decide_eq_true (by kernel_rfl)) (by unfold Func.isWrapper; first | (rw [if_pos (by decide +kernel)]; kernel_rfl) | (rw [if_neg (by decide +kernel)]; exact ⟨rfl, rfl⟩))
    (fun os started H enc _ F => by rw [OpenClaim.pre_eq_preRow]; exact valueSounds_lifted os started H enc F)

theorem valueSounds_plain (f : FuncId) (fn : Func) (hf : Tryz.pinned.checked.prog.funcNamed "soffit/soffitlaw04.ValueSounds" = some f) (hfn : Tryz.pinned.checked.prog.funcs[f]? = some fn) :
    true = Tryz.pinned.checked.prog.looks [] ∧ ∀ (j : Nat) t, fn.params[j]? = some t → Tryz.pinned.checked.prog.wantsStandIn t = false := by
  obtain rfl : f = 6 := Option.some.inj ((show Tryz.prog.funcNamed "soffit/soffitlaw04.ValueSounds" = some 6 by kernel_rfl).symm.trans hf) |>.symm
  obtain rfl : fn = Tryz.f6 := (Option.some.inj (Tryz.func6.symm.trans hfn)).symm
  refine ⟨by kernel_rfl, fun j t ht => ?_⟩
  have hall : (Tryz.f6.params.all fun t => Tryz.pinned.checked.prog.wantsStandIn t == false) = true := by kernel_rfl
  have := Array.all_eq_true'.1 hall t (Array.mem_of_getElem? ht)
  simpa using this
/-- ████ THE CARD ████ -/
theorem valueSounds_card : Rows.ValueSoundsCardSaid :=
  Claim7.holds_tied_plain_at .later [] _ _ _ _ valueSounds_said (fun _ h => by cases h) (by kernel_rfl) (fun _ h => by cases h) valueSounds_row_tie rfl ⟨rfl, rfl⟩ (by kernel_rfl) rfl valueSounds_plain (by kernel_rfl)
#print axioms valueSounds_card
end Go.Proofs.YthicilfhnakhmaaGreatDoor
