/- GraphAbove: whatever the things, what they need and the number, soffitlaw18.GraphAbove gives true; all read behind the call as before. No condition. -/
import Derived.Test.YthmmfghcfgbblaaLawGO
import Derived.Test.YthmmfghcfgbblaaOpenG
import Derived.Test.YthmmfghcfgbblaaEntryB
set_option linter.unusedSimpArgs false
set_option linter.unusedVariables false
namespace Go.Proofs.Ythmmfghcfgbblaa
open Go.ChangeShapes Go.WideShapes Go.ChangeAt Go.RowKit Go.Lib

set_option maxRecDepth 100000 in
theorem graphAbove_contract (H : Type) (enc : TypeId × Value → H) (W : World) (base : Nat) (args : Array Value) (ds gs : List (DataW H)) (before : List MemPlace)
    (hval : ∀ (j : Nat) t v, Try.f4.params[j]? = some t → args[j]? = some v → Value.okWide Try.prog W .any base t v)
    (hW : DataW.Whole enc Try.prog Try.f4.params.toList Rows.graphAboveSpec.vars false W args.toList ds gs before) :
    Calls Try.prog 4 args W fun e W' => ∃ v, e = .returned v ∧ Rows.graphAboveSpec.post enc Try.prog Try.f4 false true false false W args v W' := by
  have hW' := hW
  obtain ⟨p, q, hA0, hV, rfl, hfz, hnd⟩ := hW
  have hA : DataW.TrodAll enc Try.prog W 0 (fun _ => true) true Try.f4.params.toList args.toList ds p := hA0
  clear hA0
  rw [Try.params4] at hA hval
  obtain ⟨v0, v1, v2, d0, d1, d2, p0, p1, p2, rfl, rfl, rfl, h0, h1, h2⟩ := trodAll_three hA
  obtain ⟨A, ns, c, rfl, hr, hs, hn⟩ := arg_texts (hval 0 _ v0 rfl rfl) h0
  obtain ⟨D, xs, cd, rfl, hd, hx, hm⟩ := arg_needs (hval 1 _ v1 rfl rfl) h1
  obtain ⟨k, rfl, rfl, rfl, _⟩ := open_int Try.underlying3 (hval 2 _ v2 rfl rfl) h2
  refine (lawA_any A D ns xs c cd k W hr hd hx hn hm hs).mono ?_
  rintro e W' ⟨rfl, hb⟩
  exact ⟨_, rfl, post_true rfl (by kernel_rfl) hW' (by kernel_rfl) (fun gs hg => by subst hg; rfl) hb⟩

set_option maxRecDepth 100000 in
set_option maxHeartbeats 2000000 in
theorem graphAbove_lifted (os : Os) (started : os.Started) (H : Type) (enc : TypeId × Value → H) :
    ReturnsInHanded {} Try.checked os 4 .any (Rows.graphAboveSpec.pre6 enc Try.prog Try.f4 Rows.graphAboveRow.domain false) (Rows.graphAboveSpec.post enc Try.prog Try.f4 false true false false) := by
  refine returnsInHanded_of_change (C := Try.checked) own started (by kernel_rfl) Try.func4
    (ChangeSpec.witness6 (enc := enc) (C := Try.checked) false ⟨#[], #[.slice none 0 0, .slice none 0 0, .int .i64 0], []⟩ 8 (by kernel_rfl) (by kernel_rfl) (by kernel_rfl) (by kernel_rfl)) ?_
  intro W base args ds gs before hval hW hcnd _
  exact graphAbove_contract H enc W base args ds gs before hval hW

/-- ████ THE STATEMENT ████ -/
theorem graphAbove_said : Rows.GraphAboveSaid :=
  OpenClaim.holds_of_wide 4 Try.f4 rfl rfl rfl rfl rfl rfl rfl ⟨rfl, rfl, rfl, rfl, rfl⟩ rfl rfl rfl rfl rfl (by kernel_rfl) Try.func4 (by kernel_rfl)
    (of_decide_eq_true (by kernel_rfl)) (by unfold Func.isWrapper; first | (rw [if_pos (by decide +kernel)]; kernel_rfl) | (rw [if_neg (by decide +kernel)]; exact ⟨rfl, rfl⟩))
    (fun os started H enc _ => graphAbove_lifted os started H enc)
#print axioms graphAbove_said
end Go.Proofs.Ythmmfghcfgbblaa
