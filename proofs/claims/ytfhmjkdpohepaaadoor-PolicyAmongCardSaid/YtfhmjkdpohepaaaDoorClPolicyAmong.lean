/- PolicyAmong: whatever the policy's number, the outputs, the order and the mask, soffitlaw17.PolicyAmong gives true; all read behind the call as before. Its condition: the listed variables hold what their initialisers lay. -/
import Derived.Test.YtfhmjkdpohepaaaDoorLawAmong
import Derived.Test.YtfhmjkdpohepaaaDoorOpenV
import Derived.Test.YtfhmjkdpohepaaaDoorEntry
set_option linter.unusedSimpArgs false
set_option linter.unusedVariables false
namespace Go.Proofs.YtfhmjkdpohepaaaDoor
open Go.ChangeShapes Go.WideShapes Go.ChangeAt Go.RowKit Go.Lib

theorem lawAmong_any (k : Int) (hk0 : 0 ≤ k) (hk1 : k ≤ 255) (os od : List Vl) (m : Int) (A B : Option Addr) (ca cb : Nat) (w : World) (hA : RdL w 5 A (os.map Vl.cells5)) (hB : RdL w 5 B (od.map Vl.cells5)) (hos : ∀ v ∈ os, v.wf) (hod : ∀ v ∈ od, v.wf) (n1 : os.length ≤ 9223372036854775807) (n2 : od.length ≤ 9223372036854775807) (hE : Env w) :
    Calls Tryd.prog 4 #[.int .u8 k, .slice A os.length ca, .slice B od.length cb, .int .u16 m] w fun e w' => e = .returned (.bool true) ∧ Below w.heap.size w w' := by
  cases hs : sndAll os od bF
  · exact among_no k hk0 hk1 os od m A B ca cb w hA hB hos hod n1 n2 hE hs
  · exact among_yes k hk0 hk1 os od m A B ca cb w hA hB hos hod n1 n2 hE hs

set_option maxRecDepth 100000 in
theorem policyAmong_contract (H : Type) (enc : TypeId × Value → H) (W : World) (base : Nat) (args : Array Value) (ds gs : List (DataW H)) (before : List MemPlace)
    (hval : ∀ (j : Nat) t v, Tryd.f4.params[j]? = some t → args[j]? = some v → Value.okWide Tryd.prog W .any base t v)
    (hW : DataW.Whole enc Tryd.prog Tryd.f4.params.toList Rows.policyAmongSpec.vars false W args.toList ds gs before) (hL : laidMetH Tryd.prog Rows.policyAmongRow.laid W) :
    Calls Tryd.prog 4 args W fun e W' => ∃ v, e = .returned v ∧ Rows.policyAmongSpec.post enc Tryd.prog Tryd.f4 false true false false W args v W' := by
  have hW' := hW
  obtain ⟨p, q, hA0, hV, rfl, hfz, hnd⟩ := hW
  have hA : DataW.TrodAll enc Tryd.prog W 0 (fun _ => true) true Tryd.f4.params.toList args.toList ds p := hA0
  clear hA0
  rw [Tryd.params4] at hA hval
  obtain ⟨v0, vs0, d0, ds0, p0, q0, hargs, rfl, rfl, h0, r0⟩ := trodAll_cons hA
  obtain ⟨v1, vs1, d1, ds1, p1, q1, rfl, rfl, rfl, h1, r1⟩ := trodAll_cons r0
  obtain ⟨v2, vs2, d2, ds2, p2, q2, rfl, rfl, rfl, h2, r2⟩ := trodAll_cons r1
  obtain ⟨v3, vs3, d3, ds3, p3, q3, rfl, rfl, rfl, h3, r3⟩ := trodAll_cons r2
  obtain ⟨rfl, rfl, rfl⟩ := trodAll_nil r3
  obtain rfl : args = #[v0, v1, v2, v3] := by cases args; simp_all
  obtain ⟨k, rfl, rfl, rfl, wk⟩ := open_int Tryd.underlying5 (hval 0 _ v0 rfl rfl) h0
  obtain ⟨n0, o0⟩ := arg_slice Tryd.underlying22 (hval 1 _ v1 rfl rfl) h1
  obtain ⟨A, os, ca, e0, rA, okA, lA, _⟩ := open_list Vl.cells5 Vl.wf Tryd.underlying22 cV (by decide) (fun _ _ _ h => open_val h) o0
  obtain rfl := List.cons.inj e0 |>.1
  obtain ⟨n1, o1⟩ := arg_slice Tryd.underlying22 (hval 2 _ v2 rfl rfl) h2
  obtain ⟨B, od, cb, e1, rB, okB, lB, _⟩ := open_list Vl.cells5 Vl.wf Tryd.underlying22 cV (by decide) (fun _ _ _ h => open_val h) o1
  obtain rfl := List.cons.inj e1 |>.1
  obtain ⟨m, rfl, rfl, rfl, _⟩ := open_int Tryd.underlying35 (hval 3 _ v3 rfl rfl) h3
  have hk : 0 ≤ k ∧ k ≤ 255 := by simpa [Lit.wf, IntKind.min, IntKind.max, IntKind.signed, IntKind.bits] using wk
  have hL' : laidMet Tryd.prog Rows.policyAmongRow.laid W := hL
  have hE : Env W := ⟨tabs_of hL' (by first | exact .head _ | exact .tail _ (.head _) | exact .tail _ (.tail _ (.head _)) | exact .tail _ (.tail _ (.tail _ (.head _)))) (by first | exact .head _ | exact .tail _ (.head _) | exact .tail _ (.tail _ (.head _)) | exact .tail _ (.tail _ (.tail _ (.head _))))⟩
  refine (lawAmong_any k hk.1 hk.2 os od m A B ca cb W rA rB okA okB lA lB hE).mono ?_
  rintro e W' ⟨rfl, hb⟩
  exact ⟨_, rfl, post_true rfl (by kernel_rfl) hW' (by kernel_rfl) (fun gs hg => by subst hg; rfl) hb⟩

/-- what the witness reads as -/
theorem policyAmong_reads (os : Os) {H : Type} (enc : TypeId × Value → H) :
    ∃ places, DataW.whole enc Tryd.prog ((laidWorld os).forCall (fun _ _ => 0) ⟨#[], #[.int .u8 0, .slice none 0 0, .slice none 0 0, .int .u16 0], []⟩).memory Tryd.f4.params.toList Rows.policyAmongSpec.vars false (#[.int .u8 0, .slice none 0 0, .slice none 0 0, .int .u16 0] : Array Value).toList 8 = some ([.lit (.int .u8 0), .nil, .nil, .lit (.int .u16 0)], [], places) :=
  ⟨[], by kernel_rfl⟩
theorem policyAmong_met (os : Os) : laidMet Tryd.prog Rows.policyAmongRow.laid ((laidWorld os).forCall (fun _ _ => 0) ⟨#[], #[.int .u8 0, .slice none 0 0, .slice none 0 0, .int .u16 0], []⟩).memory :=
  laidMet_of_run' 8 (by kernel_rfl) (by kernel_rfl)

set_option maxRecDepth 100000 in
set_option maxHeartbeats 2000000 in
theorem policyAmong_lifted (os : Os) (started : os.Started) (H : Type) (enc : TypeId × Value → H) (F : Stop.Interp) :
    ReturnsInHanded {} Tryd.checked os 4 .any ((OpenSpec.ofChange Rows.policyAmongSpec).preRow enc Tryd.prog Tryd.f4 Rows.policyAmongRow.domain false Rows.policyAmongRow.laid) (((OpenSpec.ofChange Rows.policyAmongSpec).at F).post enc Tryd.prog Tryd.f4 false true false false) := by
  obtain ⟨places, hx⟩ := policyAmong_reads os enc
  refine returnsInHanded_of_row (C := Tryd.checked) (s := OpenSpec.ofChange Rows.policyAmongSpec) own started (by kernel_rfl) Tryd.func4
    (witness_row_at (enc := enc) (C := Tryd.checked) false (laidWorld os) #[.int .u8 0, .slice none 0 0, .slice none 0 0, .int .u16 0] rfl (by kernel_rfl) (by kernel_rfl) (by kernel_rfl)
      (OpenSpec.preRow_of_cond 8 hx (by kernel_rfl) (fun k hk => by cases hk) (by kernel_rfl) (policyAmong_met os))) ?_
  intro W base args ds gs before hval hW _ _ _ hL _ _
  exact policyAmong_contract H enc W base args ds gs before hval hW hL

theorem policyAmong_said : Rows.PolicyAmongSaid :=
  OpenClaim.holds_of_cond 4 Tryd.f4 rfl rfl rfl rfl rfl rfl rfl ⟨rfl, rfl, rfl, rfl, rfl⟩ rfl rfl rfl rfl rfl (by kernel_rfl) Tryd.func4 (by kernel_rfl)
    (of_decide_eq_true (by kernel_rfl)) (by unfold Func.isWrapper; first | (rw [if_pos (by decide +kernel)]; kernel_rfl) | (rw [if_neg (by decide +kernel)]; exact ⟨rfl, rfl⟩))
    (fun os started H enc _ F => by rw [OpenClaim.pre_eq_preRow]; exact policyAmong_lifted os started H enc F)

theorem policyAmong_plain (f : FuncId) (fn : Func) (hf : Tryd.pinned.checked.prog.funcNamed "soffit/soffitlaw17.PolicyAmong" = some f) (hfn : Tryd.pinned.checked.prog.funcs[f]? = some fn) :
    false = Tryd.pinned.checked.prog.looks [] ∧ ∀ (j : Nat) t, fn.params[j]? = some t → Tryd.pinned.checked.prog.wantsStandIn t = false := by
  obtain rfl : f = 4 := Option.some.inj ((show Tryd.prog.funcNamed "soffit/soffitlaw17.PolicyAmong" = some 4 by kernel_rfl).symm.trans hf) |>.symm
  obtain rfl : fn = Tryd.f4 := (Option.some.inj (Tryd.func4.symm.trans hfn)).symm
  refine ⟨by kernel_rfl, fun j t ht => ?_⟩
  have hall : (Tryd.f4.params.all fun t => Tryd.pinned.checked.prog.wantsStandIn t == false) = true := by kernel_rfl
  have := Array.all_eq_true'.1 hall t (Array.mem_of_getElem? ht)
  simpa using this
/-- ████ THE CARD ████ -/
theorem policyAmong_card : Rows.PolicyAmongCardSaid :=
  Claim7.holds_tied_plain_at .later [] _ _ _ _ policyAmong_said (fun _ h => by cases h) (by kernel_rfl) (fun _ h => by cases h) policyAmong_row_tie rfl ⟨rfl, rfl⟩ (by kernel_rfl) rfl policyAmong_plain (by kernel_rfl)
#print axioms policyAmong_card
end Go.Proofs.YtfhmjkdpohepaaaDoor
