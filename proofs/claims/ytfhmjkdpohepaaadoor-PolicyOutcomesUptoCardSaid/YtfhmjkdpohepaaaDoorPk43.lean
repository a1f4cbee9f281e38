import Derived.Test.YtfhmjkdpohepaaaDoorPk12
import Derived.Test.YtfhmjkdpohepaaaDoorPk13
import Derived.Test.YtfhmjkdpohepaaaDoorPk21
import Derived.Test.YtfhmjkdpohepaaaDoorPk23
import Derived.Test.YtfhmjkdpohepaaaDoorPk25
import Derived.Test.YtfhmjkdpohepaaaDoorPk26
import Derived.Test.YtfhmjkdpohepaaaDoorPk27
import Derived.Test.YtfhmjkdpohepaaaDoorPk28
import Derived.Test.YtfhmjkdpohepaaaDoorPk29
import Derived.Test.YtfhmjkdpohepaaaDoorPk30
import Derived.Test.YtfhmjkdpohepaaaDoorPk31
import Derived.Test.YtfhmjkdpohepaaaDoorPk32
import Derived.Test.YtfhmjkdpohepaaaDoorPk33
import Derived.Test.YtfhmjkdpohepaaaDoorPk38
import Derived.Test.YtfhmjkdpohepaaaDoorPk41
import Derived.Test.YtfhmjkdpohepaaaDoorPk42
/- soffitlaw17.PolicyOutcomes, walked: whichever rules fire. -/
set_option linter.unusedSimpArgs false
set_option linter.unusedVariables false
namespace Go.Proofs.YtfhmjkdpohepaaaDoor
open Go.RowKit

set_option maxRecDepth 100000 in
set_option maxHeartbeats 6400000 in
theorem law_core (p : Int) (df : Vl) (A B F : Option Addr) (na nb nf ca cb cf : Nat) (w : World) (R : Vl) (er : Int) (hE : Env w)
    (hP : ∀ W : World, Below w.heap.size w W → Calls Tryd.prog 9 #[.int .i64 p, .slice A na ca, .slice B nb cb, .agg #[.int .i64 df.k, .int .i64 df.n, .int .i64 df.s, .string df.t, .int .i64 df.i], .slice F nf cf] W fun e w' => e = .returned (.tuple #[.agg #[.int .i64 R.k, .int .i64 R.n, .int .i64 R.s, .string R.t, .int .i64 R.i], .int .i64 er]) ∧ Below W.heap.size W w')
    (hQ : ∀ W : World, Below w.heap.size w W → Calls Tryd.prog 10 #[.int .i64 p, .slice A na ca, .slice B nb cb, .agg #[.int .i64 df.k, .int .i64 df.n, .int .i64 df.s, .string df.t, .int .i64 df.i], .slice F nf cf] W fun e w' => e = .returned (.tuple #[.agg #[.int .i64 R.k, .int .i64 R.n, .int .i64 R.s, .string R.t, .int .i64 R.i], .int .i64 er]) ∧ Below W.heap.size W w') :
    Calls Tryd.prog 3 #[.int .i64 p, .slice A na ca, .slice B nb cb, .agg #[.int .i64 df.k, .int .i64 df.n, .int .i64 df.s, .string df.t, .int .i64 df.i], .slice F nf cf] w fun e w' => e = .returned (.bool true) ∧ Below w.heap.size w w' := by
  have HP := Lib.hid hP
  have HQ := Lib.hid hQ
  clear hP hQ
  obtain ⟨k, hk⟩ : ∃ k, knownB p = k := ⟨_, rfl⟩
  have HK := Lib.hid hk
  clear hk
  have hq : ∀ W : World, _ := fun W => (eqV_run R R W).trans (by rw [eqB_self])
  go_enter Tryd.func3, Tryd.ntmps3
  go_wp2_with fail
  have K0 : BoxIs (w.alloc (.cells #[.int .i64 df.k, .int .i64 df.n, .int .i64 df.s, .string df.t, .int .i64 df.i] 26)) w.heap.size #[.int .i64 df.k, .int .i64 df.n, .int .i64 df.s, .string df.t, .int .i64 df.i] := BoxIs.new rfl
  refine (HP.out _ bel).mono ?_
  rintro e w2 ⟨rfl, hb2⟩
  have K0 := K0.below hb2
  have k0 := K0.c
  have l0 := K0.lt
  have hbw2 : Below w.heap.size w w2 := bel
  clear hb2
  go_wp2_with fail
  have K1 : BoxIs (w2.alloc (.cells #[.int .i64 R.k, .int .i64 R.n, .int .i64 R.s, .string R.t, .int .i64 R.i] 26)) w2.heap.size #[.int .i64 R.k, .int .i64 R.n, .int .i64 R.s, .string R.t, .int .i64 R.i] := BoxIs.new rfl
  refine (HQ.out _ bel).mono ?_
  rintro e w3 ⟨rfl, hb3⟩
  have K1 := K1.below hb3
  have l1 := K1.lt
  have hbw3 : Below w.heap.size w w3 := bel
  clear hb3 hbw2 k0 K0 l0
  go_wp2_with fail
  have K1 := K1.alloc (.cells #[.int .i64 R.k, .int .i64 R.n, .int .i64 R.s, .string R.t, .int .i64 R.i] 26)
  have K2 : BoxIs (w3.alloc (.cells #[.int .i64 R.k, .int .i64 R.n, .int .i64 R.s, .string R.t, .int .i64 R.i] 26)) w3.heap.size #[.int .i64 R.k, .int .i64 R.n, .int .i64 R.s, .string R.t, .int .i64 R.i] := BoxIs.new rfl
  refine (awake17_any _ (hE.below bel)).mono ?_
  rintro e w4 ⟨rfl, hb4⟩
  have K1 := K1.below hb4
  have K2 := K2.below hb4
  have k1 := K1.c
  have k2 := K2.c
  have hbw4 : Below w.heap.size w w4 := (hbw3.alloc hbw3.size _).trans (hb4.mono (by simp only [sz_alloc]; have := hbw3.size; omega))
  clear hb4 hbw3 l1
  go_wp2_with fail
  refine (known_any p _).mono ?_
  rintro e w5 ⟨rfl, hb5⟩
  rw [HK.out]
  have hbw5 : Below w.heap.size w w5 := bel
  clear hb5 hbw4 k1 k2 K1 K2
  go_wp2_with fail
  refine (rKnown_any p _).mono ?_
  rintro e w6 ⟨rfl, hb6⟩
  rw [HK.out]
  have hbw6 : Below w.heap.size w w6 := bel
  clear hb6 hbw5
  go_wp2_with fail
  go_ret
  exact ⟨ret_bool (by simp), bel⟩

theorem Rise.len {n : Nat} {fs : List Int} (h : Rise n fs) : fs.length ≤ n := by
  have key : ∀ i (hi : i < fs.length), (i : Int) ≤ fs[i]'hi := by
    intro i
    induction i with
    | zero => intro hi; exact h.lo _ (List.getElem_mem hi)
    | succ i ih =>
      intro hi
      have h1 := ih (by omega)
      have h2 := h.up i hi
      omega
  rcases Nat.eq_zero_or_pos fs.length with h0 | h0
  · omega
  · have h1 := key (fs.length - 1) (by omega)
    have h2 := h.hi _ (List.getElem_mem (show fs.length - 1 < fs.length by omega))
    omega
theorem known_cases {p : Int} (h : knownB p = true) : p = 85 ∨ p = 65 ∨ p = 80 ∨ p = 70 ∨ p = 43 ∨ p = 60 ∨ p = 62 ∨ p = 35 := by
  unfold knownB pols at h
  simpa using h

theorem lawOut_any (p : Int) (os od : List Vl) (df : Vl) (fs : List Int) (A B F : Option Addr) (ca cb cf : Nat) (w : World) (hA : RdL w 5 A (os.map Vl.cells5)) (hB : RdL w 5 B (od.map Vl.cells5)) (hF : RdL w 1 F (fs.map intC)) (hos : ∀ v ∈ os, v.wf) (hod : ∀ v ∈ od, v.wf) (hdf : df.wf) (n1 : os.length ≤ 1000000) (n2 : od.length ≤ 1000000) (n3 : fs.length ≤ 9223372036854775807) (hE : Env w) :
    Calls Tryd.prog 3 #[.int .i64 p, .slice A os.length ca, .slice B od.length cb, .agg #[.int .i64 df.k, .int .i64 df.n, .int .i64 df.s, .string df.t, .int .i64 df.i], .slice F fs.length cf] w fun e w' => e = .returned (.bool true) ∧ Below w.heap.size w w' := by
  have m1 : os.length ≤ 9223372036854775807 := by omega
  have m2 : od.length ≤ 9223372036854775807 := by omega
  cases hk : knownB p
  · exact law_core p df A B F _ _ _ ca cb cf w Vl.zero 1 hE
      (fun W hW => outNo0 os od df fs A B F ca cb cf W (hA.below hW) (hB.below hW) (hF.below hW) hos hod hdf n3 m1 m2 (hE.below hW) p hk)
      (fun W hW => roNo0 os od df fs A B F ca cb cf W (hA.below hW) (hB.below hW) (hF.below hW) hos hod hdf n1 n2 n3 p hk)
  rcases rise_or os.length fs with hfs | ⟨q, hq⟩
  case inr =>
    exact law_core p df A B F _ _ _ ca cb cf w Vl.zero 1 hE
      (fun W hW => outBad os od df fs A B F ca cb cf W (hA.below hW) (hB.below hW) (hF.below hW) hos hod hdf n3 m1 m2 (hE.below hW) p hk q hq)
      (fun W hW => roBad os od df fs A B F ca cb cf W (hA.below hW) (hB.below hW) (hF.below hW) hos hod hdf n1 n2 n3 p hk q hq)
  have h16 : fs.length ≤ 1000000 := Nat.le_trans hfs.len n1
  cases hs : sndAll os od df
  · exact law_core p df A B F _ _ _ ca cb cf w Vl.zero 2 hE
      (fun W hW => outNo_any os od df fs A B F ca cb cf W (hA.below hW) (hB.below hW) (hF.below hW) hos hod hdf hfs h16 m1 m2 (hE.below hW) p hk hs)
      (fun W hW => roNo os od df fs A B F ca cb cf W (hA.below hW) (hB.below hW) (hF.below hW) hos hod hdf n1 n2 n3 hfs h16 p hk hs)
  obtain ⟨s1, s2, s3⟩ := sndAll_yes hs
  by_cases h35 : p = 35
  · subst h35
    exact law_core 35 df A B F _ _ _ ca cb cf w ⟨1, fs.length, 0, ⟨#[]⟩, 0⟩ 0 hE
      (fun W hW => outCount os od df fs A B F ca cb cf W (hA.below hW) (hB.below hW) (hF.below hW) hos hod hdf hfs h16 m1 m2 (hE.below hW) s1 s2 s3)
      (fun W hW => roCount os od df fs A B F ca cb cf W (hA.below hW) (hB.below hW) (hF.below hW) hos hod hdf n1 n2 n3 hfs h16 hs)
  have hp : (p == 35) = false := by rw [beq_eq_false_iff_ne]; exact h35
  rcases Nat.eq_zero_or_pos fs.length with h0 | h0
  · exact law_core p df A B F _ _ _ ca cb cf w df 0 hE
      (fun W hW => outDef os od df fs A B F ca cb cf W (hA.below hW) (hB.below hW) (hF.below hW) hos hod hdf hfs h16 m1 m2 (hE.below hW) p hk hp h0 s1 s2 s3)
      (fun W hW => roDef os od df fs A B F ca cb cf W (hA.below hW) (hB.below hW) (hF.below hW) hos hod hdf n1 n2 n3 hfs h16 p hk hp h0 hs)
  obtain ⟨f, fr, hfr⟩ : ∃ f fr, fs = f :: fr := by
    cases fs with
    | nil => simp at h0
    | cons f fr => exact ⟨f, fr, rfl⟩
  have hpo := pick_snd hos (fun v hv => sndAll_mem.1 hs v (by simp [hv])) fs
  have hmap : fs.map (pickV os) = pickV os f :: fr.map (pickV os) := by rw [hfr]; rfl
  rw [hmap] at hpo
  rcases known_cases hk with rfl | rfl | rfl | rfl | rfl | rfl | rfl | rfl
  · by_cases h1 : fs.length = 1
    · exact law_core 85 df A B F _ _ _ ca cb cf w (pickV os f) 0 hE
        (fun W hW => outUnique1 os od df fs A B F ca cb cf W (hA.below hW) (hB.below hW) (hF.below hW) hos hod hdf hfs h16 m1 m2 (hE.below hW) f fr hfr h1 s1 s2 s3)
        (fun W hW => roU1 os od df fs A B F ca cb cf W (hA.below hW) (hB.below hW) (hF.below hW) hos hod hdf n1 n2 n3 hfs h16 h1 f fr hfr hs)
    · exact law_core 85 df A B F _ _ _ ca cb cf w Vl.zero 0 hE
        (fun W hW => outUnique2 os od df fs A B F ca cb cf W (hA.below hW) (hB.below hW) (hF.below hW) hos hod hdf hfs h16 m1 m2 (hE.below hW) f fr hfr (by omega) s1 s2 s3)
        (fun W hW => roU2 os od df fs A B F ca cb cf W (hA.below hW) (hB.below hW) (hF.below hW) hos hod hdf n1 n2 n3 hfs h16 (by omega) f fr hfr hs)
  · exact law_core 65 df A B F _ _ _ ca cb cf w (oneV (pickV os f) (pickV os f :: fr.map (pickV os))) 0 hE
      (fun W hW => outAny os od df fs A B F ca cb cf W (hA.below hW) (hB.below hW) (hF.below hW) hos hod hdf hfs h16 m1 m2 (hE.below hW) f fr hfr s1 s2 s3)
      (fun W hW => by
        have := roA os od df fs A B F ca cb cf W (hA.below hW) (hB.below hW) (hF.below hW) hos hod hdf n1 n2 n3 hfs h16 f fr hfr hs
        rw [gatA_one] at this
        exact this)
  · exact law_core 80 df A B F _ _ _ ca cb cf w (firstV (pickV os f) (pickV os f :: fr.map (pickV os)) od) 0 hE
      (fun W hW => outPrio os od df fs A B F ca cb cf W (hA.below hW) (hB.below hW) (hF.below hW) hos hod hdf hfs h16 m1 m2 (hE.below hW) f fr hfr s1 s2 s3)
      (fun W hW => roP os od df fs A B F ca cb cf W (hA.below hW) (hB.below hW) (hF.below hW) hos hod hdf n1 n2 n3 hfs h16 f fr hfr hs)
  · exact law_core 70 df A B F _ _ _ ca cb cf w (pickV os f) 0 hE
      (fun W hW => by
        have := outFirst os od df fs A B F ca cb cf W (hA.below hW) (hB.below hW) (hF.below hW) hos hod hdf hfs h16 m1 m2 (hE.below hW) f fr hfr s1 s2 s3
        rw [firstV_nil] at this
        exact this)
      (fun W hW => roF os od df fs A B F ca cb cf W (hA.below hW) (hB.below hW) (hF.below hW) hos hod hdf n1 n2 n3 hfs h16 f fr hfr hs)
  · exact law_core 43 df A B F _ _ _ ca cb cf w (sumF (pickV os f :: fr.map (pickV os)) 0 0) 0 hE
      (fun W hW => outSum os od df fs A B F ca cb cf W (hA.below hW) (hB.below hW) (hF.below hW) hos hod hdf hfs h16 m1 m2 (hE.below hW) f fr hfr hpo.2 s1 s2 s3)
      (fun W hW => roS os od df fs A B F ca cb cf W (hA.below hW) (hB.below hW) (hF.below hW) hos hod hdf n1 n2 n3 hfs h16 f fr hfr hs)
  · have hEO : EndOf (pickV os f) (pickV os f :: fr.map (pickV os)) false (gatE false (pickV os f) (pickV os f :: fr.map (pickV os)) (pickV os f)) := gatE_EndOf List.mem_cons_self
    exact law_core 60 df A B F _ _ _ ca cb cf w (gatE false (pickV os f) (pickV os f :: fr.map (pickV os)) (pickV os f)) 0 hE
      (fun W hW => (outLeast os od df fs A B F ca cb cf W (hA.below hW) (hB.below hW) (hF.below hW) hos hod hdf hfs h16 m1 m2 (hE.below hW) f fr hfr hpo.1 hpo.2 s1 s2 s3).mono fun e w' ⟨R, he, hr, hb⟩ => ⟨by rw [he, endOf_uniq hpo.2 hr hEO], hb⟩)
      (fun W hW => roL os od df fs A B F ca cb cf W (hA.below hW) (hB.below hW) (hF.below hW) hos hod hdf n1 n2 n3 hfs h16 f fr hfr hs)
  · have hEO : EndOf (pickV os f) (pickV os f :: fr.map (pickV os)) true (gatE true (pickV os f) (pickV os f :: fr.map (pickV os)) (pickV os f)) := gatE_EndOf List.mem_cons_self
    exact law_core 62 df A B F _ _ _ ca cb cf w (gatE true (pickV os f) (pickV os f :: fr.map (pickV os)) (pickV os f)) 0 hE
      (fun W hW => (outMost os od df fs A B F ca cb cf W (hA.below hW) (hB.below hW) (hF.below hW) hos hod hdf hfs h16 m1 m2 (hE.below hW) f fr hfr hpo.1 hpo.2 s1 s2 s3).mono fun e w' ⟨R, he, hr, hb⟩ => ⟨by rw [he, endOf_uniq hpo.2 hr hEO], hb⟩)
      (fun W hW => roM os od df fs A B F ca cb cf W (hA.below hW) (hB.below hW) (hF.below hW) hos hod hdf n1 n2 n3 hfs h16 f fr hfr hs)
  · exact absurd rfl h35
end Go.Proofs.YtfhmjkdpohepaaaDoor
