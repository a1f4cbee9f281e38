/- soffitlaw17.PolicyEnds, walked. -/
import Derived.Test.YtfhmjkdpohepaaaDoorAwake17
import Derived.Test.YtfhmjkdpohepaaaDoorOutLeast
import Derived.Test.YtfhmjkdpohepaaaDoorOutMost
import Derived.Test.YtfhmjkdpohepaaaDoorRef04c
import Derived.Test.YtfhmjkdpohepaaaDoorVCmp
set_option linter.unusedSimpArgs false
set_option linter.unusedVariables false
namespace Go.Proofs.YtfhmjkdpohepaaaDoor
open Go.RowKit

set_option maxRecDepth 100000 in
set_option maxHeartbeats 6400000 in
theorem ends_no (os : List Vl) (m : Int) (A : Option Addr) (ca : Nat) (w : World) (hA : RdL w 5 A (os.map Vl.cells5)) (hos : ∀ v ∈ os, v.wf) (n1 : os.length ≤ 9223372036854775807) (hE : Env w) (hn : sndAll os [] Vl.zero = false) :
    Calls Tryd.prog 6 #[.slice A os.length ca, .int .u16 m] w fun e w' => e = .returned (.bool true) ∧ Below w.heap.size w w' := by
  go_enter Tryd.func6, Tryd.ntmps6
  go_wp2_with fail
  refine (pall_any os.length m w n1).mono ?_
  rintro e w1 ⟨fs, F, cf, rfl, hF, hrise, h16, hb1⟩
  have hA1 : RdL w1 5 A (os.map Vl.cells5) := hA.below hb1
  have hE1 : Env w1 := hE.below hb1
  have hz1 := hb1.size
  go_wp2_with fail
  refine (outNo_any os [] Vl.zero fs A none F ca 0 cf _ (hA1.below (by repeat' (first | (with_reducible exact Below.refl _ _) | (with_reducible assumption) | (with_reducible refine Below.drew ?_) | (with_reducible refine below_drewN ?_ _) | (with_reducible refine below_iterAt ?_ ?_ _ _) | (with_reducible refine below_iter ?_ ?_ _ _) | (with_reducible refine Below.alloc ?_ ?_ _) | (with_reducible refine Below.setCell ?_ ?_ _) | (with_reducible refine Below.trans ?_ (Below.mono (by assumption) ?_)) | (simp only [sz_alloc, sz_set, sz_drew, sz_drewN, sz_iterAt, sz_iter] at *; omega) | omega | (simp; done) | (simp; omega) | (apply Below.size; assumption) | (simp only [sz_drew, sz_drewN]; apply Below.size; assumption) | (refine Nat.le_trans ?_ (Below.size (by assumption)))))) (RdL.nil_ _ _ _) (hF.below (by repeat' (first | (with_reducible exact Below.refl _ _) | (with_reducible assumption) | (with_reducible refine Below.drew ?_) | (with_reducible refine below_drewN ?_ _) | (with_reducible refine below_iterAt ?_ ?_ _ _) | (with_reducible refine below_iter ?_ ?_ _ _) | (with_reducible refine Below.alloc ?_ ?_ _) | (with_reducible refine Below.setCell ?_ ?_ _) | (with_reducible refine Below.trans ?_ (Below.mono (by assumption) ?_)) | (simp only [sz_alloc, sz_set, sz_drew, sz_drewN, sz_iterAt, sz_iter] at *; omega) | omega | (simp; done) | (simp; omega) | (apply Below.size; assumption) | (simp only [sz_drew, sz_drewN]; apply Below.size; assumption) | (refine Nat.le_trans ?_ (Below.size (by assumption)))))) hos nil_wf zero_wf hrise h16 n1 (by simp) (hE1.below (by repeat' (first | (with_reducible exact Below.refl _ _) | (with_reducible assumption) | (with_reducible refine Below.drew ?_) | (with_reducible refine below_drewN ?_ _) | (with_reducible refine below_iterAt ?_ ?_ _ _) | (with_reducible refine below_iter ?_ ?_ _ _) | (with_reducible refine Below.alloc ?_ ?_ _) | (with_reducible refine Below.setCell ?_ ?_ _) | (with_reducible refine Below.trans ?_ (Below.mono (by assumption) ?_)) | (simp only [sz_alloc, sz_set, sz_drew, sz_drewN, sz_iterAt, sz_iter] at *; omega) | omega | (simp; done) | (simp; omega) | (apply Below.size; assumption) | (simp only [sz_drew, sz_drewN]; apply Below.size; assumption) | (refine Nat.le_trans ?_ (Below.size (by assumption)))))) 60 (by decide) hn).mono ?_
  rintro e w2 ⟨rfl, hb2⟩
  have hz2 := hb2.size
  go_wp2_with fail
  refine (outNo_any os [] Vl.zero fs A none F ca 0 cf _ (hA1.below (by repeat' (first | (with_reducible exact Below.refl _ _) | (with_reducible assumption) | (with_reducible refine Below.drew ?_) | (with_reducible refine below_drewN ?_ _) | (with_reducible refine below_iterAt ?_ ?_ _ _) | (with_reducible refine below_iter ?_ ?_ _ _) | (with_reducible refine Below.alloc ?_ ?_ _) | (with_reducible refine Below.setCell ?_ ?_ _) | (with_reducible refine Below.trans ?_ (Below.mono (by assumption) ?_)) | (simp only [sz_alloc, sz_set, sz_drew, sz_drewN, sz_iterAt, sz_iter] at *; omega) | omega | (simp; done) | (simp; omega) | (apply Below.size; assumption) | (simp only [sz_drew, sz_drewN]; apply Below.size; assumption) | (refine Nat.le_trans ?_ (Below.size (by assumption)))))) (RdL.nil_ _ _ _) (hF.below (by repeat' (first | (with_reducible exact Below.refl _ _) | (with_reducible assumption) | (with_reducible refine Below.drew ?_) | (with_reducible refine below_drewN ?_ _) | (with_reducible refine below_iterAt ?_ ?_ _ _) | (with_reducible refine below_iter ?_ ?_ _ _) | (with_reducible refine Below.alloc ?_ ?_ _) | (with_reducible refine Below.setCell ?_ ?_ _) | (with_reducible refine Below.trans ?_ (Below.mono (by assumption) ?_)) | (simp only [sz_alloc, sz_set, sz_drew, sz_drewN, sz_iterAt, sz_iter] at *; omega) | omega | (simp; done) | (simp; omega) | (apply Below.size; assumption) | (simp only [sz_drew, sz_drewN]; apply Below.size; assumption) | (refine Nat.le_trans ?_ (Below.size (by assumption)))))) hos nil_wf zero_wf hrise h16 n1 (by simp) (hE1.below (by repeat' (first | (with_reducible exact Below.refl _ _) | (with_reducible assumption) | (with_reducible refine Below.drew ?_) | (with_reducible refine below_drewN ?_ _) | (with_reducible refine below_iterAt ?_ ?_ _ _) | (with_reducible refine below_iter ?_ ?_ _ _) | (with_reducible refine Below.alloc ?_ ?_ _) | (with_reducible refine Below.setCell ?_ ?_ _) | (with_reducible refine Below.trans ?_ (Below.mono (by assumption) ?_)) | (simp only [sz_alloc, sz_set, sz_drew, sz_drewN, sz_iterAt, sz_iter] at *; omega) | omega | (simp; done) | (simp; omega) | (apply Below.size; assumption) | (simp only [sz_drew, sz_drewN]; apply Below.size; assumption) | (refine Nat.le_trans ?_ (Below.size (by assumption)))))) 62 (by decide) hn).mono ?_
  rintro e w3 ⟨rfl, hb3⟩
  have hz3 := hb3.size
  try simp at hz3
  go_wp2_with fail
  refine (awake17_any _ (hE1.below (by repeat' (first | (with_reducible exact Below.refl _ _) | (with_reducible assumption) | (with_reducible refine Below.drew ?_) | (with_reducible refine below_drewN ?_ _) | (with_reducible refine below_iterAt ?_ ?_ _ _) | (with_reducible refine below_iter ?_ ?_ _ _) | (with_reducible refine Below.alloc ?_ ?_ _) | (with_reducible refine Below.setCell ?_ ?_ _) | (with_reducible refine Below.trans ?_ (Below.mono (by assumption) ?_)) | (simp only [sz_alloc, sz_set, sz_drew, sz_drewN, sz_iterAt, sz_iter] at *; omega) | omega | (simp; done) | (simp; omega) | (apply Below.size; assumption) | (simp only [sz_drew, sz_drewN]; apply Below.size; assumption) | (refine Nat.le_trans ?_ (Below.size (by assumption))))))).mono ?_
  rintro e w4 ⟨rfl, hb4⟩
  go_wp2_with fail
  refine (awake17_any _ (hE1.below (by repeat' (first | (with_reducible exact Below.refl _ _) | (with_reducible assumption) | (with_reducible refine Below.drew ?_) | (with_reducible refine below_drewN ?_ _) | (with_reducible refine below_iterAt ?_ ?_ _ _) | (with_reducible refine below_iter ?_ ?_ _ _) | (with_reducible refine Below.alloc ?_ ?_ _) | (with_reducible refine Below.setCell ?_ ?_ _) | (with_reducible refine Below.trans ?_ (Below.mono (by assumption) ?_)) | (simp only [sz_alloc, sz_set, sz_drew, sz_drewN, sz_iterAt, sz_iter] at *; omega) | omega | (simp; done) | (simp; omega) | (apply Below.size; assumption) | (simp only [sz_drew, sz_drewN]; apply Below.size; assumption) | (refine Nat.le_trans ?_ (Below.size (by assumption))))))).mono ?_
  rintro e w5 ⟨rfl, hb5⟩
  go_wp2_with fail
  go_ret
  exact ⟨ret_bool rfl, (by repeat' (first | (with_reducible exact Below.refl _ _) | (with_reducible assumption) | (with_reducible refine Below.drew ?_) | (with_reducible refine below_drewN ?_ _) | (with_reducible refine below_iterAt ?_ ?_ _ _) | (with_reducible refine below_iter ?_ ?_ _ _) | (with_reducible refine Below.alloc ?_ ?_ _) | (with_reducible refine Below.setCell ?_ ?_ _) | (with_reducible refine Below.trans ?_ (Below.mono (by assumption) ?_)) | (simp only [sz_alloc, sz_set, sz_drew, sz_drewN, sz_iterAt, sz_iter] at *; omega) | omega | (simp; done) | (simp; omega) | (apply Below.size; assumption) | (simp only [sz_drew, sz_drewN]; apply Below.size; assumption) | (refine Nat.le_trans ?_ (Below.size (by assumption)))))⟩

theorem pick_ok {os : List Vl} (hw : ∀ v ∈ os, v.wf) (hs : allSnd os = true) (fs : List Int) : (∀ v ∈ fs.map (pickV os), v.wf) ∧ (∀ v ∈ fs.map (pickV os), sndB v = true) := by
  have h2 : ∀ v ∈ os, sndB v = true := by
    intro v hv
    unfold allSnd at hs
    rw [Bool.not_eq_true', List.any_eq_false] at hs
    simpa using hs v hv
  have key : ∀ v ∈ fs.map (pickV os), v.wf ∧ sndB v = true := by
    intro v hv
    obtain ⟨x, _, rfl⟩ := List.mem_map.1 hv
    unfold pickV
    cases he : os[x.toNat]? with
    | none => exact ⟨zero_wf, zero_sound⟩
    | some u => exact ⟨hw u (List.mem_of_getElem? he), h2 u (List.mem_of_getElem? he)⟩
  exact ⟨fun v hv => (key v hv).1, fun v hv => (key v hv).2⟩
theorem cmpVRes_yes {a b : Vl} (ha : sndB a = true) (hb : sndB b = true) : cmpVRes a b = .tuple #[.int .i64 (cmpV a b), .int .i64 0] := by unfold cmpVRes; rw [ha, hb]; rfl

set_option maxRecDepth 100000 in
set_option maxHeartbeats 6400000 in
theorem ends_yes (os : List Vl) (m : Int) (A : Option Addr) (ca : Nat) (w : World) (hA : RdL w 5 A (os.map Vl.cells5)) (hos : ∀ v ∈ os, v.wf) (n1 : os.length ≤ 9223372036854775807) (hE : Env w) (s1 : allSnd os = true) :
    Calls Tryd.prog 6 #[.slice A os.length ca, .int .u16 m] w fun e w' => e = .returned (.bool true) ∧ Below w.heap.size w w' := by
  go_enter Tryd.func6, Tryd.ntmps6
  go_wp2_with fail
  refine (pall_any os.length m w n1).mono ?_
  rintro e w1 ⟨fs, F, cf, rfl, hF, hrise, h16, hb1⟩
  have hA1 : RdL w1 5 A (os.map Vl.cells5) := hA.below hb1
  have hE1 : Env w1 := hE.below hb1
  have hz1 := hb1.size
  by_cases hfe : fs.length = 0
  · have e0 : ((fs.length : Int) == 0) = true := by rw [hfe]; rfl
    have HFE := Lib.hid hfe
    clear hfe
    go_wp2_with fail
    refine (outDef os [] Vl.zero fs A none F ca 0 cf _ (hA1.below (by repeat' (first | (with_reducible exact Below.refl _ _) | (with_reducible assumption) | (with_reducible refine Below.drew ?_) | (with_reducible refine below_drewN ?_ _) | (with_reducible refine below_iterAt ?_ ?_ _ _) | (with_reducible refine below_iter ?_ ?_ _ _) | (with_reducible refine Below.alloc ?_ ?_ _) | (with_reducible refine Below.setCell ?_ ?_ _) | (with_reducible refine Below.trans ?_ (Below.mono (by assumption) ?_)) | (simp only [sz_alloc, sz_set, sz_drew, sz_drewN, sz_iterAt, sz_iter] at *; omega) | omega | (simp; done) | (simp; omega) | (apply Below.size; assumption) | (simp only [sz_drew, sz_drewN]; apply Below.size; assumption) | (refine Nat.le_trans ?_ (Below.size (by assumption)))))) (RdL.nil_ _ _ _) (hF.below (by repeat' (first | (with_reducible exact Below.refl _ _) | (with_reducible assumption) | (with_reducible refine Below.drew ?_) | (with_reducible refine below_drewN ?_ _) | (with_reducible refine below_iterAt ?_ ?_ _ _) | (with_reducible refine below_iter ?_ ?_ _ _) | (with_reducible refine Below.alloc ?_ ?_ _) | (with_reducible refine Below.setCell ?_ ?_ _) | (with_reducible refine Below.trans ?_ (Below.mono (by assumption) ?_)) | (simp only [sz_alloc, sz_set, sz_drew, sz_drewN, sz_iterAt, sz_iter] at *; omega) | omega | (simp; done) | (simp; omega) | (apply Below.size; assumption) | (simp only [sz_drew, sz_drewN]; apply Below.size; assumption) | (refine Nat.le_trans ?_ (Below.size (by assumption)))))) hos nil_wf zero_wf hrise h16 n1 (by simp) (hE1.below (by repeat' (first | (with_reducible exact Below.refl _ _) | (with_reducible assumption) | (with_reducible refine Below.drew ?_) | (with_reducible refine below_drewN ?_ _) | (with_reducible refine below_iterAt ?_ ?_ _ _) | (with_reducible refine below_iter ?_ ?_ _ _) | (with_reducible refine Below.alloc ?_ ?_ _) | (with_reducible refine Below.setCell ?_ ?_ _) | (with_reducible refine Below.trans ?_ (Below.mono (by assumption) ?_)) | (simp only [sz_alloc, sz_set, sz_drew, sz_drewN, sz_iterAt, sz_iter] at *; omega) | omega | (simp; done) | (simp; omega) | (apply Below.size; assumption) | (simp only [sz_drew, sz_drewN]; apply Below.size; assumption) | (refine Nat.le_trans ?_ (Below.size (by assumption)))))) 60 (by decide) (by decide) HFE.out s1 allSnd_nil allSnd_zero).mono ?_
    rintro e w2 ⟨rfl, hb2⟩
    have hz2 := hb2.size
    go_wp2_with fail
    refine (outDef os [] Vl.zero fs A none F ca 0 cf _ (hA1.below (by repeat' (first | (with_reducible exact Below.refl _ _) | (with_reducible assumption) | (with_reducible refine Below.drew ?_) | (with_reducible refine below_drewN ?_ _) | (with_reducible refine below_iterAt ?_ ?_ _ _) | (with_reducible refine below_iter ?_ ?_ _ _) | (with_reducible refine Below.alloc ?_ ?_ _) | (with_reducible refine Below.setCell ?_ ?_ _) | (with_reducible refine Below.trans ?_ (Below.mono (by assumption) ?_)) | (simp only [sz_alloc, sz_set, sz_drew, sz_drewN, sz_iterAt, sz_iter] at *; omega) | omega | (simp; done) | (simp; omega) | (apply Below.size; assumption) | (simp only [sz_drew, sz_drewN]; apply Below.size; assumption) | (refine Nat.le_trans ?_ (Below.size (by assumption)))))) (RdL.nil_ _ _ _) (hF.below (by repeat' (first | (with_reducible exact Below.refl _ _) | (with_reducible assumption) | (with_reducible refine Below.drew ?_) | (with_reducible refine below_drewN ?_ _) | (with_reducible refine below_iterAt ?_ ?_ _ _) | (with_reducible refine below_iter ?_ ?_ _ _) | (with_reducible refine Below.alloc ?_ ?_ _) | (with_reducible refine Below.setCell ?_ ?_ _) | (with_reducible refine Below.trans ?_ (Below.mono (by assumption) ?_)) | (simp only [sz_alloc, sz_set, sz_drew, sz_drewN, sz_iterAt, sz_iter] at *; omega) | omega | (simp; done) | (simp; omega) | (apply Below.size; assumption) | (simp only [sz_drew, sz_drewN]; apply Below.size; assumption) | (refine Nat.le_trans ?_ (Below.size (by assumption)))))) hos nil_wf zero_wf hrise h16 n1 (by simp) (hE1.below (by repeat' (first | (with_reducible exact Below.refl _ _) | (with_reducible assumption) | (with_reducible refine Below.drew ?_) | (with_reducible refine below_drewN ?_ _) | (with_reducible refine below_iterAt ?_ ?_ _ _) | (with_reducible refine below_iter ?_ ?_ _ _) | (with_reducible refine Below.alloc ?_ ?_ _) | (with_reducible refine Below.setCell ?_ ?_ _) | (with_reducible refine Below.trans ?_ (Below.mono (by assumption) ?_)) | (simp only [sz_alloc, sz_set, sz_drew, sz_drewN, sz_iterAt, sz_iter] at *; omega) | omega | (simp; done) | (simp; omega) | (apply Below.size; assumption) | (simp only [sz_drew, sz_drewN]; apply Below.size; assumption) | (refine Nat.le_trans ?_ (Below.size (by assumption)))))) 62 (by decide) (by decide) HFE.out s1 allSnd_nil allSnd_zero).mono ?_
    rintro e w3 ⟨rfl, hb3⟩
    have hz3 := hb3.size
    try simp at hz3
    go_wp2_with fail
    refine (awake17_any _ (hE1.below (by repeat' (first | (with_reducible exact Below.refl _ _) | (with_reducible assumption) | (with_reducible refine Below.drew ?_) | (with_reducible refine below_drewN ?_ _) | (with_reducible refine below_iterAt ?_ ?_ _ _) | (with_reducible refine below_iter ?_ ?_ _ _) | (with_reducible refine Below.alloc ?_ ?_ _) | (with_reducible refine Below.setCell ?_ ?_ _) | (with_reducible refine Below.trans ?_ (Below.mono (by assumption) ?_)) | (simp only [sz_alloc, sz_set, sz_drew, sz_drewN, sz_iterAt, sz_iter] at *; omega) | omega | (simp; done) | (simp; omega) | (apply Below.size; assumption) | (simp only [sz_drew, sz_drewN]; apply Below.size; assumption) | (refine Nat.le_trans ?_ (Below.size (by assumption))))))).mono ?_
    rintro e w4 ⟨rfl, hb4⟩
    go_wp2_with fail
    refine (awake17_any _ (hE1.below (by repeat' (first | (with_reducible exact Below.refl _ _) | (with_reducible assumption) | (with_reducible refine Below.drew ?_) | (with_reducible refine below_drewN ?_ _) | (with_reducible refine below_iterAt ?_ ?_ _ _) | (with_reducible refine below_iter ?_ ?_ _ _) | (with_reducible refine Below.alloc ?_ ?_ _) | (with_reducible refine Below.setCell ?_ ?_ _) | (with_reducible refine Below.trans ?_ (Below.mono (by assumption) ?_)) | (simp only [sz_alloc, sz_set, sz_drew, sz_drewN, sz_iterAt, sz_iter] at *; omega) | omega | (simp; done) | (simp; omega) | (apply Below.size; assumption) | (simp only [sz_drew, sz_drewN]; apply Below.size; assumption) | (refine Nat.le_trans ?_ (Below.size (by assumption))))))).mono ?_
    rintro e w5 ⟨rfl, hb5⟩
    go_wp2_with fail
    go_ret
    exact ⟨ret_bool rfl, (by repeat' (first | (with_reducible exact Below.refl _ _) | (with_reducible assumption) | (with_reducible refine Below.drew ?_) | (with_reducible refine below_drewN ?_ _) | (with_reducible refine below_iterAt ?_ ?_ _ _) | (with_reducible refine below_iter ?_ ?_ _ _) | (with_reducible refine Below.alloc ?_ ?_ _) | (with_reducible refine Below.setCell ?_ ?_ _) | (with_reducible refine Below.trans ?_ (Below.mono (by assumption) ?_)) | (simp only [sz_alloc, sz_set, sz_drew, sz_drewN, sz_iterAt, sz_iter] at *; omega) | omega | (simp; done) | (simp; omega) | (apply Below.size; assumption) | (simp only [sz_drew, sz_drewN]; apply Below.size; assumption) | (refine Nat.le_trans ?_ (Below.size (by assumption)))))⟩
  · have e0 : ((fs.length : Int) == 0) = false := by rw [beq_eq_false_iff_ne]; omega
    obtain ⟨f, fr, hfr⟩ : ∃ f fr, fs = f :: fr := by cases fs with | nil => exact absurd rfl hfe | cons f fr => exact ⟨f, fr, rfl⟩
    have hmap : fs.map (pickV os) = pickV os f :: fr.map (pickV os) := by rw [hfr]; rfl
    have hpo := pick_ok hos s1 fs
    rw [hmap] at hpo
    have HPO := Lib.hid hpo
    have HFR := Lib.hid hfr
    have HMAP := Lib.hid hmap
    have HFE := Lib.hid hfe
    clear hpo hfr hmap hfe
    go_wp2_with fail
    refine (outLeast os [] Vl.zero fs A none F ca 0 cf _ (hA1.below (by repeat' (first | (with_reducible exact Below.refl _ _) | (with_reducible assumption) | (with_reducible refine Below.drew ?_) | (with_reducible refine below_drewN ?_ _) | (with_reducible refine below_iterAt ?_ ?_ _ _) | (with_reducible refine below_iter ?_ ?_ _ _) | (with_reducible refine Below.alloc ?_ ?_ _) | (with_reducible refine Below.setCell ?_ ?_ _) | (with_reducible refine Below.trans ?_ (Below.mono (by assumption) ?_)) | (simp only [sz_alloc, sz_set, sz_drew, sz_drewN, sz_iterAt, sz_iter] at *; omega) | omega | (simp; done) | (simp; omega) | (apply Below.size; assumption) | (simp only [sz_drew, sz_drewN]; apply Below.size; assumption) | (refine Nat.le_trans ?_ (Below.size (by assumption)))))) (RdL.nil_ _ _ _) (hF.below (by repeat' (first | (with_reducible exact Below.refl _ _) | (with_reducible assumption) | (with_reducible refine Below.drew ?_) | (with_reducible refine below_drewN ?_ _) | (with_reducible refine below_iterAt ?_ ?_ _ _) | (with_reducible refine below_iter ?_ ?_ _ _) | (with_reducible refine Below.alloc ?_ ?_ _) | (with_reducible refine Below.setCell ?_ ?_ _) | (with_reducible refine Below.trans ?_ (Below.mono (by assumption) ?_)) | (simp only [sz_alloc, sz_set, sz_drew, sz_drewN, sz_iterAt, sz_iter] at *; omega) | omega | (simp; done) | (simp; omega) | (apply Below.size; assumption) | (simp only [sz_drew, sz_drewN]; apply Below.size; assumption) | (refine Nat.le_trans ?_ (Below.size (by assumption)))))) hos nil_wf zero_wf hrise h16 n1 (by simp) (hE1.below (by repeat' (first | (with_reducible exact Below.refl _ _) | (with_reducible assumption) | (with_reducible refine Below.drew ?_) | (with_reducible refine below_drewN ?_ _) | (with_reducible refine below_iterAt ?_ ?_ _ _) | (with_reducible refine below_iter ?_ ?_ _ _) | (with_reducible refine Below.alloc ?_ ?_ _) | (with_reducible refine Below.setCell ?_ ?_ _) | (with_reducible refine Below.trans ?_ (Below.mono (by assumption) ?_)) | (simp only [sz_alloc, sz_set, sz_drew, sz_drewN, sz_iterAt, sz_iter] at *; omega) | omega | (simp; done) | (simp; omega) | (apply Below.size; assumption) | (simp only [sz_drew, sz_drewN]; apply Below.size; assumption) | (refine Nat.le_trans ?_ (Below.size (by assumption)))))) f fr HFR.out HPO.out.1 HPO.out.2 s1 allSnd_nil allSnd_zero).mono ?_
    rintro e w2 ⟨R1, rfl, hE1R, hb2⟩
    have hz2 := hb2.size
    have HE1R := Lib.hid hE1R
    clear hE1R
    go_wp2_with fail
    refine (outMost os [] Vl.zero fs A none F ca 0 cf _ (hA1.below (by repeat' (first | (with_reducible exact Below.refl _ _) | (with_reducible assumption) | (with_reducible refine Below.drew ?_) | (with_reducible refine below_drewN ?_ _) | (with_reducible refine below_iterAt ?_ ?_ _ _) | (with_reducible refine below_iter ?_ ?_ _ _) | (with_reducible refine Below.alloc ?_ ?_ _) | (with_reducible refine Below.setCell ?_ ?_ _) | (with_reducible refine Below.trans ?_ (Below.mono (by assumption) ?_)) | (simp only [sz_alloc, sz_set, sz_drew, sz_drewN, sz_iterAt, sz_iter] at *; omega) | omega | (simp; done) | (simp; omega) | (apply Below.size; assumption) | (simp only [sz_drew, sz_drewN]; apply Below.size; assumption) | (refine Nat.le_trans ?_ (Below.size (by assumption)))))) (RdL.nil_ _ _ _) (hF.below (by repeat' (first | (with_reducible exact Below.refl _ _) | (with_reducible assumption) | (with_reducible refine Below.drew ?_) | (with_reducible refine below_drewN ?_ _) | (with_reducible refine below_iterAt ?_ ?_ _ _) | (with_reducible refine below_iter ?_ ?_ _ _) | (with_reducible refine Below.alloc ?_ ?_ _) | (with_reducible refine Below.setCell ?_ ?_ _) | (with_reducible refine Below.trans ?_ (Below.mono (by assumption) ?_)) | (simp only [sz_alloc, sz_set, sz_drew, sz_drewN, sz_iterAt, sz_iter] at *; omega) | omega | (simp; done) | (simp; omega) | (apply Below.size; assumption) | (simp only [sz_drew, sz_drewN]; apply Below.size; assumption) | (refine Nat.le_trans ?_ (Below.size (by assumption)))))) hos nil_wf zero_wf hrise h16 n1 (by simp) (hE1.below (by repeat' (first | (with_reducible exact Below.refl _ _) | (with_reducible assumption) | (with_reducible refine Below.drew ?_) | (with_reducible refine below_drewN ?_ _) | (with_reducible refine below_iterAt ?_ ?_ _ _) | (with_reducible refine below_iter ?_ ?_ _ _) | (with_reducible refine Below.alloc ?_ ?_ _) | (with_reducible refine Below.setCell ?_ ?_ _) | (with_reducible refine Below.trans ?_ (Below.mono (by assumption) ?_)) | (simp only [sz_alloc, sz_set, sz_drew, sz_drewN, sz_iterAt, sz_iter] at *; omega) | omega | (simp; done) | (simp; omega) | (apply Below.size; assumption) | (simp only [sz_drew, sz_drewN]; apply Below.size; assumption) | (refine Nat.le_trans ?_ (Below.size (by assumption)))))) f fr HFR.out HPO.out.1 HPO.out.2 s1 allSnd_nil allSnd_zero).mono ?_
    rintro e w3 ⟨R2, rfl, hE2R, hb3⟩
    obtain ⟨hc3, hf3⟩ := bcell hb3
    have hz3 := hb3.size
    try simp at hz3
    have q3_0 := fun o => hc3 (w2.heap.size) o (by first | omega | (simp only [sz_alloc, sz_set, sz_drew, sz_drewN, sz_iterAt, sz_iter] at *; omega) | (simp; done) | (simp; omega) | (simp at *; omega))
    have l3_0 : w2.heap.size < w3.heap.size := by omega
    have r3_0 := fun o => hf3 (w2.heap.size) o (by first | omega | (simp only [sz_alloc, sz_set, sz_drew, sz_drewN, sz_iterAt, sz_iter] at *; omega) | (simp; done) | (simp; omega) | (simp at *; omega))
    clear hc3 hf3
    have HE2R := Lib.hid hE2R
    clear hE2R
    go_wp2_with fail
    refine (awake17_any _ (hE1.below (by repeat' (first | (with_reducible exact Below.refl _ _) | (with_reducible assumption) | (with_reducible refine Below.drew ?_) | (with_reducible refine below_drewN ?_ _) | (with_reducible refine below_iterAt ?_ ?_ _ _) | (with_reducible refine below_iter ?_ ?_ _ _) | (with_reducible refine Below.alloc ?_ ?_ _) | (with_reducible refine Below.setCell ?_ ?_ _) | (with_reducible refine Below.trans ?_ (Below.mono (by assumption) ?_)) | (simp only [sz_alloc, sz_set, sz_drew, sz_drewN, sz_iterAt, sz_iter] at *; omega) | omega | (simp; done) | (simp; omega) | (apply Below.size; assumption) | (simp only [sz_drew, sz_drewN]; apply Below.size; assumption) | (refine Nat.le_trans ?_ (Below.size (by assumption))))))).mono ?_
    rintro e w4 ⟨rfl, hb4⟩
    obtain ⟨hc4, hf4⟩ := bcell hb4
    have hz4 := hb4.size
    try simp at hz4
    have q4_0 := fun o => hc4 (w2.heap.size) o (by first | omega | (simp only [sz_alloc, sz_set, sz_drew, sz_drewN, sz_iterAt, sz_iter] at *; omega) | (simp; done) | (simp; omega) | (simp at *; omega))
    have l4_0 : w2.heap.size < w4.heap.size := by omega
    have r4_0 := fun o => hf4 (w2.heap.size) o (by first | omega | (simp only [sz_alloc, sz_set, sz_drew, sz_drewN, sz_iterAt, sz_iter] at *; omega) | (simp; done) | (simp; omega) | (simp at *; omega))
    have q4_1 := fun o => hc4 (w3.heap.size) o (by first | omega | (simp only [sz_alloc, sz_set, sz_drew, sz_drewN, sz_iterAt, sz_iter] at *; omega) | (simp; done) | (simp; omega) | (simp at *; omega))
    have l4_1 : w3.heap.size < w4.heap.size := by omega
    have r4_1 := fun o => hf4 (w3.heap.size) o (by first | omega | (simp only [sz_alloc, sz_set, sz_drew, sz_drewN, sz_iterAt, sz_iter] at *; omega) | (simp; done) | (simp; omega) | (simp at *; omega))
    clear hc4 hf4
    have ka0 : w4.cell? ⟨w2.heap.size, 0, none⟩ = some (.int .i64 R1.k) := (by first | (simp [go_sem]; done) | (simp [go_sem, *]; done))
    have ka1 : w4.cell? ⟨w2.heap.size, 1, none⟩ = some (.int .i64 R1.n) := (by first | (simp [go_sem]; done) | (simp [go_sem, *]; done))
    have ka2 : w4.cell? ⟨w2.heap.size, 2, none⟩ = some (.int .i64 R1.s) := (by first | (simp [go_sem]; done) | (simp [go_sem, *]; done))
    have ka3 : w4.cell? ⟨w2.heap.size, 3, none⟩ = some (.string R1.t) := (by first | (simp [go_sem]; done) | (simp [go_sem, *]; done))
    have ka4 : w4.cell? ⟨w2.heap.size, 4, none⟩ = some (.int .i64 R1.i) := (by first | (simp [go_sem]; done) | (simp [go_sem, *]; done))
    have kb0 : w4.cell? ⟨w3.heap.size, 0, none⟩ = some (.int .i64 R2.k) := (by first | (simp [go_sem]; done) | (simp [go_sem, *]; done))
    have kb1 : w4.cell? ⟨w3.heap.size, 1, none⟩ = some (.int .i64 R2.n) := (by first | (simp [go_sem]; done) | (simp [go_sem, *]; done))
    have kb2 : w4.cell? ⟨w3.heap.size, 2, none⟩ = some (.int .i64 R2.s) := (by first | (simp [go_sem]; done) | (simp [go_sem, *]; done))
    have kb3 : w4.cell? ⟨w3.heap.size, 3, none⟩ = some (.string R2.t) := (by first | (simp [go_sem]; done) | (simp [go_sem, *]; done))
    have kb4 : w4.cell? ⟨w3.heap.size, 4, none⟩ = some (.int .i64 R2.i) := (by first | (simp [go_sem]; done) | (simp [go_sem, *]; done))
    have hF4 : RdL w4 1 F (fs.map intC) := hF.below (by repeat' (first | (with_reducible exact Below.refl _ _) | (with_reducible assumption) | (with_reducible refine Below.drew ?_) | (with_reducible refine below_drewN ?_ _) | (with_reducible refine below_iterAt ?_ ?_ _ _) | (with_reducible refine below_iter ?_ ?_ _ _) | (with_reducible refine Below.alloc ?_ ?_ _) | (with_reducible refine Below.setCell ?_ ?_ _) | (with_reducible refine Below.trans ?_ (Below.mono (by assumption) ?_)) | (simp only [sz_alloc, sz_set, sz_drew, sz_drewN, sz_iterAt, sz_iter] at *; omega) | omega | (simp; done) | (simp; omega) | (apply Below.size; assumption) | (simp only [sz_drew, sz_drewN]; apply Below.size; assumption) | (refine Nat.le_trans ?_ (Below.size (by assumption)))))
    have hA4 : RdL w4 5 A (os.map Vl.cells5) := hA1.below (by repeat' (first | (with_reducible exact Below.refl _ _) | (with_reducible assumption) | (with_reducible refine Below.drew ?_) | (with_reducible refine below_drewN ?_ _) | (with_reducible refine below_iterAt ?_ ?_ _ _) | (with_reducible refine below_iter ?_ ?_ _ _) | (with_reducible refine Below.alloc ?_ ?_ _) | (with_reducible refine Below.setCell ?_ ?_ _) | (with_reducible refine Below.trans ?_ (Below.mono (by assumption) ?_)) | (simp only [sz_alloc, sz_set, sz_drew, sz_drewN, sz_iterAt, sz_iter] at *; omega) | omega | (simp; done) | (simp; omega) | (apply Below.size; assumption) | (simp only [sz_drew, sz_drewN]; apply Below.size; assumption) | (refine Nat.le_trans ?_ (Below.size (by assumption)))))
    have hbw4 : Below w.heap.size w w4 := (by repeat' (first | (with_reducible exact Below.refl _ _) | (with_reducible assumption) | (with_reducible refine Below.drew ?_) | (with_reducible refine below_drewN ?_ _) | (with_reducible refine below_iterAt ?_ ?_ _ _) | (with_reducible refine below_iter ?_ ?_ _ _) | (with_reducible refine Below.alloc ?_ ?_ _) | (with_reducible refine Below.setCell ?_ ?_ _) | (with_reducible refine Below.trans ?_ (Below.mono (by assumption) ?_)) | (simp only [sz_alloc, sz_set, sz_drew, sz_drewN, sz_iterAt, sz_iter] at *; omega) | omega | (simp; done) | (simp; omega) | (apply Below.size; assumption) | (simp only [sz_drew, sz_drewN]; apply Below.size; assumption) | (refine Nat.le_trans ?_ (Below.size (by assumption)))))
    clear hA hF hE1 hA1 hE hb1 hb2 hb3 hb4 q3_0 r3_0 q4_0 q4_1 r4_0 r4_1
    have hl3 : w3.heap.size < w4.heap.size := cell_lt kb0
    have hl2 : w2.heap.size < w4.heap.size := cell_lt ka0
    rcases HE1R.out with ⟨hbad, hz1R⟩ | ⟨hgood, hm1, hlow⟩
    · have hz2R : R2 = Vl.zero := by
        rcases HE2R.out with ⟨_, h⟩ | ⟨h, _⟩
        · exact h
        · rw [hbad] at h; cases h
      subst hz1R
      subst hz2R
      clear hbad
      go_wp2_with fail
      go_loopg [10] 1 (fun k iv wr => iv = .int .i64 0 ∧ Below w4.heap.size w4 wr)
      case atStart => exact ⟨rfl, Below.refl _ _⟩
      case round =>
        obtain ⟨rfl, hbel⟩ := hrel
        have c0 := cell_below hbel ka0
        go_wp2_with fail
        go_ret
        exact ⟨ret_bool rfl, (by repeat' (first | (with_reducible exact Below.refl _ _) | (with_reducible assumption) | (with_reducible refine Below.drew ?_) | (with_reducible refine below_drewN ?_ _) | (with_reducible refine below_iterAt ?_ ?_ _ _) | (with_reducible refine below_iter ?_ ?_ _ _) | (with_reducible refine Below.alloc ?_ ?_ _) | (with_reducible refine Below.setCell ?_ ?_ _) | (with_reducible refine Below.trans ?_ (Below.mono (by assumption) ?_)) | (simp only [sz_alloc, sz_set, sz_drew, sz_drewN, sz_iterAt, sz_iter] at *; omega) | omega | (simp; done) | (simp; omega) | (apply Below.size; assumption) | (simp only [sz_drew, sz_drewN]; apply Below.size; assumption) | (refine Nat.le_trans ?_ (Below.size (by assumption)))))⟩
    · obtain ⟨hm2, hhigh⟩ : R2 ∈ pickV os f :: fr.map (pickV os) ∧ ∀ y ∈ pickV os f :: fr.map (pickV os), ltV R2 y = false := by
        rcases HE2R.out with ⟨h, _⟩ | ⟨_, h, h2⟩
        · rw [hgood] at h; cases h
        · exact ⟨h, h2⟩
      have hnk : ∀ v ∈ pickV os f :: fr.map (pickV os), (v.k == 0) = false := by
        intro v hv
        have := List.any_eq_false.1 hgood v hv
        unfold badK at this
        cases h : (v.k == 0)
        · rfl
        · rw [h] at this; simp at this
      have e1 : (R1.k == 0) = false := hnk R1 hm1
      have e2 : (R2.k == 0) = false := hnk R2 hm2
      have e3 : (R1.k != 0) = true := by simp at e1; simp [e1]
      have hlow2 : ∀ y ∈ pickV os f :: fr.map (pickV os), ltV y R1 = false := hlow
      have hw1 := HPO.out.1 R1 hm1
      have hw2 := HPO.out.1 R2 hm2
      have hs1 := HPO.out.2 R1 hm1
      have hs2 := HPO.out.2 R2 hm2
      have HL := Lib.hid hlow2
      have HH := Lib.hid hhigh
      have HW1 := Lib.hid hw1
      have HW2 := Lib.hid hw2
      have HS1 := Lib.hid hs1
      have HS2 := Lib.hid hs2
      clear hlow hlow2 hhigh hw1 hw2 hs1 hs2 hm1 hm2 hnk hgood
      go_wp2_with fail
      clear e0
      go_loopg [10] fs.length (fun k iv wr => ∃ j : Nat, j ≤ fs.length ∧ fs.length - j ≤ k ∧ iv = .int .i64 j ∧ Below w4.heap.size w4 wr)
      case atStart => exact ⟨0, by omega, by omega, rfl, Below.refl _ _⟩
      case round =>
        obtain ⟨j, hj, hjk, rfl, hbel⟩ := hrel
        have hsz := hbel.size
        have a0 := cell_below hbel ka0
        have a1 := cell_below hbel ka1
        have a2 := cell_below hbel ka2
        have a3 := cell_below hbel ka3
        have a4 := cell_below hbel ka4
        have b0 := cell_below hbel kb0
        have b1 := cell_below hbel kb1
        have b2 := cell_below hbel kb2
        have b3 := cell_below hbel kb3
        have b4 := cell_below hbel kb4
        by_cases hjl : j < fs.length
        · have h2 : (j : Int) < (fs.length : Int) := by omega
          have hmem : pickV os (fs[j]'hjl) ∈ pickV os f :: fr.map (pickV os) := by rw [← HMAP.out]; exact List.mem_map.2 ⟨_, List.getElem_mem hjl, rfl⟩
          obtain ⟨bF, oF, hFe, hxF⟩ := (hF4.below hbel).at_ hjl
          subst hFe
          have g0 := hxF.get 0 rfl
          rw [Nat.mul_one, Nat.add_zero] at g0
          have hx0 := hrise.lo _ (List.getElem_mem hjl)
          have hx1 := hrise.hi _ (List.getElem_mem hjl)
          generalize fs[j]'hjl = n at *
          obtain ⟨n', rfl⟩ : ∃ n' : Nat, n = (n' : Int) := ⟨n.toNat, by omega⟩
          have hnl : n' < os.length := by omega
          have hpk : pickV os (n' : Int) = os[n']'hnl := by unfold pickV; rw [Int.toNat_natCast, List.getElem?_eq_getElem hnl]; rfl
          rw [hpk] at hmem
          obtain ⟨b, off, hAe, hxA⟩ := (hA4.below hbel).at_ hnl
          subst hAe
          generalize os[n']'hnl = u at *
          have hwu := HPO.out.1 u hmem
          have hsu := HPO.out.2 u hmem
          have hx : ¬ 0 < cmpV R1 u := fun h => by have := cmpV_pos h; rw [HL.out u hmem] at this; cases this
          have hy : ¬ cmpV R2 u < 0 := fun h => by have := cmpV_neg h; rw [HH.out u hmem] at this; cases this
          have hc1 := fun W => rCompare_any R1 u W HW1.out hwu
          have hc2 := fun W => rCompare_any R2 u W HW2.out hwu
          rw [cmpVRes_yes HS1.out hsu] at hc1
          rw [cmpVRes_yes HS2.out hsu] at hc2
          generalize cmpV R1 u = cx at *
          generalize cmpV R2 u = cy at *
          have HC1 := Lib.hid hc1
          have HC2 := Lib.hid hc2
          have u0 := hxA.get 0 rfl
          have u1 := hxA.get 1 rfl
          have u2 := hxA.get 2 rfl
          have u3 := hxA.get 3 rfl
          have u4 := hxA.get 4 rfl
          rw [Nat.add_zero] at u0
          have i1 : (0 : Int) ≤ (j : Int) := by omega
          have i3 : (0 : Int) ≤ (n' : Int) := by omega
          have i4 : (n' : Int) < (os.length : Int) := by omega
          clear hc1 hc2 hxF hxA hx0 hx1 hpk hmem hwu hsu
          have hlR1 : w2.heap.size < wr.heap.size := cell_lt a0
          have hlR2 : w3.heap.size < wr.heap.size := cell_lt b0
          have hlu : b < wr.heap.size := cell_lt u0
          have hlF : bF < wr.heap.size := cell_lt g0
          go_wp2_with fail
          have kk0 : wr.cell? ⟨w2.heap.size, 0, none⟩ = some (.int .i64 R1.k) := (by first | (simp [go_sem]; done) | (simp [go_sem, *]; done))
          have kk1 : wr.cell? ⟨w2.heap.size, 1, none⟩ = some (.int .i64 R1.n) := (by first | (simp [go_sem]; done) | (simp [go_sem, *]; done))
          have kk2 : wr.cell? ⟨w2.heap.size, 2, none⟩ = some (.int .i64 R1.s) := (by first | (simp [go_sem]; done) | (simp [go_sem, *]; done))
          have kk3 : wr.cell? ⟨w2.heap.size, 3, none⟩ = some (.string R1.t) := (by first | (simp [go_sem]; done) | (simp [go_sem, *]; done))
          have kk4 : wr.cell? ⟨w2.heap.size, 4, none⟩ = some (.int .i64 R1.i) := (by first | (simp [go_sem]; done) | (simp [go_sem, *]; done))
          have kk5 : wr.cell? ⟨b, off + n' * 5, none⟩ = some (.int .i64 u.k) := (by first | (simp [go_sem]; done) | (simp [go_sem, *]; done))
          have kk6 : wr.cell? ⟨b, off + n' * 5 + 1, none⟩ = some (.int .i64 u.n) := (by first | (simp [go_sem]; done) | (simp [go_sem, *]; done))
          have kk7 : wr.cell? ⟨b, off + n' * 5 + 2, none⟩ = some (.int .i64 u.s) := (by first | (simp [go_sem]; done) | (simp [go_sem, *]; done))
          have kk8 : wr.cell? ⟨b, off + n' * 5 + 3, none⟩ = some (.string u.t) := (by first | (simp [go_sem]; done) | (simp [go_sem, *]; done))
          have kk9 : wr.cell? ⟨b, off + n' * 5 + 4, none⟩ = some (.int .i64 u.i) := (by first | (simp [go_sem]; done) | (simp [go_sem, *]; done))
          have kk10 : wr.cell? ⟨bF, oF + j, none⟩ = some (.int .i64 n') := (by first | (simp [go_sem]; done) | (simp [go_sem, *]; done))
          go_region_held3 (fun w' => Below wr.heap.size wr w' ∧ w'.cell? ⟨w2.heap.size, 0, none⟩ = some (.int .i64 R1.k) ∧ w'.cell? ⟨w2.heap.size, 1, none⟩ = some (.int .i64 R1.n) ∧ w'.cell? ⟨w2.heap.size, 2, none⟩ = some (.int .i64 R1.s) ∧ w'.cell? ⟨w2.heap.size, 3, none⟩ = some (.string R1.t) ∧ w'.cell? ⟨w2.heap.size, 4, none⟩ = some (.int .i64 R1.i) ∧ w'.cell? ⟨b, off + n' * 5, none⟩ = some (.int .i64 u.k) ∧ w'.cell? ⟨b, off + n' * 5 + 1, none⟩ = some (.int .i64 u.n) ∧ w'.cell? ⟨b, off + n' * 5 + 2, none⟩ = some (.int .i64 u.s) ∧ w'.cell? ⟨b, off + n' * 5 + 3, none⟩ = some (.string u.t) ∧ w'.cell? ⟨b, off + n' * 5 + 4, none⟩ = some (.int .i64 u.i) ∧ w'.cell? ⟨bF, oF + j, none⟩ = some (.int .i64 n')) ((refine and_keep ?_ (fun hk => ⟨keep_cell hk hlR1 kk0, keep_cell hk hlR1 kk1, keep_cell hk hlR1 kk2, keep_cell hk hlR1 kk3, keep_cell hk hlR1 kk4, keep_cell hk hlu kk5, keep_cell hk hlu kk6, keep_cell hk hlu kk7, keep_cell hk hlu kk8, keep_cell hk hlu kk9, keep_cell hk hlF kk10⟩); exact (by repeat' (first | (with_reducible exact Below.refl _ _) | (with_reducible assumption) | (with_reducible refine Below.drew ?_) | (with_reducible refine below_drewN ?_ _) | (with_reducible refine below_iterAt ?_ ?_ _ _) | (with_reducible refine below_iter ?_ ?_ _ _) | (with_reducible refine Below.alloc ?_ ?_ _) | (with_reducible refine Below.setCell ?_ ?_ _) | (with_reducible refine Below.trans ?_ (Below.mono (by assumption) ?_)) | (simp only [sz_alloc, sz_set, sz_drew, sz_drewN, sz_iterAt, sz_iter] at *; omega) | omega | (simp; done) | (simp; omega) | (apply Below.size; assumption) | (simp only [sz_drew, sz_drewN]; apply Below.size; assumption) | (refine Nat.le_trans ?_ (Below.size (by assumption)))))))
            (first
              | (go_at_call 15; refine (HC1.out _).mono ?_; rintro e w' ⟨rfl, hb'⟩))
          have hS : Below wr.heap.size wr _ ∧ _ := (by assumption)
          have hby := hS.1
          clear hS
          go_wp2_with fail
          have kk0 : wr.cell? ⟨w3.heap.size, 0, none⟩ = some (.int .i64 R2.k) := (by first | (simp [go_sem]; done) | (simp [go_sem, *]; done))
          have kk1 : wr.cell? ⟨w3.heap.size, 1, none⟩ = some (.int .i64 R2.n) := (by first | (simp [go_sem]; done) | (simp [go_sem, *]; done))
          have kk2 : wr.cell? ⟨w3.heap.size, 2, none⟩ = some (.int .i64 R2.s) := (by first | (simp [go_sem]; done) | (simp [go_sem, *]; done))
          have kk3 : wr.cell? ⟨w3.heap.size, 3, none⟩ = some (.string R2.t) := (by first | (simp [go_sem]; done) | (simp [go_sem, *]; done))
          have kk4 : wr.cell? ⟨w3.heap.size, 4, none⟩ = some (.int .i64 R2.i) := (by first | (simp [go_sem]; done) | (simp [go_sem, *]; done))
          have kk5 : wr.cell? ⟨b, off + n' * 5, none⟩ = some (.int .i64 u.k) := (by first | (simp [go_sem]; done) | (simp [go_sem, *]; done))
          have kk6 : wr.cell? ⟨b, off + n' * 5 + 1, none⟩ = some (.int .i64 u.n) := (by first | (simp [go_sem]; done) | (simp [go_sem, *]; done))
          have kk7 : wr.cell? ⟨b, off + n' * 5 + 2, none⟩ = some (.int .i64 u.s) := (by first | (simp [go_sem]; done) | (simp [go_sem, *]; done))
          have kk8 : wr.cell? ⟨b, off + n' * 5 + 3, none⟩ = some (.string u.t) := (by first | (simp [go_sem]; done) | (simp [go_sem, *]; done))
          have kk9 : wr.cell? ⟨b, off + n' * 5 + 4, none⟩ = some (.int .i64 u.i) := (by first | (simp [go_sem]; done) | (simp [go_sem, *]; done))
          have kk10 : wr.cell? ⟨bF, oF + j, none⟩ = some (.int .i64 n') := (by first | (simp [go_sem]; done) | (simp [go_sem, *]; done))
          go_region_held3 (fun w' => Below wr.heap.size wr w' ∧ w'.cell? ⟨w3.heap.size, 0, none⟩ = some (.int .i64 R2.k) ∧ w'.cell? ⟨w3.heap.size, 1, none⟩ = some (.int .i64 R2.n) ∧ w'.cell? ⟨w3.heap.size, 2, none⟩ = some (.int .i64 R2.s) ∧ w'.cell? ⟨w3.heap.size, 3, none⟩ = some (.string R2.t) ∧ w'.cell? ⟨w3.heap.size, 4, none⟩ = some (.int .i64 R2.i) ∧ w'.cell? ⟨b, off + n' * 5, none⟩ = some (.int .i64 u.k) ∧ w'.cell? ⟨b, off + n' * 5 + 1, none⟩ = some (.int .i64 u.n) ∧ w'.cell? ⟨b, off + n' * 5 + 2, none⟩ = some (.int .i64 u.s) ∧ w'.cell? ⟨b, off + n' * 5 + 3, none⟩ = some (.string u.t) ∧ w'.cell? ⟨b, off + n' * 5 + 4, none⟩ = some (.int .i64 u.i) ∧ w'.cell? ⟨bF, oF + j, none⟩ = some (.int .i64 n')) ((refine and_keep ?_ (fun hk => ⟨keep_cell hk hlR2 kk0, keep_cell hk hlR2 kk1, keep_cell hk hlR2 kk2, keep_cell hk hlR2 kk3, keep_cell hk hlR2 kk4, keep_cell hk hlu kk5, keep_cell hk hlu kk6, keep_cell hk hlu kk7, keep_cell hk hlu kk8, keep_cell hk hlu kk9, keep_cell hk hlF kk10⟩); exact (by repeat' (first | (with_reducible exact Below.refl _ _) | (with_reducible assumption) | (with_reducible refine Below.drew ?_) | (with_reducible refine below_drewN ?_ _) | (with_reducible refine below_iterAt ?_ ?_ _ _) | (with_reducible refine below_iter ?_ ?_ _ _) | (with_reducible refine Below.alloc ?_ ?_ _) | (with_reducible refine Below.setCell ?_ ?_ _) | (with_reducible refine Below.trans ?_ (Below.mono (by assumption) ?_)) | (simp only [sz_alloc, sz_set, sz_drew, sz_drewN, sz_iterAt, sz_iter] at *; omega) | omega | (simp; done) | (simp; omega) | (apply Below.size; assumption) | (simp only [sz_drew, sz_drewN]; apply Below.size; assumption) | (refine Nat.le_trans ?_ (Below.size (by assumption)))))))
            (first
              | (go_at_call 15; refine (HC2.out _).mono ?_; rintro e w' ⟨rfl, hb'⟩))
          have hS : Below wr.heap.size wr _ ∧ _ := (by assumption)
          have hbz := hS.1
          clear hS
          go_wp2_with fail
          go_roundg (fs.length - (j + 1))
          case measure => omega
          case rel => exact ⟨j + 1, by omega, by omega, by go_num, (by repeat' (first | (with_reducible exact Below.refl _ _) | (with_reducible assumption) | (with_reducible refine Below.drew ?_) | (with_reducible refine below_drewN ?_ _) | (with_reducible refine below_iterAt ?_ ?_ _ _) | (with_reducible refine below_iter ?_ ?_ _ _) | (with_reducible refine Below.alloc ?_ ?_ _) | (with_reducible refine Below.setCell ?_ ?_ _) | (with_reducible refine Below.trans ?_ (Below.mono (by assumption) ?_)) | (simp only [sz_alloc, sz_set, sz_drew, sz_drewN, sz_iterAt, sz_iter] at *; omega) | omega | (simp; done) | (simp; omega) | (apply Below.size; assumption) | (simp only [sz_drew, sz_drewN]; apply Below.size; assumption) | (refine Nat.le_trans ?_ (Below.size (by assumption)))))⟩
        · have h3 : ¬ ((j : Int) < (fs.length : Int)) := by omega
          go_wp2_with fail
          go_ret
          exact ⟨ret_bool rfl, (by repeat' (first | (with_reducible exact Below.refl _ _) | (with_reducible assumption) | (with_reducible refine Below.drew ?_) | (with_reducible refine below_drewN ?_ _) | (with_reducible refine below_iterAt ?_ ?_ _ _) | (with_reducible refine below_iter ?_ ?_ _ _) | (with_reducible refine Below.alloc ?_ ?_ _) | (with_reducible refine Below.setCell ?_ ?_ _) | (with_reducible refine Below.trans ?_ (Below.mono (by assumption) ?_)) | (simp only [sz_alloc, sz_set, sz_drew, sz_drewN, sz_iterAt, sz_iter] at *; omega) | omega | (simp; done) | (simp; omega) | (apply Below.size; assumption) | (simp only [sz_drew, sz_drewN]; apply Below.size; assumption) | (refine Nat.le_trans ?_ (Below.size (by assumption)))))⟩
end Go.Proofs.YtfhmjkdpohepaaaDoor
