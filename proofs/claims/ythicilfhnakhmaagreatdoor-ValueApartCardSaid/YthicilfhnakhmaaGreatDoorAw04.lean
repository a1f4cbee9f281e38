/- soffitlaw04.awake, ValueTexts, ValueCompares: walked. -/
import Derived.Test.YthicilfhnakhmaaGreatDoorTx5
import Derived.Test.YthicilfhnakhmaaGreatDoorCmp
import Derived.Test.YthicilfhnakhmaaGreatDoorRef04c
set_option linter.unusedSimpArgs false
set_option linter.unusedVariables false
namespace Go.Proofs.YthicilfhnakhmaaGreatDoor
open Go.RowKit Go.Sort Go.Lib

def awV : Vl := ⟨2, 0, 0, ⟨#[97, 34, 98]⟩, 0⟩
theorem aw_snd : sndB awV = true := by decide +kernel
theorem aw_txt : txtRes awV = .tuple #[.string ⟨#[34, 97, 92, 34, 98, 34]⟩, .int .i64 0] := by
  rw [txtRes_yes aw_snd]
  have e : valL awV = quoL [97, 34, 98] := by
    unfold valL awV
    dsimp only
    rw [if_neg (by decide), if_pos rfl]
  rw [e]
  rfl
theorem aw_wf1 : awV.wf := ⟨by unfold I64 awV; simp, by unfold I64 awV; simp, by unfold I64 awV; simp, by unfold I64 awV; simp, by show (3 : Nat) ≤ 9223372036854775807; omega⟩
def bV0 : Vl := ⟨3, 0, 0, ⟨#[]⟩, 0⟩
def dV5 : Vl := ⟨4, 0, 0, ⟨#[]⟩, 5⟩
theorem z_wf : Vl.zero.wf := ⟨by unfold I64 Vl.zero; simp, by unfold I64 Vl.zero; simp, by unfold I64 Vl.zero; simp, by unfold I64 Vl.zero; simp, by show (0 : Nat) ≤ 9223372036854775807; omega⟩
theorem b_wf0 : bV0.wf := ⟨by unfold I64 bV0; simp, by unfold I64 bV0; simp, by unfold I64 bV0; simp, by unfold I64 bV0; simp, by show (0 : Nat) ≤ 9223372036854775807; omega⟩
theorem d_wf5 : dV5.wf := ⟨by unfold I64 dV5; simp, by unfold I64 dV5; simp, by unfold I64 dV5; simp, by unfold I64 dV5; simp, by show (0 : Nat) ≤ 9223372036854775807; omega⟩
theorem aw_cmp : cmpVRes Vl.zero bV0 = .tuple #[.int .i64 (-1), .int .i64 0] := by
  have h1 : (sndB Vl.zero && sndB bV0) = true := by decide +kernel
  unfold cmpVRes
  rw [if_pos h1]
  rfl
theorem d5_snd : sndB dV5 = true := by decide +kernel

set_option maxRecDepth 100000 in
set_option maxHeartbeats 3200000 in
theorem awake04_any (w : World) (hE : EnvP w) :
    Calls Tryz.prog 10 #[] w fun e w' => e = .returned (.bool true) ∧ Below w.heap.size w w' := by
  have sEq : ((⟨#[34, 97, 92, 34, 98, 34]⟩ : ByteArray) == ⟨#[34, 97, 92, 34, 98, 34]⟩) = true := by decide +kernel
  go_enter Tryz.func10, Tryz.ntmps10
  go_wp2_with fail
  refine (vText_any awV _ aw_wf1 hE).mono ?_
  rintro e w1 ⟨rfl, hb1⟩
  rw [aw_txt]
  go_wp2_with fail
  refine (vCompare_any Vl.zero bV0 _ z_wf b_wf0 (hE.env.below (by repeat' (first | (with_reducible exact Below.refl _ _) | (with_reducible assumption) | (with_reducible refine Below.drew ?_) | (with_reducible refine below_drewN ?_ _) | (with_reducible refine below_iterAt ?_ ?_ _ _) | (with_reducible refine below_iter ?_ ?_ _ _) | (with_reducible refine Below.alloc ?_ ?_ _) | (with_reducible refine Below.setCell ?_ ?_ _) | (with_reducible refine Below.trans ?_ (Below.mono (by assumption) ?_)) | (simp only [sz_alloc, sz_set, sz_drew, sz_drewN, sz_iterAt, sz_iter] at *; omega) | omega | (simp; done) | (simp; omega) | (apply Below.size; assumption) | (simp only [sz_drew, sz_drewN]; apply Below.size; assumption) | (refine Nat.le_trans ?_ (Below.size (by assumption))))))).mono ?_
  rintro e w2 ⟨rfl, hb2⟩
  rw [aw_cmp]
  go_wp2_with fail
  refine (vSound_any dV5 _ d_wf5 (hE.env.below (by repeat' (first | (with_reducible exact Below.refl _ _) | (with_reducible assumption) | (with_reducible refine Below.drew ?_) | (with_reducible refine below_drewN ?_ _) | (with_reducible refine below_iterAt ?_ ?_ _ _) | (with_reducible refine below_iter ?_ ?_ _ _) | (with_reducible refine Below.alloc ?_ ?_ _) | (with_reducible refine Below.setCell ?_ ?_ _) | (with_reducible refine Below.trans ?_ (Below.mono (by assumption) ?_)) | (simp only [sz_alloc, sz_set, sz_drew, sz_drewN, sz_iterAt, sz_iter] at *; omega) | omega | (simp; done) | (simp; omega) | (apply Below.size; assumption) | (simp only [sz_drew, sz_drewN]; apply Below.size; assumption) | (refine Nat.le_trans ?_ (Below.size (by assumption))))))).mono ?_
  rintro e w3 ⟨rfl, hb3⟩
  rw [d5_snd]
  go_wp2_with fail
  go_ret
  exact ⟨rfl, (by repeat' (first | (with_reducible exact Below.refl _ _) | (with_reducible assumption) | (with_reducible refine Below.drew ?_) | (with_reducible refine below_drewN ?_ _) | (with_reducible refine below_iterAt ?_ ?_ _ _) | (with_reducible refine below_iter ?_ ?_ _ _) | (with_reducible refine Below.alloc ?_ ?_ _) | (with_reducible refine Below.setCell ?_ ?_ _) | (with_reducible refine Below.trans ?_ (Below.mono (by assumption) ?_)) | (simp only [sz_alloc, sz_set, sz_drew, sz_drewN, sz_iterAt, sz_iter] at *; omega) | omega | (simp; done) | (simp; omega) | (apply Below.size; assumption) | (simp only [sz_drew, sz_drewN]; apply Below.size; assumption) | (refine Nat.le_trans ?_ (Below.size (by assumption)))))⟩

set_option maxRecDepth 100000 in
set_option maxHeartbeats 3200000 in
theorem lawTexts_any (v : Vl) (w : World) (hv : v.wf) (hE : EnvP w) :
    Calls Tryz.prog 4 #[.agg #[.int .i64 v.k, .int .i64 v.n, .int .i64 v.s, .string v.t, .int .i64 v.i]] w fun e w' => e = .returned (.bool true) ∧ Below w.heap.size w w' := by
  obtain ⟨S, r, hR⟩ : ∃ (S : ByteArray) (r : Int), txtRes v = .tuple #[.string S, .int .i64 r] := by
    cases hs : sndB v
    · exact ⟨_, _, txtRes_no hs⟩
    · exact ⟨_, _, txtRes_yes hs⟩
  have HR := Lib.hid hR
  clear hR
  go_enter Tryz.func4, Tryz.ntmps4
  go_wp2_with fail
  refine (vText_any v _ hv (hE.below (by repeat' (first | (with_reducible exact Below.refl _ _) | (with_reducible assumption) | (with_reducible refine Below.drew ?_) | (with_reducible refine below_drewN ?_ _) | (with_reducible refine below_iterAt ?_ ?_ _ _) | (with_reducible refine below_iter ?_ ?_ _ _) | (with_reducible refine Below.alloc ?_ ?_ _) | (with_reducible refine Below.setCell ?_ ?_ _) | (with_reducible refine Below.trans ?_ (Below.mono (by assumption) ?_)) | (simp only [sz_alloc, sz_set, sz_drew, sz_drewN, sz_iterAt, sz_iter] at *; omega) | omega | (simp; done) | (simp; omega) | (apply Below.size; assumption) | (simp only [sz_drew, sz_drewN]; apply Below.size; assumption) | (refine Nat.le_trans ?_ (Below.size (by assumption))))))).mono ?_
  rintro e w1 ⟨rfl, hb1⟩
  rw [HR.out]
  obtain ⟨hc1, hf1⟩ := bcell hb1
  have hz1 := hb1.size
  try simp at hz1
  have q1_0 := fun o => hc1 (w.heap.size) o (by first | omega | (simp only [sz_alloc, sz_set, sz_drew, sz_drewN, sz_iterAt, sz_iter] at *; omega) | (simp; done) | (simp; omega) | (simp at *; omega))
  have l1_0 : w.heap.size < w1.heap.size := by omega
  have r1_0 := fun o => hf1 (w.heap.size) o (by first | omega | (simp only [sz_alloc, sz_set, sz_drew, sz_drewN, sz_iterAt, sz_iter] at *; omega) | (simp; done) | (simp; omega) | (simp at *; omega))
  clear hc1 hf1
  go_wp2_with fail
  refine (rText_any v _ hv).mono ?_
  rintro e w2 ⟨rfl, hb2⟩
  rw [HR.out]
  go_wp2_with fail
  refine (awake04_any _ (hE.below (by repeat' (first | (with_reducible exact Below.refl _ _) | (with_reducible assumption) | (with_reducible refine Below.drew ?_) | (with_reducible refine below_drewN ?_ _) | (with_reducible refine below_iterAt ?_ ?_ _ _) | (with_reducible refine below_iter ?_ ?_ _ _) | (with_reducible refine Below.alloc ?_ ?_ _) | (with_reducible refine Below.setCell ?_ ?_ _) | (with_reducible refine Below.trans ?_ (Below.mono (by assumption) ?_)) | (simp only [sz_alloc, sz_set, sz_drew, sz_drewN, sz_iterAt, sz_iter] at *; omega) | omega | (simp; done) | (simp; omega) | (apply Below.size; assumption) | (simp only [sz_drew, sz_drewN]; apply Below.size; assumption) | (refine Nat.le_trans ?_ (Below.size (by assumption))))))).mono ?_
  rintro e w3 ⟨rfl, hb3⟩
  go_wp2_with fail
  go_ret
  exact ⟨ret_bool (by simp), (by repeat' (first | (with_reducible exact Below.refl _ _) | (with_reducible assumption) | (with_reducible refine Below.drew ?_) | (with_reducible refine below_drewN ?_ _) | (with_reducible refine below_iterAt ?_ ?_ _ _) | (with_reducible refine below_iter ?_ ?_ _ _) | (with_reducible refine Below.alloc ?_ ?_ _) | (with_reducible refine Below.setCell ?_ ?_ _) | (with_reducible refine Below.trans ?_ (Below.mono (by assumption) ?_)) | (simp only [sz_alloc, sz_set, sz_drew, sz_drewN, sz_iterAt, sz_iter] at *; omega) | omega | (simp; done) | (simp; omega) | (apply Below.size; assumption) | (simp only [sz_drew, sz_drewN]; apply Below.size; assumption) | (refine Nat.le_trans ?_ (Below.size (by assumption)))))⟩
end Go.Proofs.YthicilfhnakhmaaGreatDoor
