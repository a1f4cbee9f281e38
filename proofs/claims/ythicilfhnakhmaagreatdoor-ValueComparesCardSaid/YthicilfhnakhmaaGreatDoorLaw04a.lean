/- soffitlaw04.ValueCompares, ValueSounds: walked. -/
import Derived.Test.YthicilfhnakhmaaGreatDoorAw04
set_option linter.unusedSimpArgs false
set_option linter.unusedVariables false
namespace Go.Proofs.YthicilfhnakhmaaGreatDoor
open Go.RowKit Go.Sort Go.Lib

set_option maxRecDepth 100000 in
set_option maxHeartbeats 3200000 in
theorem lawCompares_any (a b : Vl) (w : World) (ha : a.wf) (hb : b.wf) (hE : EnvP w) :
    Calls Tryz.prog 3 #[.agg #[.int .i64 a.k, .int .i64 a.n, .int .i64 a.s, .string a.t, .int .i64 a.i], .agg #[.int .i64 b.k, .int .i64 b.n, .int .i64 b.s, .string b.t, .int .i64 b.i]] w fun e w' => e = .returned (.bool true) ∧ Below w.heap.size w w' := by
  obtain ⟨S, r, hR⟩ : ∃ (S r : Int), cmpVRes a b = .tuple #[.int .i64 S, .int .i64 r] := by
    unfold cmpVRes
    split
    · exact ⟨_, _, rfl⟩
    · exact ⟨_, _, rfl⟩
  have HR := Lib.hid hR
  clear hR
  go_enter Tryz.func3, Tryz.ntmps3
  go_wp2_with fail
  refine (vCompare_any a b _ ha hb (hE.env.below (by repeat' (first | (with_reducible exact Below.refl _ _) | (with_reducible assumption) | (with_reducible refine Below.drew ?_) | (with_reducible refine below_drewN ?_ _) | (with_reducible refine below_iterAt ?_ ?_ _ _) | (with_reducible refine below_iter ?_ ?_ _ _) | (with_reducible refine Below.alloc ?_ ?_ _) | (with_reducible refine Below.setCell ?_ ?_ _) | (with_reducible refine Below.trans ?_ (Below.mono (by assumption) ?_)) | (simp only [sz_alloc, sz_set, sz_drew, sz_drewN, sz_iterAt, sz_iter] at *; omega) | omega | (simp; done) | (simp; omega) | (apply Below.size; assumption) | (simp only [sz_drew, sz_drewN]; apply Below.size; assumption) | (refine Nat.le_trans ?_ (Below.size (by assumption))))))).mono ?_
  rintro e w1 ⟨rfl, hb1⟩
  rw [HR.out]
  obtain ⟨hc1, hf1⟩ := bcell hb1
  have hz1 := hb1.size
  try simp at hz1
  have q1_0 := fun o => hc1 (w.heap.size) o (by first | omega | (simp only [sz_alloc, sz_set, sz_drew, sz_drewN, sz_iterAt, sz_iter] at *; omega) | (simp; done) | (simp; omega) | (simp at *; omega))
  have l1_0 : w.heap.size < w1.heap.size := by omega
  have r1_0 := fun o => hf1 (w.heap.size) o (by first | omega | (simp only [sz_alloc, sz_set, sz_drew, sz_drewN, sz_iterAt, sz_iter] at *; omega) | (simp; done) | (simp; omega) | (simp at *; omega))
  have q1_1 := fun o => hc1 (w.heap.size + 1) o (by first | omega | (simp only [sz_alloc, sz_set, sz_drew, sz_drewN, sz_iterAt, sz_iter] at *; omega) | (simp; done) | (simp; omega) | (simp at *; omega))
  have l1_1 : w.heap.size + 1 < w1.heap.size := by omega
  have r1_1 := fun o => hf1 (w.heap.size + 1) o (by first | omega | (simp only [sz_alloc, sz_set, sz_drew, sz_drewN, sz_iterAt, sz_iter] at *; omega) | (simp; done) | (simp; omega) | (simp at *; omega))
  clear hc1 hf1
  go_wp2_with fail
  refine (rCompare_any a b _ ha hb).mono ?_
  rintro e w2 ⟨rfl, hb2⟩
  rw [HR.out]
  go_wp2_with fail
  refine (awake04_any _ (hE.below (by repeat' (first | (with_reducible exact Below.refl _ _) | (with_reducible assumption) | (with_reducible refine Below.drew ?_) | (with_reducible refine below_drewN ?_ _) | (with_reducible refine below_iterAt ?_ ?_ _ _) | (with_reducible refine below_iter ?_ ?_ _ _) | (with_reducible refine Below.alloc ?_ ?_ _) | (with_reducible refine Below.setCell ?_ ?_ _) | (with_reducible refine Below.trans ?_ (Below.mono (by assumption) ?_)) | (simp only [sz_alloc, sz_set, sz_drew, sz_drewN, sz_iterAt, sz_iter] at *; omega) | omega | (simp; done) | (simp; omega) | (apply Below.size; assumption) | (simp only [sz_drew, sz_drewN]; apply Below.size; assumption) | (refine Nat.le_trans ?_ (Below.size (by assumption))))))).mono ?_
  rintro e w3 ⟨rfl, hb3⟩
  go_wp2_with fail
  go_ret
  exact ⟨ret_bool (by simp), (by repeat' (first | (with_reducible exact Below.refl _ _) | (with_reducible assumption) | (with_reducible refine Below.drew ?_) | (with_reducible refine below_drewN ?_ _) | (with_reducible refine below_iterAt ?_ ?_ _ _) | (with_reducible refine below_iter ?_ ?_ _ _) | (with_reducible refine Below.alloc ?_ ?_ _) | (with_reducible refine Below.setCell ?_ ?_ _) | (with_reducible refine Below.trans ?_ (Below.mono (by assumption) ?_)) | (simp only [sz_alloc, sz_set, sz_drew, sz_drewN, sz_iterAt, sz_iter] at *; omega) | omega | (simp; done) | (simp; omega) | (apply Below.size; assumption) | (simp only [sz_drew, sz_drewN]; apply Below.size; assumption) | (refine Nat.le_trans ?_ (Below.size (by assumption)))))⟩
end Go.Proofs.YthicilfhnakhmaaGreatDoor
