import Derived.Test.YtfhmjkdpohepaaaDoorPk07
import Derived.Test.YtfhmjkdpohepaaaDoorPk01
import Derived.Test.YtfhmjkdpohepaaaDoorPk04
import Derived.Test.YtfhmjkdpohepaaaDoorPsRef01
import Derived.Test.YtfhmjkdpohepaaaDoorPk06
/- soffitref17.Known and has, walked. -/
set_option linter.unusedSimpArgs false
set_option linter.unusedVariables false
namespace Go.Proofs.YtfhmjkdpohepaaaDoor
open Go.RowKit

/-- the signs of the policies -/
def polS : ByteArray := ⟨#[85, 65, 80, 70, 43, 60, 62, 35]⟩
theorem polS_at : ∀ i, i < 8 → ∃ R : Nat, Utf8.decode polS i = (R, 1) ∧ pols[i]? = some (R : Int) ∧ R ≤ 2147483647
  | 0, _ => ⟨85, by decide +kernel, rfl, by omega⟩
  | 1, _ => ⟨65, by decide +kernel, rfl, by omega⟩
  | 2, _ => ⟨80, by decide +kernel, rfl, by omega⟩
  | 3, _ => ⟨70, by decide +kernel, rfl, by omega⟩
  | 4, _ => ⟨43, by decide +kernel, rfl, by omega⟩
  | 5, _ => ⟨60, by decide +kernel, rfl, by omega⟩
  | 6, _ => ⟨62, by decide +kernel, rfl, by omega⟩
  | 7, _ => ⟨35, by decide +kernel, rfl, by omega⟩
theorem known_step {p R : Int} {i : Nat} (h : pols[i]? = some R) : (pols.drop i).any (fun y => p == y) = ((p == R) || (pols.drop (i + 1)).any (fun y => p == y)) := by
  obtain ⟨hi, rfl⟩ := List.getElem?_eq_some_iff.1 h
  rw [List.drop_eq_getElem_cons hi, List.any_cons]
theorem polS_size : polS.size = 8 := rfl

set_option maxRecDepth 100000 in
set_option maxHeartbeats 800000 in
theorem rKnown_any (p : Int) (w : World) :
    Calls Tryd.prog 13 #[.int .i64 p] w fun e w' => e = .returned (.bool (knownB p)) ∧ Below w.heap.size w w' := by
  obtain ⟨B, hB⟩ : ∃ B, knownB p = B := ⟨_, rfl⟩
  rw [hB]
  have HB : Hid ((pols.drop 0).any (fun y => p == y) = B) := hB
  clear hB
  obtain ⟨s, hs⟩ : ∃ s, s = polS := ⟨_, rfl⟩
  have HS := Lib.hid hs
  have hs8 : s.size = 8 := by rw [hs]; rfl
  go_enter Tryd.func13, Tryd.ntmps13
  rw [show (⟨#[85, 65, 80, 70, 43, 60, 62, 35]⟩ : ByteArray) = s from hs.symm]
  clear hs
  go_wp2_with fail
  go_loopg [] 8 (fun k wr => ∃ i : Nat, i ≤ 8 ∧ 8 - i ≤ k ∧ Hid ((pols.drop i).any (fun y => p == y) = B) ∧ wr.heap[w.heap.size]? = some (.stringIter s i) ∧ w.heap.size < wr.heap.size ∧ Below w.heap.size w wr)
  case atStart => exact ⟨0, by omega, by omega, HB, World.iter_heap _ _ _, (by first | omega | (simp only [sz_alloc, sz_set, sz_drew, sz_drewN, sz_iterAt, sz_iter] at *; omega) | (simp; done) | (simp; omega) | (simp at *; omega)), bell⟩
  case round =>
    obtain ⟨i, hi, hik, hb, hit, hlt, hbel⟩ := hrel
    by_cases h : i < 8
    · obtain ⟨R, hd, hp, hR⟩ := polS_at i h
      rw [← HS.out] at hd
      have hn := fun ty => Lib.run_next_any_at (P := Tryd.prog) wr w.heap.size s i ty hit (by omega)
      rw [hd] at hn
      have HK := Lib.hid (known_step (p := p) hp)
      have HIT := Lib.hid hit
      clear hd hp hit
      cases hq : (p == (R : Int))
      · have HQ : Hid ((pols.drop (i + 1)).any (fun y => p == y) = B) := by show _ = B; rw [← hb.out, HK.out, hq]; rfl
        go_wp2_with fail
        go_roundg (gk - 1)
        case measure => omega
        case rel => exact ⟨i + 1, by omega, by omega, HQ, Lib.iterAt_heap wr w.heap.size s i (i + 1) HIT.out, by rw [sz_iterAt]; omega, bell⟩
      · have HQ : Hid (B = true) := by show B = true; rw [← hb.out, HK.out, hq]; rfl
        go_wp2_with fail
        go_ret
        exact ⟨ret_bool HQ.out.symm, bell⟩
    · obtain rfl : i = 8 := by omega
      have hn := fun ty => Lib.run_next_end_at (P := Tryd.prog) wr w.heap.size s 8 ty hit (by omega)
      have HQ : Hid (B = false) := by show B = false; rw [← hb.out]; rfl
      go_wp2_with fail
      go_ret
      exact ⟨ret_bool HQ.out.symm, hbel⟩

theorem eqB_comm (x y : Vl) : eqB x y = eqB y x := by
  cases h : eqB x y
  · cases h' : eqB y x
    · rfl
    · rw [(eqB_iff y x).1 h', (eqB_iff x x).2 rfl] at h; cases h
  · rw [(eqB_iff x y).1 h, (eqB_iff y y).2 rfl]
theorem any_no {x : Vl} {xs : List Vl} {j : Nat} (hj : j < xs.length) (h : eqB x (xs[j]'hj) = false) : (xs.drop j).any (fun y => eqB x y) = (xs.drop (j + 1)).any (fun y => eqB x y) := by
  rw [List.drop_eq_getElem_cons hj, List.any_cons, h]; rfl
theorem any_yes {x : Vl} {xs : List Vl} {j : Nat} (hj : j < xs.length) (h : eqB x (xs[j]'hj) = true) : (xs.drop j).any (fun y => eqB x y) = true := by
  rw [List.drop_eq_getElem_cons hj, List.any_cons, h]; rfl
theorem any_end {x : Vl} {xs : List Vl} {j : Nat} (hj : ¬ j < xs.length) : (xs.drop j).any (fun y => eqB x y) = false := by
  rw [List.drop_eq_nil_of_le (by omega)]; rfl
set_option maxRecDepth 100000 in
set_option maxHeartbeats 800000 in
theorem rHas_any (x : Vl) (xs : List Vl) (A : Option Addr) (c : Nat) (w : World) (hr : RdL w 5 A (xs.map Vl.cells5)) (hn : xs.length ≤ 9223372036854775807) :
    Calls Tryd.prog 24 #[.slice A xs.length c, .agg #[.int .i64 x.k, .int .i64 x.n, .int .i64 x.s, .string x.t, .int .i64 x.i]] w fun e w' => e = .returned (.bool (xs.any (fun y => eqB x y))) ∧ Below w.heap.size w w' := by
  obtain ⟨B, hB⟩ : ∃ B, xs.any (fun y => eqB x y) = B := ⟨_, rfl⟩
  rw [hB]
  have HB : Hid ((xs.drop 0).any (fun y => eqB x y) = B) := hB
  clear hB
  go_enter Tryd.func24, Tryd.ntmps24
  go_wp2_with fail
  generalize hEW0 : w.alloc _ = W0
  have hbW0 : Below w.heap.size w W0 := (by rw [← hEW0]; exact bel)
  have lW0_0 : w.heap.size < W0.heap.size := lsz hEW0
  have qW0_0 : ∀ o, W0.cell? ⟨w.heap.size, o, none⟩ = _ := fun o => congrArg (fun W : World => W.cell? ⟨w.heap.size, o, none⟩) hEW0.symm
  have rW0_0 : ∀ o, W0.frozen? ⟨w.heap.size, o, none⟩ = _ := fun o => congrArg (fun W : World => W.frozen? ⟨w.heap.size, o, none⟩) hEW0.symm
  clear hEW0
  have k0 : W0.cell? ⟨w.heap.size, 0, none⟩ = some (.int .i64 x.k) := (by first | (simp [go_sem]; done) | (simp [go_sem, *]; done))
  have k1 : W0.cell? ⟨w.heap.size, 1, none⟩ = some (.int .i64 x.n) := (by first | (simp [go_sem]; done) | (simp [go_sem, *]; done))
  have k2 : W0.cell? ⟨w.heap.size, 2, none⟩ = some (.int .i64 x.s) := (by first | (simp [go_sem]; done) | (simp [go_sem, *]; done))
  have k3 : W0.cell? ⟨w.heap.size, 3, none⟩ = some (.string x.t) := (by first | (simp [go_sem]; done) | (simp [go_sem, *]; done))
  have k4 : W0.cell? ⟨w.heap.size, 4, none⟩ = some (.int .i64 x.i) := (by first | (simp [go_sem]; done) | (simp [go_sem, *]; done))
  have hr2 := hr.below hbW0
  clear qW0_0 rW0_0 hr
  go_loopg [5] xs.length (fun k i wr => ∃ j : Nat, j ≤ xs.length ∧ xs.length - j ≤ k ∧ Hid ((xs.drop j).any (fun y => eqB x y) = B) ∧ i = .int .i64 j ∧ Below W0.heap.size W0 wr)
  case atStart => exact ⟨0, by omega, by omega, HB, rfl, Below.refl _ _⟩
  case round =>
    obtain ⟨j, hj, hjk, hi, rfl, hbel⟩ := hrel
    by_cases hlt : j < xs.length
    · obtain ⟨b, off, rfl, hx⟩ := (hr2.below hbel).at_ hlt
      have hyes := fun h => any_yes (x := x) hlt h
      have hno := fun h => any_no (x := x) hlt h
      generalize hX : xs[j]'hlt = y at *
      have y0 : wr.cell? ⟨b, off + j * 5, none⟩ = some (.int .i64 y.k) := hx.get 0 rfl
      have y1 : wr.cell? ⟨b, off + j * 5 + 1, none⟩ = some (.int .i64 y.n) := hx.get 1 rfl
      have y2 : wr.cell? ⟨b, off + j * 5 + 2, none⟩ = some (.int .i64 y.s) := hx.get 2 rfl
      have y3 : wr.cell? ⟨b, off + j * 5 + 3, none⟩ = some (.string y.t) := hx.get 3 rfl
      have y4 : wr.cell? ⟨b, off + j * 5 + 4, none⟩ = some (.int .i64 y.i) := hx.get 4 rfl
      have m0 := cell_below hbel k0
      have m1 := cell_below hbel k1
      have m2 := cell_below hbel k2
      have m3 := cell_below hbel k3
      have m4 := cell_below hbel k4
      have HYES := Lib.hid hyes
      have HNO := Lib.hid hno
      have hsz := hbel.size
      have hq := fun W : World => eqV_run y x W
      rw [eqB_comm] at hq
      clear hyes hno hX hx
      cases hp : eqB x y
      · have HN := Lib.hid (HNO.out hp)
        rw [hp] at hq
        clear hp
        go_wp2_with fail
        go_region
        go_wp2_with fail
        go_roundg (gk - 1)
        case measure => omega
        case rel => exact ⟨j + 1, by omega, by omega, HN.out.symm.trans hi.out, by go_num, bel⟩
      · have HY := Lib.hid (HYES.out hp)
        rw [hp] at hq
        clear hp
        go_wp2_with fail
        go_region
        go_wp2_with fail
        go_ret
        exact ⟨ret_bool (HY.out.symm.trans hi.out), bel⟩
    · have HE := Lib.hid (any_end (x := x) hlt)
      go_wp2_with fail
      go_ret
      exact ⟨ret_bool (HE.out.symm.trans hi.out), bel⟩
end Go.Proofs.YtfhmjkdpohepaaaDoor

/- soffitref04.Sound, walked. -/
set_option linter.unusedSimpArgs false
set_option linter.unusedVariables false
namespace Go.Proofs.YtfhmjkdpohepaaaDoor
open Go.RowKit

set_option maxRecDepth 100000 in
set_option maxHeartbeats 800000 in
theorem rSound0 (v : Vl) (w : World) (hv : v.wf) (hk : v.k = 0) :
    Calls Tryd.prog 22 #[.agg #[.int .i64 v.k, .int .i64 v.n, .int .i64 v.s, .string v.t, .int .i64 v.i]] w fun e w' =>
      e = .returned (.bool (sndB v)) ∧ Below w.heap.size w w' := by
  obtain ⟨k, n, s, t, i⟩ := v
  simp only at hk
  subst hk
  obtain ⟨B, hB⟩ : ∃ B, sndB ⟨0, n, s, t, i⟩ = B := ⟨_, rfl⟩
  rw [hB]
  have HS : Hid (B = decide (n = 0 ∧ s = 0 ∧ t.toList = [] ∧ i = 0)) := hB.symm
  clear hB
  go_enter Tryd.func22, Tryd.ntmps22
  go_wp2_with fail
  all_goals go_ret
  all_goals exact ⟨ret_bool (by first | (rw [HS.out]; done) | (rw [HS.out]; simp [*]; done) | (rw [HS.out]; simp; omega) | (rw [HS.out]; simp [*]; omega) | (rw [HS.out]; simp only [List.isEmpty_iff, List.isEmpty_eq_false_iff] at *; simp [*]; done) | (rw [HS.out]; simp only [List.isEmpty_iff, List.isEmpty_eq_false_iff] at *; simp [*]; omega) | (rw [HS.out, Bool.eq_iff_iff]; simp only [List.isEmpty_iff, List.isEmpty_eq_false_iff] at *; simp [*]; done) | (exfalso; omega)), bel⟩

set_option maxRecDepth 100000 in
set_option maxHeartbeats 800000 in
theorem rSound3 (v : Vl) (w : World) (hv : v.wf) (hk : v.k = 3) :
    Calls Tryd.prog 22 #[.agg #[.int .i64 v.k, .int .i64 v.n, .int .i64 v.s, .string v.t, .int .i64 v.i]] w fun e w' =>
      e = .returned (.bool (sndB v)) ∧ Below w.heap.size w w' := by
  obtain ⟨k, n, s, t, i⟩ := v
  simp only at hk
  subst hk
  obtain ⟨B, hB⟩ : ∃ B, sndB ⟨3, n, s, t, i⟩ = B := ⟨_, rfl⟩
  rw [hB]
  have HS : Hid (B = decide (n = 0 ∧ s = 0 ∧ t.toList = [] ∧ (i = 0 ∨ i = 1))) := hB.symm
  clear hB
  go_enter Tryd.func22, Tryd.ntmps22
  go_wp2_with fail
  all_goals go_ret
  all_goals exact ⟨ret_bool (by first | (rw [HS.out]; done) | (rw [HS.out]; simp [*]; done) | (rw [HS.out]; simp; omega) | (rw [HS.out]; simp [*]; omega) | (rw [HS.out]; simp only [List.isEmpty_iff, List.isEmpty_eq_false_iff] at *; simp [*]; done) | (rw [HS.out]; simp only [List.isEmpty_iff, List.isEmpty_eq_false_iff] at *; simp [*]; omega) | (rw [HS.out, Bool.eq_iff_iff]; simp only [List.isEmpty_iff, List.isEmpty_eq_false_iff] at *; simp [*]; done) | (exfalso; omega)), bel⟩

set_option maxRecDepth 100000 in
set_option maxHeartbeats 800000 in
theorem rSound4 (v : Vl) (w : World) (hv : v.wf) (hk : v.k = 4) :
    Calls Tryd.prog 22 #[.agg #[.int .i64 v.k, .int .i64 v.n, .int .i64 v.s, .string v.t, .int .i64 v.i]] w fun e w' =>
      e = .returned (.bool (sndB v)) ∧ Below w.heap.size w w' := by
  obtain ⟨k, n, s, t, i⟩ := v
  simp only at hk
  subst hk
  obtain ⟨B, hB⟩ : ∃ B, sndB ⟨4, n, s, t, i⟩ = B := ⟨_, rfl⟩
  rw [hB]
  have HS : Hid (B = decide (n = 0 ∧ s = 0 ∧ t.toList = [] ∧ 0 ≤ i ∧ i ≤ 3652058)) := hB.symm
  clear hB
  go_enter Tryd.func22, Tryd.ntmps22
  go_wp2_with fail
  all_goals go_ret
  all_goals exact ⟨ret_bool (by first | (rw [HS.out]; done) | (rw [HS.out]; simp [*]; done) | (rw [HS.out]; simp; omega) | (rw [HS.out]; simp [*]; omega) | (rw [HS.out]; simp only [List.isEmpty_iff, List.isEmpty_eq_false_iff] at *; simp [*]; done) | (rw [HS.out]; simp only [List.isEmpty_iff, List.isEmpty_eq_false_iff] at *; simp [*]; omega) | (rw [HS.out, Bool.eq_iff_iff]; simp only [List.isEmpty_iff, List.isEmpty_eq_false_iff] at *; simp [*]; done) | (exfalso; omega)), bel⟩

set_option maxRecDepth 100000 in
set_option maxHeartbeats 800000 in
theorem rSound1 (v : Vl) (w : World) (hv : v.wf) (hk : v.k = 1) :
    Calls Tryd.prog 22 #[.agg #[.int .i64 v.k, .int .i64 v.n, .int .i64 v.s, .string v.t, .int .i64 v.i]] w fun e w' =>
      e = .returned (.bool (sndB v)) ∧ Below w.heap.size w w' := by
  obtain ⟨k, n, s, t, i⟩ := v
  simp only at hk
  subst hk
  obtain ⟨B, hB⟩ : ∃ B, sndB ⟨1, n, s, t, i⟩ = B := ⟨_, rfl⟩
  rw [hB]
  have HS : Hid (B = (decide (t.toList = [] ∧ i = 0) && decSnd n s)) := hB.symm
  clear hB
  by_cases hn : n = 0
  · subst hn
    go_enter Tryd.func22, Tryd.ntmps22
    go_wp2_with fail
    refine (ref01Sound_any 0 s _).mono ?_
    rintro e w1 ⟨rfl, hb1⟩
    have hz1 := hb1.size
    try simp at hz1
    obtain ⟨q1_0, l1_0, r1_0⟩ := aft hb1 (w.heap.size)
    obtain ⟨d, hd⟩ : ∃ d, decSnd 0 s = d := ⟨_, rfl⟩
    rw [hd]
    have HT : Hid (B = (decide (t.toList = [] ∧ i = 0) && d)) := by rw [← hd]; exact HS.out
    clear hd HS
    cases d
    · have HU : Hid (B = false) := by show B = _; rw [HT.out]; simp
      clear HT
      go_wp2_with fail
      all_goals go_ret
      all_goals exact ⟨ret_bool (by first | (rw [HU.out]; done) | (rw [HU.out]; simp [*]; done) | (rw [HU.out]; simp; omega) | (rw [HU.out]; simp [*]; omega) | (rw [HU.out]; simp only [List.isEmpty_iff, List.isEmpty_eq_false_iff] at *; simp [*]; done) | (rw [HU.out]; simp only [List.isEmpty_iff, List.isEmpty_eq_false_iff] at *; simp [*]; omega) | (rw [HU.out, Bool.eq_iff_iff]; simp only [List.isEmpty_iff, List.isEmpty_eq_false_iff] at *; simp [*]; done) | (exfalso; omega)), bel⟩
    · have HU : Hid (B = decide (t.toList = [] ∧ i = 0)) := by show B = _; rw [HT.out]; simp
      clear HT
      go_wp2_with fail
      all_goals go_ret
      all_goals exact ⟨ret_bool (by first | (rw [HU.out]; done) | (rw [HU.out]; simp [*]; done) | (rw [HU.out]; simp; omega) | (rw [HU.out]; simp [*]; omega) | (rw [HU.out]; simp only [List.isEmpty_iff, List.isEmpty_eq_false_iff] at *; simp [*]; done) | (rw [HU.out]; simp only [List.isEmpty_iff, List.isEmpty_eq_false_iff] at *; simp [*]; omega) | (rw [HU.out, Bool.eq_iff_iff]; simp only [List.isEmpty_iff, List.isEmpty_eq_false_iff] at *; simp [*]; done) | (exfalso; omega)), bel⟩
  · go_enter Tryd.func22, Tryd.ntmps22
    go_wp2_with fail
    refine (ref01Sound_any n s _).mono ?_
    rintro e w1 ⟨rfl, hb1⟩
    have hz1 := hb1.size
    try simp at hz1
    obtain ⟨q1_0, l1_0, r1_0⟩ := aft hb1 (w.heap.size)
    obtain ⟨d, hd⟩ : ∃ d, decSnd n s = d := ⟨_, rfl⟩
    rw [hd]
    have HT : Hid (B = (decide (t.toList = [] ∧ i = 0) && d)) := by rw [← hd]; exact HS.out
    clear hd HS
    cases d
    · have HU : Hid (B = false) := by show B = _; rw [HT.out]; simp
      clear HT
      go_wp2_with fail
      all_goals go_ret
      all_goals exact ⟨ret_bool (by first | (rw [HU.out]; done) | (rw [HU.out]; simp [*]; done) | (rw [HU.out]; simp; omega) | (rw [HU.out]; simp [*]; omega) | (rw [HU.out]; simp only [List.isEmpty_iff, List.isEmpty_eq_false_iff] at *; simp [*]; done) | (rw [HU.out]; simp only [List.isEmpty_iff, List.isEmpty_eq_false_iff] at *; simp [*]; omega) | (rw [HU.out, Bool.eq_iff_iff]; simp only [List.isEmpty_iff, List.isEmpty_eq_false_iff] at *; simp [*]; done) | (exfalso; omega)), bel⟩
    · have HU : Hid (B = decide (t.toList = [] ∧ i = 0)) := by show B = _; rw [HT.out]; simp
      clear HT
      go_wp2_with fail
      all_goals go_ret
      all_goals exact ⟨ret_bool (by first | (rw [HU.out]; done) | (rw [HU.out]; simp [*]; done) | (rw [HU.out]; simp; omega) | (rw [HU.out]; simp [*]; omega) | (rw [HU.out]; simp only [List.isEmpty_iff, List.isEmpty_eq_false_iff] at *; simp [*]; done) | (rw [HU.out]; simp only [List.isEmpty_iff, List.isEmpty_eq_false_iff] at *; simp [*]; omega) | (rw [HU.out, Bool.eq_iff_iff]; simp only [List.isEmpty_iff, List.isEmpty_eq_false_iff] at *; simp [*]; done) | (exfalso; omega)), bel⟩

set_option maxRecDepth 100000 in
set_option maxHeartbeats 800000 in
theorem rSound2 (v : Vl) (w : World) (hv : v.wf) (hk : v.k = 2) :
    Calls Tryd.prog 22 #[.agg #[.int .i64 v.k, .int .i64 v.n, .int .i64 v.s, .string v.t, .int .i64 v.i]] w fun e w' =>
      e = .returned (.bool (sndB v)) ∧ Below w.heap.size w w' := by
  obtain ⟨k, n, s, t, i⟩ := v
  simp only at hk
  subst hk
  obtain ⟨B, hB⟩ : ∃ B, sndB ⟨2, n, s, t, i⟩ = B := ⟨_, rfl⟩
  rw [hB]
  have HS : Hid (B = (decide (n = 0 ∧ s = 0 ∧ i = 0 ∧ t.size ≤ 256) && goodB t)) := hB.symm
  clear hB
  by_cases h0 : n = 0 ∧ s = 0 ∧ i = 0 ∧ t.size ≤ 256
  · obtain ⟨rfl, rfl, rfl, hz⟩ := h0
    have HT : Hid (B = goodB t) := by show B = _; rw [HS.out]; simp [hz]
    go_enter Tryd.func22, Tryd.ntmps22
    go_wp2_with fail
    refine (refGood_any t _ (by omega)).mono ?_
    rintro e w1 ⟨rfl, rfl⟩
    rw [← HT.out]
    go_wp2_with fail
    all_goals go_ret
    all_goals exact ⟨ret_bool (by first | rfl | (simp [*]; done) | (exfalso; omega)), bel⟩
  · have HT : Hid (B = false) := by show B = _; rw [HS.out]; simp only [h0]; rfl
    clear HS
    go_enter Tryd.func22, Tryd.ntmps22
    go_wp2_with fail
    go_ways
    all_goals try (exfalso; omega)
    go_goals
    all_goals go_ret
    all_goals exact ⟨ret_bool (by first | (rw [HT.out]; done) | (rw [HT.out]; simp [*]; done) | (rw [HT.out]; simp; omega) | (rw [HT.out]; simp [*]; omega) | (rw [HT.out]; simp only [List.isEmpty_iff, List.isEmpty_eq_false_iff] at *; simp [*]; done) | (rw [HT.out]; simp only [List.isEmpty_iff, List.isEmpty_eq_false_iff] at *; simp [*]; omega) | (rw [HT.out, Bool.eq_iff_iff]; simp only [List.isEmpty_iff, List.isEmpty_eq_false_iff] at *; simp [*]; done) | (exfalso; omega)), bel⟩

set_option maxRecDepth 100000 in
set_option maxHeartbeats 800000 in
theorem rSound5 (v : Vl) (w : World) (hv : v.wf) (h0 : ¬ v.k = 0) (h1 : ¬ v.k = 1) (h2 : ¬ v.k = 2) (h3 : ¬ v.k = 3) (h4 : ¬ v.k = 4) :
    Calls Tryd.prog 22 #[.agg #[.int .i64 v.k, .int .i64 v.n, .int .i64 v.s, .string v.t, .int .i64 v.i]] w fun e w' =>
      e = .returned (.bool (sndB v)) ∧ Below w.heap.size w w' := by
  obtain ⟨k, n, s, t, i⟩ := v
  simp only at h0 h1 h2 h3 h4
  have e0 : (k == 0) = false := by simp [h0]
  have e1 : (k == 1) = false := by simp [h1]
  have e2 : (k == 2) = false := by simp [h2]
  have e3 : (k == 3) = false := by simp [h3]
  have e4 : (k == 4) = false := by simp [h4]
  obtain ⟨B, hB⟩ : ∃ B, sndB ⟨k, n, s, t, i⟩ = B := ⟨_, rfl⟩
  rw [hB]
  have HS : Hid (B = false) := by show B = _; rw [← hB]; simp only [sndB, h0, h1, h2, h3, h4, if_false]
  clear h0 h1 h2 h3 h4 hB
  go_enter Tryd.func22, Tryd.ntmps22
  go_wp2_with fail
  all_goals go_ret
  all_goals exact ⟨ret_bool (by first | (rw [HS.out]; done) | (rw [HS.out]; simp [*]; done) | (rw [HS.out]; simp; omega) | (rw [HS.out]; simp [*]; omega) | (rw [HS.out]; simp only [List.isEmpty_iff, List.isEmpty_eq_false_iff] at *; simp [*]; done) | (rw [HS.out]; simp only [List.isEmpty_iff, List.isEmpty_eq_false_iff] at *; simp [*]; omega) | (rw [HS.out, Bool.eq_iff_iff]; simp only [List.isEmpty_iff, List.isEmpty_eq_false_iff] at *; simp [*]; done) | (exfalso; omega)), bel⟩

theorem rSound_any (v : Vl) (w : World) (hv : v.wf) :
    Calls Tryd.prog 22 #[.agg #[.int .i64 v.k, .int .i64 v.n, .int .i64 v.s, .string v.t, .int .i64 v.i]] w fun e w' =>
      e = .returned (.bool (sndB v)) ∧ Below w.heap.size w w' := by
  by_cases h0 : v.k = 0
  · exact rSound0 v w hv h0
  by_cases h1 : v.k = 1
  · exact rSound1 v w hv h1
  by_cases h2 : v.k = 2
  · exact rSound2 v w hv h2
  by_cases h3 : v.k = 3
  · exact rSound3 v w hv h3
  by_cases h4 : v.k = 4
  · exact rSound4 v w hv h4
  exact rSound5 v w hv h0 h1 h2 h3 h4
end Go.Proofs.YtfhmjkdpohepaaaDoor
