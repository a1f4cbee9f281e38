/- Comparisons: cmp.Compare[string], cmp.Or[int], soffit/value.order. -/
import Derived.Test.YthicilfhnakhmaaGreatDoorDeci4
import Derived.Test.YthicilfhnakhmaaGreatDoorValSound
set_option linter.unusedSimpArgs false
set_option linter.unusedVariables false
namespace Go.Proofs.YthicilfhnakhmaaGreatDoor
open Go.RowKit

/-- texts bytewise: -1, 0 or 1 -/
def cmpT (a b : ByteArray) : Int := if Op.bytesLess a.toList b.toList = true then -1 else if (a.toList == b.toList) = true then 0 else 1

set_option maxHeartbeats 400000 in
theorem isNaN_string (a : ByteArray) (w : World) : Calls Tryz.prog 64 #[.string a] w fun e w' => e = .returned (.bool false) ∧ w = w' := by
  go_enter Tryz.func64, Tryz.ntmps64
  go_wp2_with fail
  go_ret
  exact ⟨ret_bool (by simp), rfl⟩

set_option maxHeartbeats 400000 in
theorem cmpT_any (a b : ByteArray) (w : World) : Calls Tryz.prog 42 #[.string a, .string b] w fun e w' => e = .returned (.int .i64 (cmpT a b)) ∧ w = w' := by
  obtain ⟨C, hC⟩ : ∃ C, cmpT a b = C := ⟨_, rfl⟩
  rw [hC]
  have HC : Hid (C = if Op.bytesLess a.toList b.toList = true then -1 else if (a.toList == b.toList) = true then 0 else 1) := hC.symm
  clear hC
  go_enter Tryz.func42, Tryz.ntmps42
  go_wp2_with fail
  refine (isNaN_string a _).mono ?_
  rintro e w1 ⟨rfl, rfl⟩
  go_wp2_with fail
  refine (isNaN_string b _).mono ?_
  rintro e w1 ⟨rfl, rfl⟩
  go_wp2_with fail
  all_goals go_ret
  all_goals refine ⟨ret_int ?_, rfl⟩
  all_goals (rw [HC.out]; simp_all; done)

/-- the first of two numbers that is not 0 -/
def orI (x y : Int) : Int := if x = 0 then y else x
set_option maxHeartbeats 400000 in
/-- of two numbers the first that is not 0 -/
theorem or2_any (b : Nat) (x y : Int) (w : World) (hb : b < w.heap.size) (c0 : w.cell? ⟨b, 0, none⟩ = some (.int .i64 x)) (c1 : w.cell? ⟨b, 1, none⟩ = some (.int .i64 y)) :
    Calls Tryz.prog 41 #[.slice (some ⟨b, 0, none⟩) 2 2] w fun e w' => e = .returned (.int .i64 (orI x y)) ∧ w = w' := by
  obtain ⟨R, hR⟩ : ∃ R, orI x y = R := ⟨_, rfl⟩
  rw [hR]
  have HR : Hid (R = if x = 0 then y else x) := hR.symm
  clear hR
  go_enter Tryz.func41, Tryz.ntmps41
  go_wp2_with fail
  go_loopg [8] 2 (fun k i wr => ∃ j : Nat, j ≤ 2 ∧ 2 - j ≤ k ∧ (1 ≤ j → Hid (x = 0)) ∧ (2 ≤ j → Hid (y = 0)) ∧ i = .int .i64 j ∧ w = wr)
  case atStart => exact ⟨0, by omega, by omega, fun h => by omega, fun h => by omega, rfl, rfl⟩
  case round =>
    obtain ⟨j, hj, hjk, g1, g2, rfl, rfl⟩ := hrel
    have hj3 : j = 0 ∨ j = 1 ∨ j = 2 := by omega
    rcases hj3 with rfl | rfl | rfl
    · by_cases hx : x = 0
      · have HX := Lib.hid hx
        have e : (x != 0) = false := by simp [hx]
        clear hx
        go_wp2_with fail
        go_roundg (gk - 1)
        case measure => omega
        case rel => exact ⟨0 + 1, by omega, by omega, fun _ => HX, fun h => by omega, by go_num, rfl⟩
      · have HX := Lib.hid hx
        have e : (x != 0) = true := by simp [hx]
        clear hx
        go_wp2_with fail
        go_ret
        exact ⟨ret_int (by rw [HR.out, if_neg HX.out]), rfl⟩
    · have HX := g1 (by omega)
      by_cases hy : y = 0
      · have HY := Lib.hid hy
        have e : (y != 0) = false := by simp [hy]
        clear hy
        go_wp2_with fail
        go_roundg (gk - 1)
        case measure => omega
        case rel => exact ⟨1 + 1, by omega, by omega, fun _ => HX, fun _ => HY, by go_num, rfl⟩
      · have e : (y != 0) = true := by simp [hy]
        clear hy
        go_wp2_with fail
        go_ret
        exact ⟨ret_int (by rw [HR.out, if_pos HX.out]), rfl⟩
    · have HX := g1 (by omega)
      have HY := g2 (by omega)
      go_wp2_with fail
      go_ret
      exact ⟨ret_int (by rw [HR.out, if_pos HX.out, HY.out]), rfl⟩

/-- values in their order: -1, 0 or 1 -/
def cmpV (a b : Vl) : Int :=
  if a.k = b.k then (if a.k = 1 then cmpD a.n a.s b.n b.s else orI (cmpT a.t b.t) (cmpI a.i b.i)) else cmpI a.k b.k

theorem sndB_dec {v : Vl} (h : sndB v = true) (hk : v.k = 1) : decSnd v.n v.s = true := by
  unfold sndB at h
  rw [if_neg (by omega), if_pos hk] at h
  simp only [Bool.and_eq_true] at h
  exact h.2

set_option maxHeartbeats 1600000 in
theorem order_any (a b : Vl) (w : World) (ha : a.wf) (hb : b.wf) (sa : sndB a = true) (sb : sndB b = true) :
    Calls Tryz.prog 20 #[.agg #[.int .i64 a.k, .int .i64 a.n, .int .i64 a.s, .string a.t, .int .i64 a.i], .agg #[.int .i64 b.k, .int .i64 b.n, .int .i64 b.s, .string b.t, .int .i64 b.i]] w fun e w' =>
      e = .returned (.int .i64 (cmpV a b)) ∧ Below w.heap.size w w' := by
  obtain ⟨C, hC⟩ : ∃ C, cmpV a b = C := ⟨_, rfl⟩
  rw [hC]
  by_cases hk : a.k = b.k
  · have e1 : (a.k != b.k) = false := by simp [hk]
    by_cases h1 : a.k = 1
    · have HC : Hid (C = cmpD a.n a.s b.n b.s) := by rw [← hC]; unfold cmpV; rw [if_pos hk, if_pos h1]; exact rfl
      have HM := Lib.hid (cmpRes_yes (sndB_dec sa h1) (sndB_dec sb (by omega)))
      have I1 := ha.n
      have I2 := ha.s
      have I3 := hb.n
      have I4 := hb.s
      have e2 : (a.k == 1) = true := by simp [h1]
      clear hk h1 hC sa sb ha hb
      go_enter Tryz.func20, Tryz.ntmps20
      go_wp2_with fail
      refine (decCmp_any _ _ _ _ _ I1 I2 I3 I4).mono ?_
      rintro e w1 ⟨rfl, hb1⟩
      rw [HM.out]
      go_wp2_with fail
      go_ret
      exact ⟨ret_int HC.out.symm, (by repeat' (first | (with_reducible exact Below.refl _ _) | (with_reducible assumption) | (with_reducible refine Below.drew ?_) | (with_reducible refine below_drewN ?_ _) | (with_reducible refine below_iterAt ?_ ?_ _ _) | (with_reducible refine below_iter ?_ ?_ _ _) | (with_reducible refine Below.alloc ?_ ?_ _) | (with_reducible refine Below.setCell ?_ ?_ _) | (with_reducible refine Below.trans ?_ (Below.mono (by assumption) ?_)) | (simp only [sz_alloc, sz_set, sz_drew, sz_drewN, sz_iterAt, sz_iter] at *; omega) | omega | (simp; done) | (simp; omega) | (apply Below.size; assumption) | (simp only [sz_drew, sz_drewN]; apply Below.size; assumption) | (refine Nat.le_trans ?_ (Below.size (by assumption)))))⟩
    · have HC : Hid (C = orI (cmpT a.t b.t) (cmpI a.i b.i)) := by rw [← hC]; unfold cmpV; rw [if_pos hk, if_neg h1]; exact rfl
      have e2 : (a.k == 1) = false := by simp [h1]
      clear hk h1 hC sa sb ha hb
      go_enter Tryz.func20, Tryz.ntmps20
      go_wp2_with fail
      generalize hEW0 : (w.alloc _).alloc _ = W0
      have hbW0 : Below w.heap.size w W0 := (by rw [← hEW0]; exact (by repeat' (first | (with_reducible exact Below.refl _ _) | (with_reducible assumption) | (with_reducible refine Below.drew ?_) | (with_reducible refine below_drewN ?_ _) | (with_reducible refine below_iterAt ?_ ?_ _ _) | (with_reducible refine below_iter ?_ ?_ _ _) | (with_reducible refine Below.alloc ?_ ?_ _) | (with_reducible refine Below.setCell ?_ ?_ _) | (with_reducible refine Below.trans ?_ (Below.mono (by assumption) ?_)) | (simp only [sz_alloc, sz_set, sz_drew, sz_drewN, sz_iterAt, sz_iter] at *; omega) | omega | (simp; done) | (simp; omega) | (apply Below.size; assumption) | (simp only [sz_drew, sz_drewN]; apply Below.size; assumption) | (refine Nat.le_trans ?_ (Below.size (by assumption))))))
      have lW0_0 : w.heap.size < W0.heap.size := (by rw [← hEW0]; first | omega | (simp only [sz_alloc, sz_set, sz_drew, sz_drewN, sz_iterAt, sz_iter] at *; omega) | (simp; done) | (simp; omega) | (simp at *; omega))
      have qW0_0 : ∀ o, W0.cell? ⟨w.heap.size, o, none⟩ = _ := fun o => congrArg (fun W : World => W.cell? ⟨w.heap.size, o, none⟩) hEW0.symm
      have rW0_0 : ∀ o, W0.frozen? ⟨w.heap.size, o, none⟩ = _ := fun o => congrArg (fun W : World => W.frozen? ⟨w.heap.size, o, none⟩) hEW0.symm
      have lW0_1 : w.heap.size + 1 < W0.heap.size := (by rw [← hEW0]; first | omega | (simp only [sz_alloc, sz_set, sz_drew, sz_drewN, sz_iterAt, sz_iter] at *; omega) | (simp; done) | (simp; omega) | (simp at *; omega))
      have qW0_1 : ∀ o, W0.cell? ⟨w.heap.size + 1, o, none⟩ = _ := fun o => congrArg (fun W : World => W.cell? ⟨w.heap.size + 1, o, none⟩) hEW0.symm
      have rW0_1 : ∀ o, W0.frozen? ⟨w.heap.size + 1, o, none⟩ = _ := fun o => congrArg (fun W : World => W.frozen? ⟨w.heap.size + 1, o, none⟩) hEW0.symm
      clear hEW0
      have kk0 : W0.cell? ⟨w.heap.size, 3, none⟩ = some (.string a.t) := (by first | (simp [go_sem]; done) | (simp [go_sem, *]; done))
      have kk1 : W0.cell? ⟨w.heap.size, 4, none⟩ = some (.int .i64 a.i) := (by first | (simp [go_sem]; done) | (simp [go_sem, *]; done))
      have kk2 : W0.cell? ⟨w.heap.size + 1, 3, none⟩ = some (.string b.t) := (by first | (simp [go_sem]; done) | (simp [go_sem, *]; done))
      have kk3 : W0.cell? ⟨w.heap.size + 1, 4, none⟩ = some (.int .i64 b.i) := (by first | (simp [go_sem]; done) | (simp [go_sem, *]; done))
      go_region_held3 (fun w' => Below W0.heap.size W0 w' ∧ w'.cell? ⟨w.heap.size, 3, none⟩ = some (.string a.t) ∧ w'.cell? ⟨w.heap.size, 4, none⟩ = some (.int .i64 a.i) ∧ w'.cell? ⟨w.heap.size + 1, 3, none⟩ = some (.string b.t) ∧ w'.cell? ⟨w.heap.size + 1, 4, none⟩ = some (.int .i64 b.i)) ((refine and_keep ?_ (fun hk => ⟨keep_cell hk lW0_0 kk0, keep_cell hk lW0_0 kk1, keep_cell hk lW0_1 kk2, keep_cell hk lW0_1 kk3⟩); exact (by repeat' (first | (with_reducible exact Below.refl _ _) | (with_reducible assumption) | (with_reducible refine Below.drew ?_) | (with_reducible refine below_drewN ?_ _) | (with_reducible refine below_iterAt ?_ ?_ _ _) | (with_reducible refine below_iter ?_ ?_ _ _) | (with_reducible refine Below.alloc ?_ ?_ _) | (with_reducible refine Below.setCell ?_ ?_ _) | (with_reducible refine Below.trans ?_ (Below.mono (by assumption) ?_)) | (simp only [sz_alloc, sz_set, sz_drew, sz_drewN, sz_iterAt, sz_iter] at *; omega) | omega | (simp; done) | (simp; omega) | (apply Below.size; assumption) | (simp only [sz_drew, sz_drewN]; apply Below.size; assumption) | (refine Nat.le_trans ?_ (Below.size (by assumption)))))))
        (first
          | (go_at_call 42; refine (cmpT_any _ _ _).mono ?_; rintro e w' ⟨rfl, rfl⟩)
          | (go_at_call 39; refine (Tryz.cmp_Compare_int _ _ _).mono ?_; rintro e w' ⟨rfl, rfl⟩)
          | (go_at_call 41; refine (or2_any _ (cmpT a.t b.t) (Lib.compareInt a.i b.i) _ (by first | omega | (simp only [sz_alloc, sz_set, sz_drew, sz_drewN, sz_iterAt, sz_iter] at *; omega) | (simp; done) | (simp; omega) | (simp at *; omega)) (by first | (simp [go_sem]; done) | (simp [go_sem, *]; done)) (by first | (simp [go_sem]; done) | (simp [go_sem, *]; done))).mono ?_; rintro e w' ⟨rfl, rfl⟩))
      rw [compareInt_eq]
      go_wp2_with fail
      go_ret
      exact ⟨ret_int HC.out.symm, (by repeat' (first | (with_reducible exact Below.refl _ _) | (with_reducible assumption) | (with_reducible refine Below.drew ?_) | (with_reducible refine below_drewN ?_ _) | (with_reducible refine below_iterAt ?_ ?_ _ _) | (with_reducible refine below_iter ?_ ?_ _ _) | (with_reducible refine Below.alloc ?_ ?_ _) | (with_reducible refine Below.setCell ?_ ?_ _) | (with_reducible refine Below.trans ?_ (Below.mono (by assumption) ?_)) | (simp only [sz_alloc, sz_set, sz_drew, sz_drewN, sz_iterAt, sz_iter] at *; omega) | omega | (simp; done) | (simp; omega) | (apply Below.size; assumption) | (simp only [sz_drew, sz_drewN]; apply Below.size; assumption) | (refine Nat.le_trans ?_ (Below.size (by assumption)))))⟩
  · have HC : Hid (C = cmpI a.k b.k) := by rw [← hC]; unfold cmpV; rw [if_neg hk]; exact rfl
    have e1 : (a.k != b.k) = true := by simp [hk]
    clear hk hC sa sb ha hb
    go_enter Tryz.func20, Tryz.ntmps20
    go_wp2_with fail
    refine (Tryz.cmp_Compare_int _ _ _).mono ?_
    rintro e w' ⟨rfl, rfl⟩
    rw [compareInt_eq]
    go_wp2_with fail
    go_ret
    exact ⟨ret_int HC.out.symm, (by repeat' (first | (with_reducible exact Below.refl _ _) | (with_reducible assumption) | (with_reducible refine Below.drew ?_) | (with_reducible refine below_drewN ?_ _) | (with_reducible refine below_iterAt ?_ ?_ _ _) | (with_reducible refine below_iter ?_ ?_ _ _) | (with_reducible refine Below.alloc ?_ ?_ _) | (with_reducible refine Below.setCell ?_ ?_ _) | (with_reducible refine Below.trans ?_ (Below.mono (by assumption) ?_)) | (simp only [sz_alloc, sz_set, sz_drew, sz_drewN, sz_iterAt, sz_iter] at *; omega) | omega | (simp; done) | (simp; omega) | (apply Below.size; assumption) | (simp only [sz_drew, sz_drewN]; apply Below.size; assumption) | (refine Nat.le_trans ?_ (Below.size (by assumption)))))⟩
/-- what Compare hands back -/
def cmpVRes (a b : Vl) : Value := if (sndB a && sndB b) = true then .tuple #[.int .i64 (cmpV a b), .int .i64 0] else .tuple #[.int .i64 0, .int .i64 2]
end Go.Proofs.YthicilfhnakhmaaGreatDoor
