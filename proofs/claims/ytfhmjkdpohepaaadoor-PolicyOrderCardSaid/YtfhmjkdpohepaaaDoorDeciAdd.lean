/- soffit/deci.Add at sound numbers, walked. -/
import Derived.Test.YtfhmjkdpohepaaaDoorDeci4
set_option linter.unusedSimpArgs false
set_option linter.unusedVariables false
namespace Go.Proofs.YtfhmjkdpohepaaaDoor
open Go.RowKit

theorem decRes_yes {b : Bool} {n s : Nat} (h : (shU s n).1 ≤ 999999999999) : decRes b n s = .tuple #[.agg #[.int .i64 (sgn b (shU s n).1), .int .i64 (shU s n).2], .int .i64 0] := if_pos h
theorem decRes_no {b : Bool} {n s : Nat} (h : ¬ (shU s n).1 ≤ 999999999999) : decRes b n s = .tuple #[.agg #[.int .i64 0, .int .i64 0], .int .i64 3] := if_neg h
set_option maxRecDepth 100000 in
set_option maxHeartbeats 3200000 in
theorem decAdd_any (n s n' s' : Int) (w : World) (hd : decSnd n s = true) (hd' : decSnd n' s' = true) :
    Calls Tryd.prog 35 #[.agg #[.int .i64 n, .int .i64 s], .agg #[.int .i64 n', .int .i64 s']] w fun e w' =>
      e = .returned (decRes (decide (unitsI n s + unitsI n' s' < 0)) (unitsI n s + unitsI n' s').natAbs 6) ∧ Below w.heap.size w w' := by
  obtain ⟨a1, a2, a3, a4, -⟩ := decSnd_of hd
  obtain ⟨b1, b2, b3, b4, -⟩ := decSnd_of hd'
  have hu := units_bd a3 a4 a1 a2
  have hu' := units_bd b3 b4 b1 b2
  have I1 : I64 n := ⟨by omega, by omega⟩
  have I2 : I64 s := ⟨by omega, by omega⟩
  have I3 : I64 n' := ⟨by omega, by omega⟩
  have I4 : I64 s' := ⟨by omega, by omega⟩
  have HD : Hid ((decSnd n s && decSnd n' s') = true) := by show _ = _; rw [hd, hd']; rfl
  obtain ⟨x, hx⟩ : ∃ x, unitsI n s = x := ⟨_, rfl⟩
  obtain ⟨y, hy⟩ : ∃ y, unitsI n' s' = y := ⟨_, rfl⟩
  rw [hx] at hu
  rw [hy] at hu'
  rw [hx, hy]
  obtain ⟨N, hN⟩ : ∃ N, x + y = N := ⟨_, rfl⟩
  have hb1 : -2000000000000000000 ≤ N := by omega
  have hb2 : N ≤ 2000000000000000000 := by omega
  have hw1 : IntKind.i64.wrap (x + y) = N := by rw [← hN]; exact IntWalk.i64_in _ (by omega)
  have hw2 : IntKind.i64.wrap (-N) = -N := IntWalk.i64_in _ (by omega)
  have hw3 : IntKind.u64.wrap (max N (-N)) = (N.natAbs : Int) := by simp [IntKind.wrap, IntKind.signed, IntKind.bits]; omega
  have hna : N.natAbs ≤ 18446744073709551615 := by omega
  rw [hN]
  have HX := Lib.hid hx
  have HY := Lib.hid hy
  have HN := Lib.hid hN
  have HNA := Lib.hid hna
  have HW1 := Lib.hid hw1
  have HW2 := Lib.hid hw2
  have HW3 := Lib.hid hw3
  clear hx hy hd hd' hN hna hu hu' hb1 hb2 hw1 hw2 hw3
  go_enter Tryd.func35, Tryd.ntmps35
  go_wp2_with fail
  refine (all2_any _ n s n' s' _ (by first | omega | (simp only [sz_alloc, sz_set, sz_drew, sz_drewN, sz_iterAt, sz_iter] at *; omega) | (simp; done) | (simp; omega) | (simp at *; omega)) (by first | (simp [go_sem]; done) | (simp [go_sem, *]; done)) (by first | (simp [go_sem]; done) | (simp [go_sem, *]; done)) (by first | (simp [go_sem]; done) | (simp [go_sem, *]; done)) (by first | (simp [go_sem]; done) | (simp [go_sem, *]; done)) I1 I2 I3 I4).mono ?_
  rintro e w1 ⟨rfl, hb1⟩
  rw [HD.out, okE_true]
  clear I1 I2 I3 I4
  obtain ⟨hc1, hf1⟩ := bcell hb1
  have hz1 := hb1.size
  try simp at hz1
  have q1_0 := fun o => hc1 (w.heap.size) o (by first | omega | (simp only [sz_alloc, sz_set, sz_drew, sz_drewN, sz_iterAt, sz_iter] at *; omega) | (simp; done) | (simp; omega) | (simp at *; omega))
  have l1_0 : w.heap.size < w1.heap.size := by omega
  have r1_0 := fun o => hf1 (w.heap.size) o (by first | omega | (simp only [sz_alloc, sz_set, sz_drew, sz_drewN, sz_iterAt, sz_iter] at *; omega) | (simp; done) | (simp; omega) | (simp at *; omega))
  have q1_1 := fun o => hc1 (w.heap.size + 1) o (by first | omega | (simp only [sz_alloc, sz_set, sz_drew, sz_drewN, sz_iterAt, sz_iter] at *; omega) | (simp; done) | (simp; omega) | (simp at *; omega))
  have l1_1 : w.heap.size + 1 < w1.heap.size := by omega
  have r1_1 := fun o => hf1 (w.heap.size + 1) o (by first | omega | (simp only [sz_alloc, sz_set, sz_drew, sz_drewN, sz_iterAt, sz_iter] at *; omega) | (simp; done) | (simp; omega) | (simp at *; omega))
  have q1_2 := fun o => hc1 (w.heap.size + 2) o (by first | omega | (simp only [sz_alloc, sz_set, sz_drew, sz_drewN, sz_iterAt, sz_iter] at *; omega) | (simp; done) | (simp; omega) | (simp at *; omega))
  have l1_2 : w.heap.size + 2 < w1.heap.size := by omega
  have r1_2 := fun o => hf1 (w.heap.size + 2) o (by first | omega | (simp only [sz_alloc, sz_set, sz_drew, sz_drewN, sz_iterAt, sz_iter] at *; omega) | (simp; done) | (simp; omega) | (simp at *; omega))
  clear hc1 hf1
  go_wp2_with fail
  have kk0 : w1.cell? ⟨w.heap.size, 0, none⟩ = some (.int .i64 n) := (by first | (simp [go_sem]; done) | (simp [go_sem, *]; done))
  have kk1 : w1.cell? ⟨w.heap.size, 1, none⟩ = some (.int .i64 s) := (by first | (simp [go_sem]; done) | (simp [go_sem, *]; done))
  have kk2 : w1.cell? ⟨w.heap.size + 1, 0, none⟩ = some (.int .i64 n') := (by first | (simp [go_sem]; done) | (simp [go_sem, *]; done))
  have kk3 : w1.cell? ⟨w.heap.size + 1, 1, none⟩ = some (.int .i64 s') := (by first | (simp [go_sem]; done) | (simp [go_sem, *]; done))
  go_region_held3 (fun w' => Below w1.heap.size w1 w' ∧ w'.cell? ⟨w.heap.size, 0, none⟩ = some (.int .i64 n) ∧ w'.cell? ⟨w.heap.size, 1, none⟩ = some (.int .i64 s) ∧ w'.cell? ⟨w.heap.size + 1, 0, none⟩ = some (.int .i64 n') ∧ w'.cell? ⟨w.heap.size + 1, 1, none⟩ = some (.int .i64 s')) ((refine and_keep ?_ (fun hk => ⟨keep_cell hk l1_0 kk0, keep_cell hk l1_0 kk1, keep_cell hk l1_1 kk2, keep_cell hk l1_1 kk3⟩); exact (by repeat' (first | (with_reducible exact Below.refl _ _) | (with_reducible assumption) | (with_reducible refine Below.drew ?_) | (with_reducible refine below_drewN ?_ _) | (with_reducible refine below_iterAt ?_ ?_ _ _) | (with_reducible refine below_iter ?_ ?_ _ _) | (with_reducible refine Below.alloc ?_ ?_ _) | (with_reducible refine Below.setCell ?_ ?_ _) | (with_reducible refine Below.trans ?_ (Below.mono (by assumption) ?_)) | (simp only [sz_alloc, sz_set, sz_drew, sz_drewN, sz_iterAt, sz_iter] at *; omega) | omega | (simp; done) | (simp; omega) | (apply Below.size; assumption) | (simp only [sz_drew, sz_drewN]; apply Below.size; assumption) | (refine Nat.le_trans ?_ (Below.size (by assumption)))))))
    (first
      | (go_at_call 51; refine (units_any _ _ _ (by omega) (by omega) (by omega) (by omega)).mono ?_; rintro e w' ⟨rfl, hb'⟩))
  try rw [HX.out, HY.out]
  have hS : Below w1.heap.size w1 _ ∧ _ := (by assumption)
  have hbwz := hS.1
  clear hS
  have hzz := hbwz.size
  have qz_0 := fun o => (hbwz.cell (p := ⟨w.heap.size, o, none⟩) l1_0).trans (q1_0 o)
  have rz_0 := fun o => (hbwz.frozen (p := ⟨w.heap.size, o, none⟩) l1_0).trans (r1_0 o)
  have lz_0 := Nat.lt_of_lt_of_le l1_0 hzz
  have qz_1 := fun o => (hbwz.cell (p := ⟨w.heap.size + 1, o, none⟩) l1_1).trans (q1_1 o)
  have rz_1 := fun o => (hbwz.frozen (p := ⟨w.heap.size + 1, o, none⟩) l1_1).trans (r1_1 o)
  have lz_1 := Nat.lt_of_lt_of_le l1_1 hzz
  have qz_2 := fun o => (hbwz.cell (p := ⟨w.heap.size + 2, o, none⟩) l1_2).trans (q1_2 o)
  have rz_2 := fun o => (hbwz.frozen (p := ⟨w.heap.size + 2, o, none⟩) l1_2).trans (r1_2 o)
  have lz_2 := Nat.lt_of_lt_of_le l1_2 hzz
  have h1 := HW1.out
  have h2 := HW2.out
  have h3 := HW3.out
  go_wp2_with fail
  have g1 : wrap64 (x + y) = N := (IntWalk.i64_left _).symm.trans h1
  have g2 : wrap64 (-N) = -N := (IntWalk.i64_left _).symm.trans h2
  simp only [g1, g2, h1, h2, h3]
  clear g1 g2 h1 h2 h3
  refine (dec_any N.natAbs 6 (decide (N < 0)) HNA.out (by decide) _).mono ?_
  rintro e w3 ⟨rfl, hb3⟩
  obtain ⟨hc3, hf3⟩ := bcell hb3
  have hz3 := hb3.size
  try simp at hz3
  have q3_0 := fun o => hc3 (w.heap.size) o (by first | omega | (simp only [sz_alloc, sz_set, sz_drew, sz_drewN, sz_iterAt, sz_iter] at *; omega) | (simp; done) | (simp; omega) | (simp at *; omega))
  have l3_0 : w.heap.size < w3.heap.size := by omega
  have r3_0 := fun o => hf3 (w.heap.size) o (by first | omega | (simp only [sz_alloc, sz_set, sz_drew, sz_drewN, sz_iterAt, sz_iter] at *; omega) | (simp; done) | (simp; omega) | (simp at *; omega))
  have q3_1 := fun o => hc3 (w.heap.size + 1) o (by first | omega | (simp only [sz_alloc, sz_set, sz_drew, sz_drewN, sz_iterAt, sz_iter] at *; omega) | (simp; done) | (simp; omega) | (simp at *; omega))
  have l3_1 : w.heap.size + 1 < w3.heap.size := by omega
  have r3_1 := fun o => hf3 (w.heap.size + 1) o (by first | omega | (simp only [sz_alloc, sz_set, sz_drew, sz_drewN, sz_iterAt, sz_iter] at *; omega) | (simp; done) | (simp; omega) | (simp at *; omega))
  have q3_2 := fun o => hc3 (w.heap.size + 2) o (by first | omega | (simp only [sz_alloc, sz_set, sz_drew, sz_drewN, sz_iterAt, sz_iter] at *; omega) | (simp; done) | (simp; omega) | (simp at *; omega))
  have l3_2 : w.heap.size + 2 < w3.heap.size := by omega
  have r3_2 := fun o => hf3 (w.heap.size + 2) o (by first | omega | (simp only [sz_alloc, sz_set, sz_drew, sz_drewN, sz_iterAt, sz_iter] at *; omega) | (simp; done) | (simp; omega) | (simp at *; omega))
  clear hc3 hf3
  by_cases hle : (shU 6 N.natAbs).1 ≤ 999999999999
  · have HF := Lib.hid (decRes_yes (b := decide (N < 0)) hle)
    rw [HF.out]
    generalize sgn (decide (N < 0)) (shU 6 N.natAbs).1 = q1 at *
    generalize (shU 6 N.natAbs).2 = q2 at *
    clear hle
    go_wp2_with fail
    refine bodyPost_ret (v := .tuple #[.agg #[.int .i64 q1, .int .i64 q2], .int .i64 0]) ?_ rfl ⟨by rw [HF.out], ?_⟩
    · simp [results, Tryd.results35, go_sem, *]
    · exact (by repeat' (first | (with_reducible exact Below.refl _ _) | (with_reducible assumption) | (with_reducible refine Below.drew ?_) | (with_reducible refine below_drewN ?_ _) | (with_reducible refine below_iterAt ?_ ?_ _ _) | (with_reducible refine below_iter ?_ ?_ _ _) | (with_reducible refine Below.alloc ?_ ?_ _) | (with_reducible refine Below.setCell ?_ ?_ _) | (with_reducible refine Below.trans ?_ (Below.mono (by assumption) ?_)) | (simp only [sz_alloc, sz_set, sz_drew, sz_drewN, sz_iterAt, sz_iter] at *; omega) | omega | (simp; done) | (simp; omega) | (apply Below.size; assumption) | (simp only [sz_drew, sz_drewN]; apply Below.size; assumption) | (refine Nat.le_trans ?_ (Below.size (by assumption)))))
  · have HF := Lib.hid (decRes_no (b := decide (N < 0)) hle)
    rw [HF.out]
    clear hle
    go_wp2_with fail
    refine bodyPost_ret (v := .tuple #[.agg #[.int .i64 0, .int .i64 0], .int .i64 3]) ?_ rfl ⟨by rw [HF.out], ?_⟩
    · simp [results, Tryd.results35, go_sem, *]
    · exact (by repeat' (first | (with_reducible exact Below.refl _ _) | (with_reducible assumption) | (with_reducible refine Below.drew ?_) | (with_reducible refine below_drewN ?_ _) | (with_reducible refine below_iterAt ?_ ?_ _ _) | (with_reducible refine below_iter ?_ ?_ _ _) | (with_reducible refine Below.alloc ?_ ?_ _) | (with_reducible refine Below.setCell ?_ ?_ _) | (with_reducible refine Below.trans ?_ (Below.mono (by assumption) ?_)) | (simp only [sz_alloc, sz_set, sz_drew, sz_drewN, sz_iterAt, sz_iter] at *; omega) | omega | (simp; done) | (simp; omega) | (apply Below.size; assumption) | (simp only [sz_drew, sz_drewN]; apply Below.size; assumption) | (refine Nat.le_trans ?_ (Below.size (by assumption)))))
end Go.Proofs.YtfhmjkdpohepaaaDoor
