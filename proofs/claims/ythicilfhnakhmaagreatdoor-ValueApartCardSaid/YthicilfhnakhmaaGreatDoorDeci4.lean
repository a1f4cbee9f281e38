/- The numbers: units, all, Compare. -/
import Derived.Test.YthicilfhnakhmaaGreatDoorDeci3
import Derived.Test.YthicilfhnakhmaaGreatDoorVl
import Derived.Test.YthicilfhnakhmaaGreatDoorShelf
set_option linter.unusedSimpArgs false
set_option linter.unusedVariables false
namespace Go.Proofs.YthicilfhnakhmaaGreatDoor
open Go.RowKit

/-- the error of what may be, or not -/
def okE (b : Bool) : Int := if b = true then 0 else 2
theorem okE_true : okE true = 0 := rfl
theorem okE_false : okE false = 2 := rfl

theorem units_bd {n s : Int} (h1 : -999999999999 ≤ n) (h2 : n ≤ 999999999999) (h3 : 0 ≤ s) (h4 : s ≤ 6) : -999999999999000000 ≤ unitsI n s ∧ unitsI n s ≤ 999999999999000000 := by
  unfold unitsI
  have e : (10 : Int) ^ (6 - s.toNat) = ((10 ^ (6 - s.toNat) : Nat) : Int) := by norm_cast
  have h := Nat.pow_le_pow_right (n := 10) (by omega) (show 6 - s.toNat ≤ 6 by omega)
  rw [e]
  generalize 10 ^ (6 - s.toNat) = q at *
  have e2 : (10 : Nat) ^ 6 = 1000000 := rfl
  obtain ⟨p, hp⟩ : ∃ p : Int, (q : Int) = p := ⟨_, rfl⟩
  have hp : p ≤ 1000000 := by omega
  have h0 : 0 ≤ p := by omega
  rw [show (q : Int) = p by assumption]
  constructor
  · have : -999999999999 * p ≤ n * p := Int.mul_le_mul_of_nonneg_right h1 h0
    omega
  · have : n * p ≤ 999999999999 * p := Int.mul_le_mul_of_nonneg_right h2 h0
    omega

set_option maxHeartbeats 800000 in
theorem units_any (n s : Int) (w : World) (h1 : -999999999999 ≤ n) (h2 : n ≤ 999999999999) (h3 : 0 ≤ s) (h4 : s ≤ 6) :
    Calls Tryz.prog 63 #[.agg #[.int .i64 n, .int .i64 s]] w fun e w' => e = .returned (.int .i64 (unitsI n s)) ∧ Below w.heap.size w w' := by
  obtain ⟨t, rfl⟩ : ∃ t : Nat, s = (t : Int) := ⟨s.toNat, by omega⟩
  have hb := units_bd h1 h2 h3 h4
  have hsub : IntKind.i64.wrap (6 - (t : Int)) = ((6 - t : Nat) : Int) := by rw [IntWalk.i64_in _ (by omega)]; omega
  obtain ⟨p, hp⟩ : ∃ p, 10 ^ (6 - t) = p := ⟨_, rfl⟩
  have hu : unitsI n t = n * (p : Int) := by
    unfold unitsI; rw [← hp, Int.toNat_natCast]; norm_cast
  rw [hu] at hb ⊢
  have HP := Lib.hid hp
  clear hp hu
  have hp2 : p ≤ 1000000 := by
    have h := Nat.pow_le_pow_right (n := 10) (by omega) (show 6 - t ≤ 6 by omega)
    rw [HP.out] at h
    have e2 : (10 : Nat) ^ 6 = 1000000 := rfl
    omega
  go_enter Tryz.func63, Tryz.ntmps63
  go_wp2_with fail
  go_region_held3 (fun w' => w'.cell? ⟨w.heap.size, 0, none⟩ = some (.int .i64 n) ∧ w'.cell? ⟨w.heap.size, 1, none⟩ = some (.int .i64 t)) (go_keep)
    (first
      | (go_at_call 95; refine (power_p (6 - t) p (by omega) HP.out _).mono ?_; rintro e w' ⟨rfl, rfl⟩))
  go_wp2_with fail
  go_ret
  refine ⟨ret_int ?_, (by repeat' (first | (with_reducible exact Below.refl _ _) | (with_reducible assumption) | (with_reducible refine Below.drew ?_) | (with_reducible refine below_drewN ?_ _) | (with_reducible refine below_iterAt ?_ ?_ _ _) | (with_reducible refine below_iter ?_ ?_ _ _) | (with_reducible refine Below.alloc ?_ ?_ _) | (with_reducible refine Below.setCell ?_ ?_ _) | (with_reducible refine Below.trans ?_ (Below.mono (by assumption) ?_)) | (simp only [sz_alloc, sz_set, sz_drew, sz_drewN, sz_iterAt, sz_iter] at *; omega) | omega | (simp; done) | (simp; omega) | (apply Below.size; assumption) | (simp only [sz_drew, sz_drewN]; apply Below.size; assumption) | (refine Nat.le_trans ?_ (Below.size (by assumption)))))⟩
  show IntKind.i64.wrap (n * IntKind.i64.wrap (p : Int)) = n * (p : Int)
  rw [IntWalk.i64_in (p : Int) (by omega), IntWalk.i64_in (n * (p : Int)) (by omega)]

set_option maxHeartbeats 800000 in
/-- a row of two numbers in a block of its own -/
theorem all2_any (b : Nat) (n s n' s' : Int) (w : World) (hb : b < w.heap.size)
    (c0 : w.cell? ⟨b, 0, none⟩ = some (.int .i64 n)) (c1 : w.cell? ⟨b, 1, none⟩ = some (.int .i64 s)) (c2 : w.cell? ⟨b, 2, none⟩ = some (.int .i64 n')) (c3 : w.cell? ⟨b, 3, none⟩ = some (.int .i64 s'))
    (hn : I64 n) (hs : I64 s) (hn' : I64 n') (hs' : I64 s') :
    Calls Tryz.prog 45 #[.slice (some ⟨b, 0, none⟩) 2 2] w fun e w' => e = .returned (.int .i64 (okE (decSnd n s && decSnd n' s'))) ∧ Below w.heap.size w w' := by
  go_enter Tryz.func45, Tryz.ntmps45
  go_wp2_with fail
  go_loopg [7] 2 (fun k i wr => ∃ j : Nat, j ≤ 2 ∧ 2 - j ≤ k ∧ (1 ≤ j → Hid (decSnd n s = true)) ∧ (2 ≤ j → Hid (decSnd n' s' = true)) ∧ i = .int .i64 j ∧ Below w.heap.size w wr)
  case atStart => exact ⟨0, by omega, by omega, fun h => by omega, fun h => by omega, rfl, Below.refl _ _⟩
  case round =>
    obtain ⟨j, hj, hjk, g1, g2, rfl, hbel⟩ := hrel
    have hc : ∀ o, wr.cell? ⟨b, o, none⟩ = w.cell? ⟨b, o, none⟩ := fun o => hbel.cell (p := ⟨b, o, none⟩) hb
    have d0 := (hc 0).trans c0
    have d1 := (hc 1).trans c1
    have d2 := (hc 2).trans c2
    have d3 := (hc 3).trans c3
    clear hc
    have hsz := hbel.size
    have hj3 : j = 0 ∨ j = 1 ∨ j = 2 := by omega
    rcases hj3 with rfl | rfl | rfl
    · have I1 := hn
      have I2 := hs
      simp only [I64] at I1 I2
      cases hd : decSnd n s
      · have HF : Hid ((decSnd n s && decSnd n' s') = false) := by show _ = _; rw [hd]; simp
        go_wp2_with fail
        refine (decSound_any n s _ I1.1 I1.2 I2.1 I2.2).mono ?_
        rintro e w1 ⟨rfl, hb1⟩
        rw [hd]
        clear hd I1 I2
        go_wp2_with fail
        go_ret
        exact ⟨ret_int (by rw [HF.out]; rfl), (by repeat' (first | (with_reducible exact Below.refl _ _) | (with_reducible assumption) | (with_reducible refine Below.drew ?_) | (with_reducible refine below_drewN ?_ _) | (with_reducible refine below_iterAt ?_ ?_ _ _) | (with_reducible refine below_iter ?_ ?_ _ _) | (with_reducible refine Below.alloc ?_ ?_ _) | (with_reducible refine Below.setCell ?_ ?_ _) | (with_reducible refine Below.trans ?_ (Below.mono (by assumption) ?_)) | (simp only [sz_alloc, sz_set, sz_drew, sz_drewN, sz_iterAt, sz_iter] at *; omega) | omega | (simp; done) | (simp; omega) | (apply Below.size; assumption) | (simp only [sz_drew, sz_drewN]; apply Below.size; assumption) | (refine Nat.le_trans ?_ (Below.size (by assumption)))))⟩
      · have HD := Lib.hid hd
        go_wp2_with fail
        refine (decSound_any n s _ I1.1 I1.2 I2.1 I2.2).mono ?_
        rintro e w1 ⟨rfl, hb1⟩
        rw [hd]
        clear hd I1 I2
        go_wp2_with fail
        go_roundg (gk - 1)
        case measure => omega
        case rel => exact ⟨0 + 1, by omega, by omega, fun _ => HD, fun h => by omega, by go_num, (by repeat' (first | (with_reducible exact Below.refl _ _) | (with_reducible assumption) | (with_reducible refine Below.drew ?_) | (with_reducible refine below_drewN ?_ _) | (with_reducible refine below_iterAt ?_ ?_ _ _) | (with_reducible refine below_iter ?_ ?_ _ _) | (with_reducible refine Below.alloc ?_ ?_ _) | (with_reducible refine Below.setCell ?_ ?_ _) | (with_reducible refine Below.trans ?_ (Below.mono (by assumption) ?_)) | (simp only [sz_alloc, sz_set, sz_drew, sz_drewN, sz_iterAt, sz_iter] at *; omega) | omega | (simp; done) | (simp; omega) | (apply Below.size; assumption) | (simp only [sz_drew, sz_drewN]; apply Below.size; assumption) | (refine Nat.le_trans ?_ (Below.size (by assumption)))))⟩
    · have I1 := hn'
      have I2 := hs'
      simp only [I64] at I1 I2
      cases hd : decSnd n' s'
      · have HF : Hid ((decSnd n s && decSnd n' s') = false) := by show _ = _; rw [hd]; simp
        go_wp2_with fail
        refine (decSound_any n' s' _ I1.1 I1.2 I2.1 I2.2).mono ?_
        rintro e w1 ⟨rfl, hb1⟩
        rw [hd]
        clear hd I1 I2
        go_wp2_with fail
        go_ret
        exact ⟨ret_int (by rw [HF.out]; rfl), (by repeat' (first | (with_reducible exact Below.refl _ _) | (with_reducible assumption) | (with_reducible refine Below.drew ?_) | (with_reducible refine below_drewN ?_ _) | (with_reducible refine below_iterAt ?_ ?_ _ _) | (with_reducible refine below_iter ?_ ?_ _ _) | (with_reducible refine Below.alloc ?_ ?_ _) | (with_reducible refine Below.setCell ?_ ?_ _) | (with_reducible refine Below.trans ?_ (Below.mono (by assumption) ?_)) | (simp only [sz_alloc, sz_set, sz_drew, sz_drewN, sz_iterAt, sz_iter] at *; omega) | omega | (simp; done) | (simp; omega) | (apply Below.size; assumption) | (simp only [sz_drew, sz_drewN]; apply Below.size; assumption) | (refine Nat.le_trans ?_ (Below.size (by assumption)))))⟩
      · have HD := Lib.hid hd
        go_wp2_with fail
        refine (decSound_any n' s' _ I1.1 I1.2 I2.1 I2.2).mono ?_
        rintro e w1 ⟨rfl, hb1⟩
        rw [hd]
        clear hd I1 I2
        go_wp2_with fail
        go_roundg (gk - 1)
        case measure => omega
        case rel => exact ⟨1 + 1, by omega, by omega, fun _ => g1 (by omega), fun _ => HD, by go_num, (by repeat' (first | (with_reducible exact Below.refl _ _) | (with_reducible assumption) | (with_reducible refine Below.drew ?_) | (with_reducible refine below_drewN ?_ _) | (with_reducible refine below_iterAt ?_ ?_ _ _) | (with_reducible refine below_iter ?_ ?_ _ _) | (with_reducible refine Below.alloc ?_ ?_ _) | (with_reducible refine Below.setCell ?_ ?_ _) | (with_reducible refine Below.trans ?_ (Below.mono (by assumption) ?_)) | (simp only [sz_alloc, sz_set, sz_drew, sz_drewN, sz_iterAt, sz_iter] at *; omega) | omega | (simp; done) | (simp; omega) | (apply Below.size; assumption) | (simp only [sz_drew, sz_drewN]; apply Below.size; assumption) | (refine Nat.le_trans ?_ (Below.size (by assumption)))))⟩
    · have HT : Hid ((decSnd n s && decSnd n' s') = true) := by show _ = _; rw [(g1 (by omega)).out, (g2 (by omega)).out]; rfl
      go_wp2_with fail
      go_ret
      exact ⟨ret_int (by rw [HT.out]; rfl), hbel⟩

set_option maxHeartbeats 800000 in
/-- a row of one number in a block of its own -/
theorem all1_any (b : Nat) (n s : Int) (w : World) (hb : b < w.heap.size)
    (c0 : w.cell? ⟨b, 0, none⟩ = some (.int .i64 n)) (c1 : w.cell? ⟨b, 1, none⟩ = some (.int .i64 s))
    (hn : I64 n) (hs : I64 s) :
    Calls Tryz.prog 45 #[.slice (some ⟨b, 0, none⟩) 1 1] w fun e w' => e = .returned (.int .i64 (okE (decSnd n s))) ∧ Below w.heap.size w w' := by
  go_enter Tryz.func45, Tryz.ntmps45
  go_wp2_with fail
  go_loopg [7] 1 (fun k i wr => ∃ j : Nat, j ≤ 1 ∧ 1 - j ≤ k ∧ (1 ≤ j → Hid (decSnd n s = true)) ∧ i = .int .i64 j ∧ Below w.heap.size w wr)
  case atStart => exact ⟨0, by omega, by omega, fun h => by omega, rfl, Below.refl _ _⟩
  case round =>
    obtain ⟨j, hj, hjk, g1, rfl, hbel⟩ := hrel
    have hc : ∀ o, wr.cell? ⟨b, o, none⟩ = w.cell? ⟨b, o, none⟩ := fun o => hbel.cell (p := ⟨b, o, none⟩) hb
    have d0 := (hc 0).trans c0
    have d1 := (hc 1).trans c1
    clear hc
    have hsz := hbel.size
    have hj3 : j = 0 ∨ j = 1 := by omega
    rcases hj3 with rfl | rfl
    · have I1 := hn
      have I2 := hs
      simp only [I64] at I1 I2
      cases hd : decSnd n s
      · have HF : Hid (decSnd n s = false) := hd
        go_wp2_with fail
        refine (decSound_any n s _ I1.1 I1.2 I2.1 I2.2).mono ?_
        rintro e w1 ⟨rfl, hb1⟩
        rw [hd]
        clear hd I1 I2
        go_wp2_with fail
        go_ret
        exact ⟨ret_int (by rw [HF.out]; rfl), (by repeat' (first | (with_reducible exact Below.refl _ _) | (with_reducible assumption) | (with_reducible refine Below.drew ?_) | (with_reducible refine below_drewN ?_ _) | (with_reducible refine below_iterAt ?_ ?_ _ _) | (with_reducible refine below_iter ?_ ?_ _ _) | (with_reducible refine Below.alloc ?_ ?_ _) | (with_reducible refine Below.setCell ?_ ?_ _) | (with_reducible refine Below.trans ?_ (Below.mono (by assumption) ?_)) | (simp only [sz_alloc, sz_set, sz_drew, sz_drewN, sz_iterAt, sz_iter] at *; omega) | omega | (simp; done) | (simp; omega) | (apply Below.size; assumption) | (simp only [sz_drew, sz_drewN]; apply Below.size; assumption) | (refine Nat.le_trans ?_ (Below.size (by assumption)))))⟩
      · have HD := Lib.hid hd
        go_wp2_with fail
        refine (decSound_any n s _ I1.1 I1.2 I2.1 I2.2).mono ?_
        rintro e w1 ⟨rfl, hb1⟩
        rw [hd]
        clear hd I1 I2
        go_wp2_with fail
        go_roundg (gk - 1)
        case measure => omega
        case rel => exact ⟨0 + 1, by omega, by omega, fun _ => HD, by go_num, (by repeat' (first | (with_reducible exact Below.refl _ _) | (with_reducible assumption) | (with_reducible refine Below.drew ?_) | (with_reducible refine below_drewN ?_ _) | (with_reducible refine below_iterAt ?_ ?_ _ _) | (with_reducible refine below_iter ?_ ?_ _ _) | (with_reducible refine Below.alloc ?_ ?_ _) | (with_reducible refine Below.setCell ?_ ?_ _) | (with_reducible refine Below.trans ?_ (Below.mono (by assumption) ?_)) | (simp only [sz_alloc, sz_set, sz_drew, sz_drewN, sz_iterAt, sz_iter] at *; omega) | omega | (simp; done) | (simp; omega) | (apply Below.size; assumption) | (simp only [sz_drew, sz_drewN]; apply Below.size; assumption) | (refine Nat.le_trans ?_ (Below.size (by assumption)))))⟩
    · have HT : Hid (decSnd n s = true) := (g1 (by omega)).out
      go_wp2_with fail
      go_ret
      exact ⟨ret_int (by rw [HT.out]; rfl), hbel⟩

theorem compareInt_eq (x y : Int) : Lib.compareInt x y = cmpI x y := by
  unfold Lib.compareInt cmpI
  rfl

/-- what Compare hands back -/
def cmpRes (n s n' s' : Int) : Value := if (decSnd n s && decSnd n' s') = true then .tuple #[.int .i64 (cmpD n s n' s'), .int .i64 0] else .tuple #[.int .i64 0, .int .i64 2]
theorem cmpRes_yes {n s n' s' : Int} (h : decSnd n s = true) (h' : decSnd n' s' = true) : cmpRes n s n' s' = .tuple #[.int .i64 (cmpD n s n' s'), .int .i64 0] := by
  unfold cmpRes; rw [h, h']; rfl
theorem cmpRes_no {n s n' s' : Int} (h : (decSnd n s && decSnd n' s') = false) : cmpRes n s n' s' = .tuple #[.int .i64 0, .int .i64 2] := by
  unfold cmpRes; rw [h]; rfl

set_option maxHeartbeats 1600000 in
theorem decCmp_any (n s n' s' : Int) (w : World) (hn : I64 n) (hs : I64 s) (hn' : I64 n') (hs' : I64 s') :
    Calls Tryz.prog 40 #[.agg #[.int .i64 n, .int .i64 s], .agg #[.int .i64 n', .int .i64 s']] w fun e w' => e = .returned (cmpRes n s n' s') ∧ Below w.heap.size w w' := by
  cases hd : (decSnd n s && decSnd n' s')
  · have HF := Lib.hid (cmpRes_no hd)
    go_enter Tryz.func40, Tryz.ntmps40
    go_wp2_with fail
    refine (all2_any _ n s n' s' _ (by first | omega | (simp only [sz_alloc, sz_set, sz_drew, sz_drewN, sz_iterAt, sz_iter] at *; omega) | (simp; done) | (simp; omega) | (simp at *; omega)) (by first | (simp [go_sem]; done) | (simp [go_sem, *]; done)) (by first | (simp [go_sem]; done) | (simp [go_sem, *]; done)) (by first | (simp [go_sem]; done) | (simp [go_sem, *]; done)) (by first | (simp [go_sem]; done) | (simp [go_sem, *]; done)) hn hs hn' hs').mono ?_
    rintro e w1 ⟨rfl, hb1⟩
    rw [hd, okE_false]
    clear hd
    go_wp2_with fail
    go_ret2
    exact ⟨by rw [HF.out]; rfl, (by repeat' (first | (with_reducible exact Below.refl _ _) | (with_reducible assumption) | (with_reducible refine Below.drew ?_) | (with_reducible refine below_drewN ?_ _) | (with_reducible refine below_iterAt ?_ ?_ _ _) | (with_reducible refine below_iter ?_ ?_ _ _) | (with_reducible refine Below.alloc ?_ ?_ _) | (with_reducible refine Below.setCell ?_ ?_ _) | (with_reducible refine Below.trans ?_ (Below.mono (by assumption) ?_)) | (simp only [sz_alloc, sz_set, sz_drew, sz_drewN, sz_iterAt, sz_iter] at *; omega) | omega | (simp; done) | (simp; omega) | (apply Below.size; assumption) | (simp only [sz_drew, sz_drewN]; apply Below.size; assumption) | (refine Nat.le_trans ?_ (Below.size (by assumption)))))⟩
  · have hd2 : decSnd n s = true ∧ decSnd n' s' = true := by simpa using hd
    have HF := Lib.hid (cmpRes_yes hd2.1 hd2.2)
    obtain ⟨a1, a2, a3, a4, -⟩ := decSnd_of hd2.1
    obtain ⟨b1, b2, b3, b4, -⟩ := decSnd_of hd2.2
    go_enter Tryz.func40, Tryz.ntmps40
    go_wp2_with fail
    refine (all2_any _ n s n' s' _ (by first | omega | (simp only [sz_alloc, sz_set, sz_drew, sz_drewN, sz_iterAt, sz_iter] at *; omega) | (simp; done) | (simp; omega) | (simp at *; omega)) (by first | (simp [go_sem]; done) | (simp [go_sem, *]; done)) (by first | (simp [go_sem]; done) | (simp [go_sem, *]; done)) (by first | (simp [go_sem]; done) | (simp [go_sem, *]; done)) (by first | (simp [go_sem]; done) | (simp [go_sem, *]; done)) hn hs hn' hs').mono ?_
    rintro e w1 ⟨rfl, hb1⟩
    rw [hd, okE_true]
    clear hd hd2 hn hs hn' hs'
    obtain ⟨hc1, hf1⟩ := bcell hb1
    have hz1 := hb1.size
    try simp at hz1
    have q1_0 := fun o => hc1 (w.heap.size) o (by first | omega | (simp only [sz_alloc, sz_set, sz_drew, sz_drewN, sz_iterAt, sz_iter] at *; omega) | (simp; done) | (simp; omega) | (simp at *; omega))
    have l1_0 : w.heap.size < w1.heap.size := by omega
    have r1_0 := fun o => hf1 (w.heap.size) o (by first | omega | (simp only [sz_alloc, sz_set, sz_drew, sz_drewN, sz_iterAt, sz_iter] at *; omega) | (simp; done) | (simp; omega) | (simp at *; omega))
    have q1_1 := fun o => hc1 (w.heap.size + 1) o (by first | omega | (simp only [sz_alloc, sz_set, sz_drew, sz_drewN, sz_iterAt, sz_iter] at *; omega) | (simp; done) | (simp; omega) | (simp at *; omega))
    have l1_1 : w.heap.size + 1 < w1.heap.size := by omega
    have r1_1 := fun o => hf1 (w.heap.size + 1) o (by first | omega | (simp only [sz_alloc, sz_set, sz_drew, sz_drewN, sz_iterAt, sz_iter] at *; omega) | (simp; done) | (simp; omega) | (simp at *; omega))
    clear hc1 hf1
    go_wp2_with fail
    have kk0 : w1.cell? ⟨w.heap.size, 0, none⟩ = some (.int .i64 n) := (by first | (simp [go_sem]; done) | (simp [go_sem, *]; done))
    have kk1 : w1.cell? ⟨w.heap.size, 1, none⟩ = some (.int .i64 s) := (by first | (simp [go_sem]; done) | (simp [go_sem, *]; done))
    have kk2 : w1.cell? ⟨w.heap.size + 1, 0, none⟩ = some (.int .i64 n') := (by first | (simp [go_sem]; done) | (simp [go_sem, *]; done))
    have kk3 : w1.cell? ⟨w.heap.size + 1, 1, none⟩ = some (.int .i64 s') := (by first | (simp [go_sem]; done) | (simp [go_sem, *]; done))
    go_region_held3 (fun w' => Below w1.heap.size w1 w' ∧ w'.cell? ⟨w.heap.size, 0, none⟩ = some (.int .i64 n) ∧ w'.cell? ⟨w.heap.size, 1, none⟩ = some (.int .i64 s) ∧ w'.cell? ⟨w.heap.size + 1, 0, none⟩ = some (.int .i64 n') ∧ w'.cell? ⟨w.heap.size + 1, 1, none⟩ = some (.int .i64 s')) ((refine and_keep ?_ (fun hk => ⟨keep_cell hk l1_0 kk0, keep_cell hk l1_0 kk1, keep_cell hk l1_1 kk2, keep_cell hk l1_1 kk3⟩); exact (by repeat' (first | (with_reducible exact Below.refl _ _) | (with_reducible assumption) | (with_reducible refine Below.drew ?_) | (with_reducible refine below_drewN ?_ _) | (with_reducible refine below_iterAt ?_ ?_ _ _) | (with_reducible refine below_iter ?_ ?_ _ _) | (with_reducible refine Below.alloc ?_ ?_ _) | (with_reducible refine Below.setCell ?_ ?_ _) | (with_reducible refine Below.trans ?_ (Below.mono (by assumption) ?_)) | (simp only [sz_alloc, sz_set, sz_drew, sz_drewN, sz_iterAt, sz_iter] at *; omega) | omega | (simp; done) | (simp; omega) | (apply Below.size; assumption) | (simp only [sz_drew, sz_drewN]; apply Below.size; assumption) | (refine Nat.le_trans ?_ (Below.size (by assumption)))))))
      (first
        | (go_at_call 63; refine (units_any _ _ _ (by omega) (by omega) (by omega) (by omega)).mono ?_; rintro e w' ⟨rfl, hb'⟩)
        | (go_at_call 39; refine (Tryz.cmp_Compare_int _ _ _).mono ?_; rintro e w' ⟨rfl, rfl⟩))
    rw [compareInt_eq]
    go_wp2_with fail
    go_ret2
    exact ⟨by rw [HF.out]; rfl, (by repeat' (first | (with_reducible exact Below.refl _ _) | (with_reducible assumption) | (with_reducible refine Below.drew ?_) | (with_reducible refine below_drewN ?_ _) | (with_reducible refine below_iterAt ?_ ?_ _ _) | (with_reducible refine below_iter ?_ ?_ _ _) | (with_reducible refine Below.alloc ?_ ?_ _) | (with_reducible refine Below.setCell ?_ ?_ _) | (with_reducible refine Below.trans ?_ (Below.mono (by assumption) ?_)) | (simp only [sz_alloc, sz_set, sz_drew, sz_drewN, sz_iterAt, sz_iter] at *; omega) | omega | (simp; done) | (simp; omega) | (apply Below.size; assumption) | (simp only [sz_drew, sz_drewN]; apply Below.size; assumption) | (refine Nat.le_trans ?_ (Below.size (by assumption)))))⟩
end Go.Proofs.YthicilfhnakhmaaGreatDoor
