import Derived.Test.YtankkadnhdfpfaaGreatDoorPk01
import Derived.Test.YtankkadnhdfpfaaGreatDoorPk02
import Derived.Test.YtankkadnhdfpfaaGreatDoorPk04
import Derived.Test.YtankkadnhdfpfaaGreatDoorPk03
import Derived.Test.YtankkadnhdfpfaaGreatDoorShelf
import Derived.Test.YtankkadnhdfpfaaGreatDoorPk07
/- A value of the program, as Lean data. -/
set_option linter.unusedSimpArgs false
set_option linter.unusedVariables false
namespace Go.Proofs.YtankkadnhdfpfaaGreatDoor
open Go.RowKit

structure Vl where
  k : Int
  n : Int
  s : Int
  t : ByteArray
  i : Int
def I64 (x : Int) : Prop := -9223372036854775808 ≤ x ∧ x ≤ 9223372036854775807
structure Vl.wf (v : Vl) : Prop where
  k : I64 v.k
  n : I64 v.n
  s : I64 v.s
  i : I64 v.i
  t : v.t.size ≤ 9223372036854775807
def Vl.zero : Vl := ⟨0, 0, 0, ⟨#[]⟩, 0⟩
def sndB (v : Vl) : Bool :=
  if v.k = 0 then decide (v.n = 0 ∧ v.s = 0 ∧ v.t.toList = [] ∧ v.i = 0)
  else if v.k = 1 then decide (v.t.toList = [] ∧ v.i = 0) && decSnd v.n v.s
  else if v.k = 2 then decide (v.n = 0 ∧ v.s = 0 ∧ v.i = 0 ∧ v.t.size ≤ 256) && goodB v.t
  else if v.k = 3 then decide (v.n = 0 ∧ v.s = 0 ∧ v.t.toList = [] ∧ (v.i = 0 ∨ v.i = 1))
  else if v.k = 4 then decide (v.n = 0 ∧ v.s = 0 ∧ v.t.toList = [] ∧ 0 ≤ v.i ∧ v.i ≤ 3652058)
  else false
end Go.Proofs.YtankkadnhdfpfaaGreatDoor

/- The numbers: units, all, Compare. -/
set_option linter.unusedSimpArgs false
set_option linter.unusedVariables false
namespace Go.Proofs.YtankkadnhdfpfaaGreatDoor
open Go.RowKit

def okE (b : Bool) : Int := if b = true then 0 else 2
theorem okE_true : okE true = 0 := rfl
theorem okE_false : okE false = 2 := rfl

theorem units_bd {n s : Int} (h1 : -999999999999 ≤ n) (h2 : n ≤ 999999999999) (h3 : 0 ≤ s) (h4 : s ≤ 6) : -999999999999000000 ≤ unitsI n s ∧ unitsI n s ≤ 999999999999000000 := by
  unfold unitsI
  have e : (10 : Int) ^ (6 - s.toNat) = ((10 ^ (6 - s.toNat) : Nat) : Int) := by norm_cast
  have h := Nat.pow_le_pow_right (n := 10) (by omega) (show 6 - s.toNat ≤ 6 by omega)
  rw [e]
  generalize 10 ^ (6 - s.toNat) = q at *
  have e2 : (10 : Nat) ^ 6 = 1000000 := rfl
  obtain ⟨p, hp⟩ : ∃ p : Int, (q : Int) = p := ⟨_, rfl⟩
  have hp : p ≤ 1000000 := by omega
  have h0 : 0 ≤ p := by omega
  rw [show (q : Int) = p by assumption]
  constructor
  · have : -999999999999 * p ≤ n * p := Int.mul_le_mul_of_nonneg_right h1 h0
    omega
  · have : n * p ≤ 999999999999 * p := Int.mul_le_mul_of_nonneg_right h2 h0
    omega

set_option maxHeartbeats 800000 in
theorem units_any (n s : Int) (w : World) (h1 : -999999999999 ≤ n) (h2 : n ≤ 999999999999) (h3 : 0 ≤ s) (h4 : s ≤ 6) :
    Calls Tryz.prog 142 #[.agg #[.int .i64 n, .int .i64 s]] w fun e w' => e = .returned (.int .i64 (unitsI n s)) ∧ Below w.heap.size w w' := by
  obtain ⟨t, rfl⟩ : ∃ t : Nat, s = (t : Int) := ⟨s.toNat, by omega⟩
  have hb := units_bd h1 h2 h3 h4
  have hsub : IntKind.i64.wrap (6 - (t : Int)) = ((6 - t : Nat) : Int) := by rw [IntWalk.i64_in _ (by omega)]; omega
  obtain ⟨p, hp⟩ : ∃ p, 10 ^ (6 - t) = p := ⟨_, rfl⟩
  have hu : unitsI n t = n * (p : Int) := by
    unfold unitsI; rw [← hp, Int.toNat_natCast]; norm_cast
  rw [hu] at hb ⊢
  have HP := Lib.hid hp
  clear hp hu
  have hp2 : p ≤ 1000000 := by
    have h := Nat.pow_le_pow_right (n := 10) (by omega) (show 6 - t ≤ 6 by omega)
    rw [HP.out] at h
    have e2 : (10 : Nat) ^ 6 = 1000000 := rfl
    omega
  go_enter Tryz.func142, Tryz.ntmps142
  go_wp2_with fail
  go_region_held3 (fun w' => w'.cell? ⟨w.heap.size, 0, none⟩ = some (.int .i64 n) ∧ w'.cell? ⟨w.heap.size, 1, none⟩ = some (.int .i64 t)) (go_keep)
    (first
      | (go_at_call 141; refine (power_p (6 - t) p (by omega) HP.out _).mono ?_; rintro e w' ⟨rfl, rfl⟩))
  go_wp2_with fail
  go_ret
  refine ⟨ret_int ?_, bel⟩
  show IntKind.i64.wrap (n * IntKind.i64.wrap (p : Int)) = n * (p : Int)
  rw [IntWalk.i64_in (p : Int) (by omega), IntWalk.i64_in (n * (p : Int)) (by omega)]

set_option maxHeartbeats 800000 in
theorem all2_any (b : Nat) (n s n' s' : Int) (w : World) (hb : b < w.heap.size)
    (c0 : w.cell? ⟨b, 0, none⟩ = some (.int .i64 n)) (c1 : w.cell? ⟨b, 1, none⟩ = some (.int .i64 s)) (c2 : w.cell? ⟨b, 2, none⟩ = some (.int .i64 n')) (c3 : w.cell? ⟨b, 3, none⟩ = some (.int .i64 s'))
    (hn : I64 n) (hs : I64 s) (hn' : I64 n') (hs' : I64 s') :
    Calls Tryz.prog 140 #[.slice (some ⟨b, 0, none⟩) 2 2] w fun e w' => e = .returned (.int .i64 (okE (decSnd n s && decSnd n' s'))) ∧ Below w.heap.size w w' := by
  go_enter Tryz.func140, Tryz.ntmps140
  go_wp2_with fail
  go_loopg [7] 2 (fun k i wr => ∃ j : Nat, j ≤ 2 ∧ 2 - j ≤ k ∧ (1 ≤ j → Hid (decSnd n s = true)) ∧ (2 ≤ j → Hid (decSnd n' s' = true)) ∧ i = .int .i64 j ∧ Below w.heap.size w wr)
  case atStart => exact ⟨0, by omega, by omega, fun h => by omega, fun h => by omega, rfl, Below.refl _ _⟩
  case round =>
    obtain ⟨j, hj, hjk, g1, g2, rfl, hbel⟩ := hrel
    have hc : ∀ o, wr.cell? ⟨b, o, none⟩ = w.cell? ⟨b, o, none⟩ := fun o => hbel.cell (p := ⟨b, o, none⟩) hb
    have d0 := (hc 0).trans c0
    have d1 := (hc 1).trans c1
    have d2 := (hc 2).trans c2
    have d3 := (hc 3).trans c3
    clear hc
    have hsz := hbel.size
    have hj3 : j = 0 ∨ j = 1 ∨ j = 2 := by omega
    rcases hj3 with rfl | rfl | rfl
    · have I1 := hn
      have I2 := hs
      simp only [I64] at I1 I2
      cases hd : decSnd n s
      · have HF : Hid ((decSnd n s && decSnd n' s') = false) := by show _ = _; rw [hd]; simp
        go_wp2_with fail
        refine (decSound_any n s _ I1.1 I1.2 I2.1 I2.2).mono ?_
        rintro e w1 ⟨rfl, hb1⟩
        rw [hd]
        clear hd I1 I2
        go_wp2_with fail
        go_ret
        exact ⟨ret_int (by rw [HF.out]; rfl), bel⟩
      · have HD := Lib.hid hd
        go_wp2_with fail
        refine (decSound_any n s _ I1.1 I1.2 I2.1 I2.2).mono ?_
        rintro e w1 ⟨rfl, hb1⟩
        rw [hd]
        clear hd I1 I2
        go_wp2_with fail
        go_roundg (gk - 1)
        case measure => omega
        case rel => exact ⟨0 + 1, by omega, by omega, fun _ => HD, fun h => by omega, by go_num, bel⟩
    · have I1 := hn'
      have I2 := hs'
      simp only [I64] at I1 I2
      cases hd : decSnd n' s'
      · have HF : Hid ((decSnd n s && decSnd n' s') = false) := by show _ = _; rw [hd]; simp
        go_wp2_with fail
        refine (decSound_any n' s' _ I1.1 I1.2 I2.1 I2.2).mono ?_
        rintro e w1 ⟨rfl, hb1⟩
        rw [hd]
        clear hd I1 I2
        go_wp2_with fail
        go_ret
        exact ⟨ret_int (by rw [HF.out]; rfl), bel⟩
      · have HD := Lib.hid hd
        go_wp2_with fail
        refine (decSound_any n' s' _ I1.1 I1.2 I2.1 I2.2).mono ?_
        rintro e w1 ⟨rfl, hb1⟩
        rw [hd]
        clear hd I1 I2
        go_wp2_with fail
        go_roundg (gk - 1)
        case measure => omega
        case rel => exact ⟨1 + 1, by omega, by omega, fun _ => g1 (by omega), fun _ => HD, by go_num, bel⟩
    · have HT : Hid ((decSnd n s && decSnd n' s') = true) := by show _ = _; rw [(g1 (by omega)).out, (g2 (by omega)).out]; rfl
      go_wp2_with fail
      go_ret
      exact ⟨ret_int (by rw [HT.out]; rfl), hbel⟩

set_option maxHeartbeats 800000 in
theorem all1_any (b : Nat) (n s : Int) (w : World) (hb : b < w.heap.size)
    (c0 : w.cell? ⟨b, 0, none⟩ = some (.int .i64 n)) (c1 : w.cell? ⟨b, 1, none⟩ = some (.int .i64 s))
    (hn : I64 n) (hs : I64 s) :
    Calls Tryz.prog 140 #[.slice (some ⟨b, 0, none⟩) 1 1] w fun e w' => e = .returned (.int .i64 (okE (decSnd n s))) ∧ Below w.heap.size w w' := by
  go_enter Tryz.func140, Tryz.ntmps140
  go_wp2_with fail
  go_loopg [7] 1 (fun k i wr => ∃ j : Nat, j ≤ 1 ∧ 1 - j ≤ k ∧ (1 ≤ j → Hid (decSnd n s = true)) ∧ i = .int .i64 j ∧ Below w.heap.size w wr)
  case atStart => exact ⟨0, by omega, by omega, fun h => by omega, rfl, Below.refl _ _⟩
  case round =>
    obtain ⟨j, hj, hjk, g1, rfl, hbel⟩ := hrel
    have hc : ∀ o, wr.cell? ⟨b, o, none⟩ = w.cell? ⟨b, o, none⟩ := fun o => hbel.cell (p := ⟨b, o, none⟩) hb
    have d0 := (hc 0).trans c0
    have d1 := (hc 1).trans c1
    clear hc
    have hsz := hbel.size
    have hj3 : j = 0 ∨ j = 1 := by omega
    rcases hj3 with rfl | rfl
    · have I1 := hn
      have I2 := hs
      simp only [I64] at I1 I2
      cases hd : decSnd n s
      · have HF : Hid (decSnd n s = false) := hd
        go_wp2_with fail
        refine (decSound_any n s _ I1.1 I1.2 I2.1 I2.2).mono ?_
        rintro e w1 ⟨rfl, hb1⟩
        rw [hd]
        clear hd I1 I2
        go_wp2_with fail
        go_ret
        exact ⟨ret_int (by rw [HF.out]; rfl), bel⟩
      · have HD := Lib.hid hd
        go_wp2_with fail
        refine (decSound_any n s _ I1.1 I1.2 I2.1 I2.2).mono ?_
        rintro e w1 ⟨rfl, hb1⟩
        rw [hd]
        clear hd I1 I2
        go_wp2_with fail
        go_roundg (gk - 1)
        case measure => omega
        case rel => exact ⟨0 + 1, by omega, by omega, fun _ => HD, by go_num, bel⟩
    · have HT : Hid (decSnd n s = true) := (g1 (by omega)).out
      go_wp2_with fail
      go_ret
      exact ⟨ret_int (by rw [HT.out]; rfl), hbel⟩

theorem compareInt_eq (x y : Int) : Lib.compareInt x y = cmpI x y := by
  unfold Lib.compareInt cmpI
  rfl

def cmpRes (n s n' s' : Int) : Value := if (decSnd n s && decSnd n' s') = true then .tuple #[.int .i64 (cmpD n s n' s'), .int .i64 0] else .tuple #[.int .i64 0, .int .i64 2]
theorem cmpRes_yes {n s n' s' : Int} (h : decSnd n s = true) (h' : decSnd n' s' = true) : cmpRes n s n' s' = .tuple #[.int .i64 (cmpD n s n' s'), .int .i64 0] := by
  unfold cmpRes; rw [h, h']; rfl
theorem cmpRes_no {n s n' s' : Int} (h : (decSnd n s && decSnd n' s') = false) : cmpRes n s n' s' = .tuple #[.int .i64 0, .int .i64 2] := by
  unfold cmpRes; rw [h]; rfl

set_option maxHeartbeats 1600000 in
theorem decCmp_any (n s n' s' : Int) (w : World) (hn : I64 n) (hs : I64 s) (hn' : I64 n') (hs' : I64 s') :
    Calls Tryz.prog 205 #[.agg #[.int .i64 n, .int .i64 s], .agg #[.int .i64 n', .int .i64 s']] w fun e w' => e = .returned (cmpRes n s n' s') ∧ Below w.heap.size w w' := by
  cases hd : (decSnd n s && decSnd n' s')
  · have HF := Lib.hid (cmpRes_no hd)
    go_enter Tryz.func205, Tryz.ntmps205
    go_wp2_with fail
    refine (all2_any _ n s n' s' _ (by first | omega | (simp only [sz_alloc, sz_set, sz_drew, sz_drewN, sz_iterAt, sz_iter] at *; omega) | (simp; done) | (simp; omega) | (simp at *; omega)) (by first | (simp [go_sem]; done) | (simp [go_sem, *]; done)) (by first | (simp [go_sem]; done) | (simp [go_sem, *]; done)) (by first | (simp [go_sem]; done) | (simp [go_sem, *]; done)) (by first | (simp [go_sem]; done) | (simp [go_sem, *]; done)) hn hs hn' hs').mono ?_
    rintro e w1 ⟨rfl, hb1⟩
    rw [hd, okE_false]
    clear hd
    go_wp2_with fail
    go_ret2
    exact ⟨by rw [HF.out]; rfl, bel⟩
  · have hd2 : decSnd n s = true ∧ decSnd n' s' = true := by simpa using hd
    have HF := Lib.hid (cmpRes_yes hd2.1 hd2.2)
    obtain ⟨a1, a2, a3, a4, -⟩ := decSnd_of hd2.1
    obtain ⟨b1, b2, b3, b4, -⟩ := decSnd_of hd2.2
    go_enter Tryz.func205, Tryz.ntmps205
    go_wp2_with fail
    refine (all2_any _ n s n' s' _ (by first | omega | (simp only [sz_alloc, sz_set, sz_drew, sz_drewN, sz_iterAt, sz_iter] at *; omega) | (simp; done) | (simp; omega) | (simp at *; omega)) (by first | (simp [go_sem]; done) | (simp [go_sem, *]; done)) (by first | (simp [go_sem]; done) | (simp [go_sem, *]; done)) (by first | (simp [go_sem]; done) | (simp [go_sem, *]; done)) (by first | (simp [go_sem]; done) | (simp [go_sem, *]; done)) hn hs hn' hs').mono ?_
    rintro e w1 ⟨rfl, hb1⟩
    rw [hd, okE_true]
    clear hd hd2 hn hs hn' hs'
    have hz1 := hb1.size
    try simp at hz1
    obtain ⟨q1_0, l1_0, r1_0⟩ := aft hb1 (w.heap.size)
    obtain ⟨q1_1, l1_1, r1_1⟩ := aft hb1 (w.heap.size + 1)
    go_wp2_with fail
    have kk0 : w1.cell? ⟨w.heap.size, 0, none⟩ = some (.int .i64 n) := cel
    have kk1 : w1.cell? ⟨w.heap.size, 1, none⟩ = some (.int .i64 s) := cel
    have kk2 : w1.cell? ⟨w.heap.size + 1, 0, none⟩ = some (.int .i64 n') := cel
    have kk3 : w1.cell? ⟨w.heap.size + 1, 1, none⟩ = some (.int .i64 s') := cel
    go_region_held3 (fun w' => Below w1.heap.size w1 w' ∧ w'.cell? ⟨w.heap.size, 0, none⟩ = some (.int .i64 n) ∧ w'.cell? ⟨w.heap.size, 1, none⟩ = some (.int .i64 s) ∧ w'.cell? ⟨w.heap.size + 1, 0, none⟩ = some (.int .i64 n') ∧ w'.cell? ⟨w.heap.size + 1, 1, none⟩ = some (.int .i64 s')) ((refine and_keep ?_ (fun hk => ⟨keep_cell hk l1_0 kk0, keep_cell hk l1_0 kk1, keep_cell hk l1_1 kk2, keep_cell hk l1_1 kk3⟩); exact bel))
      (first
        | (go_at_call 142; refine (units_any _ _ _ (by omega) (by omega) (by omega) (by omega)).mono ?_; rintro e w' ⟨rfl, hb'⟩)
        | (go_at_call 126; refine (Tryz.cmp_Compare_int _ _ _).mono ?_; rintro e w' ⟨rfl, rfl⟩))
    rw [compareInt_eq]
    go_wp2_with fail
    go_ret2
    exact ⟨by rw [HF.out]; rfl, bel⟩
end Go.Proofs.YtankkadnhdfpfaaGreatDoor

/- soffit/value.Sound, walked. -/
set_option linter.unusedSimpArgs false
set_option linter.unusedVariables false
namespace Go.Proofs.YtankkadnhdfpfaaGreatDoor
open Go.RowKit

set_option maxRecDepth 100000 in
set_option maxHeartbeats 800000 in
theorem vSound0 (v : Vl) (w : World) (hv : v.wf) (hE : Env w) (hk : v.k = 0) :
    Calls Tryz.prog 98 #[.agg #[.int .i64 v.k, .int .i64 v.n, .int .i64 v.s, .string v.t, .int .i64 v.i]] w fun e w' =>
      e = .returned (.bool (sndB v)) ∧ Below w.heap.size w w' := by
  obtain ⟨k, n, s, t, i⟩ := v
  simp only at hk
  subst hk
  obtain ⟨B, hB⟩ : ∃ B, sndB ⟨0, n, s, t, i⟩ = B := ⟨_, rfl⟩
  rw [hB]
  have HS : Hid (B = decide (n = 0 ∧ s = 0 ∧ t.toList = [] ∧ i = 0)) := hB.symm
  clear hB
  go_enter Tryz.func98, Tryz.ntmps98
  go_wp2_with fail
  all_goals go_ret
  all_goals exact ⟨ret_bool (by first | (rw [HS.out]; done) | (rw [HS.out]; simp [*]; done) | (rw [HS.out]; simp; omega) | (rw [HS.out]; simp [*]; omega) | (rw [HS.out]; simp only [List.isEmpty_iff, List.isEmpty_eq_false_iff] at *; simp [*]; done) | (rw [HS.out]; simp only [List.isEmpty_iff, List.isEmpty_eq_false_iff] at *; simp [*]; omega) | (rw [HS.out, Bool.eq_iff_iff]; simp only [List.isEmpty_iff, List.isEmpty_eq_false_iff] at *; simp [*]; done) | (exfalso; omega)), bel⟩

set_option maxRecDepth 100000 in
set_option maxHeartbeats 800000 in
theorem vSound1 (v : Vl) (w : World) (hv : v.wf) (hE : Env w) (hk : v.k = 1) :
    Calls Tryz.prog 98 #[.agg #[.int .i64 v.k, .int .i64 v.n, .int .i64 v.s, .string v.t, .int .i64 v.i]] w fun e w' =>
      e = .returned (.bool (sndB v)) ∧ Below w.heap.size w w' := by
  obtain ⟨k, n, s, t, i⟩ := v
  simp only at hk
  subst hk
  have hn := hv.n
  have hs := hv.s
  clear hv
  simp only [I64] at hn hs
  obtain ⟨hn1, hn2⟩ := hn
  obtain ⟨hs1, hs2⟩ := hs
  obtain ⟨B, hB⟩ : ∃ B, sndB ⟨1, n, s, t, i⟩ = B := ⟨_, rfl⟩
  rw [hB]
  have HS : Hid (B = (decide (t.toList = [] ∧ i = 0) && decSnd n s)) := hB.symm
  clear hB
  by_cases ht : t.toList = [] ∧ i = 0
  · obtain ⟨ht, rfl⟩ := ht
    have HT : Hid (B = decSnd n s) := by show B = _; rw [HS.out]; simp [ht]
    go_enter Tryz.func98, Tryz.ntmps98
    go_wp2_with fail
    refine (decSound_any n s _ hn1 hn2 hs1 hs2).mono ?_
    rintro e w1 ⟨rfl, hb1⟩
    rw [← HT.out]
    go_wp2_with fail
    all_goals go_ret
    all_goals exact ⟨ret_bool (by first | rfl | (simp [*]; done) | (exfalso; omega)), bel⟩
  · have HT : Hid (B = false) := by show B = _; rw [HS.out]; simp only [ht]; rfl
    go_enter Tryz.func98, Tryz.ntmps98
    go_wp2_with fail
    all_goals try (refine (decSound_any n s _ hn1 hn2 hs1 hs2).mono ?_; exfalso; simp_all; done)
    all_goals go_ret
    all_goals exact ⟨ret_bool (by first | (rw [HT.out]; done) | (rw [HT.out]; simp [*]; done) | (rw [HT.out]; simp; omega) | (rw [HT.out]; simp [*]; omega) | (rw [HT.out]; simp only [List.isEmpty_iff, List.isEmpty_eq_false_iff] at *; simp [*]; done) | (rw [HT.out]; simp only [List.isEmpty_iff, List.isEmpty_eq_false_iff] at *; simp [*]; omega) | (rw [HT.out, Bool.eq_iff_iff]; simp only [List.isEmpty_iff, List.isEmpty_eq_false_iff] at *; simp [*]; done) | (exfalso; omega)), bel⟩

set_option maxRecDepth 100000 in
set_option maxHeartbeats 800000 in
theorem vSound2 (v : Vl) (w : World) (hv : v.wf) (hE : Env w) (hk : v.k = 2) :
    Calls Tryz.prog 98 #[.agg #[.int .i64 v.k, .int .i64 v.n, .int .i64 v.s, .string v.t, .int .i64 v.i]] w fun e w' =>
      e = .returned (.bool (sndB v)) ∧ Below w.heap.size w w' := by
  obtain ⟨k, n, s, t, i⟩ := v
  simp only at hk
  subst hk
  have ht := hv.t
  simp only at ht
  clear hv
  obtain ⟨B, hB⟩ : ∃ B, sndB ⟨2, n, s, t, i⟩ = B := ⟨_, rfl⟩
  rw [hB]
  have HS : Hid (B = (decide (n = 0 ∧ s = 0 ∧ i = 0 ∧ t.size ≤ 256) && goodB t)) := hB.symm
  clear hB
  by_cases h0 : n = 0 ∧ s = 0 ∧ i = 0 ∧ t.size ≤ 256
  · obtain ⟨rfl, rfl, rfl, hz⟩ := h0
    have HT : Hid (B = goodB t) := by show B = _; rw [HS.out]; simp [hz]
    go_enter Tryz.func98, Tryz.ntmps98
    go_wp2_with fail
    refine (good_any t _ ht (hE.below bel)).mono ?_
    rintro e w1 ⟨rfl, hb1⟩
    rw [← HT.out]
    go_wp2_with fail
    all_goals go_ret
    all_goals exact ⟨ret_bool (by first | rfl | (simp [*]; done) | (exfalso; omega)), bel⟩
  · have HT : Hid (B = false) := by show B = _; rw [HS.out]; simp only [h0]; rfl
    clear HS
    go_enter Tryz.func98, Tryz.ntmps98
    go_wp2_with fail
    all_goals go_ret
    all_goals exact ⟨ret_bool (by first | (rw [HT.out]; done) | (rw [HT.out]; simp [*]; done) | (rw [HT.out]; simp; omega) | (rw [HT.out]; simp [*]; omega) | (rw [HT.out]; simp only [List.isEmpty_iff, List.isEmpty_eq_false_iff] at *; simp [*]; done) | (rw [HT.out]; simp only [List.isEmpty_iff, List.isEmpty_eq_false_iff] at *; simp [*]; omega) | (rw [HT.out, Bool.eq_iff_iff]; simp only [List.isEmpty_iff, List.isEmpty_eq_false_iff] at *; simp [*]; done) | (exfalso; omega)), bel⟩

set_option maxRecDepth 100000 in
set_option maxHeartbeats 800000 in
theorem vSound3 (v : Vl) (w : World) (hv : v.wf) (hE : Env w) (hk : v.k = 3) :
    Calls Tryz.prog 98 #[.agg #[.int .i64 v.k, .int .i64 v.n, .int .i64 v.s, .string v.t, .int .i64 v.i]] w fun e w' =>
      e = .returned (.bool (sndB v)) ∧ Below w.heap.size w w' := by
  obtain ⟨k, n, s, t, i⟩ := v
  simp only at hk
  subst hk
  obtain ⟨B, hB⟩ : ∃ B, sndB ⟨3, n, s, t, i⟩ = B := ⟨_, rfl⟩
  rw [hB]
  have HS : Hid (B = decide (n = 0 ∧ s = 0 ∧ t.toList = [] ∧ (i = 0 ∨ i = 1))) := hB.symm
  clear hB
  have hand := i64_and1 i
  by_cases h0 : i = 0
  · subst h0
    clear hand
    have hand : bits .and .i64 0 1 = 0 := i64_and1 0
    have HT : Hid (B = decide (n = 0 ∧ s = 0 ∧ t.toList = [])) := by show B = _; rw [HS.out]; simp
    clear HS
    go_enter Tryz.func98, Tryz.ntmps98
    go_wp2_with fail
    all_goals go_ret
    all_goals exact ⟨ret_bool (by first | (rw [HT.out]; done) | (rw [HT.out]; simp [*]; done) | (rw [HT.out]; simp; omega) | (rw [HT.out]; simp [*]; omega) | (rw [HT.out]; simp only [List.isEmpty_iff, List.isEmpty_eq_false_iff] at *; simp [*]; done) | (rw [HT.out]; simp only [List.isEmpty_iff, List.isEmpty_eq_false_iff] at *; simp [*]; omega) | (rw [HT.out, Bool.eq_iff_iff]; simp only [List.isEmpty_iff, List.isEmpty_eq_false_iff] at *; simp [*]; done) | (exfalso; omega)), bel⟩
  · by_cases h1 : i = 1
    · subst h1
      clear hand
      have hand : bits .and .i64 1 1 = 1 := i64_and1 1
      have HT : Hid (B = decide (n = 0 ∧ s = 0 ∧ t.toList = [])) := by show B = _; rw [HS.out]; simp
      clear HS
      go_enter Tryz.func98, Tryz.ntmps98
      go_wp2_with fail
      all_goals go_ret
      all_goals exact ⟨ret_bool (by first | (rw [HT.out]; done) | (rw [HT.out]; simp [*]; done) | (rw [HT.out]; simp; omega) | (rw [HT.out]; simp [*]; omega) | (rw [HT.out]; simp only [List.isEmpty_iff, List.isEmpty_eq_false_iff] at *; simp [*]; done) | (rw [HT.out]; simp only [List.isEmpty_iff, List.isEmpty_eq_false_iff] at *; simp [*]; omega) | (rw [HT.out, Bool.eq_iff_iff]; simp only [List.isEmpty_iff, List.isEmpty_eq_false_iff] at *; simp [*]; done) | (exfalso; omega)), bel⟩
    · have hne : ¬ (i = i % 2) := by omega
      have HT : Hid (B = false) := by show B = _; rw [HS.out]; simp [h0, h1]
      clear HS h0 h1
      go_enter Tryz.func98, Tryz.ntmps98
      go_wp2_with fail
      all_goals go_ret
      all_goals exact ⟨ret_bool (by first | (rw [HT.out]; done) | (rw [HT.out]; simp [*]; done) | (rw [HT.out]; simp; omega) | (rw [HT.out]; simp [*]; omega) | (rw [HT.out]; simp only [List.isEmpty_iff, List.isEmpty_eq_false_iff] at *; simp [*]; done) | (rw [HT.out]; simp only [List.isEmpty_iff, List.isEmpty_eq_false_iff] at *; simp [*]; omega) | (rw [HT.out, Bool.eq_iff_iff]; simp only [List.isEmpty_iff, List.isEmpty_eq_false_iff] at *; simp [*]; done) | (exfalso; omega)), bel⟩

set_option maxRecDepth 100000 in
set_option maxHeartbeats 800000 in
theorem vSound4 (v : Vl) (w : World) (hv : v.wf) (hE : Env w) (hk : v.k = 4) :
    Calls Tryz.prog 98 #[.agg #[.int .i64 v.k, .int .i64 v.n, .int .i64 v.s, .string v.t, .int .i64 v.i]] w fun e w' =>
      e = .returned (.bool (sndB v)) ∧ Below w.heap.size w w' := by
  obtain ⟨k, n, s, t, i⟩ := v
  simp only at hk
  subst hk
  obtain ⟨B, hB⟩ : ∃ B, sndB ⟨4, n, s, t, i⟩ = B := ⟨_, rfl⟩
  rw [hB]
  have HS : Hid (B = decide (n = 0 ∧ s = 0 ∧ t.toList = [] ∧ 0 ≤ i ∧ i ≤ 3652058)) := hB.symm
  clear hB
  by_cases h0 : i < 0
  · have HT : Hid (B = false) := by
      show B = _; rw [HS.out]; rw [decide_eq_false_iff_not]; omega
    clear HS
    go_enter Tryz.func98, Tryz.ntmps98
    go_wp2_with fail
    all_goals go_ret
    all_goals exact ⟨ret_bool (by first | (rw [HT.out]; done) | (rw [HT.out]; simp [*]; done) | (rw [HT.out]; simp; omega) | (rw [HT.out]; simp [*]; omega) | (rw [HT.out]; simp only [List.isEmpty_iff, List.isEmpty_eq_false_iff] at *; simp [*]; done) | (rw [HT.out]; simp only [List.isEmpty_iff, List.isEmpty_eq_false_iff] at *; simp [*]; omega) | (rw [HT.out, Bool.eq_iff_iff]; simp only [List.isEmpty_iff, List.isEmpty_eq_false_iff] at *; simp [*]; done) | (exfalso; omega)), bel⟩
  · by_cases h1 : 3652058 < i
    · have HT : Hid (B = false) := by
        show B = _; rw [HS.out]; rw [decide_eq_false_iff_not]; omega
      clear HS
      go_enter Tryz.func98, Tryz.ntmps98
      go_wp2_with fail
      all_goals go_ret
      all_goals exact ⟨ret_bool (by first | (rw [HT.out]; done) | (rw [HT.out]; simp [*]; done) | (rw [HT.out]; simp; omega) | (rw [HT.out]; simp [*]; omega) | (rw [HT.out]; simp only [List.isEmpty_iff, List.isEmpty_eq_false_iff] at *; simp [*]; done) | (rw [HT.out]; simp only [List.isEmpty_iff, List.isEmpty_eq_false_iff] at *; simp [*]; omega) | (rw [HT.out, Bool.eq_iff_iff]; simp only [List.isEmpty_iff, List.isEmpty_eq_false_iff] at *; simp [*]; done) | (exfalso; omega)), bel⟩
    · have h2 : 0 ≤ i := by omega
      have h3 : i ≤ 3652058 := by omega
      have HT : Hid (B = decide (n = 0 ∧ s = 0 ∧ t.toList = [])) := by show B = _; rw [HS.out, decide_eq_decide]; simp [h2, h3]
      clear HS h0 h1
      go_enter Tryz.func98, Tryz.ntmps98
      go_wp2_with fail
      go_ways
      all_goals go_ret
      all_goals exact ⟨ret_bool (by first | (rw [HT.out]; done) | (rw [HT.out]; simp [*]; done) | (rw [HT.out]; simp; omega) | (rw [HT.out]; simp [*]; omega) | (rw [HT.out]; simp only [List.isEmpty_iff, List.isEmpty_eq_false_iff] at *; simp [*]; done) | (rw [HT.out]; simp only [List.isEmpty_iff, List.isEmpty_eq_false_iff] at *; simp [*]; omega) | (rw [HT.out, Bool.eq_iff_iff]; simp only [List.isEmpty_iff, List.isEmpty_eq_false_iff] at *; simp [*]; done) | (exfalso; omega)), bel⟩

set_option maxHeartbeats 800000 in
theorem vSound5 (v : Vl) (w : World) (hv : v.wf) (hE : Env w) (h0 : ¬ v.k = 0) (h1 : ¬ v.k = 1) (h2 : ¬ v.k = 2) (h3 : ¬ v.k = 3) (h4 : ¬ v.k = 4) :
    Calls Tryz.prog 98 #[.agg #[.int .i64 v.k, .int .i64 v.n, .int .i64 v.s, .string v.t, .int .i64 v.i]] w fun e w' =>
      e = .returned (.bool (sndB v)) ∧ Below w.heap.size w w' := by
  obtain ⟨k, n, s, t, i⟩ := v
  simp only at h0 h1 h2 h3 h4
  have e0 : (k == 0) = false := by simp [h0]
  have e1 : (k == 1) = false := by simp [h1]
  have e2 : (k == 2) = false := by simp [h2]
  have e3 : (k == 3) = false := by simp [h3]
  have e4 : (k == 4) = false := by simp [h4]
  obtain ⟨B, hB⟩ : ∃ B, sndB ⟨k, n, s, t, i⟩ = B := ⟨_, rfl⟩
  rw [hB]
  have HS : Hid (B = false) := by show B = _; rw [← hB]; simp only [sndB, h0, h1, h2, h3, h4, if_false]
  clear hB
  clear h0 h1 h2 h3 h4
  go_enter Tryz.func98, Tryz.ntmps98
  go_wp2_with fail
  all_goals go_ret
  all_goals exact ⟨ret_bool (by first | (rw [HS.out]; done) | (rw [HS.out]; simp [*]; done) | (rw [HS.out]; simp; omega) | (rw [HS.out]; simp [*]; omega) | (rw [HS.out]; simp only [List.isEmpty_iff, List.isEmpty_eq_false_iff] at *; simp [*]; done) | (rw [HS.out]; simp only [List.isEmpty_iff, List.isEmpty_eq_false_iff] at *; simp [*]; omega) | (rw [HS.out, Bool.eq_iff_iff]; simp only [List.isEmpty_iff, List.isEmpty_eq_false_iff] at *; simp [*]; done) | (exfalso; omega)), bel⟩

theorem vSound_any (v : Vl) (w : World) (hv : v.wf) (hE : Env w) :
    Calls Tryz.prog 98 #[.agg #[.int .i64 v.k, .int .i64 v.n, .int .i64 v.s, .string v.t, .int .i64 v.i]] w fun e w' =>
      e = .returned (.bool (sndB v)) ∧ Below w.heap.size w w' := by
  by_cases h0 : v.k = 0
  · exact vSound0 v w hv hE h0
  by_cases h1 : v.k = 1
  · exact vSound1 v w hv hE h1
  by_cases h2 : v.k = 2
  · exact vSound2 v w hv hE h2
  by_cases h3 : v.k = 3
  · exact vSound3 v w hv hE h3
  by_cases h4 : v.k = 4
  · exact vSound4 v w hv hE h4
  exact vSound5 v w hv hE h0 h1 h2 h3 h4
end Go.Proofs.YtankkadnhdfpfaaGreatDoor

/- Is a value of a kind and a scale? plain. -/
set_option linter.unusedSimpArgs false
set_option linter.unusedVariables false
namespace Go.Proofs.YtankkadnhdfpfaaGreatDoor
def fitB (v : Vl) (k s : Int) : Bool := sndB v && (v.k == 0 || (v.k == k && (k != 1 || decide (v.s ≤ s))))
end Go.Proofs.YtankkadnhdfpfaaGreatDoor

/- soffit/value.Fits, walked. -/
set_option linter.unusedSimpArgs false
set_option linter.unusedVariables false
namespace Go.Proofs.YtankkadnhdfpfaaGreatDoor
open Go.RowKit Go.Sort Go.Lib

set_option maxRecDepth 100000 in
set_option maxHeartbeats 3200000 in
theorem vFits_any (v : Vl) (k s : Int) (w : World) (hv : v.wf) (hE : Env w) :
    Calls Tryz.prog 97 #[.agg #[.int .i64 v.k, .int .i64 v.n, .int .i64 v.s, .string v.t, .int .i64 v.i], .int .i64 k, .int .i64 s] w fun e w' => e = .returned (.bool (fitB v k s)) ∧ Below w.heap.size w w' := by
  obtain ⟨B, hB⟩ : ∃ B, fitB v k s = B := ⟨_, rfl⟩
  rw [hB]
  unfold fitB at hB
  cases hs : sndB v
  · rw [hs] at hB
    have HB := Lib.hid hB
    clear hB
    go_enter Tryz.func97, Tryz.ntmps97
    go_wp2_with fail
    refine (vSound_any v _ hv (hE.below bel)).mono ?_
    rintro e w1 ⟨rfl, hb1⟩
    rw [hs]
    clear hs
    go_wp2_with fail
    go_ret
    exact ⟨ret_bool (by rw [← HB.out]; rfl), bel⟩
  · rw [hs] at hB
    cases e0 : (v.k == 0)
    · cases e1 : (v.k == k)
      · rw [e0, e1] at hB
        have HB := Lib.hid hB
        clear hB
        go_enter Tryz.func97, Tryz.ntmps97
        go_wp2_with fail
        refine (vSound_any v _ hv (hE.below bel)).mono ?_
        rintro e w1 ⟨rfl, hb1⟩
        rw [hs]
        clear hs
        have hz1 := hb1.size
        try simp at hz1
        obtain ⟨q1_0, l1_0, r1_0⟩ := aft hb1 (w.heap.size)
        go_wp2_with fail
        go_ret
        exact ⟨ret_bool (by rw [← HB.out]; simp), bel⟩
      · cases e2 : (k != 1)
        · rw [e0, e1, e2] at hB
          have HB := Lib.hid hB
          clear hB
          go_enter Tryz.func97, Tryz.ntmps97
          go_wp2_with fail
          refine (vSound_any v _ hv (hE.below bel)).mono ?_
          rintro e w1 ⟨rfl, hb1⟩
          rw [hs]
          clear hs
          have hz1 := hb1.size
          try simp at hz1
          obtain ⟨q1_0, l1_0, r1_0⟩ := aft hb1 (w.heap.size)
          go_wp2_with fail
          go_ret
          exact ⟨ret_bool (by rw [← HB.out]; simp), bel⟩
        · rw [e0, e1, e2] at hB
          have HB := Lib.hid hB
          clear hB
          go_enter Tryz.func97, Tryz.ntmps97
          go_wp2_with fail
          refine (vSound_any v _ hv (hE.below bel)).mono ?_
          rintro e w1 ⟨rfl, hb1⟩
          rw [hs]
          clear hs
          have hz1 := hb1.size
          try simp at hz1
          obtain ⟨q1_0, l1_0, r1_0⟩ := aft hb1 (w.heap.size)
          go_wp2_with fail
          go_ret
          exact ⟨ret_bool (by rw [← HB.out]; simp), bel⟩
    · rw [e0] at hB
      have HB := Lib.hid hB
      clear hB
      go_enter Tryz.func97, Tryz.ntmps97
      go_wp2_with fail
      refine (vSound_any v _ hv (hE.below bel)).mono ?_
      rintro e w1 ⟨rfl, hb1⟩
      rw [hs]
      clear hs
      have hz1 := hb1.size
      try simp at hz1
      obtain ⟨q1_0, l1_0, r1_0⟩ := aft hb1 (w.heap.size)
      go_wp2_with fail
      go_ret
      exact ⟨ret_bool (by rw [← HB.out]; simp), bel⟩
end Go.Proofs.YtankkadnhdfpfaaGreatDoor

/- Comparisons: cmp.Compare[string], cmp.Or[int], soffit/value.order. -/
set_option linter.unusedSimpArgs false
set_option linter.unusedVariables false
namespace Go.Proofs.YtankkadnhdfpfaaGreatDoor
open Go.RowKit

def cmpT (a b : ByteArray) : Int := if Op.bytesLess a.toList b.toList = true then -1 else if (a.toList == b.toList) = true then 0 else 1

set_option maxHeartbeats 400000 in
theorem isNaN_string (a : ByteArray) (w : World) : Calls Tryz.prog 203 #[.string a] w fun e w' => e = .returned (.bool false) ∧ w = w' := by
  go_enter Tryz.func203, Tryz.ntmps203
  go_wp2_with fail
  go_ret
  exact ⟨ret_bool (by simp), rfl⟩

set_option maxHeartbeats 400000 in
theorem cmpT_any (a b : ByteArray) (w : World) : Calls Tryz.prog 207 #[.string a, .string b] w fun e w' => e = .returned (.int .i64 (cmpT a b)) ∧ w = w' := by
  obtain ⟨C, hC⟩ : ∃ C, cmpT a b = C := ⟨_, rfl⟩
  rw [hC]
  have HC : Hid (C = if Op.bytesLess a.toList b.toList = true then -1 else if (a.toList == b.toList) = true then 0 else 1) := hC.symm
  clear hC
  go_enter Tryz.func207, Tryz.ntmps207
  go_wp2_with fail
  refine (isNaN_string a _).mono ?_
  rintro e w1 ⟨rfl, rfl⟩
  go_wp2_with fail
  refine (isNaN_string b _).mono ?_
  rintro e w1 ⟨rfl, rfl⟩
  go_wp2_with fail
  all_goals go_ret
  all_goals refine ⟨ret_int ?_, rfl⟩
  all_goals (rw [HC.out]; simp_all; done)

def orI (x y : Int) : Int := if x = 0 then y else x
set_option maxHeartbeats 400000 in
theorem or2_any (b : Nat) (x y : Int) (w : World) (hb : b < w.heap.size) (c0 : w.cell? ⟨b, 0, none⟩ = some (.int .i64 x)) (c1 : w.cell? ⟨b, 1, none⟩ = some (.int .i64 y)) :
    Calls Tryz.prog 206 #[.slice (some ⟨b, 0, none⟩) 2 2] w fun e w' => e = .returned (.int .i64 (orI x y)) ∧ w = w' := by
  obtain ⟨R, hR⟩ : ∃ R, orI x y = R := ⟨_, rfl⟩
  rw [hR]
  have HR : Hid (R = if x = 0 then y else x) := hR.symm
  clear hR
  go_enter Tryz.func206, Tryz.ntmps206
  go_wp2_with fail
  go_loopg [8] 2 (fun k i wr => ∃ j : Nat, j ≤ 2 ∧ 2 - j ≤ k ∧ (1 ≤ j → Hid (x = 0)) ∧ (2 ≤ j → Hid (y = 0)) ∧ i = .int .i64 j ∧ w = wr)
  case atStart => exact ⟨0, by omega, by omega, fun h => by omega, fun h => by omega, rfl, rfl⟩
  case round =>
    obtain ⟨j, hj, hjk, g1, g2, rfl, rfl⟩ := hrel
    have hj3 : j = 0 ∨ j = 1 ∨ j = 2 := by omega
    rcases hj3 with rfl | rfl | rfl
    · by_cases hx : x = 0
      · have HX := Lib.hid hx
        have e : (x != 0) = false := by simp [hx]
        clear hx
        go_wp2_with fail
        go_roundg (gk - 1)
        case measure => omega
        case rel => exact ⟨0 + 1, by omega, by omega, fun _ => HX, fun h => by omega, by go_num, rfl⟩
      · have HX := Lib.hid hx
        have e : (x != 0) = true := by simp [hx]
        clear hx
        go_wp2_with fail
        go_ret
        exact ⟨ret_int (by rw [HR.out, if_neg HX.out]), rfl⟩
    · have HX := g1 (by omega)
      by_cases hy : y = 0
      · have HY := Lib.hid hy
        have e : (y != 0) = false := by simp [hy]
        clear hy
        go_wp2_with fail
        go_roundg (gk - 1)
        case measure => omega
        case rel => exact ⟨1 + 1, by omega, by omega, fun _ => HX, fun _ => HY, by go_num, rfl⟩
      · have e : (y != 0) = true := by simp [hy]
        clear hy
        go_wp2_with fail
        go_ret
        exact ⟨ret_int (by rw [HR.out, if_pos HX.out]), rfl⟩
    · have HX := g1 (by omega)
      have HY := g2 (by omega)
      go_wp2_with fail
      go_ret
      exact ⟨ret_int (by rw [HR.out, if_pos HX.out, HY.out]), rfl⟩

def cmpV (a b : Vl) : Int :=
  if a.k = b.k then (if a.k = 1 then cmpD a.n a.s b.n b.s else orI (cmpT a.t b.t) (cmpI a.i b.i)) else cmpI a.k b.k

theorem sndB_dec {v : Vl} (h : sndB v = true) (hk : v.k = 1) : decSnd v.n v.s = true := by
  unfold sndB at h
  rw [if_neg (by omega), if_pos hk] at h
  simp only [Bool.and_eq_true] at h
  exact h.2

set_option maxHeartbeats 1600000 in
theorem order_any (a b : Vl) (w : World) (ha : a.wf) (hb : b.wf) (sa : sndB a = true) (sb : sndB b = true) :
    Calls Tryz.prog 190 #[.agg #[.int .i64 a.k, .int .i64 a.n, .int .i64 a.s, .string a.t, .int .i64 a.i], .agg #[.int .i64 b.k, .int .i64 b.n, .int .i64 b.s, .string b.t, .int .i64 b.i]] w fun e w' =>
      e = .returned (.int .i64 (cmpV a b)) ∧ Below w.heap.size w w' := by
  obtain ⟨C, hC⟩ : ∃ C, cmpV a b = C := ⟨_, rfl⟩
  rw [hC]
  by_cases hk : a.k = b.k
  · have e1 : (a.k != b.k) = false := by simp [hk]
    by_cases h1 : a.k = 1
    · have HC : Hid (C = cmpD a.n a.s b.n b.s) := by rw [← hC]; unfold cmpV; rw [if_pos hk, if_pos h1]; exact rfl
      have HM := Lib.hid (cmpRes_yes (sndB_dec sa h1) (sndB_dec sb (by omega)))
      have I1 := ha.n
      have I2 := ha.s
      have I3 := hb.n
      have I4 := hb.s
      have e2 : (a.k == 1) = true := by simp [h1]
      clear hk h1 hC sa sb ha hb
      go_enter Tryz.func190, Tryz.ntmps190
      go_wp2_with fail
      refine (decCmp_any _ _ _ _ _ I1 I2 I3 I4).mono ?_
      rintro e w1 ⟨rfl, hb1⟩
      rw [HM.out]
      go_wp2_with fail
      go_ret
      exact ⟨ret_int HC.out.symm, bel⟩
    · have HC : Hid (C = orI (cmpT a.t b.t) (cmpI a.i b.i)) := by rw [← hC]; unfold cmpV; rw [if_pos hk, if_neg h1]; exact rfl
      have e2 : (a.k == 1) = false := by simp [h1]
      clear hk h1 hC sa sb ha hb
      go_enter Tryz.func190, Tryz.ntmps190
      go_wp2_with fail
      generalize hEW0 : (w.alloc _).alloc _ = W0
      have hbW0 : Below w.heap.size w W0 := (by rw [← hEW0]; exact bel)
      have lW0_0 : w.heap.size < W0.heap.size := lsz hEW0
      have qW0_0 : ∀ o, W0.cell? ⟨w.heap.size, o, none⟩ = _ := fun o => congrArg (fun W : World => W.cell? ⟨w.heap.size, o, none⟩) hEW0.symm
      have rW0_0 : ∀ o, W0.frozen? ⟨w.heap.size, o, none⟩ = _ := fun o => congrArg (fun W : World => W.frozen? ⟨w.heap.size, o, none⟩) hEW0.symm
      have lW0_1 : w.heap.size + 1 < W0.heap.size := lsz hEW0
      have qW0_1 : ∀ o, W0.cell? ⟨w.heap.size + 1, o, none⟩ = _ := fun o => congrArg (fun W : World => W.cell? ⟨w.heap.size + 1, o, none⟩) hEW0.symm
      have rW0_1 : ∀ o, W0.frozen? ⟨w.heap.size + 1, o, none⟩ = _ := fun o => congrArg (fun W : World => W.frozen? ⟨w.heap.size + 1, o, none⟩) hEW0.symm
      clear hEW0
      have kk0 : W0.cell? ⟨w.heap.size, 3, none⟩ = some (.string a.t) := cel
      have kk1 : W0.cell? ⟨w.heap.size, 4, none⟩ = some (.int .i64 a.i) := cel
      have kk2 : W0.cell? ⟨w.heap.size + 1, 3, none⟩ = some (.string b.t) := cel
      have kk3 : W0.cell? ⟨w.heap.size + 1, 4, none⟩ = some (.int .i64 b.i) := cel
      go_region_held3 (fun w' => Below W0.heap.size W0 w' ∧ w'.cell? ⟨w.heap.size, 3, none⟩ = some (.string a.t) ∧ w'.cell? ⟨w.heap.size, 4, none⟩ = some (.int .i64 a.i) ∧ w'.cell? ⟨w.heap.size + 1, 3, none⟩ = some (.string b.t) ∧ w'.cell? ⟨w.heap.size + 1, 4, none⟩ = some (.int .i64 b.i)) ((refine and_keep ?_ (fun hk => ⟨keep_cell hk lW0_0 kk0, keep_cell hk lW0_0 kk1, keep_cell hk lW0_1 kk2, keep_cell hk lW0_1 kk3⟩); exact bel))
        (first
          | (go_at_call 207; refine (cmpT_any _ _ _).mono ?_; rintro e w' ⟨rfl, rfl⟩)
          | (go_at_call 126; refine (Tryz.cmp_Compare_int _ _ _).mono ?_; rintro e w' ⟨rfl, rfl⟩)
          | (go_at_call 206; refine (or2_any _ (cmpT a.t b.t) (Lib.compareInt a.i b.i) _ (by first | omega | (simp only [sz_alloc, sz_set, sz_drew, sz_drewN, sz_iterAt, sz_iter] at *; omega) | (simp; done) | (simp; omega) | (simp at *; omega)) (by first | (simp [go_sem]; done) | (simp [go_sem, *]; done)) (by first | (simp [go_sem]; done) | (simp [go_sem, *]; done))).mono ?_; rintro e w' ⟨rfl, rfl⟩))
      rw [compareInt_eq]
      go_wp2_with fail
      go_ret
      exact ⟨ret_int HC.out.symm, bel⟩
  · have HC : Hid (C = cmpI a.k b.k) := by rw [← hC]; unfold cmpV; rw [if_neg hk]; exact rfl
    have e1 : (a.k != b.k) = true := by simp [hk]
    clear hk hC sa sb ha hb
    go_enter Tryz.func190, Tryz.ntmps190
    go_wp2_with fail
    refine (Tryz.cmp_Compare_int _ _ _).mono ?_
    rintro e w' ⟨rfl, rfl⟩
    rw [compareInt_eq]
    go_wp2_with fail
    go_ret
    exact ⟨ret_int HC.out.symm, bel⟩
def cmpVRes (a b : Vl) : Value := if (sndB a && sndB b) = true then .tuple #[.int .i64 (cmpV a b), .int .i64 0] else .tuple #[.int .i64 0, .int .i64 2]
end Go.Proofs.YtankkadnhdfpfaaGreatDoor

/- Comparisons: soffit/value.Compare. -/
set_option linter.unusedSimpArgs false
set_option linter.unusedVariables false
namespace Go.Proofs.YtankkadnhdfpfaaGreatDoor
open Go.RowKit

set_option maxHeartbeats 1600000 in
theorem vCompare_any (a b : Vl) (w : World) (ha : a.wf) (hb : b.wf) (hE : Env w) :
    Calls Tryz.prog 164 #[.agg #[.int .i64 a.k, .int .i64 a.n, .int .i64 a.s, .string a.t, .int .i64 a.i], .agg #[.int .i64 b.k, .int .i64 b.n, .int .i64 b.s, .string b.t, .int .i64 b.i]] w fun e w' =>
      e = .returned (cmpVRes a b) ∧ Below w.heap.size w w' := by
  obtain ⟨C, hC⟩ : ∃ C, cmpVRes a b = C := ⟨_, rfl⟩
  rw [hC]
  cases sa : sndB a
  · have HC : Hid (C = .tuple #[.int .i64 0, .int .i64 2]) := by rw [← hC]; unfold cmpVRes; rw [sa]; exact rfl
    clear hC
    go_enter Tryz.func164, Tryz.ntmps164
    go_wp2_with fail
    refine (vSound_any a _ ha (hE.below bel)).mono ?_
    rintro e w1 ⟨rfl, hb1⟩
    rw [sa]
    clear sa
    go_wp2_with fail
    go_ret2
    exact ⟨by rw [HC.out]; rfl, bel⟩
  · cases sb : sndB b
    · have HC : Hid (C = .tuple #[.int .i64 0, .int .i64 2]) := by rw [← hC]; unfold cmpVRes; rw [sa, sb]; exact rfl
      clear hC
      go_enter Tryz.func164, Tryz.ntmps164
      go_wp2_with fail
      refine (vSound_any a _ ha (hE.below bel)).mono ?_
      rintro e w1 ⟨rfl, hb1⟩
      rw [sa]
      clear sa
      have hz1 := hb1.size
      try simp at hz1
      obtain ⟨q1_0, l1_0, r1_0⟩ := aft hb1 (w.heap.size)
      obtain ⟨q1_1, l1_1, r1_1⟩ := aft hb1 (w.heap.size + 1)
      go_wp2_with fail
      refine (vSound_any b _ hb (hE.below bel)).mono ?_
      rintro e w2 ⟨rfl, hb2⟩
      rw [sb]
      clear sb
      go_wp2_with fail
      go_ret2
      exact ⟨by rw [HC.out]; rfl, bel⟩
    · have HC : Hid (C = .tuple #[.int .i64 (cmpV a b), .int .i64 0]) := by rw [← hC]; unfold cmpVRes; rw [sa, sb]; exact rfl
      clear hC
      have HA := Lib.hid sa
      have HB := Lib.hid sb
      go_enter Tryz.func164, Tryz.ntmps164
      go_wp2_with fail
      refine (vSound_any a _ ha (hE.below bel)).mono ?_
      rintro e w1 ⟨rfl, hb1⟩
      rw [sa]
      clear sa
      have hz1 := hb1.size
      try simp at hz1
      obtain ⟨q1_0, l1_0, r1_0⟩ := aft hb1 (w.heap.size)
      obtain ⟨q1_1, l1_1, r1_1⟩ := aft hb1 (w.heap.size + 1)
      go_wp2_with fail
      refine (vSound_any b _ hb (hE.below bel)).mono ?_
      rintro e w2 ⟨rfl, hb2⟩
      rw [sb]
      clear sb
      have hz2 := hb2.size
      try simp at hz2
      obtain ⟨q2_0, l2_0, r2_0⟩ := aft hb2 (w.heap.size)
      obtain ⟨q2_1, l2_1, r2_1⟩ := aft hb2 (w.heap.size + 1)
      go_wp2_with fail
      refine (order_any a b _ ha hb HA.out HB.out).mono ?_
      rintro e w3 ⟨rfl, hb3⟩
      go_wp2_with fail
      go_ret2
      exact ⟨by rw [HC.out]; rfl, bel⟩
end Go.Proofs.YtankkadnhdfpfaaGreatDoor

/- Truths: soffit/logic.Truth, Is; soffit/calc.Less. -/
set_option linter.unusedSimpArgs false
set_option linter.unusedVariables false
namespace Go.Proofs.YtankkadnhdfpfaaGreatDoor
open Go.RowKit

def Vl.val (v : Vl) : Value := .agg #[.int .i64 v.k, .int .i64 v.n, .int .i64 v.s, .string v.t, .int .i64 v.i]
def b2i (b : Bool) : Int := if b then 1 else 0
def truthV (b : Bool) : Vl := ⟨3, 0, 0, ⟨#[]⟩, b2i b⟩

theorem toList_inj {a b : ByteArray} (h : a.toList = b.toList) : a = b := by
  rw [ByteArray.toList_eq, ByteArray.toList_eq] at h
  obtain ⟨x⟩ := a
  obtain ⟨y⟩ := b
  exact congrArg ByteArray.mk (Array.ext' h)

def eqB (a b : Vl) : Bool := a.k == b.k && a.n == b.n && a.s == b.s && a.t.toList == b.t.toList && a.i == b.i
theorem eqB_iff (a b : Vl) : eqB a b = true ↔ a = b := by
  obtain ⟨k, n, s, t, i⟩ := a
  obtain ⟨k', n', s', t', i'⟩ := b
  simp only [eqB, Bool.and_eq_true, beq_iff_eq, Vl.mk.injEq]
  constructor
  · rintro ⟨⟨⟨⟨h1, h2⟩, h3⟩, h4⟩, h5⟩
    exact ⟨h1, h2, h3, toList_inj h4, h5⟩
  · rintro ⟨rfl, rfl, rfl, rfl, rfl⟩
    exact ⟨⟨⟨⟨rfl, rfl⟩, rfl⟩, rfl⟩, rfl⟩

set_option maxHeartbeats 400000 in
theorem truth_any (b : Bool) (w : World) : Calls Tryz.prog 163 #[.bool b] w fun e w' =>
    e = .returned (.agg #[.int .i64 3, .int .i64 0, .int .i64 0, .string ⟨#[]⟩, .int .i64 (b2i b)]) ∧ Below w.heap.size w w' := by
  cases b
  · go_enter Tryz.func163, Tryz.ntmps163
    go_wp2_with fail
    refine bodyPost_ret (v := .agg #[.int .i64 3, .int .i64 0, .int .i64 0, .string ⟨#[]⟩, .int .i64 0]) (by simp [results, Tryz.results163, go_sem, *]) rfl ⟨?_, bel⟩
    rfl
  · go_enter Tryz.func163, Tryz.ntmps163
    go_wp2_with fail
    refine bodyPost_ret (v := .agg #[.int .i64 3, .int .i64 0, .int .i64 0, .string ⟨#[]⟩, .int .i64 1]) (by simp [results, Tryz.results163, go_sem, *]) rfl ⟨?_, bel⟩
    rfl

def isB (v : Vl) : Bool := eqB v (truthV true)

theorem eqV_run (a b : Vl) (w : World) : (binOp .eql 30 (.agg #[.int .i64 a.k, .int .i64 a.n, .int .i64 a.s, .string a.t, .int .i64 a.i]) (.agg #[.int .i64 b.k, .int .i64 b.n, .int .i64 b.s, .string b.t, .int .i64 b.i])).run Tryz.prog w =
    .ok (.bool (eqB a b)) w := by
  obtain ⟨k, n, s, t, i⟩ := a
  obtain ⟨k', n', s', t', i'⟩ := b
  unfold eqB
  go_simp
  repeat' split
  all_goals simp_all

set_option maxHeartbeats 400000 in
theorem is_any (v : Vl) (w : World) : Calls Tryz.prog 144 #[.agg #[.int .i64 v.k, .int .i64 v.n, .int .i64 v.s, .string v.t, .int .i64 v.i]] w fun e w' =>
    e = .returned (.bool (isB v)) ∧ Below w.heap.size w w' := by
  have hq : ∀ W : World, (binOp .eql 30 (.agg #[.int .i64 v.k, .int .i64 v.n, .int .i64 v.s, .string v.t, .int .i64 v.i]) (.agg #[.int .i64 3, .int .i64 0, .int .i64 0, .string ⟨#[]⟩, .int .i64 (b2i true)])).run Tryz.prog W = .ok (.bool (isB v)) W := fun W => eqV_run v (truthV true) W
  go_enter Tryz.func144, Tryz.ntmps144
  go_wp2_with fail
  generalize hEW0 : w.alloc _ = W0
  have hbW0 : Below w.heap.size w W0 := (by rw [← hEW0]; exact bel)
  have lW0_0 : w.heap.size < W0.heap.size := lsz hEW0
  have qW0_0 : ∀ o, W0.cell? ⟨w.heap.size, o, none⟩ = _ := fun o => congrArg (fun W : World => W.cell? ⟨w.heap.size, o, none⟩) hEW0.symm
  have rW0_0 : ∀ o, W0.frozen? ⟨w.heap.size, o, none⟩ = _ := fun o => congrArg (fun W : World => W.frozen? ⟨w.heap.size, o, none⟩) hEW0.symm
  clear hEW0
  have kk0 : W0.cell? ⟨w.heap.size, 0, none⟩ = some (.int .i64 v.k) := cel
  have kk1 : W0.cell? ⟨w.heap.size, 1, none⟩ = some (.int .i64 v.n) := cel
  have kk2 : W0.cell? ⟨w.heap.size, 2, none⟩ = some (.int .i64 v.s) := cel
  have kk3 : W0.cell? ⟨w.heap.size, 3, none⟩ = some (.string v.t) := cel
  have kk4 : W0.cell? ⟨w.heap.size, 4, none⟩ = some (.int .i64 v.i) := cel
  go_region_held3 (fun w' => Below W0.heap.size W0 w' ∧ w'.cell? ⟨w.heap.size, 0, none⟩ = some (.int .i64 v.k) ∧ w'.cell? ⟨w.heap.size, 1, none⟩ = some (.int .i64 v.n) ∧ w'.cell? ⟨w.heap.size, 2, none⟩ = some (.int .i64 v.s) ∧ w'.cell? ⟨w.heap.size, 3, none⟩ = some (.string v.t) ∧ w'.cell? ⟨w.heap.size, 4, none⟩ = some (.int .i64 v.i)) ((refine and_keep ?_ (fun hk => ⟨keep_cell hk lW0_0 kk0, keep_cell hk lW0_0 kk1, keep_cell hk lW0_0 kk2, keep_cell hk lW0_0 kk3, keep_cell hk lW0_0 kk4⟩); exact bel))
    (first
      | (go_at_call 163; refine (truth_any _ _).mono ?_; rintro e w' ⟨rfl, hb'⟩))
  go_wp2_with fail
  go_ret
  exact ⟨ret_bool rfl, bel⟩

def lessV (a b : Vl) : Vl := if (sndB a && sndB b) = true ∧ a.k = b.k ∧ a.k ≠ 0 ∧ a.k ≠ 3 then truthV (decide (cmpV a b < 0)) else Vl.zero

set_option maxHeartbeats 800000 in
theorem less_any (a b : Vl) (w : World) (ha : a.wf) (hb : b.wf) (hE : Env w) :
    Calls Tryz.prog 145 #[.agg #[.int .i64 a.k, .int .i64 a.n, .int .i64 a.s, .string a.t, .int .i64 a.i], .agg #[.int .i64 b.k, .int .i64 b.n, .int .i64 b.s, .string b.t, .int .i64 b.i]] w fun e w' =>
      e = .returned (.agg #[.int .i64 (lessV a b).k, .int .i64 (lessV a b).n, .int .i64 (lessV a b).s, .string (lessV a b).t, .int .i64 (lessV a b).i]) ∧ Below w.heap.size w w' := by
  obtain ⟨L, hL⟩ : ∃ L, lessV a b = L := ⟨_, rfl⟩
  rw [hL]
  by_cases h : (sndB a && sndB b) = true
  · have HM : Hid (cmpVRes a b = .tuple #[.int .i64 (cmpV a b), .int .i64 0]) := by unfold cmpVRes; rw [if_pos h]; exact rfl
    by_cases hk : a.k = b.k ∧ a.k ≠ 0 ∧ a.k ≠ 3
    · have HL : Hid (L = truthV (decide (cmpV a b < 0))) := by rw [← hL]; exact if_pos ⟨h, hk⟩
      have e1 : (a.k != b.k) = false := by simp [hk.1]
      have e2 : (a.k == 0) = false := by simp [hk.2.1]
      have e3 : (a.k == 3) = false := by simp [hk.2.2]
      clear hL hk h
      go_enter Tryz.func145, Tryz.ntmps145
      go_wp2_with fail
      refine (vCompare_any a b _ ha hb (hE.below bel)).mono ?_
      rintro e w1 ⟨rfl, hb1⟩
      rw [HM.out]
      have hz1 := hb1.size
      try simp at hz1
      obtain ⟨q1_0, l1_0, r1_0⟩ := aft hb1 (w.heap.size)
      obtain ⟨q1_1, l1_1, r1_1⟩ := aft hb1 (w.heap.size + 1)
      obtain ⟨q1_2, l1_2, r1_2⟩ := aft hb1 (w.heap.size + 2)
      obtain ⟨c, hc⟩ : ∃ c, cmpV a b = c := ⟨_, rfl⟩
      rw [hc] at HL ⊢
      clear hc HM
      go_wp2_with fail
      refine (truth_any _ _).mono ?_
      rintro e w2 ⟨rfl, hb2⟩
      have hz2 := hb2.size
      try simp at hz2
      obtain ⟨q2_0, l2_0, r2_0⟩ := aft hb2 (w.heap.size + 2)
      obtain ⟨d, hd⟩ : ∃ d, decide (c < 0) = d := ⟨_, rfl⟩
      rw [hd] at HL ⊢
      clear hd
      go_wp2_with fail
      have HL2 : L = truthV d := HL.out
      subst HL2
      refine bodyPost_ret (v := .agg #[.int .i64 3, .int .i64 0, .int .i64 0, .string ⟨#[]⟩, .int .i64 (b2i d)]) (by simp [results, Tryz.results145, go_sem, *]) rfl ⟨?_, bel⟩
      rfl
    · have HL : Hid (L = Vl.zero) := by rw [← hL]; exact if_neg (fun hh => hk hh.2)
      clear hL h
      obtain ⟨c, hc⟩ : ∃ c, cmpV a b = c := ⟨_, rfl⟩
      rw [hc] at HM
      clear hc
      by_cases k1 : a.k = b.k
      · have e1 : (a.k != b.k) = false := by simp [k1]
        by_cases k2 : a.k = 0
        · have e2 : (a.k == 0) = true := by simp [k2]
          clear k1 k2 hk
          go_enter Tryz.func145, Tryz.ntmps145
          go_wp2_with fail
          refine (vCompare_any a b _ ha hb (hE.below bel)).mono ?_
          rintro e w1 ⟨rfl, hb1⟩
          rw [HM.out]
          have hz1 := hb1.size
          try simp at hz1
          obtain ⟨q1_0, l1_0, r1_0⟩ := aft hb1 (w.heap.size)
          obtain ⟨q1_1, l1_1, r1_1⟩ := aft hb1 (w.heap.size + 1)
          obtain ⟨q1_2, l1_2, r1_2⟩ := aft hb1 (w.heap.size + 2)
          obtain ⟨tn, hN⟩ := (hE.below (w' := w1) bel).null
          have c0 : ∀ o, w1.cell? ⟨0, o, none⟩ = (#[.int .i64 0, .int .i64 0, .int .i64 0, .string ⟨#[]⟩, .int .i64 0] : Array Value)[o]? := fun o => cell_of_block hN o
          go_wp2_with fail
          have HL2 : L = Vl.zero := HL.out
          subst HL2
          refine bodyPost_ret (v := .agg #[.int .i64 0, .int .i64 0, .int .i64 0, .string ⟨#[]⟩, .int .i64 0]) (by simp [results, Tryz.results145, go_sem, *]) rfl ⟨?_, bel⟩
          rfl
        · have e2 : (a.k == 0) = false := by simp [k2]
          have e3 : (a.k == 3) = true := by simp; omega
          clear k1 k2 hk
          go_enter Tryz.func145, Tryz.ntmps145
          go_wp2_with fail
          refine (vCompare_any a b _ ha hb (hE.below bel)).mono ?_
          rintro e w1 ⟨rfl, hb1⟩
          rw [HM.out]
          have hz1 := hb1.size
          try simp at hz1
          obtain ⟨q1_0, l1_0, r1_0⟩ := aft hb1 (w.heap.size)
          obtain ⟨q1_1, l1_1, r1_1⟩ := aft hb1 (w.heap.size + 1)
          obtain ⟨q1_2, l1_2, r1_2⟩ := aft hb1 (w.heap.size + 2)
          obtain ⟨tn, hN⟩ := (hE.below (w' := w1) bel).null
          have c0 : ∀ o, w1.cell? ⟨0, o, none⟩ = (#[.int .i64 0, .int .i64 0, .int .i64 0, .string ⟨#[]⟩, .int .i64 0] : Array Value)[o]? := fun o => cell_of_block hN o
          go_wp2_with fail
          have HL2 : L = Vl.zero := HL.out
          subst HL2
          refine bodyPost_ret (v := .agg #[.int .i64 0, .int .i64 0, .int .i64 0, .string ⟨#[]⟩, .int .i64 0]) (by simp [results, Tryz.results145, go_sem, *]) rfl ⟨?_, bel⟩
          rfl
      · have e1 : (a.k != b.k) = true := by simp [k1]
        clear k1 hk
        go_enter Tryz.func145, Tryz.ntmps145
        go_wp2_with fail
        refine (vCompare_any a b _ ha hb (hE.below bel)).mono ?_
        rintro e w1 ⟨rfl, hb1⟩
        rw [HM.out]
        have hz1 := hb1.size
        try simp at hz1
        obtain ⟨q1_0, l1_0, r1_0⟩ := aft hb1 (w.heap.size)
        obtain ⟨q1_1, l1_1, r1_1⟩ := aft hb1 (w.heap.size + 1)
        obtain ⟨q1_2, l1_2, r1_2⟩ := aft hb1 (w.heap.size + 2)
        obtain ⟨tn, hN⟩ := (hE.below (w' := w1) bel).null
        have c0 : ∀ o, w1.cell? ⟨0, o, none⟩ = (#[.int .i64 0, .int .i64 0, .int .i64 0, .string ⟨#[]⟩, .int .i64 0] : Array Value)[o]? := fun o => cell_of_block hN o
        go_wp2_with fail
        have HL2 : L = Vl.zero := HL.out
        subst HL2
        refine bodyPost_ret (v := .agg #[.int .i64 0, .int .i64 0, .int .i64 0, .string ⟨#[]⟩, .int .i64 0]) (by simp [results, Tryz.results145, go_sem, *]) rfl ⟨?_, bel⟩
        rfl
  · have HM : Hid (cmpVRes a b = .tuple #[.int .i64 0, .int .i64 2]) := by unfold cmpVRes; rw [if_neg h]; exact rfl
    have HL : Hid (L = Vl.zero) := by rw [← hL]; exact if_neg (fun hh => h hh.1)
    clear hL h
    go_enter Tryz.func145, Tryz.ntmps145
    go_wp2_with fail
    refine (vCompare_any a b _ ha hb (hE.below bel)).mono ?_
    rintro e w1 ⟨rfl, hb1⟩
    rw [HM.out]
    have hz1 := hb1.size
    try simp at hz1
    obtain ⟨q1_0, l1_0, r1_0⟩ := aft hb1 (w.heap.size)
    obtain ⟨q1_1, l1_1, r1_1⟩ := aft hb1 (w.heap.size + 1)
    obtain ⟨q1_2, l1_2, r1_2⟩ := aft hb1 (w.heap.size + 2)
    obtain ⟨tn, hN⟩ := (hE.below (w' := w1) bel).null
    have c0 : ∀ o, w1.cell? ⟨0, o, none⟩ = (#[.int .i64 0, .int .i64 0, .int .i64 0, .string ⟨#[]⟩, .int .i64 0] : Array Value)[o]? := fun o => cell_of_block hN o
    go_wp2_with fail
    have HL2 : L = Vl.zero := HL.out
    subst HL2
    refine bodyPost_ret (v := .agg #[.int .i64 0, .int .i64 0, .int .i64 0, .string ⟨#[]⟩, .int .i64 0]) (by simp [results, Tryz.results145, go_sem, *]) rfl ⟨?_, bel⟩
    rfl
end Go.Proofs.YtankkadnhdfpfaaGreatDoor
