import Derived.Test.YtfhmjkdpohepaaaDoorPk04
import Derived.Test.YtfhmjkdpohepaaaDoorPk05
import Derived.Test.YtfhmjkdpohepaaaDoorShelf
/- (soffit/policy.outs).first, walked; slices.Index, Contains at the values of it. -/
set_option linter.unusedSimpArgs false
set_option linter.unusedVariables false
namespace Go.Proofs.YtfhmjkdpohepaaaDoor
open Go.RowKit

set_option maxRecDepth 100000 in
set_option maxHeartbeats 800000 in
theorem outsIndex (x : Vl) (xs : List Vl) (A : Option Addr) (c : Nat) (w : World) (hr : RdL w 5 A (xs.map Vl.cells5)) (hn : xs.length ≤ 9223372036854775807) :
    Calls Tryd.prog 49 #[.slice A xs.length c, .agg #[.int .i64 x.k, .int .i64 x.n, .int .i64 x.s, .string x.t, .int .i64 x.i]] w fun e w' => e = .returned (.int .i64 (idxF (fun y => eqB x y) xs 0)) ∧ Below w.heap.size w w' := by
  go_enter Tryd.func49, Tryd.ntmps49
  go_wp2_with fail
  generalize hEW0 : w.alloc _ = W0
  have hbW0 : Below w.heap.size w W0 := (by rw [← hEW0]; exact bel)
  have lW0_0 : w.heap.size < W0.heap.size := lsz hEW0
  have qW0_0 : ∀ o, W0.cell? ⟨w.heap.size, o, none⟩ = _ := fun o => congrArg (fun W : World => W.cell? ⟨w.heap.size, o, none⟩) hEW0.symm
  have rW0_0 : ∀ o, W0.frozen? ⟨w.heap.size, o, none⟩ = _ := fun o => congrArg (fun W : World => W.frozen? ⟨w.heap.size, o, none⟩) hEW0.symm
  clear hEW0
  have k0 : W0.cell? ⟨w.heap.size, 0, none⟩ = some (.int .i64 x.k) := (by first | (simp [go_sem]; done) | (simp [go_sem, *]; done))
  have k1 : W0.cell? ⟨w.heap.size, 1, none⟩ = some (.int .i64 x.n) := (by first | (simp [go_sem]; done) | (simp [go_sem, *]; done))
  have k2 : W0.cell? ⟨w.heap.size, 2, none⟩ = some (.int .i64 x.s) := (by first | (simp [go_sem]; done) | (simp [go_sem, *]; done))
  have k3 : W0.cell? ⟨w.heap.size, 3, none⟩ = some (.string x.t) := (by first | (simp [go_sem]; done) | (simp [go_sem, *]; done))
  have k4 : W0.cell? ⟨w.heap.size, 4, none⟩ = some (.int .i64 x.i) := (by first | (simp [go_sem]; done) | (simp [go_sem, *]; done))
  have hr2 := hr.below hbW0
  clear qW0_0 rW0_0 hr
  go_loopg [8] xs.length (fun k i wr => ∃ j : Nat, j ≤ xs.length ∧ xs.length - j ≤ k ∧ Hid (idxF (fun y => eqB x y) xs 0 = idxF (fun y => eqB x y) (xs.drop j) j) ∧ i = .int .i64 j ∧ Below W0.heap.size W0 wr)
  case atStart => exact ⟨0, by omega, by omega, rfl, rfl, Below.refl _ _⟩
  case round =>
    obtain ⟨j, hj, hjk, hi, rfl, hbel⟩ := hrel
    by_cases hlt : j < xs.length
    · obtain ⟨b, off, rfl, hx⟩ := (hr2.below hbel).at_ hlt
      have hyes := fun h => idxF_drop_yes (p := fun y => eqB x y) hlt h
      have hno := fun h => idxF_drop_no (p := fun y => eqB x y) hlt h
      generalize hX : xs[j]'hlt = y at *
      have y0 : wr.cell? ⟨b, off + j * 5, none⟩ = some (.int .i64 y.k) := hx.get 0 rfl
      have y1 : wr.cell? ⟨b, off + j * 5 + 1, none⟩ = some (.int .i64 y.n) := hx.get 1 rfl
      have y2 : wr.cell? ⟨b, off + j * 5 + 2, none⟩ = some (.int .i64 y.s) := hx.get 2 rfl
      have y3 : wr.cell? ⟨b, off + j * 5 + 3, none⟩ = some (.string y.t) := hx.get 3 rfl
      have y4 : wr.cell? ⟨b, off + j * 5 + 4, none⟩ = some (.int .i64 y.i) := hx.get 4 rfl
      have m0 := cell_below hbel k0
      have m1 := cell_below hbel k1
      have m2 := cell_below hbel k2
      have m3 := cell_below hbel k3
      have m4 := cell_below hbel k4
      have HYES := Lib.hid hyes
      have HNO := Lib.hid hno
      have hsz := hbel.size
      have hq := fun W : World => eqV_run x y W
      clear hyes hno hX hx
      cases hp : eqB x y
      · have HN := Lib.hid (HNO.out hp)
        rw [hp] at hq
        clear hp
        go_wp2_with fail
        go_region
        go_wp2_with fail
        go_roundg (gk - 1)
        case measure => omega
        case rel => exact ⟨j + 1, by omega, by omega, hi.out.trans HN.out, by go_num, bel⟩
      · have HY := Lib.hid (HYES.out hp)
        rw [hp] at hq
        clear hp
        go_wp2_with fail
        go_region
        go_wp2_with fail
        go_ret
        exact ⟨ret_int (by rw [hi.out, HY.out]), bel⟩
    · have HE := Lib.hid (idxF_drop_end (p := fun y => eqB x y) hlt)
      go_wp2_with fail
      go_ret
      exact ⟨ret_int (by rw [hi.out, HE.out]), bel⟩

set_option maxHeartbeats 400000 in
theorem outsContains (x : Vl) (xs : List Vl) (A : Option Addr) (c : Nat) (w : World) (hr : RdL w 5 A (xs.map Vl.cells5)) (hn : xs.length ≤ 9223372036854775807) :
    Calls Tryd.prog 34 #[.slice A xs.length c, .agg #[.int .i64 x.k, .int .i64 x.n, .int .i64 x.s, .string x.t, .int .i64 x.i]] w fun e w' => e = .returned (.bool (xs.any (fun y => eqB x y))) ∧ Below w.heap.size w w' := by
  have HA := Lib.hid (idxF_any (fun y => eqB x y) xs 0)
  go_enter Tryd.func34, Tryd.ntmps34
  go_wp2_with fail
  refine (outsIndex x xs A c _ (hr.below bel) hn).mono ?_
  rintro e w1 ⟨rfl, hb1⟩
  generalize idxF (fun y => eqB x y) xs 0 = r at *
  go_wp2_with fail
  go_ret
  exact ⟨ret_bool HA.out, bel⟩

/-- the output of a rule -/
def pickV (os : List Vl) (x : Int) : Vl := (os[x.toNat]?).getD Vl.zero
/-- the first of an order that is one of some; else the first of these -/
def firstV (o : Vl) (os : List Vl) : List Vl → Vl
  | [] => o
  | v :: r => if (os.any (fun y => eqB v y)) = true then v else firstV o os r
theorem firstV_yes {o : Vl} {os xs : List Vl} {j : Nat} (hj : j < xs.length) (h : (os.any (fun y => eqB (xs[j]'hj) y)) = true) : firstV o os (xs.drop j) = xs[j]'hj := by
  rw [List.drop_eq_getElem_cons hj]
  exact if_pos h
theorem firstV_no {o : Vl} {os xs : List Vl} {j : Nat} (hj : j < xs.length) (h : (os.any (fun y => eqB (xs[j]'hj) y)) = false) : firstV o os (xs.drop j) = firstV o os (xs.drop (j + 1)) := by
  rw [List.drop_eq_getElem_cons hj]
  exact if_neg (by rw [h]; simp)
theorem firstV_end {o : Vl} {os xs : List Vl} {j : Nat} (hj : ¬ j < xs.length) : firstV o os (xs.drop j) = o := by
  rw [List.drop_eq_nil_of_le (by omega)]
  rfl

set_option maxRecDepth 100000 in
set_option maxHeartbeats 1600000 in
theorem first_any (o : Vl) (r od : List Vl) (A B : Option Addr) (c d : Nat) (w : World) (hr : RdL w 5 A ((o :: r).map Vl.cells5)) (ho : RdL w 5 B (od.map Vl.cells5)) (hn : (o :: r).length ≤ 9223372036854775807) (hm : od.length ≤ 9223372036854775807) :
    Calls Tryd.prog 19 #[.slice A (o :: r).length c, .slice B od.length d] w fun e w' =>
      e = .returned (.agg #[.int .i64 (firstV o (o :: r) od).k, .int .i64 (firstV o (o :: r) od).n, .int .i64 (firstV o (o :: r) od).s, .string (firstV o (o :: r) od).t, .int .i64 (firstV o (o :: r) od).i]) ∧ Below w.heap.size w w' := by
  obtain ⟨R, hR⟩ : ∃ R, firstV o (o :: r) od = R := ⟨_, rfl⟩
  rw [hR]
  have HR : Hid (R = firstV o (o :: r) (od.drop 0)) := hR.symm
  clear hR
  obtain ⟨os, hos⟩ : ∃ os, o :: r = os := ⟨_, rfl⟩
  have h0 : os[0]? = some o := by rw [← hos]; rfl
  have hpos : 0 < os.length := by rw [← hos]; simp
  rw [hos] at HR hr hn ⊢
  clear hos
  go_enter Tryd.func19, Tryd.ntmps19
  go_wp2_with fail
  generalize hEW0 : w.alloc _ = W0
  have hbW0 : Below w.heap.size w W0 := (by rw [← hEW0]; exact bel)
  have lW0_0 : w.heap.size < W0.heap.size := lsz hEW0
  have qW0_0 : ∀ o, W0.cell? ⟨w.heap.size, o, none⟩ = _ := fun o => congrArg (fun W : World => W.cell? ⟨w.heap.size, o, none⟩) hEW0.symm
  have rW0_0 : ∀ o, W0.frozen? ⟨w.heap.size, o, none⟩ = _ := fun o => congrArg (fun W : World => W.frozen? ⟨w.heap.size, o, none⟩) hEW0.symm
  clear hEW0
  go_loopg [9] od.length (fun k i wr => ∃ j : Nat, j ≤ od.length ∧ od.length - j ≤ k ∧ Hid (R = firstV o os (od.drop j)) ∧ i = .int .i64 j ∧ Below W0.heap.size W0 wr)
  case atStart => exact ⟨0, by omega, by omega, HR, rfl, Below.refl _ _⟩
  case round =>
    obtain ⟨j, hj, hjk, hi, rfl, hbel⟩ := hrel
    have hsz := hbel.size
    have qr_0 := fun o => (hbel.cell (p := ⟨w.heap.size, o, none⟩) lW0_0).trans (qW0_0 o)
    have rr_0 := fun o => (hbel.frozen (p := ⟨w.heap.size, o, none⟩) lW0_0).trans (rW0_0 o)
    have lr_0 : w.heap.size < wr.heap.size := by omega
    by_cases hlt : j < od.length
    · obtain ⟨b, off, rfl, hx⟩ := ((ho.below hbW0).below hbel).at_ hlt
      have hyes := fun h => firstV_yes (o := o) (os := os) hlt h
      have hno := fun h => firstV_no (o := o) (os := os) hlt h
      generalize hX : od[j]'hlt = x at *
      have y0 : wr.cell? ⟨b, off + j * 5, none⟩ = some (.int .i64 x.k) := hx.get 0 rfl
      have y1 : wr.cell? ⟨b, off + j * 5 + 1, none⟩ = some (.int .i64 x.n) := hx.get 1 rfl
      have y2 : wr.cell? ⟨b, off + j * 5 + 2, none⟩ = some (.int .i64 x.s) := hx.get 2 rfl
      have y3 : wr.cell? ⟨b, off + j * 5 + 3, none⟩ = some (.string x.t) := hx.get 3 rfl
      have y4 : wr.cell? ⟨b, off + j * 5 + 4, none⟩ = some (.int .i64 x.i) := hx.get 4 rfl
      have HYES := Lib.hid hyes
      have HNO := Lib.hid hno
      clear hyes hno hX hx
      cases hp : os.any (fun y => eqB x y)
      · have HN := Lib.hid (HNO.out hp)
        go_wp2_with fail
        refine (outsContains x os A c _ (hr.below bel) hn).mono ?_
        rintro e w1 ⟨rfl, hb1⟩
        rw [hp]
        clear hp
        go_wp2_with fail
        go_roundg (gk - 1)
        case measure => omega
        case rel => exact ⟨j + 1, by omega, by omega, hi.out.trans HN.out, by go_num, bel⟩
      · have HY := Lib.hid (HYES.out hp)
        have HV : R = x := hi.out.trans HY.out
        subst HV
        go_wp2_with fail
        generalize hEW2 : wr.alloc _ = W2
        have hbW2 : Below w.heap.size w W2 := (by rw [← hEW2]; exact bel)
        have lW2_0 : wr.heap.size < W2.heap.size := lsz hEW2
        have qW2_0 : ∀ o, W2.cell? ⟨wr.heap.size, o, none⟩ = _ := fun o => congrArg (fun W : World => W.cell? ⟨wr.heap.size, o, none⟩) hEW2.symm
        have rW2_0 : ∀ o, W2.frozen? ⟨wr.heap.size, o, none⟩ = _ := fun o => congrArg (fun W : World => W.frozen? ⟨wr.heap.size, o, none⟩) hEW2.symm
        have lW2_1 : w.heap.size < W2.heap.size := lsz hEW2
        have qW2_1 : ∀ o, W2.cell? ⟨w.heap.size, o, none⟩ = _ := fun o => congrArg (fun W : World => W.cell? ⟨w.heap.size, o, none⟩) hEW2.symm
        have rW2_1 : ∀ o, W2.frozen? ⟨w.heap.size, o, none⟩ = _ := fun o => congrArg (fun W : World => W.frozen? ⟨w.heap.size, o, none⟩) hEW2.symm
        clear hEW2
        refine (outsContains R os A c _ (hr.below bel) hn).mono ?_
        rintro e w1 ⟨rfl, hb1⟩
        rw [hp]
        clear hp
        have hz1 := hb1.size
        try simp at hz1
        obtain ⟨q1_0, l1_0, r1_0⟩ := aft hb1 (wr.heap.size)
        obtain ⟨q1_1, l1_1, r1_1⟩ := aft hb1 (w.heap.size)
        go_wp2_with fail
        refine bodyPost_ret (v := .agg #[.int .i64 R.k, .int .i64 R.n, .int .i64 R.s, .string R.t, .int .i64 R.i]) (by simp [results, Tryd.results19, go_sem, *]) rfl ⟨?_, bel⟩
        rfl
    · have HE := Lib.hid (firstV_end (o := o) (os := os) hlt)
      have HV : R = o := hi.out.trans HE.out
      subst HV
      obtain ⟨b, off, rfl, hx⟩ := (((hr.below hbW0).below hbel).at_ hpos)
      have he : os[0]'hpos = R := Option.some.inj ((List.getElem?_eq_getElem hpos).symm.trans h0)
      rw [he] at hx
      have y0 : wr.cell? ⟨b, off, none⟩ = some (.int .i64 R.k) := by have := hx.get 0 rfl; simpa using this
      have y1 : wr.cell? ⟨b, off + 1, none⟩ = some (.int .i64 R.n) := by have := hx.get 1 rfl; simpa using this
      have y2 : wr.cell? ⟨b, off + 2, none⟩ = some (.int .i64 R.s) := by have := hx.get 2 rfl; simpa using this
      have y3 : wr.cell? ⟨b, off + 3, none⟩ = some (.string R.t) := by have := hx.get 3 rfl; simpa using this
      have y4 : wr.cell? ⟨b, off + 4, none⟩ = some (.int .i64 R.i) := by have := hx.get 4 rfl; simpa using this
      have i0 : (0 : Int) < (os.length : Int) := by omega
      clear he hx
      go_wp2_with fail
      refine bodyPost_ret (v := .agg #[.int .i64 R.k, .int .i64 R.n, .int .i64 R.s, .string R.t, .int .i64 R.i]) (by simp [results, Tryd.results19, go_sem, *]) rfl ⟨?_, bel⟩
      rfl
end Go.Proofs.YtfhmjkdpohepaaaDoor

/- The numbers: units, all, Compare. -/
set_option linter.unusedSimpArgs false
set_option linter.unusedVariables false
namespace Go.Proofs.YtfhmjkdpohepaaaDoor
open Go.RowKit

/-- the error of what may be, or not -/
def okE (b : Bool) : Int := if b = true then 0 else 2
theorem okE_true : okE true = 0 := rfl
theorem okE_false : okE false = 2 := rfl

theorem units_bd {n s : Int} (h1 : -999999999999 ≤ n) (h2 : n ≤ 999999999999) (h3 : 0 ≤ s) (h4 : s ≤ 6) : -999999999999000000 ≤ unitsI n s ∧ unitsI n s ≤ 999999999999000000 := by
  unfold unitsI
  have e : (10 : Int) ^ (6 - s.toNat) = ((10 ^ (6 - s.toNat) : Nat) : Int) := by norm_cast
  have h := Nat.pow_le_pow_right (n := 10) (by omega) (show 6 - s.toNat ≤ 6 by omega)
  rw [e]
  generalize 10 ^ (6 - s.toNat) = q at *
  have e2 : (10 : Nat) ^ 6 = 1000000 := rfl
  obtain ⟨p, hp⟩ : ∃ p : Int, (q : Int) = p := ⟨_, rfl⟩
  have hp : p ≤ 1000000 := by omega
  have h0 : 0 ≤ p := by omega
  rw [show (q : Int) = p by assumption]
  constructor
  · have : -999999999999 * p ≤ n * p := Int.mul_le_mul_of_nonneg_right h1 h0
    omega
  · have : n * p ≤ 999999999999 * p := Int.mul_le_mul_of_nonneg_right h2 h0
    omega

set_option maxHeartbeats 800000 in
theorem units_any (n s : Int) (w : World) (h1 : -999999999999 ≤ n) (h2 : n ≤ 999999999999) (h3 : 0 ≤ s) (h4 : s ≤ 6) :
    Calls Tryd.prog 51 #[.agg #[.int .i64 n, .int .i64 s]] w fun e w' => e = .returned (.int .i64 (unitsI n s)) ∧ Below w.heap.size w w' := by
  obtain ⟨t, rfl⟩ : ∃ t : Nat, s = (t : Int) := ⟨s.toNat, by omega⟩
  have hb := units_bd h1 h2 h3 h4
  have hsub : IntKind.i64.wrap (6 - (t : Int)) = ((6 - t : Nat) : Int) := by rw [IntWalk.i64_in _ (by omega)]; omega
  obtain ⟨p, hp⟩ : ∃ p, 10 ^ (6 - t) = p := ⟨_, rfl⟩
  have hu : unitsI n t = n * (p : Int) := by
    unfold unitsI; rw [← hp, Int.toNat_natCast]; norm_cast
  rw [hu] at hb ⊢
  have HP := Lib.hid hp
  clear hp hu
  have hp2 : p ≤ 1000000 := by
    have h := Nat.pow_le_pow_right (n := 10) (by omega) (show 6 - t ≤ 6 by omega)
    rw [HP.out] at h
    have e2 : (10 : Nat) ^ 6 = 1000000 := rfl
    omega
  go_enter Tryd.func51, Tryd.ntmps51
  go_wp2_with fail
  go_region_held3 (fun w' => w'.cell? ⟨w.heap.size, 0, none⟩ = some (.int .i64 n) ∧ w'.cell? ⟨w.heap.size, 1, none⟩ = some (.int .i64 t)) (go_keep)
    (first
      | (go_at_call 64; refine (power_p (6 - t) p (by omega) HP.out _).mono ?_; rintro e w' ⟨rfl, rfl⟩))
  go_wp2_with fail
  go_ret
  refine ⟨ret_int ?_, bel⟩
  show IntKind.i64.wrap (n * IntKind.i64.wrap (p : Int)) = n * (p : Int)
  rw [IntWalk.i64_in (p : Int) (by omega), IntWalk.i64_in (n * (p : Int)) (by omega)]

set_option maxHeartbeats 800000 in
/-- a row of two numbers in a block of its own -/
theorem all2_any (b : Nat) (n s n' s' : Int) (w : World) (hb : b < w.heap.size)
    (c0 : w.cell? ⟨b, 0, none⟩ = some (.int .i64 n)) (c1 : w.cell? ⟨b, 1, none⟩ = some (.int .i64 s)) (c2 : w.cell? ⟨b, 2, none⟩ = some (.int .i64 n')) (c3 : w.cell? ⟨b, 3, none⟩ = some (.int .i64 s'))
    (hn : I64 n) (hs : I64 s) (hn' : I64 n') (hs' : I64 s') :
    Calls Tryd.prog 50 #[.slice (some ⟨b, 0, none⟩) 2 2] w fun e w' => e = .returned (.int .i64 (okE (decSnd n s && decSnd n' s'))) ∧ Below w.heap.size w w' := by
  go_enter Tryd.func50, Tryd.ntmps50
  go_wp2_with fail
  go_loopg [7] 2 (fun k i wr => ∃ j : Nat, j ≤ 2 ∧ 2 - j ≤ k ∧ (1 ≤ j → Hid (decSnd n s = true)) ∧ (2 ≤ j → Hid (decSnd n' s' = true)) ∧ i = .int .i64 j ∧ Below w.heap.size w wr)
  case atStart => exact ⟨0, by omega, by omega, fun h => by omega, fun h => by omega, rfl, Below.refl _ _⟩
  case round =>
    obtain ⟨j, hj, hjk, g1, g2, rfl, hbel⟩ := hrel
    have hc : ∀ o, wr.cell? ⟨b, o, none⟩ = w.cell? ⟨b, o, none⟩ := fun o => hbel.cell (p := ⟨b, o, none⟩) hb
    have d0 := (hc 0).trans c0
    have d1 := (hc 1).trans c1
    have d2 := (hc 2).trans c2
    have d3 := (hc 3).trans c3
    clear hc
    have hsz := hbel.size
    have hj3 : j = 0 ∨ j = 1 ∨ j = 2 := by omega
    rcases hj3 with rfl | rfl | rfl
    · have I1 := hn
      have I2 := hs
      simp only [I64] at I1 I2
      cases hd : decSnd n s
      · have HF : Hid ((decSnd n s && decSnd n' s') = false) := by show _ = _; rw [hd]; simp
        go_wp2_with fail
        refine (decSound_any n s _ I1.1 I1.2 I2.1 I2.2).mono ?_
        rintro e w1 ⟨rfl, hb1⟩
        rw [hd]
        clear hd I1 I2
        go_wp2_with fail
        go_ret
        exact ⟨ret_int (by rw [HF.out]; rfl), bel⟩
      · have HD := Lib.hid hd
        go_wp2_with fail
        refine (decSound_any n s _ I1.1 I1.2 I2.1 I2.2).mono ?_
        rintro e w1 ⟨rfl, hb1⟩
        rw [hd]
        clear hd I1 I2
        go_wp2_with fail
        go_roundg (gk - 1)
        case measure => omega
        case rel => exact ⟨0 + 1, by omega, by omega, fun _ => HD, fun h => by omega, by go_num, bel⟩
    · have I1 := hn'
      have I2 := hs'
      simp only [I64] at I1 I2
      cases hd : decSnd n' s'
      · have HF : Hid ((decSnd n s && decSnd n' s') = false) := by show _ = _; rw [hd]; simp
        go_wp2_with fail
        refine (decSound_any n' s' _ I1.1 I1.2 I2.1 I2.2).mono ?_
        rintro e w1 ⟨rfl, hb1⟩
        rw [hd]
        clear hd I1 I2
        go_wp2_with fail
        go_ret
        exact ⟨ret_int (by rw [HF.out]; rfl), bel⟩
      · have HD := Lib.hid hd
        go_wp2_with fail
        refine (decSound_any n' s' _ I1.1 I1.2 I2.1 I2.2).mono ?_
        rintro e w1 ⟨rfl, hb1⟩
        rw [hd]
        clear hd I1 I2
        go_wp2_with fail
        go_roundg (gk - 1)
        case measure => omega
        case rel => exact ⟨1 + 1, by omega, by omega, fun _ => g1 (by omega), fun _ => HD, by go_num, bel⟩
    · have HT : Hid ((decSnd n s && decSnd n' s') = true) := by show _ = _; rw [(g1 (by omega)).out, (g2 (by omega)).out]; rfl
      go_wp2_with fail
      go_ret
      exact ⟨ret_int (by rw [HT.out]; rfl), hbel⟩

set_option maxHeartbeats 800000 in
/-- a row of one number in a block of its own -/
theorem all1_any (b : Nat) (n s : Int) (w : World) (hb : b < w.heap.size)
    (c0 : w.cell? ⟨b, 0, none⟩ = some (.int .i64 n)) (c1 : w.cell? ⟨b, 1, none⟩ = some (.int .i64 s))
    (hn : I64 n) (hs : I64 s) :
    Calls Tryd.prog 50 #[.slice (some ⟨b, 0, none⟩) 1 1] w fun e w' => e = .returned (.int .i64 (okE (decSnd n s))) ∧ Below w.heap.size w w' := by
  go_enter Tryd.func50, Tryd.ntmps50
  go_wp2_with fail
  go_loopg [7] 1 (fun k i wr => ∃ j : Nat, j ≤ 1 ∧ 1 - j ≤ k ∧ (1 ≤ j → Hid (decSnd n s = true)) ∧ i = .int .i64 j ∧ Below w.heap.size w wr)
  case atStart => exact ⟨0, by omega, by omega, fun h => by omega, rfl, Below.refl _ _⟩
  case round =>
    obtain ⟨j, hj, hjk, g1, rfl, hbel⟩ := hrel
    have hc : ∀ o, wr.cell? ⟨b, o, none⟩ = w.cell? ⟨b, o, none⟩ := fun o => hbel.cell (p := ⟨b, o, none⟩) hb
    have d0 := (hc 0).trans c0
    have d1 := (hc 1).trans c1
    clear hc
    have hsz := hbel.size
    have hj3 : j = 0 ∨ j = 1 := by omega
    rcases hj3 with rfl | rfl
    · have I1 := hn
      have I2 := hs
      simp only [I64] at I1 I2
      cases hd : decSnd n s
      · have HF : Hid (decSnd n s = false) := hd
        go_wp2_with fail
        refine (decSound_any n s _ I1.1 I1.2 I2.1 I2.2).mono ?_
        rintro e w1 ⟨rfl, hb1⟩
        rw [hd]
        clear hd I1 I2
        go_wp2_with fail
        go_ret
        exact ⟨ret_int (by rw [HF.out]; rfl), bel⟩
      · have HD := Lib.hid hd
        go_wp2_with fail
        refine (decSound_any n s _ I1.1 I1.2 I2.1 I2.2).mono ?_
        rintro e w1 ⟨rfl, hb1⟩
        rw [hd]
        clear hd I1 I2
        go_wp2_with fail
        go_roundg (gk - 1)
        case measure => omega
        case rel => exact ⟨0 + 1, by omega, by omega, fun _ => HD, by go_num, bel⟩
    · have HT : Hid (decSnd n s = true) := (g1 (by omega)).out
      go_wp2_with fail
      go_ret
      exact ⟨ret_int (by rw [HT.out]; rfl), hbel⟩

theorem compareInt_eq (x y : Int) : Lib.compareInt x y = cmpI x y := by
  unfold Lib.compareInt cmpI
  rfl

/-- what Compare hands back -/
def cmpRes (n s n' s' : Int) : Value := if (decSnd n s && decSnd n' s') = true then .tuple #[.int .i64 (cmpD n s n' s'), .int .i64 0] else .tuple #[.int .i64 0, .int .i64 2]
theorem cmpRes_yes {n s n' s' : Int} (h : decSnd n s = true) (h' : decSnd n' s' = true) : cmpRes n s n' s' = .tuple #[.int .i64 (cmpD n s n' s'), .int .i64 0] := by
  unfold cmpRes; rw [h, h']; rfl
theorem cmpRes_no {n s n' s' : Int} (h : (decSnd n s && decSnd n' s') = false) : cmpRes n s n' s' = .tuple #[.int .i64 0, .int .i64 2] := by
  unfold cmpRes; rw [h]; rfl

set_option maxHeartbeats 1600000 in
theorem decCmp_any (n s n' s' : Int) (w : World) (hn : I64 n) (hs : I64 s) (hn' : I64 n') (hs' : I64 s') :
    Calls Tryd.prog 68 #[.agg #[.int .i64 n, .int .i64 s], .agg #[.int .i64 n', .int .i64 s']] w fun e w' => e = .returned (cmpRes n s n' s') ∧ Below w.heap.size w w' := by
  cases hd : (decSnd n s && decSnd n' s')
  · have HF := Lib.hid (cmpRes_no hd)
    go_enter Tryd.func68, Tryd.ntmps68
    go_wp2_with fail
    refine (all2_any _ n s n' s' _ (by first | omega | (simp only [sz_alloc, sz_set, sz_drew, sz_drewN, sz_iterAt, sz_iter] at *; omega) | (simp; done) | (simp; omega) | (simp at *; omega)) (by first | (simp [go_sem]; done) | (simp [go_sem, *]; done)) (by first | (simp [go_sem]; done) | (simp [go_sem, *]; done)) (by first | (simp [go_sem]; done) | (simp [go_sem, *]; done)) (by first | (simp [go_sem]; done) | (simp [go_sem, *]; done)) hn hs hn' hs').mono ?_
    rintro e w1 ⟨rfl, hb1⟩
    rw [hd, okE_false]
    clear hd
    go_wp2_with fail
    go_ret2
    exact ⟨by rw [HF.out]; rfl, bel⟩
  · have hd2 : decSnd n s = true ∧ decSnd n' s' = true := by simpa using hd
    have HF := Lib.hid (cmpRes_yes hd2.1 hd2.2)
    obtain ⟨a1, a2, a3, a4, -⟩ := decSnd_of hd2.1
    obtain ⟨b1, b2, b3, b4, -⟩ := decSnd_of hd2.2
    go_enter Tryd.func68, Tryd.ntmps68
    go_wp2_with fail
    refine (all2_any _ n s n' s' _ (by first | omega | (simp only [sz_alloc, sz_set, sz_drew, sz_drewN, sz_iterAt, sz_iter] at *; omega) | (simp; done) | (simp; omega) | (simp at *; omega)) (by first | (simp [go_sem]; done) | (simp [go_sem, *]; done)) (by first | (simp [go_sem]; done) | (simp [go_sem, *]; done)) (by first | (simp [go_sem]; done) | (simp [go_sem, *]; done)) (by first | (simp [go_sem]; done) | (simp [go_sem, *]; done)) hn hs hn' hs').mono ?_
    rintro e w1 ⟨rfl, hb1⟩
    rw [hd, okE_true]
    clear hd hd2 hn hs hn' hs'
    have hz1 := hb1.size
    try simp at hz1
    obtain ⟨q1_0, l1_0, r1_0⟩ := aft hb1 (w.heap.size)
    obtain ⟨q1_1, l1_1, r1_1⟩ := aft hb1 (w.heap.size + 1)
    go_wp2_with fail
    have kk0 : w1.cell? ⟨w.heap.size, 0, none⟩ = some (.int .i64 n) := cel
    have kk1 : w1.cell? ⟨w.heap.size, 1, none⟩ = some (.int .i64 s) := cel
    have kk2 : w1.cell? ⟨w.heap.size + 1, 0, none⟩ = some (.int .i64 n') := cel
    have kk3 : w1.cell? ⟨w.heap.size + 1, 1, none⟩ = some (.int .i64 s') := cel
    go_region_held3 (fun w' => Below w1.heap.size w1 w' ∧ w'.cell? ⟨w.heap.size, 0, none⟩ = some (.int .i64 n) ∧ w'.cell? ⟨w.heap.size, 1, none⟩ = some (.int .i64 s) ∧ w'.cell? ⟨w.heap.size + 1, 0, none⟩ = some (.int .i64 n') ∧ w'.cell? ⟨w.heap.size + 1, 1, none⟩ = some (.int .i64 s')) ((refine and_keep ?_ (fun hk => ⟨keep_cell hk l1_0 kk0, keep_cell hk l1_0 kk1, keep_cell hk l1_1 kk2, keep_cell hk l1_1 kk3⟩); exact bel))
      (first
        | (go_at_call 51; refine (units_any _ _ _ (by omega) (by omega) (by omega) (by omega)).mono ?_; rintro e w' ⟨rfl, hb'⟩)
        | (go_at_call 67; refine (Tryd.cmp_Compare_int _ _ _).mono ?_; rintro e w' ⟨rfl, rfl⟩))
    rw [compareInt_eq]
    go_wp2_with fail
    go_ret2
    exact ⟨by rw [HF.out]; rfl, bel⟩
end Go.Proofs.YtfhmjkdpohepaaaDoor

/- Comparisons: cmp.Compare[string], cmp.Or[int], soffit/value.order. -/
set_option linter.unusedSimpArgs false
set_option linter.unusedVariables false
namespace Go.Proofs.YtfhmjkdpohepaaaDoor
open Go.RowKit

/-- texts bytewise: -1, 0 or 1 -/
def cmpT (a b : ByteArray) : Int := if Op.bytesLess a.toList b.toList = true then -1 else if (a.toList == b.toList) = true then 0 else 1

set_option maxHeartbeats 400000 in
theorem isNaN_string (a : ByteArray) (w : World) : Calls Tryd.prog 84 #[.string a] w fun e w' => e = .returned (.bool false) ∧ w = w' := by
  go_enter Tryd.func84, Tryd.ntmps84
  go_wp2_with fail
  go_ret
  exact ⟨ret_bool (by simp), rfl⟩

set_option maxHeartbeats 400000 in
theorem cmpT_any (a b : ByteArray) (w : World) : Calls Tryd.prog 70 #[.string a, .string b] w fun e w' => e = .returned (.int .i64 (cmpT a b)) ∧ w = w' := by
  obtain ⟨C, hC⟩ : ∃ C, cmpT a b = C := ⟨_, rfl⟩
  rw [hC]
  have HC : Hid (C = if Op.bytesLess a.toList b.toList = true then -1 else if (a.toList == b.toList) = true then 0 else 1) := hC.symm
  clear hC
  go_enter Tryd.func70, Tryd.ntmps70
  go_wp2_with fail
  refine (isNaN_string a _).mono ?_
  rintro e w1 ⟨rfl, rfl⟩
  go_wp2_with fail
  refine (isNaN_string b _).mono ?_
  rintro e w1 ⟨rfl, rfl⟩
  go_wp2_with fail
  all_goals go_ret
  all_goals refine ⟨ret_int ?_, rfl⟩
  all_goals (rw [HC.out]; simp_all; done)

/-- the first of two numbers that is not 0 -/
def orI (x y : Int) : Int := if x = 0 then y else x
set_option maxHeartbeats 400000 in
/-- of two numbers the first that is not 0 -/
theorem or2_any (b : Nat) (x y : Int) (w : World) (hb : b < w.heap.size) (c0 : w.cell? ⟨b, 0, none⟩ = some (.int .i64 x)) (c1 : w.cell? ⟨b, 1, none⟩ = some (.int .i64 y)) :
    Calls Tryd.prog 69 #[.slice (some ⟨b, 0, none⟩) 2 2] w fun e w' => e = .returned (.int .i64 (orI x y)) ∧ w = w' := by
  obtain ⟨R, hR⟩ : ∃ R, orI x y = R := ⟨_, rfl⟩
  rw [hR]
  have HR : Hid (R = if x = 0 then y else x) := hR.symm
  clear hR
  go_enter Tryd.func69, Tryd.ntmps69
  go_wp2_with fail
  go_loopg [8] 2 (fun k i wr => ∃ j : Nat, j ≤ 2 ∧ 2 - j ≤ k ∧ (1 ≤ j → Hid (x = 0)) ∧ (2 ≤ j → Hid (y = 0)) ∧ i = .int .i64 j ∧ w = wr)
  case atStart => exact ⟨0, by omega, by omega, fun h => by omega, fun h => by omega, rfl, rfl⟩
  case round =>
    obtain ⟨j, hj, hjk, g1, g2, rfl, rfl⟩ := hrel
    have hj3 : j = 0 ∨ j = 1 ∨ j = 2 := by omega
    rcases hj3 with rfl | rfl | rfl
    · by_cases hx : x = 0
      · have HX := Lib.hid hx
        have e : (x != 0) = false := by simp [hx]
        clear hx
        go_wp2_with fail
        go_roundg (gk - 1)
        case measure => omega
        case rel => exact ⟨0 + 1, by omega, by omega, fun _ => HX, fun h => by omega, by go_num, rfl⟩
      · have HX := Lib.hid hx
        have e : (x != 0) = true := by simp [hx]
        clear hx
        go_wp2_with fail
        go_ret
        exact ⟨ret_int (by rw [HR.out, if_neg HX.out]), rfl⟩
    · have HX := g1 (by omega)
      by_cases hy : y = 0
      · have HY := Lib.hid hy
        have e : (y != 0) = false := by simp [hy]
        clear hy
        go_wp2_with fail
        go_roundg (gk - 1)
        case measure => omega
        case rel => exact ⟨1 + 1, by omega, by omega, fun _ => HX, fun _ => HY, by go_num, rfl⟩
      · have e : (y != 0) = true := by simp [hy]
        clear hy
        go_wp2_with fail
        go_ret
        exact ⟨ret_int (by rw [HR.out, if_pos HX.out]), rfl⟩
    · have HX := g1 (by omega)
      have HY := g2 (by omega)
      go_wp2_with fail
      go_ret
      exact ⟨ret_int (by rw [HR.out, if_pos HX.out, HY.out]), rfl⟩

/-- values in their order: -1, 0 or 1 -/
def cmpV (a b : Vl) : Int :=
  if a.k = b.k then (if a.k = 1 then cmpD a.n a.s b.n b.s else orI (cmpT a.t b.t) (cmpI a.i b.i)) else cmpI a.k b.k

theorem sndB_dec {v : Vl} (h : sndB v = true) (hk : v.k = 1) : decSnd v.n v.s = true := by
  unfold sndB at h
  rw [if_neg (by omega), if_pos hk] at h
  simp only [Bool.and_eq_true] at h
  exact h.2

set_option maxHeartbeats 1600000 in
theorem order_any (a b : Vl) (w : World) (ha : a.wf) (hb : b.wf) (sa : sndB a = true) (sb : sndB b = true) :
    Calls Tryd.prog 55 #[.agg #[.int .i64 a.k, .int .i64 a.n, .int .i64 a.s, .string a.t, .int .i64 a.i], .agg #[.int .i64 b.k, .int .i64 b.n, .int .i64 b.s, .string b.t, .int .i64 b.i]] w fun e w' =>
      e = .returned (.int .i64 (cmpV a b)) ∧ Below w.heap.size w w' := by
  obtain ⟨C, hC⟩ : ∃ C, cmpV a b = C := ⟨_, rfl⟩
  rw [hC]
  by_cases hk : a.k = b.k
  · have e1 : (a.k != b.k) = false := by simp [hk]
    by_cases h1 : a.k = 1
    · have HC : Hid (C = cmpD a.n a.s b.n b.s) := by rw [← hC]; unfold cmpV; rw [if_pos hk, if_pos h1]; exact rfl
      have HM := Lib.hid (cmpRes_yes (sndB_dec sa h1) (sndB_dec sb (by omega)))
      have I1 := ha.n
      have I2 := ha.s
      have I3 := hb.n
      have I4 := hb.s
      have e2 : (a.k == 1) = true := by simp [h1]
      clear hk h1 hC sa sb ha hb
      go_enter Tryd.func55, Tryd.ntmps55
      go_wp2_with fail
      refine (decCmp_any _ _ _ _ _ I1 I2 I3 I4).mono ?_
      rintro e w1 ⟨rfl, hb1⟩
      rw [HM.out]
      go_wp2_with fail
      go_ret
      exact ⟨ret_int HC.out.symm, bel⟩
    · have HC : Hid (C = orI (cmpT a.t b.t) (cmpI a.i b.i)) := by rw [← hC]; unfold cmpV; rw [if_pos hk, if_neg h1]; exact rfl
      have e2 : (a.k == 1) = false := by simp [h1]
      clear hk h1 hC sa sb ha hb
      go_enter Tryd.func55, Tryd.ntmps55
      go_wp2_with fail
      generalize hEW0 : (w.alloc _).alloc _ = W0
      have hbW0 : Below w.heap.size w W0 := (by rw [← hEW0]; exact bel)
      have lW0_0 : w.heap.size < W0.heap.size := lsz hEW0
      have qW0_0 : ∀ o, W0.cell? ⟨w.heap.size, o, none⟩ = _ := fun o => congrArg (fun W : World => W.cell? ⟨w.heap.size, o, none⟩) hEW0.symm
      have rW0_0 : ∀ o, W0.frozen? ⟨w.heap.size, o, none⟩ = _ := fun o => congrArg (fun W : World => W.frozen? ⟨w.heap.size, o, none⟩) hEW0.symm
      have lW0_1 : w.heap.size + 1 < W0.heap.size := lsz hEW0
      have qW0_1 : ∀ o, W0.cell? ⟨w.heap.size + 1, o, none⟩ = _ := fun o => congrArg (fun W : World => W.cell? ⟨w.heap.size + 1, o, none⟩) hEW0.symm
      have rW0_1 : ∀ o, W0.frozen? ⟨w.heap.size + 1, o, none⟩ = _ := fun o => congrArg (fun W : World => W.frozen? ⟨w.heap.size + 1, o, none⟩) hEW0.symm
      clear hEW0
      have kk0 : W0.cell? ⟨w.heap.size, 3, none⟩ = some (.string a.t) := cel
      have kk1 : W0.cell? ⟨w.heap.size, 4, none⟩ = some (.int .i64 a.i) := cel
      have kk2 : W0.cell? ⟨w.heap.size + 1, 3, none⟩ = some (.string b.t) := cel
      have kk3 : W0.cell? ⟨w.heap.size + 1, 4, none⟩ = some (.int .i64 b.i) := cel
      go_region_held3 (fun w' => Below W0.heap.size W0 w' ∧ w'.cell? ⟨w.heap.size, 3, none⟩ = some (.string a.t) ∧ w'.cell? ⟨w.heap.size, 4, none⟩ = some (.int .i64 a.i) ∧ w'.cell? ⟨w.heap.size + 1, 3, none⟩ = some (.string b.t) ∧ w'.cell? ⟨w.heap.size + 1, 4, none⟩ = some (.int .i64 b.i)) ((refine and_keep ?_ (fun hk => ⟨keep_cell hk lW0_0 kk0, keep_cell hk lW0_0 kk1, keep_cell hk lW0_1 kk2, keep_cell hk lW0_1 kk3⟩); exact bel))
        (first
          | (go_at_call 70; refine (cmpT_any _ _ _).mono ?_; rintro e w' ⟨rfl, rfl⟩)
          | (go_at_call 67; refine (Tryd.cmp_Compare_int _ _ _).mono ?_; rintro e w' ⟨rfl, rfl⟩)
          | (go_at_call 69; refine (or2_any _ (cmpT a.t b.t) (Lib.compareInt a.i b.i) _ (by first | omega | (simp only [sz_alloc, sz_set, sz_drew, sz_drewN, sz_iterAt, sz_iter] at *; omega) | (simp; done) | (simp; omega) | (simp at *; omega)) (by first | (simp [go_sem]; done) | (simp [go_sem, *]; done)) (by first | (simp [go_sem]; done) | (simp [go_sem, *]; done))).mono ?_; rintro e w' ⟨rfl, rfl⟩))
      rw [compareInt_eq]
      go_wp2_with fail
      go_ret
      exact ⟨ret_int HC.out.symm, bel⟩
  · have HC : Hid (C = cmpI a.k b.k) := by rw [← hC]; unfold cmpV; rw [if_neg hk]; exact rfl
    have e1 : (a.k != b.k) = true := by simp [hk]
    clear hk hC sa sb ha hb
    go_enter Tryd.func55, Tryd.ntmps55
    go_wp2_with fail
    refine (Tryd.cmp_Compare_int _ _ _).mono ?_
    rintro e w' ⟨rfl, rfl⟩
    rw [compareInt_eq]
    go_wp2_with fail
    go_ret
    exact ⟨ret_int HC.out.symm, bel⟩
/-- what Compare hands back -/
def cmpVRes (a b : Vl) : Value := if (sndB a && sndB b) = true then .tuple #[.int .i64 (cmpV a b), .int .i64 0] else .tuple #[.int .i64 0, .int .i64 2]
end Go.Proofs.YtfhmjkdpohepaaaDoor
