/- (soffit/policy.outs).first, walked; slices.Index, Contains at the values of it. -/
import Derived.Test.YtfhmjkdpohepaaaDoorEqV
import Derived.Test.YtfhmjkdpohepaaaDoorVals
set_option linter.unusedSimpArgs false
set_option linter.unusedVariables false
namespace Go.Proofs.YtfhmjkdpohepaaaDoor
open Go.RowKit

set_option maxRecDepth 100000 in
set_option maxHeartbeats 800000 in
theorem outsIndex (x : Vl) (xs : List Vl) (A : Option Addr) (c : Nat) (w : World) (hr : RdL w 5 A (xs.map Vl.cells5)) (hn : xs.length ≤ 9223372036854775807) :
    Calls Tryd.prog 49 #[.slice A xs.length c, .agg #[.int .i64 x.k, .int .i64 x.n, .int .i64 x.s, .string x.t, .int .i64 x.i]] w fun e w' => e = .returned (.int .i64 (idxF (fun y => eqB x y) xs 0)) ∧ Below w.heap.size w w' := by
  go_enter Tryd.func49, Tryd.ntmps49
  go_wp2_with fail
  generalize hEW0 : w.alloc _ = W0
  have hbW0 : Below w.heap.size w W0 := (by rw [← hEW0]; exact (by repeat' (first | (with_reducible exact Below.refl _ _) | (with_reducible assumption) | (with_reducible refine Below.drew ?_) | (with_reducible refine below_drewN ?_ _) | (with_reducible refine below_iterAt ?_ ?_ _ _) | (with_reducible refine below_iter ?_ ?_ _ _) | (with_reducible refine Below.alloc ?_ ?_ _) | (with_reducible refine Below.setCell ?_ ?_ _) | (with_reducible refine Below.trans ?_ (Below.mono (by assumption) ?_)) | (simp only [sz_alloc, sz_set, sz_drew, sz_drewN, sz_iterAt, sz_iter] at *; omega) | omega | (simp; done) | (simp; omega) | (apply Below.size; assumption) | (simp only [sz_drew, sz_drewN]; apply Below.size; assumption) | (refine Nat.le_trans ?_ (Below.size (by assumption))))))
  have lW0_0 : w.heap.size < W0.heap.size := (by rw [← hEW0]; first | omega | (simp only [sz_alloc, sz_set, sz_drew, sz_drewN, sz_iterAt, sz_iter] at *; omega) | (simp; done) | (simp; omega) | (simp at *; omega))
  have qW0_0 : ∀ o, W0.cell? ⟨w.heap.size, o, none⟩ = _ := fun o => congrArg (fun W : World => W.cell? ⟨w.heap.size, o, none⟩) hEW0.symm
  have rW0_0 : ∀ o, W0.frozen? ⟨w.heap.size, o, none⟩ = _ := fun o => congrArg (fun W : World => W.frozen? ⟨w.heap.size, o, none⟩) hEW0.symm
  clear hEW0
  have k0 : W0.cell? ⟨w.heap.size, 0, none⟩ = some (.int .i64 x.k) := (by first | (simp [go_sem]; done) | (simp [go_sem, *]; done))
  have k1 : W0.cell? ⟨w.heap.size, 1, none⟩ = some (.int .i64 x.n) := (by first | (simp [go_sem]; done) | (simp [go_sem, *]; done))
  have k2 : W0.cell? ⟨w.heap.size, 2, none⟩ = some (.int .i64 x.s) := (by first | (simp [go_sem]; done) | (simp [go_sem, *]; done))
  have k3 : W0.cell? ⟨w.heap.size, 3, none⟩ = some (.string x.t) := (by first | (simp [go_sem]; done) | (simp [go_sem, *]; done))
  have k4 : W0.cell? ⟨w.heap.size, 4, none⟩ = some (.int .i64 x.i) := (by first | (simp [go_sem]; done) | (simp [go_sem, *]; done))
  have hr2 := hr.below hbW0
  clear qW0_0 rW0_0 hr
  go_loopg [8] xs.length (fun k i wr => ∃ j : Nat, j ≤ xs.length ∧ xs.length - j ≤ k ∧ Hid (idxF (fun y => eqB x y) xs 0 = idxF (fun y => eqB x y) (xs.drop j) j) ∧ i = .int .i64 j ∧ Below W0.heap.size W0 wr)
  case atStart => exact ⟨0, by omega, by omega, rfl, rfl, Below.refl _ _⟩
  case round =>
    obtain ⟨j, hj, hjk, hi, rfl, hbel⟩ := hrel
    by_cases hlt : j < xs.length
    · obtain ⟨b, off, rfl, hx⟩ := (hr2.below hbel).at_ hlt
      have hyes := fun h => idxF_drop_yes (p := fun y => eqB x y) hlt h
      have hno := fun h => idxF_drop_no (p := fun y => eqB x y) hlt h
      generalize hX : xs[j]'hlt = y at *
      have y0 : wr.cell? ⟨b, off + j * 5, none⟩ = some (.int .i64 y.k) := hx.get 0 rfl
      have y1 : wr.cell? ⟨b, off + j * 5 + 1, none⟩ = some (.int .i64 y.n) := hx.get 1 rfl
      have y2 : wr.cell? ⟨b, off + j * 5 + 2, none⟩ = some (.int .i64 y.s) := hx.get 2 rfl
      have y3 : wr.cell? ⟨b, off + j * 5 + 3, none⟩ = some (.string y.t) := hx.get 3 rfl
      have y4 : wr.cell? ⟨b, off + j * 5 + 4, none⟩ = some (.int .i64 y.i) := hx.get 4 rfl
      have m0 := cell_below hbel k0
      have m1 := cell_below hbel k1
      have m2 := cell_below hbel k2
      have m3 := cell_below hbel k3
      have m4 := cell_below hbel k4
      have HYES := Lib.hid hyes
      have HNO := Lib.hid hno
      have hsz := hbel.size
      have hq := fun W : World => eqV_run x y W
      clear hyes hno hX hx
      cases hp : eqB x y
      · have HN := Lib.hid (HNO.out hp)
        rw [hp] at hq
        clear hp
        go_wp2_with fail
        go_region
        go_wp2_with fail
        go_roundg (gk - 1)
        case measure => omega
        case rel => exact ⟨j + 1, by omega, by omega, hi.out.trans HN.out, by go_num, (by repeat' (first | (with_reducible exact Below.refl _ _) | (with_reducible assumption) | (with_reducible refine Below.drew ?_) | (with_reducible refine below_drewN ?_ _) | (with_reducible refine below_iterAt ?_ ?_ _ _) | (with_reducible refine below_iter ?_ ?_ _ _) | (with_reducible refine Below.alloc ?_ ?_ _) | (with_reducible refine Below.setCell ?_ ?_ _) | (with_reducible refine Below.trans ?_ (Below.mono (by assumption) ?_)) | (simp only [sz_alloc, sz_set, sz_drew, sz_drewN, sz_iterAt, sz_iter] at *; omega) | omega | (simp; done) | (simp; omega) | (apply Below.size; assumption) | (simp only [sz_drew, sz_drewN]; apply Below.size; assumption) | (refine Nat.le_trans ?_ (Below.size (by assumption)))))⟩
      · have HY := Lib.hid (HYES.out hp)
        rw [hp] at hq
        clear hp
        go_wp2_with fail
        go_region
        go_wp2_with fail
        go_ret
        exact ⟨ret_int (by rw [hi.out, HY.out]), (by repeat' (first | (with_reducible exact Below.refl _ _) | (with_reducible assumption) | (with_reducible refine Below.drew ?_) | (with_reducible refine below_drewN ?_ _) | (with_reducible refine below_iterAt ?_ ?_ _ _) | (with_reducible refine below_iter ?_ ?_ _ _) | (with_reducible refine Below.alloc ?_ ?_ _) | (with_reducible refine Below.setCell ?_ ?_ _) | (with_reducible refine Below.trans ?_ (Below.mono (by assumption) ?_)) | (simp only [sz_alloc, sz_set, sz_drew, sz_drewN, sz_iterAt, sz_iter] at *; omega) | omega | (simp; done) | (simp; omega) | (apply Below.size; assumption) | (simp only [sz_drew, sz_drewN]; apply Below.size; assumption) | (refine Nat.le_trans ?_ (Below.size (by assumption)))))⟩
    · have HE := Lib.hid (idxF_drop_end (p := fun y => eqB x y) hlt)
      go_wp2_with fail
      go_ret
      exact ⟨ret_int (by rw [hi.out, HE.out]), (by repeat' (first | (with_reducible exact Below.refl _ _) | (with_reducible assumption) | (with_reducible refine Below.drew ?_) | (with_reducible refine below_drewN ?_ _) | (with_reducible refine below_iterAt ?_ ?_ _ _) | (with_reducible refine below_iter ?_ ?_ _ _) | (with_reducible refine Below.alloc ?_ ?_ _) | (with_reducible refine Below.setCell ?_ ?_ _) | (with_reducible refine Below.trans ?_ (Below.mono (by assumption) ?_)) | (simp only [sz_alloc, sz_set, sz_drew, sz_drewN, sz_iterAt, sz_iter] at *; omega) | omega | (simp; done) | (simp; omega) | (apply Below.size; assumption) | (simp only [sz_drew, sz_drewN]; apply Below.size; assumption) | (refine Nat.le_trans ?_ (Below.size (by assumption)))))⟩

set_option maxHeartbeats 400000 in
theorem outsContains (x : Vl) (xs : List Vl) (A : Option Addr) (c : Nat) (w : World) (hr : RdL w 5 A (xs.map Vl.cells5)) (hn : xs.length ≤ 9223372036854775807) :
    Calls Tryd.prog 34 #[.slice A xs.length c, .agg #[.int .i64 x.k, .int .i64 x.n, .int .i64 x.s, .string x.t, .int .i64 x.i]] w fun e w' => e = .returned (.bool (xs.any (fun y => eqB x y))) ∧ Below w.heap.size w w' := by
  have HA := Lib.hid (idxF_any (fun y => eqB x y) xs 0)
  go_enter Tryd.func34, Tryd.ntmps34
  go_wp2_with fail
  refine (outsIndex x xs A c _ (hr.below (by repeat' (first | (with_reducible exact Below.refl _ _) | (with_reducible assumption) | (with_reducible refine Below.drew ?_) | (with_reducible refine below_drewN ?_ _) | (with_reducible refine below_iterAt ?_ ?_ _ _) | (with_reducible refine below_iter ?_ ?_ _ _) | (with_reducible refine Below.alloc ?_ ?_ _) | (with_reducible refine Below.setCell ?_ ?_ _) | (with_reducible refine Below.trans ?_ (Below.mono (by assumption) ?_)) | (simp only [sz_alloc, sz_set, sz_drew, sz_drewN, sz_iterAt, sz_iter] at *; omega) | omega | (simp; done) | (simp; omega) | (apply Below.size; assumption) | (simp only [sz_drew, sz_drewN]; apply Below.size; assumption) | (refine Nat.le_trans ?_ (Below.size (by assumption)))))) hn).mono ?_
  rintro e w1 ⟨rfl, hb1⟩
  generalize idxF (fun y => eqB x y) xs 0 = r at *
  go_wp2_with fail
  go_ret
  exact ⟨ret_bool HA.out, (by repeat' (first | (with_reducible exact Below.refl _ _) | (with_reducible assumption) | (with_reducible refine Below.drew ?_) | (with_reducible refine below_drewN ?_ _) | (with_reducible refine below_iterAt ?_ ?_ _ _) | (with_reducible refine below_iter ?_ ?_ _ _) | (with_reducible refine Below.alloc ?_ ?_ _) | (with_reducible refine Below.setCell ?_ ?_ _) | (with_reducible refine Below.trans ?_ (Below.mono (by assumption) ?_)) | (simp only [sz_alloc, sz_set, sz_drew, sz_drewN, sz_iterAt, sz_iter] at *; omega) | omega | (simp; done) | (simp; omega) | (apply Below.size; assumption) | (simp only [sz_drew, sz_drewN]; apply Below.size; assumption) | (refine Nat.le_trans ?_ (Below.size (by assumption)))))⟩

/-- the output of a rule -/
def pickV (os : List Vl) (x : Int) : Vl := (os[x.toNat]?).getD Vl.zero
/-- the first of an order that is one of some; else the first of these -/
def firstV (o : Vl) (os : List Vl) : List Vl → Vl
  | [] => o
  | v :: r => if (os.any (fun y => eqB v y)) = true then v else firstV o os r
theorem firstV_yes {o : Vl} {os xs : List Vl} {j : Nat} (hj : j < xs.length) (h : (os.any (fun y => eqB (xs[j]'hj) y)) = true) : firstV o os (xs.drop j) = xs[j]'hj := by
  rw [List.drop_eq_getElem_cons hj]
  exact if_pos h
theorem firstV_no {o : Vl} {os xs : List Vl} {j : Nat} (hj : j < xs.length) (h : (os.any (fun y => eqB (xs[j]'hj) y)) = false) : firstV o os (xs.drop j) = firstV o os (xs.drop (j + 1)) := by
  rw [List.drop_eq_getElem_cons hj]
  exact if_neg (by rw [h]; simp)
theorem firstV_end {o : Vl} {os xs : List Vl} {j : Nat} (hj : ¬ j < xs.length) : firstV o os (xs.drop j) = o := by
  rw [List.drop_eq_nil_of_le (by omega)]
  rfl

set_option maxRecDepth 100000 in
set_option maxHeartbeats 1600000 in
theorem first_any (o : Vl) (r od : List Vl) (A B : Option Addr) (c d : Nat) (w : World) (hr : RdL w 5 A ((o :: r).map Vl.cells5)) (ho : RdL w 5 B (od.map Vl.cells5)) (hn : (o :: r).length ≤ 9223372036854775807) (hm : od.length ≤ 9223372036854775807) :
    Calls Tryd.prog 19 #[.slice A (o :: r).length c, .slice B od.length d] w fun e w' =>
      e = .returned (.agg #[.int .i64 (firstV o (o :: r) od).k, .int .i64 (firstV o (o :: r) od).n, .int .i64 (firstV o (o :: r) od).s, .string (firstV o (o :: r) od).t, .int .i64 (firstV o (o :: r) od).i]) ∧ Below w.heap.size w w' := by
  obtain ⟨R, hR⟩ : ∃ R, firstV o (o :: r) od = R := ⟨_, rfl⟩
  rw [hR]
  have HR : Hid (R = firstV o (o :: r) (od.drop 0)) := hR.symm
  clear hR
  obtain ⟨os, hos⟩ : ∃ os, o :: r = os := ⟨_, rfl⟩
  have h0 : os[0]? = some o := by rw [← hos]; rfl
  have hpos : 0 < os.length := by rw [← hos]; simp
  rw [hos] at HR hr hn ⊢
  clear hos
  go_enter Tryd.func19, Tryd.ntmps19
  go_wp2_with fail
  generalize hEW0 : w.alloc _ = W0
  have hbW0 : Below w.heap.size w W0 := (by rw [← hEW0]; exact (by repeat' (first | (with_reducible exact Below.refl _ _) | (with_reducible assumption) | (with_reducible refine Below.drew ?_) | (with_reducible refine below_drewN ?_ _) | (with_reducible refine below_iterAt ?_ ?_ _ _) | (with_reducible refine below_iter ?_ ?_ _ _) | (with_reducible refine Below.alloc ?_ ?_ _) | (with_reducible refine Below.setCell ?_ ?_ _) | (with_reducible refine Below.trans ?_ (Below.mono (by assumption) ?_)) | (simp only [sz_alloc, sz_set, sz_drew, sz_drewN, sz_iterAt, sz_iter] at *; omega) | omega | (simp; done) | (simp; omega) | (apply Below.size; assumption) | (simp only [sz_drew, sz_drewN]; apply Below.size; assumption) | (refine Nat.le_trans ?_ (Below.size (by assumption))))))
  have lW0_0 : w.heap.size < W0.heap.size := (by rw [← hEW0]; first | omega | (simp only [sz_alloc, sz_set, sz_drew, sz_drewN, sz_iterAt, sz_iter] at *; omega) | (simp; done) | (simp; omega) | (simp at *; omega))
  have qW0_0 : ∀ o, W0.cell? ⟨w.heap.size, o, none⟩ = _ := fun o => congrArg (fun W : World => W.cell? ⟨w.heap.size, o, none⟩) hEW0.symm
  have rW0_0 : ∀ o, W0.frozen? ⟨w.heap.size, o, none⟩ = _ := fun o => congrArg (fun W : World => W.frozen? ⟨w.heap.size, o, none⟩) hEW0.symm
  clear hEW0
  go_loopg [9] od.length (fun k i wr => ∃ j : Nat, j ≤ od.length ∧ od.length - j ≤ k ∧ Hid (R = firstV o os (od.drop j)) ∧ i = .int .i64 j ∧ Below W0.heap.size W0 wr)
  case atStart => exact ⟨0, by omega, by omega, HR, rfl, Below.refl _ _⟩
  case round =>
    obtain ⟨j, hj, hjk, hi, rfl, hbel⟩ := hrel
    have hsz := hbel.size
    have qr_0 := fun o => (hbel.cell (p := ⟨w.heap.size, o, none⟩) lW0_0).trans (qW0_0 o)
    have rr_0 := fun o => (hbel.frozen (p := ⟨w.heap.size, o, none⟩) lW0_0).trans (rW0_0 o)
    have lr_0 : w.heap.size < wr.heap.size := by omega
    by_cases hlt : j < od.length
    · obtain ⟨b, off, rfl, hx⟩ := ((ho.below hbW0).below hbel).at_ hlt
      have hyes := fun h => firstV_yes (o := o) (os := os) hlt h
      have hno := fun h => firstV_no (o := o) (os := os) hlt h
      generalize hX : od[j]'hlt = x at *
      have y0 : wr.cell? ⟨b, off + j * 5, none⟩ = some (.int .i64 x.k) := hx.get 0 rfl
      have y1 : wr.cell? ⟨b, off + j * 5 + 1, none⟩ = some (.int .i64 x.n) := hx.get 1 rfl
      have y2 : wr.cell? ⟨b, off + j * 5 + 2, none⟩ = some (.int .i64 x.s) := hx.get 2 rfl
      have y3 : wr.cell? ⟨b, off + j * 5 + 3, none⟩ = some (.string x.t) := hx.get 3 rfl
      have y4 : wr.cell? ⟨b, off + j * 5 + 4, none⟩ = some (.int .i64 x.i) := hx.get 4 rfl
      have HYES := Lib.hid hyes
      have HNO := Lib.hid hno
      clear hyes hno hX hx
      cases hp : os.any (fun y => eqB x y)
      · have HN := Lib.hid (HNO.out hp)
        go_wp2_with fail
        refine (outsContains x os A c _ (hr.below (by repeat' (first | (with_reducible exact Below.refl _ _) | (with_reducible assumption) | (with_reducible refine Below.drew ?_) | (with_reducible refine below_drewN ?_ _) | (with_reducible refine below_iterAt ?_ ?_ _ _) | (with_reducible refine below_iter ?_ ?_ _ _) | (with_reducible refine Below.alloc ?_ ?_ _) | (with_reducible refine Below.setCell ?_ ?_ _) | (with_reducible refine Below.trans ?_ (Below.mono (by assumption) ?_)) | (simp only [sz_alloc, sz_set, sz_drew, sz_drewN, sz_iterAt, sz_iter] at *; omega) | omega | (simp; done) | (simp; omega) | (apply Below.size; assumption) | (simp only [sz_drew, sz_drewN]; apply Below.size; assumption) | (refine Nat.le_trans ?_ (Below.size (by assumption)))))) hn).mono ?_
        rintro e w1 ⟨rfl, hb1⟩
        rw [hp]
        clear hp
        go_wp2_with fail
        go_roundg (gk - 1)
        case measure => omega
        case rel => exact ⟨j + 1, by omega, by omega, hi.out.trans HN.out, by go_num, (by repeat' (first | (with_reducible exact Below.refl _ _) | (with_reducible assumption) | (with_reducible refine Below.drew ?_) | (with_reducible refine below_drewN ?_ _) | (with_reducible refine below_iterAt ?_ ?_ _ _) | (with_reducible refine below_iter ?_ ?_ _ _) | (with_reducible refine Below.alloc ?_ ?_ _) | (with_reducible refine Below.setCell ?_ ?_ _) | (with_reducible refine Below.trans ?_ (Below.mono (by assumption) ?_)) | (simp only [sz_alloc, sz_set, sz_drew, sz_drewN, sz_iterAt, sz_iter] at *; omega) | omega | (simp; done) | (simp; omega) | (apply Below.size; assumption) | (simp only [sz_drew, sz_drewN]; apply Below.size; assumption) | (refine Nat.le_trans ?_ (Below.size (by assumption)))))⟩
      · have HY := Lib.hid (HYES.out hp)
        have HV : R = x := hi.out.trans HY.out
        subst HV
        go_wp2_with fail
        generalize hEW2 : wr.alloc _ = W2
        have hbW2 : Below w.heap.size w W2 := (by rw [← hEW2]; exact (by repeat' (first | (with_reducible exact Below.refl _ _) | (with_reducible assumption) | (with_reducible refine Below.drew ?_) | (with_reducible refine below_drewN ?_ _) | (with_reducible refine below_iterAt ?_ ?_ _ _) | (with_reducible refine below_iter ?_ ?_ _ _) | (with_reducible refine Below.alloc ?_ ?_ _) | (with_reducible refine Below.setCell ?_ ?_ _) | (with_reducible refine Below.trans ?_ (Below.mono (by assumption) ?_)) | (simp only [sz_alloc, sz_set, sz_drew, sz_drewN, sz_iterAt, sz_iter] at *; omega) | omega | (simp; done) | (simp; omega) | (apply Below.size; assumption) | (simp only [sz_drew, sz_drewN]; apply Below.size; assumption) | (refine Nat.le_trans ?_ (Below.size (by assumption))))))
        have lW2_0 : wr.heap.size < W2.heap.size := (by rw [← hEW2]; first | omega | (simp only [sz_alloc, sz_set, sz_drew, sz_drewN, sz_iterAt, sz_iter] at *; omega) | (simp; done) | (simp; omega) | (simp at *; omega))
        have qW2_0 : ∀ o, W2.cell? ⟨wr.heap.size, o, none⟩ = _ := fun o => congrArg (fun W : World => W.cell? ⟨wr.heap.size, o, none⟩) hEW2.symm
        have rW2_0 : ∀ o, W2.frozen? ⟨wr.heap.size, o, none⟩ = _ := fun o => congrArg (fun W : World => W.frozen? ⟨wr.heap.size, o, none⟩) hEW2.symm
        have lW2_1 : w.heap.size < W2.heap.size := (by rw [← hEW2]; first | omega | (simp only [sz_alloc, sz_set, sz_drew, sz_drewN, sz_iterAt, sz_iter] at *; omega) | (simp; done) | (simp; omega) | (simp at *; omega))
        have qW2_1 : ∀ o, W2.cell? ⟨w.heap.size, o, none⟩ = _ := fun o => congrArg (fun W : World => W.cell? ⟨w.heap.size, o, none⟩) hEW2.symm
        have rW2_1 : ∀ o, W2.frozen? ⟨w.heap.size, o, none⟩ = _ := fun o => congrArg (fun W : World => W.frozen? ⟨w.heap.size, o, none⟩) hEW2.symm
        clear hEW2
        refine (outsContains R os A c _ (hr.below (by repeat' (first | (with_reducible exact Below.refl _ _) | (with_reducible assumption) | (with_reducible refine Below.drew ?_) | (with_reducible refine below_drewN ?_ _) | (with_reducible refine below_iterAt ?_ ?_ _ _) | (with_reducible refine below_iter ?_ ?_ _ _) | (with_reducible refine Below.alloc ?_ ?_ _) | (with_reducible refine Below.setCell ?_ ?_ _) | (with_reducible refine Below.trans ?_ (Below.mono (by assumption) ?_)) | (simp only [sz_alloc, sz_set, sz_drew, sz_drewN, sz_iterAt, sz_iter] at *; omega) | omega | (simp; done) | (simp; omega) | (apply Below.size; assumption) | (simp only [sz_drew, sz_drewN]; apply Below.size; assumption) | (refine Nat.le_trans ?_ (Below.size (by assumption)))))) hn).mono ?_
        rintro e w1 ⟨rfl, hb1⟩
        rw [hp]
        clear hp
        obtain ⟨hc1, hf1⟩ := bcell hb1
        have hz1 := hb1.size
        try simp at hz1
        have q1_0 := fun o => hc1 (wr.heap.size) o (by first | omega | (simp only [sz_alloc, sz_set, sz_drew, sz_drewN, sz_iterAt, sz_iter] at *; omega) | (simp; done) | (simp; omega) | (simp at *; omega))
        have l1_0 : wr.heap.size < w1.heap.size := by omega
        have r1_0 := fun o => hf1 (wr.heap.size) o (by first | omega | (simp only [sz_alloc, sz_set, sz_drew, sz_drewN, sz_iterAt, sz_iter] at *; omega) | (simp; done) | (simp; omega) | (simp at *; omega))
        have q1_1 := fun o => hc1 (w.heap.size) o (by first | omega | (simp only [sz_alloc, sz_set, sz_drew, sz_drewN, sz_iterAt, sz_iter] at *; omega) | (simp; done) | (simp; omega) | (simp at *; omega))
        have l1_1 : w.heap.size < w1.heap.size := by omega
        have r1_1 := fun o => hf1 (w.heap.size) o (by first | omega | (simp only [sz_alloc, sz_set, sz_drew, sz_drewN, sz_iterAt, sz_iter] at *; omega) | (simp; done) | (simp; omega) | (simp at *; omega))
        clear hc1 hf1
        go_wp2_with fail
        refine bodyPost_ret (v := .agg #[.int .i64 R.k, .int .i64 R.n, .int .i64 R.s, .string R.t, .int .i64 R.i]) (by simp [results, Tryd.results19, go_sem, *]) rfl ⟨?_, (by repeat' (first | (with_reducible exact Below.refl _ _) | (with_reducible assumption) | (with_reducible refine Below.drew ?_) | (with_reducible refine below_drewN ?_ _) | (with_reducible refine below_iterAt ?_ ?_ _ _) | (with_reducible refine below_iter ?_ ?_ _ _) | (with_reducible refine Below.alloc ?_ ?_ _) | (with_reducible refine Below.setCell ?_ ?_ _) | (with_reducible refine Below.trans ?_ (Below.mono (by assumption) ?_)) | (simp only [sz_alloc, sz_set, sz_drew, sz_drewN, sz_iterAt, sz_iter] at *; omega) | omega | (simp; done) | (simp; omega) | (apply Below.size; assumption) | (simp only [sz_drew, sz_drewN]; apply Below.size; assumption) | (refine Nat.le_trans ?_ (Below.size (by assumption)))))⟩
        rfl
    · have HE := Lib.hid (firstV_end (o := o) (os := os) hlt)
      have HV : R = o := hi.out.trans HE.out
      subst HV
      obtain ⟨b, off, rfl, hx⟩ := (((hr.below hbW0).below hbel).at_ hpos)
      have he : os[0]'hpos = R := Option.some.inj ((List.getElem?_eq_getElem hpos).symm.trans h0)
      rw [he] at hx
      have y0 : wr.cell? ⟨b, off, none⟩ = some (.int .i64 R.k) := by have := hx.get 0 rfl; simpa using this
      have y1 : wr.cell? ⟨b, off + 1, none⟩ = some (.int .i64 R.n) := by have := hx.get 1 rfl; simpa using this
      have y2 : wr.cell? ⟨b, off + 2, none⟩ = some (.int .i64 R.s) := by have := hx.get 2 rfl; simpa using this
      have y3 : wr.cell? ⟨b, off + 3, none⟩ = some (.string R.t) := by have := hx.get 3 rfl; simpa using this
      have y4 : wr.cell? ⟨b, off + 4, none⟩ = some (.int .i64 R.i) := by have := hx.get 4 rfl; simpa using this
      have i0 : (0 : Int) < (os.length : Int) := by omega
      clear he hx
      go_wp2_with fail
      refine bodyPost_ret (v := .agg #[.int .i64 R.k, .int .i64 R.n, .int .i64 R.s, .string R.t, .int .i64 R.i]) (by simp [results, Tryd.results19, go_sem, *]) rfl ⟨?_, (by repeat' (first | (with_reducible exact Below.refl _ _) | (with_reducible assumption) | (with_reducible refine Below.drew ?_) | (with_reducible refine below_drewN ?_ _) | (with_reducible refine below_iterAt ?_ ?_ _ _) | (with_reducible refine below_iter ?_ ?_ _ _) | (with_reducible refine Below.alloc ?_ ?_ _) | (with_reducible refine Below.setCell ?_ ?_ _) | (with_reducible refine Below.trans ?_ (Below.mono (by assumption) ?_)) | (simp only [sz_alloc, sz_set, sz_drew, sz_drewN, sz_iterAt, sz_iter] at *; omega) | omega | (simp; done) | (simp; omega) | (apply Below.size; assumption) | (simp only [sz_drew, sz_drewN]; apply Below.size; assumption) | (refine Nat.le_trans ?_ (Below.size (by assumption)))))⟩
      rfl
end Go.Proofs.YtfhmjkdpohepaaaDoor
