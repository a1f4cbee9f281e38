/- A single test: soffit/match.one, walked. -/
import Derived.Test.YtogegempbjpdiaaDoorLogic
set_option linter.unusedSimpArgs false
set_option linter.unusedVariables false
namespace Go.Proofs.YtogegempbjpdiaaDoor
open Go.RowKit

/-- a single test -/
structure Tst where
  k : Int
  lo : Vl
  hi : Vl
  ol : Bool
  oh : Bool
structure Tst.wf (t : Tst) : Prop where
  k : I64 t.k
  lo : t.lo.wf
  hi : t.hi.wf
def lessB (a b : Vl) : Bool := isB (lessV a b)
/-- does a single test hold of a value? -/
def oneB (t : Tst) (v : Vl) : Bool :=
  if t.k = 1 then eqB v t.lo
  else if t.k = 2 then lessB v t.lo
  else if t.k = 3 then lessB v t.lo || eqB v t.lo
  else if t.k = 4 then lessB t.lo v
  else if t.k = 5 then lessB t.lo v || eqB v t.lo
  else (lessB t.lo v || eqB v t.lo && !t.ol) && (lessB v t.hi || eqB v t.hi && !t.oh)

set_option maxRecDepth 100000 in
set_option maxHeartbeats 1600000 in
theorem one1 (t : Tst) (v : Vl) (w : World) (ht : t.wf) (hv : v.wf) (hE : Env w) (hk : t.k = 1) :
    Calls Tryd.prog 19 #[.agg #[.int .i64 t.k, .int .i64 t.lo.k, .int .i64 t.lo.n, .int .i64 t.lo.s, .string t.lo.t, .int .i64 t.lo.i, .int .i64 t.hi.k, .int .i64 t.hi.n, .int .i64 t.hi.s, .string t.hi.t, .int .i64 t.hi.i, .bool t.ol, .bool t.oh], .agg #[.int .i64 v.k, .int .i64 v.n, .int .i64 v.s, .string v.t, .int .i64 v.i]] w fun e w' =>
      e = .returned (.bool (oneB t v)) ∧ Below w.heap.size w w' := by
  obtain ⟨B, hB⟩ : ∃ B, oneB t v = B := ⟨_, rfl⟩
  rw [hB]
  have HB : Hid (B = eqB v t.lo) := by rw [← hB]; show oneB t v = _; unfold oneB lessB; simp [hk]
  have e1 : (t.k == 1) = true := by simp [hk]
  clear hB hk
  have hl := ht.lo
  have hh := ht.hi
  clear ht
  have hq := fun W => eqV_run v t.lo W
  have hq2 := fun W => eqV_run v t.hi W
  go_enter Tryd.func19, Tryd.ntmps19
  go_wp2_with fail
  generalize hEW0 : (w.alloc _).alloc _ = W0
  have hbW0 : Below w.heap.size w W0 := (by rw [← hEW0]; exact (by repeat' (first | (with_reducible exact Below.refl _ _) | (with_reducible assumption) | (with_reducible refine Below.drew ?_) | (with_reducible refine below_drewN ?_ _) | (with_reducible refine below_iterAt ?_ ?_ _ _) | (with_reducible refine below_iter ?_ ?_ _ _) | (with_reducible refine Below.alloc ?_ ?_ _) | (with_reducible refine Below.setCell ?_ ?_ _) | (with_reducible refine Below.trans ?_ (Below.mono (by assumption) ?_)) | (simp only [sz_alloc, sz_set, sz_drew, sz_drewN, sz_iterAt, sz_iter] at *; omega) | omega | (simp; done) | (simp; omega) | (apply Below.size; assumption) | (simp only [sz_drew, sz_drewN]; apply Below.size; assumption) | (refine Nat.le_trans ?_ (Below.size (by assumption))))))
  have lW0_0 : w.heap.size < W0.heap.size := (by rw [← hEW0]; first | omega | (simp only [sz_alloc, sz_set, sz_drew, sz_drewN, sz_iterAt, sz_iter] at *; omega) | (simp; done) | (simp; omega) | (simp at *; omega))
  have qW0_0 : ∀ o, W0.cell? ⟨w.heap.size, o, none⟩ = _ := fun o => congrArg (fun W : World => W.cell? ⟨w.heap.size, o, none⟩) hEW0.symm
  have rW0_0 : ∀ o, W0.frozen? ⟨w.heap.size, o, none⟩ = _ := fun o => congrArg (fun W : World => W.frozen? ⟨w.heap.size, o, none⟩) hEW0.symm
  have lW0_1 : w.heap.size + 1 < W0.heap.size := (by rw [← hEW0]; first | omega | (simp only [sz_alloc, sz_set, sz_drew, sz_drewN, sz_iterAt, sz_iter] at *; omega) | (simp; done) | (simp; omega) | (simp at *; omega))
  have qW0_1 : ∀ o, W0.cell? ⟨w.heap.size + 1, o, none⟩ = _ := fun o => congrArg (fun W : World => W.cell? ⟨w.heap.size + 1, o, none⟩) hEW0.symm
  have rW0_1 : ∀ o, W0.frozen? ⟨w.heap.size + 1, o, none⟩ = _ := fun o => congrArg (fun W : World => W.frozen? ⟨w.heap.size + 1, o, none⟩) hEW0.symm
  clear hEW0
  have kk0 : W0.cell? ⟨w.heap.size, 1, none⟩ = some (.int .i64 t.lo.k) := (by first | (simp [go_sem]; done) | (simp [go_sem, *]; done))
  have kk1 : W0.cell? ⟨w.heap.size, 2, none⟩ = some (.int .i64 t.lo.n) := (by first | (simp [go_sem]; done) | (simp [go_sem, *]; done))
  have kk2 : W0.cell? ⟨w.heap.size, 3, none⟩ = some (.int .i64 t.lo.s) := (by first | (simp [go_sem]; done) | (simp [go_sem, *]; done))
  have kk3 : W0.cell? ⟨w.heap.size, 4, none⟩ = some (.string t.lo.t) := (by first | (simp [go_sem]; done) | (simp [go_sem, *]; done))
  have kk4 : W0.cell? ⟨w.heap.size, 5, none⟩ = some (.int .i64 t.lo.i) := (by first | (simp [go_sem]; done) | (simp [go_sem, *]; done))
  have kk5 : W0.cell? ⟨w.heap.size + 1, 0, none⟩ = some (.int .i64 v.k) := (by first | (simp [go_sem]; done) | (simp [go_sem, *]; done))
  have kk6 : W0.cell? ⟨w.heap.size + 1, 1, none⟩ = some (.int .i64 v.n) := (by first | (simp [go_sem]; done) | (simp [go_sem, *]; done))
  have kk7 : W0.cell? ⟨w.heap.size + 1, 2, none⟩ = some (.int .i64 v.s) := (by first | (simp [go_sem]; done) | (simp [go_sem, *]; done))
  have kk8 : W0.cell? ⟨w.heap.size + 1, 3, none⟩ = some (.string v.t) := (by first | (simp [go_sem]; done) | (simp [go_sem, *]; done))
  have kk9 : W0.cell? ⟨w.heap.size + 1, 4, none⟩ = some (.int .i64 v.i) := (by first | (simp [go_sem]; done) | (simp [go_sem, *]; done))
  go_region_held3 (fun w' => Below W0.heap.size W0 w' ∧ w'.cell? ⟨w.heap.size, 1, none⟩ = some (.int .i64 t.lo.k) ∧ w'.cell? ⟨w.heap.size, 2, none⟩ = some (.int .i64 t.lo.n) ∧ w'.cell? ⟨w.heap.size, 3, none⟩ = some (.int .i64 t.lo.s) ∧ w'.cell? ⟨w.heap.size, 4, none⟩ = some (.string t.lo.t) ∧ w'.cell? ⟨w.heap.size, 5, none⟩ = some (.int .i64 t.lo.i) ∧ w'.cell? ⟨w.heap.size + 1, 0, none⟩ = some (.int .i64 v.k) ∧ w'.cell? ⟨w.heap.size + 1, 1, none⟩ = some (.int .i64 v.n) ∧ w'.cell? ⟨w.heap.size + 1, 2, none⟩ = some (.int .i64 v.s) ∧ w'.cell? ⟨w.heap.size + 1, 3, none⟩ = some (.string v.t) ∧ w'.cell? ⟨w.heap.size + 1, 4, none⟩ = some (.int .i64 v.i)) ((refine and_keep ?_ (fun hk => ⟨keep_cell hk lW0_0 kk0, keep_cell hk lW0_0 kk1, keep_cell hk lW0_0 kk2, keep_cell hk lW0_0 kk3, keep_cell hk lW0_0 kk4, keep_cell hk lW0_1 kk5, keep_cell hk lW0_1 kk6, keep_cell hk lW0_1 kk7, keep_cell hk lW0_1 kk8, keep_cell hk lW0_1 kk9⟩); exact (by repeat' (first | (with_reducible exact Below.refl _ _) | (with_reducible assumption) | (with_reducible refine Below.drew ?_) | (with_reducible refine below_drewN ?_ _) | (with_reducible refine below_iterAt ?_ ?_ _ _) | (with_reducible refine below_iter ?_ ?_ _ _) | (with_reducible refine Below.alloc ?_ ?_ _) | (with_reducible refine Below.setCell ?_ ?_ _) | (with_reducible refine Below.trans ?_ (Below.mono (by assumption) ?_)) | (simp only [sz_alloc, sz_set, sz_drew, sz_drewN, sz_iterAt, sz_iter] at *; omega) | omega | (simp; done) | (simp; omega) | (apply Below.size; assumption) | (simp only [sz_drew, sz_drewN]; apply Below.size; assumption) | (refine Nat.le_trans ?_ (Below.size (by assumption)))))))
    (first
      | (go_at_call 29; refine (less_any _ _ _ (by assumption) (by assumption) (hE.below (by repeat' (first | (with_reducible exact Below.refl _ _) | (with_reducible assumption) | (with_reducible refine Below.drew ?_) | (with_reducible refine below_drewN ?_ _) | (with_reducible refine below_iterAt ?_ ?_ _ _) | (with_reducible refine below_iter ?_ ?_ _ _) | (with_reducible refine Below.alloc ?_ ?_ _) | (with_reducible refine Below.setCell ?_ ?_ _) | (with_reducible refine Below.trans ?_ (Below.mono (by assumption) ?_)) | (simp only [sz_alloc, sz_set, sz_drew, sz_drewN, sz_iterAt, sz_iter] at *; omega) | omega | (simp; done) | (simp; omega) | (apply Below.size; assumption) | (simp only [sz_drew, sz_drewN]; apply Below.size; assumption) | (refine Nat.le_trans ?_ (Below.size (by assumption))))))).mono ?_; rintro e w' ⟨rfl, hb'⟩)
      | (go_at_call 28; refine (is_any _ _).mono ?_; rintro e w' ⟨rfl, hb'⟩))
  have hS : Below W0.heap.size W0 _ ∧ _ := (by assumption)
  have hbwz := hS.1
  clear hS
  have hzz := hbwz.size
  have qz_0 := fun o => (hbwz.cell (p := ⟨w.heap.size, o, none⟩) lW0_0).trans (qW0_0 o)
  have rz_0 := fun o => (hbwz.frozen (p := ⟨w.heap.size, o, none⟩) lW0_0).trans (rW0_0 o)
  have lz_0 := Nat.lt_of_lt_of_le lW0_0 hzz
  clear qW0_0 rW0_0
  have qz_1 := fun o => (hbwz.cell (p := ⟨w.heap.size + 1, o, none⟩) lW0_1).trans (qW0_1 o)
  have rz_1 := fun o => (hbwz.frozen (p := ⟨w.heap.size + 1, o, none⟩) lW0_1).trans (rW0_1 o)
  have lz_1 := Nat.lt_of_lt_of_le lW0_1 hzz
  clear qW0_1 rW0_1
  generalize isB (lessV v t.lo) = L at *
  generalize isB (lessV t.lo v) = M at *
  generalize eqB v t.lo = S at *
  go_wp2_with fail
  all_goals go_ret
  all_goals exact ⟨ret_bool (by first | (rw [HB.out]; done) | (rw [HB.out]; simp [*]; done) | (rw [HB.out]; simp; omega) | (rw [HB.out]; simp [*]; omega) | (rw [HB.out]; simp only [List.isEmpty_iff, List.isEmpty_eq_false_iff] at *; simp [*]; done) | (rw [HB.out]; simp only [List.isEmpty_iff, List.isEmpty_eq_false_iff] at *; simp [*]; omega) | (rw [HB.out, Bool.eq_iff_iff]; simp only [List.isEmpty_iff, List.isEmpty_eq_false_iff] at *; simp [*]; done) | (exfalso; omega)), (by repeat' (first | (with_reducible exact Below.refl _ _) | (with_reducible assumption) | (with_reducible refine Below.drew ?_) | (with_reducible refine below_drewN ?_ _) | (with_reducible refine below_iterAt ?_ ?_ _ _) | (with_reducible refine below_iter ?_ ?_ _ _) | (with_reducible refine Below.alloc ?_ ?_ _) | (with_reducible refine Below.setCell ?_ ?_ _) | (with_reducible refine Below.trans ?_ (Below.mono (by assumption) ?_)) | (simp only [sz_alloc, sz_set, sz_drew, sz_drewN, sz_iterAt, sz_iter] at *; omega) | omega | (simp; done) | (simp; omega) | (apply Below.size; assumption) | (simp only [sz_drew, sz_drewN]; apply Below.size; assumption) | (refine Nat.le_trans ?_ (Below.size (by assumption)))))⟩

set_option maxRecDepth 100000 in
set_option maxHeartbeats 1600000 in
theorem one2 (t : Tst) (v : Vl) (w : World) (ht : t.wf) (hv : v.wf) (hE : Env w) (hk : t.k = 2) :
    Calls Tryd.prog 19 #[.agg #[.int .i64 t.k, .int .i64 t.lo.k, .int .i64 t.lo.n, .int .i64 t.lo.s, .string t.lo.t, .int .i64 t.lo.i, .int .i64 t.hi.k, .int .i64 t.hi.n, .int .i64 t.hi.s, .string t.hi.t, .int .i64 t.hi.i, .bool t.ol, .bool t.oh], .agg #[.int .i64 v.k, .int .i64 v.n, .int .i64 v.s, .string v.t, .int .i64 v.i]] w fun e w' =>
      e = .returned (.bool (oneB t v)) ∧ Below w.heap.size w w' := by
  obtain ⟨B, hB⟩ : ∃ B, oneB t v = B := ⟨_, rfl⟩
  rw [hB]
  have HB : Hid (B = isB (lessV v t.lo)) := by rw [← hB]; show oneB t v = _; unfold oneB lessB; simp [hk]
  have e1 : (t.k == 1) = false := by simp [hk]
  have e2 : (t.k == 2) = true := by simp [hk]
  clear hB hk
  have hl := ht.lo
  have hh := ht.hi
  clear ht
  have hq := fun W => eqV_run v t.lo W
  have hq2 := fun W => eqV_run v t.hi W
  go_enter Tryd.func19, Tryd.ntmps19
  go_wp2_with fail
  generalize hEW0 : (w.alloc _).alloc _ = W0
  have hbW0 : Below w.heap.size w W0 := (by rw [← hEW0]; exact (by repeat' (first | (with_reducible exact Below.refl _ _) | (with_reducible assumption) | (with_reducible refine Below.drew ?_) | (with_reducible refine below_drewN ?_ _) | (with_reducible refine below_iterAt ?_ ?_ _ _) | (with_reducible refine below_iter ?_ ?_ _ _) | (with_reducible refine Below.alloc ?_ ?_ _) | (with_reducible refine Below.setCell ?_ ?_ _) | (with_reducible refine Below.trans ?_ (Below.mono (by assumption) ?_)) | (simp only [sz_alloc, sz_set, sz_drew, sz_drewN, sz_iterAt, sz_iter] at *; omega) | omega | (simp; done) | (simp; omega) | (apply Below.size; assumption) | (simp only [sz_drew, sz_drewN]; apply Below.size; assumption) | (refine Nat.le_trans ?_ (Below.size (by assumption))))))
  have lW0_0 : w.heap.size < W0.heap.size := (by rw [← hEW0]; first | omega | (simp only [sz_alloc, sz_set, sz_drew, sz_drewN, sz_iterAt, sz_iter] at *; omega) | (simp; done) | (simp; omega) | (simp at *; omega))
  have qW0_0 : ∀ o, W0.cell? ⟨w.heap.size, o, none⟩ = _ := fun o => congrArg (fun W : World => W.cell? ⟨w.heap.size, o, none⟩) hEW0.symm
  have rW0_0 : ∀ o, W0.frozen? ⟨w.heap.size, o, none⟩ = _ := fun o => congrArg (fun W : World => W.frozen? ⟨w.heap.size, o, none⟩) hEW0.symm
  have lW0_1 : w.heap.size + 1 < W0.heap.size := (by rw [← hEW0]; first | omega | (simp only [sz_alloc, sz_set, sz_drew, sz_drewN, sz_iterAt, sz_iter] at *; omega) | (simp; done) | (simp; omega) | (simp at *; omega))
  have qW0_1 : ∀ o, W0.cell? ⟨w.heap.size + 1, o, none⟩ = _ := fun o => congrArg (fun W : World => W.cell? ⟨w.heap.size + 1, o, none⟩) hEW0.symm
  have rW0_1 : ∀ o, W0.frozen? ⟨w.heap.size + 1, o, none⟩ = _ := fun o => congrArg (fun W : World => W.frozen? ⟨w.heap.size + 1, o, none⟩) hEW0.symm
  clear hEW0
  have kk0 : W0.cell? ⟨w.heap.size, 1, none⟩ = some (.int .i64 t.lo.k) := (by first | (simp [go_sem]; done) | (simp [go_sem, *]; done))
  have kk1 : W0.cell? ⟨w.heap.size, 2, none⟩ = some (.int .i64 t.lo.n) := (by first | (simp [go_sem]; done) | (simp [go_sem, *]; done))
  have kk2 : W0.cell? ⟨w.heap.size, 3, none⟩ = some (.int .i64 t.lo.s) := (by first | (simp [go_sem]; done) | (simp [go_sem, *]; done))
  have kk3 : W0.cell? ⟨w.heap.size, 4, none⟩ = some (.string t.lo.t) := (by first | (simp [go_sem]; done) | (simp [go_sem, *]; done))
  have kk4 : W0.cell? ⟨w.heap.size, 5, none⟩ = some (.int .i64 t.lo.i) := (by first | (simp [go_sem]; done) | (simp [go_sem, *]; done))
  have kk5 : W0.cell? ⟨w.heap.size + 1, 0, none⟩ = some (.int .i64 v.k) := (by first | (simp [go_sem]; done) | (simp [go_sem, *]; done))
  have kk6 : W0.cell? ⟨w.heap.size + 1, 1, none⟩ = some (.int .i64 v.n) := (by first | (simp [go_sem]; done) | (simp [go_sem, *]; done))
  have kk7 : W0.cell? ⟨w.heap.size + 1, 2, none⟩ = some (.int .i64 v.s) := (by first | (simp [go_sem]; done) | (simp [go_sem, *]; done))
  have kk8 : W0.cell? ⟨w.heap.size + 1, 3, none⟩ = some (.string v.t) := (by first | (simp [go_sem]; done) | (simp [go_sem, *]; done))
  have kk9 : W0.cell? ⟨w.heap.size + 1, 4, none⟩ = some (.int .i64 v.i) := (by first | (simp [go_sem]; done) | (simp [go_sem, *]; done))
  go_region_held3 (fun w' => Below W0.heap.size W0 w' ∧ w'.cell? ⟨w.heap.size, 1, none⟩ = some (.int .i64 t.lo.k) ∧ w'.cell? ⟨w.heap.size, 2, none⟩ = some (.int .i64 t.lo.n) ∧ w'.cell? ⟨w.heap.size, 3, none⟩ = some (.int .i64 t.lo.s) ∧ w'.cell? ⟨w.heap.size, 4, none⟩ = some (.string t.lo.t) ∧ w'.cell? ⟨w.heap.size, 5, none⟩ = some (.int .i64 t.lo.i) ∧ w'.cell? ⟨w.heap.size + 1, 0, none⟩ = some (.int .i64 v.k) ∧ w'.cell? ⟨w.heap.size + 1, 1, none⟩ = some (.int .i64 v.n) ∧ w'.cell? ⟨w.heap.size + 1, 2, none⟩ = some (.int .i64 v.s) ∧ w'.cell? ⟨w.heap.size + 1, 3, none⟩ = some (.string v.t) ∧ w'.cell? ⟨w.heap.size + 1, 4, none⟩ = some (.int .i64 v.i)) ((refine and_keep ?_ (fun hk => ⟨keep_cell hk lW0_0 kk0, keep_cell hk lW0_0 kk1, keep_cell hk lW0_0 kk2, keep_cell hk lW0_0 kk3, keep_cell hk lW0_0 kk4, keep_cell hk lW0_1 kk5, keep_cell hk lW0_1 kk6, keep_cell hk lW0_1 kk7, keep_cell hk lW0_1 kk8, keep_cell hk lW0_1 kk9⟩); exact (by repeat' (first | (with_reducible exact Below.refl _ _) | (with_reducible assumption) | (with_reducible refine Below.drew ?_) | (with_reducible refine below_drewN ?_ _) | (with_reducible refine below_iterAt ?_ ?_ _ _) | (with_reducible refine below_iter ?_ ?_ _ _) | (with_reducible refine Below.alloc ?_ ?_ _) | (with_reducible refine Below.setCell ?_ ?_ _) | (with_reducible refine Below.trans ?_ (Below.mono (by assumption) ?_)) | (simp only [sz_alloc, sz_set, sz_drew, sz_drewN, sz_iterAt, sz_iter] at *; omega) | omega | (simp; done) | (simp; omega) | (apply Below.size; assumption) | (simp only [sz_drew, sz_drewN]; apply Below.size; assumption) | (refine Nat.le_trans ?_ (Below.size (by assumption)))))))
    (first
      | (go_at_call 29; refine (less_any _ _ _ (by assumption) (by assumption) (hE.below (by repeat' (first | (with_reducible exact Below.refl _ _) | (with_reducible assumption) | (with_reducible refine Below.drew ?_) | (with_reducible refine below_drewN ?_ _) | (with_reducible refine below_iterAt ?_ ?_ _ _) | (with_reducible refine below_iter ?_ ?_ _ _) | (with_reducible refine Below.alloc ?_ ?_ _) | (with_reducible refine Below.setCell ?_ ?_ _) | (with_reducible refine Below.trans ?_ (Below.mono (by assumption) ?_)) | (simp only [sz_alloc, sz_set, sz_drew, sz_drewN, sz_iterAt, sz_iter] at *; omega) | omega | (simp; done) | (simp; omega) | (apply Below.size; assumption) | (simp only [sz_drew, sz_drewN]; apply Below.size; assumption) | (refine Nat.le_trans ?_ (Below.size (by assumption))))))).mono ?_; rintro e w' ⟨rfl, hb'⟩)
      | (go_at_call 28; refine (is_any _ _).mono ?_; rintro e w' ⟨rfl, hb'⟩))
  have hS : Below W0.heap.size W0 _ ∧ _ := (by assumption)
  have hbwz := hS.1
  clear hS
  have hzz := hbwz.size
  have qz_0 := fun o => (hbwz.cell (p := ⟨w.heap.size, o, none⟩) lW0_0).trans (qW0_0 o)
  have rz_0 := fun o => (hbwz.frozen (p := ⟨w.heap.size, o, none⟩) lW0_0).trans (rW0_0 o)
  have lz_0 := Nat.lt_of_lt_of_le lW0_0 hzz
  clear qW0_0 rW0_0
  have qz_1 := fun o => (hbwz.cell (p := ⟨w.heap.size + 1, o, none⟩) lW0_1).trans (qW0_1 o)
  have rz_1 := fun o => (hbwz.frozen (p := ⟨w.heap.size + 1, o, none⟩) lW0_1).trans (rW0_1 o)
  have lz_1 := Nat.lt_of_lt_of_le lW0_1 hzz
  clear qW0_1 rW0_1
  generalize isB (lessV v t.lo) = L at *
  generalize isB (lessV t.lo v) = M at *
  generalize eqB v t.lo = S at *
  go_wp2_with fail
  all_goals go_ret
  all_goals exact ⟨ret_bool (by first | (rw [HB.out]; done) | (rw [HB.out]; simp [*]; done) | (rw [HB.out]; simp; omega) | (rw [HB.out]; simp [*]; omega) | (rw [HB.out]; simp only [List.isEmpty_iff, List.isEmpty_eq_false_iff] at *; simp [*]; done) | (rw [HB.out]; simp only [List.isEmpty_iff, List.isEmpty_eq_false_iff] at *; simp [*]; omega) | (rw [HB.out, Bool.eq_iff_iff]; simp only [List.isEmpty_iff, List.isEmpty_eq_false_iff] at *; simp [*]; done) | (exfalso; omega)), (by repeat' (first | (with_reducible exact Below.refl _ _) | (with_reducible assumption) | (with_reducible refine Below.drew ?_) | (with_reducible refine below_drewN ?_ _) | (with_reducible refine below_iterAt ?_ ?_ _ _) | (with_reducible refine below_iter ?_ ?_ _ _) | (with_reducible refine Below.alloc ?_ ?_ _) | (with_reducible refine Below.setCell ?_ ?_ _) | (with_reducible refine Below.trans ?_ (Below.mono (by assumption) ?_)) | (simp only [sz_alloc, sz_set, sz_drew, sz_drewN, sz_iterAt, sz_iter] at *; omega) | omega | (simp; done) | (simp; omega) | (apply Below.size; assumption) | (simp only [sz_drew, sz_drewN]; apply Below.size; assumption) | (refine Nat.le_trans ?_ (Below.size (by assumption)))))⟩

set_option maxRecDepth 100000 in
set_option maxHeartbeats 1600000 in
theorem one3 (t : Tst) (v : Vl) (w : World) (ht : t.wf) (hv : v.wf) (hE : Env w) (hk : t.k = 3) :
    Calls Tryd.prog 19 #[.agg #[.int .i64 t.k, .int .i64 t.lo.k, .int .i64 t.lo.n, .int .i64 t.lo.s, .string t.lo.t, .int .i64 t.lo.i, .int .i64 t.hi.k, .int .i64 t.hi.n, .int .i64 t.hi.s, .string t.hi.t, .int .i64 t.hi.i, .bool t.ol, .bool t.oh], .agg #[.int .i64 v.k, .int .i64 v.n, .int .i64 v.s, .string v.t, .int .i64 v.i]] w fun e w' =>
      e = .returned (.bool (oneB t v)) ∧ Below w.heap.size w w' := by
  obtain ⟨B, hB⟩ : ∃ B, oneB t v = B := ⟨_, rfl⟩
  rw [hB]
  have HB : Hid (B = (isB (lessV v t.lo) || eqB v t.lo)) := by rw [← hB]; show oneB t v = _; unfold oneB lessB; simp [hk]
  have e1 : (t.k == 1) = false := by simp [hk]
  have e2 : (t.k == 2) = false := by simp [hk]
  have e3 : (t.k == 3) = true := by simp [hk]
  clear hB hk
  have hl := ht.lo
  have hh := ht.hi
  clear ht
  have hq := fun W => eqV_run v t.lo W
  have hq2 := fun W => eqV_run v t.hi W
  go_enter Tryd.func19, Tryd.ntmps19
  go_wp2_with fail
  generalize hEW0 : (w.alloc _).alloc _ = W0
  have hbW0 : Below w.heap.size w W0 := (by rw [← hEW0]; exact (by repeat' (first | (with_reducible exact Below.refl _ _) | (with_reducible assumption) | (with_reducible refine Below.drew ?_) | (with_reducible refine below_drewN ?_ _) | (with_reducible refine below_iterAt ?_ ?_ _ _) | (with_reducible refine below_iter ?_ ?_ _ _) | (with_reducible refine Below.alloc ?_ ?_ _) | (with_reducible refine Below.setCell ?_ ?_ _) | (with_reducible refine Below.trans ?_ (Below.mono (by assumption) ?_)) | (simp only [sz_alloc, sz_set, sz_drew, sz_drewN, sz_iterAt, sz_iter] at *; omega) | omega | (simp; done) | (simp; omega) | (apply Below.size; assumption) | (simp only [sz_drew, sz_drewN]; apply Below.size; assumption) | (refine Nat.le_trans ?_ (Below.size (by assumption))))))
  have lW0_0 : w.heap.size < W0.heap.size := (by rw [← hEW0]; first | omega | (simp only [sz_alloc, sz_set, sz_drew, sz_drewN, sz_iterAt, sz_iter] at *; omega) | (simp; done) | (simp; omega) | (simp at *; omega))
  have qW0_0 : ∀ o, W0.cell? ⟨w.heap.size, o, none⟩ = _ := fun o => congrArg (fun W : World => W.cell? ⟨w.heap.size, o, none⟩) hEW0.symm
  have rW0_0 : ∀ o, W0.frozen? ⟨w.heap.size, o, none⟩ = _ := fun o => congrArg (fun W : World => W.frozen? ⟨w.heap.size, o, none⟩) hEW0.symm
  have lW0_1 : w.heap.size + 1 < W0.heap.size := (by rw [← hEW0]; first | omega | (simp only [sz_alloc, sz_set, sz_drew, sz_drewN, sz_iterAt, sz_iter] at *; omega) | (simp; done) | (simp; omega) | (simp at *; omega))
  have qW0_1 : ∀ o, W0.cell? ⟨w.heap.size + 1, o, none⟩ = _ := fun o => congrArg (fun W : World => W.cell? ⟨w.heap.size + 1, o, none⟩) hEW0.symm
  have rW0_1 : ∀ o, W0.frozen? ⟨w.heap.size + 1, o, none⟩ = _ := fun o => congrArg (fun W : World => W.frozen? ⟨w.heap.size + 1, o, none⟩) hEW0.symm
  clear hEW0
  have kk0 : W0.cell? ⟨w.heap.size, 1, none⟩ = some (.int .i64 t.lo.k) := (by first | (simp [go_sem]; done) | (simp [go_sem, *]; done))
  have kk1 : W0.cell? ⟨w.heap.size, 2, none⟩ = some (.int .i64 t.lo.n) := (by first | (simp [go_sem]; done) | (simp [go_sem, *]; done))
  have kk2 : W0.cell? ⟨w.heap.size, 3, none⟩ = some (.int .i64 t.lo.s) := (by first | (simp [go_sem]; done) | (simp [go_sem, *]; done))
  have kk3 : W0.cell? ⟨w.heap.size, 4, none⟩ = some (.string t.lo.t) := (by first | (simp [go_sem]; done) | (simp [go_sem, *]; done))
  have kk4 : W0.cell? ⟨w.heap.size, 5, none⟩ = some (.int .i64 t.lo.i) := (by first | (simp [go_sem]; done) | (simp [go_sem, *]; done))
  have kk5 : W0.cell? ⟨w.heap.size + 1, 0, none⟩ = some (.int .i64 v.k) := (by first | (simp [go_sem]; done) | (simp [go_sem, *]; done))
  have kk6 : W0.cell? ⟨w.heap.size + 1, 1, none⟩ = some (.int .i64 v.n) := (by first | (simp [go_sem]; done) | (simp [go_sem, *]; done))
  have kk7 : W0.cell? ⟨w.heap.size + 1, 2, none⟩ = some (.int .i64 v.s) := (by first | (simp [go_sem]; done) | (simp [go_sem, *]; done))
  have kk8 : W0.cell? ⟨w.heap.size + 1, 3, none⟩ = some (.string v.t) := (by first | (simp [go_sem]; done) | (simp [go_sem, *]; done))
  have kk9 : W0.cell? ⟨w.heap.size + 1, 4, none⟩ = some (.int .i64 v.i) := (by first | (simp [go_sem]; done) | (simp [go_sem, *]; done))
  go_region_held3 (fun w' => Below W0.heap.size W0 w' ∧ w'.cell? ⟨w.heap.size, 1, none⟩ = some (.int .i64 t.lo.k) ∧ w'.cell? ⟨w.heap.size, 2, none⟩ = some (.int .i64 t.lo.n) ∧ w'.cell? ⟨w.heap.size, 3, none⟩ = some (.int .i64 t.lo.s) ∧ w'.cell? ⟨w.heap.size, 4, none⟩ = some (.string t.lo.t) ∧ w'.cell? ⟨w.heap.size, 5, none⟩ = some (.int .i64 t.lo.i) ∧ w'.cell? ⟨w.heap.size + 1, 0, none⟩ = some (.int .i64 v.k) ∧ w'.cell? ⟨w.heap.size + 1, 1, none⟩ = some (.int .i64 v.n) ∧ w'.cell? ⟨w.heap.size + 1, 2, none⟩ = some (.int .i64 v.s) ∧ w'.cell? ⟨w.heap.size + 1, 3, none⟩ = some (.string v.t) ∧ w'.cell? ⟨w.heap.size + 1, 4, none⟩ = some (.int .i64 v.i)) ((refine and_keep ?_ (fun hk => ⟨keep_cell hk lW0_0 kk0, keep_cell hk lW0_0 kk1, keep_cell hk lW0_0 kk2, keep_cell hk lW0_0 kk3, keep_cell hk lW0_0 kk4, keep_cell hk lW0_1 kk5, keep_cell hk lW0_1 kk6, keep_cell hk lW0_1 kk7, keep_cell hk lW0_1 kk8, keep_cell hk lW0_1 kk9⟩); exact (by repeat' (first | (with_reducible exact Below.refl _ _) | (with_reducible assumption) | (with_reducible refine Below.drew ?_) | (with_reducible refine below_drewN ?_ _) | (with_reducible refine below_iterAt ?_ ?_ _ _) | (with_reducible refine below_iter ?_ ?_ _ _) | (with_reducible refine Below.alloc ?_ ?_ _) | (with_reducible refine Below.setCell ?_ ?_ _) | (with_reducible refine Below.trans ?_ (Below.mono (by assumption) ?_)) | (simp only [sz_alloc, sz_set, sz_drew, sz_drewN, sz_iterAt, sz_iter] at *; omega) | omega | (simp; done) | (simp; omega) | (apply Below.size; assumption) | (simp only [sz_drew, sz_drewN]; apply Below.size; assumption) | (refine Nat.le_trans ?_ (Below.size (by assumption)))))))
    (first
      | (go_at_call 29; refine (less_any _ _ _ (by assumption) (by assumption) (hE.below (by repeat' (first | (with_reducible exact Below.refl _ _) | (with_reducible assumption) | (with_reducible refine Below.drew ?_) | (with_reducible refine below_drewN ?_ _) | (with_reducible refine below_iterAt ?_ ?_ _ _) | (with_reducible refine below_iter ?_ ?_ _ _) | (with_reducible refine Below.alloc ?_ ?_ _) | (with_reducible refine Below.setCell ?_ ?_ _) | (with_reducible refine Below.trans ?_ (Below.mono (by assumption) ?_)) | (simp only [sz_alloc, sz_set, sz_drew, sz_drewN, sz_iterAt, sz_iter] at *; omega) | omega | (simp; done) | (simp; omega) | (apply Below.size; assumption) | (simp only [sz_drew, sz_drewN]; apply Below.size; assumption) | (refine Nat.le_trans ?_ (Below.size (by assumption))))))).mono ?_; rintro e w' ⟨rfl, hb'⟩)
      | (go_at_call 28; refine (is_any _ _).mono ?_; rintro e w' ⟨rfl, hb'⟩))
  have hS : Below W0.heap.size W0 _ ∧ _ := (by assumption)
  have hbwz := hS.1
  clear hS
  have hzz := hbwz.size
  have qz_0 := fun o => (hbwz.cell (p := ⟨w.heap.size, o, none⟩) lW0_0).trans (qW0_0 o)
  have rz_0 := fun o => (hbwz.frozen (p := ⟨w.heap.size, o, none⟩) lW0_0).trans (rW0_0 o)
  have lz_0 := Nat.lt_of_lt_of_le lW0_0 hzz
  clear qW0_0 rW0_0
  have qz_1 := fun o => (hbwz.cell (p := ⟨w.heap.size + 1, o, none⟩) lW0_1).trans (qW0_1 o)
  have rz_1 := fun o => (hbwz.frozen (p := ⟨w.heap.size + 1, o, none⟩) lW0_1).trans (rW0_1 o)
  have lz_1 := Nat.lt_of_lt_of_le lW0_1 hzz
  clear qW0_1 rW0_1
  generalize isB (lessV v t.lo) = L at *
  generalize isB (lessV t.lo v) = M at *
  generalize eqB v t.lo = S at *
  go_wp2_with fail
  all_goals go_ret
  all_goals exact ⟨ret_bool (by first | (rw [HB.out]; done) | (rw [HB.out]; simp [*]; done) | (rw [HB.out]; simp; omega) | (rw [HB.out]; simp [*]; omega) | (rw [HB.out]; simp only [List.isEmpty_iff, List.isEmpty_eq_false_iff] at *; simp [*]; done) | (rw [HB.out]; simp only [List.isEmpty_iff, List.isEmpty_eq_false_iff] at *; simp [*]; omega) | (rw [HB.out, Bool.eq_iff_iff]; simp only [List.isEmpty_iff, List.isEmpty_eq_false_iff] at *; simp [*]; done) | (exfalso; omega)), (by repeat' (first | (with_reducible exact Below.refl _ _) | (with_reducible assumption) | (with_reducible refine Below.drew ?_) | (with_reducible refine below_drewN ?_ _) | (with_reducible refine below_iterAt ?_ ?_ _ _) | (with_reducible refine below_iter ?_ ?_ _ _) | (with_reducible refine Below.alloc ?_ ?_ _) | (with_reducible refine Below.setCell ?_ ?_ _) | (with_reducible refine Below.trans ?_ (Below.mono (by assumption) ?_)) | (simp only [sz_alloc, sz_set, sz_drew, sz_drewN, sz_iterAt, sz_iter] at *; omega) | omega | (simp; done) | (simp; omega) | (apply Below.size; assumption) | (simp only [sz_drew, sz_drewN]; apply Below.size; assumption) | (refine Nat.le_trans ?_ (Below.size (by assumption)))))⟩

set_option maxRecDepth 100000 in
set_option maxHeartbeats 1600000 in
theorem one4 (t : Tst) (v : Vl) (w : World) (ht : t.wf) (hv : v.wf) (hE : Env w) (hk : t.k = 4) :
    Calls Tryd.prog 19 #[.agg #[.int .i64 t.k, .int .i64 t.lo.k, .int .i64 t.lo.n, .int .i64 t.lo.s, .string t.lo.t, .int .i64 t.lo.i, .int .i64 t.hi.k, .int .i64 t.hi.n, .int .i64 t.hi.s, .string t.hi.t, .int .i64 t.hi.i, .bool t.ol, .bool t.oh], .agg #[.int .i64 v.k, .int .i64 v.n, .int .i64 v.s, .string v.t, .int .i64 v.i]] w fun e w' =>
      e = .returned (.bool (oneB t v)) ∧ Below w.heap.size w w' := by
  obtain ⟨B, hB⟩ : ∃ B, oneB t v = B := ⟨_, rfl⟩
  rw [hB]
  have HB : Hid (B = isB (lessV t.lo v)) := by rw [← hB]; show oneB t v = _; unfold oneB lessB; simp [hk]
  have e1 : (t.k == 1) = false := by simp [hk]
  have e2 : (t.k == 2) = false := by simp [hk]
  have e3 : (t.k == 3) = false := by simp [hk]
  have e4 : (t.k == 4) = true := by simp [hk]
  clear hB hk
  have hl := ht.lo
  have hh := ht.hi
  clear ht
  have hq := fun W => eqV_run v t.lo W
  have hq2 := fun W => eqV_run v t.hi W
  go_enter Tryd.func19, Tryd.ntmps19
  go_wp2_with fail
  generalize hEW0 : (w.alloc _).alloc _ = W0
  have hbW0 : Below w.heap.size w W0 := (by rw [← hEW0]; exact (by repeat' (first | (with_reducible exact Below.refl _ _) | (with_reducible assumption) | (with_reducible refine Below.drew ?_) | (with_reducible refine below_drewN ?_ _) | (with_reducible refine below_iterAt ?_ ?_ _ _) | (with_reducible refine below_iter ?_ ?_ _ _) | (with_reducible refine Below.alloc ?_ ?_ _) | (with_reducible refine Below.setCell ?_ ?_ _) | (with_reducible refine Below.trans ?_ (Below.mono (by assumption) ?_)) | (simp only [sz_alloc, sz_set, sz_drew, sz_drewN, sz_iterAt, sz_iter] at *; omega) | omega | (simp; done) | (simp; omega) | (apply Below.size; assumption) | (simp only [sz_drew, sz_drewN]; apply Below.size; assumption) | (refine Nat.le_trans ?_ (Below.size (by assumption))))))
  have lW0_0 : w.heap.size < W0.heap.size := (by rw [← hEW0]; first | omega | (simp only [sz_alloc, sz_set, sz_drew, sz_drewN, sz_iterAt, sz_iter] at *; omega) | (simp; done) | (simp; omega) | (simp at *; omega))
  have qW0_0 : ∀ o, W0.cell? ⟨w.heap.size, o, none⟩ = _ := fun o => congrArg (fun W : World => W.cell? ⟨w.heap.size, o, none⟩) hEW0.symm
  have rW0_0 : ∀ o, W0.frozen? ⟨w.heap.size, o, none⟩ = _ := fun o => congrArg (fun W : World => W.frozen? ⟨w.heap.size, o, none⟩) hEW0.symm
  have lW0_1 : w.heap.size + 1 < W0.heap.size := (by rw [← hEW0]; first | omega | (simp only [sz_alloc, sz_set, sz_drew, sz_drewN, sz_iterAt, sz_iter] at *; omega) | (simp; done) | (simp; omega) | (simp at *; omega))
  have qW0_1 : ∀ o, W0.cell? ⟨w.heap.size + 1, o, none⟩ = _ := fun o => congrArg (fun W : World => W.cell? ⟨w.heap.size + 1, o, none⟩) hEW0.symm
  have rW0_1 : ∀ o, W0.frozen? ⟨w.heap.size + 1, o, none⟩ = _ := fun o => congrArg (fun W : World => W.frozen? ⟨w.heap.size + 1, o, none⟩) hEW0.symm
  clear hEW0
  have kk0 : W0.cell? ⟨w.heap.size, 1, none⟩ = some (.int .i64 t.lo.k) := (by first | (simp [go_sem]; done) | (simp [go_sem, *]; done))
  have kk1 : W0.cell? ⟨w.heap.size, 2, none⟩ = some (.int .i64 t.lo.n) := (by first | (simp [go_sem]; done) | (simp [go_sem, *]; done))
  have kk2 : W0.cell? ⟨w.heap.size, 3, none⟩ = some (.int .i64 t.lo.s) := (by first | (simp [go_sem]; done) | (simp [go_sem, *]; done))
  have kk3 : W0.cell? ⟨w.heap.size, 4, none⟩ = some (.string t.lo.t) := (by first | (simp [go_sem]; done) | (simp [go_sem, *]; done))
  have kk4 : W0.cell? ⟨w.heap.size, 5, none⟩ = some (.int .i64 t.lo.i) := (by first | (simp [go_sem]; done) | (simp [go_sem, *]; done))
  have kk5 : W0.cell? ⟨w.heap.size + 1, 0, none⟩ = some (.int .i64 v.k) := (by first | (simp [go_sem]; done) | (simp [go_sem, *]; done))
  have kk6 : W0.cell? ⟨w.heap.size + 1, 1, none⟩ = some (.int .i64 v.n) := (by first | (simp [go_sem]; done) | (simp [go_sem, *]; done))
  have kk7 : W0.cell? ⟨w.heap.size + 1, 2, none⟩ = some (.int .i64 v.s) := (by first | (simp [go_sem]; done) | (simp [go_sem, *]; done))
  have kk8 : W0.cell? ⟨w.heap.size + 1, 3, none⟩ = some (.string v.t) := (by first | (simp [go_sem]; done) | (simp [go_sem, *]; done))
  have kk9 : W0.cell? ⟨w.heap.size + 1, 4, none⟩ = some (.int .i64 v.i) := (by first | (simp [go_sem]; done) | (simp [go_sem, *]; done))
  go_region_held3 (fun w' => Below W0.heap.size W0 w' ∧ w'.cell? ⟨w.heap.size, 1, none⟩ = some (.int .i64 t.lo.k) ∧ w'.cell? ⟨w.heap.size, 2, none⟩ = some (.int .i64 t.lo.n) ∧ w'.cell? ⟨w.heap.size, 3, none⟩ = some (.int .i64 t.lo.s) ∧ w'.cell? ⟨w.heap.size, 4, none⟩ = some (.string t.lo.t) ∧ w'.cell? ⟨w.heap.size, 5, none⟩ = some (.int .i64 t.lo.i) ∧ w'.cell? ⟨w.heap.size + 1, 0, none⟩ = some (.int .i64 v.k) ∧ w'.cell? ⟨w.heap.size + 1, 1, none⟩ = some (.int .i64 v.n) ∧ w'.cell? ⟨w.heap.size + 1, 2, none⟩ = some (.int .i64 v.s) ∧ w'.cell? ⟨w.heap.size + 1, 3, none⟩ = some (.string v.t) ∧ w'.cell? ⟨w.heap.size + 1, 4, none⟩ = some (.int .i64 v.i)) ((refine and_keep ?_ (fun hk => ⟨keep_cell hk lW0_0 kk0, keep_cell hk lW0_0 kk1, keep_cell hk lW0_0 kk2, keep_cell hk lW0_0 kk3, keep_cell hk lW0_0 kk4, keep_cell hk lW0_1 kk5, keep_cell hk lW0_1 kk6, keep_cell hk lW0_1 kk7, keep_cell hk lW0_1 kk8, keep_cell hk lW0_1 kk9⟩); exact (by repeat' (first | (with_reducible exact Below.refl _ _) | (with_reducible assumption) | (with_reducible refine Below.drew ?_) | (with_reducible refine below_drewN ?_ _) | (with_reducible refine below_iterAt ?_ ?_ _ _) | (with_reducible refine below_iter ?_ ?_ _ _) | (with_reducible refine Below.alloc ?_ ?_ _) | (with_reducible refine Below.setCell ?_ ?_ _) | (with_reducible refine Below.trans ?_ (Below.mono (by assumption) ?_)) | (simp only [sz_alloc, sz_set, sz_drew, sz_drewN, sz_iterAt, sz_iter] at *; omega) | omega | (simp; done) | (simp; omega) | (apply Below.size; assumption) | (simp only [sz_drew, sz_drewN]; apply Below.size; assumption) | (refine Nat.le_trans ?_ (Below.size (by assumption)))))))
    (first
      | (go_at_call 29; refine (less_any _ _ _ (by assumption) (by assumption) (hE.below (by repeat' (first | (with_reducible exact Below.refl _ _) | (with_reducible assumption) | (with_reducible refine Below.drew ?_) | (with_reducible refine below_drewN ?_ _) | (with_reducible refine below_iterAt ?_ ?_ _ _) | (with_reducible refine below_iter ?_ ?_ _ _) | (with_reducible refine Below.alloc ?_ ?_ _) | (with_reducible refine Below.setCell ?_ ?_ _) | (with_reducible refine Below.trans ?_ (Below.mono (by assumption) ?_)) | (simp only [sz_alloc, sz_set, sz_drew, sz_drewN, sz_iterAt, sz_iter] at *; omega) | omega | (simp; done) | (simp; omega) | (apply Below.size; assumption) | (simp only [sz_drew, sz_drewN]; apply Below.size; assumption) | (refine Nat.le_trans ?_ (Below.size (by assumption))))))).mono ?_; rintro e w' ⟨rfl, hb'⟩)
      | (go_at_call 28; refine (is_any _ _).mono ?_; rintro e w' ⟨rfl, hb'⟩))
  have hS : Below W0.heap.size W0 _ ∧ _ := (by assumption)
  have hbwz := hS.1
  clear hS
  have hzz := hbwz.size
  have qz_0 := fun o => (hbwz.cell (p := ⟨w.heap.size, o, none⟩) lW0_0).trans (qW0_0 o)
  have rz_0 := fun o => (hbwz.frozen (p := ⟨w.heap.size, o, none⟩) lW0_0).trans (rW0_0 o)
  have lz_0 := Nat.lt_of_lt_of_le lW0_0 hzz
  clear qW0_0 rW0_0
  have qz_1 := fun o => (hbwz.cell (p := ⟨w.heap.size + 1, o, none⟩) lW0_1).trans (qW0_1 o)
  have rz_1 := fun o => (hbwz.frozen (p := ⟨w.heap.size + 1, o, none⟩) lW0_1).trans (rW0_1 o)
  have lz_1 := Nat.lt_of_lt_of_le lW0_1 hzz
  clear qW0_1 rW0_1
  generalize isB (lessV v t.lo) = L at *
  generalize isB (lessV t.lo v) = M at *
  generalize eqB v t.lo = S at *
  go_wp2_with fail
  all_goals go_ret
  all_goals exact ⟨ret_bool (by first | (rw [HB.out]; done) | (rw [HB.out]; simp [*]; done) | (rw [HB.out]; simp; omega) | (rw [HB.out]; simp [*]; omega) | (rw [HB.out]; simp only [List.isEmpty_iff, List.isEmpty_eq_false_iff] at *; simp [*]; done) | (rw [HB.out]; simp only [List.isEmpty_iff, List.isEmpty_eq_false_iff] at *; simp [*]; omega) | (rw [HB.out, Bool.eq_iff_iff]; simp only [List.isEmpty_iff, List.isEmpty_eq_false_iff] at *; simp [*]; done) | (exfalso; omega)), (by repeat' (first | (with_reducible exact Below.refl _ _) | (with_reducible assumption) | (with_reducible refine Below.drew ?_) | (with_reducible refine below_drewN ?_ _) | (with_reducible refine below_iterAt ?_ ?_ _ _) | (with_reducible refine below_iter ?_ ?_ _ _) | (with_reducible refine Below.alloc ?_ ?_ _) | (with_reducible refine Below.setCell ?_ ?_ _) | (with_reducible refine Below.trans ?_ (Below.mono (by assumption) ?_)) | (simp only [sz_alloc, sz_set, sz_drew, sz_drewN, sz_iterAt, sz_iter] at *; omega) | omega | (simp; done) | (simp; omega) | (apply Below.size; assumption) | (simp only [sz_drew, sz_drewN]; apply Below.size; assumption) | (refine Nat.le_trans ?_ (Below.size (by assumption)))))⟩

set_option maxRecDepth 100000 in
set_option maxHeartbeats 1600000 in
theorem one5 (t : Tst) (v : Vl) (w : World) (ht : t.wf) (hv : v.wf) (hE : Env w) (hk : t.k = 5) :
    Calls Tryd.prog 19 #[.agg #[.int .i64 t.k, .int .i64 t.lo.k, .int .i64 t.lo.n, .int .i64 t.lo.s, .string t.lo.t, .int .i64 t.lo.i, .int .i64 t.hi.k, .int .i64 t.hi.n, .int .i64 t.hi.s, .string t.hi.t, .int .i64 t.hi.i, .bool t.ol, .bool t.oh], .agg #[.int .i64 v.k, .int .i64 v.n, .int .i64 v.s, .string v.t, .int .i64 v.i]] w fun e w' =>
      e = .returned (.bool (oneB t v)) ∧ Below w.heap.size w w' := by
  obtain ⟨B, hB⟩ : ∃ B, oneB t v = B := ⟨_, rfl⟩
  rw [hB]
  have HB : Hid (B = (isB (lessV t.lo v) || eqB v t.lo)) := by rw [← hB]; show oneB t v = _; unfold oneB lessB; simp [hk]
  have e1 : (t.k == 1) = false := by simp [hk]
  have e2 : (t.k == 2) = false := by simp [hk]
  have e3 : (t.k == 3) = false := by simp [hk]
  have e4 : (t.k == 4) = false := by simp [hk]
  have e5 : (t.k == 5) = true := by simp [hk]
  clear hB hk
  have hl := ht.lo
  have hh := ht.hi
  clear ht
  have hq := fun W => eqV_run v t.lo W
  have hq2 := fun W => eqV_run v t.hi W
  go_enter Tryd.func19, Tryd.ntmps19
  go_wp2_with fail
  generalize hEW0 : (w.alloc _).alloc _ = W0
  have hbW0 : Below w.heap.size w W0 := (by rw [← hEW0]; exact (by repeat' (first | (with_reducible exact Below.refl _ _) | (with_reducible assumption) | (with_reducible refine Below.drew ?_) | (with_reducible refine below_drewN ?_ _) | (with_reducible refine below_iterAt ?_ ?_ _ _) | (with_reducible refine below_iter ?_ ?_ _ _) | (with_reducible refine Below.alloc ?_ ?_ _) | (with_reducible refine Below.setCell ?_ ?_ _) | (with_reducible refine Below.trans ?_ (Below.mono (by assumption) ?_)) | (simp only [sz_alloc, sz_set, sz_drew, sz_drewN, sz_iterAt, sz_iter] at *; omega) | omega | (simp; done) | (simp; omega) | (apply Below.size; assumption) | (simp only [sz_drew, sz_drewN]; apply Below.size; assumption) | (refine Nat.le_trans ?_ (Below.size (by assumption))))))
  have lW0_0 : w.heap.size < W0.heap.size := (by rw [← hEW0]; first | omega | (simp only [sz_alloc, sz_set, sz_drew, sz_drewN, sz_iterAt, sz_iter] at *; omega) | (simp; done) | (simp; omega) | (simp at *; omega))
  have qW0_0 : ∀ o, W0.cell? ⟨w.heap.size, o, none⟩ = _ := fun o => congrArg (fun W : World => W.cell? ⟨w.heap.size, o, none⟩) hEW0.symm
  have rW0_0 : ∀ o, W0.frozen? ⟨w.heap.size, o, none⟩ = _ := fun o => congrArg (fun W : World => W.frozen? ⟨w.heap.size, o, none⟩) hEW0.symm
  have lW0_1 : w.heap.size + 1 < W0.heap.size := (by rw [← hEW0]; first | omega | (simp only [sz_alloc, sz_set, sz_drew, sz_drewN, sz_iterAt, sz_iter] at *; omega) | (simp; done) | (simp; omega) | (simp at *; omega))
  have qW0_1 : ∀ o, W0.cell? ⟨w.heap.size + 1, o, none⟩ = _ := fun o => congrArg (fun W : World => W.cell? ⟨w.heap.size + 1, o, none⟩) hEW0.symm
  have rW0_1 : ∀ o, W0.frozen? ⟨w.heap.size + 1, o, none⟩ = _ := fun o => congrArg (fun W : World => W.frozen? ⟨w.heap.size + 1, o, none⟩) hEW0.symm
  clear hEW0
  have kk0 : W0.cell? ⟨w.heap.size, 1, none⟩ = some (.int .i64 t.lo.k) := (by first | (simp [go_sem]; done) | (simp [go_sem, *]; done))
  have kk1 : W0.cell? ⟨w.heap.size, 2, none⟩ = some (.int .i64 t.lo.n) := (by first | (simp [go_sem]; done) | (simp [go_sem, *]; done))
  have kk2 : W0.cell? ⟨w.heap.size, 3, none⟩ = some (.int .i64 t.lo.s) := (by first | (simp [go_sem]; done) | (simp [go_sem, *]; done))
  have kk3 : W0.cell? ⟨w.heap.size, 4, none⟩ = some (.string t.lo.t) := (by first | (simp [go_sem]; done) | (simp [go_sem, *]; done))
  have kk4 : W0.cell? ⟨w.heap.size, 5, none⟩ = some (.int .i64 t.lo.i) := (by first | (simp [go_sem]; done) | (simp [go_sem, *]; done))
  have kk5 : W0.cell? ⟨w.heap.size + 1, 0, none⟩ = some (.int .i64 v.k) := (by first | (simp [go_sem]; done) | (simp [go_sem, *]; done))
  have kk6 : W0.cell? ⟨w.heap.size + 1, 1, none⟩ = some (.int .i64 v.n) := (by first | (simp [go_sem]; done) | (simp [go_sem, *]; done))
  have kk7 : W0.cell? ⟨w.heap.size + 1, 2, none⟩ = some (.int .i64 v.s) := (by first | (simp [go_sem]; done) | (simp [go_sem, *]; done))
  have kk8 : W0.cell? ⟨w.heap.size + 1, 3, none⟩ = some (.string v.t) := (by first | (simp [go_sem]; done) | (simp [go_sem, *]; done))
  have kk9 : W0.cell? ⟨w.heap.size + 1, 4, none⟩ = some (.int .i64 v.i) := (by first | (simp [go_sem]; done) | (simp [go_sem, *]; done))
  go_region_held3 (fun w' => Below W0.heap.size W0 w' ∧ w'.cell? ⟨w.heap.size, 1, none⟩ = some (.int .i64 t.lo.k) ∧ w'.cell? ⟨w.heap.size, 2, none⟩ = some (.int .i64 t.lo.n) ∧ w'.cell? ⟨w.heap.size, 3, none⟩ = some (.int .i64 t.lo.s) ∧ w'.cell? ⟨w.heap.size, 4, none⟩ = some (.string t.lo.t) ∧ w'.cell? ⟨w.heap.size, 5, none⟩ = some (.int .i64 t.lo.i) ∧ w'.cell? ⟨w.heap.size + 1, 0, none⟩ = some (.int .i64 v.k) ∧ w'.cell? ⟨w.heap.size + 1, 1, none⟩ = some (.int .i64 v.n) ∧ w'.cell? ⟨w.heap.size + 1, 2, none⟩ = some (.int .i64 v.s) ∧ w'.cell? ⟨w.heap.size + 1, 3, none⟩ = some (.string v.t) ∧ w'.cell? ⟨w.heap.size + 1, 4, none⟩ = some (.int .i64 v.i)) ((refine and_keep ?_ (fun hk => ⟨keep_cell hk lW0_0 kk0, keep_cell hk lW0_0 kk1, keep_cell hk lW0_0 kk2, keep_cell hk lW0_0 kk3, keep_cell hk lW0_0 kk4, keep_cell hk lW0_1 kk5, keep_cell hk lW0_1 kk6, keep_cell hk lW0_1 kk7, keep_cell hk lW0_1 kk8, keep_cell hk lW0_1 kk9⟩); exact (by repeat' (first | (with_reducible exact Below.refl _ _) | (with_reducible assumption) | (with_reducible refine Below.drew ?_) | (with_reducible refine below_drewN ?_ _) | (with_reducible refine below_iterAt ?_ ?_ _ _) | (with_reducible refine below_iter ?_ ?_ _ _) | (with_reducible refine Below.alloc ?_ ?_ _) | (with_reducible refine Below.setCell ?_ ?_ _) | (with_reducible refine Below.trans ?_ (Below.mono (by assumption) ?_)) | (simp only [sz_alloc, sz_set, sz_drew, sz_drewN, sz_iterAt, sz_iter] at *; omega) | omega | (simp; done) | (simp; omega) | (apply Below.size; assumption) | (simp only [sz_drew, sz_drewN]; apply Below.size; assumption) | (refine Nat.le_trans ?_ (Below.size (by assumption)))))))
    (first
      | (go_at_call 29; refine (less_any _ _ _ (by assumption) (by assumption) (hE.below (by repeat' (first | (with_reducible exact Below.refl _ _) | (with_reducible assumption) | (with_reducible refine Below.drew ?_) | (with_reducible refine below_drewN ?_ _) | (with_reducible refine below_iterAt ?_ ?_ _ _) | (with_reducible refine below_iter ?_ ?_ _ _) | (with_reducible refine Below.alloc ?_ ?_ _) | (with_reducible refine Below.setCell ?_ ?_ _) | (with_reducible refine Below.trans ?_ (Below.mono (by assumption) ?_)) | (simp only [sz_alloc, sz_set, sz_drew, sz_drewN, sz_iterAt, sz_iter] at *; omega) | omega | (simp; done) | (simp; omega) | (apply Below.size; assumption) | (simp only [sz_drew, sz_drewN]; apply Below.size; assumption) | (refine Nat.le_trans ?_ (Below.size (by assumption))))))).mono ?_; rintro e w' ⟨rfl, hb'⟩)
      | (go_at_call 28; refine (is_any _ _).mono ?_; rintro e w' ⟨rfl, hb'⟩))
  have hS : Below W0.heap.size W0 _ ∧ _ := (by assumption)
  have hbwz := hS.1
  clear hS
  have hzz := hbwz.size
  have qz_0 := fun o => (hbwz.cell (p := ⟨w.heap.size, o, none⟩) lW0_0).trans (qW0_0 o)
  have rz_0 := fun o => (hbwz.frozen (p := ⟨w.heap.size, o, none⟩) lW0_0).trans (rW0_0 o)
  have lz_0 := Nat.lt_of_lt_of_le lW0_0 hzz
  clear qW0_0 rW0_0
  have qz_1 := fun o => (hbwz.cell (p := ⟨w.heap.size + 1, o, none⟩) lW0_1).trans (qW0_1 o)
  have rz_1 := fun o => (hbwz.frozen (p := ⟨w.heap.size + 1, o, none⟩) lW0_1).trans (rW0_1 o)
  have lz_1 := Nat.lt_of_lt_of_le lW0_1 hzz
  clear qW0_1 rW0_1
  generalize isB (lessV v t.lo) = L at *
  generalize isB (lessV t.lo v) = M at *
  generalize eqB v t.lo = S at *
  go_wp2_with fail
  all_goals go_ret
  all_goals exact ⟨ret_bool (by first | (rw [HB.out]; done) | (rw [HB.out]; simp [*]; done) | (rw [HB.out]; simp; omega) | (rw [HB.out]; simp [*]; omega) | (rw [HB.out]; simp only [List.isEmpty_iff, List.isEmpty_eq_false_iff] at *; simp [*]; done) | (rw [HB.out]; simp only [List.isEmpty_iff, List.isEmpty_eq_false_iff] at *; simp [*]; omega) | (rw [HB.out, Bool.eq_iff_iff]; simp only [List.isEmpty_iff, List.isEmpty_eq_false_iff] at *; simp [*]; done) | (exfalso; omega)), (by repeat' (first | (with_reducible exact Below.refl _ _) | (with_reducible assumption) | (with_reducible refine Below.drew ?_) | (with_reducible refine below_drewN ?_ _) | (with_reducible refine below_iterAt ?_ ?_ _ _) | (with_reducible refine below_iter ?_ ?_ _ _) | (with_reducible refine Below.alloc ?_ ?_ _) | (with_reducible refine Below.setCell ?_ ?_ _) | (with_reducible refine Below.trans ?_ (Below.mono (by assumption) ?_)) | (simp only [sz_alloc, sz_set, sz_drew, sz_drewN, sz_iterAt, sz_iter] at *; omega) | omega | (simp; done) | (simp; omega) | (apply Below.size; assumption) | (simp only [sz_drew, sz_drewN]; apply Below.size; assumption) | (refine Nat.le_trans ?_ (Below.size (by assumption)))))⟩

set_option maxRecDepth 100000 in
set_option maxHeartbeats 1600000 in
theorem one6 (t : Tst) (v : Vl) (w : World) (ht : t.wf) (hv : v.wf) (hE : Env w) (h1 : ¬ t.k = 1) (h2 : ¬ t.k = 2) (h3 : ¬ t.k = 3) (h4 : ¬ t.k = 4) (h5 : ¬ t.k = 5) :
    Calls Tryd.prog 19 #[.agg #[.int .i64 t.k, .int .i64 t.lo.k, .int .i64 t.lo.n, .int .i64 t.lo.s, .string t.lo.t, .int .i64 t.lo.i, .int .i64 t.hi.k, .int .i64 t.hi.n, .int .i64 t.hi.s, .string t.hi.t, .int .i64 t.hi.i, .bool t.ol, .bool t.oh], .agg #[.int .i64 v.k, .int .i64 v.n, .int .i64 v.s, .string v.t, .int .i64 v.i]] w fun e w' =>
      e = .returned (.bool (oneB t v)) ∧ Below w.heap.size w w' := by
  obtain ⟨B, hB⟩ : ∃ B, oneB t v = B := ⟨_, rfl⟩
  rw [hB]
  have HB : Hid (B = ((isB (lessV t.lo v) || eqB v t.lo && !t.ol) && (isB (lessV v t.hi) || eqB v t.hi && !t.oh))) := by rw [← hB]; show oneB t v = _; unfold oneB lessB; simp [h1, h2, h3, h4, h5]
  have e1 : (t.k == 1) = false := by simp [h1]
  have e2 : (t.k == 2) = false := by simp [h2]
  have e3 : (t.k == 3) = false := by simp [h3]
  have e4 : (t.k == 4) = false := by simp [h4]
  have e5 : (t.k == 5) = false := by simp [h5]
  clear hB h1 h2 h3 h4 h5
  have hl := ht.lo
  have hh := ht.hi
  clear ht
  have hq := fun W => eqV_run v t.lo W
  have hq2 := fun W => eqV_run v t.hi W
  go_enter Tryd.func19, Tryd.ntmps19
  go_wp2_with fail
  generalize hEW0 : (w.alloc _).alloc _ = W0
  have hbW0 : Below w.heap.size w W0 := (by rw [← hEW0]; exact (by repeat' (first | (with_reducible exact Below.refl _ _) | (with_reducible assumption) | (with_reducible refine Below.drew ?_) | (with_reducible refine below_drewN ?_ _) | (with_reducible refine below_iterAt ?_ ?_ _ _) | (with_reducible refine below_iter ?_ ?_ _ _) | (with_reducible refine Below.alloc ?_ ?_ _) | (with_reducible refine Below.setCell ?_ ?_ _) | (with_reducible refine Below.trans ?_ (Below.mono (by assumption) ?_)) | (simp only [sz_alloc, sz_set, sz_drew, sz_drewN, sz_iterAt, sz_iter] at *; omega) | omega | (simp; done) | (simp; omega) | (apply Below.size; assumption) | (simp only [sz_drew, sz_drewN]; apply Below.size; assumption) | (refine Nat.le_trans ?_ (Below.size (by assumption))))))
  have lW0_0 : w.heap.size < W0.heap.size := (by rw [← hEW0]; first | omega | (simp only [sz_alloc, sz_set, sz_drew, sz_drewN, sz_iterAt, sz_iter] at *; omega) | (simp; done) | (simp; omega) | (simp at *; omega))
  have qW0_0 : ∀ o, W0.cell? ⟨w.heap.size, o, none⟩ = _ := fun o => congrArg (fun W : World => W.cell? ⟨w.heap.size, o, none⟩) hEW0.symm
  have rW0_0 : ∀ o, W0.frozen? ⟨w.heap.size, o, none⟩ = _ := fun o => congrArg (fun W : World => W.frozen? ⟨w.heap.size, o, none⟩) hEW0.symm
  have lW0_1 : w.heap.size + 1 < W0.heap.size := (by rw [← hEW0]; first | omega | (simp only [sz_alloc, sz_set, sz_drew, sz_drewN, sz_iterAt, sz_iter] at *; omega) | (simp; done) | (simp; omega) | (simp at *; omega))
  have qW0_1 : ∀ o, W0.cell? ⟨w.heap.size + 1, o, none⟩ = _ := fun o => congrArg (fun W : World => W.cell? ⟨w.heap.size + 1, o, none⟩) hEW0.symm
  have rW0_1 : ∀ o, W0.frozen? ⟨w.heap.size + 1, o, none⟩ = _ := fun o => congrArg (fun W : World => W.frozen? ⟨w.heap.size + 1, o, none⟩) hEW0.symm
  clear hEW0
  have kk0 : W0.cell? ⟨w.heap.size, 1, none⟩ = some (.int .i64 t.lo.k) := (by first | (simp [go_sem]; done) | (simp [go_sem, *]; done))
  have kk1 : W0.cell? ⟨w.heap.size, 2, none⟩ = some (.int .i64 t.lo.n) := (by first | (simp [go_sem]; done) | (simp [go_sem, *]; done))
  have kk2 : W0.cell? ⟨w.heap.size, 3, none⟩ = some (.int .i64 t.lo.s) := (by first | (simp [go_sem]; done) | (simp [go_sem, *]; done))
  have kk3 : W0.cell? ⟨w.heap.size, 4, none⟩ = some (.string t.lo.t) := (by first | (simp [go_sem]; done) | (simp [go_sem, *]; done))
  have kk4 : W0.cell? ⟨w.heap.size, 5, none⟩ = some (.int .i64 t.lo.i) := (by first | (simp [go_sem]; done) | (simp [go_sem, *]; done))
  have kk5 : W0.cell? ⟨w.heap.size + 1, 0, none⟩ = some (.int .i64 v.k) := (by first | (simp [go_sem]; done) | (simp [go_sem, *]; done))
  have kk6 : W0.cell? ⟨w.heap.size + 1, 1, none⟩ = some (.int .i64 v.n) := (by first | (simp [go_sem]; done) | (simp [go_sem, *]; done))
  have kk7 : W0.cell? ⟨w.heap.size + 1, 2, none⟩ = some (.int .i64 v.s) := (by first | (simp [go_sem]; done) | (simp [go_sem, *]; done))
  have kk8 : W0.cell? ⟨w.heap.size + 1, 3, none⟩ = some (.string v.t) := (by first | (simp [go_sem]; done) | (simp [go_sem, *]; done))
  have kk9 : W0.cell? ⟨w.heap.size + 1, 4, none⟩ = some (.int .i64 v.i) := (by first | (simp [go_sem]; done) | (simp [go_sem, *]; done))
  go_region_held3 (fun w' => Below W0.heap.size W0 w' ∧ w'.cell? ⟨w.heap.size, 1, none⟩ = some (.int .i64 t.lo.k) ∧ w'.cell? ⟨w.heap.size, 2, none⟩ = some (.int .i64 t.lo.n) ∧ w'.cell? ⟨w.heap.size, 3, none⟩ = some (.int .i64 t.lo.s) ∧ w'.cell? ⟨w.heap.size, 4, none⟩ = some (.string t.lo.t) ∧ w'.cell? ⟨w.heap.size, 5, none⟩ = some (.int .i64 t.lo.i) ∧ w'.cell? ⟨w.heap.size + 1, 0, none⟩ = some (.int .i64 v.k) ∧ w'.cell? ⟨w.heap.size + 1, 1, none⟩ = some (.int .i64 v.n) ∧ w'.cell? ⟨w.heap.size + 1, 2, none⟩ = some (.int .i64 v.s) ∧ w'.cell? ⟨w.heap.size + 1, 3, none⟩ = some (.string v.t) ∧ w'.cell? ⟨w.heap.size + 1, 4, none⟩ = some (.int .i64 v.i)) ((refine and_keep ?_ (fun hk => ⟨keep_cell hk lW0_0 kk0, keep_cell hk lW0_0 kk1, keep_cell hk lW0_0 kk2, keep_cell hk lW0_0 kk3, keep_cell hk lW0_0 kk4, keep_cell hk lW0_1 kk5, keep_cell hk lW0_1 kk6, keep_cell hk lW0_1 kk7, keep_cell hk lW0_1 kk8, keep_cell hk lW0_1 kk9⟩); exact (by repeat' (first | (with_reducible exact Below.refl _ _) | (with_reducible assumption) | (with_reducible refine Below.drew ?_) | (with_reducible refine below_drewN ?_ _) | (with_reducible refine below_iterAt ?_ ?_ _ _) | (with_reducible refine below_iter ?_ ?_ _ _) | (with_reducible refine Below.alloc ?_ ?_ _) | (with_reducible refine Below.setCell ?_ ?_ _) | (with_reducible refine Below.trans ?_ (Below.mono (by assumption) ?_)) | (simp only [sz_alloc, sz_set, sz_drew, sz_drewN, sz_iterAt, sz_iter] at *; omega) | omega | (simp; done) | (simp; omega) | (apply Below.size; assumption) | (simp only [sz_drew, sz_drewN]; apply Below.size; assumption) | (refine Nat.le_trans ?_ (Below.size (by assumption)))))))
    (first
      | (go_at_call 29; refine (less_any _ _ _ (by assumption) (by assumption) (hE.below (by repeat' (first | (with_reducible exact Below.refl _ _) | (with_reducible assumption) | (with_reducible refine Below.drew ?_) | (with_reducible refine below_drewN ?_ _) | (with_reducible refine below_iterAt ?_ ?_ _ _) | (with_reducible refine below_iter ?_ ?_ _ _) | (with_reducible refine Below.alloc ?_ ?_ _) | (with_reducible refine Below.setCell ?_ ?_ _) | (with_reducible refine Below.trans ?_ (Below.mono (by assumption) ?_)) | (simp only [sz_alloc, sz_set, sz_drew, sz_drewN, sz_iterAt, sz_iter] at *; omega) | omega | (simp; done) | (simp; omega) | (apply Below.size; assumption) | (simp only [sz_drew, sz_drewN]; apply Below.size; assumption) | (refine Nat.le_trans ?_ (Below.size (by assumption))))))).mono ?_; rintro e w' ⟨rfl, hb'⟩)
      | (go_at_call 28; refine (is_any _ _).mono ?_; rintro e w' ⟨rfl, hb'⟩))
  have hS : Below W0.heap.size W0 _ ∧ _ := (by assumption)
  have hbwz := hS.1
  clear hS
  have hzz := hbwz.size
  have qz_0 := fun o => (hbwz.cell (p := ⟨w.heap.size, o, none⟩) lW0_0).trans (qW0_0 o)
  have rz_0 := fun o => (hbwz.frozen (p := ⟨w.heap.size, o, none⟩) lW0_0).trans (rW0_0 o)
  have lz_0 := Nat.lt_of_lt_of_le lW0_0 hzz
  clear qW0_0 rW0_0
  have qz_1 := fun o => (hbwz.cell (p := ⟨w.heap.size + 1, o, none⟩) lW0_1).trans (qW0_1 o)
  have rz_1 := fun o => (hbwz.frozen (p := ⟨w.heap.size + 1, o, none⟩) lW0_1).trans (rW0_1 o)
  have lz_1 := Nat.lt_of_lt_of_le lW0_1 hzz
  clear qW0_1 rW0_1
  generalize isB (lessV v t.lo) = L at *
  generalize isB (lessV t.lo v) = M at *
  generalize eqB v t.lo = S at *
  go_wp2_with fail
  refine (less_any v t.hi _ hv hh (hE.below (by repeat' (first | (with_reducible exact Below.refl _ _) | (with_reducible assumption) | (with_reducible refine Below.drew ?_) | (with_reducible refine below_drewN ?_ _) | (with_reducible refine below_iterAt ?_ ?_ _ _) | (with_reducible refine below_iter ?_ ?_ _ _) | (with_reducible refine Below.alloc ?_ ?_ _) | (with_reducible refine Below.setCell ?_ ?_ _) | (with_reducible refine Below.trans ?_ (Below.mono (by assumption) ?_)) | (simp only [sz_alloc, sz_set, sz_drew, sz_drewN, sz_iterAt, sz_iter] at *; omega) | omega | (simp; done) | (simp; omega) | (apply Below.size; assumption) | (simp only [sz_drew, sz_drewN]; apply Below.size; assumption) | (refine Nat.le_trans ?_ (Below.size (by assumption))))))).mono ?_
  rintro e w1 ⟨rfl, hb1⟩
  obtain ⟨hc1, hf1⟩ := bcell hb1
  have hz1 := hb1.size
  try simp at hz1
  have q1_0 := fun o => hc1 (w.heap.size) o (by first | omega | (simp only [sz_alloc, sz_set, sz_drew, sz_drewN, sz_iterAt, sz_iter] at *; omega) | (simp; done) | (simp; omega) | (simp at *; omega))
  have l1_0 : w.heap.size < w1.heap.size := by omega
  have r1_0 := fun o => hf1 (w.heap.size) o (by first | omega | (simp only [sz_alloc, sz_set, sz_drew, sz_drewN, sz_iterAt, sz_iter] at *; omega) | (simp; done) | (simp; omega) | (simp at *; omega))
  have q1_1 := fun o => hc1 (w.heap.size + 1) o (by first | omega | (simp only [sz_alloc, sz_set, sz_drew, sz_drewN, sz_iterAt, sz_iter] at *; omega) | (simp; done) | (simp; omega) | (simp at *; omega))
  have l1_1 : w.heap.size + 1 < w1.heap.size := by omega
  have r1_1 := fun o => hf1 (w.heap.size + 1) o (by first | omega | (simp only [sz_alloc, sz_set, sz_drew, sz_drewN, sz_iterAt, sz_iter] at *; omega) | (simp; done) | (simp; omega) | (simp at *; omega))
  clear hc1 hf1
  go_wp2_with fail
  refine (is_any (lessV v t.hi) _).mono ?_
  rintro e w2 ⟨rfl, hb2⟩
  obtain ⟨hc2, hf2⟩ := bcell hb2
  have hz2 := hb2.size
  try simp at hz2
  have q2_0 := fun o => hc2 (w.heap.size) o (by first | omega | (simp only [sz_alloc, sz_set, sz_drew, sz_drewN, sz_iterAt, sz_iter] at *; omega) | (simp; done) | (simp; omega) | (simp at *; omega))
  have l2_0 : w.heap.size < w2.heap.size := by omega
  have r2_0 := fun o => hf2 (w.heap.size) o (by first | omega | (simp only [sz_alloc, sz_set, sz_drew, sz_drewN, sz_iterAt, sz_iter] at *; omega) | (simp; done) | (simp; omega) | (simp at *; omega))
  have q2_1 := fun o => hc2 (w.heap.size + 1) o (by first | omega | (simp only [sz_alloc, sz_set, sz_drew, sz_drewN, sz_iterAt, sz_iter] at *; omega) | (simp; done) | (simp; omega) | (simp at *; omega))
  have l2_1 : w.heap.size + 1 < w2.heap.size := by omega
  have r2_1 := fun o => hf2 (w.heap.size + 1) o (by first | omega | (simp only [sz_alloc, sz_set, sz_drew, sz_drewN, sz_iterAt, sz_iter] at *; omega) | (simp; done) | (simp; omega) | (simp at *; omega))
  clear hc2 hf2
  generalize isB (lessV v t.hi) = N at *
  generalize eqB v t.hi = R at *
  obtain ⟨ol, hol⟩ : ∃ b, t.ol = b := ⟨_, rfl⟩
  obtain ⟨oh, hoh⟩ : ∃ b, t.oh = b := ⟨_, rfl⟩
  rw [hol, hoh] at HB
  cases M <;> cases N <;> cases ol <;> cases oh
  all_goals
    go_wp2_with fail
    all_goals go_ret
    all_goals exact ⟨ret_bool (by first | (rw [HB.out]; done) | (rw [HB.out]; simp [*]; done) | (rw [HB.out]; simp; omega) | (rw [HB.out]; simp [*]; omega) | (rw [HB.out]; simp only [List.isEmpty_iff, List.isEmpty_eq_false_iff] at *; simp [*]; done) | (rw [HB.out]; simp only [List.isEmpty_iff, List.isEmpty_eq_false_iff] at *; simp [*]; omega) | (rw [HB.out, Bool.eq_iff_iff]; simp only [List.isEmpty_iff, List.isEmpty_eq_false_iff] at *; simp [*]; done) | (exfalso; omega)), (by repeat' (first | (with_reducible exact Below.refl _ _) | (with_reducible assumption) | (with_reducible refine Below.drew ?_) | (with_reducible refine below_drewN ?_ _) | (with_reducible refine below_iterAt ?_ ?_ _ _) | (with_reducible refine below_iter ?_ ?_ _ _) | (with_reducible refine Below.alloc ?_ ?_ _) | (with_reducible refine Below.setCell ?_ ?_ _) | (with_reducible refine Below.trans ?_ (Below.mono (by assumption) ?_)) | (simp only [sz_alloc, sz_set, sz_drew, sz_drewN, sz_iterAt, sz_iter] at *; omega) | omega | (simp; done) | (simp; omega) | (apply Below.size; assumption) | (simp only [sz_drew, sz_drewN]; apply Below.size; assumption) | (refine Nat.le_trans ?_ (Below.size (by assumption)))))⟩

theorem one_any (t : Tst) (v : Vl) (w : World) (ht : t.wf) (hv : v.wf) (hE : Env w) :
    Calls Tryd.prog 19 #[.agg #[.int .i64 t.k, .int .i64 t.lo.k, .int .i64 t.lo.n, .int .i64 t.lo.s, .string t.lo.t, .int .i64 t.lo.i, .int .i64 t.hi.k, .int .i64 t.hi.n, .int .i64 t.hi.s, .string t.hi.t, .int .i64 t.hi.i, .bool t.ol, .bool t.oh], .agg #[.int .i64 v.k, .int .i64 v.n, .int .i64 v.s, .string v.t, .int .i64 v.i]] w fun e w' =>
      e = .returned (.bool (oneB t v)) ∧ Below w.heap.size w w' := by
  by_cases h1 : t.k = 1
  · exact one1 t v w ht hv hE h1
  by_cases h2 : t.k = 2
  · exact one2 t v w ht hv hE h2
  by_cases h3 : t.k = 3
  · exact one3 t v w ht hv hE h3
  by_cases h4 : t.k = 4
  · exact one4 t v w ht hv hE h4
  by_cases h5 : t.k = 5
  · exact one5 t v w ht hv hE h5
  exact one6 t v w ht hv hE h1 h2 h3 h4 h5
end Go.Proofs.YtogegempbjpdiaaDoor
