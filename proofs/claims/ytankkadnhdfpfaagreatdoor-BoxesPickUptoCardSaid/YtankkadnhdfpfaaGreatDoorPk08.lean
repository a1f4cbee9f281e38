import Derived.Test.YtankkadnhdfpfaaGreatDoorPk05
import Derived.Test.YtankkadnhdfpfaaGreatDoorPk01
/- A single test: soffit/match.one, walked. -/
set_option linter.unusedSimpArgs false
set_option linter.unusedVariables false
namespace Go.Proofs.YtankkadnhdfpfaaGreatDoor
open Go.RowKit

structure Tst where
  k : Int
  lo : Vl
  hi : Vl
  ol : Bool
  oh : Bool
structure Tst.wf (t : Tst) : Prop where
  k : I64 t.k
  lo : t.lo.wf
  hi : t.hi.wf
def lessB (a b : Vl) : Bool := isB (lessV a b)
def oneB (t : Tst) (v : Vl) : Bool :=
  if t.k = 1 then eqB v t.lo
  else if t.k = 2 then lessB v t.lo
  else if t.k = 3 then lessB v t.lo || eqB v t.lo
  else if t.k = 4 then lessB t.lo v
  else if t.k = 5 then lessB t.lo v || eqB v t.lo
  else (lessB t.lo v || eqB v t.lo && !t.ol) && (lessB v t.hi || eqB v t.hi && !t.oh)

set_option maxRecDepth 100000 in
set_option maxHeartbeats 1600000 in
theorem one1 (t : Tst) (v : Vl) (w : World) (ht : t.wf) (hv : v.wf) (hE : Env w) (hk : t.k = 1) :
    Calls Tryz.prog 99 #[.agg #[.int .i64 t.k, .int .i64 t.lo.k, .int .i64 t.lo.n, .int .i64 t.lo.s, .string t.lo.t, .int .i64 t.lo.i, .int .i64 t.hi.k, .int .i64 t.hi.n, .int .i64 t.hi.s, .string t.hi.t, .int .i64 t.hi.i, .bool t.ol, .bool t.oh], .agg #[.int .i64 v.k, .int .i64 v.n, .int .i64 v.s, .string v.t, .int .i64 v.i]] w fun e w' =>
      e = .returned (.bool (oneB t v)) ∧ Below w.heap.size w w' := by
  obtain ⟨B, hB⟩ : ∃ B, oneB t v = B := ⟨_, rfl⟩
  rw [hB]
  have HB : Hid (B = eqB v t.lo) := by rw [← hB]; show oneB t v = _; unfold oneB lessB; simp [hk]
  have e1 : (t.k == 1) = true := by simp [hk]
  clear hB hk
  have hl := ht.lo
  have hh := ht.hi
  clear ht
  have hq := fun W => eqV_run v t.lo W
  have hq2 := fun W => eqV_run v t.hi W
  go_enter Tryz.func99, Tryz.ntmps99
  go_wp2_with fail
  generalize hEW0 : (w.alloc _).alloc _ = W0
  have hbW0 : Below w.heap.size w W0 := (by rw [← hEW0]; exact bel)
  have lW0_0 : w.heap.size < W0.heap.size := lsz hEW0
  have qW0_0 : ∀ o, W0.cell? ⟨w.heap.size, o, none⟩ = _ := fun o => congrArg (fun W : World => W.cell? ⟨w.heap.size, o, none⟩) hEW0.symm
  have rW0_0 : ∀ o, W0.frozen? ⟨w.heap.size, o, none⟩ = _ := fun o => congrArg (fun W : World => W.frozen? ⟨w.heap.size, o, none⟩) hEW0.symm
  have lW0_1 : w.heap.size + 1 < W0.heap.size := lsz hEW0
  have qW0_1 : ∀ o, W0.cell? ⟨w.heap.size + 1, o, none⟩ = _ := fun o => congrArg (fun W : World => W.cell? ⟨w.heap.size + 1, o, none⟩) hEW0.symm
  have rW0_1 : ∀ o, W0.frozen? ⟨w.heap.size + 1, o, none⟩ = _ := fun o => congrArg (fun W : World => W.frozen? ⟨w.heap.size + 1, o, none⟩) hEW0.symm
  clear hEW0
  have kk0 : W0.cell? ⟨w.heap.size, 1, none⟩ = some (.int .i64 t.lo.k) := cel
  have kk1 : W0.cell? ⟨w.heap.size, 2, none⟩ = some (.int .i64 t.lo.n) := cel
  have kk2 : W0.cell? ⟨w.heap.size, 3, none⟩ = some (.int .i64 t.lo.s) := cel
  have kk3 : W0.cell? ⟨w.heap.size, 4, none⟩ = some (.string t.lo.t) := cel
  have kk4 : W0.cell? ⟨w.heap.size, 5, none⟩ = some (.int .i64 t.lo.i) := cel
  have kk5 : W0.cell? ⟨w.heap.size + 1, 0, none⟩ = some (.int .i64 v.k) := cel
  have kk6 : W0.cell? ⟨w.heap.size + 1, 1, none⟩ = some (.int .i64 v.n) := cel
  have kk7 : W0.cell? ⟨w.heap.size + 1, 2, none⟩ = some (.int .i64 v.s) := cel
  have kk8 : W0.cell? ⟨w.heap.size + 1, 3, none⟩ = some (.string v.t) := cel
  have kk9 : W0.cell? ⟨w.heap.size + 1, 4, none⟩ = some (.int .i64 v.i) := cel
  go_region_held3 (fun w' => Below W0.heap.size W0 w' ∧ w'.cell? ⟨w.heap.size, 1, none⟩ = some (.int .i64 t.lo.k) ∧ w'.cell? ⟨w.heap.size, 2, none⟩ = some (.int .i64 t.lo.n) ∧ w'.cell? ⟨w.heap.size, 3, none⟩ = some (.int .i64 t.lo.s) ∧ w'.cell? ⟨w.heap.size, 4, none⟩ = some (.string t.lo.t) ∧ w'.cell? ⟨w.heap.size, 5, none⟩ = some (.int .i64 t.lo.i) ∧ w'.cell? ⟨w.heap.size + 1, 0, none⟩ = some (.int .i64 v.k) ∧ w'.cell? ⟨w.heap.size + 1, 1, none⟩ = some (.int .i64 v.n) ∧ w'.cell? ⟨w.heap.size + 1, 2, none⟩ = some (.int .i64 v.s) ∧ w'.cell? ⟨w.heap.size + 1, 3, none⟩ = some (.string v.t) ∧ w'.cell? ⟨w.heap.size + 1, 4, none⟩ = some (.int .i64 v.i)) ((refine and_keep ?_ (fun hk => ⟨keep_cell hk lW0_0 kk0, keep_cell hk lW0_0 kk1, keep_cell hk lW0_0 kk2, keep_cell hk lW0_0 kk3, keep_cell hk lW0_0 kk4, keep_cell hk lW0_1 kk5, keep_cell hk lW0_1 kk6, keep_cell hk lW0_1 kk7, keep_cell hk lW0_1 kk8, keep_cell hk lW0_1 kk9⟩); exact bel))
    (first
      | (go_at_call 145; refine (less_any _ _ _ (by assumption) (by assumption) (hE.below bel)).mono ?_; rintro e w' ⟨rfl, hb'⟩)
      | (go_at_call 144; refine (is_any _ _).mono ?_; rintro e w' ⟨rfl, hb'⟩))
  have hS : Below W0.heap.size W0 _ ∧ _ := (by assumption)
  have hbwz := hS.1
  clear hS
  have hzz := hbwz.size
  have qz_0 := fun o => (hbwz.cell (p := ⟨w.heap.size, o, none⟩) lW0_0).trans (qW0_0 o)
  have rz_0 := fun o => (hbwz.frozen (p := ⟨w.heap.size, o, none⟩) lW0_0).trans (rW0_0 o)
  have lz_0 := Nat.lt_of_lt_of_le lW0_0 hzz
  clear qW0_0 rW0_0
  have qz_1 := fun o => (hbwz.cell (p := ⟨w.heap.size + 1, o, none⟩) lW0_1).trans (qW0_1 o)
  have rz_1 := fun o => (hbwz.frozen (p := ⟨w.heap.size + 1, o, none⟩) lW0_1).trans (rW0_1 o)
  have lz_1 := Nat.lt_of_lt_of_le lW0_1 hzz
  clear qW0_1 rW0_1
  generalize isB (lessV v t.lo) = L at *
  generalize isB (lessV t.lo v) = M at *
  generalize eqB v t.lo = S at *
  go_wp2_with fail
  all_goals go_ret
  all_goals exact ⟨ret_bool (by first | (rw [HB.out]; done) | (rw [HB.out]; simp [*]; done) | (rw [HB.out]; simp; omega) | (rw [HB.out]; simp [*]; omega) | (rw [HB.out]; simp only [List.isEmpty_iff, List.isEmpty_eq_false_iff] at *; simp [*]; done) | (rw [HB.out]; simp only [List.isEmpty_iff, List.isEmpty_eq_false_iff] at *; simp [*]; omega) | (rw [HB.out, Bool.eq_iff_iff]; simp only [List.isEmpty_iff, List.isEmpty_eq_false_iff] at *; simp [*]; done) | (exfalso; omega)), bel⟩

set_option maxRecDepth 100000 in
set_option maxHeartbeats 1600000 in
theorem one2 (t : Tst) (v : Vl) (w : World) (ht : t.wf) (hv : v.wf) (hE : Env w) (hk : t.k = 2) :
    Calls Tryz.prog 99 #[.agg #[.int .i64 t.k, .int .i64 t.lo.k, .int .i64 t.lo.n, .int .i64 t.lo.s, .string t.lo.t, .int .i64 t.lo.i, .int .i64 t.hi.k, .int .i64 t.hi.n, .int .i64 t.hi.s, .string t.hi.t, .int .i64 t.hi.i, .bool t.ol, .bool t.oh], .agg #[.int .i64 v.k, .int .i64 v.n, .int .i64 v.s, .string v.t, .int .i64 v.i]] w fun e w' =>
      e = .returned (.bool (oneB t v)) ∧ Below w.heap.size w w' := by
  obtain ⟨B, hB⟩ : ∃ B, oneB t v = B := ⟨_, rfl⟩
  rw [hB]
  have HB : Hid (B = isB (lessV v t.lo)) := by rw [← hB]; show oneB t v = _; unfold oneB lessB; simp [hk]
  have e1 : (t.k == 1) = false := by simp [hk]
  have e2 : (t.k == 2) = true := by simp [hk]
  clear hB hk
  have hl := ht.lo
  have hh := ht.hi
  clear ht
  have hq := fun W => eqV_run v t.lo W
  have hq2 := fun W => eqV_run v t.hi W
  go_enter Tryz.func99, Tryz.ntmps99
  go_wp2_with fail
  generalize hEW0 : (w.alloc _).alloc _ = W0
  have hbW0 : Below w.heap.size w W0 := (by rw [← hEW0]; exact bel)
  have lW0_0 : w.heap.size < W0.heap.size := lsz hEW0
  have qW0_0 : ∀ o, W0.cell? ⟨w.heap.size, o, none⟩ = _ := fun o => congrArg (fun W : World => W.cell? ⟨w.heap.size, o, none⟩) hEW0.symm
  have rW0_0 : ∀ o, W0.frozen? ⟨w.heap.size, o, none⟩ = _ := fun o => congrArg (fun W : World => W.frozen? ⟨w.heap.size, o, none⟩) hEW0.symm
  have lW0_1 : w.heap.size + 1 < W0.heap.size := lsz hEW0
  have qW0_1 : ∀ o, W0.cell? ⟨w.heap.size + 1, o, none⟩ = _ := fun o => congrArg (fun W : World => W.cell? ⟨w.heap.size + 1, o, none⟩) hEW0.symm
  have rW0_1 : ∀ o, W0.frozen? ⟨w.heap.size + 1, o, none⟩ = _ := fun o => congrArg (fun W : World => W.frozen? ⟨w.heap.size + 1, o, none⟩) hEW0.symm
  clear hEW0
  have kk0 : W0.cell? ⟨w.heap.size, 1, none⟩ = some (.int .i64 t.lo.k) := cel
  have kk1 : W0.cell? ⟨w.heap.size, 2, none⟩ = some (.int .i64 t.lo.n) := cel
  have kk2 : W0.cell? ⟨w.heap.size, 3, none⟩ = some (.int .i64 t.lo.s) := cel
  have kk3 : W0.cell? ⟨w.heap.size, 4, none⟩ = some (.string t.lo.t) := cel
  have kk4 : W0.cell? ⟨w.heap.size, 5, none⟩ = some (.int .i64 t.lo.i) := cel
  have kk5 : W0.cell? ⟨w.heap.size + 1, 0, none⟩ = some (.int .i64 v.k) := cel
  have kk6 : W0.cell? ⟨w.heap.size + 1, 1, none⟩ = some (.int .i64 v.n) := cel
  have kk7 : W0.cell? ⟨w.heap.size + 1, 2, none⟩ = some (.int .i64 v.s) := cel
  have kk8 : W0.cell? ⟨w.heap.size + 1, 3, none⟩ = some (.string v.t) := cel
  have kk9 : W0.cell? ⟨w.heap.size + 1, 4, none⟩ = some (.int .i64 v.i) := cel
  go_region_held3 (fun w' => Below W0.heap.size W0 w' ∧ w'.cell? ⟨w.heap.size, 1, none⟩ = some (.int .i64 t.lo.k) ∧ w'.cell? ⟨w.heap.size, 2, none⟩ = some (.int .i64 t.lo.n) ∧ w'.cell? ⟨w.heap.size, 3, none⟩ = some (.int .i64 t.lo.s) ∧ w'.cell? ⟨w.heap.size, 4, none⟩ = some (.string t.lo.t) ∧ w'.cell? ⟨w.heap.size, 5, none⟩ = some (.int .i64 t.lo.i) ∧ w'.cell? ⟨w.heap.size + 1, 0, none⟩ = some (.int .i64 v.k) ∧ w'.cell? ⟨w.heap.size + 1, 1, none⟩ = some (.int .i64 v.n) ∧ w'.cell? ⟨w.heap.size + 1, 2, none⟩ = some (.int .i64 v.s) ∧ w'.cell? ⟨w.heap.size + 1, 3, none⟩ = some (.string v.t) ∧ w'.cell? ⟨w.heap.size + 1, 4, none⟩ = some (.int .i64 v.i)) ((refine and_keep ?_ (fun hk => ⟨keep_cell hk lW0_0 kk0, keep_cell hk lW0_0 kk1, keep_cell hk lW0_0 kk2, keep_cell hk lW0_0 kk3, keep_cell hk lW0_0 kk4, keep_cell hk lW0_1 kk5, keep_cell hk lW0_1 kk6, keep_cell hk lW0_1 kk7, keep_cell hk lW0_1 kk8, keep_cell hk lW0_1 kk9⟩); exact bel))
    (first
      | (go_at_call 145; refine (less_any _ _ _ (by assumption) (by assumption) (hE.below bel)).mono ?_; rintro e w' ⟨rfl, hb'⟩)
      | (go_at_call 144; refine (is_any _ _).mono ?_; rintro e w' ⟨rfl, hb'⟩))
  have hS : Below W0.heap.size W0 _ ∧ _ := (by assumption)
  have hbwz := hS.1
  clear hS
  have hzz := hbwz.size
  have qz_0 := fun o => (hbwz.cell (p := ⟨w.heap.size, o, none⟩) lW0_0).trans (qW0_0 o)
  have rz_0 := fun o => (hbwz.frozen (p := ⟨w.heap.size, o, none⟩) lW0_0).trans (rW0_0 o)
  have lz_0 := Nat.lt_of_lt_of_le lW0_0 hzz
  clear qW0_0 rW0_0
  have qz_1 := fun o => (hbwz.cell (p := ⟨w.heap.size + 1, o, none⟩) lW0_1).trans (qW0_1 o)
  have rz_1 := fun o => (hbwz.frozen (p := ⟨w.heap.size + 1, o, none⟩) lW0_1).trans (rW0_1 o)
  have lz_1 := Nat.lt_of_lt_of_le lW0_1 hzz
  clear qW0_1 rW0_1
  generalize isB (lessV v t.lo) = L at *
  generalize isB (lessV t.lo v) = M at *
  generalize eqB v t.lo = S at *
  go_wp2_with fail
  all_goals go_ret
  all_goals exact ⟨ret_bool (by first | (rw [HB.out]; done) | (rw [HB.out]; simp [*]; done) | (rw [HB.out]; simp; omega) | (rw [HB.out]; simp [*]; omega) | (rw [HB.out]; simp only [List.isEmpty_iff, List.isEmpty_eq_false_iff] at *; simp [*]; done) | (rw [HB.out]; simp only [List.isEmpty_iff, List.isEmpty_eq_false_iff] at *; simp [*]; omega) | (rw [HB.out, Bool.eq_iff_iff]; simp only [List.isEmpty_iff, List.isEmpty_eq_false_iff] at *; simp [*]; done) | (exfalso; omega)), bel⟩

set_option maxRecDepth 100000 in
set_option maxHeartbeats 1600000 in
theorem one3 (t : Tst) (v : Vl) (w : World) (ht : t.wf) (hv : v.wf) (hE : Env w) (hk : t.k = 3) :
    Calls Tryz.prog 99 #[.agg #[.int .i64 t.k, .int .i64 t.lo.k, .int .i64 t.lo.n, .int .i64 t.lo.s, .string t.lo.t, .int .i64 t.lo.i, .int .i64 t.hi.k, .int .i64 t.hi.n, .int .i64 t.hi.s, .string t.hi.t, .int .i64 t.hi.i, .bool t.ol, .bool t.oh], .agg #[.int .i64 v.k, .int .i64 v.n, .int .i64 v.s, .string v.t, .int .i64 v.i]] w fun e w' =>
      e = .returned (.bool (oneB t v)) ∧ Below w.heap.size w w' := by
  obtain ⟨B, hB⟩ : ∃ B, oneB t v = B := ⟨_, rfl⟩
  rw [hB]
  have HB : Hid (B = (isB (lessV v t.lo) || eqB v t.lo)) := by rw [← hB]; show oneB t v = _; unfold oneB lessB; simp [hk]
  have e1 : (t.k == 1) = false := by simp [hk]
  have e2 : (t.k == 2) = false := by simp [hk]
  have e3 : (t.k == 3) = true := by simp [hk]
  clear hB hk
  have hl := ht.lo
  have hh := ht.hi
  clear ht
  have hq := fun W => eqV_run v t.lo W
  have hq2 := fun W => eqV_run v t.hi W
  go_enter Tryz.func99, Tryz.ntmps99
  go_wp2_with fail
  generalize hEW0 : (w.alloc _).alloc _ = W0
  have hbW0 : Below w.heap.size w W0 := (by rw [← hEW0]; exact bel)
  have lW0_0 : w.heap.size < W0.heap.size := lsz hEW0
  have qW0_0 : ∀ o, W0.cell? ⟨w.heap.size, o, none⟩ = _ := fun o => congrArg (fun W : World => W.cell? ⟨w.heap.size, o, none⟩) hEW0.symm
  have rW0_0 : ∀ o, W0.frozen? ⟨w.heap.size, o, none⟩ = _ := fun o => congrArg (fun W : World => W.frozen? ⟨w.heap.size, o, none⟩) hEW0.symm
  have lW0_1 : w.heap.size + 1 < W0.heap.size := lsz hEW0
  have qW0_1 : ∀ o, W0.cell? ⟨w.heap.size + 1, o, none⟩ = _ := fun o => congrArg (fun W : World => W.cell? ⟨w.heap.size + 1, o, none⟩) hEW0.symm
  have rW0_1 : ∀ o, W0.frozen? ⟨w.heap.size + 1, o, none⟩ = _ := fun o => congrArg (fun W : World => W.frozen? ⟨w.heap.size + 1, o, none⟩) hEW0.symm
  clear hEW0
  have kk0 : W0.cell? ⟨w.heap.size, 1, none⟩ = some (.int .i64 t.lo.k) := cel
  have kk1 : W0.cell? ⟨w.heap.size, 2, none⟩ = some (.int .i64 t.lo.n) := cel
  have kk2 : W0.cell? ⟨w.heap.size, 3, none⟩ = some (.int .i64 t.lo.s) := cel
  have kk3 : W0.cell? ⟨w.heap.size, 4, none⟩ = some (.string t.lo.t) := cel
  have kk4 : W0.cell? ⟨w.heap.size, 5, none⟩ = some (.int .i64 t.lo.i) := cel
  have kk5 : W0.cell? ⟨w.heap.size + 1, 0, none⟩ = some (.int .i64 v.k) := cel
  have kk6 : W0.cell? ⟨w.heap.size + 1, 1, none⟩ = some (.int .i64 v.n) := cel
  have kk7 : W0.cell? ⟨w.heap.size + 1, 2, none⟩ = some (.int .i64 v.s) := cel
  have kk8 : W0.cell? ⟨w.heap.size + 1, 3, none⟩ = some (.string v.t) := cel
  have kk9 : W0.cell? ⟨w.heap.size + 1, 4, none⟩ = some (.int .i64 v.i) := cel
  go_region_held3 (fun w' => Below W0.heap.size W0 w' ∧ w'.cell? ⟨w.heap.size, 1, none⟩ = some (.int .i64 t.lo.k) ∧ w'.cell? ⟨w.heap.size, 2, none⟩ = some (.int .i64 t.lo.n) ∧ w'.cell? ⟨w.heap.size, 3, none⟩ = some (.int .i64 t.lo.s) ∧ w'.cell? ⟨w.heap.size, 4, none⟩ = some (.string t.lo.t) ∧ w'.cell? ⟨w.heap.size, 5, none⟩ = some (.int .i64 t.lo.i) ∧ w'.cell? ⟨w.heap.size + 1, 0, none⟩ = some (.int .i64 v.k) ∧ w'.cell? ⟨w.heap.size + 1, 1, none⟩ = some (.int .i64 v.n) ∧ w'.cell? ⟨w.heap.size + 1, 2, none⟩ = some (.int .i64 v.s) ∧ w'.cell? ⟨w.heap.size + 1, 3, none⟩ = some (.string v.t) ∧ w'.cell? ⟨w.heap.size + 1, 4, none⟩ = some (.int .i64 v.i)) ((refine and_keep ?_ (fun hk => ⟨keep_cell hk lW0_0 kk0, keep_cell hk lW0_0 kk1, keep_cell hk lW0_0 kk2, keep_cell hk lW0_0 kk3, keep_cell hk lW0_0 kk4, keep_cell hk lW0_1 kk5, keep_cell hk lW0_1 kk6, keep_cell hk lW0_1 kk7, keep_cell hk lW0_1 kk8, keep_cell hk lW0_1 kk9⟩); exact bel))
    (first
      | (go_at_call 145; refine (less_any _ _ _ (by assumption) (by assumption) (hE.below bel)).mono ?_; rintro e w' ⟨rfl, hb'⟩)
      | (go_at_call 144; refine (is_any _ _).mono ?_; rintro e w' ⟨rfl, hb'⟩))
  have hS : Below W0.heap.size W0 _ ∧ _ := (by assumption)
  have hbwz := hS.1
  clear hS
  have hzz := hbwz.size
  have qz_0 := fun o => (hbwz.cell (p := ⟨w.heap.size, o, none⟩) lW0_0).trans (qW0_0 o)
  have rz_0 := fun o => (hbwz.frozen (p := ⟨w.heap.size, o, none⟩) lW0_0).trans (rW0_0 o)
  have lz_0 := Nat.lt_of_lt_of_le lW0_0 hzz
  clear qW0_0 rW0_0
  have qz_1 := fun o => (hbwz.cell (p := ⟨w.heap.size + 1, o, none⟩) lW0_1).trans (qW0_1 o)
  have rz_1 := fun o => (hbwz.frozen (p := ⟨w.heap.size + 1, o, none⟩) lW0_1).trans (rW0_1 o)
  have lz_1 := Nat.lt_of_lt_of_le lW0_1 hzz
  clear qW0_1 rW0_1
  generalize isB (lessV v t.lo) = L at *
  generalize isB (lessV t.lo v) = M at *
  generalize eqB v t.lo = S at *
  go_wp2_with fail
  all_goals go_ret
  all_goals exact ⟨ret_bool (by first | (rw [HB.out]; done) | (rw [HB.out]; simp [*]; done) | (rw [HB.out]; simp; omega) | (rw [HB.out]; simp [*]; omega) | (rw [HB.out]; simp only [List.isEmpty_iff, List.isEmpty_eq_false_iff] at *; simp [*]; done) | (rw [HB.out]; simp only [List.isEmpty_iff, List.isEmpty_eq_false_iff] at *; simp [*]; omega) | (rw [HB.out, Bool.eq_iff_iff]; simp only [List.isEmpty_iff, List.isEmpty_eq_false_iff] at *; simp [*]; done) | (exfalso; omega)), bel⟩

set_option maxRecDepth 100000 in
set_option maxHeartbeats 1600000 in
theorem one4 (t : Tst) (v : Vl) (w : World) (ht : t.wf) (hv : v.wf) (hE : Env w) (hk : t.k = 4) :
    Calls Tryz.prog 99 #[.agg #[.int .i64 t.k, .int .i64 t.lo.k, .int .i64 t.lo.n, .int .i64 t.lo.s, .string t.lo.t, .int .i64 t.lo.i, .int .i64 t.hi.k, .int .i64 t.hi.n, .int .i64 t.hi.s, .string t.hi.t, .int .i64 t.hi.i, .bool t.ol, .bool t.oh], .agg #[.int .i64 v.k, .int .i64 v.n, .int .i64 v.s, .string v.t, .int .i64 v.i]] w fun e w' =>
      e = .returned (.bool (oneB t v)) ∧ Below w.heap.size w w' := by
  obtain ⟨B, hB⟩ : ∃ B, oneB t v = B := ⟨_, rfl⟩
  rw [hB]
  have HB : Hid (B = isB (lessV t.lo v)) := by rw [← hB]; show oneB t v = _; unfold oneB lessB; simp [hk]
  have e1 : (t.k == 1) = false := by simp [hk]
  have e2 : (t.k == 2) = false := by simp [hk]
  have e3 : (t.k == 3) = false := by simp [hk]
  have e4 : (t.k == 4) = true := by simp [hk]
  clear hB hk
  have hl := ht.lo
  have hh := ht.hi
  clear ht
  have hq := fun W => eqV_run v t.lo W
  have hq2 := fun W => eqV_run v t.hi W
  go_enter Tryz.func99, Tryz.ntmps99
  go_wp2_with fail
  generalize hEW0 : (w.alloc _).alloc _ = W0
  have hbW0 : Below w.heap.size w W0 := (by rw [← hEW0]; exact bel)
  have lW0_0 : w.heap.size < W0.heap.size := lsz hEW0
  have qW0_0 : ∀ o, W0.cell? ⟨w.heap.size, o, none⟩ = _ := fun o => congrArg (fun W : World => W.cell? ⟨w.heap.size, o, none⟩) hEW0.symm
  have rW0_0 : ∀ o, W0.frozen? ⟨w.heap.size, o, none⟩ = _ := fun o => congrArg (fun W : World => W.frozen? ⟨w.heap.size, o, none⟩) hEW0.symm
  have lW0_1 : w.heap.size + 1 < W0.heap.size := lsz hEW0
  have qW0_1 : ∀ o, W0.cell? ⟨w.heap.size + 1, o, none⟩ = _ := fun o => congrArg (fun W : World => W.cell? ⟨w.heap.size + 1, o, none⟩) hEW0.symm
  have rW0_1 : ∀ o, W0.frozen? ⟨w.heap.size + 1, o, none⟩ = _ := fun o => congrArg (fun W : World => W.frozen? ⟨w.heap.size + 1, o, none⟩) hEW0.symm
  clear hEW0
  have kk0 : W0.cell? ⟨w.heap.size, 1, none⟩ = some (.int .i64 t.lo.k) := cel
  have kk1 : W0.cell? ⟨w.heap.size, 2, none⟩ = some (.int .i64 t.lo.n) := cel
  have kk2 : W0.cell? ⟨w.heap.size, 3, none⟩ = some (.int .i64 t.lo.s) := cel
  have kk3 : W0.cell? ⟨w.heap.size, 4, none⟩ = some (.string t.lo.t) := cel
  have kk4 : W0.cell? ⟨w.heap.size, 5, none⟩ = some (.int .i64 t.lo.i) := cel
  have kk5 : W0.cell? ⟨w.heap.size + 1, 0, none⟩ = some (.int .i64 v.k) := cel
  have kk6 : W0.cell? ⟨w.heap.size + 1, 1, none⟩ = some (.int .i64 v.n) := cel
  have kk7 : W0.cell? ⟨w.heap.size + 1, 2, none⟩ = some (.int .i64 v.s) := cel
  have kk8 : W0.cell? ⟨w.heap.size + 1, 3, none⟩ = some (.string v.t) := cel
  have kk9 : W0.cell? ⟨w.heap.size + 1, 4, none⟩ = some (.int .i64 v.i) := cel
  go_region_held3 (fun w' => Below W0.heap.size W0 w' ∧ w'.cell? ⟨w.heap.size, 1, none⟩ = some (.int .i64 t.lo.k) ∧ w'.cell? ⟨w.heap.size, 2, none⟩ = some (.int .i64 t.lo.n) ∧ w'.cell? ⟨w.heap.size, 3, none⟩ = some (.int .i64 t.lo.s) ∧ w'.cell? ⟨w.heap.size, 4, none⟩ = some (.string t.lo.t) ∧ w'.cell? ⟨w.heap.size, 5, none⟩ = some (.int .i64 t.lo.i) ∧ w'.cell? ⟨w.heap.size + 1, 0, none⟩ = some (.int .i64 v.k) ∧ w'.cell? ⟨w.heap.size + 1, 1, none⟩ = some (.int .i64 v.n) ∧ w'.cell? ⟨w.heap.size + 1, 2, none⟩ = some (.int .i64 v.s) ∧ w'.cell? ⟨w.heap.size + 1, 3, none⟩ = some (.string v.t) ∧ w'.cell? ⟨w.heap.size + 1, 4, none⟩ = some (.int .i64 v.i)) ((refine and_keep ?_ (fun hk => ⟨keep_cell hk lW0_0 kk0, keep_cell hk lW0_0 kk1, keep_cell hk lW0_0 kk2, keep_cell hk lW0_0 kk3, keep_cell hk lW0_0 kk4, keep_cell hk lW0_1 kk5, keep_cell hk lW0_1 kk6, keep_cell hk lW0_1 kk7, keep_cell hk lW0_1 kk8, keep_cell hk lW0_1 kk9⟩); exact bel))
    (first
      | (go_at_call 145; refine (less_any _ _ _ (by assumption) (by assumption) (hE.below bel)).mono ?_; rintro e w' ⟨rfl, hb'⟩)
      | (go_at_call 144; refine (is_any _ _).mono ?_; rintro e w' ⟨rfl, hb'⟩))
  have hS : Below W0.heap.size W0 _ ∧ _ := (by assumption)
  have hbwz := hS.1
  clear hS
  have hzz := hbwz.size
  have qz_0 := fun o => (hbwz.cell (p := ⟨w.heap.size, o, none⟩) lW0_0).trans (qW0_0 o)
  have rz_0 := fun o => (hbwz.frozen (p := ⟨w.heap.size, o, none⟩) lW0_0).trans (rW0_0 o)
  have lz_0 := Nat.lt_of_lt_of_le lW0_0 hzz
  clear qW0_0 rW0_0
  have qz_1 := fun o => (hbwz.cell (p := ⟨w.heap.size + 1, o, none⟩) lW0_1).trans (qW0_1 o)
  have rz_1 := fun o => (hbwz.frozen (p := ⟨w.heap.size + 1, o, none⟩) lW0_1).trans (rW0_1 o)
  have lz_1 := Nat.lt_of_lt_of_le lW0_1 hzz
  clear qW0_1 rW0_1
  generalize isB (lessV v t.lo) = L at *
  generalize isB (lessV t.lo v) = M at *
  generalize eqB v t.lo = S at *
  go_wp2_with fail
  all_goals go_ret
  all_goals exact ⟨ret_bool (by first | (rw [HB.out]; done) | (rw [HB.out]; simp [*]; done) | (rw [HB.out]; simp; omega) | (rw [HB.out]; simp [*]; omega) | (rw [HB.out]; simp only [List.isEmpty_iff, List.isEmpty_eq_false_iff] at *; simp [*]; done) | (rw [HB.out]; simp only [List.isEmpty_iff, List.isEmpty_eq_false_iff] at *; simp [*]; omega) | (rw [HB.out, Bool.eq_iff_iff]; simp only [List.isEmpty_iff, List.isEmpty_eq_false_iff] at *; simp [*]; done) | (exfalso; omega)), bel⟩

set_option maxRecDepth 100000 in
set_option maxHeartbeats 1600000 in
theorem one5 (t : Tst) (v : Vl) (w : World) (ht : t.wf) (hv : v.wf) (hE : Env w) (hk : t.k = 5) :
    Calls Tryz.prog 99 #[.agg #[.int .i64 t.k, .int .i64 t.lo.k, .int .i64 t.lo.n, .int .i64 t.lo.s, .string t.lo.t, .int .i64 t.lo.i, .int .i64 t.hi.k, .int .i64 t.hi.n, .int .i64 t.hi.s, .string t.hi.t, .int .i64 t.hi.i, .bool t.ol, .bool t.oh], .agg #[.int .i64 v.k, .int .i64 v.n, .int .i64 v.s, .string v.t, .int .i64 v.i]] w fun e w' =>
      e = .returned (.bool (oneB t v)) ∧ Below w.heap.size w w' := by
  obtain ⟨B, hB⟩ : ∃ B, oneB t v = B := ⟨_, rfl⟩
  rw [hB]
  have HB : Hid (B = (isB (lessV t.lo v) || eqB v t.lo)) := by rw [← hB]; show oneB t v = _; unfold oneB lessB; simp [hk]
  have e1 : (t.k == 1) = false := by simp [hk]
  have e2 : (t.k == 2) = false := by simp [hk]
  have e3 : (t.k == 3) = false := by simp [hk]
  have e4 : (t.k == 4) = false := by simp [hk]
  have e5 : (t.k == 5) = true := by simp [hk]
  clear hB hk
  have hl := ht.lo
  have hh := ht.hi
  clear ht
  have hq := fun W => eqV_run v t.lo W
  have hq2 := fun W => eqV_run v t.hi W
  go_enter Tryz.func99, Tryz.ntmps99
  go_wp2_with fail
  generalize hEW0 : (w.alloc _).alloc _ = W0
  have hbW0 : Below w.heap.size w W0 := (by rw [← hEW0]; exact bel)
  have lW0_0 : w.heap.size < W0.heap.size := lsz hEW0
  have qW0_0 : ∀ o, W0.cell? ⟨w.heap.size, o, none⟩ = _ := fun o => congrArg (fun W : World => W.cell? ⟨w.heap.size, o, none⟩) hEW0.symm
  have rW0_0 : ∀ o, W0.frozen? ⟨w.heap.size, o, none⟩ = _ := fun o => congrArg (fun W : World => W.frozen? ⟨w.heap.size, o, none⟩) hEW0.symm
  have lW0_1 : w.heap.size + 1 < W0.heap.size := lsz hEW0
  have qW0_1 : ∀ o, W0.cell? ⟨w.heap.size + 1, o, none⟩ = _ := fun o => congrArg (fun W : World => W.cell? ⟨w.heap.size + 1, o, none⟩) hEW0.symm
  have rW0_1 : ∀ o, W0.frozen? ⟨w.heap.size + 1, o, none⟩ = _ := fun o => congrArg (fun W : World => W.frozen? ⟨w.heap.size + 1, o, none⟩) hEW0.symm
  clear hEW0
  have kk0 : W0.cell? ⟨w.heap.size, 1, none⟩ = some (.int .i64 t.lo.k) := cel
  have kk1 : W0.cell? ⟨w.heap.size, 2, none⟩ = some (.int .i64 t.lo.n) := cel
  have kk2 : W0.cell? ⟨w.heap.size, 3, none⟩ = some (.int .i64 t.lo.s) := cel
  have kk3 : W0.cell? ⟨w.heap.size, 4, none⟩ = some (.string t.lo.t) := cel
  have kk4 : W0.cell? ⟨w.heap.size, 5, none⟩ = some (.int .i64 t.lo.i) := cel
  have kk5 : W0.cell? ⟨w.heap.size + 1, 0, none⟩ = some (.int .i64 v.k) := cel
  have kk6 : W0.cell? ⟨w.heap.size + 1, 1, none⟩ = some (.int .i64 v.n) := cel
  have kk7 : W0.cell? ⟨w.heap.size + 1, 2, none⟩ = some (.int .i64 v.s) := cel
  have kk8 : W0.cell? ⟨w.heap.size + 1, 3, none⟩ = some (.string v.t) := cel
  have kk9 : W0.cell? ⟨w.heap.size + 1, 4, none⟩ = some (.int .i64 v.i) := cel
  go_region_held3 (fun w' => Below W0.heap.size W0 w' ∧ w'.cell? ⟨w.heap.size, 1, none⟩ = some (.int .i64 t.lo.k) ∧ w'.cell? ⟨w.heap.size, 2, none⟩ = some (.int .i64 t.lo.n) ∧ w'.cell? ⟨w.heap.size, 3, none⟩ = some (.int .i64 t.lo.s) ∧ w'.cell? ⟨w.heap.size, 4, none⟩ = some (.string t.lo.t) ∧ w'.cell? ⟨w.heap.size, 5, none⟩ = some (.int .i64 t.lo.i) ∧ w'.cell? ⟨w.heap.size + 1, 0, none⟩ = some (.int .i64 v.k) ∧ w'.cell? ⟨w.heap.size + 1, 1, none⟩ = some (.int .i64 v.n) ∧ w'.cell? ⟨w.heap.size + 1, 2, none⟩ = some (.int .i64 v.s) ∧ w'.cell? ⟨w.heap.size + 1, 3, none⟩ = some (.string v.t) ∧ w'.cell? ⟨w.heap.size + 1, 4, none⟩ = some (.int .i64 v.i)) ((refine and_keep ?_ (fun hk => ⟨keep_cell hk lW0_0 kk0, keep_cell hk lW0_0 kk1, keep_cell hk lW0_0 kk2, keep_cell hk lW0_0 kk3, keep_cell hk lW0_0 kk4, keep_cell hk lW0_1 kk5, keep_cell hk lW0_1 kk6, keep_cell hk lW0_1 kk7, keep_cell hk lW0_1 kk8, keep_cell hk lW0_1 kk9⟩); exact bel))
    (first
      | (go_at_call 145; refine (less_any _ _ _ (by assumption) (by assumption) (hE.below bel)).mono ?_; rintro e w' ⟨rfl, hb'⟩)
      | (go_at_call 144; refine (is_any _ _).mono ?_; rintro e w' ⟨rfl, hb'⟩))
  have hS : Below W0.heap.size W0 _ ∧ _ := (by assumption)
  have hbwz := hS.1
  clear hS
  have hzz := hbwz.size
  have qz_0 := fun o => (hbwz.cell (p := ⟨w.heap.size, o, none⟩) lW0_0).trans (qW0_0 o)
  have rz_0 := fun o => (hbwz.frozen (p := ⟨w.heap.size, o, none⟩) lW0_0).trans (rW0_0 o)
  have lz_0 := Nat.lt_of_lt_of_le lW0_0 hzz
  clear qW0_0 rW0_0
  have qz_1 := fun o => (hbwz.cell (p := ⟨w.heap.size + 1, o, none⟩) lW0_1).trans (qW0_1 o)
  have rz_1 := fun o => (hbwz.frozen (p := ⟨w.heap.size + 1, o, none⟩) lW0_1).trans (rW0_1 o)
  have lz_1 := Nat.lt_of_lt_of_le lW0_1 hzz
  clear qW0_1 rW0_1
  generalize isB (lessV v t.lo) = L at *
  generalize isB (lessV t.lo v) = M at *
  generalize eqB v t.lo = S at *
  go_wp2_with fail
  all_goals go_ret
  all_goals exact ⟨ret_bool (by first | (rw [HB.out]; done) | (rw [HB.out]; simp [*]; done) | (rw [HB.out]; simp; omega) | (rw [HB.out]; simp [*]; omega) | (rw [HB.out]; simp only [List.isEmpty_iff, List.isEmpty_eq_false_iff] at *; simp [*]; done) | (rw [HB.out]; simp only [List.isEmpty_iff, List.isEmpty_eq_false_iff] at *; simp [*]; omega) | (rw [HB.out, Bool.eq_iff_iff]; simp only [List.isEmpty_iff, List.isEmpty_eq_false_iff] at *; simp [*]; done) | (exfalso; omega)), bel⟩

set_option maxRecDepth 100000 in
set_option maxHeartbeats 1600000 in
theorem one6 (t : Tst) (v : Vl) (w : World) (ht : t.wf) (hv : v.wf) (hE : Env w) (h1 : ¬ t.k = 1) (h2 : ¬ t.k = 2) (h3 : ¬ t.k = 3) (h4 : ¬ t.k = 4) (h5 : ¬ t.k = 5) :
    Calls Tryz.prog 99 #[.agg #[.int .i64 t.k, .int .i64 t.lo.k, .int .i64 t.lo.n, .int .i64 t.lo.s, .string t.lo.t, .int .i64 t.lo.i, .int .i64 t.hi.k, .int .i64 t.hi.n, .int .i64 t.hi.s, .string t.hi.t, .int .i64 t.hi.i, .bool t.ol, .bool t.oh], .agg #[.int .i64 v.k, .int .i64 v.n, .int .i64 v.s, .string v.t, .int .i64 v.i]] w fun e w' =>
      e = .returned (.bool (oneB t v)) ∧ Below w.heap.size w w' := by
  obtain ⟨B, hB⟩ : ∃ B, oneB t v = B := ⟨_, rfl⟩
  rw [hB]
  have HB : Hid (B = ((isB (lessV t.lo v) || eqB v t.lo && !t.ol) && (isB (lessV v t.hi) || eqB v t.hi && !t.oh))) := by rw [← hB]; show oneB t v = _; unfold oneB lessB; simp [h1, h2, h3, h4, h5]
  have e1 : (t.k == 1) = false := by simp [h1]
  have e2 : (t.k == 2) = false := by simp [h2]
  have e3 : (t.k == 3) = false := by simp [h3]
  have e4 : (t.k == 4) = false := by simp [h4]
  have e5 : (t.k == 5) = false := by simp [h5]
  clear hB h1 h2 h3 h4 h5
  have hl := ht.lo
  have hh := ht.hi
  clear ht
  have hq := fun W => eqV_run v t.lo W
  have hq2 := fun W => eqV_run v t.hi W
  go_enter Tryz.func99, Tryz.ntmps99
  go_wp2_with fail
  generalize hEW0 : (w.alloc _).alloc _ = W0
  have hbW0 : Below w.heap.size w W0 := (by rw [← hEW0]; exact bel)
  have lW0_0 : w.heap.size < W0.heap.size := lsz hEW0
  have qW0_0 : ∀ o, W0.cell? ⟨w.heap.size, o, none⟩ = _ := fun o => congrArg (fun W : World => W.cell? ⟨w.heap.size, o, none⟩) hEW0.symm
  have rW0_0 : ∀ o, W0.frozen? ⟨w.heap.size, o, none⟩ = _ := fun o => congrArg (fun W : World => W.frozen? ⟨w.heap.size, o, none⟩) hEW0.symm
  have lW0_1 : w.heap.size + 1 < W0.heap.size := lsz hEW0
  have qW0_1 : ∀ o, W0.cell? ⟨w.heap.size + 1, o, none⟩ = _ := fun o => congrArg (fun W : World => W.cell? ⟨w.heap.size + 1, o, none⟩) hEW0.symm
  have rW0_1 : ∀ o, W0.frozen? ⟨w.heap.size + 1, o, none⟩ = _ := fun o => congrArg (fun W : World => W.frozen? ⟨w.heap.size + 1, o, none⟩) hEW0.symm
  clear hEW0
  have kk0 : W0.cell? ⟨w.heap.size, 1, none⟩ = some (.int .i64 t.lo.k) := cel
  have kk1 : W0.cell? ⟨w.heap.size, 2, none⟩ = some (.int .i64 t.lo.n) := cel
  have kk2 : W0.cell? ⟨w.heap.size, 3, none⟩ = some (.int .i64 t.lo.s) := cel
  have kk3 : W0.cell? ⟨w.heap.size, 4, none⟩ = some (.string t.lo.t) := cel
  have kk4 : W0.cell? ⟨w.heap.size, 5, none⟩ = some (.int .i64 t.lo.i) := cel
  have kk5 : W0.cell? ⟨w.heap.size + 1, 0, none⟩ = some (.int .i64 v.k) := cel
  have kk6 : W0.cell? ⟨w.heap.size + 1, 1, none⟩ = some (.int .i64 v.n) := cel
  have kk7 : W0.cell? ⟨w.heap.size + 1, 2, none⟩ = some (.int .i64 v.s) := cel
  have kk8 : W0.cell? ⟨w.heap.size + 1, 3, none⟩ = some (.string v.t) := cel
  have kk9 : W0.cell? ⟨w.heap.size + 1, 4, none⟩ = some (.int .i64 v.i) := cel
  go_region_held3 (fun w' => Below W0.heap.size W0 w' ∧ w'.cell? ⟨w.heap.size, 1, none⟩ = some (.int .i64 t.lo.k) ∧ w'.cell? ⟨w.heap.size, 2, none⟩ = some (.int .i64 t.lo.n) ∧ w'.cell? ⟨w.heap.size, 3, none⟩ = some (.int .i64 t.lo.s) ∧ w'.cell? ⟨w.heap.size, 4, none⟩ = some (.string t.lo.t) ∧ w'.cell? ⟨w.heap.size, 5, none⟩ = some (.int .i64 t.lo.i) ∧ w'.cell? ⟨w.heap.size + 1, 0, none⟩ = some (.int .i64 v.k) ∧ w'.cell? ⟨w.heap.size + 1, 1, none⟩ = some (.int .i64 v.n) ∧ w'.cell? ⟨w.heap.size + 1, 2, none⟩ = some (.int .i64 v.s) ∧ w'.cell? ⟨w.heap.size + 1, 3, none⟩ = some (.string v.t) ∧ w'.cell? ⟨w.heap.size + 1, 4, none⟩ = some (.int .i64 v.i)) ((refine and_keep ?_ (fun hk => ⟨keep_cell hk lW0_0 kk0, keep_cell hk lW0_0 kk1, keep_cell hk lW0_0 kk2, keep_cell hk lW0_0 kk3, keep_cell hk lW0_0 kk4, keep_cell hk lW0_1 kk5, keep_cell hk lW0_1 kk6, keep_cell hk lW0_1 kk7, keep_cell hk lW0_1 kk8, keep_cell hk lW0_1 kk9⟩); exact bel))
    (first
      | (go_at_call 145; refine (less_any _ _ _ (by assumption) (by assumption) (hE.below bel)).mono ?_; rintro e w' ⟨rfl, hb'⟩)
      | (go_at_call 144; refine (is_any _ _).mono ?_; rintro e w' ⟨rfl, hb'⟩))
  have hS : Below W0.heap.size W0 _ ∧ _ := (by assumption)
  have hbwz := hS.1
  clear hS
  have hzz := hbwz.size
  have qz_0 := fun o => (hbwz.cell (p := ⟨w.heap.size, o, none⟩) lW0_0).trans (qW0_0 o)
  have rz_0 := fun o => (hbwz.frozen (p := ⟨w.heap.size, o, none⟩) lW0_0).trans (rW0_0 o)
  have lz_0 := Nat.lt_of_lt_of_le lW0_0 hzz
  clear qW0_0 rW0_0
  have qz_1 := fun o => (hbwz.cell (p := ⟨w.heap.size + 1, o, none⟩) lW0_1).trans (qW0_1 o)
  have rz_1 := fun o => (hbwz.frozen (p := ⟨w.heap.size + 1, o, none⟩) lW0_1).trans (rW0_1 o)
  have lz_1 := Nat.lt_of_lt_of_le lW0_1 hzz
  clear qW0_1 rW0_1
  generalize isB (lessV v t.lo) = L at *
  generalize isB (lessV t.lo v) = M at *
  generalize eqB v t.lo = S at *
  go_wp2_with fail
  refine (less_any v t.hi _ hv hh (hE.below bel)).mono ?_
  rintro e w1 ⟨rfl, hb1⟩
  have hz1 := hb1.size
  try simp at hz1
  obtain ⟨q1_0, l1_0, r1_0⟩ := aft hb1 (w.heap.size)
  obtain ⟨q1_1, l1_1, r1_1⟩ := aft hb1 (w.heap.size + 1)
  go_wp2_with fail
  refine (is_any (lessV v t.hi) _).mono ?_
  rintro e w2 ⟨rfl, hb2⟩
  have hz2 := hb2.size
  try simp at hz2
  obtain ⟨q2_0, l2_0, r2_0⟩ := aft hb2 (w.heap.size)
  obtain ⟨q2_1, l2_1, r2_1⟩ := aft hb2 (w.heap.size + 1)
  generalize isB (lessV v t.hi) = N at *
  generalize eqB v t.hi = R at *
  obtain ⟨ol, hol⟩ : ∃ b, t.ol = b := ⟨_, rfl⟩
  obtain ⟨oh, hoh⟩ : ∃ b, t.oh = b := ⟨_, rfl⟩
  rw [hol, hoh] at HB
  cases M <;> cases N <;> cases ol <;> cases oh
  all_goals
    go_wp2_with fail
    all_goals go_ret
    all_goals exact ⟨ret_bool (by first | (rw [HB.out]; done) | (rw [HB.out]; simp [*]; done) | (rw [HB.out]; simp; omega) | (rw [HB.out]; simp [*]; omega) | (rw [HB.out]; simp only [List.isEmpty_iff, List.isEmpty_eq_false_iff] at *; simp [*]; done) | (rw [HB.out]; simp only [List.isEmpty_iff, List.isEmpty_eq_false_iff] at *; simp [*]; omega) | (rw [HB.out, Bool.eq_iff_iff]; simp only [List.isEmpty_iff, List.isEmpty_eq_false_iff] at *; simp [*]; done) | (exfalso; omega)), bel⟩

theorem one_any (t : Tst) (v : Vl) (w : World) (ht : t.wf) (hv : v.wf) (hE : Env w) :
    Calls Tryz.prog 99 #[.agg #[.int .i64 t.k, .int .i64 t.lo.k, .int .i64 t.lo.n, .int .i64 t.lo.s, .string t.lo.t, .int .i64 t.lo.i, .int .i64 t.hi.k, .int .i64 t.hi.n, .int .i64 t.hi.s, .string t.hi.t, .int .i64 t.hi.i, .bool t.ol, .bool t.oh], .agg #[.int .i64 v.k, .int .i64 v.n, .int .i64 v.s, .string v.t, .int .i64 v.i]] w fun e w' =>
      e = .returned (.bool (oneB t v)) ∧ Below w.heap.size w w' := by
  by_cases h1 : t.k = 1
  · exact one1 t v w ht hv hE h1
  by_cases h2 : t.k = 2
  · exact one2 t v w ht hv hE h2
  by_cases h3 : t.k = 3
  · exact one3 t v w ht hv hE h3
  by_cases h4 : t.k = 4
  · exact one4 t v w ht hv hE h4
  by_cases h5 : t.k = 5
  · exact one5 t v w ht hv hE h5
  exact one6 t v w ht hv hE h1 h2 h3 h4 h5
end Go.Proofs.YtankkadnhdfpfaaGreatDoor

/- The tests that may be: soffit/unary.one, Sound, walked. -/
set_option linter.unusedSimpArgs false
set_option linter.unusedVariables false
namespace Go.Proofs.YtankkadnhdfpfaaGreatDoor
open Go.RowKit

def rankB (v : Vl) : Bool := v.k == 1 || v.k == 4
def uOneB (t : Tst) : Bool :=
  sndB t.lo && sndB t.hi && (if t.k = 6 then rankB t.lo && t.hi.k == t.lo.k else decide (1 ≤ t.k ∧ t.k < 6) && (rankB t.lo || t.k == 1) && eqB t.hi Vl.zero && !t.ol && !t.oh)

set_option maxRecDepth 100000 in
set_option maxHeartbeats 3200000 in
theorem uOne_any (t : Tst) (w : World) (ht : t.wf) (hE : Env w) :
    Calls Tryz.prog 83 #[.agg #[.int .i64 t.k, .int .i64 t.lo.k, .int .i64 t.lo.n, .int .i64 t.lo.s, .string t.lo.t, .int .i64 t.lo.i, .int .i64 t.hi.k, .int .i64 t.hi.n, .int .i64 t.hi.s, .string t.hi.t, .int .i64 t.hi.i, .bool t.ol, .bool t.oh]] w fun e w' =>
      e = .returned (.bool (uOneB t)) ∧ Below w.heap.size w w' := by
  obtain ⟨B, hB⟩ : ∃ B, uOneB t = B := ⟨_, rfl⟩
  rw [hB]
  have hl := ht.lo
  have hh := ht.hi
  clear ht
  have hq : ∀ W : World, (binOp .eql 30 (.agg #[.int .i64 t.hi.k, .int .i64 t.hi.n, .int .i64 t.hi.s, .string t.hi.t, .int .i64 t.hi.i]) (.agg #[.int .i64 0, .int .i64 0, .int .i64 0, .string ⟨#[]⟩, .int .i64 0])).run Tryz.prog W = .ok (.bool (eqB t.hi Vl.zero)) W := fun W => eqV_run t.hi Vl.zero W
  cases r1 : (t.lo.k == 1) <;> cases r4 : (t.lo.k == 4)
  all_goals
    have hR : rankB t.lo = (t.lo.k == 1 || t.lo.k == 4) := rfl
    rw [r1, r4] at hR
    simp only [Bool.or_false, Bool.or_true, Bool.false_or, Bool.true_or] at hR
    cases sl : sndB t.lo
    · have HB : Hid (B = false) := by rw [← hB]; show uOneB t = _; unfold uOneB; rw [sl]; rfl
      clear hB
      go_enter Tryz.func83, Tryz.ntmps83
      go_wp2_with fail
      refine (vSound_any t.lo _ hl (hE.below bel)).mono ?_
      rintro e w1 ⟨rfl, hb1⟩
      rw [sl]
      go_wp2_with fail
      all_goals go_ret
      all_goals exact ⟨ret_bool (by first | (rw [HB.out]; done) | (rw [HB.out]; simp [*]; done) | (rw [HB.out]; simp; omega) | (rw [HB.out]; simp [*]; omega) | (rw [HB.out]; simp only [List.isEmpty_iff, List.isEmpty_eq_false_iff] at *; simp [*]; done) | (rw [HB.out]; simp only [List.isEmpty_iff, List.isEmpty_eq_false_iff] at *; simp [*]; omega) | (rw [HB.out, Bool.eq_iff_iff]; simp only [List.isEmpty_iff, List.isEmpty_eq_false_iff] at *; simp [*]; done) | (exfalso; omega)), bel⟩
    · cases sh : sndB t.hi
      · have HB : Hid (B = false) := by rw [← hB]; show uOneB t = _; unfold uOneB; rw [sl, sh]; rfl
        clear hB
        go_enter Tryz.func83, Tryz.ntmps83
        go_wp2_with fail
        refine (vSound_any t.lo _ hl (hE.below bel)).mono ?_
        rintro e w1 ⟨rfl, hb1⟩
        rw [sl]
        clear sl
        have hz1 := hb1.size
        try simp at hz1
        obtain ⟨q1_0, l1_0, r1_0⟩ := aft hb1 (w.heap.size)
        go_wp2_with fail
        refine (vSound_any t.hi _ hh (hE.below bel)).mono ?_
        rintro e w2 ⟨rfl, hb2⟩
        rw [sh]
        clear sh
        go_wp2_with fail
        all_goals go_ret
        all_goals exact ⟨ret_bool (by first | (rw [HB.out]; done) | (rw [HB.out]; simp [*]; done) | (rw [HB.out]; simp; omega) | (rw [HB.out]; simp [*]; omega) | (rw [HB.out]; simp only [List.isEmpty_iff, List.isEmpty_eq_false_iff] at *; simp [*]; done) | (rw [HB.out]; simp only [List.isEmpty_iff, List.isEmpty_eq_false_iff] at *; simp [*]; omega) | (rw [HB.out, Bool.eq_iff_iff]; simp only [List.isEmpty_iff, List.isEmpty_eq_false_iff] at *; simp [*]; done) | (exfalso; omega)), bel⟩
      · by_cases k6 : t.k = 6
        · have HB : Hid (B = (rankB t.lo && t.hi.k == t.lo.k)) := by rw [← hB]; show uOneB t = _; unfold uOneB; rw [sl, sh, if_pos k6]; rfl
          rw [hR] at HB
          have e6 : (t.k == 6) = true := by simp [k6]
          clear hB k6
          go_enter Tryz.func83, Tryz.ntmps83
          go_wp2_with fail
          refine (vSound_any t.lo _ hl (hE.below bel)).mono ?_
          rintro e w1 ⟨rfl, hb1⟩
          rw [sl]
          clear sl
          have hz1 := hb1.size
          try simp at hz1
          obtain ⟨q1_0, l1_0, r1_0⟩ := aft hb1 (w.heap.size)
          go_wp2_with fail
          refine (vSound_any t.hi _ hh (hE.below bel)).mono ?_
          rintro e w2 ⟨rfl, hb2⟩
          rw [sh]
          clear sh
          have hz2 := hb2.size
          try simp at hz2
          obtain ⟨q2_0, l2_0, r2_0⟩ := aft hb2 (w.heap.size)
          clear hR
          go_wp2_with fail
          all_goals go_ret
          all_goals exact ⟨ret_bool (by first | (rw [HB.out]; done) | (rw [HB.out]; simp [*]; done) | (rw [HB.out]; simp; omega) | (rw [HB.out]; simp [*]; omega) | (rw [HB.out]; simp only [List.isEmpty_iff, List.isEmpty_eq_false_iff] at *; simp [*]; done) | (rw [HB.out]; simp only [List.isEmpty_iff, List.isEmpty_eq_false_iff] at *; simp [*]; omega) | (rw [HB.out, Bool.eq_iff_iff]; simp only [List.isEmpty_iff, List.isEmpty_eq_false_iff] at *; simp [*]; done) | (exfalso; omega)), bel⟩
        · have HB : Hid (B = (decide (1 ≤ t.k ∧ t.k < 6) && (rankB t.lo || t.k == 1) && eqB t.hi Vl.zero && !t.ol && !t.oh)) := by rw [← hB]; show uOneB t = _; unfold uOneB; rw [sl, sh, if_neg k6]; rfl
          rw [hR] at HB
          have e6 : (t.k == 6) = false := by simp [k6]
          clear hB
          go_enter Tryz.func83, Tryz.ntmps83
          go_wp2_with fail
          refine (vSound_any t.lo _ hl (hE.below bel)).mono ?_
          rintro e w1 ⟨rfl, hb1⟩
          rw [sl]
          clear sl
          have hz1 := hb1.size
          try simp at hz1
          obtain ⟨q1_0, l1_0, r1_0⟩ := aft hb1 (w.heap.size)
          go_wp2_with fail
          refine (vSound_any t.hi _ hh (hE.below bel)).mono ?_
          rintro e w2 ⟨rfl, hb2⟩
          rw [sh]
          clear sh
          have hz2 := hb2.size
          try simp at hz2
          obtain ⟨q2_0, l2_0, r2_0⟩ := aft hb2 (w.heap.size)
          clear hR
          generalize eqB t.hi Vl.zero = Z at *
          go_wp2_with fail
          go_ways
          all_goals go_ret
          all_goals exact ⟨ret_bool (by first | (rw [HB.out]; done) | (rw [HB.out]; simp [*]; done) | (rw [HB.out]; simp; omega) | (rw [HB.out]; simp [*]; omega) | (rw [HB.out]; simp only [List.isEmpty_iff, List.isEmpty_eq_false_iff] at *; simp [*]; done) | (rw [HB.out]; simp only [List.isEmpty_iff, List.isEmpty_eq_false_iff] at *; simp [*]; omega) | (rw [HB.out, Bool.eq_iff_iff]; simp only [List.isEmpty_iff, List.isEmpty_eq_false_iff] at *; simp [*]; done) | (exfalso; omega)), bel⟩
end Go.Proofs.YtankkadnhdfpfaaGreatDoor

/- Lists of tests: slices.IndexFunc, ContainsFunc at them, soffit/unary.Sound. -/
set_option linter.unusedSimpArgs false
set_option linter.unusedVariables false
namespace Go.Proofs.YtankkadnhdfpfaaGreatDoor
open Go.RowKit

def Tst.cells (t : Tst) : List Value := [.int .i64 t.k, .int .i64 t.lo.k, .int .i64 t.lo.n, .int .i64 t.lo.s, .string t.lo.t, .int .i64 t.lo.i, .int .i64 t.hi.k, .int .i64 t.hi.n, .int .i64 t.hi.s, .string t.hi.t, .int .i64 t.hi.i, .bool t.ol, .bool t.oh]

def tstGives (g : Nat) (fv : Array Value) (p : Tst → Bool) (xs : List Tst) (w : World) : Prop :=
  ∀ x ∈ xs, ∀ W : World, Below w.heap.size w W → Calls Tryz.prog g (#[.agg #[.int .i64 x.k, .int .i64 x.lo.k, .int .i64 x.lo.n, .int .i64 x.lo.s, .string x.lo.t, .int .i64 x.lo.i, .int .i64 x.hi.k, .int .i64 x.hi.n, .int .i64 x.hi.s, .string x.hi.t, .int .i64 x.hi.i, .bool x.ol, .bool x.oh]] ++ fv) W fun e w' => e = .returned (.bool (p x)) ∧ Below W.heap.size W w'

set_option maxRecDepth 100000 in
set_option maxHeartbeats 800000 in
theorem tstIndex (g : Nat) (p : Tst → Bool) (xs : List Tst) (A : Option Addr) (c : Nat) (w : World) (hr : RdL w 13 A (xs.map Tst.cells)) (hn : xs.length ≤ 9223372036854775807)
    (hg : tstGives g #[] p xs w) (he : ∀ args W, (callFunc g args).run Tryz.prog W = .ok (.enter g args) W) :
    Calls Tryz.prog 120 #[.slice A xs.length c, .func (.func g) #[] #[]] w fun e w' => e = .returned (.int .i64 (idxF p xs 0)) ∧ Below w.heap.size w w' := by
  go_enter Tryz.func120, Tryz.ntmps120
  go_wp2_with fail
  go_loopg [8] xs.length (fun k i wr => ∃ j : Nat, j ≤ xs.length ∧ xs.length - j ≤ k ∧ Hid (idxF p xs 0 = idxF p (xs.drop j) j) ∧ i = .int .i64 j ∧ Below w.heap.size w wr)
  case atStart => exact ⟨0, by omega, by omega, rfl, rfl, Below.refl _ _⟩
  case round =>
    obtain ⟨j, hj, hjk, hi, rfl, hbel⟩ := hrel
    by_cases hlt : j < xs.length
    · obtain ⟨b, off, rfl, hx⟩ := (hr.below hbel).at_ hlt
      have hmem : xs[j]'hlt ∈ xs := List.getElem_mem hlt
      have hyes := fun h => idxF_drop_yes (p := p) hlt h
      have hno := fun h => idxF_drop_no (p := p) hlt h
      generalize hX : xs[j]'hlt = x at *
      have hgx := hg x hmem
      have g0 : wr.cell? ⟨b, off + j * 13, none⟩ = some (.int .i64 x.k) := hx.get 0 rfl
      have g1 : wr.cell? ⟨b, off + j * 13 + 1, none⟩ = some (.int .i64 x.lo.k) := hx.get 1 rfl
      have g2 : wr.cell? ⟨b, off + j * 13 + 2, none⟩ = some (.int .i64 x.lo.n) := hx.get 2 rfl
      have g3 : wr.cell? ⟨b, off + j * 13 + 3, none⟩ = some (.int .i64 x.lo.s) := hx.get 3 rfl
      have g4 : wr.cell? ⟨b, off + j * 13 + 4, none⟩ = some (.string x.lo.t) := hx.get 4 rfl
      have g5 : wr.cell? ⟨b, off + j * 13 + 5, none⟩ = some (.int .i64 x.lo.i) := hx.get 5 rfl
      have g6 : wr.cell? ⟨b, off + j * 13 + 6, none⟩ = some (.int .i64 x.hi.k) := hx.get 6 rfl
      have g7 : wr.cell? ⟨b, off + j * 13 + 7, none⟩ = some (.int .i64 x.hi.n) := hx.get 7 rfl
      have g8 : wr.cell? ⟨b, off + j * 13 + 8, none⟩ = some (.int .i64 x.hi.s) := hx.get 8 rfl
      have g9 : wr.cell? ⟨b, off + j * 13 + 9, none⟩ = some (.string x.hi.t) := hx.get 9 rfl
      have g10 : wr.cell? ⟨b, off + j * 13 + 10, none⟩ = some (.int .i64 x.hi.i) := hx.get 10 rfl
      have g11 : wr.cell? ⟨b, off + j * 13 + 11, none⟩ = some (.bool x.ol) := hx.get 11 rfl
      have g12 : wr.cell? ⟨b, off + j * 13 + 12, none⟩ = some (.bool x.oh) := hx.get 12 rfl
      have HG := Lib.hid hgx
      have HYES := Lib.hid hyes
      have HNO := Lib.hid hno
      have hsz := hbel.size
      clear hgx hyes hno hX hmem hx
      cases hp : p x
      · have HN := Lib.hid (HNO.out hp)
        go_wp2_with fail
        refine (HG.out _ bel).mono ?_
        rintro e w1 ⟨rfl, hb1⟩
        rw [hp]
        clear hp
        go_wp2_with fail
        go_roundg (gk - 1)
        case measure => omega
        case rel => exact ⟨j + 1, by omega, by omega, hi.out.trans HN.out, by go_num, bel⟩
      · have HY := Lib.hid (HYES.out hp)
        go_wp2_with fail
        refine (HG.out _ bel).mono ?_
        rintro e w1 ⟨rfl, hb1⟩
        rw [hp]
        clear hp
        go_wp2_with fail
        go_ret
        exact ⟨ret_int (by rw [hi.out, HY.out]), bel⟩
    · have HE := Lib.hid (idxF_drop_end (p := p) hlt)
      go_wp2_with fail
      go_ret
      exact ⟨ret_int (by rw [hi.out, HE.out]), hbel⟩

set_option maxHeartbeats 400000 in
theorem tstContains (g : Nat) (p : Tst → Bool) (xs : List Tst) (A : Option Addr) (c : Nat) (w : World) (hr : RdL w 13 A (xs.map Tst.cells)) (hn : xs.length ≤ 9223372036854775807)
    (hg : tstGives g #[] p xs w) (he : ∀ args W, (callFunc g args).run Tryz.prog W = .ok (.enter g args) W) :
    Calls Tryz.prog 81 #[.slice A xs.length c, .func (.func g) #[] #[]] w fun e w' => e = .returned (.bool (xs.any p)) ∧ Below w.heap.size w w' := by
  have HA := Lib.hid (idxF_any p xs 0)
  go_enter Tryz.func81, Tryz.ntmps81
  go_wp2_with fail
  refine (tstIndex g p xs A c _ hr hn hg he).mono ?_
  rintro e w1 ⟨rfl, hb1⟩
  generalize idxF p xs 0 = r at *
  go_wp2_with fail
  go_ret
  exact ⟨ret_bool HA.out, hb1⟩
end Go.Proofs.YtankkadnhdfpfaaGreatDoor

/- soffit/unary.Sound, walked. -/
set_option linter.unusedSimpArgs false
set_option linter.unusedVariables false
namespace Go.Proofs.YtankkadnhdfpfaaGreatDoor
open Go.RowKit

structure Cel where
  any : Bool
  neg : Bool
  ts : List Tst
def uSndB (c : Cel) : Bool := if c.any = true then !c.neg && decide (c.ts.length = 0) else decide (1 ≤ c.ts.length ∧ c.ts.length ≤ 8) && !c.ts.any (fun t => !uOneB t)

set_option maxHeartbeats 400000 in
theorem uSound1_any (t : Tst) (w : World) (ht : t.wf) (hE : Env w) :
    Calls Tryz.prog 82 #[.agg #[.int .i64 t.k, .int .i64 t.lo.k, .int .i64 t.lo.n, .int .i64 t.lo.s, .string t.lo.t, .int .i64 t.lo.i, .int .i64 t.hi.k, .int .i64 t.hi.n, .int .i64 t.hi.s, .string t.hi.t, .int .i64 t.hi.i, .bool t.ol, .bool t.oh]] w fun e w' =>
      e = .returned (.bool (!uOneB t)) ∧ Below w.heap.size w w' := by
  obtain ⟨B, hB⟩ : ∃ B, uOneB t = B := ⟨_, rfl⟩
  rw [hB]
  have HB := Lib.hid hB
  clear hB
  go_enter Tryz.func82, Tryz.ntmps82
  go_wp2_with fail
  refine (uOne_any t _ ht (hE.below bel)).mono ?_
  rintro e w1 ⟨rfl, hb1⟩
  rw [HB.out]
  go_wp2_with fail
  go_ret
  exact ⟨ret_bool rfl, bel⟩

set_option maxHeartbeats 800000 in
theorem uSound_any (c : Cel) (A : Option Addr) (cap : Nat) (w : World) (hr : RdL w 13 A (c.ts.map Tst.cells)) (hw : ∀ t ∈ c.ts, t.wf) (hn : c.ts.length ≤ 9223372036854775807) (hE : Env w) :
    Calls Tryz.prog 45 #[.agg #[.bool c.any, .bool c.neg, .slice A c.ts.length cap]] w fun e w' =>
      e = .returned (.bool (uSndB c)) ∧ Below w.heap.size w w' := by
  obtain ⟨B, hB⟩ : ∃ B, uSndB c = B := ⟨_, rfl⟩
  rw [hB]
  have hgives : ∀ W, Below w.heap.size w W → tstGives 82 #[] (fun t => !uOneB t) c.ts W := fun W hW t ht W' hW' =>
    uSound1_any t W' (hw t ht) ((hE.below hW).below hW')
  have eg : ∀ args W, (callFunc 82 args).run Tryz.prog W = .ok (.enter 82 args) W := enters_of Tryz.func82 (by kernel_rfl) rfl
  have HG := Lib.hid hgives
  have HEG := Lib.hid eg
  clear hgives eg
  obtain ⟨any, neg, ts⟩ := c
  simp only at hr hw hn ⊢
  cases any
  · have HB : Hid (B = (decide (1 ≤ ts.length ∧ ts.length ≤ 8) && !ts.any (fun t => !uOneB t))) := by rw [← hB]; rfl
    clear hB
    by_cases h1 : 1 ≤ ts.length
    · by_cases h8 : ts.length ≤ 8
      · have HC : Hid (B = !ts.any (fun t => !uOneB t)) := by show B = _; rw [HB.out]; simp [h1, h8]
        clear HB
        have e1 : decide ((1 : Int) ≤ (ts.length : Int)) = true := by simp; omega
        have e8 : decide ((ts.length : Int) ≤ 8) = true := by simp; omega
        go_enter Tryz.func45, Tryz.ntmps45
        go_wp2_with fail
        refine (tstContains 82 (fun t => !uOneB t) ts A cap _ (hr.below bel) hn (HG.out _ bel) HEG.out).mono ?_
        rintro e w1 ⟨rfl, hb1⟩
        generalize ts.any (fun t => !uOneB t) = N at *
        go_wp2_with fail
        go_ret
        exact ⟨ret_bool HC.out.symm, bel⟩
      · have HC : Hid (B = false) := by show B = _; rw [HB.out]; simp [h8]
        clear HB
        have e1 : decide ((1 : Int) ≤ (ts.length : Int)) = true := by simp; omega
        have e8 : decide ((ts.length : Int) ≤ 8) = false := by simp; omega
        go_enter Tryz.func45, Tryz.ntmps45
        go_wp2_with fail
        all_goals go_ret
        all_goals exact ⟨ret_bool (by first | (rw [HC.out]; done) | (rw [HC.out]; simp [*]; done) | (rw [HC.out]; simp; omega) | (rw [HC.out]; simp [*]; omega) | (rw [HC.out]; simp only [List.isEmpty_iff, List.isEmpty_eq_false_iff] at *; simp [*]; done) | (rw [HC.out]; simp only [List.isEmpty_iff, List.isEmpty_eq_false_iff] at *; simp [*]; omega) | (rw [HC.out, Bool.eq_iff_iff]; simp only [List.isEmpty_iff, List.isEmpty_eq_false_iff] at *; simp [*]; done) | (exfalso; omega)), bel⟩
    · have HC : Hid (B = false) := by show B = _; rw [HB.out]; simp [h1]
      clear HB
      have e1 : decide ((1 : Int) ≤ (ts.length : Int)) = false := by simp; omega
      go_enter Tryz.func45, Tryz.ntmps45
      go_wp2_with fail
      all_goals go_ret
      all_goals exact ⟨ret_bool (by first | (rw [HC.out]; done) | (rw [HC.out]; simp [*]; done) | (rw [HC.out]; simp; omega) | (rw [HC.out]; simp [*]; omega) | (rw [HC.out]; simp only [List.isEmpty_iff, List.isEmpty_eq_false_iff] at *; simp [*]; done) | (rw [HC.out]; simp only [List.isEmpty_iff, List.isEmpty_eq_false_iff] at *; simp [*]; omega) | (rw [HC.out, Bool.eq_iff_iff]; simp only [List.isEmpty_iff, List.isEmpty_eq_false_iff] at *; simp [*]; done) | (exfalso; omega)), bel⟩
  · have HB : Hid (B = (!neg && decide (ts.length = 0))) := by rw [← hB]; rfl
    clear hB
    by_cases h0 : ts.length = 0
    · have e0 : ((ts.length : Int) == 0) = true := by rw [h0]; rfl
      have HC : Hid (B = !neg) := by show B = _; rw [HB.out]; simp [h0]
      clear HB
      cases neg
      all_goals
        go_enter Tryz.func45, Tryz.ntmps45
        go_wp2_with fail
        all_goals go_ret
        all_goals exact ⟨ret_bool (by first | (rw [HC.out]; done) | (rw [HC.out]; simp [*]; done) | (rw [HC.out]; simp; omega) | (rw [HC.out]; simp [*]; omega) | (rw [HC.out]; simp only [List.isEmpty_iff, List.isEmpty_eq_false_iff] at *; simp [*]; done) | (rw [HC.out]; simp only [List.isEmpty_iff, List.isEmpty_eq_false_iff] at *; simp [*]; omega) | (rw [HC.out, Bool.eq_iff_iff]; simp only [List.isEmpty_iff, List.isEmpty_eq_false_iff] at *; simp [*]; done) | (exfalso; omega)), bel⟩
    · have e0 : ((ts.length : Int) == 0) = false := by rw [beq_eq_false_iff_ne]; omega
      have HC : Hid (B = false) := by show B = _; rw [HB.out]; simp [h0]
      clear HB
      cases neg
      all_goals
        go_enter Tryz.func45, Tryz.ntmps45
        go_wp2_with fail
        all_goals go_ret
        all_goals exact ⟨ret_bool (by first | (rw [HC.out]; done) | (rw [HC.out]; simp [*]; done) | (rw [HC.out]; simp; omega) | (rw [HC.out]; simp [*]; omega) | (rw [HC.out]; simp only [List.isEmpty_iff, List.isEmpty_eq_false_iff] at *; simp [*]; done) | (rw [HC.out]; simp only [List.isEmpty_iff, List.isEmpty_eq_false_iff] at *; simp [*]; omega) | (rw [HC.out, Bool.eq_iff_iff]; simp only [List.isEmpty_iff, List.isEmpty_eq_false_iff] at *; simp [*]; done) | (exfalso; omega)), bel⟩
end Go.Proofs.YtankkadnhdfpfaaGreatDoor
