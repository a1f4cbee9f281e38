/- soffitref12.Holds, walked. -/
import Derived.Test.YtogegempbjpdiaaDoorRef04c
import Derived.Test.YtogegempbjpdiaaDoorMatchAll
set_option linter.unusedSimpArgs false
set_option linter.unusedVariables false
namespace Go.Proofs.YtogegempbjpdiaaDoor
open Go.RowKit

/-- as the reference says: does a sound test hold of a sound value? -/
def holdsB (t : Tst) (v : Vl) : Bool :=
  if t.k = 1 then eqB t.lo v
  else if v.k = t.lo.k then
    (if t.k = 2 then decide (cmpV v t.lo < 0)
     else if t.k = 3 then decide (cmpV v t.lo ≤ 0)
     else if t.k = 4 then decide (0 < cmpV v t.lo)
     else if t.k = 5 then decide (0 ≤ cmpV v t.lo)
     else if cmpV v t.lo < 0 ∨ (cmpV v t.lo = 0 ∧ t.ol = true) then false
     else decide (cmpV v t.hi < 0) || (decide (cmpV v t.hi = 0) && !t.oh))
  else false
theorem cmpVRes_yes {a b : Vl} (ha : sndB a = true) (hb : sndB b = true) : cmpVRes a b = .tuple #[.int .i64 (cmpV a b), .int .i64 0] := by
  unfold cmpVRes; rw [ha, hb]; rfl

set_option maxRecDepth 100000 in
set_option maxHeartbeats 1600000 in
theorem holds1 (t : Tst) (v : Vl) (w : World) (ht : t.wf) (hv : v.wf) (sl : sndB t.lo = true) (sh : sndB t.hi = true) (sv : sndB v = true) (hk : t.k = 1) :
    Calls Tryd.prog 14 #[.agg #[.int .i64 t.k, .int .i64 t.lo.k, .int .i64 t.lo.n, .int .i64 t.lo.s, .string t.lo.t, .int .i64 t.lo.i, .int .i64 t.hi.k, .int .i64 t.hi.n, .int .i64 t.hi.s, .string t.hi.t, .int .i64 t.hi.i, .bool t.ol, .bool t.oh], .agg #[.int .i64 v.k, .int .i64 v.n, .int .i64 v.s, .string v.t, .int .i64 v.i]] w fun e w' =>
      e = .returned (.bool (holdsB t v)) ∧ Below w.heap.size w w' := by
  obtain ⟨B, hB⟩ : ∃ B, holdsB t v = B := ⟨_, rfl⟩
  rw [hB]
  have hl := ht.lo
  have hh := ht.hi
  have HC1 := Lib.hid (cmpVRes_yes sv sl)
  have HC2 := Lib.hid (cmpVRes_yes sv sh)
  clear ht sl sh sv
  have HB : Hid (B = eqB t.lo v) := by show B = _; rw [← hB]; unfold holdsB; rw [if_pos hk]
  have hq := fun W => eqV_run t.lo v W
  have e1 : (t.k == 1) = true := by simp [hk]
  clear hB hk
  generalize eqB t.lo v = Z at *
  go_enter Tryd.func14, Tryd.ntmps14
  go_wp2_with fail
  all_goals go_ret
  all_goals exact ⟨ret_bool (by first | (rw [HB.out]; done) | (rw [HB.out]; simp [*]; done) | (rw [HB.out]; simp; omega) | (rw [HB.out]; simp [*]; omega) | (rw [HB.out]; simp only [List.isEmpty_iff, List.isEmpty_eq_false_iff] at *; simp [*]; done) | (rw [HB.out]; simp only [List.isEmpty_iff, List.isEmpty_eq_false_iff] at *; simp [*]; omega) | (rw [HB.out, Bool.eq_iff_iff]; simp only [List.isEmpty_iff, List.isEmpty_eq_false_iff] at *; simp [*]; done) | (exfalso; omega)), (by repeat' (first | (with_reducible exact Below.refl _ _) | (with_reducible assumption) | (with_reducible refine Below.drew ?_) | (with_reducible refine below_drewN ?_ _) | (with_reducible refine below_iterAt ?_ ?_ _ _) | (with_reducible refine below_iter ?_ ?_ _ _) | (with_reducible refine Below.alloc ?_ ?_ _) | (with_reducible refine Below.setCell ?_ ?_ _) | (with_reducible refine Below.trans ?_ (Below.mono (by assumption) ?_)) | (simp only [sz_alloc, sz_set, sz_drew, sz_drewN, sz_iterAt, sz_iter] at *; omega) | omega | (simp; done) | (simp; omega) | (apply Below.size; assumption) | (simp only [sz_drew, sz_drewN]; apply Below.size; assumption) | (refine Nat.le_trans ?_ (Below.size (by assumption)))))⟩

set_option maxRecDepth 100000 in
set_option maxHeartbeats 1600000 in
theorem holds2 (t : Tst) (v : Vl) (w : World) (ht : t.wf) (hv : v.wf) (sl : sndB t.lo = true) (sh : sndB t.hi = true) (sv : sndB v = true) (hk : t.k = 2) :
    Calls Tryd.prog 14 #[.agg #[.int .i64 t.k, .int .i64 t.lo.k, .int .i64 t.lo.n, .int .i64 t.lo.s, .string t.lo.t, .int .i64 t.lo.i, .int .i64 t.hi.k, .int .i64 t.hi.n, .int .i64 t.hi.s, .string t.hi.t, .int .i64 t.hi.i, .bool t.ol, .bool t.oh], .agg #[.int .i64 v.k, .int .i64 v.n, .int .i64 v.s, .string v.t, .int .i64 v.i]] w fun e w' =>
      e = .returned (.bool (holdsB t v)) ∧ Below w.heap.size w w' := by
  obtain ⟨B, hB⟩ : ∃ B, holdsB t v = B := ⟨_, rfl⟩
  rw [hB]
  have hl := ht.lo
  have hh := ht.hi
  have HC1 := Lib.hid (cmpVRes_yes sv sl)
  have HC2 := Lib.hid (cmpVRes_yes sv sh)
  clear ht sl sh sv
  obtain ⟨c, hc⟩ : ∃ c, cmpV v t.lo = c := ⟨_, rfl⟩
  rw [hc] at HC1
  by_cases hkk : v.k = t.lo.k
  · have HB : Hid (B = (decide (c < 0))) := by show B = _; rw [← hB, ← hc]; unfold holdsB; simp only [hk, hkk, if_true, if_false, Int.reduceEq]
    have ek : (v.k != t.lo.k) = false := by simp [hkk]
    have e1 : (t.k == 1) = false := by simp [hk]
    have e2 : (t.k == 2) = true := by simp [hk]
    clear hB hc hkk hk
    go_enter Tryd.func14, Tryd.ntmps14
    go_wp2_with fail
    refine (rCompare_any v t.lo _ hv hl).mono ?_
    rintro e w1 ⟨rfl, hb1⟩
    rw [HC1.out]
    obtain ⟨hc1, hf1⟩ := bcell hb1
    have hz1 := hb1.size
    try simp at hz1
    have q1_0 := fun o => hc1 (w.heap.size) o (by first | omega | (simp only [sz_alloc, sz_set, sz_drew, sz_drewN, sz_iterAt, sz_iter] at *; omega) | (simp; done) | (simp; omega) | (simp at *; omega))
    have l1_0 : w.heap.size < w1.heap.size := by omega
    have r1_0 := fun o => hf1 (w.heap.size) o (by first | omega | (simp only [sz_alloc, sz_set, sz_drew, sz_drewN, sz_iterAt, sz_iter] at *; omega) | (simp; done) | (simp; omega) | (simp at *; omega))
    have q1_1 := fun o => hc1 (w.heap.size + 1) o (by first | omega | (simp only [sz_alloc, sz_set, sz_drew, sz_drewN, sz_iterAt, sz_iter] at *; omega) | (simp; done) | (simp; omega) | (simp at *; omega))
    have l1_1 : w.heap.size + 1 < w1.heap.size := by omega
    have r1_1 := fun o => hf1 (w.heap.size + 1) o (by first | omega | (simp only [sz_alloc, sz_set, sz_drew, sz_drewN, sz_iterAt, sz_iter] at *; omega) | (simp; done) | (simp; omega) | (simp at *; omega))
    clear hc1 hf1
    go_wp2_with fail
    all_goals go_ret
    all_goals exact ⟨ret_bool (by first | (rw [HB.out]; done) | (rw [HB.out]; simp [*]; done) | (rw [HB.out]; simp; omega) | (rw [HB.out]; simp [*]; omega) | (rw [HB.out]; simp only [List.isEmpty_iff, List.isEmpty_eq_false_iff] at *; simp [*]; done) | (rw [HB.out]; simp only [List.isEmpty_iff, List.isEmpty_eq_false_iff] at *; simp [*]; omega) | (rw [HB.out, Bool.eq_iff_iff]; simp only [List.isEmpty_iff, List.isEmpty_eq_false_iff] at *; simp [*]; done) | (exfalso; omega)), (by repeat' (first | (with_reducible exact Below.refl _ _) | (with_reducible assumption) | (with_reducible refine Below.drew ?_) | (with_reducible refine below_drewN ?_ _) | (with_reducible refine below_iterAt ?_ ?_ _ _) | (with_reducible refine below_iter ?_ ?_ _ _) | (with_reducible refine Below.alloc ?_ ?_ _) | (with_reducible refine Below.setCell ?_ ?_ _) | (with_reducible refine Below.trans ?_ (Below.mono (by assumption) ?_)) | (simp only [sz_alloc, sz_set, sz_drew, sz_drewN, sz_iterAt, sz_iter] at *; omega) | omega | (simp; done) | (simp; omega) | (apply Below.size; assumption) | (simp only [sz_drew, sz_drewN]; apply Below.size; assumption) | (refine Nat.le_trans ?_ (Below.size (by assumption)))))⟩
  · have HB : Hid (B = false) := by show B = _; rw [← hB]; unfold holdsB; simp only [hk, hkk, if_false, Int.reduceEq]
    have ek : (v.k != t.lo.k) = true := by simp [hkk]
    have e1 : (t.k == 1) = false := by simp [hk]
    clear hB hc hkk
    go_enter Tryd.func14, Tryd.ntmps14
    go_wp2_with fail
    all_goals go_ret
    all_goals exact ⟨ret_bool (by first | (rw [HB.out]; done) | (rw [HB.out]; simp [*]; done) | (rw [HB.out]; simp; omega) | (rw [HB.out]; simp [*]; omega) | (rw [HB.out]; simp only [List.isEmpty_iff, List.isEmpty_eq_false_iff] at *; simp [*]; done) | (rw [HB.out]; simp only [List.isEmpty_iff, List.isEmpty_eq_false_iff] at *; simp [*]; omega) | (rw [HB.out, Bool.eq_iff_iff]; simp only [List.isEmpty_iff, List.isEmpty_eq_false_iff] at *; simp [*]; done) | (exfalso; omega)), (by repeat' (first | (with_reducible exact Below.refl _ _) | (with_reducible assumption) | (with_reducible refine Below.drew ?_) | (with_reducible refine below_drewN ?_ _) | (with_reducible refine below_iterAt ?_ ?_ _ _) | (with_reducible refine below_iter ?_ ?_ _ _) | (with_reducible refine Below.alloc ?_ ?_ _) | (with_reducible refine Below.setCell ?_ ?_ _) | (with_reducible refine Below.trans ?_ (Below.mono (by assumption) ?_)) | (simp only [sz_alloc, sz_set, sz_drew, sz_drewN, sz_iterAt, sz_iter] at *; omega) | omega | (simp; done) | (simp; omega) | (apply Below.size; assumption) | (simp only [sz_drew, sz_drewN]; apply Below.size; assumption) | (refine Nat.le_trans ?_ (Below.size (by assumption)))))⟩

set_option maxRecDepth 100000 in
set_option maxHeartbeats 1600000 in
theorem holds3 (t : Tst) (v : Vl) (w : World) (ht : t.wf) (hv : v.wf) (sl : sndB t.lo = true) (sh : sndB t.hi = true) (sv : sndB v = true) (hk : t.k = 3) :
    Calls Tryd.prog 14 #[.agg #[.int .i64 t.k, .int .i64 t.lo.k, .int .i64 t.lo.n, .int .i64 t.lo.s, .string t.lo.t, .int .i64 t.lo.i, .int .i64 t.hi.k, .int .i64 t.hi.n, .int .i64 t.hi.s, .string t.hi.t, .int .i64 t.hi.i, .bool t.ol, .bool t.oh], .agg #[.int .i64 v.k, .int .i64 v.n, .int .i64 v.s, .string v.t, .int .i64 v.i]] w fun e w' =>
      e = .returned (.bool (holdsB t v)) ∧ Below w.heap.size w w' := by
  obtain ⟨B, hB⟩ : ∃ B, holdsB t v = B := ⟨_, rfl⟩
  rw [hB]
  have hl := ht.lo
  have hh := ht.hi
  have HC1 := Lib.hid (cmpVRes_yes sv sl)
  have HC2 := Lib.hid (cmpVRes_yes sv sh)
  clear ht sl sh sv
  obtain ⟨c, hc⟩ : ∃ c, cmpV v t.lo = c := ⟨_, rfl⟩
  rw [hc] at HC1
  by_cases hkk : v.k = t.lo.k
  · have HB : Hid (B = (decide (c ≤ 0))) := by show B = _; rw [← hB, ← hc]; unfold holdsB; simp only [hk, hkk, if_true, if_false, Int.reduceEq]
    have ek : (v.k != t.lo.k) = false := by simp [hkk]
    have e1 : (t.k == 1) = false := by simp [hk]
    have e2 : (t.k == 2) = false := by simp [hk]
    have e3 : (t.k == 3) = true := by simp [hk]
    clear hB hc hkk hk
    go_enter Tryd.func14, Tryd.ntmps14
    go_wp2_with fail
    refine (rCompare_any v t.lo _ hv hl).mono ?_
    rintro e w1 ⟨rfl, hb1⟩
    rw [HC1.out]
    obtain ⟨hc1, hf1⟩ := bcell hb1
    have hz1 := hb1.size
    try simp at hz1
    have q1_0 := fun o => hc1 (w.heap.size) o (by first | omega | (simp only [sz_alloc, sz_set, sz_drew, sz_drewN, sz_iterAt, sz_iter] at *; omega) | (simp; done) | (simp; omega) | (simp at *; omega))
    have l1_0 : w.heap.size < w1.heap.size := by omega
    have r1_0 := fun o => hf1 (w.heap.size) o (by first | omega | (simp only [sz_alloc, sz_set, sz_drew, sz_drewN, sz_iterAt, sz_iter] at *; omega) | (simp; done) | (simp; omega) | (simp at *; omega))
    have q1_1 := fun o => hc1 (w.heap.size + 1) o (by first | omega | (simp only [sz_alloc, sz_set, sz_drew, sz_drewN, sz_iterAt, sz_iter] at *; omega) | (simp; done) | (simp; omega) | (simp at *; omega))
    have l1_1 : w.heap.size + 1 < w1.heap.size := by omega
    have r1_1 := fun o => hf1 (w.heap.size + 1) o (by first | omega | (simp only [sz_alloc, sz_set, sz_drew, sz_drewN, sz_iterAt, sz_iter] at *; omega) | (simp; done) | (simp; omega) | (simp at *; omega))
    clear hc1 hf1
    go_wp2_with fail
    all_goals go_ret
    all_goals exact ⟨ret_bool (by first | (rw [HB.out]; done) | (rw [HB.out]; simp [*]; done) | (rw [HB.out]; simp; omega) | (rw [HB.out]; simp [*]; omega) | (rw [HB.out]; simp only [List.isEmpty_iff, List.isEmpty_eq_false_iff] at *; simp [*]; done) | (rw [HB.out]; simp only [List.isEmpty_iff, List.isEmpty_eq_false_iff] at *; simp [*]; omega) | (rw [HB.out, Bool.eq_iff_iff]; simp only [List.isEmpty_iff, List.isEmpty_eq_false_iff] at *; simp [*]; done) | (exfalso; omega)), (by repeat' (first | (with_reducible exact Below.refl _ _) | (with_reducible assumption) | (with_reducible refine Below.drew ?_) | (with_reducible refine below_drewN ?_ _) | (with_reducible refine below_iterAt ?_ ?_ _ _) | (with_reducible refine below_iter ?_ ?_ _ _) | (with_reducible refine Below.alloc ?_ ?_ _) | (with_reducible refine Below.setCell ?_ ?_ _) | (with_reducible refine Below.trans ?_ (Below.mono (by assumption) ?_)) | (simp only [sz_alloc, sz_set, sz_drew, sz_drewN, sz_iterAt, sz_iter] at *; omega) | omega | (simp; done) | (simp; omega) | (apply Below.size; assumption) | (simp only [sz_drew, sz_drewN]; apply Below.size; assumption) | (refine Nat.le_trans ?_ (Below.size (by assumption)))))⟩
  · have HB : Hid (B = false) := by show B = _; rw [← hB]; unfold holdsB; simp only [hk, hkk, if_false, Int.reduceEq]
    have ek : (v.k != t.lo.k) = true := by simp [hkk]
    have e1 : (t.k == 1) = false := by simp [hk]
    clear hB hc hkk
    go_enter Tryd.func14, Tryd.ntmps14
    go_wp2_with fail
    all_goals go_ret
    all_goals exact ⟨ret_bool (by first | (rw [HB.out]; done) | (rw [HB.out]; simp [*]; done) | (rw [HB.out]; simp; omega) | (rw [HB.out]; simp [*]; omega) | (rw [HB.out]; simp only [List.isEmpty_iff, List.isEmpty_eq_false_iff] at *; simp [*]; done) | (rw [HB.out]; simp only [List.isEmpty_iff, List.isEmpty_eq_false_iff] at *; simp [*]; omega) | (rw [HB.out, Bool.eq_iff_iff]; simp only [List.isEmpty_iff, List.isEmpty_eq_false_iff] at *; simp [*]; done) | (exfalso; omega)), (by repeat' (first | (with_reducible exact Below.refl _ _) | (with_reducible assumption) | (with_reducible refine Below.drew ?_) | (with_reducible refine below_drewN ?_ _) | (with_reducible refine below_iterAt ?_ ?_ _ _) | (with_reducible refine below_iter ?_ ?_ _ _) | (with_reducible refine Below.alloc ?_ ?_ _) | (with_reducible refine Below.setCell ?_ ?_ _) | (with_reducible refine Below.trans ?_ (Below.mono (by assumption) ?_)) | (simp only [sz_alloc, sz_set, sz_drew, sz_drewN, sz_iterAt, sz_iter] at *; omega) | omega | (simp; done) | (simp; omega) | (apply Below.size; assumption) | (simp only [sz_drew, sz_drewN]; apply Below.size; assumption) | (refine Nat.le_trans ?_ (Below.size (by assumption)))))⟩

set_option maxRecDepth 100000 in
set_option maxHeartbeats 1600000 in
theorem holds4 (t : Tst) (v : Vl) (w : World) (ht : t.wf) (hv : v.wf) (sl : sndB t.lo = true) (sh : sndB t.hi = true) (sv : sndB v = true) (hk : t.k = 4) :
    Calls Tryd.prog 14 #[.agg #[.int .i64 t.k, .int .i64 t.lo.k, .int .i64 t.lo.n, .int .i64 t.lo.s, .string t.lo.t, .int .i64 t.lo.i, .int .i64 t.hi.k, .int .i64 t.hi.n, .int .i64 t.hi.s, .string t.hi.t, .int .i64 t.hi.i, .bool t.ol, .bool t.oh], .agg #[.int .i64 v.k, .int .i64 v.n, .int .i64 v.s, .string v.t, .int .i64 v.i]] w fun e w' =>
      e = .returned (.bool (holdsB t v)) ∧ Below w.heap.size w w' := by
  obtain ⟨B, hB⟩ : ∃ B, holdsB t v = B := ⟨_, rfl⟩
  rw [hB]
  have hl := ht.lo
  have hh := ht.hi
  have HC1 := Lib.hid (cmpVRes_yes sv sl)
  have HC2 := Lib.hid (cmpVRes_yes sv sh)
  clear ht sl sh sv
  obtain ⟨c, hc⟩ : ∃ c, cmpV v t.lo = c := ⟨_, rfl⟩
  rw [hc] at HC1
  by_cases hkk : v.k = t.lo.k
  · have HB : Hid (B = (decide (0 < c))) := by show B = _; rw [← hB, ← hc]; unfold holdsB; simp only [hk, hkk, if_true, if_false, Int.reduceEq]
    have ek : (v.k != t.lo.k) = false := by simp [hkk]
    have e1 : (t.k == 1) = false := by simp [hk]
    have e2 : (t.k == 2) = false := by simp [hk]
    have e3 : (t.k == 3) = false := by simp [hk]
    have e4 : (t.k == 4) = true := by simp [hk]
    clear hB hc hkk hk
    go_enter Tryd.func14, Tryd.ntmps14
    go_wp2_with fail
    refine (rCompare_any v t.lo _ hv hl).mono ?_
    rintro e w1 ⟨rfl, hb1⟩
    rw [HC1.out]
    obtain ⟨hc1, hf1⟩ := bcell hb1
    have hz1 := hb1.size
    try simp at hz1
    have q1_0 := fun o => hc1 (w.heap.size) o (by first | omega | (simp only [sz_alloc, sz_set, sz_drew, sz_drewN, sz_iterAt, sz_iter] at *; omega) | (simp; done) | (simp; omega) | (simp at *; omega))
    have l1_0 : w.heap.size < w1.heap.size := by omega
    have r1_0 := fun o => hf1 (w.heap.size) o (by first | omega | (simp only [sz_alloc, sz_set, sz_drew, sz_drewN, sz_iterAt, sz_iter] at *; omega) | (simp; done) | (simp; omega) | (simp at *; omega))
    have q1_1 := fun o => hc1 (w.heap.size + 1) o (by first | omega | (simp only [sz_alloc, sz_set, sz_drew, sz_drewN, sz_iterAt, sz_iter] at *; omega) | (simp; done) | (simp; omega) | (simp at *; omega))
    have l1_1 : w.heap.size + 1 < w1.heap.size := by omega
    have r1_1 := fun o => hf1 (w.heap.size + 1) o (by first | omega | (simp only [sz_alloc, sz_set, sz_drew, sz_drewN, sz_iterAt, sz_iter] at *; omega) | (simp; done) | (simp; omega) | (simp at *; omega))
    clear hc1 hf1
    go_wp2_with fail
    all_goals go_ret
    all_goals exact ⟨ret_bool (by first | (rw [HB.out]; done) | (rw [HB.out]; simp [*]; done) | (rw [HB.out]; simp; omega) | (rw [HB.out]; simp [*]; omega) | (rw [HB.out]; simp only [List.isEmpty_iff, List.isEmpty_eq_false_iff] at *; simp [*]; done) | (rw [HB.out]; simp only [List.isEmpty_iff, List.isEmpty_eq_false_iff] at *; simp [*]; omega) | (rw [HB.out, Bool.eq_iff_iff]; simp only [List.isEmpty_iff, List.isEmpty_eq_false_iff] at *; simp [*]; done) | (exfalso; omega)), (by repeat' (first | (with_reducible exact Below.refl _ _) | (with_reducible assumption) | (with_reducible refine Below.drew ?_) | (with_reducible refine below_drewN ?_ _) | (with_reducible refine below_iterAt ?_ ?_ _ _) | (with_reducible refine below_iter ?_ ?_ _ _) | (with_reducible refine Below.alloc ?_ ?_ _) | (with_reducible refine Below.setCell ?_ ?_ _) | (with_reducible refine Below.trans ?_ (Below.mono (by assumption) ?_)) | (simp only [sz_alloc, sz_set, sz_drew, sz_drewN, sz_iterAt, sz_iter] at *; omega) | omega | (simp; done) | (simp; omega) | (apply Below.size; assumption) | (simp only [sz_drew, sz_drewN]; apply Below.size; assumption) | (refine Nat.le_trans ?_ (Below.size (by assumption)))))⟩
  · have HB : Hid (B = false) := by show B = _; rw [← hB]; unfold holdsB; simp only [hk, hkk, if_false, Int.reduceEq]
    have ek : (v.k != t.lo.k) = true := by simp [hkk]
    have e1 : (t.k == 1) = false := by simp [hk]
    clear hB hc hkk
    go_enter Tryd.func14, Tryd.ntmps14
    go_wp2_with fail
    all_goals go_ret
    all_goals exact ⟨ret_bool (by first | (rw [HB.out]; done) | (rw [HB.out]; simp [*]; done) | (rw [HB.out]; simp; omega) | (rw [HB.out]; simp [*]; omega) | (rw [HB.out]; simp only [List.isEmpty_iff, List.isEmpty_eq_false_iff] at *; simp [*]; done) | (rw [HB.out]; simp only [List.isEmpty_iff, List.isEmpty_eq_false_iff] at *; simp [*]; omega) | (rw [HB.out, Bool.eq_iff_iff]; simp only [List.isEmpty_iff, List.isEmpty_eq_false_iff] at *; simp [*]; done) | (exfalso; omega)), (by repeat' (first | (with_reducible exact Below.refl _ _) | (with_reducible assumption) | (with_reducible refine Below.drew ?_) | (with_reducible refine below_drewN ?_ _) | (with_reducible refine below_iterAt ?_ ?_ _ _) | (with_reducible refine below_iter ?_ ?_ _ _) | (with_reducible refine Below.alloc ?_ ?_ _) | (with_reducible refine Below.setCell ?_ ?_ _) | (with_reducible refine Below.trans ?_ (Below.mono (by assumption) ?_)) | (simp only [sz_alloc, sz_set, sz_drew, sz_drewN, sz_iterAt, sz_iter] at *; omega) | omega | (simp; done) | (simp; omega) | (apply Below.size; assumption) | (simp only [sz_drew, sz_drewN]; apply Below.size; assumption) | (refine Nat.le_trans ?_ (Below.size (by assumption)))))⟩

set_option maxRecDepth 100000 in
set_option maxHeartbeats 1600000 in
theorem holds5 (t : Tst) (v : Vl) (w : World) (ht : t.wf) (hv : v.wf) (sl : sndB t.lo = true) (sh : sndB t.hi = true) (sv : sndB v = true) (hk : t.k = 5) :
    Calls Tryd.prog 14 #[.agg #[.int .i64 t.k, .int .i64 t.lo.k, .int .i64 t.lo.n, .int .i64 t.lo.s, .string t.lo.t, .int .i64 t.lo.i, .int .i64 t.hi.k, .int .i64 t.hi.n, .int .i64 t.hi.s, .string t.hi.t, .int .i64 t.hi.i, .bool t.ol, .bool t.oh], .agg #[.int .i64 v.k, .int .i64 v.n, .int .i64 v.s, .string v.t, .int .i64 v.i]] w fun e w' =>
      e = .returned (.bool (holdsB t v)) ∧ Below w.heap.size w w' := by
  obtain ⟨B, hB⟩ : ∃ B, holdsB t v = B := ⟨_, rfl⟩
  rw [hB]
  have hl := ht.lo
  have hh := ht.hi
  have HC1 := Lib.hid (cmpVRes_yes sv sl)
  have HC2 := Lib.hid (cmpVRes_yes sv sh)
  clear ht sl sh sv
  obtain ⟨c, hc⟩ : ∃ c, cmpV v t.lo = c := ⟨_, rfl⟩
  rw [hc] at HC1
  by_cases hkk : v.k = t.lo.k
  · have HB : Hid (B = (decide (0 ≤ c))) := by show B = _; rw [← hB, ← hc]; unfold holdsB; simp only [hk, hkk, if_true, if_false, Int.reduceEq]
    have ek : (v.k != t.lo.k) = false := by simp [hkk]
    have e1 : (t.k == 1) = false := by simp [hk]
    have e2 : (t.k == 2) = false := by simp [hk]
    have e3 : (t.k == 3) = false := by simp [hk]
    have e4 : (t.k == 4) = false := by simp [hk]
    have e5 : (t.k == 5) = true := by simp [hk]
    clear hB hc hkk hk
    go_enter Tryd.func14, Tryd.ntmps14
    go_wp2_with fail
    refine (rCompare_any v t.lo _ hv hl).mono ?_
    rintro e w1 ⟨rfl, hb1⟩
    rw [HC1.out]
    obtain ⟨hc1, hf1⟩ := bcell hb1
    have hz1 := hb1.size
    try simp at hz1
    have q1_0 := fun o => hc1 (w.heap.size) o (by first | omega | (simp only [sz_alloc, sz_set, sz_drew, sz_drewN, sz_iterAt, sz_iter] at *; omega) | (simp; done) | (simp; omega) | (simp at *; omega))
    have l1_0 : w.heap.size < w1.heap.size := by omega
    have r1_0 := fun o => hf1 (w.heap.size) o (by first | omega | (simp only [sz_alloc, sz_set, sz_drew, sz_drewN, sz_iterAt, sz_iter] at *; omega) | (simp; done) | (simp; omega) | (simp at *; omega))
    have q1_1 := fun o => hc1 (w.heap.size + 1) o (by first | omega | (simp only [sz_alloc, sz_set, sz_drew, sz_drewN, sz_iterAt, sz_iter] at *; omega) | (simp; done) | (simp; omega) | (simp at *; omega))
    have l1_1 : w.heap.size + 1 < w1.heap.size := by omega
    have r1_1 := fun o => hf1 (w.heap.size + 1) o (by first | omega | (simp only [sz_alloc, sz_set, sz_drew, sz_drewN, sz_iterAt, sz_iter] at *; omega) | (simp; done) | (simp; omega) | (simp at *; omega))
    clear hc1 hf1
    go_wp2_with fail
    all_goals go_ret
    all_goals exact ⟨ret_bool (by first | (rw [HB.out]; done) | (rw [HB.out]; simp [*]; done) | (rw [HB.out]; simp; omega) | (rw [HB.out]; simp [*]; omega) | (rw [HB.out]; simp only [List.isEmpty_iff, List.isEmpty_eq_false_iff] at *; simp [*]; done) | (rw [HB.out]; simp only [List.isEmpty_iff, List.isEmpty_eq_false_iff] at *; simp [*]; omega) | (rw [HB.out, Bool.eq_iff_iff]; simp only [List.isEmpty_iff, List.isEmpty_eq_false_iff] at *; simp [*]; done) | (exfalso; omega)), (by repeat' (first | (with_reducible exact Below.refl _ _) | (with_reducible assumption) | (with_reducible refine Below.drew ?_) | (with_reducible refine below_drewN ?_ _) | (with_reducible refine below_iterAt ?_ ?_ _ _) | (with_reducible refine below_iter ?_ ?_ _ _) | (with_reducible refine Below.alloc ?_ ?_ _) | (with_reducible refine Below.setCell ?_ ?_ _) | (with_reducible refine Below.trans ?_ (Below.mono (by assumption) ?_)) | (simp only [sz_alloc, sz_set, sz_drew, sz_drewN, sz_iterAt, sz_iter] at *; omega) | omega | (simp; done) | (simp; omega) | (apply Below.size; assumption) | (simp only [sz_drew, sz_drewN]; apply Below.size; assumption) | (refine Nat.le_trans ?_ (Below.size (by assumption)))))⟩
  · have HB : Hid (B = false) := by show B = _; rw [← hB]; unfold holdsB; simp only [hk, hkk, if_false, Int.reduceEq]
    have ek : (v.k != t.lo.k) = true := by simp [hkk]
    have e1 : (t.k == 1) = false := by simp [hk]
    clear hB hc hkk
    go_enter Tryd.func14, Tryd.ntmps14
    go_wp2_with fail
    all_goals go_ret
    all_goals exact ⟨ret_bool (by first | (rw [HB.out]; done) | (rw [HB.out]; simp [*]; done) | (rw [HB.out]; simp; omega) | (rw [HB.out]; simp [*]; omega) | (rw [HB.out]; simp only [List.isEmpty_iff, List.isEmpty_eq_false_iff] at *; simp [*]; done) | (rw [HB.out]; simp only [List.isEmpty_iff, List.isEmpty_eq_false_iff] at *; simp [*]; omega) | (rw [HB.out, Bool.eq_iff_iff]; simp only [List.isEmpty_iff, List.isEmpty_eq_false_iff] at *; simp [*]; done) | (exfalso; omega)), (by repeat' (first | (with_reducible exact Below.refl _ _) | (with_reducible assumption) | (with_reducible refine Below.drew ?_) | (with_reducible refine below_drewN ?_ _) | (with_reducible refine below_iterAt ?_ ?_ _ _) | (with_reducible refine below_iter ?_ ?_ _ _) | (with_reducible refine Below.alloc ?_ ?_ _) | (with_reducible refine Below.setCell ?_ ?_ _) | (with_reducible refine Below.trans ?_ (Below.mono (by assumption) ?_)) | (simp only [sz_alloc, sz_set, sz_drew, sz_drewN, sz_iterAt, sz_iter] at *; omega) | omega | (simp; done) | (simp; omega) | (apply Below.size; assumption) | (simp only [sz_drew, sz_drewN]; apply Below.size; assumption) | (refine Nat.le_trans ?_ (Below.size (by assumption)))))⟩

set_option maxRecDepth 100000 in
set_option maxHeartbeats 1600000 in
theorem holds6 (t : Tst) (v : Vl) (w : World) (ht : t.wf) (hv : v.wf) (sl : sndB t.lo = true) (sh : sndB t.hi = true) (sv : sndB v = true) (h1 : ¬ t.k = 1) (h2 : ¬ t.k = 2) (h3 : ¬ t.k = 3) (h4 : ¬ t.k = 4) (h5 : ¬ t.k = 5) :
    Calls Tryd.prog 14 #[.agg #[.int .i64 t.k, .int .i64 t.lo.k, .int .i64 t.lo.n, .int .i64 t.lo.s, .string t.lo.t, .int .i64 t.lo.i, .int .i64 t.hi.k, .int .i64 t.hi.n, .int .i64 t.hi.s, .string t.hi.t, .int .i64 t.hi.i, .bool t.ol, .bool t.oh], .agg #[.int .i64 v.k, .int .i64 v.n, .int .i64 v.s, .string v.t, .int .i64 v.i]] w fun e w' =>
      e = .returned (.bool (holdsB t v)) ∧ Below w.heap.size w w' := by
  obtain ⟨B, hB⟩ : ∃ B, holdsB t v = B := ⟨_, rfl⟩
  rw [hB]
  have hl := ht.lo
  have hh := ht.hi
  have HC1 := Lib.hid (cmpVRes_yes sv sl)
  have HC2 := Lib.hid (cmpVRes_yes sv sh)
  clear ht sl sh sv
  obtain ⟨c, hc⟩ : ∃ c, cmpV v t.lo = c := ⟨_, rfl⟩
  rw [hc] at HC1
  by_cases hkk : v.k = t.lo.k
  · have HB : Hid (B = (if c < 0 ∨ (c = 0 ∧ t.ol = true) then false else decide (cmpV v t.hi < 0) || (decide (cmpV v t.hi = 0) && !t.oh))) := by show B = _; rw [← hB, ← hc]; unfold holdsB; simp only [h1, h2, h3, h4, h5, hkk, if_true, if_false, Int.reduceEq]
    have ek : (v.k != t.lo.k) = false := by simp [hkk]
    have e1 : (t.k == 1) = false := by simp [h1]
    have e2 : (t.k == 2) = false := by simp [h2]
    have e3 : (t.k == 3) = false := by simp [h3]
    have e4 : (t.k == 4) = false := by simp [h4]
    have e5 : (t.k == 5) = false := by simp [h5]
    clear hB hc hkk h1 h2 h3 h4 h5
    go_enter Tryd.func14, Tryd.ntmps14
    go_wp2_with fail
    refine (rCompare_any v t.lo _ hv hl).mono ?_
    rintro e w1 ⟨rfl, hb1⟩
    rw [HC1.out]
    obtain ⟨hc1, hf1⟩ := bcell hb1
    have hz1 := hb1.size
    try simp at hz1
    have q1_0 := fun o => hc1 (w.heap.size) o (by first | omega | (simp only [sz_alloc, sz_set, sz_drew, sz_drewN, sz_iterAt, sz_iter] at *; omega) | (simp; done) | (simp; omega) | (simp at *; omega))
    have l1_0 : w.heap.size < w1.heap.size := by omega
    have r1_0 := fun o => hf1 (w.heap.size) o (by first | omega | (simp only [sz_alloc, sz_set, sz_drew, sz_drewN, sz_iterAt, sz_iter] at *; omega) | (simp; done) | (simp; omega) | (simp at *; omega))
    have q1_1 := fun o => hc1 (w.heap.size + 1) o (by first | omega | (simp only [sz_alloc, sz_set, sz_drew, sz_drewN, sz_iterAt, sz_iter] at *; omega) | (simp; done) | (simp; omega) | (simp at *; omega))
    have l1_1 : w.heap.size + 1 < w1.heap.size := by omega
    have r1_1 := fun o => hf1 (w.heap.size + 1) o (by first | omega | (simp only [sz_alloc, sz_set, sz_drew, sz_drewN, sz_iterAt, sz_iter] at *; omega) | (simp; done) | (simp; omega) | (simp at *; omega))
    clear hc1 hf1
    go_wp2_with fail
    all_goals try (go_ret; exact ⟨ret_bool (by first | (rw [HB.out]; done) | (rw [HB.out]; simp [*]; done) | (rw [HB.out]; simp; omega) | (rw [HB.out]; simp [*]; omega) | (rw [HB.out]; simp only [List.isEmpty_iff, List.isEmpty_eq_false_iff] at *; simp [*]; done) | (rw [HB.out]; simp only [List.isEmpty_iff, List.isEmpty_eq_false_iff] at *; simp [*]; omega) | (rw [HB.out, Bool.eq_iff_iff]; simp only [List.isEmpty_iff, List.isEmpty_eq_false_iff] at *; simp [*]; done) | (exfalso; omega)), (by repeat' (first | (with_reducible exact Below.refl _ _) | (with_reducible assumption) | (with_reducible refine Below.drew ?_) | (with_reducible refine below_drewN ?_ _) | (with_reducible refine below_iterAt ?_ ?_ _ _) | (with_reducible refine below_iter ?_ ?_ _ _) | (with_reducible refine Below.alloc ?_ ?_ _) | (with_reducible refine Below.setCell ?_ ?_ _) | (with_reducible refine Below.trans ?_ (Below.mono (by assumption) ?_)) | (simp only [sz_alloc, sz_set, sz_drew, sz_drewN, sz_iterAt, sz_iter] at *; omega) | omega | (simp; done) | (simp; omega) | (apply Below.size; assumption) | (simp only [sz_drew, sz_drewN]; apply Below.size; assumption) | (refine Nat.le_trans ?_ (Below.size (by assumption)))))⟩)
    all_goals
      have hno : ¬ (c < 0 ∨ (c = 0 ∧ t.ol = true)) := by
        rintro (h | ⟨h, h'⟩)
        · omega
        · simp_all
      obtain ⟨d, hd⟩ : ∃ d, cmpV v t.hi = d := ⟨_, rfl⟩
      rw [hd] at HC2
      have HD : Hid (B = (decide (d < 0) || (decide (d = 0) && !t.oh))) := by show B = _; rw [HB.out, if_neg hno, hd]
      clear hd hno HB
      refine (rCompare_any v t.hi _ hv hh).mono ?_
      rintro e w2 ⟨rfl, hb2⟩
      rw [HC2.out]
      obtain ⟨hc2, hf2⟩ := bcell hb2
      have hz2 := hb2.size
      try simp at hz2
      have q2_0 := fun o => hc2 (w.heap.size) o (by first | omega | (simp only [sz_alloc, sz_set, sz_drew, sz_drewN, sz_iterAt, sz_iter] at *; omega) | (simp; done) | (simp; omega) | (simp at *; omega))
      have l2_0 : w.heap.size < w2.heap.size := by omega
      have r2_0 := fun o => hf2 (w.heap.size) o (by first | omega | (simp only [sz_alloc, sz_set, sz_drew, sz_drewN, sz_iterAt, sz_iter] at *; omega) | (simp; done) | (simp; omega) | (simp at *; omega))
      have q2_1 := fun o => hc2 (w.heap.size + 1) o (by first | omega | (simp only [sz_alloc, sz_set, sz_drew, sz_drewN, sz_iterAt, sz_iter] at *; omega) | (simp; done) | (simp; omega) | (simp at *; omega))
      have l2_1 : w.heap.size + 1 < w2.heap.size := by omega
      have r2_1 := fun o => hf2 (w.heap.size + 1) o (by first | omega | (simp only [sz_alloc, sz_set, sz_drew, sz_drewN, sz_iterAt, sz_iter] at *; omega) | (simp; done) | (simp; omega) | (simp at *; omega))
      clear hc2 hf2
      go_wp2_with fail
      all_goals go_ret
      all_goals exact ⟨ret_bool (by first | (rw [HD.out]; done) | (rw [HD.out]; simp [*]; done) | (rw [HD.out]; simp; omega) | (rw [HD.out]; simp [*]; omega) | (rw [HD.out]; simp only [List.isEmpty_iff, List.isEmpty_eq_false_iff] at *; simp [*]; done) | (rw [HD.out]; simp only [List.isEmpty_iff, List.isEmpty_eq_false_iff] at *; simp [*]; omega) | (rw [HD.out, Bool.eq_iff_iff]; simp only [List.isEmpty_iff, List.isEmpty_eq_false_iff] at *; simp [*]; done) | (exfalso; omega)), (by repeat' (first | (with_reducible exact Below.refl _ _) | (with_reducible assumption) | (with_reducible refine Below.drew ?_) | (with_reducible refine below_drewN ?_ _) | (with_reducible refine below_iterAt ?_ ?_ _ _) | (with_reducible refine below_iter ?_ ?_ _ _) | (with_reducible refine Below.alloc ?_ ?_ _) | (with_reducible refine Below.setCell ?_ ?_ _) | (with_reducible refine Below.trans ?_ (Below.mono (by assumption) ?_)) | (simp only [sz_alloc, sz_set, sz_drew, sz_drewN, sz_iterAt, sz_iter] at *; omega) | omega | (simp; done) | (simp; omega) | (apply Below.size; assumption) | (simp only [sz_drew, sz_drewN]; apply Below.size; assumption) | (refine Nat.le_trans ?_ (Below.size (by assumption)))))⟩
  · have HB : Hid (B = false) := by show B = _; rw [← hB]; unfold holdsB; simp only [h1, h2, h3, h4, h5, hkk, if_false, Int.reduceEq]
    have ek : (v.k != t.lo.k) = true := by simp [hkk]
    have e1 : (t.k == 1) = false := by simp [h1, h2, h3, h4, h5]
    clear hB hc hkk
    go_enter Tryd.func14, Tryd.ntmps14
    go_wp2_with fail
    all_goals go_ret
    all_goals exact ⟨ret_bool (by first | (rw [HB.out]; done) | (rw [HB.out]; simp [*]; done) | (rw [HB.out]; simp; omega) | (rw [HB.out]; simp [*]; omega) | (rw [HB.out]; simp only [List.isEmpty_iff, List.isEmpty_eq_false_iff] at *; simp [*]; done) | (rw [HB.out]; simp only [List.isEmpty_iff, List.isEmpty_eq_false_iff] at *; simp [*]; omega) | (rw [HB.out, Bool.eq_iff_iff]; simp only [List.isEmpty_iff, List.isEmpty_eq_false_iff] at *; simp [*]; done) | (exfalso; omega)), (by repeat' (first | (with_reducible exact Below.refl _ _) | (with_reducible assumption) | (with_reducible refine Below.drew ?_) | (with_reducible refine below_drewN ?_ _) | (with_reducible refine below_iterAt ?_ ?_ _ _) | (with_reducible refine below_iter ?_ ?_ _ _) | (with_reducible refine Below.alloc ?_ ?_ _) | (with_reducible refine Below.setCell ?_ ?_ _) | (with_reducible refine Below.trans ?_ (Below.mono (by assumption) ?_)) | (simp only [sz_alloc, sz_set, sz_drew, sz_drewN, sz_iterAt, sz_iter] at *; omega) | omega | (simp; done) | (simp; omega) | (apply Below.size; assumption) | (simp only [sz_drew, sz_drewN]; apply Below.size; assumption) | (refine Nat.le_trans ?_ (Below.size (by assumption)))))⟩

theorem holds_any (t : Tst) (v : Vl) (w : World) (ht : t.wf) (hv : v.wf) (sl : sndB t.lo = true) (sh : sndB t.hi = true) (sv : sndB v = true) :
    Calls Tryd.prog 14 #[.agg #[.int .i64 t.k, .int .i64 t.lo.k, .int .i64 t.lo.n, .int .i64 t.lo.s, .string t.lo.t, .int .i64 t.lo.i, .int .i64 t.hi.k, .int .i64 t.hi.n, .int .i64 t.hi.s, .string t.hi.t, .int .i64 t.hi.i, .bool t.ol, .bool t.oh], .agg #[.int .i64 v.k, .int .i64 v.n, .int .i64 v.s, .string v.t, .int .i64 v.i]] w fun e w' =>
      e = .returned (.bool (holdsB t v)) ∧ Below w.heap.size w w' := by
  by_cases h1 : t.k = 1
  · exact holds1 t v w ht hv sl sh sv h1
  by_cases h2 : t.k = 2
  · exact holds2 t v w ht hv sl sh sv h2
  by_cases h3 : t.k = 3
  · exact holds3 t v w ht hv sl sh sv h3
  by_cases h4 : t.k = 4
  · exact holds4 t v w ht hv sl sh sv h4
  by_cases h5 : t.k = 5
  · exact holds5 t v w ht hv sl sh sv h5
  exact holds6 t v w ht hv sl sh sv h1 h2 h3 h4 h5
end Go.Proofs.YtogegempbjpdiaaDoor
