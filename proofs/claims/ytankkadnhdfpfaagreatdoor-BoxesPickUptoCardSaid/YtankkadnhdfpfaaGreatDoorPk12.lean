import Derived.Test.YtankkadnhdfpfaaGreatDoorPk09
/- soffitref12.Holds, walked. -/
set_option linter.unusedSimpArgs false
set_option linter.unusedVariables false
namespace Go.Proofs.YtankkadnhdfpfaaGreatDoor
open Go.RowKit

def holdsB (t : Tst) (v : Vl) : Bool :=
  if t.k = 1 then eqB t.lo v
  else if v.k = t.lo.k then
    (if t.k = 2 then decide (cmpV v t.lo < 0)
     else if t.k = 3 then decide (cmpV v t.lo ≤ 0)
     else if t.k = 4 then decide (0 < cmpV v t.lo)
     else if t.k = 5 then decide (0 ≤ cmpV v t.lo)
     else if cmpV v t.lo < 0 ∨ (cmpV v t.lo = 0 ∧ t.ol = true) then false
     else decide (cmpV v t.hi < 0) || (decide (cmpV v t.hi = 0) && !t.oh))
  else false
theorem cmpVRes_yes {a b : Vl} (ha : sndB a = true) (hb : sndB b = true) : cmpVRes a b = .tuple #[.int .i64 (cmpV a b), .int .i64 0] := by
  unfold cmpVRes; rw [ha, hb]; rfl

set_option maxRecDepth 100000 in
set_option maxHeartbeats 1600000 in
theorem holds1 (t : Tst) (v : Vl) (w : World) (ht : t.wf) (hv : v.wf) (sl : sndB t.lo = true) (sh : sndB t.hi = true) (sv : sndB v = true) (hk : t.k = 1) :
    Calls Tryz.prog 79 #[.agg #[.int .i64 t.k, .int .i64 t.lo.k, .int .i64 t.lo.n, .int .i64 t.lo.s, .string t.lo.t, .int .i64 t.lo.i, .int .i64 t.hi.k, .int .i64 t.hi.n, .int .i64 t.hi.s, .string t.hi.t, .int .i64 t.hi.i, .bool t.ol, .bool t.oh], .agg #[.int .i64 v.k, .int .i64 v.n, .int .i64 v.s, .string v.t, .int .i64 v.i]] w fun e w' =>
      e = .returned (.bool (holdsB t v)) ∧ Below w.heap.size w w' := by
  obtain ⟨B, hB⟩ : ∃ B, holdsB t v = B := ⟨_, rfl⟩
  rw [hB]
  have hl := ht.lo
  have hh := ht.hi
  have HC1 := Lib.hid (cmpVRes_yes sv sl)
  have HC2 := Lib.hid (cmpVRes_yes sv sh)
  clear ht sl sh sv
  have HB : Hid (B = eqB t.lo v) := by show B = _; rw [← hB]; unfold holdsB; rw [if_pos hk]
  have hq := fun W => eqV_run t.lo v W
  have e1 : (t.k == 1) = true := by simp [hk]
  clear hB hk
  generalize eqB t.lo v = Z at *
  go_enter Tryz.func79, Tryz.ntmps79
  go_wp2_with fail
  all_goals go_ret
  all_goals exact ⟨ret_bool (by first | (rw [HB.out]; done) | (rw [HB.out]; simp [*]; done) | (rw [HB.out]; simp; omega) | (rw [HB.out]; simp [*]; omega) | (rw [HB.out]; simp only [List.isEmpty_iff, List.isEmpty_eq_false_iff] at *; simp [*]; done) | (rw [HB.out]; simp only [List.isEmpty_iff, List.isEmpty_eq_false_iff] at *; simp [*]; omega) | (rw [HB.out, Bool.eq_iff_iff]; simp only [List.isEmpty_iff, List.isEmpty_eq_false_iff] at *; simp [*]; done) | (exfalso; omega)), bel⟩

set_option maxRecDepth 100000 in
set_option maxHeartbeats 1600000 in
theorem holds2 (t : Tst) (v : Vl) (w : World) (ht : t.wf) (hv : v.wf) (sl : sndB t.lo = true) (sh : sndB t.hi = true) (sv : sndB v = true) (hk : t.k = 2) :
    Calls Tryz.prog 79 #[.agg #[.int .i64 t.k, .int .i64 t.lo.k, .int .i64 t.lo.n, .int .i64 t.lo.s, .string t.lo.t, .int .i64 t.lo.i, .int .i64 t.hi.k, .int .i64 t.hi.n, .int .i64 t.hi.s, .string t.hi.t, .int .i64 t.hi.i, .bool t.ol, .bool t.oh], .agg #[.int .i64 v.k, .int .i64 v.n, .int .i64 v.s, .string v.t, .int .i64 v.i]] w fun e w' =>
      e = .returned (.bool (holdsB t v)) ∧ Below w.heap.size w w' := by
  obtain ⟨B, hB⟩ : ∃ B, holdsB t v = B := ⟨_, rfl⟩
  rw [hB]
  have hl := ht.lo
  have hh := ht.hi
  have HC1 := Lib.hid (cmpVRes_yes sv sl)
  have HC2 := Lib.hid (cmpVRes_yes sv sh)
  clear ht sl sh sv
  obtain ⟨c, hc⟩ : ∃ c, cmpV v t.lo = c := ⟨_, rfl⟩
  rw [hc] at HC1
  by_cases hkk : v.k = t.lo.k
  · have HB : Hid (B = (decide (c < 0))) := by show B = _; rw [← hB, ← hc]; unfold holdsB; simp only [hk, hkk, if_true, if_false, Int.reduceEq]
    have ek : (v.k != t.lo.k) = false := by simp [hkk]
    have e1 : (t.k == 1) = false := by simp [hk]
    have e2 : (t.k == 2) = true := by simp [hk]
    clear hB hc hkk hk
    go_enter Tryz.func79, Tryz.ntmps79
    go_wp2_with fail
    refine (rCompare_any v t.lo _ hv hl).mono ?_
    rintro e w1 ⟨rfl, hb1⟩
    rw [HC1.out]
    have hz1 := hb1.size
    try simp at hz1
    obtain ⟨q1_0, l1_0, r1_0⟩ := aft hb1 (w.heap.size)
    obtain ⟨q1_1, l1_1, r1_1⟩ := aft hb1 (w.heap.size + 1)
    go_wp2_with fail
    all_goals go_ret
    all_goals exact ⟨ret_bool (by first | (rw [HB.out]; done) | (rw [HB.out]; simp [*]; done) | (rw [HB.out]; simp; omega) | (rw [HB.out]; simp [*]; omega) | (rw [HB.out]; simp only [List.isEmpty_iff, List.isEmpty_eq_false_iff] at *; simp [*]; done) | (rw [HB.out]; simp only [List.isEmpty_iff, List.isEmpty_eq_false_iff] at *; simp [*]; omega) | (rw [HB.out, Bool.eq_iff_iff]; simp only [List.isEmpty_iff, List.isEmpty_eq_false_iff] at *; simp [*]; done) | (exfalso; omega)), bel⟩
  · have HB : Hid (B = false) := by show B = _; rw [← hB]; unfold holdsB; simp only [hk, hkk, if_false, Int.reduceEq]
    have ek : (v.k != t.lo.k) = true := by simp [hkk]
    have e1 : (t.k == 1) = false := by simp [hk]
    clear hB hc hkk
    go_enter Tryz.func79, Tryz.ntmps79
    go_wp2_with fail
    all_goals go_ret
    all_goals exact ⟨ret_bool (by first | (rw [HB.out]; done) | (rw [HB.out]; simp [*]; done) | (rw [HB.out]; simp; omega) | (rw [HB.out]; simp [*]; omega) | (rw [HB.out]; simp only [List.isEmpty_iff, List.isEmpty_eq_false_iff] at *; simp [*]; done) | (rw [HB.out]; simp only [List.isEmpty_iff, List.isEmpty_eq_false_iff] at *; simp [*]; omega) | (rw [HB.out, Bool.eq_iff_iff]; simp only [List.isEmpty_iff, List.isEmpty_eq_false_iff] at *; simp [*]; done) | (exfalso; omega)), bel⟩

set_option maxRecDepth 100000 in
set_option maxHeartbeats 1600000 in
theorem holds3 (t : Tst) (v : Vl) (w : World) (ht : t.wf) (hv : v.wf) (sl : sndB t.lo = true) (sh : sndB t.hi = true) (sv : sndB v = true) (hk : t.k = 3) :
    Calls Tryz.prog 79 #[.agg #[.int .i64 t.k, .int .i64 t.lo.k, .int .i64 t.lo.n, .int .i64 t.lo.s, .string t.lo.t, .int .i64 t.lo.i, .int .i64 t.hi.k, .int .i64 t.hi.n, .int .i64 t.hi.s, .string t.hi.t, .int .i64 t.hi.i, .bool t.ol, .bool t.oh], .agg #[.int .i64 v.k, .int .i64 v.n, .int .i64 v.s, .string v.t, .int .i64 v.i]] w fun e w' =>
      e = .returned (.bool (holdsB t v)) ∧ Below w.heap.size w w' := by
  obtain ⟨B, hB⟩ : ∃ B, holdsB t v = B := ⟨_, rfl⟩
  rw [hB]
  have hl := ht.lo
  have hh := ht.hi
  have HC1 := Lib.hid (cmpVRes_yes sv sl)
  have HC2 := Lib.hid (cmpVRes_yes sv sh)
  clear ht sl sh sv
  obtain ⟨c, hc⟩ : ∃ c, cmpV v t.lo = c := ⟨_, rfl⟩
  rw [hc] at HC1
  by_cases hkk : v.k = t.lo.k
  · have HB : Hid (B = (decide (c ≤ 0))) := by show B = _; rw [← hB, ← hc]; unfold holdsB; simp only [hk, hkk, if_true, if_false, Int.reduceEq]
    have ek : (v.k != t.lo.k) = false := by simp [hkk]
    have e1 : (t.k == 1) = false := by simp [hk]
    have e2 : (t.k == 2) = false := by simp [hk]
    have e3 : (t.k == 3) = true := by simp [hk]
    clear hB hc hkk hk
    go_enter Tryz.func79, Tryz.ntmps79
    go_wp2_with fail
    refine (rCompare_any v t.lo _ hv hl).mono ?_
    rintro e w1 ⟨rfl, hb1⟩
    rw [HC1.out]
    have hz1 := hb1.size
    try simp at hz1
    obtain ⟨q1_0, l1_0, r1_0⟩ := aft hb1 (w.heap.size)
    obtain ⟨q1_1, l1_1, r1_1⟩ := aft hb1 (w.heap.size + 1)
    go_wp2_with fail
    all_goals go_ret
    all_goals exact ⟨ret_bool (by first | (rw [HB.out]; done) | (rw [HB.out]; simp [*]; done) | (rw [HB.out]; simp; omega) | (rw [HB.out]; simp [*]; omega) | (rw [HB.out]; simp only [List.isEmpty_iff, List.isEmpty_eq_false_iff] at *; simp [*]; done) | (rw [HB.out]; simp only [List.isEmpty_iff, List.isEmpty_eq_false_iff] at *; simp [*]; omega) | (rw [HB.out, Bool.eq_iff_iff]; simp only [List.isEmpty_iff, List.isEmpty_eq_false_iff] at *; simp [*]; done) | (exfalso; omega)), bel⟩
  · have HB : Hid (B = false) := by show B = _; rw [← hB]; unfold holdsB; simp only [hk, hkk, if_false, Int.reduceEq]
    have ek : (v.k != t.lo.k) = true := by simp [hkk]
    have e1 : (t.k == 1) = false := by simp [hk]
    clear hB hc hkk
    go_enter Tryz.func79, Tryz.ntmps79
    go_wp2_with fail
    all_goals go_ret
    all_goals exact ⟨ret_bool (by first | (rw [HB.out]; done) | (rw [HB.out]; simp [*]; done) | (rw [HB.out]; simp; omega) | (rw [HB.out]; simp [*]; omega) | (rw [HB.out]; simp only [List.isEmpty_iff, List.isEmpty_eq_false_iff] at *; simp [*]; done) | (rw [HB.out]; simp only [List.isEmpty_iff, List.isEmpty_eq_false_iff] at *; simp [*]; omega) | (rw [HB.out, Bool.eq_iff_iff]; simp only [List.isEmpty_iff, List.isEmpty_eq_false_iff] at *; simp [*]; done) | (exfalso; omega)), bel⟩

set_option maxRecDepth 100000 in
set_option maxHeartbeats 1600000 in
theorem holds4 (t : Tst) (v : Vl) (w : World) (ht : t.wf) (hv : v.wf) (sl : sndB t.lo = true) (sh : sndB t.hi = true) (sv : sndB v = true) (hk : t.k = 4) :
    Calls Tryz.prog 79 #[.agg #[.int .i64 t.k, .int .i64 t.lo.k, .int .i64 t.lo.n, .int .i64 t.lo.s, .string t.lo.t, .int .i64 t.lo.i, .int .i64 t.hi.k, .int .i64 t.hi.n, .int .i64 t.hi.s, .string t.hi.t, .int .i64 t.hi.i, .bool t.ol, .bool t.oh], .agg #[.int .i64 v.k, .int .i64 v.n, .int .i64 v.s, .string v.t, .int .i64 v.i]] w fun e w' =>
      e = .returned (.bool (holdsB t v)) ∧ Below w.heap.size w w' := by
  obtain ⟨B, hB⟩ : ∃ B, holdsB t v = B := ⟨_, rfl⟩
  rw [hB]
  have hl := ht.lo
  have hh := ht.hi
  have HC1 := Lib.hid (cmpVRes_yes sv sl)
  have HC2 := Lib.hid (cmpVRes_yes sv sh)
  clear ht sl sh sv
  obtain ⟨c, hc⟩ : ∃ c, cmpV v t.lo = c := ⟨_, rfl⟩
  rw [hc] at HC1
  by_cases hkk : v.k = t.lo.k
  · have HB : Hid (B = (decide (0 < c))) := by show B = _; rw [← hB, ← hc]; unfold holdsB; simp only [hk, hkk, if_true, if_false, Int.reduceEq]
    have ek : (v.k != t.lo.k) = false := by simp [hkk]
    have e1 : (t.k == 1) = false := by simp [hk]
    have e2 : (t.k == 2) = false := by simp [hk]
    have e3 : (t.k == 3) = false := by simp [hk]
    have e4 : (t.k == 4) = true := by simp [hk]
    clear hB hc hkk hk
    go_enter Tryz.func79, Tryz.ntmps79
    go_wp2_with fail
    refine (rCompare_any v t.lo _ hv hl).mono ?_
    rintro e w1 ⟨rfl, hb1⟩
    rw [HC1.out]
    have hz1 := hb1.size
    try simp at hz1
    obtain ⟨q1_0, l1_0, r1_0⟩ := aft hb1 (w.heap.size)
    obtain ⟨q1_1, l1_1, r1_1⟩ := aft hb1 (w.heap.size + 1)
    go_wp2_with fail
    all_goals go_ret
    all_goals exact ⟨ret_bool (by first | (rw [HB.out]; done) | (rw [HB.out]; simp [*]; done) | (rw [HB.out]; simp; omega) | (rw [HB.out]; simp [*]; omega) | (rw [HB.out]; simp only [List.isEmpty_iff, List.isEmpty_eq_false_iff] at *; simp [*]; done) | (rw [HB.out]; simp only [List.isEmpty_iff, List.isEmpty_eq_false_iff] at *; simp [*]; omega) | (rw [HB.out, Bool.eq_iff_iff]; simp only [List.isEmpty_iff, List.isEmpty_eq_false_iff] at *; simp [*]; done) | (exfalso; omega)), bel⟩
  · have HB : Hid (B = false) := by show B = _; rw [← hB]; unfold holdsB; simp only [hk, hkk, if_false, Int.reduceEq]
    have ek : (v.k != t.lo.k) = true := by simp [hkk]
    have e1 : (t.k == 1) = false := by simp [hk]
    clear hB hc hkk
    go_enter Tryz.func79, Tryz.ntmps79
    go_wp2_with fail
    all_goals go_ret
    all_goals exact ⟨ret_bool (by first | (rw [HB.out]; done) | (rw [HB.out]; simp [*]; done) | (rw [HB.out]; simp; omega) | (rw [HB.out]; simp [*]; omega) | (rw [HB.out]; simp only [List.isEmpty_iff, List.isEmpty_eq_false_iff] at *; simp [*]; done) | (rw [HB.out]; simp only [List.isEmpty_iff, List.isEmpty_eq_false_iff] at *; simp [*]; omega) | (rw [HB.out, Bool.eq_iff_iff]; simp only [List.isEmpty_iff, List.isEmpty_eq_false_iff] at *; simp [*]; done) | (exfalso; omega)), bel⟩

set_option maxRecDepth 100000 in
set_option maxHeartbeats 1600000 in
theorem holds5 (t : Tst) (v : Vl) (w : World) (ht : t.wf) (hv : v.wf) (sl : sndB t.lo = true) (sh : sndB t.hi = true) (sv : sndB v = true) (hk : t.k = 5) :
    Calls Tryz.prog 79 #[.agg #[.int .i64 t.k, .int .i64 t.lo.k, .int .i64 t.lo.n, .int .i64 t.lo.s, .string t.lo.t, .int .i64 t.lo.i, .int .i64 t.hi.k, .int .i64 t.hi.n, .int .i64 t.hi.s, .string t.hi.t, .int .i64 t.hi.i, .bool t.ol, .bool t.oh], .agg #[.int .i64 v.k, .int .i64 v.n, .int .i64 v.s, .string v.t, .int .i64 v.i]] w fun e w' =>
      e = .returned (.bool (holdsB t v)) ∧ Below w.heap.size w w' := by
  obtain ⟨B, hB⟩ : ∃ B, holdsB t v = B := ⟨_, rfl⟩
  rw [hB]
  have hl := ht.lo
  have hh := ht.hi
  have HC1 := Lib.hid (cmpVRes_yes sv sl)
  have HC2 := Lib.hid (cmpVRes_yes sv sh)
  clear ht sl sh sv
  obtain ⟨c, hc⟩ : ∃ c, cmpV v t.lo = c := ⟨_, rfl⟩
  rw [hc] at HC1
  by_cases hkk : v.k = t.lo.k
  · have HB : Hid (B = (decide (0 ≤ c))) := by show B = _; rw [← hB, ← hc]; unfold holdsB; simp only [hk, hkk, if_true, if_false, Int.reduceEq]
    have ek : (v.k != t.lo.k) = false := by simp [hkk]
    have e1 : (t.k == 1) = false := by simp [hk]
    have e2 : (t.k == 2) = false := by simp [hk]
    have e3 : (t.k == 3) = false := by simp [hk]
    have e4 : (t.k == 4) = false := by simp [hk]
    have e5 : (t.k == 5) = true := by simp [hk]
    clear hB hc hkk hk
    go_enter Tryz.func79, Tryz.ntmps79
    go_wp2_with fail
    refine (rCompare_any v t.lo _ hv hl).mono ?_
    rintro e w1 ⟨rfl, hb1⟩
    rw [HC1.out]
    have hz1 := hb1.size
    try simp at hz1
    obtain ⟨q1_0, l1_0, r1_0⟩ := aft hb1 (w.heap.size)
    obtain ⟨q1_1, l1_1, r1_1⟩ := aft hb1 (w.heap.size + 1)
    go_wp2_with fail
    all_goals go_ret
    all_goals exact ⟨ret_bool (by first | (rw [HB.out]; done) | (rw [HB.out]; simp [*]; done) | (rw [HB.out]; simp; omega) | (rw [HB.out]; simp [*]; omega) | (rw [HB.out]; simp only [List.isEmpty_iff, List.isEmpty_eq_false_iff] at *; simp [*]; done) | (rw [HB.out]; simp only [List.isEmpty_iff, List.isEmpty_eq_false_iff] at *; simp [*]; omega) | (rw [HB.out, Bool.eq_iff_iff]; simp only [List.isEmpty_iff, List.isEmpty_eq_false_iff] at *; simp [*]; done) | (exfalso; omega)), bel⟩
  · have HB : Hid (B = false) := by show B = _; rw [← hB]; unfold holdsB; simp only [hk, hkk, if_false, Int.reduceEq]
    have ek : (v.k != t.lo.k) = true := by simp [hkk]
    have e1 : (t.k == 1) = false := by simp [hk]
    clear hB hc hkk
    go_enter Tryz.func79, Tryz.ntmps79
    go_wp2_with fail
    all_goals go_ret
    all_goals exact ⟨ret_bool (by first | (rw [HB.out]; done) | (rw [HB.out]; simp [*]; done) | (rw [HB.out]; simp; omega) | (rw [HB.out]; simp [*]; omega) | (rw [HB.out]; simp only [List.isEmpty_iff, List.isEmpty_eq_false_iff] at *; simp [*]; done) | (rw [HB.out]; simp only [List.isEmpty_iff, List.isEmpty_eq_false_iff] at *; simp [*]; omega) | (rw [HB.out, Bool.eq_iff_iff]; simp only [List.isEmpty_iff, List.isEmpty_eq_false_iff] at *; simp [*]; done) | (exfalso; omega)), bel⟩

set_option maxRecDepth 100000 in
set_option maxHeartbeats 1600000 in
theorem holds6 (t : Tst) (v : Vl) (w : World) (ht : t.wf) (hv : v.wf) (sl : sndB t.lo = true) (sh : sndB t.hi = true) (sv : sndB v = true) (h1 : ¬ t.k = 1) (h2 : ¬ t.k = 2) (h3 : ¬ t.k = 3) (h4 : ¬ t.k = 4) (h5 : ¬ t.k = 5) :
    Calls Tryz.prog 79 #[.agg #[.int .i64 t.k, .int .i64 t.lo.k, .int .i64 t.lo.n, .int .i64 t.lo.s, .string t.lo.t, .int .i64 t.lo.i, .int .i64 t.hi.k, .int .i64 t.hi.n, .int .i64 t.hi.s, .string t.hi.t, .int .i64 t.hi.i, .bool t.ol, .bool t.oh], .agg #[.int .i64 v.k, .int .i64 v.n, .int .i64 v.s, .string v.t, .int .i64 v.i]] w fun e w' =>
      e = .returned (.bool (holdsB t v)) ∧ Below w.heap.size w w' := by
  obtain ⟨B, hB⟩ : ∃ B, holdsB t v = B := ⟨_, rfl⟩
  rw [hB]
  have hl := ht.lo
  have hh := ht.hi
  have HC1 := Lib.hid (cmpVRes_yes sv sl)
  have HC2 := Lib.hid (cmpVRes_yes sv sh)
  clear ht sl sh sv
  obtain ⟨c, hc⟩ : ∃ c, cmpV v t.lo = c := ⟨_, rfl⟩
  rw [hc] at HC1
  by_cases hkk : v.k = t.lo.k
  · have HB : Hid (B = (if c < 0 ∨ (c = 0 ∧ t.ol = true) then false else decide (cmpV v t.hi < 0) || (decide (cmpV v t.hi = 0) && !t.oh))) := by show B = _; rw [← hB, ← hc]; unfold holdsB; simp only [h1, h2, h3, h4, h5, hkk, if_true, if_false, Int.reduceEq]
    have ek : (v.k != t.lo.k) = false := by simp [hkk]
    have e1 : (t.k == 1) = false := by simp [h1]
    have e2 : (t.k == 2) = false := by simp [h2]
    have e3 : (t.k == 3) = false := by simp [h3]
    have e4 : (t.k == 4) = false := by simp [h4]
    have e5 : (t.k == 5) = false := by simp [h5]
    clear hB hc hkk h1 h2 h3 h4 h5
    go_enter Tryz.func79, Tryz.ntmps79
    go_wp2_with fail
    refine (rCompare_any v t.lo _ hv hl).mono ?_
    rintro e w1 ⟨rfl, hb1⟩
    rw [HC1.out]
    have hz1 := hb1.size
    try simp at hz1
    obtain ⟨q1_0, l1_0, r1_0⟩ := aft hb1 (w.heap.size)
    obtain ⟨q1_1, l1_1, r1_1⟩ := aft hb1 (w.heap.size + 1)
    go_wp2_with fail
    all_goals try (go_ret; exact ⟨ret_bool (by first | (rw [HB.out]; done) | (rw [HB.out]; simp [*]; done) | (rw [HB.out]; simp; omega) | (rw [HB.out]; simp [*]; omega) | (rw [HB.out]; simp only [List.isEmpty_iff, List.isEmpty_eq_false_iff] at *; simp [*]; done) | (rw [HB.out]; simp only [List.isEmpty_iff, List.isEmpty_eq_false_iff] at *; simp [*]; omega) | (rw [HB.out, Bool.eq_iff_iff]; simp only [List.isEmpty_iff, List.isEmpty_eq_false_iff] at *; simp [*]; done) | (exfalso; omega)), bel⟩)
    all_goals
      have hno : ¬ (c < 0 ∨ (c = 0 ∧ t.ol = true)) := by
        rintro (h | ⟨h, h'⟩)
        · omega
        · simp_all
      obtain ⟨d, hd⟩ : ∃ d, cmpV v t.hi = d := ⟨_, rfl⟩
      rw [hd] at HC2
      have HD : Hid (B = (decide (d < 0) || (decide (d = 0) && !t.oh))) := by show B = _; rw [HB.out, if_neg hno, hd]
      clear hd hno HB
      refine (rCompare_any v t.hi _ hv hh).mono ?_
      rintro e w2 ⟨rfl, hb2⟩
      rw [HC2.out]
      have hz2 := hb2.size
      try simp at hz2
      obtain ⟨q2_0, l2_0, r2_0⟩ := aft hb2 (w.heap.size)
      obtain ⟨q2_1, l2_1, r2_1⟩ := aft hb2 (w.heap.size + 1)
      go_wp2_with fail
      all_goals go_ret
      all_goals exact ⟨ret_bool (by first | (rw [HD.out]; done) | (rw [HD.out]; simp [*]; done) | (rw [HD.out]; simp; omega) | (rw [HD.out]; simp [*]; omega) | (rw [HD.out]; simp only [List.isEmpty_iff, List.isEmpty_eq_false_iff] at *; simp [*]; done) | (rw [HD.out]; simp only [List.isEmpty_iff, List.isEmpty_eq_false_iff] at *; simp [*]; omega) | (rw [HD.out, Bool.eq_iff_iff]; simp only [List.isEmpty_iff, List.isEmpty_eq_false_iff] at *; simp [*]; done) | (exfalso; omega)), bel⟩
  · have HB : Hid (B = false) := by show B = _; rw [← hB]; unfold holdsB; simp only [h1, h2, h3, h4, h5, hkk, if_false, Int.reduceEq]
    have ek : (v.k != t.lo.k) = true := by simp [hkk]
    have e1 : (t.k == 1) = false := by simp [h1, h2, h3, h4, h5]
    clear hB hc hkk
    go_enter Tryz.func79, Tryz.ntmps79
    go_wp2_with fail
    all_goals go_ret
    all_goals exact ⟨ret_bool (by first | (rw [HB.out]; done) | (rw [HB.out]; simp [*]; done) | (rw [HB.out]; simp; omega) | (rw [HB.out]; simp [*]; omega) | (rw [HB.out]; simp only [List.isEmpty_iff, List.isEmpty_eq_false_iff] at *; simp [*]; done) | (rw [HB.out]; simp only [List.isEmpty_iff, List.isEmpty_eq_false_iff] at *; simp [*]; omega) | (rw [HB.out, Bool.eq_iff_iff]; simp only [List.isEmpty_iff, List.isEmpty_eq_false_iff] at *; simp [*]; done) | (exfalso; omega)), bel⟩

theorem holds_any (t : Tst) (v : Vl) (w : World) (ht : t.wf) (hv : v.wf) (sl : sndB t.lo = true) (sh : sndB t.hi = true) (sv : sndB v = true) :
    Calls Tryz.prog 79 #[.agg #[.int .i64 t.k, .int .i64 t.lo.k, .int .i64 t.lo.n, .int .i64 t.lo.s, .string t.lo.t, .int .i64 t.lo.i, .int .i64 t.hi.k, .int .i64 t.hi.n, .int .i64 t.hi.s, .string t.hi.t, .int .i64 t.hi.i, .bool t.ol, .bool t.oh], .agg #[.int .i64 v.k, .int .i64 v.n, .int .i64 v.s, .string v.t, .int .i64 v.i]] w fun e w' =>
      e = .returned (.bool (holdsB t v)) ∧ Below w.heap.size w w' := by
  by_cases h1 : t.k = 1
  · exact holds1 t v w ht hv sl sh sv h1
  by_cases h2 : t.k = 2
  · exact holds2 t v w ht hv sl sh sv h2
  by_cases h3 : t.k = 3
  · exact holds3 t v w ht hv sl sh sv h3
  by_cases h4 : t.k = 4
  · exact holds4 t v w ht hv sl sh sv h4
  by_cases h5 : t.k = 5
  · exact holds5 t v w ht hv sl sh sv h5
  exact holds6 t v w ht hv sl sh sv h1 h2 h3 h4 h5
end Go.Proofs.YtankkadnhdfpfaaGreatDoor

/- soffitref12.All, walked. -/
set_option linter.unusedSimpArgs false
set_option linter.unusedVariables false
namespace Go.Proofs.YtankkadnhdfpfaaGreatDoor
open Go.RowKit

def refAllB (c : Cel) (v : Vl) : Bool := if c.any = true then true else (c.ts.any (fun t => holdsB t v) != c.neg)
theorem uOneB_lo {t : Tst} (h : uOneB t = true) : sndB t.lo = true := by
  unfold uOneB at h; simp only [Bool.and_eq_true] at h; exact h.1.1
theorem uOneB_hi {t : Tst} (h : uOneB t = true) : sndB t.hi = true := by
  unfold uOneB at h; simp only [Bool.and_eq_true] at h; exact h.1.2
theorem uSndB_mem {c : Cel} (h : uSndB c = true) {t : Tst} (ht : t ∈ c.ts) : uOneB t = true := by
  unfold uSndB at h
  by_cases ha : c.any = true
  · rw [if_pos ha] at h
    simp at h
    rw [h.2] at ht; cases ht
  · rw [if_neg ha] at h
    simp only [Bool.and_eq_true, Bool.not_eq_true', List.any_eq_false] at h
    have := h.2 t ht
    simpa using this
theorem any_take_succ {α : Type} {p : α → Bool} {xs : List α} {j : Nat} (hj : j < xs.length) : (xs.take (j + 1)).any p = ((xs.take j).any p || p (xs[j]'hj)) := by
  rw [List.take_succ_eq_append_getElem hj, List.any_append]; simp

set_option maxRecDepth 100000 in
set_option maxHeartbeats 3200000 in
theorem rAll_any (c : Cel) (v : Vl) (A : Option Addr) (cap : Nat) (w : World) (hr : RdL w 13 A (c.ts.map Tst.cells)) (hw : ∀ t ∈ c.ts, t.wf) (hv : v.wf) (hn : c.ts.length ≤ 9223372036854775807) (su : uSndB c = true) (sv : sndB v = true) :
    Calls Tryz.prog 42 #[.agg #[.bool c.any, .bool c.neg, .slice A c.ts.length cap], .agg #[.int .i64 v.k, .int .i64 v.n, .int .i64 v.s, .string v.t, .int .i64 v.i]] w fun e w' =>
      e = .returned (.bool (refAllB c v)) ∧ Below w.heap.size w w' := by
  obtain ⟨C, hC⟩ : ∃ C, refAllB c v = C := ⟨_, rfl⟩
  rw [hC]
  cases ca : c.any
  · have HC : Hid (C = (c.ts.any (fun t => holdsB t v) != c.neg)) := by rw [← hC]; unfold refAllB; rw [ca]; exact rfl
    clear hC
    have SU := Lib.hid su
    have SV := Lib.hid sv
    clear su
    go_enter Tryz.func42, Tryz.ntmps42
    go_wp2_with fail
    generalize hEW0 : (w.alloc _).alloc _ = W0
    have hbW0 : Below w.heap.size w W0 := (by rw [← hEW0]; exact bel)
    have lW0_0 : w.heap.size < W0.heap.size := lsz hEW0
    have qW0_0 : ∀ o, W0.cell? ⟨w.heap.size, o, none⟩ = _ := fun o => congrArg (fun W : World => W.cell? ⟨w.heap.size, o, none⟩) hEW0.symm
    have rW0_0 : ∀ o, W0.frozen? ⟨w.heap.size, o, none⟩ = _ := fun o => congrArg (fun W : World => W.frozen? ⟨w.heap.size, o, none⟩) hEW0.symm
    have lW0_1 : w.heap.size + 1 < W0.heap.size := lsz hEW0
    have qW0_1 : ∀ o, W0.cell? ⟨w.heap.size + 1, o, none⟩ = _ := fun o => congrArg (fun W : World => W.cell? ⟨w.heap.size + 1, o, none⟩) hEW0.symm
    have rW0_1 : ∀ o, W0.frozen? ⟨w.heap.size + 1, o, none⟩ = _ := fun o => congrArg (fun W : World => W.frozen? ⟨w.heap.size + 1, o, none⟩) hEW0.symm
    clear hEW0
    have hr2 := hr.below hbW0
    clear hr
    go_loopg [5, 6] c.ts.length (fun k sv iv wr => ∃ j : Nat, j ≤ c.ts.length ∧ c.ts.length - j ≤ k ∧ sv = .bool ((c.ts.take j).any (fun t => holdsB t v)) ∧ iv = .int .i64 j ∧ Below W0.heap.size W0 wr)
    case atStart => exact ⟨0, by omega, by omega, rfl, rfl, Below.refl _ _⟩
    case round =>
      obtain ⟨j, hj, hjk, rfl, rfl, hbel⟩ := hrel
      have hsz := hbel.size
      have qr_0 := fun o => (hbel.cell (p := ⟨w.heap.size, o, none⟩) lW0_0).trans (qW0_0 o)
      have qr_1 := fun o => (hbel.cell (p := ⟨w.heap.size + 1, o, none⟩) lW0_1).trans (qW0_1 o)
      have lr_0 : w.heap.size < wr.heap.size := by omega
      have lr_1 : w.heap.size + 1 < wr.heap.size := by omega
      by_cases hlt : j < c.ts.length
      · obtain ⟨b, off, rfl, hx⟩ := (hr2.below hbel).at_ hlt
        have hmem : c.ts[j]'hlt ∈ c.ts := List.getElem_mem hlt
        have hsuc := any_take_succ (p := fun t => holdsB t v) hlt
        generalize hX : c.ts[j]'hlt = x at *
        have hxw := hw x hmem
        have hxl := uOneB_lo (uSndB_mem SU.out hmem)
        have hxh := uOneB_hi (uSndB_mem SU.out hmem)
        have g0 : wr.cell? ⟨b, off + j * 13, none⟩ = some (.int .i64 x.k) := hx.get 0 rfl
        have g1 : wr.cell? ⟨b, off + j * 13 + 1, none⟩ = some (.int .i64 x.lo.k) := hx.get 1 rfl
        have g2 : wr.cell? ⟨b, off + j * 13 + 2, none⟩ = some (.int .i64 x.lo.n) := hx.get 2 rfl
        have g3 : wr.cell? ⟨b, off + j * 13 + 3, none⟩ = some (.int .i64 x.lo.s) := hx.get 3 rfl
        have g4 : wr.cell? ⟨b, off + j * 13 + 4, none⟩ = some (.string x.lo.t) := hx.get 4 rfl
        have g5 : wr.cell? ⟨b, off + j * 13 + 5, none⟩ = some (.int .i64 x.lo.i) := hx.get 5 rfl
        have g6 : wr.cell? ⟨b, off + j * 13 + 6, none⟩ = some (.int .i64 x.hi.k) := hx.get 6 rfl
        have g7 : wr.cell? ⟨b, off + j * 13 + 7, none⟩ = some (.int .i64 x.hi.n) := hx.get 7 rfl
        have g8 : wr.cell? ⟨b, off + j * 13 + 8, none⟩ = some (.int .i64 x.hi.s) := hx.get 8 rfl
        have g9 : wr.cell? ⟨b, off + j * 13 + 9, none⟩ = some (.string x.hi.t) := hx.get 9 rfl
        have g10 : wr.cell? ⟨b, off + j * 13 + 10, none⟩ = some (.int .i64 x.hi.i) := hx.get 10 rfl
        have g11 : wr.cell? ⟨b, off + j * 13 + 11, none⟩ = some (.bool x.ol) := hx.get 11 rfl
        have g12 : wr.cell? ⟨b, off + j * 13 + 12, none⟩ = some (.bool x.oh) := hx.get 12 rfl
        have hbl : b < wr.heap.size := cell_lt g0
        clear hx hX hmem
        generalize hS : (c.ts.take j).any (fun t => holdsB t v) = S at *
        have HSUC := Lib.hid hsuc
        clear hsuc hS
        have i0 : (0 : Int) ≤ (j : Int) := by omega
        have i1 : (j : Int) < (c.ts.length : Int) := by omega
        cases S
        · go_wp2_with fail
          have kk0 : wr.cell? ⟨w.heap.size, 2, none⟩ = some (.slice (some ⟨b, off, none⟩) c.ts.length cap) := cel
          have kk1 : wr.cell? ⟨w.heap.size + 1, 0, none⟩ = some (.int .i64 v.k) := cel
          have kk2 : wr.cell? ⟨w.heap.size + 1, 1, none⟩ = some (.int .i64 v.n) := cel
          have kk3 : wr.cell? ⟨w.heap.size + 1, 2, none⟩ = some (.int .i64 v.s) := cel
          have kk4 : wr.cell? ⟨w.heap.size + 1, 3, none⟩ = some (.string v.t) := cel
          have kk5 : wr.cell? ⟨w.heap.size + 1, 4, none⟩ = some (.int .i64 v.i) := cel
          have kk6 : wr.cell? ⟨b, off + j * 13, none⟩ = some (.int .i64 x.k) := cel
          have kk7 : wr.cell? ⟨b, off + j * 13 + 1, none⟩ = some (.int .i64 x.lo.k) := cel
          have kk8 : wr.cell? ⟨b, off + j * 13 + 2, none⟩ = some (.int .i64 x.lo.n) := cel
          have kk9 : wr.cell? ⟨b, off + j * 13 + 3, none⟩ = some (.int .i64 x.lo.s) := cel
          have kk10 : wr.cell? ⟨b, off + j * 13 + 4, none⟩ = some (.string x.lo.t) := cel
          have kk11 : wr.cell? ⟨b, off + j * 13 + 5, none⟩ = some (.int .i64 x.lo.i) := cel
          have kk12 : wr.cell? ⟨b, off + j * 13 + 6, none⟩ = some (.int .i64 x.hi.k) := cel
          have kk13 : wr.cell? ⟨b, off + j * 13 + 7, none⟩ = some (.int .i64 x.hi.n) := cel
          have kk14 : wr.cell? ⟨b, off + j * 13 + 8, none⟩ = some (.int .i64 x.hi.s) := cel
          have kk15 : wr.cell? ⟨b, off + j * 13 + 9, none⟩ = some (.string x.hi.t) := cel
          have kk16 : wr.cell? ⟨b, off + j * 13 + 10, none⟩ = some (.int .i64 x.hi.i) := cel
          have kk17 : wr.cell? ⟨b, off + j * 13 + 11, none⟩ = some (.bool x.ol) := cel
          have kk18 : wr.cell? ⟨b, off + j * 13 + 12, none⟩ = some (.bool x.oh) := cel
          go_region_held3 (fun w' => Below wr.heap.size wr w' ∧ w'.cell? ⟨w.heap.size, 2, none⟩ = some (.slice (some ⟨b, off, none⟩) c.ts.length cap) ∧ w'.cell? ⟨w.heap.size + 1, 0, none⟩ = some (.int .i64 v.k) ∧ w'.cell? ⟨w.heap.size + 1, 1, none⟩ = some (.int .i64 v.n) ∧ w'.cell? ⟨w.heap.size + 1, 2, none⟩ = some (.int .i64 v.s) ∧ w'.cell? ⟨w.heap.size + 1, 3, none⟩ = some (.string v.t) ∧ w'.cell? ⟨w.heap.size + 1, 4, none⟩ = some (.int .i64 v.i) ∧ w'.cell? ⟨b, off + j * 13, none⟩ = some (.int .i64 x.k) ∧ w'.cell? ⟨b, off + j * 13 + 1, none⟩ = some (.int .i64 x.lo.k) ∧ w'.cell? ⟨b, off + j * 13 + 2, none⟩ = some (.int .i64 x.lo.n) ∧ w'.cell? ⟨b, off + j * 13 + 3, none⟩ = some (.int .i64 x.lo.s) ∧ w'.cell? ⟨b, off + j * 13 + 4, none⟩ = some (.string x.lo.t) ∧ w'.cell? ⟨b, off + j * 13 + 5, none⟩ = some (.int .i64 x.lo.i) ∧ w'.cell? ⟨b, off + j * 13 + 6, none⟩ = some (.int .i64 x.hi.k) ∧ w'.cell? ⟨b, off + j * 13 + 7, none⟩ = some (.int .i64 x.hi.n) ∧ w'.cell? ⟨b, off + j * 13 + 8, none⟩ = some (.int .i64 x.hi.s) ∧ w'.cell? ⟨b, off + j * 13 + 9, none⟩ = some (.string x.hi.t) ∧ w'.cell? ⟨b, off + j * 13 + 10, none⟩ = some (.int .i64 x.hi.i) ∧ w'.cell? ⟨b, off + j * 13 + 11, none⟩ = some (.bool x.ol) ∧ w'.cell? ⟨b, off + j * 13 + 12, none⟩ = some (.bool x.oh)) ((refine and_keep ?_ (fun hk => ⟨keep_cell hk lr_0 kk0, keep_cell hk lr_1 kk1, keep_cell hk lr_1 kk2, keep_cell hk lr_1 kk3, keep_cell hk lr_1 kk4, keep_cell hk lr_1 kk5, keep_cell hk hbl kk6, keep_cell hk hbl kk7, keep_cell hk hbl kk8, keep_cell hk hbl kk9, keep_cell hk hbl kk10, keep_cell hk hbl kk11, keep_cell hk hbl kk12, keep_cell hk hbl kk13, keep_cell hk hbl kk14, keep_cell hk hbl kk15, keep_cell hk hbl kk16, keep_cell hk hbl kk17, keep_cell hk hbl kk18⟩); exact bel))
            (first
              | (go_at_call 79; refine (holds_any x v _ hxw hv hxl hxh sv).mono ?_; rintro e w' ⟨rfl, hb'⟩))
          have hS : Below wr.heap.size wr _ ∧ _ := (by assumption)
          have hbz := hS.1
          clear hS
          obtain ⟨H, hH⟩ : ∃ H, holdsB x v = H := ⟨_, rfl⟩
          rw [hH] at HSUC ⊢
          go_wp2_with fail
          go_roundg (gk - 1)
          case measure => omega
          case rel => exact ⟨j + 1, by omega, by omega, by rw [HSUC.out]; rfl, by go_num, bel⟩
        · go_wp2_with fail
          go_quiet (fail)
          go_wp2_with fail
          go_roundg (gk - 1)
          case measure => omega
          case rel => exact ⟨j + 1, by omega, by omega, by rw [HSUC.out]; rfl, by go_num, bel⟩
      · have hje : j = c.ts.length := by omega
        subst hje
        have i1 : ¬ ((c.ts.length : Int) < (c.ts.length : Int)) := by omega
        rw [List.take_length]
        generalize hS : c.ts.any (fun t => holdsB t v) = S at *
        go_wp2_with fail
        go_ret
        cases S <;> cases hcn : c.neg <;> exact ⟨ret_bool (by rw [HC.out, hcn]; simp), bel⟩
  · have HC : Hid (C = true) := by rw [← hC]; unfold refAllB; rw [ca]; exact rfl
    clear hC
    go_enter Tryz.func42, Tryz.ntmps42
    go_wp2_with fail
    go_ret
    exact ⟨ret_bool HC.out.symm, bel⟩
end Go.Proofs.YtankkadnhdfpfaaGreatDoor

/- What a test answers, as plain Lean: the program's way and the reference's agree on what may be. -/
set_option linter.unusedSimpArgs false
set_option linter.unusedVariables false
namespace Go.Proofs.YtankkadnhdfpfaaGreatDoor
open Go.RowKit

def rk (v : Vl) : Int := if v.k = 1 then unitsI v.n v.s else v.i

theorem units_inj {n s n' s' : Int} (h : decSnd n s = true) (h' : decSnd n' s' = true) (hu : unitsI n s = unitsI n' s') : n = n' ∧ s = s' := by
  obtain ⟨a1, a2, a3, a4, a5⟩ := decSnd_of h
  obtain ⟨b1, b2, b3, b4, b5⟩ := decSnd_of h'
  have hs : s = 0 ∨ s = 1 ∨ s = 2 ∨ s = 3 ∨ s = 4 ∨ s = 5 ∨ s = 6 := by omega
  have hs' : s' = 0 ∨ s' = 1 ∨ s' = 2 ∨ s' = 3 ∨ s' = 4 ∨ s' = 5 ∨ s' = 6 := by omega
  unfold unitsI at hu
  rcases hs with rfl | rfl | rfl | rfl | rfl | rfl | rfl <;> rcases hs' with rfl | rfl | rfl | rfl | rfl | rfl | rfl <;>
    (simp only [show (0 : Int).toNat = 0 from rfl, show (1 : Int).toNat = 1 from rfl, show (2 : Int).toNat = 2 from rfl, show (3 : Int).toNat = 3 from rfl, show (4 : Int).toNat = 4 from rfl, show (5 : Int).toNat = 5 from rfl, show (6 : Int).toNat = 6 from rfl] at hu
     simp only [Nat.reduceSub, Int.reducePow] at hu
     omega)

theorem rank_cases {v : Vl} (h : rankB v = true) : v.k = 1 ∨ v.k = 4 := by simpa [rankB] using h
theorem sndOne {v : Vl} (h : sndB v = true) (hk : v.k = 1) : v.t.toList = [] ∧ v.i = 0 ∧ decSnd v.n v.s = true := by
  unfold sndB at h
  rw [if_neg (by omega), if_pos hk] at h
  simp only [Bool.and_eq_true, decide_eq_true_eq] at h
  exact ⟨h.1.1, h.1.2, h.2⟩
theorem sndFour {v : Vl} (h : sndB v = true) (hk : v.k = 4) : v.n = 0 ∧ v.s = 0 ∧ v.t.toList = [] := by
  unfold sndB at h
  rw [if_neg (by omega), if_neg (by omega), if_neg (by omega), if_neg (by omega), if_pos hk] at h
  simp only [decide_eq_true_eq] at h
  exact ⟨h.1, h.2.1, h.2.2.1⟩
theorem cmpT_nil {a b : ByteArray} (ha : a.toList = []) (hb : b.toList = []) : cmpT a b = 0 := by
  unfold cmpT; rw [ha, hb]; rfl
theorem cmpV_rk {a b : Vl} (sa : sndB a = true) (sb : sndB b = true) (hk : a.k = b.k) (hr : rankB b = true) : cmpV a b = cmpI (rk a) (rk b) := by
  unfold cmpV rk
  rw [if_pos hk]
  rcases rank_cases hr with h | h
  · rw [if_pos (by omega), if_pos (by omega), if_pos h]; rfl
  · rw [if_neg (by omega), if_neg (by omega), if_neg (by omega), cmpT_nil (sndFour sa (by omega)).2.2 (sndFour sb h).2.2]; rfl
theorem eqB_rk {a b : Vl} (sa : sndB a = true) (sb : sndB b = true) (hk : a.k = b.k) (hr : rankB b = true) : eqB a b = decide (rk a = rk b) := by
  rw [Bool.eq_iff_iff, eqB_iff, decide_eq_true_eq]
  constructor
  · rintro rfl; rfl
  · intro h
    unfold rk at h
    obtain ⟨k, n, s, t, i⟩ := a
    obtain ⟨k', n', s', t', i'⟩ := b
    simp only at hk h
    subst hk
    rcases rank_cases hr with h1 | h1
    · simp only at h1; subst h1
      obtain ⟨x1, x2, x3⟩ := sndOne sa rfl
      obtain ⟨y1, y2, y3⟩ := sndOne sb rfl
      rw [if_pos rfl, if_pos rfl] at h
      obtain ⟨rfl, rfl⟩ := units_inj x3 y3 h
      simp only at x1 x2 y1 y2
      rw [x2, y2, toList_inj (x1.trans y1.symm)]
    · simp only at h1; subst h1
      obtain ⟨x1, x2, x3⟩ := sndFour sa rfl
      obtain ⟨y1, y2, y3⟩ := sndFour sb rfl
      rw [if_neg (by decide), if_neg (by decide)] at h
      simp only at x1 x2 x3 y1 y2 y3
      rw [x1, x2, y1, y2, h, toList_inj (x3.trans y3.symm)]
theorem cmpI_lt (x y : Int) : (cmpI x y < 0) = (x < y) := by unfold cmpI; rw [eq_iff_iff]; split <;> (try split) <;> omega
theorem cmpI_le (x y : Int) : (cmpI x y ≤ 0) = (x ≤ y) := by unfold cmpI; rw [eq_iff_iff]; split <;> (try split) <;> omega
theorem cmpI_gt (x y : Int) : (0 < cmpI x y) = (y < x) := by unfold cmpI; rw [eq_iff_iff]; split <;> (try split) <;> omega
theorem cmpI_ge (x y : Int) : (0 ≤ cmpI x y) = (y ≤ x) := by unfold cmpI; rw [eq_iff_iff]; split <;> (try split) <;> omega
theorem cmpI_eq (x y : Int) : (cmpI x y = 0) = (x = y) := by unfold cmpI; rw [eq_iff_iff]; split <;> (try split) <;> omega
theorem isB_truth (b : Bool) : isB (truthV b) = b := by
  rw [Bool.eq_iff_iff]; unfold isB; rw [eqB_iff]; cases b <;> simp [truthV, b2i]
theorem isB_zero : isB Vl.zero = false := by
  rw [Bool.eq_false_iff]; unfold isB; intro h; exact absurd ((eqB_iff _ _).mp h) (by simp [truthV, Vl.zero])
theorem lessB_eq {a b : Vl} (sa : sndB a = true) (sb : sndB b = true) (hk : a.k = b.k) (hr : rankB b = true) : lessB a b = decide (rk a < rk b) := by
  have h := rank_cases hr
  unfold lessB lessV
  rw [if_pos ⟨by rw [sa, sb]; rfl, hk, by omega, by omega⟩, isB_truth, cmpV_rk sa sb hk hr]
  unfold cmpI
  by_cases h1 : rk a < rk b <;> by_cases h2 : rk b < rk a <;> simp [h1, h2]
theorem lessB_ne {a b : Vl} (hk : a.k ≠ b.k) : lessB a b = false := by
  unfold lessB lessV
  rw [if_neg (fun h => hk h.2.1), isB_zero]
theorem eqB_ne {a b : Vl} (hk : a.k ≠ b.k) : eqB a b = false := by
  rw [Bool.eq_false_iff]; intro h; exact hk (congrArg Vl.k ((eqB_iff a b).mp h))
theorem eqB_comm (a b : Vl) : eqB a b = eqB b a := by
  rw [Bool.eq_iff_iff, eqB_iff, eqB_iff]; exact eq_comm
theorem uOneB_six {t : Tst} (h : uOneB t = true) (hk : t.k = 6) : rankB t.lo = true ∧ t.hi.k = t.lo.k := by
  unfold uOneB at h; rw [if_pos hk] at h
  simp only [Bool.and_eq_true, beq_iff_eq] at h; exact h.2
theorem uOneB_rank {t : Tst} (h : uOneB t = true) (hk : t.k ≠ 1) : rankB t.lo = true := by
  unfold uOneB at h
  by_cases h6 : t.k = 6
  · exact (uOneB_six (by unfold uOneB; exact h) h6).1
  · rw [if_neg h6] at h
    simp only [Bool.and_eq_true, Bool.or_eq_true, beq_iff_eq] at h
    rcases h.2.1.1.1.2 with h | h
    · exact h
    · exact absurd h hk
theorem uOneB_kind {t : Tst} (h : uOneB t = true) : 1 ≤ t.k ∧ t.k ≤ 6 := by
  unfold uOneB at h
  by_cases h6 : t.k = 6
  · omega
  · rw [if_neg h6] at h
    simp only [Bool.and_eq_true, decide_eq_true_eq] at h
    have := h.2.1.1.1.1
    omega
theorem rankB_of {a b : Vl} (h : rankB b = true) (hk : a.k = b.k) : rankB a = true := by
  unfold rankB at *; rw [hk]; exact h

theorem holds_one {t : Tst} {v : Vl} (ht : uOneB t = true) (sv : sndB v = true) : holdsB t v = oneB t v := by
  have sl := uOneB_lo ht
  have sh := uOneB_hi ht
  unfold holdsB oneB
  by_cases h1 : t.k = 1
  · rw [if_pos h1, if_pos h1, eqB_comm]
  · rw [if_neg h1, if_neg h1]
    have hr := uOneB_rank ht h1
    by_cases hk : v.k = t.lo.k
    · have hrv := rankB_of hr hk
      rw [if_pos hk, cmpV_rk sv sl hk hr, lessB_eq sv sl hk hr, lessB_eq sl sv hk.symm hrv, eqB_rk sv sl hk hr]
      by_cases h6 : t.k = 6
      · have hk' : v.k = t.hi.k := by rw [(uOneB_six ht h6).2]; exact hk
        have hr' : rankB t.hi = true := rankB_of hr (uOneB_six ht h6).2
        rw [cmpV_rk sv sh hk' hr', lessB_eq sv sh hk' hr', eqB_rk sv sh hk' hr']
        have n2 : ¬ t.k = 2 := by omega
        have n3 : ¬ t.k = 3 := by omega
        have n4 : ¬ t.k = 4 := by omega
        have n5 : ¬ t.k = 5 := by omega
        simp only [if_neg n2, if_neg n3, if_neg n4, if_neg n5, cmpI_lt, cmpI_eq]
        generalize rk v = x; generalize rk t.lo = y; generalize rk t.hi = z
        generalize (decide (x < z) || decide (x = z) && !t.oh) = Q
        cases Q <;> cases t.ol <;> rw [Bool.eq_iff_iff] <;> simp <;> omega
      · have hkk := uOneB_kind ht
        have : t.k = 2 ∨ t.k = 3 ∨ t.k = 4 ∨ t.k = 5 := by omega
        generalize rk v = x at *; generalize rk t.lo = y at *
        rcases this with h | h | h | h <;> simp only [h, reduceIte, Int.reduceEq, cmpI_lt, cmpI_le, cmpI_gt, cmpI_ge] <;> rw [Bool.eq_iff_iff] <;> simp <;> omega
    · have hk2 : ¬ t.lo.k = v.k := fun h => hk h.symm
      rw [if_neg hk, lessB_ne hk, lessB_ne hk2, eqB_ne hk]
      have hkk := uOneB_kind ht
      have : t.k = 2 ∨ t.k = 3 ∨ t.k = 4 ∨ t.k = 5 ∨ t.k = 6 := by omega
      rcases this with h | h | h | h | h <;> simp [h]

theorem refAll_all {c : Cel} {v : Vl} (hc : uSndB c = true) (sv : sndB v = true) : refAllB c v = allB c v := by
  have h : c.ts.any (fun t => holdsB t v) = c.ts.any (fun t => oneB t v) := by
    rw [Bool.eq_iff_iff, List.any_eq_true, List.any_eq_true]
    constructor
    · rintro ⟨t, ht, h⟩; exact ⟨t, ht, by rw [← holds_one (uSndB_mem hc ht) sv]; exact h⟩
    · rintro ⟨t, ht, h⟩; exact ⟨t, ht, by rw [holds_one (uSndB_mem hc ht) sv]; exact h⟩
  unfold refAllB allB
  rw [h]
  by_cases ha : c.any = true
  · unfold uSndB at hc
    rw [if_pos ha] at hc ⊢
    simp only [Bool.and_eq_true, Bool.not_eq_true', decide_eq_true_eq] at hc
    have : c.ts = [] := List.length_eq_zero_iff.mp hc.2
    rw [this, ha, hc.1]; rfl
  · rw [if_neg ha]
    have : c.any = false := by simpa using ha
    rw [this]
    cases c.ts.any (fun t => oneB t v) <;> cases c.neg <;> rfl
end Go.Proofs.YtankkadnhdfpfaaGreatDoor
