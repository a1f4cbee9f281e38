import Derived.Test.YthicilfhnakhmaaGreatDoorPk07
import Derived.Test.YthicilfhnakhmaaGreatDoorPk02
import Derived.Test.YthicilfhnakhmaaGreatDoorPk05
/- Rows of digits: soffitref01.size, digits, long, less, Compare, walked. -/
set_option linter.unusedSimpArgs false
set_option linter.unusedVariables false
namespace Go.Proofs.YthicilfhnakhmaaGreatDoor
open Go.RowKit

/-- a row of so many numbers, as cells -/
def rowA (f : Nat → Int) (n : Nat) : Array Value := ((List.range n).map fun j => Value.int .i64 (f j)).toArray
theorem rowA_get (f : Nat → Int) (n j : Nat) (h : j < n) : (rowA f n)[j]? = some (.int .i64 (f j)) := by
  simp [rowA, h]
theorem rowA_congr {f g : Nat → Int} {n : Nat} (h : ∀ j, j < n → f j = g j) : rowA f n = rowA g n := by
  unfold rowA
  congr 1
  apply List.map_congr_left
  intro j hj
  rw [h j (List.mem_range.1 hj)]
theorem rowA_set (f : Nat → Int) (n i : Nat) (x : Int) : (rowA f n).setIfInBounds i (.int .i64 x) = rowA (fun j => if j = i then x else f j) n := by
  apply Array.ext_getElem?
  intro j
  rw [Array.getElem?_setIfInBounds]
  by_cases hj : j < n
  · by_cases e : i = j
    · subst e
      rw [if_pos rfl, rowA_get _ _ _ hj]
      simp [rowA, hj]
    · rw [if_neg e, rowA_get _ _ _ hj, rowA_get _ _ _ hj, if_neg (by omega)]
  · have h1 : (rowA f n)[j]? = none := Array.getElem?_eq_none (by simp [rowA]; omega)
    have h2 : (rowA (fun j => if j = i then x else f j) n)[j]? = none := Array.getElem?_eq_none (by simp [rowA]; omega)
    rw [h1, h2]
    by_cases e : i = j
    · subst e; rw [if_pos rfl, if_neg (by simp [rowA]; omega)]
    · rw [if_neg e]
/-- a row of numbers at the head of a block -/
def RowIs (w : World) (g : Nat) (f : Nat → Int) (n : Nat) : Prop := ∀ j, j < n → w.cell? ⟨g, j, none⟩ = some (.int .i64 (f j))
theorem RowIs.below {w w' : World} {g n : Nat} {f : Nat → Int} (h : RowIs w g f n) (hb : Below w.heap.size w w') : RowIs w' g f n := fun j hj => cell_below hb (h j hj)

set_option maxHeartbeats 400000 in
theorem refSize_any (n : Int) (w : World) (h1 : -9223372036854775807 ≤ n) (h2 : n ≤ 9223372036854775807) :
    Calls Tryz.prog 53 #[.int .i64 n] w fun e w' => e = .returned (.int .i64 n.natAbs) ∧ w = w' := by
  obtain ⟨m, hm⟩ : ∃ m, n.natAbs = m := ⟨_, rfl⟩
  rw [hm]
  by_cases h : n < 0
  · have hm2 : (m : Int) = -n := by omega
    have HM := Lib.hid hm2
    clear hm hm2
    go_enter Tryz.func53, Tryz.ntmps53
    go_wp2_with fail
    go_ret
    exact ⟨ret_int HM.out.symm, rfl⟩
  · have hm2 : (m : Int) = n := by omega
    have HM := Lib.hid hm2
    clear hm hm2
    have h0 : 0 ≤ n := by omega
    go_enter Tryz.func53, Tryz.ntmps53
    go_wp2_with fail
    go_ret
    exact ⟨ret_int HM.out.symm, rfl⟩

theorem dig_succ (n k : Nat) : n / 10 ^ (k + 1) = n / 10 ^ k / 10 := by rw [Nat.pow_succ, Nat.div_div_eq_div_mul]

set_option maxHeartbeats 800000 in
theorem digits_any (n : Nat) (w : World) (hn : n ≤ 9223372036854775807) :
    Calls Tryz.prog 65 #[.int .i64 n, .int .i64 12] w fun e w' =>
      e = .returned (.slice (some ⟨w.heap.size, 0, none⟩) 12 12) ∧ w' = w.alloc (.cells (rowA (fun j => (dig n j : Int)) 12) 3) := by
  have hmk : ∀ W, (Instr.makeSlice 59 (.int .i64 12) (.int .i64 12)).run Tryz.prog W = .ok (.slice (some ⟨W.heap.size, 0, none⟩) 12 12) (W.alloc (.cells (rowA (fun _ => 0) 12) 3)) := fun _ => by kernel_rfl
  go_enter Tryz.func65, Tryz.ntmps65
  go_wp2_with fail
  go_loopg [0, 6] 12 (fun k nv iv wr => ∃ j : Nat, j ≤ 12 ∧ 12 - j ≤ k ∧ nv = .int .i64 ((n / 10 ^ j : Nat) : Int) ∧ iv = .int .i64 j ∧ wr = w.alloc (.cells (rowA (fun i => if i < j then (dig n i : Int) else 0) 12) 3))
  case atStart => exact ⟨0, by omega, by omega, by simp, rfl, rfl⟩
  case round =>
    obtain ⟨j, hj, hjk, rfl, rfl, rfl⟩ := hrel
    have hle : n / 10 ^ j ≤ n := Nat.div_le_self _ _
    have hsucc := Lib.hid (dig_succ n j)
    have hdg : Hid (n / 10 ^ j % 10 = dig n j) := rfl
    generalize hm : n / 10 ^ j = m at *
    have HM := Lib.hid hm
    clear hm
    by_cases hlt : j < 12
    · have hcell := rowA_get (fun i => if i < j then (dig n i : Int) else 0) 12 j hlt
      have hset := fun x => rowA_set (fun i => if i < j then (dig n i : Int) else 0) 12 j x
      have HSET := Lib.hid hset
      clear hset
      generalize hr : rowA (fun i => if i < j then (dig n i : Int) else 0) 12 = R at *
      have HR := Lib.hid hr
      clear hr
      go_wp2_with fail
      go_roundg (gk - 1)
      case measure => omega
      case rel =>
        refine ⟨j + 1, by omega, by omega, ?_, by go_num, ?_⟩
        · rw [hsucc.out]; go_num
        · have e : ((m : Int) % 10) = ((dig n j : Nat) : Int) := by rw [← hdg.out]; omega
          rw [e, HSET.out]
          rw [rowA_congr (g := fun i => if i < j + 1 then ((dig n i : Nat) : Int) else 0)]
          intro i hi
          by_cases h1 : i = j
          · subst h1; simp
          · simp only [h1, if_false]
            by_cases h2 : i < j
            · rw [if_pos h2, if_pos (by omega)]
            · rw [if_neg h2, if_neg (by omega)]
    · go_wp2_with fail
      go_ret
      refine ⟨rfl, ?_⟩
      rw [rowA_congr (g := fun i => ((dig n i : Nat) : Int))]
      intro i hi
      show (if i < j then _ else _) = _
      rw [if_pos (by omega)]

theorem RowIs.set_ {w : World} {g n : Nat} {f : Nat → Int} (h : RowIs w g f n) (i : Nat) (hi : i < n) (x : Int) : RowIs (w.setCell ⟨g, i, none⟩ (.int .i64 x)) g (fun j => if j = i then x else f j) n := by
  intro j hj
  by_cases e : j = i
  · subst e
    rw [World.cell?_setCell_same _ _ _ (h j hj)]
    show _ = some (Value.int .i64 (if j = j then x else f j))
    rw [if_pos rfl]
  · rw [World.cell?_setCell_other _ _ _ _ (by intro hh; injection hh with _ h2; omega), h j hj]
    show _ = some (Value.int .i64 (if j = i then x else f j))
    rw [if_neg e]
theorem RowIs.far {w : World} {g g' n : Nat} {f : Nat → Int} (h : RowIs w g f n) (hg : g' ≠ g) (i : Nat) (v : Value) : RowIs (w.setCell ⟨g', i, none⟩ v) g f n := by
  intro j hj
  rw [World.cell?_setCell_other _ _ _ _ (by intro hh; injection hh with h1; omega), h j hj]
theorem RowIs.congr {w : World} {g n : Nat} {f f' : Nat → Int} (h : RowIs w g f n) (hf : ∀ j, j < n → f j = f' j) : RowIs w g f' n := fun j hj => by rw [h j hj, hf j hj]
theorem rowA_RowIs {w : World} {g n : Nat} {f : Nat → Int} {t : TypeId} {fr : Nat × Nat} (h : w.heap[g]? = some (.cells (rowA f n) t fr)) : RowIs w g f n := fun j hj => by
  rw [cell_of_block h, rowA_get _ _ _ hj]
theorem frozen_setCell (w : World) (a b : Addr) (v : Value) : (w.setCell a v).frozen? b = w.frozen? b := by
  simp only [World.setCell, World.frozen?, Array.getElem?_modify]
  by_cases hb : a.block = b.block
  · rw [if_pos hb]
    cases hh : w.heap[b.block]? with
    | none => rfl
    | some o => cases o <;> rfl
  · rw [if_neg hb]
def LongIs (n s : Int) (w : World) (e : Ending) (w' : World) : Prop :=
  ∃ g, e = .returned (.slice (some ⟨g, 0, none⟩) 60 60) ∧ RowIs w' g (fun j => (longF n.natAbs s.toNat j : Int)) 60 ∧ Below w.heap.size w w'
def longTo (m t j : Nat) (i : Nat) : Int := if 12 - t ≤ i ∧ i < 12 - t + j then (dig m (i - (12 - t)) : Int) else 0

set_option maxHeartbeats 1600000 in
theorem long_any (n s : Int) (w : World) (h1 : -999999999999 ≤ n) (h2 : n ≤ 999999999999) (h3 : 0 ≤ s) (h4 : s ≤ 6) :
    Calls Tryz.prog 44 #[.agg #[.int .i64 n, .int .i64 s]] w (LongIs n s w) := by
  obtain ⟨t, rfl⟩ : ∃ t : Nat, s = (t : Int) := ⟨s.toNat, by omega⟩
  have hmk : ∀ W, (Instr.makeSlice 59 (.int .i64 60) (.int .i64 60)).run Tryz.prog W = .ok (.slice (some ⟨W.heap.size, 0, none⟩) 60 60) (W.alloc (.cells (rowA (fun _ => 0) 60) 3)) := fun _ => by kernel_rfl
  obtain ⟨m, hm⟩ : ∃ m, n.natAbs = m := ⟨_, rfl⟩
  have HM := Lib.hid hm
  have hm2 : m ≤ 999999999999 := by omega
  clear hm
  go_enter Tryz.func44, Tryz.ntmps44
  go_wp2_with fail
  refine (refSize_any n _ (by omega) (by omega)).mono ?_
  rintro e w1 ⟨rfl, rfl⟩
  rw [HM.out]
  go_wp2_with fail
  refine (digits_any m _ (by omega)).mono ?_
  rintro e w1 ⟨rfl, rfl⟩
  go_wp2_with fail
  go_loopg [5] 12 (fun k iv wr => ∃ j : Nat, j ≤ 12 ∧ 12 - j ≤ k ∧ iv = .int .i64 j ∧ wr.cell? ⟨w.heap.size, 1, none⟩ = some (.int .i64 t) ∧ RowIs wr (w.heap.size + 1) (longTo m t j) 60 ∧ (∀ o, wr.frozen? ⟨w.heap.size + 1, o, none⟩ = false) ∧ RowIs wr (w.heap.size + 1 + 1) (fun j => (dig m j : Int)) 12 ∧ w.heap.size + 3 ≤ wr.heap.size ∧ Below w.heap.size w wr)
  case atStart =>
    refine ⟨0, by omega, by omega, rfl, by simp [go_sem], ?_, fun o => by simp [go_sem], ?_, by simp, bel⟩
    · intro i hi
      have e : longTo m t 0 i = 0 := by unfold longTo; rw [if_neg (by omega)]
      rw [e]
      simp only [go_sem, sz_alloc, World.cell?_alloc_past, World.cell?_alloc_at, Nat.lt_succ_self, Nat.lt_add_one]
      exact rowA_get _ _ _ hi
    · intro i hi
      simp only [go_sem, sz_alloc, World.cell?_alloc_at]
      exact rowA_get _ _ _ hi
  case round =>
    obtain ⟨j, hj, hjk, rfl, hsc, hrl, hfr, hrd, hsz, hbel⟩ := hrel
    by_cases hlt : j < 12
    · have hD := hrd j hlt
      have hR := hrl (j + 12 - t) (by omega)
      have hF := hfr (j + 12 - t)
      have HRL := Lib.hid hrl
      have HRD := Lib.hid hrd
      have HFR := Lib.hid hfr
      clear hrl hrd hfr
      have hi1 : IntKind.i64.wrap ((j : Int) + 12) = (j : Int) + 12 := IntWalk.i64_in _ (by omega)
      have hi2 : IntKind.i64.wrap ((j : Int) + 12 - (t : Int)) = (j : Int) + 12 - (t : Int) := IntWalk.i64_in _ (by omega)
      have hi3 : ((j : Int) + 12 - (t : Int)).toNat = j + 12 - t := by omega
      have hi4 : (0 : Int) ≤ (j : Int) + 12 - (t : Int) := by omega
      have hi5 : (j : Int) + 12 - (t : Int) < 60 := by omega
      have hi6 : (j : Int) < 12 := by omega
      go_wp2_with fail
      go_region
      clear hi1 hi2 hi3 hi4 hi5 hi6
      go_wp2_with fail
      go_roundg (gk - 1)
      case measure => omega
      case rel =>
        refine ⟨j + 1, by omega, by omega, by go_num, ?_, ?_, fun o => (frozen_setCell _ _ _ _).trans (HFR.out o), ?_, (by first | omega | (simp only [sz_alloc, sz_set, sz_drew, sz_drewN, sz_iterAt, sz_iter] at *; omega) | (simp; done) | (simp; omega) | (simp at *; omega)), bel⟩
        · show World.cell? (wr.setCell _ _) _ = _
          rw [World.cell?_setCell_other _ _ _ _ (by intro hh; injection hh with h1; omega)]
          exact hsc
        · have hx : RowIs wr.drew (w.heap.size + 1) (longTo m t j) 60 := HRL.out
          refine (hx.set_ (j + 12 - t) (by omega) _).congr fun i hi => ?_
          unfold longTo
          by_cases e : i = j + 12 - t
          · subst e
            rw [if_pos rfl, if_pos (by omega), show j + 12 - t - (12 - t) = j by omega]
          · rw [if_neg e]
            by_cases e2 : 12 - t ≤ i ∧ i < 12 - t + j
            · rw [if_pos e2, if_pos (by omega)]
            · rw [if_neg e2, if_neg (by omega)]
        · have hx : RowIs wr.drew (w.heap.size + 1 + 1) (fun j => (dig m j : Int)) 12 := HRD.out
          exact hx.far (by omega) _ _
    · obtain rfl : j = 12 := by omega
      go_wp2_with fail
      go_ret
      refine ⟨w.heap.size + 1, rfl, hrl.congr fun i hi => ?_, hbel⟩
      unfold longTo longF
      rw [Int.toNat_natCast, HM.out]
      by_cases e : 12 - t ≤ i ∧ i < 12 - t + 12
      · rw [if_pos e, if_pos (by omega)]
      · rw [if_neg e, if_neg (by omega)]; rfl

set_option maxHeartbeats 800000 in
theorem refLess_any (g h : Nat) (a b : Nat → Nat) (w : World) (ha : RowIs w g (fun j => (a j : Int)) 60) (hb : RowIs w h (fun j => (b j : Int)) 60) :
    Calls Tryz.prog 43 #[.slice (some ⟨g, 0, none⟩) 60 60, .slice (some ⟨h, 0, none⟩) 60 60] w fun e w' => e = .returned (.bool (lessD a b 60)) ∧ Below w.heap.size w w' := by
  obtain ⟨B, hB⟩ : ∃ B, lessD a b 60 = B := ⟨_, rfl⟩
  rw [hB]
  have HB := Lib.hid hB
  clear hB
  have HA := Lib.hid ha
  have HC := Lib.hid hb
  clear ha hb
  go_enter Tryz.func43, Tryz.ntmps43
  go_wp2_with fail
  go_loopg [5] 60 (fun k iv wr => k ≤ 60 ∧ Hid (lessD a b k = B) ∧ iv = .int .i64 ((k : Int) - 1) ∧ ∃ q, wr = w.drewN q)
  case atStart => exact ⟨by omega, HB, rfl, 0, rfl⟩
  case round =>
    obtain ⟨hk, hl, rfl, q, rfl⟩ := hrel
    rcases gk with _ | k
    · go_wp2_with fail
      go_ret
      exact ⟨ret_bool hl.out, bel⟩
    · have hl2 : Hid ((if a k = b k then lessD a b k else decide (a k < b k)) = B) := hl
      have ca : w.cell? ⟨g, k, none⟩ = some (.int .i64 (a k : Int)) := HA.out k (by omega)
      have cb : w.cell? ⟨h, k, none⟩ = some (.int .i64 (b k : Int)) := HC.out k (by omega)
      generalize hx : a k = x at *
      generalize hy : b k = y at *
      clear hx hy hl
      have e0 : ((k + 1 : Nat) : Int) - 1 = (k : Int) := by omega
      rw [e0]
      have e1 : (0 : Int) ≤ (k : Int) := by omega
      have e2 : (k : Int) < 60 := by omega
      by_cases he : x = y
      · have hb1 : ((x : Int) != (y : Int)) = false := by simp [he]
        have HL : Hid (lessD a b k = B) := by show lessD a b k = B; rw [← hl2.out, if_pos he]
        clear he hl2
        go_wp2_with fail
        go_region
        go_wp2_with fail
        go_roundg k
        case measure => omega
        case rel => exact ⟨by omega, HL, by go_num, q + 1, rfl⟩
      · have hb1 : ((x : Int) != (y : Int)) = true := by simp; omega
        have HL : Hid (decide (x < y) = B) := by show _ = B; rw [← hl2.out, if_neg he]
        clear he hl2
        go_wp2_with fail
        go_region
        go_wp2_with fail
        go_region
        go_wp2_with fail
        go_ret
        exact ⟨ret_bool (by first | (rw [← HL.out]; done) | (rw [← HL.out]; simp; done)), bel⟩

theorem RowIs.lt {w : World} {g : Nat} {f : Nat → Int} (h : RowIs w g f 60) : g < w.heap.size := cell_lt (h 0 (by omega))

set_option maxHeartbeats 3200000 in
theorem refCmp_yes (n s n' s' : Int) (w : World) (h : decSnd n s = true) (h' : decSnd n' s' = true) :
    Calls Tryz.prog 21 #[.agg #[.int .i64 n, .int .i64 s], .agg #[.int .i64 n', .int .i64 s']] w fun e w' => e = .returned (.tuple #[.int .i64 (refCmp n s n' s'), .int .i64 0]) ∧ Below w.heap.size w w' := by
  obtain ⟨C, hC⟩ : ∃ C, refCmp n s n' s' = C := ⟨_, rfl⟩
  rw [hC]
  obtain ⟨a1, a2, a3, a4, -⟩ := decSnd_of h
  obtain ⟨b1, b2, b3, b4, -⟩ := decSnd_of h'
  have H1 := Lib.hid h
  have H2 := Lib.hid h'
  clear h h'
  have HC : Hid (C = if n < 0 ∧ 0 ≤ n' then -1 else if 0 ≤ n ∧ n' < 0 then 1 else
    if lessD (longF n.natAbs s.toNat) (longF n'.natAbs s'.toNat) 60 = true then (if n < 0 then 1 else -1)
    else if lessD (longF n'.natAbs s'.toNat) (longF n.natAbs s.toNat) 60 = true then (if n < 0 then -1 else 1) else 0) := hC.symm
  clear hC
  generalize hL : lessD (longF n.natAbs s.toNat) (longF n'.natAbs s'.toNat) 60 = L at *
  generalize hM : lessD (longF n'.natAbs s'.toNat) (longF n.natAbs s.toNat) 60 = M at *
  have HL := Lib.hid hL
  have HM := Lib.hid hM
  clear hL hM
  cases t1 : decide (n < 0) <;> cases t2 : decide (n' < 0)
  all_goals
    have s1 := t1
    have s2 := t2
    simp only [decide_eq_true_eq, decide_eq_false_iff_not] at s1 s2
    have t3 : decide (0 ≤ n) = !decide (n < 0) := by rw [← decide_not, decide_eq_decide]; omega
    have t4 : decide (0 ≤ n') = !decide (n' < 0) := by rw [← decide_not, decide_eq_decide]; omega
    rw [t1] at t3
    rw [t2] at t4
    simp only [Bool.not_false, Bool.not_true] at t3 t4
    go_enter Tryz.func21, Tryz.ntmps21
    go_wp2_with fail
    refine (ref01Sound_any n s _).mono ?_
    rintro e w1 ⟨rfl, hb1⟩
    rw [H1.out]
    have hz1 := hb1.size
    try simp at hz1
    obtain ⟨q1_0, l1_0, r1_0⟩ := aft hb1 (w.heap.size)
    obtain ⟨q1_1, l1_1, r1_1⟩ := aft hb1 (w.heap.size + 1)
    go_wp2_with fail
    refine (ref01Sound_any n' s' _).mono ?_
    rintro e w2 ⟨rfl, hb2⟩
    rw [H2.out]
    have hz2 := hb2.size
    try simp at hz2
    obtain ⟨q2_0, l2_0, r2_0⟩ := aft hb2 (w.heap.size)
    obtain ⟨q2_1, l2_1, r2_1⟩ := aft hb2 (w.heap.size + 1)
    go_wp2_with fail
    try (go_ret2; exact ⟨by rw [HC.out]; simp [*]; done, bel⟩)
  · have HD : Hid (C = if L = true then -1 else if M = true then 1 else 0) := by show C = _; rw [HC.out, if_neg (by omega), if_neg (by omega)]; simp only [show ¬ n < 0 by omega, if_false]
    clear HC
    have kk0 : w2.cell? ⟨w.heap.size, 0, none⟩ = some (.int .i64 n) := cel
    have kk1 : w2.cell? ⟨w.heap.size, 1, none⟩ = some (.int .i64 s) := cel
    have kk2 : w2.cell? ⟨w.heap.size + 1, 0, none⟩ = some (.int .i64 n') := cel
    have kk3 : w2.cell? ⟨w.heap.size + 1, 1, none⟩ = some (.int .i64 s') := cel
    go_region_held3 (fun w' => Below w2.heap.size w2 w' ∧ w'.cell? ⟨w.heap.size, 0, none⟩ = some (.int .i64 n) ∧ w'.cell? ⟨w.heap.size, 1, none⟩ = some (.int .i64 s) ∧ w'.cell? ⟨w.heap.size + 1, 0, none⟩ = some (.int .i64 n') ∧ w'.cell? ⟨w.heap.size + 1, 1, none⟩ = some (.int .i64 s')) ((refine and_keep ?_ (fun hk => ⟨keep_cell hk l2_0 kk0, keep_cell hk l2_0 kk1, keep_cell hk l2_1 kk2, keep_cell hk l2_1 kk3⟩); exact bel))
      (first
        | (go_at_call 44; refine (long_any _ _ _ (by omega) (by omega) (by omega) (by omega)).mono ?_; rintro e w' hL; obtain ⟨gg, rfl, hrow, hb'⟩ := hL)
        | (go_at_call 43; refine (refLess_any _ _ (longF n.natAbs s.toNat) (longF n'.natAbs s'.toNat) _ (by first | assumption | exact RowIs.below (by assumption) (by assumption)) (by first | assumption | exact RowIs.below (by assumption) (by assumption))).mono ?_; rintro e w' ⟨rfl, hb'⟩))
    rw [HL.out]
    have hS : Below w2.heap.size w2 _ ∧ _ := (by assumption)
    have hbwz := hS.1
    clear hS
    have hzz := hbwz.size
    have qz_0 := fun o => (hbwz.cell (p := ⟨w.heap.size, o, none⟩) l2_0).trans (q2_0 o)
    have rz_0 := fun o => (hbwz.frozen (p := ⟨w.heap.size, o, none⟩) l2_0).trans (r2_0 o)
    have lz_0 := Nat.lt_of_lt_of_le l2_0 hzz
    have qz_1 := fun o => (hbwz.cell (p := ⟨w.heap.size + 1, o, none⟩) l2_1).trans (q2_1 o)
    have rz_1 := fun o => (hbwz.frozen (p := ⟨w.heap.size + 1, o, none⟩) l2_1).trans (r2_1 o)
    have lz_1 := Nat.lt_of_lt_of_le l2_1 hzz
    cases L
    · go_wp2_with fail
      have kk0 : w2.cell? ⟨w.heap.size, 0, none⟩ = some (.int .i64 n) := cel
      have kk1 : w2.cell? ⟨w.heap.size, 1, none⟩ = some (.int .i64 s) := cel
      have kk2 : w2.cell? ⟨w.heap.size + 1, 0, none⟩ = some (.int .i64 n') := cel
      have kk3 : w2.cell? ⟨w.heap.size + 1, 1, none⟩ = some (.int .i64 s') := cel
      go_region_held3 (fun w' => Below w2.heap.size w2 w' ∧ w'.cell? ⟨w.heap.size, 0, none⟩ = some (.int .i64 n) ∧ w'.cell? ⟨w.heap.size, 1, none⟩ = some (.int .i64 s) ∧ w'.cell? ⟨w.heap.size + 1, 0, none⟩ = some (.int .i64 n') ∧ w'.cell? ⟨w.heap.size + 1, 1, none⟩ = some (.int .i64 s')) ((refine and_keep ?_ (fun hk => ⟨keep_cell hk l2_0 kk0, keep_cell hk l2_0 kk1, keep_cell hk l2_1 kk2, keep_cell hk l2_1 kk3⟩); exact bel))
        (first
          | (go_at_call 44; refine (long_any _ _ _ (by omega) (by omega) (by omega) (by omega)).mono ?_; rintro e w' hL; obtain ⟨gg, rfl, hrow, hb'⟩ := hL)
          | (go_at_call 43; refine (refLess_any _ _ (longF n'.natAbs s'.toNat) (longF n.natAbs s.toNat) _ (by first | assumption | exact RowIs.below (by assumption) (by assumption)) (by first | assumption | exact RowIs.below (by assumption) (by assumption))).mono ?_; rintro e w' ⟨rfl, hb'⟩))
      rw [HM.out]
      cases M
      · have HX : Hid (C = 0) := HD.out
        go_wp2_with fail
        go_ret2
        exact ⟨by rw [HX.out]; rfl, bel⟩
      · have HX : Hid (C = 1) := HD.out
        go_wp2_with fail
        go_ret2
        exact ⟨by rw [HX.out]; rfl, bel⟩
    · have HX : Hid (C = -1) := HD.out
      go_wp2_with fail
      go_ret2
      exact ⟨by rw [HX.out]; rfl, bel⟩
  · have HD : Hid (C = if L = true then 1 else if M = true then -1 else 0) := by show C = _; rw [HC.out, if_neg (by omega), if_neg (by omega)]; simp only [show n < 0 by omega, if_true]
    clear HC
    have kk0 : w2.cell? ⟨w.heap.size, 0, none⟩ = some (.int .i64 n) := cel
    have kk1 : w2.cell? ⟨w.heap.size, 1, none⟩ = some (.int .i64 s) := cel
    have kk2 : w2.cell? ⟨w.heap.size + 1, 0, none⟩ = some (.int .i64 n') := cel
    have kk3 : w2.cell? ⟨w.heap.size + 1, 1, none⟩ = some (.int .i64 s') := cel
    go_region_held3 (fun w' => Below w2.heap.size w2 w' ∧ w'.cell? ⟨w.heap.size, 0, none⟩ = some (.int .i64 n) ∧ w'.cell? ⟨w.heap.size, 1, none⟩ = some (.int .i64 s) ∧ w'.cell? ⟨w.heap.size + 1, 0, none⟩ = some (.int .i64 n') ∧ w'.cell? ⟨w.heap.size + 1, 1, none⟩ = some (.int .i64 s')) ((refine and_keep ?_ (fun hk => ⟨keep_cell hk l2_0 kk0, keep_cell hk l2_0 kk1, keep_cell hk l2_1 kk2, keep_cell hk l2_1 kk3⟩); exact bel))
      (first
        | (go_at_call 44; refine (long_any _ _ _ (by omega) (by omega) (by omega) (by omega)).mono ?_; rintro e w' hL; obtain ⟨gg, rfl, hrow, hb'⟩ := hL)
        | (go_at_call 43; refine (refLess_any _ _ (longF n.natAbs s.toNat) (longF n'.natAbs s'.toNat) _ (by first | assumption | exact RowIs.below (by assumption) (by assumption)) (by first | assumption | exact RowIs.below (by assumption) (by assumption))).mono ?_; rintro e w' ⟨rfl, hb'⟩))
    rw [HL.out]
    have hS : Below w2.heap.size w2 _ ∧ _ := (by assumption)
    have hbwz := hS.1
    clear hS
    have hzz := hbwz.size
    have qz_0 := fun o => (hbwz.cell (p := ⟨w.heap.size, o, none⟩) l2_0).trans (q2_0 o)
    have rz_0 := fun o => (hbwz.frozen (p := ⟨w.heap.size, o, none⟩) l2_0).trans (r2_0 o)
    have lz_0 := Nat.lt_of_lt_of_le l2_0 hzz
    have qz_1 := fun o => (hbwz.cell (p := ⟨w.heap.size + 1, o, none⟩) l2_1).trans (q2_1 o)
    have rz_1 := fun o => (hbwz.frozen (p := ⟨w.heap.size + 1, o, none⟩) l2_1).trans (r2_1 o)
    have lz_1 := Nat.lt_of_lt_of_le l2_1 hzz
    cases L
    · go_wp2_with fail
      have kk0 : w2.cell? ⟨w.heap.size, 0, none⟩ = some (.int .i64 n) := cel
      have kk1 : w2.cell? ⟨w.heap.size, 1, none⟩ = some (.int .i64 s) := cel
      have kk2 : w2.cell? ⟨w.heap.size + 1, 0, none⟩ = some (.int .i64 n') := cel
      have kk3 : w2.cell? ⟨w.heap.size + 1, 1, none⟩ = some (.int .i64 s') := cel
      go_region_held3 (fun w' => Below w2.heap.size w2 w' ∧ w'.cell? ⟨w.heap.size, 0, none⟩ = some (.int .i64 n) ∧ w'.cell? ⟨w.heap.size, 1, none⟩ = some (.int .i64 s) ∧ w'.cell? ⟨w.heap.size + 1, 0, none⟩ = some (.int .i64 n') ∧ w'.cell? ⟨w.heap.size + 1, 1, none⟩ = some (.int .i64 s')) ((refine and_keep ?_ (fun hk => ⟨keep_cell hk l2_0 kk0, keep_cell hk l2_0 kk1, keep_cell hk l2_1 kk2, keep_cell hk l2_1 kk3⟩); exact bel))
        (first
          | (go_at_call 44; refine (long_any _ _ _ (by omega) (by omega) (by omega) (by omega)).mono ?_; rintro e w' hL; obtain ⟨gg, rfl, hrow, hb'⟩ := hL)
          | (go_at_call 43; refine (refLess_any _ _ (longF n'.natAbs s'.toNat) (longF n.natAbs s.toNat) _ (by first | assumption | exact RowIs.below (by assumption) (by assumption)) (by first | assumption | exact RowIs.below (by assumption) (by assumption))).mono ?_; rintro e w' ⟨rfl, hb'⟩))
      rw [HM.out]
      cases M
      · have HX : Hid (C = 0) := HD.out
        go_wp2_with fail
        go_ret2
        exact ⟨by rw [HX.out]; rfl, bel⟩
      · have HX : Hid (C = -1) := HD.out
        go_wp2_with fail
        go_ret2
        exact ⟨by rw [HX.out]; rfl, bel⟩
    · have HX : Hid (C = 1) := HD.out
      go_wp2_with fail
      go_ret2
      exact ⟨by rw [HX.out]; rfl, bel⟩

set_option maxHeartbeats 800000 in
theorem ref01Cmp_any (n s n' s' : Int) (w : World) :
    Calls Tryz.prog 21 #[.agg #[.int .i64 n, .int .i64 s], .agg #[.int .i64 n', .int .i64 s']] w fun e w' => e = .returned (cmpRes n s n' s') ∧ Below w.heap.size w w' := by
  cases h : decSnd n s
  · have HC := Lib.hid (cmpRes_no (n := n) (s := s) (n' := n') (s' := s') (by rw [h]; rfl))
    go_enter Tryz.func21, Tryz.ntmps21
    go_wp2_with fail
    refine (ref01Sound_any n s _).mono ?_
    rintro e w1 ⟨rfl, hb1⟩
    rw [h]
    clear h
    go_wp2_with fail
    go_ret2
    exact ⟨by rw [HC.out]; rfl, bel⟩
  · cases h' : decSnd n' s'
    · have HC := Lib.hid (cmpRes_no (n := n) (s := s) (n' := n') (s' := s') (by rw [h, h']; rfl))
      go_enter Tryz.func21, Tryz.ntmps21
      go_wp2_with fail
      refine (ref01Sound_any n s _).mono ?_
      rintro e w1 ⟨rfl, hb1⟩
      rw [h]
      clear h
      have hz1 := hb1.size
      try simp at hz1
      obtain ⟨q1_0, l1_0, r1_0⟩ := aft hb1 (w.heap.size)
      obtain ⟨q1_1, l1_1, r1_1⟩ := aft hb1 (w.heap.size + 1)
      go_wp2_with fail
      refine (ref01Sound_any n' s' _).mono ?_
      rintro e w2 ⟨rfl, hb2⟩
      rw [h']
      clear h'
      go_wp2_with fail
      go_ret2
      exact ⟨by rw [HC.out]; rfl, bel⟩
    · refine (refCmp_yes n s n' s' w h h').mono fun e w' ⟨he, hb⟩ => ⟨?_, hb⟩
      rw [he, cmpRes_yes h h', refCmp_eq h h']
end Go.Proofs.YthicilfhnakhmaaGreatDoor

/- soffitref01.Text, Number, walked. -/
set_option linter.unusedSimpArgs false
set_option linter.unusedVariables false
namespace Go.Proofs.YthicilfhnakhmaaGreatDoor
open Go.RowKit Go.Sort Go.Lib

theorem lowD_cons : ∀ (k N : Nat), lowD N (k + 1) = UInt8.ofNat (48 + N / 10 ^ k % 10) :: lowD N k
  | 0, N => by simp [lowD]
  | k + 1, N => by
    rw [lowD, lowD_cons k (N / 10), lowD, Nat.div_div_eq_div_mul, ← Nat.pow_succ']
    rfl
/-- a text of one byte out of a row of one -/
theorem conv1 (d : Nat) (hd : d < 10) (w : World) (t : TypeId) : (convert 87 9 (.slice (some ⟨w.heap.size, 0, none⟩) 1 1)).run Tryz.prog (w.alloc (.cells #[.int .u8 (48 + (d : Int))] t)) = .ok (.string ⟨#[UInt8.ofNat (48 + d)]⟩) (w.alloc (.cells #[.int .u8 (48 + (d : Int))] t)) := by
  have h := run_convert_bytes_back (P := Tryz.prog) (w.alloc (.cells #[.int .u8 (48 + (d : Int))] t)) 87 9 5 ⟨w.heap.size, 0, none⟩ 1 [UInt8.ofNat (48 + d)] (by kernel_rfl) (by kernel_rfl) (by kernel_rfl) (fun j hj => by
    have hj0 : j = 0 := by simpa using hj
    subst hj0
    rw [add_plain, World.cell?_alloc_new]
    simp
    omega)
  exact h
/-- what stands behind the whole part -/
def fracL (N s : Nat) : List UInt8 := if 0 < s then 46 :: lowD N s else []
theorem absL_frac (N s : Nat) : absL N s = decDigits (N / 10 ^ s) ++ fracL N s := by
  unfold absL fracL
  split
  · rfl
  · rw [show s = 0 by omega, Nat.pow_zero, Nat.div_one, List.append_nil]
/-- the digits that are still to be written -/
def restD (m : Nat) : List UInt8 := if m < 10 then [] else decDigits (m / 10)
theorem restD_step (m : Nat) (h : 10 ≤ m) : restD m = restD (m / 10) ++ [UInt8.ofNat (48 + m / 10 % 10)] := by
  unfold restD
  rw [if_neg (by omega)]
  by_cases h2 : m / 10 < 10
  · rw [if_pos h2, decDigits_one h2, Nat.mod_eq_of_lt h2]; rfl
  · rw [if_neg h2, decDigits_big h2]
theorem restD_first (m : Nat) : decDigits m = restD m ++ [UInt8.ofNat (48 + m % 10)] := by
  unfold restD
  by_cases h : m < 10
  · rw [if_pos h, decDigits_one h, Nat.mod_eq_of_lt h]; rfl
  · rw [if_neg h, decDigits_big h]

set_option maxRecDepth 100000 in
set_option maxHeartbeats 3200000 in
theorem refText_any (n s : Int) (w : World) (hn : I64 n) (hs : I64 s) :
    Calls Tryz.prog 26 #[.agg #[.int .i64 n, .int .i64 s]] w fun e w' => e = .returned (decTxtRes n s) ∧ Below w.heap.size w w' := by
  cases hd : decSnd n s
  · have HF : Hid (decTxtRes n s = .tuple #[.string ⟨#[]⟩, .int .i64 2]) := Lib.hid (by unfold decTxtRes; rw [hd]; rfl)
    go_enter Tryz.func26, Tryz.ntmps26
    go_wp2_with fail
    refine (ref01Sound_any n s _).mono ?_
    rintro e w1 ⟨rfl, hb1⟩
    rw [hd]
    clear hd
    go_wp2_with fail
    go_ret2
    exact ⟨by rw [HF.out]; rfl, bel⟩
  · obtain ⟨a1, a2, a3, a4, -⟩ := decSnd_of hd
    obtain ⟨t, rfl⟩ : ∃ t : Nat, s = (t : Int) := ⟨s.toNat, by omega⟩
    obtain ⟨N, hN⟩ : ∃ N, n.natAbs = N := ⟨_, rfl⟩
    have hN12 : N ≤ 999999999999 := by omega
    have HF : Hid (decTxtRes n t = .tuple #[.string ⟨(decL n t).toArray⟩, .int .i64 0]) := Lib.hid (by unfold decTxtRes; rw [hd]; rfl)
    have HL : Hid (decL n t = if n < 0 then 45 :: absL N t else absL N t) := Lib.hid (by rw [decL_eq, hN, Int.toNat_natCast])
    have HN := Lib.hid hN
    clear hN
    go_enter Tryz.func26, Tryz.ntmps26
    go_wp2_with fail
    refine (ref01Sound_any n t _).mono ?_
    rintro e w1 ⟨rfl, hb1⟩
    rw [hd]
    clear hd
    have hz1 := hb1.size
    try simp at hz1
    obtain ⟨q1_0, l1_0, r1_0⟩ := aft hb1 (w.heap.size)
    go_wp2_with fail
    refine (refSize_any n _ (by omega) (by omega)).mono ?_
    rintro e w2 ⟨rfl, rfl⟩
    rw [HN.out]
    go_wp2_with fail
    have hw1 : Below w.heap.size w w1 := bel
    go_loopg [4, 5, 6] 6 (fun k nv sv iv wr => ∃ (j : Nat) (S : ByteArray), j ≤ t ∧ t - j ≤ k ∧ nv = .int .i64 ((N / 10 ^ j : Nat) : Int) ∧ sv = .string S ∧ Hid (S = ⟨(lowD N j).toArray⟩) ∧ iv = .int .i64 j ∧ Below w1.heap.size w1 wr)
    case atStart => exact ⟨0, ⟨#[]⟩, by omega, by omega, by simp, rfl, Lib.hid rfl, rfl, Below.refl _ _⟩
    case round =>
      obtain ⟨j, S, hj, hjk, rfl, rfl, HS, rfl, hbel⟩ := hrel
      have hsz := hbel.size
      have qa_0 := fun o => (hbel.cell (p := ⟨w.heap.size, o, none⟩) l1_0).trans (q1_0 o)
      have hle : N / 10 ^ j ≤ N := Nat.div_le_self _ _
      have HSU := Lib.hid (dig_succ N j)
      have HLC := Lib.hid (lowD_cons j N)
      have hSs : S.size = j := by rw [HS.out, ba_size, lowD_length]
      have hj6 : j ≤ 6 := by omega
      obtain ⟨m, hm⟩ : ∃ m, N / 10 ^ j = m := ⟨_, rfl⟩
      rw [hm] at hle HSU HLC ⊢
      have HM := Lib.hid hm
      clear hm
      by_cases hlt : j < t
      · skip
        obtain ⟨d, hdm⟩ : ∃ d, m % 10 = d := ⟨_, rfl⟩
        have hd10 : d < 10 := by omega
        obtain ⟨x, hx⟩ : ∃ x, UInt8.ofNat (48 + d) = x := ⟨_, rfl⟩
        rw [hdm, hx] at HLC
        have hr1 : (m : Int) % 10 = (d : Int) := by omega
        have hr2 : (m : Int).tmod 10 = (d : Int) := by rw [Int.tmod_eq_emod_of_nonneg (by omega)]; omega
        have hr3 : IntKind.i64.wrap (48 + (d : Int)) = 48 + (d : Int) := IntWalk.i64_in _ (by omega)
        have hr4 : IntKind.u8.wrap (48 + (d : Int)) = 48 + (d : Int) := by rw [IntKind.wrap_u8]; omega
        have hcv : ∀ W : World, (convert 87 9 (.slice (some ⟨W.heap.size, 0, none⟩) 1 1)).run Tryz.prog (W.alloc (.cells #[.int .u8 (48 + (d : Int))] 5)) = .ok (.string ⟨#[x]⟩) (W.alloc (.cells #[.int .u8 (48 + (d : Int))] 5)) := fun W => by rw [conv1 d hd10 W 5, hx]
        clear hdm hx
        have hS1 : ¬ 9223372036854775807 < 1 + S.size := by omega
        clear hSs
        go_wp2_with fail
        go_roundg (gk - 1)
        case measure => omega
        case rel =>
          refine ⟨j + 1, ⟨#[x]⟩ ++ S, by omega, by omega, ?_, rfl, Lib.hid ?_, by go_num, bel⟩
          · rw [HSU.out]; go_num
          · rw [HLC.out, HS.out, show (⟨#[x]⟩ : ByteArray) = ⟨[x].toArray⟩ from rfl, ba_append]; rfl
      · obtain rfl : j = t := by omega
        have ra_0 := fun o => (hbel.frozen (p := ⟨w.heap.size, o, none⟩) l1_0).trans (r1_0 o)
        have la_0 : w.heap.size < wr.heap.size := by omega
        have hbw : Below w.heap.size w wr := bel
        have HDF : Hid (absL N j = restD m ++ (UInt8.ofNat (48 + m % 10) :: fracL N j)) := Lib.hid (by rw [absL_frac, HM.out, restD_first, List.append_assoc]; rfl)
        obtain ⟨d, hdm⟩ : ∃ d, m % 10 = d := ⟨_, rfl⟩
        have hd10 : d < 10 := by omega
        obtain ⟨x, hx⟩ : ∃ x, UInt8.ofNat (48 + d) = x := ⟨_, rfl⟩
        rw [hdm, hx] at HDF
        have hr1 : (m : Int) % 10 = (d : Int) := by omega
        have hr2 : (m : Int).tmod 10 = (d : Int) := by rw [Int.tmod_eq_emod_of_nonneg (by omega)]; omega
        have hr3 : IntKind.i64.wrap (48 + (d : Int)) = 48 + (d : Int) := IntWalk.i64_in _ (by omega)
        have hr4 : IntKind.u8.wrap (48 + (d : Int)) = 48 + (d : Int) := by rw [IntKind.wrap_u8]; omega
        have hcv : ∀ W : World, (convert 87 9 (.slice (some ⟨W.heap.size, 0, none⟩) 1 1)).run Tryz.prog (W.alloc (.cells #[.int .u8 (48 + (d : Int))] 5)) = .ok (.string ⟨#[x]⟩) (W.alloc (.cells #[.int .u8 (48 + (d : Int))] 5)) := fun W => by rw [conv1 d hd10 W 5, hx]
        clear hdm hx
        clear HSU HLC HM hjk hj hbel
        by_cases ht : 0 < j
        · have HFR : Hid ((⟨#[46]⟩ : ByteArray) ++ S = ⟨(fracL N j).toArray⟩) := Lib.hid (by
            unfold fracL
            rw [if_pos ht, HS.out, show (⟨#[46]⟩ : ByteArray) = ⟨[46].toArray⟩ from rfl, ba_append]; rfl)
          have hS1 : ¬ 9223372036854775807 < 1 + S.size := by omega
          have hS2 : ¬ 9223372036854775807 < 1 + (1 + S.size) := by omega
          go_wp2_with fail
          rw [HFR.out]
          generalize hT0 : (⟨#[x]⟩ : ByteArray) ++ ⟨(fracL N j).toArray⟩ = T0
          have HT0 : Hid (absL N j = restD m ++ T0.data.toList) := Lib.hid (by rw [HDF.out, ← hT0, show (⟨#[x]⟩ : ByteArray) = ⟨[x].toArray⟩ from rfl, ba_append]; rfl)
          have hfl : (fracL N j).length ≤ 7 := by
            unfold fracL
            split <;> first | (rw [List.length_cons, lowD_length]; omega) | exact Nat.zero_le _
          have hT0s : T0.size ≤ 8 := by
            rw [← hT0, show (⟨#[x]⟩ : ByteArray) = ⟨[x].toArray⟩ from rfl, ba_append, ba_size, List.length_append, List.length_singleton]
            omega
          clear hfl
          clear hT0 HFR HDF hSs hcv hr1 hr2 hr3 hr4
          go_loopg [4, 5] 20 (fun k nv sv wq => ∃ (m : Nat) (S : ByteArray), m < 10 ^ k ∧ m ≤ 999999999999 ∧ nv = .int .i64 (m : Int) ∧ sv = .string S ∧ Hid (absL N j = restD m ++ S.data.toList) ∧ S.size + k ≤ 40 ∧ Below w.heap.size w wq ∧ Below wr.heap.size wr wq)
          case atStart => exact ⟨m, T0, by omega, by omega, rfl, rfl, HT0, by omega, by repeat' (first | exact hbw | refine Below.alloc ?_ ?_ _ | exact Nat.le_refl _ | (have := hbw.size; omega)), by repeat' (first | exact Below.refl _ _ | refine Below.alloc ?_ ?_ _ | exact Nat.le_refl _)⟩
          case round =>
            obtain ⟨m, S, hmk, hm12, rfl, rfl, HS, hSk, hbel, hbel2⟩ := hrel
            have qb_0 := fun o => (hbel2.cell (p := ⟨w.heap.size, o, none⟩) la_0).trans (qa_0 o)
            have hsz2 := hbel.size
            by_cases h10 : 10 ≤ m
            · have HST := Lib.hid (restD_step m h10)
              obtain ⟨q, hq⟩ : ∃ q, m / 10 = q := ⟨_, rfl⟩
              rw [hq] at HST
              obtain ⟨d, hdm⟩ : ∃ d, q % 10 = d := ⟨_, rfl⟩
              have hd10 : d < 10 := by omega
              obtain ⟨x, hx⟩ : ∃ x, UInt8.ofNat (48 + d) = x := ⟨_, rfl⟩
              rw [hdm, hx] at HST
              have hr1 : (q : Int) % 10 = (d : Int) := by omega
              have hr2 : (q : Int).tmod 10 = (d : Int) := by rw [Int.tmod_eq_emod_of_nonneg (by omega)]; omega
              have hr3 : IntKind.i64.wrap (48 + (d : Int)) = 48 + (d : Int) := IntWalk.i64_in _ (by omega)
              have hr4 : IntKind.u8.wrap (48 + (d : Int)) = 48 + (d : Int) := by rw [IntKind.wrap_u8]; omega
              have hcv : ∀ W : World, (convert 87 9 (.slice (some ⟨W.heap.size, 0, none⟩) 1 1)).run Tryz.prog (W.alloc (.cells #[.int .u8 (48 + (d : Int))] 5)) = .ok (.string ⟨#[x]⟩) (W.alloc (.cells #[.int .u8 (48 + (d : Int))] 5)) := fun W => by rw [conv1 d hd10 W 5, hx]
              clear hdm hx
              have hS1 : ¬ 9223372036854775807 < 1 + S.size := by omega
              have hq1 : (m : Int) / 10 = (q : Int) := by omega
              have hq2 : (m : Int).tdiv 10 = (q : Int) := by rw [Int.tdiv_eq_ediv_of_nonneg (by omega)]; omega
              have h10' : (10 : Int) ≤ (m : Int) := by omega
              have hqk : q < 10 ^ (gk - 1) := by
                rcases gk with _ | g
                · omega
                · rw [Nat.pow_succ] at hmk; simp; omega
              have hgk : 0 < gk := by
                rcases gk with _ | g
                · omega
                · omega
              have hq12 : q ≤ 999999999999 := by omega
              have HQ := Lib.hid hq
              clear hq hmk
              go_wp2_with fail
              go_roundg (gk - 1)
              case measure => omega
              case rel =>
                refine ⟨q, ⟨#[x]⟩ ++ S, hqk, hq12, by first | rfl | go_num, rfl, Lib.hid ?_, ?_, bel, by repeat' (first | exact hbel2 | refine Below.alloc ?_ ?_ _ | exact Nat.le_refl _ | (have := hbel2.size; omega))⟩
                · rw [HS.out, HST.out, show (⟨#[x]⟩ : ByteArray) = ⟨[x].toArray⟩ from rfl, show S = ⟨S.data.toList.toArray⟩ from rfl, ba_append]; simp
                · rw [ByteArray.size_append, show (⟨#[x]⟩ : ByteArray).size = 1 from rfl]; omega
            · have h10' : ¬ (10 : Int) ≤ (m : Int) := by omega
              have HE : Hid (S = ⟨(absL N j).toArray⟩) := Lib.hid (by rw [HS.out]; unfold restD; rw [if_pos (by omega)]; rfl)
              have hS1 : ¬ 9223372036854775807 < 1 + S.size := by omega
              by_cases hm : n < 0
              · go_wp2_with fail
                go_ret2
                refine ⟨?_, hbel⟩
                rw [HF.out, HL.out, if_pos (by omega), HE.out, show (⟨#[45]⟩ : ByteArray) = ⟨[45].toArray⟩ from rfl, ba_append]
                rfl
              · go_wp2_with fail
                go_ret2
                refine ⟨?_, hbel⟩
                rw [HF.out, HL.out, if_neg (by omega), HE.out]
                rfl
        · have HFR : Hid (S = ⟨(fracL N j).toArray⟩) := Lib.hid (by
            unfold fracL
            rw [if_neg ht, HS.out, show j = 0 by omega]; rfl)
          have hS1 : ¬ 9223372036854775807 < 1 + S.size := by omega
          go_wp2_with fail
          rw [HFR.out]
          generalize hT0 : (⟨#[x]⟩ : ByteArray) ++ ⟨(fracL N j).toArray⟩ = T0
          have HT0 : Hid (absL N j = restD m ++ T0.data.toList) := Lib.hid (by rw [HDF.out, ← hT0, show (⟨#[x]⟩ : ByteArray) = ⟨[x].toArray⟩ from rfl, ba_append]; rfl)
          have hfl : (fracL N j).length ≤ 7 := by
            unfold fracL
            split <;> first | (rw [List.length_cons, lowD_length]; omega) | exact Nat.zero_le _
          have hT0s : T0.size ≤ 8 := by
            rw [← hT0, show (⟨#[x]⟩ : ByteArray) = ⟨[x].toArray⟩ from rfl, ba_append, ba_size, List.length_append, List.length_singleton]
            omega
          clear hfl
          clear hT0 HFR HDF hSs hcv hr1 hr2 hr3 hr4
          go_loopg [4, 5] 20 (fun k nv sv wq => ∃ (m : Nat) (S : ByteArray), m < 10 ^ k ∧ m ≤ 999999999999 ∧ nv = .int .i64 (m : Int) ∧ sv = .string S ∧ Hid (absL N j = restD m ++ S.data.toList) ∧ S.size + k ≤ 40 ∧ Below w.heap.size w wq ∧ Below wr.heap.size wr wq)
          case atStart => exact ⟨m, T0, by omega, by omega, rfl, rfl, HT0, by omega, by repeat' (first | exact hbw | refine Below.alloc ?_ ?_ _ | exact Nat.le_refl _ | (have := hbw.size; omega)), by repeat' (first | exact Below.refl _ _ | refine Below.alloc ?_ ?_ _ | exact Nat.le_refl _)⟩
          case round =>
            obtain ⟨m, S, hmk, hm12, rfl, rfl, HS, hSk, hbel, hbel2⟩ := hrel
            have qb_0 := fun o => (hbel2.cell (p := ⟨w.heap.size, o, none⟩) la_0).trans (qa_0 o)
            have hsz2 := hbel.size
            by_cases h10 : 10 ≤ m
            · have HST := Lib.hid (restD_step m h10)
              obtain ⟨q, hq⟩ : ∃ q, m / 10 = q := ⟨_, rfl⟩
              rw [hq] at HST
              obtain ⟨d, hdm⟩ : ∃ d, q % 10 = d := ⟨_, rfl⟩
              have hd10 : d < 10 := by omega
              obtain ⟨x, hx⟩ : ∃ x, UInt8.ofNat (48 + d) = x := ⟨_, rfl⟩
              rw [hdm, hx] at HST
              have hr1 : (q : Int) % 10 = (d : Int) := by omega
              have hr2 : (q : Int).tmod 10 = (d : Int) := by rw [Int.tmod_eq_emod_of_nonneg (by omega)]; omega
              have hr3 : IntKind.i64.wrap (48 + (d : Int)) = 48 + (d : Int) := IntWalk.i64_in _ (by omega)
              have hr4 : IntKind.u8.wrap (48 + (d : Int)) = 48 + (d : Int) := by rw [IntKind.wrap_u8]; omega
              have hcv : ∀ W : World, (convert 87 9 (.slice (some ⟨W.heap.size, 0, none⟩) 1 1)).run Tryz.prog (W.alloc (.cells #[.int .u8 (48 + (d : Int))] 5)) = .ok (.string ⟨#[x]⟩) (W.alloc (.cells #[.int .u8 (48 + (d : Int))] 5)) := fun W => by rw [conv1 d hd10 W 5, hx]
              clear hdm hx
              have hS1 : ¬ 9223372036854775807 < 1 + S.size := by omega
              have hq1 : (m : Int) / 10 = (q : Int) := by omega
              have hq2 : (m : Int).tdiv 10 = (q : Int) := by rw [Int.tdiv_eq_ediv_of_nonneg (by omega)]; omega
              have h10' : (10 : Int) ≤ (m : Int) := by omega
              have hqk : q < 10 ^ (gk - 1) := by
                rcases gk with _ | g
                · omega
                · rw [Nat.pow_succ] at hmk; simp; omega
              have hgk : 0 < gk := by
                rcases gk with _ | g
                · omega
                · omega
              have hq12 : q ≤ 999999999999 := by omega
              have HQ := Lib.hid hq
              clear hq hmk
              go_wp2_with fail
              go_roundg (gk - 1)
              case measure => omega
              case rel =>
                refine ⟨q, ⟨#[x]⟩ ++ S, hqk, hq12, by first | rfl | go_num, rfl, Lib.hid ?_, ?_, bel, by repeat' (first | exact hbel2 | refine Below.alloc ?_ ?_ _ | exact Nat.le_refl _ | (have := hbel2.size; omega))⟩
                · rw [HS.out, HST.out, show (⟨#[x]⟩ : ByteArray) = ⟨[x].toArray⟩ from rfl, show S = ⟨S.data.toList.toArray⟩ from rfl, ba_append]; simp
                · rw [ByteArray.size_append, show (⟨#[x]⟩ : ByteArray).size = 1 from rfl]; omega
            · have h10' : ¬ (10 : Int) ≤ (m : Int) := by omega
              have HE : Hid (S = ⟨(absL N j).toArray⟩) := Lib.hid (by rw [HS.out]; unfold restD; rw [if_pos (by omega)]; rfl)
              have hS1 : ¬ 9223372036854775807 < 1 + S.size := by omega
              by_cases hm : n < 0
              · go_wp2_with fail
                go_ret2
                refine ⟨?_, hbel⟩
                rw [HF.out, HL.out, if_pos (by omega), HE.out, show (⟨#[45]⟩ : ByteArray) = ⟨[45].toArray⟩ from rfl, ba_append]
                rfl
              · go_wp2_with fail
                go_ret2
                refine ⟨?_, hbel⟩
                rw [HF.out, HL.out, if_neg (by omega), HE.out]
                rfl
end Go.Proofs.YthicilfhnakhmaaGreatDoor
