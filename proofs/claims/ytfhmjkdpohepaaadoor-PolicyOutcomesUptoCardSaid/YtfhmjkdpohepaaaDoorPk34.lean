import Derived.Test.YtfhmjkdpohepaaaDoorPsRef01
import Derived.Test.YtfhmjkdpohepaaaDoorPk07
import Derived.Test.YtfhmjkdpohepaaaDoorPk01
/- Rows of digits: soffitref01.size, digits, long, less, Compare, walked. -/
set_option linter.unusedSimpArgs false
set_option linter.unusedVariables false
namespace Go.Proofs.YtfhmjkdpohepaaaDoor
open Go.RowKit

/-- a row of so many numbers, as cells -/
def rowA (f : Nat → Int) (n : Nat) : Array Value := ((List.range n).map fun j => Value.int .i64 (f j)).toArray
theorem rowA_get (f : Nat → Int) (n j : Nat) (h : j < n) : (rowA f n)[j]? = some (.int .i64 (f j)) := by
  simp [rowA, h]
theorem rowA_congr {f g : Nat → Int} {n : Nat} (h : ∀ j, j < n → f j = g j) : rowA f n = rowA g n := by
  unfold rowA
  congr 1
  apply List.map_congr_left
  intro j hj
  rw [h j (List.mem_range.1 hj)]
theorem rowA_set (f : Nat → Int) (n i : Nat) (x : Int) : (rowA f n).setIfInBounds i (.int .i64 x) = rowA (fun j => if j = i then x else f j) n := by
  apply Array.ext_getElem?
  intro j
  rw [Array.getElem?_setIfInBounds]
  by_cases hj : j < n
  · by_cases e : i = j
    · subst e
      rw [if_pos rfl, rowA_get _ _ _ hj]
      simp [rowA, hj]
    · rw [if_neg e, rowA_get _ _ _ hj, rowA_get _ _ _ hj, if_neg (by omega)]
  · have h1 : (rowA f n)[j]? = none := Array.getElem?_eq_none (by simp [rowA]; omega)
    have h2 : (rowA (fun j => if j = i then x else f j) n)[j]? = none := Array.getElem?_eq_none (by simp [rowA]; omega)
    rw [h1, h2]
    by_cases e : i = j
    · subst e; rw [if_pos rfl, if_neg (by simp [rowA]; omega)]
    · rw [if_neg e]
/-- a row of numbers at the head of a block -/
def RowIs (w : World) (g : Nat) (f : Nat → Int) (n : Nat) : Prop := ∀ j, j < n → w.cell? ⟨g, j, none⟩ = some (.int .i64 (f j))
theorem RowIs.below {w w' : World} {g n : Nat} {f : Nat → Int} (h : RowIs w g f n) (hb : Below w.heap.size w w') : RowIs w' g f n := fun j hj => cell_below hb (h j hj)

set_option maxHeartbeats 400000 in
theorem refSize_any (n : Int) (w : World) (h1 : -9223372036854775807 ≤ n) (h2 : n ≤ 9223372036854775807) :
    Calls Tryd.prog 62 #[.int .i64 n] w fun e w' => e = .returned (.int .i64 n.natAbs) ∧ w = w' := by
  obtain ⟨m, hm⟩ : ∃ m, n.natAbs = m := ⟨_, rfl⟩
  rw [hm]
  by_cases h : n < 0
  · have hm2 : (m : Int) = -n := by omega
    have HM := Lib.hid hm2
    clear hm hm2
    go_enter Tryd.func62, Tryd.ntmps62
    go_wp2_with fail
    go_ret
    exact ⟨ret_int HM.out.symm, rfl⟩
  · have hm2 : (m : Int) = n := by omega
    have HM := Lib.hid hm2
    clear hm hm2
    have h0 : 0 ≤ n := by omega
    go_enter Tryd.func62, Tryd.ntmps62
    go_wp2_with fail
    go_ret
    exact ⟨ret_int HM.out.symm, rfl⟩

theorem dig_succ (n k : Nat) : n / 10 ^ (k + 1) = n / 10 ^ k / 10 := by rw [Nat.pow_succ, Nat.div_div_eq_div_mul]

set_option maxHeartbeats 800000 in
theorem digits_any (n : Nat) (w : World) (hn : n ≤ 9223372036854775807) :
    Calls Tryd.prog 61 #[.int .i64 n, .int .i64 12] w fun e w' =>
      e = .returned (.slice (some ⟨w.heap.size, 0, none⟩) 12 12) ∧ w' = w.alloc (.cells (rowA (fun j => (dig n j : Int)) 12) 3) := by
  have hmk : ∀ W, (Instr.makeSlice 27 (.int .i64 12) (.int .i64 12)).run Tryd.prog W = .ok (.slice (some ⟨W.heap.size, 0, none⟩) 12 12) (W.alloc (.cells (rowA (fun _ => 0) 12) 3)) := fun _ => by kernel_rfl
  go_enter Tryd.func61, Tryd.ntmps61
  go_wp2_with fail
  go_loopg [0, 6] 12 (fun k nv iv wr => ∃ j : Nat, j ≤ 12 ∧ 12 - j ≤ k ∧ nv = .int .i64 ((n / 10 ^ j : Nat) : Int) ∧ iv = .int .i64 j ∧ wr = w.alloc (.cells (rowA (fun i => if i < j then (dig n i : Int) else 0) 12) 3))
  case atStart => exact ⟨0, by omega, by omega, by simp, rfl, rfl⟩
  case round =>
    obtain ⟨j, hj, hjk, rfl, rfl, rfl⟩ := hrel
    have hle : n / 10 ^ j ≤ n := Nat.div_le_self _ _
    have hsucc := Lib.hid (dig_succ n j)
    have hdg : Hid (n / 10 ^ j % 10 = dig n j) := rfl
    generalize hm : n / 10 ^ j = m at *
    have HM := Lib.hid hm
    clear hm
    by_cases hlt : j < 12
    · have hcell := rowA_get (fun i => if i < j then (dig n i : Int) else 0) 12 j hlt
      have hset := fun x => rowA_set (fun i => if i < j then (dig n i : Int) else 0) 12 j x
      have HSET := Lib.hid hset
      clear hset
      generalize hr : rowA (fun i => if i < j then (dig n i : Int) else 0) 12 = R at *
      have HR := Lib.hid hr
      clear hr
      go_wp2_with fail
      go_roundg (gk - 1)
      case measure => omega
      case rel =>
        refine ⟨j + 1, by omega, by omega, ?_, by go_num, ?_⟩
        · rw [hsucc.out]; go_num
        · have e : ((m : Int) % 10) = ((dig n j : Nat) : Int) := by rw [← hdg.out]; omega
          rw [e, HSET.out]
          rw [rowA_congr (g := fun i => if i < j + 1 then ((dig n i : Nat) : Int) else 0)]
          intro i hi
          by_cases h1 : i = j
          · subst h1; simp
          · simp only [h1, if_false]
            by_cases h2 : i < j
            · rw [if_pos h2, if_pos (by omega)]
            · rw [if_neg h2, if_neg (by omega)]
    · go_wp2_with fail
      go_ret
      refine ⟨rfl, ?_⟩
      rw [rowA_congr (g := fun i => ((dig n i : Nat) : Int))]
      intro i hi
      show (if i < j then _ else _) = _
      rw [if_pos (by omega)]

theorem RowIs.set_ {w : World} {g n : Nat} {f : Nat → Int} (h : RowIs w g f n) (i : Nat) (hi : i < n) (x : Int) : RowIs (w.setCell ⟨g, i, none⟩ (.int .i64 x)) g (fun j => if j = i then x else f j) n := by
  intro j hj
  by_cases e : j = i
  · subst e
    rw [World.cell?_setCell_same _ _ _ (h j hj)]
    show _ = some (Value.int .i64 (if j = j then x else f j))
    rw [if_pos rfl]
  · rw [World.cell?_setCell_other _ _ _ _ (by intro hh; injection hh with _ h2; omega), h j hj]
    show _ = some (Value.int .i64 (if j = i then x else f j))
    rw [if_neg e]
theorem RowIs.far {w : World} {g g' n : Nat} {f : Nat → Int} (h : RowIs w g f n) (hg : g' ≠ g) (i : Nat) (v : Value) : RowIs (w.setCell ⟨g', i, none⟩ v) g f n := by
  intro j hj
  rw [World.cell?_setCell_other _ _ _ _ (by intro hh; injection hh with h1; omega), h j hj]
theorem RowIs.congr {w : World} {g n : Nat} {f f' : Nat → Int} (h : RowIs w g f n) (hf : ∀ j, j < n → f j = f' j) : RowIs w g f' n := fun j hj => by rw [h j hj, hf j hj]
theorem rowA_RowIs {w : World} {g n : Nat} {f : Nat → Int} {t : TypeId} {fr : Nat × Nat} (h : w.heap[g]? = some (.cells (rowA f n) t fr)) : RowIs w g f n := fun j hj => by
  rw [cell_of_block h, rowA_get _ _ _ hj]
theorem frozen_setCell (w : World) (a b : Addr) (v : Value) : (w.setCell a v).frozen? b = w.frozen? b := by
  simp only [World.setCell, World.frozen?, Array.getElem?_modify]
  by_cases hb : a.block = b.block
  · rw [if_pos hb]
    cases hh : w.heap[b.block]? with
    | none => rfl
    | some o => cases o <;> rfl
  · rw [if_neg hb]
def LongIs (n s : Int) (w : World) (e : Ending) (w' : World) : Prop :=
  ∃ g, e = .returned (.slice (some ⟨g, 0, none⟩) 60 60) ∧ RowIs w' g (fun j => (longF n.natAbs s.toNat j : Int)) 60 ∧ Below w.heap.size w w'
def longTo (m t j : Nat) (i : Nat) : Int := if 12 - t ≤ i ∧ i < 12 - t + j then (dig m (i - (12 - t)) : Int) else 0

set_option maxHeartbeats 1600000 in
theorem long_any (n s : Int) (w : World) (h1 : -999999999999 ≤ n) (h2 : n ≤ 999999999999) (h3 : 0 ≤ s) (h4 : s ≤ 6) :
    Calls Tryd.prog 43 #[.agg #[.int .i64 n, .int .i64 s]] w (LongIs n s w) := by
  obtain ⟨t, rfl⟩ : ∃ t : Nat, s = (t : Int) := ⟨s.toNat, by omega⟩
  have hmk : ∀ W, (Instr.makeSlice 27 (.int .i64 60) (.int .i64 60)).run Tryd.prog W = .ok (.slice (some ⟨W.heap.size, 0, none⟩) 60 60) (W.alloc (.cells (rowA (fun _ => 0) 60) 3)) := fun _ => by kernel_rfl
  obtain ⟨m, hm⟩ : ∃ m, n.natAbs = m := ⟨_, rfl⟩
  have HM := Lib.hid hm
  have hm2 : m ≤ 999999999999 := by omega
  clear hm
  go_enter Tryd.func43, Tryd.ntmps43
  go_wp2_with fail
  refine (refSize_any n _ (by omega) (by omega)).mono ?_
  rintro e w1 ⟨rfl, rfl⟩
  rw [HM.out]
  go_wp2_with fail
  refine (digits_any m _ (by omega)).mono ?_
  rintro e w1 ⟨rfl, rfl⟩
  go_wp2_with fail
  go_loopg [5] 12 (fun k iv wr => ∃ j : Nat, j ≤ 12 ∧ 12 - j ≤ k ∧ iv = .int .i64 j ∧ wr.cell? ⟨w.heap.size, 1, none⟩ = some (.int .i64 t) ∧ RowIs wr (w.heap.size + 1) (longTo m t j) 60 ∧ (∀ o, wr.frozen? ⟨w.heap.size + 1, o, none⟩ = false) ∧ RowIs wr (w.heap.size + 1 + 1) (fun j => (dig m j : Int)) 12 ∧ w.heap.size + 3 ≤ wr.heap.size ∧ Below w.heap.size w wr)
  case atStart =>
    refine ⟨0, by omega, by omega, rfl, by simp [go_sem], ?_, fun o => by simp [go_sem], ?_, by simp, bel⟩
    · intro i hi
      have e : longTo m t 0 i = 0 := by unfold longTo; rw [if_neg (by omega)]
      rw [e]
      simp only [go_sem, sz_alloc, World.cell?_alloc_past, World.cell?_alloc_at, Nat.lt_succ_self, Nat.lt_add_one]
      exact rowA_get _ _ _ hi
    · intro i hi
      simp only [go_sem, sz_alloc, World.cell?_alloc_at]
      exact rowA_get _ _ _ hi
  case round =>
    obtain ⟨j, hj, hjk, rfl, hsc, hrl, hfr, hrd, hsz, hbel⟩ := hrel
    by_cases hlt : j < 12
    · have hD := hrd j hlt
      have hR := hrl (j + 12 - t) (by omega)
      have hF := hfr (j + 12 - t)
      have HRL := Lib.hid hrl
      have HRD := Lib.hid hrd
      have HFR := Lib.hid hfr
      clear hrl hrd hfr
      have hi1 : IntKind.i64.wrap ((j : Int) + 12) = (j : Int) + 12 := IntWalk.i64_in _ (by omega)
      have hi2 : IntKind.i64.wrap ((j : Int) + 12 - (t : Int)) = (j : Int) + 12 - (t : Int) := IntWalk.i64_in _ (by omega)
      have hi3 : ((j : Int) + 12 - (t : Int)).toNat = j + 12 - t := by omega
      have hi4 : (0 : Int) ≤ (j : Int) + 12 - (t : Int) := by omega
      have hi5 : (j : Int) + 12 - (t : Int) < 60 := by omega
      have hi6 : (j : Int) < 12 := by omega
      go_wp2_with fail
      go_region
      clear hi1 hi2 hi3 hi4 hi5 hi6
      go_wp2_with fail
      go_roundg (gk - 1)
      case measure => omega
      case rel =>
        refine ⟨j + 1, by omega, by omega, by go_num, ?_, ?_, fun o => (frozen_setCell _ _ _ _).trans (HFR.out o), ?_, (by first | omega | (simp only [sz_alloc, sz_set, sz_drew, sz_drewN, sz_iterAt, sz_iter] at *; omega) | (simp; done) | (simp; omega) | (simp at *; omega)), bel⟩
        · show World.cell? (wr.setCell _ _) _ = _
          rw [World.cell?_setCell_other _ _ _ _ (by intro hh; injection hh with h1; omega)]
          exact hsc
        · have hx : RowIs wr.drew (w.heap.size + 1) (longTo m t j) 60 := HRL.out
          refine (hx.set_ (j + 12 - t) (by omega) _).congr fun i hi => ?_
          unfold longTo
          by_cases e : i = j + 12 - t
          · subst e
            rw [if_pos rfl, if_pos (by omega), show j + 12 - t - (12 - t) = j by omega]
          · rw [if_neg e]
            by_cases e2 : 12 - t ≤ i ∧ i < 12 - t + j
            · rw [if_pos e2, if_pos (by omega)]
            · rw [if_neg e2, if_neg (by omega)]
        · have hx : RowIs wr.drew (w.heap.size + 1 + 1) (fun j => (dig m j : Int)) 12 := HRD.out
          exact hx.far (by omega) _ _
    · obtain rfl : j = 12 := by omega
      go_wp2_with fail
      go_ret
      refine ⟨w.heap.size + 1, rfl, hrl.congr fun i hi => ?_, hbel⟩
      unfold longTo longF
      rw [Int.toNat_natCast, HM.out]
      by_cases e : 12 - t ≤ i ∧ i < 12 - t + 12
      · rw [if_pos e, if_pos (by omega)]
      · rw [if_neg e, if_neg (by omega)]; rfl

set_option maxHeartbeats 800000 in
theorem refLess_any (g h : Nat) (a b : Nat → Nat) (w : World) (ha : RowIs w g (fun j => (a j : Int)) 60) (hb : RowIs w h (fun j => (b j : Int)) 60) :
    Calls Tryd.prog 42 #[.slice (some ⟨g, 0, none⟩) 60 60, .slice (some ⟨h, 0, none⟩) 60 60] w fun e w' => e = .returned (.bool (lessD a b 60)) ∧ Below w.heap.size w w' := by
  obtain ⟨B, hB⟩ : ∃ B, lessD a b 60 = B := ⟨_, rfl⟩
  rw [hB]
  have HB := Lib.hid hB
  clear hB
  have HA := Lib.hid ha
  have HC := Lib.hid hb
  clear ha hb
  go_enter Tryd.func42, Tryd.ntmps42
  go_wp2_with fail
  go_loopg [5] 60 (fun k iv wr => k ≤ 60 ∧ Hid (lessD a b k = B) ∧ iv = .int .i64 ((k : Int) - 1) ∧ ∃ q, wr = w.drewN q)
  case atStart => exact ⟨by omega, HB, rfl, 0, rfl⟩
  case round =>
    obtain ⟨hk, hl, rfl, q, rfl⟩ := hrel
    rcases gk with _ | k
    · go_wp2_with fail
      go_ret
      exact ⟨ret_bool hl.out, bel⟩
    · have hl2 : Hid ((if a k = b k then lessD a b k else decide (a k < b k)) = B) := hl
      have ca : w.cell? ⟨g, k, none⟩ = some (.int .i64 (a k : Int)) := HA.out k (by omega)
      have cb : w.cell? ⟨h, k, none⟩ = some (.int .i64 (b k : Int)) := HC.out k (by omega)
      generalize hx : a k = x at *
      generalize hy : b k = y at *
      clear hx hy hl
      have e0 : ((k + 1 : Nat) : Int) - 1 = (k : Int) := by omega
      rw [e0]
      have e1 : (0 : Int) ≤ (k : Int) := by omega
      have e2 : (k : Int) < 60 := by omega
      by_cases he : x = y
      · have hb1 : ((x : Int) != (y : Int)) = false := by simp [he]
        have HL : Hid (lessD a b k = B) := by show lessD a b k = B; rw [← hl2.out, if_pos he]
        clear he hl2
        go_wp2_with fail
        go_region
        go_wp2_with fail
        go_roundg k
        case measure => omega
        case rel => exact ⟨by omega, HL, by go_num, q + 1, rfl⟩
      · have hb1 : ((x : Int) != (y : Int)) = true := by simp; omega
        have HL : Hid (decide (x < y) = B) := by show _ = B; rw [← hl2.out, if_neg he]
        clear he hl2
        go_wp2_with fail
        go_region
        go_wp2_with fail
        go_region
        go_wp2_with fail
        go_ret
        exact ⟨ret_bool (by first | (rw [← HL.out]; done) | (rw [← HL.out]; simp; done)), bel⟩

theorem RowIs.lt {w : World} {g : Nat} {f : Nat → Int} (h : RowIs w g f 60) : g < w.heap.size := cell_lt (h 0 (by omega))

set_option maxHeartbeats 3200000 in
theorem refCmp_yes (n s n' s' : Int) (w : World) (h : decSnd n s = true) (h' : decSnd n' s' = true) :
    Calls Tryd.prog 27 #[.agg #[.int .i64 n, .int .i64 s], .agg #[.int .i64 n', .int .i64 s']] w fun e w' => e = .returned (.tuple #[.int .i64 (refCmp n s n' s'), .int .i64 0]) ∧ Below w.heap.size w w' := by
  obtain ⟨C, hC⟩ : ∃ C, refCmp n s n' s' = C := ⟨_, rfl⟩
  rw [hC]
  obtain ⟨a1, a2, a3, a4, -⟩ := decSnd_of h
  obtain ⟨b1, b2, b3, b4, -⟩ := decSnd_of h'
  have H1 := Lib.hid h
  have H2 := Lib.hid h'
  clear h h'
  have HC : Hid (C = if n < 0 ∧ 0 ≤ n' then -1 else if 0 ≤ n ∧ n' < 0 then 1 else
    if lessD (longF n.natAbs s.toNat) (longF n'.natAbs s'.toNat) 60 = true then (if n < 0 then 1 else -1)
    else if lessD (longF n'.natAbs s'.toNat) (longF n.natAbs s.toNat) 60 = true then (if n < 0 then -1 else 1) else 0) := hC.symm
  clear hC
  generalize hL : lessD (longF n.natAbs s.toNat) (longF n'.natAbs s'.toNat) 60 = L at *
  generalize hM : lessD (longF n'.natAbs s'.toNat) (longF n.natAbs s.toNat) 60 = M at *
  have HL := Lib.hid hL
  have HM := Lib.hid hM
  clear hL hM
  cases t1 : decide (n < 0) <;> cases t2 : decide (n' < 0)
  all_goals
    have s1 := t1
    have s2 := t2
    simp only [decide_eq_true_eq, decide_eq_false_iff_not] at s1 s2
    have t3 : decide (0 ≤ n) = !decide (n < 0) := by rw [← decide_not, decide_eq_decide]; omega
    have t4 : decide (0 ≤ n') = !decide (n' < 0) := by rw [← decide_not, decide_eq_decide]; omega
    rw [t1] at t3
    rw [t2] at t4
    simp only [Bool.not_false, Bool.not_true] at t3 t4
    go_enter Tryd.func27, Tryd.ntmps27
    go_wp2_with fail
    refine (ref01Sound_any n s _).mono ?_
    rintro e w1 ⟨rfl, hb1⟩
    rw [H1.out]
    have hz1 := hb1.size
    try simp at hz1
    obtain ⟨q1_0, l1_0, r1_0⟩ := aft hb1 (w.heap.size)
    obtain ⟨q1_1, l1_1, r1_1⟩ := aft hb1 (w.heap.size + 1)
    go_wp2_with fail
    refine (ref01Sound_any n' s' _).mono ?_
    rintro e w2 ⟨rfl, hb2⟩
    rw [H2.out]
    have hz2 := hb2.size
    try simp at hz2
    obtain ⟨q2_0, l2_0, r2_0⟩ := aft hb2 (w.heap.size)
    obtain ⟨q2_1, l2_1, r2_1⟩ := aft hb2 (w.heap.size + 1)
    go_wp2_with fail
    try (go_ret2; exact ⟨by rw [HC.out]; simp [*]; done, bel⟩)
  · have HD : Hid (C = if L = true then -1 else if M = true then 1 else 0) := by show C = _; rw [HC.out, if_neg (by omega), if_neg (by omega)]; simp only [show ¬ n < 0 by omega, if_false]
    clear HC
    have kk0 : w2.cell? ⟨w.heap.size, 0, none⟩ = some (.int .i64 n) := cel
    have kk1 : w2.cell? ⟨w.heap.size, 1, none⟩ = some (.int .i64 s) := cel
    have kk2 : w2.cell? ⟨w.heap.size + 1, 0, none⟩ = some (.int .i64 n') := cel
    have kk3 : w2.cell? ⟨w.heap.size + 1, 1, none⟩ = some (.int .i64 s') := cel
    go_region_held3 (fun w' => Below w2.heap.size w2 w' ∧ w'.cell? ⟨w.heap.size, 0, none⟩ = some (.int .i64 n) ∧ w'.cell? ⟨w.heap.size, 1, none⟩ = some (.int .i64 s) ∧ w'.cell? ⟨w.heap.size + 1, 0, none⟩ = some (.int .i64 n') ∧ w'.cell? ⟨w.heap.size + 1, 1, none⟩ = some (.int .i64 s')) ((refine and_keep ?_ (fun hk => ⟨keep_cell hk l2_0 kk0, keep_cell hk l2_0 kk1, keep_cell hk l2_1 kk2, keep_cell hk l2_1 kk3⟩); exact bel))
      (first
        | (go_at_call 43; refine (long_any _ _ _ (by omega) (by omega) (by omega) (by omega)).mono ?_; rintro e w' hL; obtain ⟨gg, rfl, hrow, hb'⟩ := hL)
        | (go_at_call 42; refine (refLess_any _ _ (longF n.natAbs s.toNat) (longF n'.natAbs s'.toNat) _ (by first | assumption | exact RowIs.below (by assumption) (by assumption)) (by first | assumption | exact RowIs.below (by assumption) (by assumption))).mono ?_; rintro e w' ⟨rfl, hb'⟩))
    rw [HL.out]
    have hS : Below w2.heap.size w2 _ ∧ _ := (by assumption)
    have hbwz := hS.1
    clear hS
    have hzz := hbwz.size
    have qz_0 := fun o => (hbwz.cell (p := ⟨w.heap.size, o, none⟩) l2_0).trans (q2_0 o)
    have rz_0 := fun o => (hbwz.frozen (p := ⟨w.heap.size, o, none⟩) l2_0).trans (r2_0 o)
    have lz_0 := Nat.lt_of_lt_of_le l2_0 hzz
    have qz_1 := fun o => (hbwz.cell (p := ⟨w.heap.size + 1, o, none⟩) l2_1).trans (q2_1 o)
    have rz_1 := fun o => (hbwz.frozen (p := ⟨w.heap.size + 1, o, none⟩) l2_1).trans (r2_1 o)
    have lz_1 := Nat.lt_of_lt_of_le l2_1 hzz
    cases L
    · go_wp2_with fail
      have kk0 : w2.cell? ⟨w.heap.size, 0, none⟩ = some (.int .i64 n) := cel
      have kk1 : w2.cell? ⟨w.heap.size, 1, none⟩ = some (.int .i64 s) := cel
      have kk2 : w2.cell? ⟨w.heap.size + 1, 0, none⟩ = some (.int .i64 n') := cel
      have kk3 : w2.cell? ⟨w.heap.size + 1, 1, none⟩ = some (.int .i64 s') := cel
      go_region_held3 (fun w' => Below w2.heap.size w2 w' ∧ w'.cell? ⟨w.heap.size, 0, none⟩ = some (.int .i64 n) ∧ w'.cell? ⟨w.heap.size, 1, none⟩ = some (.int .i64 s) ∧ w'.cell? ⟨w.heap.size + 1, 0, none⟩ = some (.int .i64 n') ∧ w'.cell? ⟨w.heap.size + 1, 1, none⟩ = some (.int .i64 s')) ((refine and_keep ?_ (fun hk => ⟨keep_cell hk l2_0 kk0, keep_cell hk l2_0 kk1, keep_cell hk l2_1 kk2, keep_cell hk l2_1 kk3⟩); exact bel))
        (first
          | (go_at_call 43; refine (long_any _ _ _ (by omega) (by omega) (by omega) (by omega)).mono ?_; rintro e w' hL; obtain ⟨gg, rfl, hrow, hb'⟩ := hL)
          | (go_at_call 42; refine (refLess_any _ _ (longF n'.natAbs s'.toNat) (longF n.natAbs s.toNat) _ (by first | assumption | exact RowIs.below (by assumption) (by assumption)) (by first | assumption | exact RowIs.below (by assumption) (by assumption))).mono ?_; rintro e w' ⟨rfl, hb'⟩))
      rw [HM.out]
      cases M
      · have HX : Hid (C = 0) := HD.out
        go_wp2_with fail
        go_ret2
        exact ⟨by rw [HX.out]; rfl, bel⟩
      · have HX : Hid (C = 1) := HD.out
        go_wp2_with fail
        go_ret2
        exact ⟨by rw [HX.out]; rfl, bel⟩
    · have HX : Hid (C = -1) := HD.out
      go_wp2_with fail
      go_ret2
      exact ⟨by rw [HX.out]; rfl, bel⟩
  · have HD : Hid (C = if L = true then 1 else if M = true then -1 else 0) := by show C = _; rw [HC.out, if_neg (by omega), if_neg (by omega)]; simp only [show n < 0 by omega, if_true]
    clear HC
    have kk0 : w2.cell? ⟨w.heap.size, 0, none⟩ = some (.int .i64 n) := cel
    have kk1 : w2.cell? ⟨w.heap.size, 1, none⟩ = some (.int .i64 s) := cel
    have kk2 : w2.cell? ⟨w.heap.size + 1, 0, none⟩ = some (.int .i64 n') := cel
    have kk3 : w2.cell? ⟨w.heap.size + 1, 1, none⟩ = some (.int .i64 s') := cel
    go_region_held3 (fun w' => Below w2.heap.size w2 w' ∧ w'.cell? ⟨w.heap.size, 0, none⟩ = some (.int .i64 n) ∧ w'.cell? ⟨w.heap.size, 1, none⟩ = some (.int .i64 s) ∧ w'.cell? ⟨w.heap.size + 1, 0, none⟩ = some (.int .i64 n') ∧ w'.cell? ⟨w.heap.size + 1, 1, none⟩ = some (.int .i64 s')) ((refine and_keep ?_ (fun hk => ⟨keep_cell hk l2_0 kk0, keep_cell hk l2_0 kk1, keep_cell hk l2_1 kk2, keep_cell hk l2_1 kk3⟩); exact bel))
      (first
        | (go_at_call 43; refine (long_any _ _ _ (by omega) (by omega) (by omega) (by omega)).mono ?_; rintro e w' hL; obtain ⟨gg, rfl, hrow, hb'⟩ := hL)
        | (go_at_call 42; refine (refLess_any _ _ (longF n.natAbs s.toNat) (longF n'.natAbs s'.toNat) _ (by first | assumption | exact RowIs.below (by assumption) (by assumption)) (by first | assumption | exact RowIs.below (by assumption) (by assumption))).mono ?_; rintro e w' ⟨rfl, hb'⟩))
    rw [HL.out]
    have hS : Below w2.heap.size w2 _ ∧ _ := (by assumption)
    have hbwz := hS.1
    clear hS
    have hzz := hbwz.size
    have qz_0 := fun o => (hbwz.cell (p := ⟨w.heap.size, o, none⟩) l2_0).trans (q2_0 o)
    have rz_0 := fun o => (hbwz.frozen (p := ⟨w.heap.size, o, none⟩) l2_0).trans (r2_0 o)
    have lz_0 := Nat.lt_of_lt_of_le l2_0 hzz
    have qz_1 := fun o => (hbwz.cell (p := ⟨w.heap.size + 1, o, none⟩) l2_1).trans (q2_1 o)
    have rz_1 := fun o => (hbwz.frozen (p := ⟨w.heap.size + 1, o, none⟩) l2_1).trans (r2_1 o)
    have lz_1 := Nat.lt_of_lt_of_le l2_1 hzz
    cases L
    · go_wp2_with fail
      have kk0 : w2.cell? ⟨w.heap.size, 0, none⟩ = some (.int .i64 n) := cel
      have kk1 : w2.cell? ⟨w.heap.size, 1, none⟩ = some (.int .i64 s) := cel
      have kk2 : w2.cell? ⟨w.heap.size + 1, 0, none⟩ = some (.int .i64 n') := cel
      have kk3 : w2.cell? ⟨w.heap.size + 1, 1, none⟩ = some (.int .i64 s') := cel
      go_region_held3 (fun w' => Below w2.heap.size w2 w' ∧ w'.cell? ⟨w.heap.size, 0, none⟩ = some (.int .i64 n) ∧ w'.cell? ⟨w.heap.size, 1, none⟩ = some (.int .i64 s) ∧ w'.cell? ⟨w.heap.size + 1, 0, none⟩ = some (.int .i64 n') ∧ w'.cell? ⟨w.heap.size + 1, 1, none⟩ = some (.int .i64 s')) ((refine and_keep ?_ (fun hk => ⟨keep_cell hk l2_0 kk0, keep_cell hk l2_0 kk1, keep_cell hk l2_1 kk2, keep_cell hk l2_1 kk3⟩); exact bel))
        (first
          | (go_at_call 43; refine (long_any _ _ _ (by omega) (by omega) (by omega) (by omega)).mono ?_; rintro e w' hL; obtain ⟨gg, rfl, hrow, hb'⟩ := hL)
          | (go_at_call 42; refine (refLess_any _ _ (longF n'.natAbs s'.toNat) (longF n.natAbs s.toNat) _ (by first | assumption | exact RowIs.below (by assumption) (by assumption)) (by first | assumption | exact RowIs.below (by assumption) (by assumption))).mono ?_; rintro e w' ⟨rfl, hb'⟩))
      rw [HM.out]
      cases M
      · have HX : Hid (C = 0) := HD.out
        go_wp2_with fail
        go_ret2
        exact ⟨by rw [HX.out]; rfl, bel⟩
      · have HX : Hid (C = -1) := HD.out
        go_wp2_with fail
        go_ret2
        exact ⟨by rw [HX.out]; rfl, bel⟩
    · have HX : Hid (C = 1) := HD.out
      go_wp2_with fail
      go_ret2
      exact ⟨by rw [HX.out]; rfl, bel⟩

set_option maxHeartbeats 800000 in
theorem ref01Cmp_any (n s n' s' : Int) (w : World) :
    Calls Tryd.prog 27 #[.agg #[.int .i64 n, .int .i64 s], .agg #[.int .i64 n', .int .i64 s']] w fun e w' => e = .returned (cmpRes n s n' s') ∧ Below w.heap.size w w' := by
  cases h : decSnd n s
  · have HC := Lib.hid (cmpRes_no (n := n) (s := s) (n' := n') (s' := s') (by rw [h]; rfl))
    go_enter Tryd.func27, Tryd.ntmps27
    go_wp2_with fail
    refine (ref01Sound_any n s _).mono ?_
    rintro e w1 ⟨rfl, hb1⟩
    rw [h]
    clear h
    go_wp2_with fail
    go_ret2
    exact ⟨by rw [HC.out]; rfl, bel⟩
  · cases h' : decSnd n' s'
    · have HC := Lib.hid (cmpRes_no (n := n) (s := s) (n' := n') (s' := s') (by rw [h, h']; rfl))
      go_enter Tryd.func27, Tryd.ntmps27
      go_wp2_with fail
      refine (ref01Sound_any n s _).mono ?_
      rintro e w1 ⟨rfl, hb1⟩
      rw [h]
      clear h
      have hz1 := hb1.size
      try simp at hz1
      obtain ⟨q1_0, l1_0, r1_0⟩ := aft hb1 (w.heap.size)
      obtain ⟨q1_1, l1_1, r1_1⟩ := aft hb1 (w.heap.size + 1)
      go_wp2_with fail
      refine (ref01Sound_any n' s' _).mono ?_
      rintro e w2 ⟨rfl, hb2⟩
      rw [h']
      clear h'
      go_wp2_with fail
      go_ret2
      exact ⟨by rw [HC.out]; rfl, bel⟩
    · refine (refCmp_yes n s n' s' w h h').mono fun e w' ⟨he, hb⟩ => ⟨?_, hb⟩
      rw [he, cmpRes_yes h h', refCmp_eq h h']
end Go.Proofs.YtfhmjkdpohepaaaDoor
