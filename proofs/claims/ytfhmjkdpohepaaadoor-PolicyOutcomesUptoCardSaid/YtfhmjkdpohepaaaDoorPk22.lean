import Derived.Test.YtfhmjkdpohepaaaDoorPk07
import Derived.Test.YtfhmjkdpohepaaaDoorPk04
/- soffit/deci.Add at sound numbers, walked. -/
set_option linter.unusedSimpArgs false
set_option linter.unusedVariables false
namespace Go.Proofs.YtfhmjkdpohepaaaDoor
open Go.RowKit

theorem decRes_yes {b : Bool} {n s : Nat} (h : (shU s n).1 ≤ 999999999999) : decRes b n s = .tuple #[.agg #[.int .i64 (sgn b (shU s n).1), .int .i64 (shU s n).2], .int .i64 0] := if_pos h
theorem decRes_no {b : Bool} {n s : Nat} (h : ¬ (shU s n).1 ≤ 999999999999) : decRes b n s = .tuple #[.agg #[.int .i64 0, .int .i64 0], .int .i64 3] := if_neg h
set_option maxRecDepth 100000 in
set_option maxHeartbeats 3200000 in
theorem decAdd_any (n s n' s' : Int) (w : World) (hd : decSnd n s = true) (hd' : decSnd n' s' = true) :
    Calls Tryd.prog 35 #[.agg #[.int .i64 n, .int .i64 s], .agg #[.int .i64 n', .int .i64 s']] w fun e w' =>
      e = .returned (decRes (decide (unitsI n s + unitsI n' s' < 0)) (unitsI n s + unitsI n' s').natAbs 6) ∧ Below w.heap.size w w' := by
  obtain ⟨a1, a2, a3, a4, -⟩ := decSnd_of hd
  obtain ⟨b1, b2, b3, b4, -⟩ := decSnd_of hd'
  have hu := units_bd a3 a4 a1 a2
  have hu' := units_bd b3 b4 b1 b2
  have I1 : I64 n := ⟨by omega, by omega⟩
  have I2 : I64 s := ⟨by omega, by omega⟩
  have I3 : I64 n' := ⟨by omega, by omega⟩
  have I4 : I64 s' := ⟨by omega, by omega⟩
  have HD : Hid ((decSnd n s && decSnd n' s') = true) := by show _ = _; rw [hd, hd']; rfl
  obtain ⟨x, hx⟩ : ∃ x, unitsI n s = x := ⟨_, rfl⟩
  obtain ⟨y, hy⟩ : ∃ y, unitsI n' s' = y := ⟨_, rfl⟩
  rw [hx] at hu
  rw [hy] at hu'
  rw [hx, hy]
  obtain ⟨N, hN⟩ : ∃ N, x + y = N := ⟨_, rfl⟩
  have hb1 : -2000000000000000000 ≤ N := by omega
  have hb2 : N ≤ 2000000000000000000 := by omega
  have hw1 : IntKind.i64.wrap (x + y) = N := by rw [← hN]; exact IntWalk.i64_in _ (by omega)
  have hw2 : IntKind.i64.wrap (-N) = -N := IntWalk.i64_in _ (by omega)
  have hw3 : IntKind.u64.wrap (max N (-N)) = (N.natAbs : Int) := by simp [IntKind.wrap, IntKind.signed, IntKind.bits]; omega
  have hna : N.natAbs ≤ 18446744073709551615 := by omega
  rw [hN]
  have HX := Lib.hid hx
  have HY := Lib.hid hy
  have HN := Lib.hid hN
  have HNA := Lib.hid hna
  have HW1 := Lib.hid hw1
  have HW2 := Lib.hid hw2
  have HW3 := Lib.hid hw3
  clear hx hy hd hd' hN hna hu hu' hb1 hb2 hw1 hw2 hw3
  go_enter Tryd.func35, Tryd.ntmps35
  go_wp2_with fail
  refine (all2_any _ n s n' s' _ (by first | omega | (simp only [sz_alloc, sz_set, sz_drew, sz_drewN, sz_iterAt, sz_iter] at *; omega) | (simp; done) | (simp; omega) | (simp at *; omega)) (by first | (simp [go_sem]; done) | (simp [go_sem, *]; done)) (by first | (simp [go_sem]; done) | (simp [go_sem, *]; done)) (by first | (simp [go_sem]; done) | (simp [go_sem, *]; done)) (by first | (simp [go_sem]; done) | (simp [go_sem, *]; done)) I1 I2 I3 I4).mono ?_
  rintro e w1 ⟨rfl, hb1⟩
  rw [HD.out, okE_true]
  clear I1 I2 I3 I4
  have hz1 := hb1.size
  try simp at hz1
  obtain ⟨q1_0, l1_0, r1_0⟩ := aft hb1 (w.heap.size)
  obtain ⟨q1_1, l1_1, r1_1⟩ := aft hb1 (w.heap.size + 1)
  obtain ⟨q1_2, l1_2, r1_2⟩ := aft hb1 (w.heap.size + 2)
  go_wp2_with fail
  have kk0 : w1.cell? ⟨w.heap.size, 0, none⟩ = some (.int .i64 n) := cel
  have kk1 : w1.cell? ⟨w.heap.size, 1, none⟩ = some (.int .i64 s) := cel
  have kk2 : w1.cell? ⟨w.heap.size + 1, 0, none⟩ = some (.int .i64 n') := cel
  have kk3 : w1.cell? ⟨w.heap.size + 1, 1, none⟩ = some (.int .i64 s') := cel
  go_region_held3 (fun w' => Below w1.heap.size w1 w' ∧ w'.cell? ⟨w.heap.size, 0, none⟩ = some (.int .i64 n) ∧ w'.cell? ⟨w.heap.size, 1, none⟩ = some (.int .i64 s) ∧ w'.cell? ⟨w.heap.size + 1, 0, none⟩ = some (.int .i64 n') ∧ w'.cell? ⟨w.heap.size + 1, 1, none⟩ = some (.int .i64 s')) ((refine and_keep ?_ (fun hk => ⟨keep_cell hk l1_0 kk0, keep_cell hk l1_0 kk1, keep_cell hk l1_1 kk2, keep_cell hk l1_1 kk3⟩); exact bel))
    (first
      | (go_at_call 51; refine (units_any _ _ _ (by omega) (by omega) (by omega) (by omega)).mono ?_; rintro e w' ⟨rfl, hb'⟩))
  try rw [HX.out, HY.out]
  have hS : Below w1.heap.size w1 _ ∧ _ := (by assumption)
  have hbwz := hS.1
  clear hS
  have hzz := hbwz.size
  have qz_0 := fun o => (hbwz.cell (p := ⟨w.heap.size, o, none⟩) l1_0).trans (q1_0 o)
  have rz_0 := fun o => (hbwz.frozen (p := ⟨w.heap.size, o, none⟩) l1_0).trans (r1_0 o)
  have lz_0 := Nat.lt_of_lt_of_le l1_0 hzz
  have qz_1 := fun o => (hbwz.cell (p := ⟨w.heap.size + 1, o, none⟩) l1_1).trans (q1_1 o)
  have rz_1 := fun o => (hbwz.frozen (p := ⟨w.heap.size + 1, o, none⟩) l1_1).trans (r1_1 o)
  have lz_1 := Nat.lt_of_lt_of_le l1_1 hzz
  have qz_2 := fun o => (hbwz.cell (p := ⟨w.heap.size + 2, o, none⟩) l1_2).trans (q1_2 o)
  have rz_2 := fun o => (hbwz.frozen (p := ⟨w.heap.size + 2, o, none⟩) l1_2).trans (r1_2 o)
  have lz_2 := Nat.lt_of_lt_of_le l1_2 hzz
  have h1 := HW1.out
  have h2 := HW2.out
  have h3 := HW3.out
  go_wp2_with fail
  have g1 : wrap64 (x + y) = N := (IntWalk.i64_left _).symm.trans h1
  have g2 : wrap64 (-N) = -N := (IntWalk.i64_left _).symm.trans h2
  simp only [g1, g2, h1, h2, h3]
  clear g1 g2 h1 h2 h3
  refine (dec_any N.natAbs 6 (decide (N < 0)) HNA.out (by decide) _).mono ?_
  rintro e w3 ⟨rfl, hb3⟩
  have hz3 := hb3.size
  try simp at hz3
  obtain ⟨q3_0, l3_0, r3_0⟩ := aft hb3 (w.heap.size)
  obtain ⟨q3_1, l3_1, r3_1⟩ := aft hb3 (w.heap.size + 1)
  obtain ⟨q3_2, l3_2, r3_2⟩ := aft hb3 (w.heap.size + 2)
  by_cases hle : (shU 6 N.natAbs).1 ≤ 999999999999
  · have HF := Lib.hid (decRes_yes (b := decide (N < 0)) hle)
    rw [HF.out]
    generalize sgn (decide (N < 0)) (shU 6 N.natAbs).1 = q1 at *
    generalize (shU 6 N.natAbs).2 = q2 at *
    clear hle
    go_wp2_with fail
    refine bodyPost_ret (v := .tuple #[.agg #[.int .i64 q1, .int .i64 q2], .int .i64 0]) ?_ rfl ⟨by rw [HF.out], ?_⟩
    · simp [results, Tryd.results35, go_sem, *]
    · exact bel
  · have HF := Lib.hid (decRes_no (b := decide (N < 0)) hle)
    rw [HF.out]
    clear hle
    go_wp2_with fail
    refine bodyPost_ret (v := .tuple #[.agg #[.int .i64 0, .int .i64 0], .int .i64 3]) ?_ rfl ⟨by rw [HF.out], ?_⟩
    · simp [results, Tryd.results35, go_sem, *]
    · exact bel
end Go.Proofs.YtfhmjkdpohepaaaDoor

/- (soffit/policy.outs).sum, walked. -/
set_option linter.unusedSimpArgs false
set_option linter.unusedVariables false
namespace Go.Proofs.YtfhmjkdpohepaaaDoor
open Go.RowKit

theorem shU_end (s : Nat) : ∀ n, (shU s n).2 = 0 ∨ (shU s n).1 % 10 ≠ 0 := by
  induction s with
  | zero => intro n; left; rfl
  | succ s ih =>
    intro n
    by_cases h : n % 10 = 0
    · rw [shU_cut s n h]; exact ih _
    · rw [shU_stop s n h]; right; exact h
/-- a sum that fits: its number and scale -/
def addFit (N : Int) : Bool := decide ((shU 6 N.natAbs).1 ≤ 999999999999)
def addN (N : Int) : Int := sgn (decide (N < 0)) (shU 6 N.natAbs).1
def addS (N : Int) : Int := (shU 6 N.natAbs).2
theorem add_snd {N : Int} (h : addFit N = true) : decSnd (addN N) (addS N) = true := by
  have h1 := of_decide_eq_true h
  have h2 := (shU_le 6 N.natAbs).2
  have h3 := shU_end 6 N.natAbs
  unfold decSnd addN addS sgn
  generalize (shU 6 N.natAbs).1 = p at *
  generalize (shU 6 N.natAbs).2 = q at *
  rw [decide_eq_true_iff]
  split
  · refine ⟨by omega, by omega, by omega, by omega, ?_⟩
    rcases h3 with h3 | h3
    · left; omega
    · right; omega
  · refine ⟨by omega, by omega, by omega, by omega, ?_⟩
    rcases h3 with h3 | h3
    · left; omega
    · right; omega
theorem add_units (N : Int) : unitsI (addN N) (addS N) = N := by
  have h := shU_val 6 N.natAbs
  unfold unitsI addN addS sgn
  rw [Int.toNat_natCast]
  generalize (shU 6 N.natAbs).1 = p at *
  generalize (shU 6 N.natAbs).2 = q at *
  have h2 : ((p : Int) * (10 : Int) ^ (6 - q)) = (N.natAbs : Int) := by rw [← h]; push_cast; rfl
  split
  · rename_i hn
    have hn' : N < 0 := of_decide_eq_true hn
    rw [Int.neg_mul, h2]; omega
  · rename_i hn
    have hn' : ¬ N < 0 := by simpa using hn
    rw [h2]; omega
/-- the sum of some numbers onto another -/
def sumF : List Vl → Int → Int → Vl
  | [], n, s => ⟨1, n, s, ⟨#[]⟩, 0⟩
  | v :: r, n, s => if (v.k == 1 && addFit (unitsI n s + unitsI v.n v.s)) = true then sumF r (addN (unitsI n s + unitsI v.n v.s)) (addS (unitsI n s + unitsI v.n v.s)) else Vl.zero
theorem sumF_yes {xs : List Vl} {j : Nat} {n s : Int} (hj : j < xs.length) (hk : (xs[j]'hj).k = 1) (h : addFit (unitsI n s + unitsI (xs[j]'hj).n (xs[j]'hj).s) = true) : sumF (xs.drop j) n s = sumF (xs.drop (j + 1)) (addN (unitsI n s + unitsI (xs[j]'hj).n (xs[j]'hj).s)) (addS (unitsI n s + unitsI (xs[j]'hj).n (xs[j]'hj).s)) := by
  rw [List.drop_eq_getElem_cons hj]
  exact if_pos (by rw [h, hk]; rfl)
theorem sumF_no {xs : List Vl} {j : Nat} {n s : Int} (hj : j < xs.length) (h : (xs[j]'hj).k ≠ 1 ∨ addFit (unitsI n s + unitsI (xs[j]'hj).n (xs[j]'hj).s) = false) : sumF (xs.drop j) n s = Vl.zero := by
  rw [List.drop_eq_getElem_cons hj]
  refine if_neg fun h2 => ?_
  rw [Bool.and_eq_true, beq_iff_eq] at h2
  rcases h with h | h
  · exact h h2.1
  · rw [h] at h2; cases h2.2
theorem sumF_end {xs : List Vl} {j : Nat} {n s : Int} (hj : ¬ j < xs.length) : sumF (xs.drop j) n s = ⟨1, n, s, ⟨#[]⟩, 0⟩ := by
  rw [List.drop_eq_nil_of_le (by omega)]
  rfl
theorem decRes_fit {N : Int} (h : addFit N = true) : decRes (decide (N < 0)) N.natAbs 6 = .tuple #[.agg #[.int .i64 (addN N), .int .i64 (addS N)], .int .i64 0] := decRes_yes (of_decide_eq_true h)
theorem decRes_big {N : Int} (h : addFit N = false) : decRes (decide (N < 0)) N.natAbs 6 = .tuple #[.agg #[.int .i64 0, .int .i64 0], .int .i64 3] := decRes_no (of_decide_eq_false h)
/-- every sound value's number is one -/
theorem snd_dec {v : Vl} (h : sndB v = true) : decSnd v.n v.s = true := by
  have hz : decSnd 0 0 = true := by decide
  unfold sndB at h
  split at h
  · have := of_decide_eq_true h; rw [this.1, this.2.1]; exact hz
  · split at h
    · simp only [Bool.and_eq_true] at h; exact h.2
    · split at h
      · simp only [Bool.and_eq_true] at h
        have := of_decide_eq_true h.1; rw [this.1, this.2.1]; exact hz
      · split at h
        · have := of_decide_eq_true h; rw [this.1, this.2.1]; exact hz
        · split at h
          · have := of_decide_eq_true h; rw [this.1, this.2.1]; exact hz
          · cases h

theorem frozen_set1 (w : World) (a b : Addr) (v : Value) : (w.setCell a v).frozen? b = w.frozen? b := by
  simp only [World.setCell, World.frozen?, Array.getElem?_modify]
  by_cases hb : a.block = b.block
  · rw [if_pos hb]
    cases hh : w.heap[b.block]? with
    | none => rfl
    | some o => cases o <;> rfl
  · rw [if_neg hb]
theorem box_set {W : World} {b : Nat} {a n s t i n' s' : Value} (h : ∀ o, W.cell? ⟨b, o, none⟩ = (#[a, n, s, t, i] : Array Value)[o]?) (o : Nat) :
    ((W.setCell ⟨b, 1, none⟩ n').setCell ⟨b, 2, none⟩ s').cell? ⟨b, o, none⟩ = (#[a, n', s', t, i] : Array Value)[o]? := by
  have h1 : (W.setCell ⟨b, 1, none⟩ n').cell? ⟨b, 2, none⟩ = some s := (World.cell?_setCell_other _ _ _ _ (by intro e; injection e with _ e; omega)).trans (h 2)
  by_cases e2 : o = 2
  · subst e2; rw [World.cell?_setCell_same _ _ _ h1]; rfl
  · rw [World.cell?_setCell_other _ _ _ _ (by intro e; injection e with _ e; omega)]
    by_cases e1 : o = 1
    · subst e1; rw [World.cell?_setCell_same _ _ _ (h 1)]; rfl
    · rw [World.cell?_setCell_other _ _ _ _ (by intro e; injection e with _ e; omega), h o]
      match o, e1, e2 with
      | 0, _, _ => rfl
      | 1, h, _ => exact absurd rfl h
      | 2, _, h => exact absurd rfl h
      | 3, _, _ => rfl
      | 4, _, _ => rfl
      | k + 5, _, _ => simp
theorem box_far {W : World} {b c : Nat} {arr : Array Value} {n' s' : Value} (hbc : c ≠ b) (h : ∀ o, W.cell? ⟨c, o, none⟩ = arr[o]?) (o : Nat) :
    ((W.setCell ⟨b, 1, none⟩ n').setCell ⟨b, 2, none⟩ s').cell? ⟨c, o, none⟩ = arr[o]? := by
  rw [World.cell?_setCell_other _ _ _ _ (by intro e; injection e with e; omega), World.cell?_setCell_other _ _ _ _ (by intro e; injection e with e; omega)]
  exact h o
set_option maxRecDepth 100000 in
set_option maxHeartbeats 3200000 in
theorem sum_any (os : List Vl) (A : Option Addr) (c : Nat) (w : World) (hr : RdL w 5 A (os.map Vl.cells5)) (hn : os.length ≤ 9223372036854775807) (hs : ∀ v ∈ os, sndB v = true) :
    Calls Tryd.prog 20 #[.slice A os.length c] w fun e w' => e = .returned (.agg #[.int .i64 (sumF os 0 0).k, .int .i64 (sumF os 0 0).n, .int .i64 (sumF os 0 0).s, .string (sumF os 0 0).t, .int .i64 (sumF os 0 0).i]) ∧ Below w.heap.size w w' := by
  obtain ⟨R, hR⟩ : ∃ R, sumF os 0 0 = R := ⟨_, rfl⟩
  rw [hR]
  have HR : Hid (sumF os 0 0 = R) := hR
  have HS := Lib.hid hs
  clear hR hs
  have H0 : Hid (R = sumF (os.drop 0) 0 0) := HR.out.symm
  clear HR
  go_enter Tryd.func20, Tryd.ntmps20
  go_wp2_with fail
  generalize hEW0 : (w.alloc _).alloc _ = W0
  have hbW0 : Below w.heap.size w W0 := (by rw [← hEW0]; exact bel)
  have lW0_0 : w.heap.size < W0.heap.size := lsz hEW0
  have qW0_0 : ∀ o, W0.cell? ⟨w.heap.size, o, none⟩ = _ := fun o => congrArg (fun W : World => W.cell? ⟨w.heap.size, o, none⟩) hEW0.symm
  have rW0_0 : ∀ o, W0.frozen? ⟨w.heap.size, o, none⟩ = _ := fun o => congrArg (fun W : World => W.frozen? ⟨w.heap.size, o, none⟩) hEW0.symm
  have lW0_1 : w.heap.size + 1 < W0.heap.size := lsz hEW0
  have qW0_1 : ∀ o, W0.cell? ⟨w.heap.size + 1, o, none⟩ = _ := fun o => congrArg (fun W : World => W.cell? ⟨w.heap.size + 1, o, none⟩) hEW0.symm
  have rW0_1 : ∀ o, W0.frozen? ⟨w.heap.size + 1, o, none⟩ = _ := fun o => congrArg (fun W : World => W.frozen? ⟨w.heap.size + 1, o, none⟩) hEW0.symm
  clear hEW0
  have HQ0 : Hid (∀ o, W0.cell? ⟨w.heap.size, o, none⟩ = (#[.int .i64 0, .int .i64 0, .int .i64 0, .string ⟨#[]⟩, .int .i64 0] : Array Value)[o]?) := Lib.hid (fun o => (qW0_0 o).trans (by simp [go_sem]))
  have HQ1 : Hid (∀ o, W0.cell? ⟨w.heap.size + 1, o, none⟩ = (#[.int .i64 1, .int .i64 0, .int .i64 0, .string ⟨#[]⟩, .int .i64 0] : Array Value)[o]?) := Lib.hid (fun o => (qW0_1 o).trans (by simp [go_sem]))
  have HF0 : Hid (∀ o, W0.frozen? ⟨w.heap.size, o, none⟩ = false) := Lib.hid (fun o => (rW0_0 o).trans (by simp [go_sem]))
  have HF1 : Hid (∀ o, W0.frozen? ⟨w.heap.size + 1, o, none⟩ = false) := Lib.hid (fun o => (rW0_1 o).trans (by simp [go_sem]))
  have hzW : w.heap.size + 2 ≤ W0.heap.size := by omega
  clear qW0_0 rW0_0 qW0_1 rW0_1
  go_loopg [11] os.length (fun k iv wr => ∃ (j : Nat) (n s : Int), iv = .int .i64 j ∧ j ≤ os.length ∧ os.length - j ≤ k ∧ Hid (R = sumF (os.drop j) n s) ∧ Hid (decSnd n s = true) ∧
    Hid (∀ o, wr.cell? ⟨w.heap.size, o, none⟩ = (#[.int .i64 0, .int .i64 0, .int .i64 0, .string ⟨#[]⟩, .int .i64 0] : Array Value)[o]?) ∧
    Hid (∀ o, wr.cell? ⟨w.heap.size + 1, o, none⟩ = (#[.int .i64 1, .int .i64 n, .int .i64 s, .string ⟨#[]⟩, .int .i64 0] : Array Value)[o]?) ∧
    Hid (∀ o, wr.frozen? ⟨w.heap.size, o, none⟩ = false) ∧ Hid (∀ o, wr.frozen? ⟨w.heap.size + 1, o, none⟩ = false) ∧ Below w.heap.size w wr ∧ w.heap.size + 2 ≤ wr.heap.size)
  case atStart => exact ⟨0, 0, 0, rfl, by omega, by omega, H0, Lib.hid (by decide), HQ0, HQ1, HF0, HF1, hbW0, hzW⟩
  case round =>
    clear H0 HQ0 HQ1 HF0 HF1 hbW0 hzW lW0_0 lW0_1
    obtain ⟨j, n, s, rfl, hj, hjk, HR, HD, HQ0, HQ1, HF0, HF1, hbel, hwz⟩ := hrel
    have z0 : wr.cell? ⟨w.heap.size + 1, 0, none⟩ = some (.int .i64 1) := HQ1.out 0
    have z1 : wr.cell? ⟨w.heap.size + 1, 1, none⟩ = some (.int .i64 n) := HQ1.out 1
    have z2 : wr.cell? ⟨w.heap.size + 1, 2, none⟩ = some (.int .i64 s) := HQ1.out 2
    have z3 : wr.cell? ⟨w.heap.size + 1, 3, none⟩ = some (.string ⟨#[]⟩) := HQ1.out 3
    have z4 : wr.cell? ⟨w.heap.size + 1, 4, none⟩ = some (.int .i64 0) := HQ1.out 4
    have u0 : wr.cell? ⟨w.heap.size, 0, none⟩ = some (.int .i64 0) := HQ0.out 0
    have u1 : wr.cell? ⟨w.heap.size, 1, none⟩ = some (.int .i64 0) := HQ0.out 1
    have u2 : wr.cell? ⟨w.heap.size, 2, none⟩ = some (.int .i64 0) := HQ0.out 2
    have u3 : wr.cell? ⟨w.heap.size, 3, none⟩ = some (.string ⟨#[]⟩) := HQ0.out 3
    have u4 : wr.cell? ⟨w.heap.size, 4, none⟩ = some (.int .i64 0) := HQ0.out 4
    have f0 := HF0.out
    have f1 := HF1.out
    by_cases hlt : j < os.length
    · obtain ⟨b, off, rfl, hx⟩ := (hr.below hbel).at_ hlt
      have hsx := HS.out _ (List.getElem_mem hlt)
      have hyes := fun h1 h2 => sumF_yes (n := n) (s := s) hlt h1 h2
      have hno := fun h => sumF_no (n := n) (s := s) hlt h
      generalize os[j]'hlt = x at *
      have y0 : wr.cell? ⟨b, off + j * 5, none⟩ = some (.int .i64 x.k) := hx.get 0 rfl
      have y1 : wr.cell? ⟨b, off + j * 5 + 1, none⟩ = some (.int .i64 x.n) := hx.get 1 rfl
      have y2 : wr.cell? ⟨b, off + j * 5 + 2, none⟩ = some (.int .i64 x.s) := hx.get 2 rfl
      have y3 : wr.cell? ⟨b, off + j * 5 + 3, none⟩ = some (.string x.t) := hx.get 3 rfl
      have y4 : wr.cell? ⟨b, off + j * 5 + 4, none⟩ = some (.int .i64 x.i) := hx.get 4 rfl
      have i1 : (j : Int) < (os.length : Int) := by omega
      have i2 : (0 : Int) ≤ (j : Int) := by omega
      have hadd := fun W => decAdd_any n s x.n x.s W HD.out (snd_dec hsx)
      obtain ⟨N, hN⟩ : ∃ N, unitsI n s + unitsI x.n x.s = N := ⟨_, rfl⟩
      rw [hN] at hadd hyes hno
      have HADD := Lib.hid hadd
      have HYES := Lib.hid hyes
      have HNO := Lib.hid hno
      clear hadd hyes hno hN hsx hx
      have hbA : Below wr.heap.size wr (wr.alloc (.cells #[.int .i64 x.k, .int .i64 x.n, .int .i64 x.s, .string x.t, .int .i64 x.i] 26)) := bel
      have a1 : (wr.alloc (.cells #[.int .i64 x.k, .int .i64 x.n, .int .i64 x.s, .string x.t, .int .i64 x.i] 26)).cell? ⟨w.heap.size + 1, 1, none⟩ = some (.int .i64 n) := cell_below hbA z1
      have a2 : (wr.alloc (.cells #[.int .i64 x.k, .int .i64 x.n, .int .i64 x.s, .string x.t, .int .i64 x.i] 26)).cell? ⟨w.heap.size + 1, 2, none⟩ = some (.int .i64 s) := cell_below hbA z2
      go_wp2_with fail
      refine (HADD.out _).mono ?_
      rintro e w1 ⟨rfl, hb1⟩
      have hb01 : Below wr.heap.size wr w1 := hbA.trans (hb1.mono hbA.size)
      have v0 : w1.cell? ⟨wr.heap.size, 0, none⟩ = some (.int .i64 x.k) := (hb1.cell (p := ⟨wr.heap.size, 0, none⟩) (by simp)).trans (by simp [go_sem])
      have l0 : w.heap.size < wr.heap.size := by omega
      have l1 : w.heap.size + 1 < wr.heap.size := by omega
      have P0 := Lib.hid (fun o => (hb01.cell (p := ⟨w.heap.size, o, none⟩) l0).trans (HQ0.out o))
      have P1 := Lib.hid (fun o => (hb01.cell (p := ⟨w.heap.size + 1, o, none⟩) l1).trans (HQ1.out o))
      have f0 := fun o => (hb01.frozen (p := ⟨w.heap.size, o, none⟩) l0).trans (HF0.out o)
      have f1 := fun o => (hb01.frozen (p := ⟨w.heap.size + 1, o, none⟩) l1).trans (HF1.out o)
      have hz1 := hb01.size
      have hbw1 : Below w.heap.size w w1 := hbel.trans (hb01.mono hbel.size)
      clear y0 y1 y2 y3 y4 z0 z1 z2 z3 z4 u0 u1 u2 u3 u4 HQ0 HQ1 HF0 HF1 hbA hb1 hb01 hbel HADD a1 a2
      cases hf : addFit N
      · rw [decRes_big hf]
        have hbB : Below w1.heap.size w1 (w1.alloc (.cells #[.int .i64 0, .int .i64 0] 24)) := bel
        have v0' : (w1.alloc (.cells #[.int .i64 0, .int .i64 0] 24)).cell? ⟨wr.heap.size, 0, none⟩ = some (.int .i64 x.k) := cell_below hbB v0
        have z0 : (w1.alloc (.cells #[.int .i64 0, .int .i64 0] 24)).cell? ⟨w.heap.size + 1, 0, none⟩ = some (.int .i64 1) := cell_below hbB (P1.out 0)
        have z1 : (w1.alloc (.cells #[.int .i64 0, .int .i64 0] 24)).cell? ⟨w.heap.size + 1, 1, none⟩ = some (.int .i64 n) := cell_below hbB (P1.out 1)
        have z2 : (w1.alloc (.cells #[.int .i64 0, .int .i64 0] 24)).cell? ⟨w.heap.size + 1, 2, none⟩ = some (.int .i64 s) := cell_below hbB (P1.out 2)
        have u0 : (w1.alloc (.cells #[.int .i64 0, .int .i64 0] 24)).cell? ⟨w.heap.size, 0, none⟩ = some (.int .i64 0) := cell_below hbB (P0.out 0)
        have u1 : (w1.alloc (.cells #[.int .i64 0, .int .i64 0] 24)).cell? ⟨w.heap.size, 1, none⟩ = some (.int .i64 0) := cell_below hbB (P0.out 1)
        have u2 : (w1.alloc (.cells #[.int .i64 0, .int .i64 0] 24)).cell? ⟨w.heap.size, 2, none⟩ = some (.int .i64 0) := cell_below hbB (P0.out 2)
        have u3 : (w1.alloc (.cells #[.int .i64 0, .int .i64 0] 24)).cell? ⟨w.heap.size, 3, none⟩ = some (.string ⟨#[]⟩) := cell_below hbB (P0.out 3)
        have u4 : (w1.alloc (.cells #[.int .i64 0, .int .i64 0] 24)).cell? ⟨w.heap.size, 4, none⟩ = some (.int .i64 0) := cell_below hbB (P0.out 4)
        have f0' := fun o => (hbB.frozen (p := ⟨w.heap.size, o, none⟩) (show w.heap.size < w1.heap.size by omega)).trans (f0 o)
        have f1' := fun o => (hbB.frozen (p := ⟨w.heap.size + 1, o, none⟩) (show w.heap.size + 1 < w1.heap.size by omega)).trans (f1 o)
        have hbw2 : Below w.heap.size w (w1.alloc (.cells #[.int .i64 0, .int .i64 0] 24)) := hbw1.trans (hbB.mono hbw1.size)
        have hz2 : w.heap.size + 2 ≤ (w1.alloc (.cells #[.int .i64 0, .int .i64 0] 24)).heap.size := by have := hbB.size; omega
        have HU1 := Lib.hid (fun o => (hbB.cell (p := ⟨w.heap.size + 1, o, none⟩) (show w.heap.size + 1 < w1.heap.size by omega)).trans (P1.out o))
        have HU2 := Lib.hid (fun o => (hbB.cell (p := ⟨w.heap.size, o, none⟩) (show w.heap.size < w1.heap.size by omega)).trans (P0.out o))
        clear f0 f1 v0 hbB
        have HZ := Lib.hid (HR.out.trans (HNO.out (.inr hf)))
        clear hf HYES HNO
        by_cases hk : x.k = 1
        · have hk1 : (x.k != 1) = false := by rw [bne_eq_false_iff_eq]; exact hk
          clear hk
          go_wp2_with fail
          refine bodyPost_ret (v := .agg #[.int .i64 0, .int .i64 0, .int .i64 0, .string ⟨#[]⟩, .int .i64 0]) (by simp [results, Tryd.results20, go_sem, *]) rfl ⟨by rw [HZ.out]; rfl, by repeat' (first | exact hbw2 | (refine Below.setCell ?_ ?_ _) | exact Nat.le_refl _)⟩
        · have hk1 : (x.k != 1) = true := by rw [bne_iff_ne]; exact hk
          clear hk
          go_wp2_with fail
          refine bodyPost_ret (v := .agg #[.int .i64 0, .int .i64 0, .int .i64 0, .string ⟨#[]⟩, .int .i64 0]) (by simp [results, Tryd.results20, go_sem, *]) rfl ⟨by rw [HZ.out]; rfl, by repeat' (first | exact hbw2 | (refine Below.setCell ?_ ?_ _) | exact Nat.le_refl _)⟩
      · rw [decRes_fit hf]
        by_cases hk : x.k = 1
        · have hk1 : (x.k != 1) = false := by rw [bne_eq_false_iff_eq]; exact hk
          have HY := Lib.hid (HR.out.trans (HYES.out hk hf))
          have HD2 := Lib.hid (add_snd hf)
          clear hk hf HYES HNO HR HD
          generalize addN N = n' at *
          generalize addS N = s' at *
          have hbB : Below w1.heap.size w1 (w1.alloc (.cells #[.int .i64 n', .int .i64 s'] 24)) := bel
          have v0' : (w1.alloc (.cells #[.int .i64 n', .int .i64 s'] 24)).cell? ⟨wr.heap.size, 0, none⟩ = some (.int .i64 x.k) := cell_below hbB v0
          have z0 : (w1.alloc (.cells #[.int .i64 n', .int .i64 s'] 24)).cell? ⟨w.heap.size + 1, 0, none⟩ = some (.int .i64 1) := cell_below hbB (P1.out 0)
          have z1 : (w1.alloc (.cells #[.int .i64 n', .int .i64 s'] 24)).cell? ⟨w.heap.size + 1, 1, none⟩ = some (.int .i64 n) := cell_below hbB (P1.out 1)
          have z2 : (w1.alloc (.cells #[.int .i64 n', .int .i64 s'] 24)).cell? ⟨w.heap.size + 1, 2, none⟩ = some (.int .i64 s) := cell_below hbB (P1.out 2)
          have u0 : (w1.alloc (.cells #[.int .i64 n', .int .i64 s'] 24)).cell? ⟨w.heap.size, 0, none⟩ = some (.int .i64 0) := cell_below hbB (P0.out 0)
          have u1 : (w1.alloc (.cells #[.int .i64 n', .int .i64 s'] 24)).cell? ⟨w.heap.size, 1, none⟩ = some (.int .i64 0) := cell_below hbB (P0.out 1)
          have u2 : (w1.alloc (.cells #[.int .i64 n', .int .i64 s'] 24)).cell? ⟨w.heap.size, 2, none⟩ = some (.int .i64 0) := cell_below hbB (P0.out 2)
          have u3 : (w1.alloc (.cells #[.int .i64 n', .int .i64 s'] 24)).cell? ⟨w.heap.size, 3, none⟩ = some (.string ⟨#[]⟩) := cell_below hbB (P0.out 3)
          have u4 : (w1.alloc (.cells #[.int .i64 n', .int .i64 s'] 24)).cell? ⟨w.heap.size, 4, none⟩ = some (.int .i64 0) := cell_below hbB (P0.out 4)
          have f0' := fun o => (hbB.frozen (p := ⟨w.heap.size, o, none⟩) (show w.heap.size < w1.heap.size by omega)).trans (f0 o)
          have f1' := fun o => (hbB.frozen (p := ⟨w.heap.size + 1, o, none⟩) (show w.heap.size + 1 < w1.heap.size by omega)).trans (f1 o)
          have hbw2 : Below w.heap.size w (w1.alloc (.cells #[.int .i64 n', .int .i64 s'] 24)) := hbw1.trans (hbB.mono hbw1.size)
          have hz2 : w.heap.size + 2 ≤ (w1.alloc (.cells #[.int .i64 n', .int .i64 s'] 24)).heap.size := by have := hbB.size; omega
          have HU1 := Lib.hid (fun o => (hbB.cell (p := ⟨w.heap.size + 1, o, none⟩) (show w.heap.size + 1 < w1.heap.size by omega)).trans (P1.out o))
          have HU2 := Lib.hid (fun o => (hbB.cell (p := ⟨w.heap.size, o, none⟩) (show w.heap.size < w1.heap.size by omega)).trans (P0.out o))
          clear f0 f1 v0 hbB
          go_wp2_with fail
          go_roundg (os.length - (j + 1))
          case measure => omega
          case rel => exact ⟨j + 1, n', s', by go_num, by omega, by omega, HY, HD2, Lib.hid (box_far (by omega) HU2.out), Lib.hid (box_set HU1.out), Lib.hid (fun o => by rw [frozen_set1, frozen_set1]; exact f0' o), Lib.hid (fun o => by rw [frozen_set1, frozen_set1]; exact f1' o), (hbw2.setCell (Nat.le_succ _) _).setCell (Nat.le_succ _) _, by simp only [sz_set]; exact hz2⟩
        · have hk1 : (x.k != 1) = true := by rw [bne_iff_ne]; exact hk
          generalize hgn : addN N = n' at *
          generalize hgs : addS N = s' at *
          have hbB : Below w1.heap.size w1 (w1.alloc (.cells #[.int .i64 n', .int .i64 s'] 24)) := bel
          have v0' : (w1.alloc (.cells #[.int .i64 n', .int .i64 s'] 24)).cell? ⟨wr.heap.size, 0, none⟩ = some (.int .i64 x.k) := cell_below hbB v0
          have z0 : (w1.alloc (.cells #[.int .i64 n', .int .i64 s'] 24)).cell? ⟨w.heap.size + 1, 0, none⟩ = some (.int .i64 1) := cell_below hbB (P1.out 0)
          have z1 : (w1.alloc (.cells #[.int .i64 n', .int .i64 s'] 24)).cell? ⟨w.heap.size + 1, 1, none⟩ = some (.int .i64 n) := cell_below hbB (P1.out 1)
          have z2 : (w1.alloc (.cells #[.int .i64 n', .int .i64 s'] 24)).cell? ⟨w.heap.size + 1, 2, none⟩ = some (.int .i64 s) := cell_below hbB (P1.out 2)
          have u0 : (w1.alloc (.cells #[.int .i64 n', .int .i64 s'] 24)).cell? ⟨w.heap.size, 0, none⟩ = some (.int .i64 0) := cell_below hbB (P0.out 0)
          have u1 : (w1.alloc (.cells #[.int .i64 n', .int .i64 s'] 24)).cell? ⟨w.heap.size, 1, none⟩ = some (.int .i64 0) := cell_below hbB (P0.out 1)
          have u2 : (w1.alloc (.cells #[.int .i64 n', .int .i64 s'] 24)).cell? ⟨w.heap.size, 2, none⟩ = some (.int .i64 0) := cell_below hbB (P0.out 2)
          have u3 : (w1.alloc (.cells #[.int .i64 n', .int .i64 s'] 24)).cell? ⟨w.heap.size, 3, none⟩ = some (.string ⟨#[]⟩) := cell_below hbB (P0.out 3)
          have u4 : (w1.alloc (.cells #[.int .i64 n', .int .i64 s'] 24)).cell? ⟨w.heap.size, 4, none⟩ = some (.int .i64 0) := cell_below hbB (P0.out 4)
          have f0' := fun o => (hbB.frozen (p := ⟨w.heap.size, o, none⟩) (show w.heap.size < w1.heap.size by omega)).trans (f0 o)
          have f1' := fun o => (hbB.frozen (p := ⟨w.heap.size + 1, o, none⟩) (show w.heap.size + 1 < w1.heap.size by omega)).trans (f1 o)
          have hbw2 : Below w.heap.size w (w1.alloc (.cells #[.int .i64 n', .int .i64 s'] 24)) := hbw1.trans (hbB.mono hbw1.size)
          have hz2 : w.heap.size + 2 ≤ (w1.alloc (.cells #[.int .i64 n', .int .i64 s'] 24)).heap.size := by have := hbB.size; omega
          have HU1 := Lib.hid (fun o => (hbB.cell (p := ⟨w.heap.size + 1, o, none⟩) (show w.heap.size + 1 < w1.heap.size by omega)).trans (P1.out o))
          have HU2 := Lib.hid (fun o => (hbB.cell (p := ⟨w.heap.size, o, none⟩) (show w.heap.size < w1.heap.size by omega)).trans (P0.out o))
          clear f0 f1 v0 hbB
          have HZ := Lib.hid (HR.out.trans (HNO.out (.inl hk)))
          clear hk hf HYES HNO
          go_wp2_with fail
          refine bodyPost_ret (v := .agg #[.int .i64 0, .int .i64 0, .int .i64 0, .string ⟨#[]⟩, .int .i64 0]) (by simp [results, Tryd.results20, go_sem, *]) rfl ⟨by rw [HZ.out]; rfl, by repeat' (first | exact hbw2 | (refine Below.setCell ?_ ?_ _) | exact Nat.le_refl _)⟩
    · have HE := Lib.hid (HR.out.trans (sumF_end hlt))
      have i1 : ¬ (j : Int) < (os.length : Int) := by omega
      go_wp2_with fail
      refine bodyPost_ret (v := .agg #[.int .i64 1, .int .i64 n, .int .i64 s, .string ⟨#[]⟩, .int .i64 0]) (by simp [results, Tryd.results20, go_sem, *]) rfl ⟨by rw [HE.out], bel⟩
end Go.Proofs.YtfhmjkdpohepaaaDoor
