import Derived.Test.YtankkadnhdfpfaaGreatDoorPk08
import Derived.Test.YtankkadnhdfpfaaGreatDoorPk05
import Derived.Test.YtankkadnhdfpfaaGreatDoorPsRef01
import Derived.Test.YtankkadnhdfpfaaGreatDoorPk07
import Derived.Test.YtankkadnhdfpfaaGreatDoorPk01
/- soffit/match.All, One, walked. -/
set_option linter.unusedSimpArgs false
set_option linter.unusedVariables false
namespace Go.Proofs.YtankkadnhdfpfaaGreatDoor
open Go.RowKit

def allB (c : Cel) (v : Vl) : Bool := if c.ts.any (fun t => oneB t v) = true then !c.neg else (c.any || c.neg)
def allRes (c : Cel) (v : Vl) : Value := if (uSndB c && sndB v) = true then .tuple #[.bool (allB c v), .int .i64 0] else .tuple #[.bool false, .int .i64 2]

theorem any_drop_yes {α : Type} {p : α → Bool} {xs : List α} {j : Nat} (hj : j < xs.length) (h : p (xs[j]'hj) = true) : (xs.drop j).any p = true := by
  rw [List.drop_eq_getElem_cons hj, List.any_cons, h]; rfl
theorem any_drop_no {α : Type} {p : α → Bool} {xs : List α} {j : Nat} (hj : j < xs.length) (h : p (xs[j]'hj) = false) : (xs.drop j).any p = (xs.drop (j + 1)).any p := by
  rw [List.drop_eq_getElem_cons hj, List.any_cons, h]; rfl
theorem any_drop_end {α : Type} {p : α → Bool} {xs : List α} {j : Nat} (hj : ¬ j < xs.length) : (xs.drop j).any p = false := by
  rw [List.drop_eq_nil_of_le (by omega)]; rfl

set_option maxRecDepth 100000 in
set_option maxHeartbeats 1600000 in
theorem mAll_any (c : Cel) (v : Vl) (A : Option Addr) (cap : Nat) (w : World) (hr : RdL w 13 A (c.ts.map Tst.cells)) (hw : ∀ t ∈ c.ts, t.wf) (hv : v.wf) (hn : c.ts.length ≤ 9223372036854775807) (hE : Env w) :
    Calls Tryz.prog 57 #[.agg #[.bool c.any, .bool c.neg, .slice A c.ts.length cap], .agg #[.int .i64 v.k, .int .i64 v.n, .int .i64 v.s, .string v.t, .int .i64 v.i]] w fun e w' =>
      e = .returned (allRes c v) ∧ Below w.heap.size w w' := by
  obtain ⟨C, hC⟩ : ∃ C, allRes c v = C := ⟨_, rfl⟩
  rw [hC]
  cases su : uSndB c
  · have HC : Hid (C = .tuple #[.bool false, .int .i64 2]) := by rw [← hC]; unfold allRes; rw [su]; exact rfl
    clear hC
    go_enter Tryz.func57, Tryz.ntmps57
    go_wp2_with fail
    refine (uSound_any c A cap _ (hr.below bel) hw hn (hE.below bel)).mono ?_
    rintro e w1 ⟨rfl, hb1⟩
    rw [su]
    clear su
    go_wp2_with fail
    go_ret2
    exact ⟨by rw [HC.out]; rfl, bel⟩
  · cases sv : sndB v
    · have HC : Hid (C = .tuple #[.bool false, .int .i64 2]) := by rw [← hC]; unfold allRes; rw [su, sv]; exact rfl
      clear hC
      go_enter Tryz.func57, Tryz.ntmps57
      go_wp2_with fail
      refine (uSound_any c A cap _ (hr.below bel) hw hn (hE.below bel)).mono ?_
      rintro e w1 ⟨rfl, hb1⟩
      rw [su]
      clear su
      have hz1 := hb1.size
      try simp at hz1
      obtain ⟨q1_0, l1_0, r1_0⟩ := aft hb1 (w.heap.size)
      obtain ⟨q1_1, l1_1, r1_1⟩ := aft hb1 (w.heap.size + 1)
      go_wp2_with fail
      refine (vSound_any v _ hv (hE.below bel)).mono ?_
      rintro e w2 ⟨rfl, hb2⟩
      rw [sv]
      clear sv
      go_wp2_with fail
      go_ret2
      exact ⟨by rw [HC.out]; rfl, bel⟩
    · have HC : Hid (C = .tuple #[.bool (if c.ts.any (fun t => oneB t v) = true then !c.neg else (c.any || c.neg)), .int .i64 0]) := by rw [← hC]; unfold allRes; rw [su, sv]; exact rfl
      clear hC
      go_enter Tryz.func57, Tryz.ntmps57
      go_wp2_with fail
      refine (uSound_any c A cap _ (hr.below bel) hw hn (hE.below bel)).mono ?_
      rintro e w1 ⟨rfl, hb1⟩
      rw [su]
      clear su
      have hz1 := hb1.size
      try simp at hz1
      obtain ⟨q1_0, l1_0, r1_0⟩ := aft hb1 (w.heap.size)
      obtain ⟨q1_1, l1_1, r1_1⟩ := aft hb1 (w.heap.size + 1)
      go_wp2_with fail
      refine (vSound_any v _ hv (hE.below bel)).mono ?_
      rintro e w2 ⟨rfl, hb2⟩
      rw [sv]
      clear sv
      have hz2 := hb2.size
      try simp at hz2
      obtain ⟨q2_0, l2_0, r2_0⟩ := aft hb2 (w.heap.size)
      obtain ⟨q2_1, l2_1, r2_1⟩ := aft hb2 (w.heap.size + 1)
      have hw2 : Below w.heap.size w w2 := bel
      have hr2 := hr.below hw2
      have hE2 := hE.below hw2
      go_wp2_with fail
      go_loopg [19] c.ts.length (fun k i wr => ∃ j : Nat, j ≤ c.ts.length ∧ c.ts.length - j ≤ k ∧ Hid (c.ts.any (fun t => oneB t v) = (c.ts.drop j).any (fun t => oneB t v)) ∧ i = .int .i64 j ∧ Below w2.heap.size w2 wr)
      case atStart => exact ⟨0, by omega, by omega, rfl, rfl, Below.refl _ _⟩
      case round =>
        obtain ⟨j, hj, hjk, hany, rfl, hbel⟩ := hrel
        have hsz := hbel.size
        have qr_0 := fun o => (hbel.cell (p := ⟨w.heap.size, o, none⟩) l2_0).trans (q2_0 o)
        have qr_1 := fun o => (hbel.cell (p := ⟨w.heap.size + 1, o, none⟩) l2_1).trans (q2_1 o)
        have lr_0 : w.heap.size < wr.heap.size := by omega
        have lr_1 : w.heap.size + 1 < wr.heap.size := by omega
        by_cases hlt : j < c.ts.length
        · obtain ⟨b, off, rfl, hx⟩ := (hr2.below hbel).at_ hlt
          have hmem : c.ts[j]'hlt ∈ c.ts := List.getElem_mem hlt
          have hyes := fun h => any_drop_yes (p := fun t => oneB t v) hlt h
          have hno := fun h => any_drop_no (p := fun t => oneB t v) hlt h
          generalize hX : c.ts[j]'hlt = x at *
          have hxw := hw x hmem
          have g0 : wr.cell? ⟨b, off + j * 13, none⟩ = some (.int .i64 x.k) := hx.get 0 rfl
          have g1 : wr.cell? ⟨b, off + j * 13 + 1, none⟩ = some (.int .i64 x.lo.k) := hx.get 1 rfl
          have g2 : wr.cell? ⟨b, off + j * 13 + 2, none⟩ = some (.int .i64 x.lo.n) := hx.get 2 rfl
          have g3 : wr.cell? ⟨b, off + j * 13 + 3, none⟩ = some (.int .i64 x.lo.s) := hx.get 3 rfl
          have g4 : wr.cell? ⟨b, off + j * 13 + 4, none⟩ = some (.string x.lo.t) := hx.get 4 rfl
          have g5 : wr.cell? ⟨b, off + j * 13 + 5, none⟩ = some (.int .i64 x.lo.i) := hx.get 5 rfl
          have g6 : wr.cell? ⟨b, off + j * 13 + 6, none⟩ = some (.int .i64 x.hi.k) := hx.get 6 rfl
          have g7 : wr.cell? ⟨b, off + j * 13 + 7, none⟩ = some (.int .i64 x.hi.n) := hx.get 7 rfl
          have g8 : wr.cell? ⟨b, off + j * 13 + 8, none⟩ = some (.int .i64 x.hi.s) := hx.get 8 rfl
          have g9 : wr.cell? ⟨b, off + j * 13 + 9, none⟩ = some (.string x.hi.t) := hx.get 9 rfl
          have g10 : wr.cell? ⟨b, off + j * 13 + 10, none⟩ = some (.int .i64 x.hi.i) := hx.get 10 rfl
          have g11 : wr.cell? ⟨b, off + j * 13 + 11, none⟩ = some (.bool x.ol) := hx.get 11 rfl
          have g12 : wr.cell? ⟨b, off + j * 13 + 12, none⟩ = some (.bool x.oh) := hx.get 12 rfl
          clear hx
          have HYES := Lib.hid hyes
          have HNO := Lib.hid hno
          clear hyes hno hX hmem
          cases hp : oneB x v
          · have HN := Lib.hid (HNO.out hp)
            go_wp2_with fail
            refine (one_any x v _ hxw hv (hE2.below bel)).mono ?_
            rintro e w3 ⟨rfl, hb3⟩
            rw [hp]
            clear hp
            go_wp2_with fail
            go_roundg (gk - 1)
            case measure => omega
            case rel => exact ⟨j + 1, by omega, by omega, hany.out.trans HN.out, by go_num, bel⟩
          · have HY := Lib.hid (HYES.out hp)
            have HD : Hid (C = .tuple #[.bool (!c.neg), .int .i64 0]) := by show C = _; rw [HC.out, if_pos (hany.out.trans HY.out)]
            go_wp2_with fail
            refine (one_any x v _ hxw hv (hE2.below bel)).mono ?_
            rintro e w3 ⟨rfl, hb3⟩
            rw [hp]
            clear hp
            have hz3 := hb3.size
            try simp at hz3
            obtain ⟨q3_0, l3_0, r3_0⟩ := aft hb3 (w.heap.size)
            go_wp2_with fail
            go_ret2
            exact ⟨by rw [HD.out]; rfl, bel⟩
        · have HE := Lib.hid (any_drop_end (p := fun t => oneB t v) hlt)
          have HD : Hid (C = .tuple #[.bool (c.any || c.neg), .int .i64 0]) := by show C = _; rw [HC.out, if_neg (by rw [hany.out, HE.out]; simp)]
          go_wp2_with fail
          go_ways
          all_goals go_ret2
          all_goals exact ⟨by rw [HD.out]; simp_all, bel⟩
end Go.Proofs.YtankkadnhdfpfaaGreatDoor

/- soffitref04.Sound, walked. -/
set_option linter.unusedSimpArgs false
set_option linter.unusedVariables false
namespace Go.Proofs.YtankkadnhdfpfaaGreatDoor
open Go.RowKit

set_option maxRecDepth 100000 in
set_option maxHeartbeats 800000 in
theorem rSound0 (v : Vl) (w : World) (hv : v.wf) (hk : v.k = 0) :
    Calls Tryz.prog 65 #[.agg #[.int .i64 v.k, .int .i64 v.n, .int .i64 v.s, .string v.t, .int .i64 v.i]] w fun e w' =>
      e = .returned (.bool (sndB v)) ∧ Below w.heap.size w w' := by
  obtain ⟨k, n, s, t, i⟩ := v
  simp only at hk
  subst hk
  obtain ⟨B, hB⟩ : ∃ B, sndB ⟨0, n, s, t, i⟩ = B := ⟨_, rfl⟩
  rw [hB]
  have HS : Hid (B = decide (n = 0 ∧ s = 0 ∧ t.toList = [] ∧ i = 0)) := hB.symm
  clear hB
  go_enter Tryz.func65, Tryz.ntmps65
  go_wp2_with fail
  all_goals go_ret
  all_goals exact ⟨ret_bool (by first | (rw [HS.out]; done) | (rw [HS.out]; simp [*]; done) | (rw [HS.out]; simp; omega) | (rw [HS.out]; simp [*]; omega) | (rw [HS.out]; simp only [List.isEmpty_iff, List.isEmpty_eq_false_iff] at *; simp [*]; done) | (rw [HS.out]; simp only [List.isEmpty_iff, List.isEmpty_eq_false_iff] at *; simp [*]; omega) | (rw [HS.out, Bool.eq_iff_iff]; simp only [List.isEmpty_iff, List.isEmpty_eq_false_iff] at *; simp [*]; done) | (exfalso; omega)), bel⟩

set_option maxRecDepth 100000 in
set_option maxHeartbeats 800000 in
theorem rSound3 (v : Vl) (w : World) (hv : v.wf) (hk : v.k = 3) :
    Calls Tryz.prog 65 #[.agg #[.int .i64 v.k, .int .i64 v.n, .int .i64 v.s, .string v.t, .int .i64 v.i]] w fun e w' =>
      e = .returned (.bool (sndB v)) ∧ Below w.heap.size w w' := by
  obtain ⟨k, n, s, t, i⟩ := v
  simp only at hk
  subst hk
  obtain ⟨B, hB⟩ : ∃ B, sndB ⟨3, n, s, t, i⟩ = B := ⟨_, rfl⟩
  rw [hB]
  have HS : Hid (B = decide (n = 0 ∧ s = 0 ∧ t.toList = [] ∧ (i = 0 ∨ i = 1))) := hB.symm
  clear hB
  go_enter Tryz.func65, Tryz.ntmps65
  go_wp2_with fail
  all_goals go_ret
  all_goals exact ⟨ret_bool (by first | (rw [HS.out]; done) | (rw [HS.out]; simp [*]; done) | (rw [HS.out]; simp; omega) | (rw [HS.out]; simp [*]; omega) | (rw [HS.out]; simp only [List.isEmpty_iff, List.isEmpty_eq_false_iff] at *; simp [*]; done) | (rw [HS.out]; simp only [List.isEmpty_iff, List.isEmpty_eq_false_iff] at *; simp [*]; omega) | (rw [HS.out, Bool.eq_iff_iff]; simp only [List.isEmpty_iff, List.isEmpty_eq_false_iff] at *; simp [*]; done) | (exfalso; omega)), bel⟩

set_option maxRecDepth 100000 in
set_option maxHeartbeats 800000 in
theorem rSound4 (v : Vl) (w : World) (hv : v.wf) (hk : v.k = 4) :
    Calls Tryz.prog 65 #[.agg #[.int .i64 v.k, .int .i64 v.n, .int .i64 v.s, .string v.t, .int .i64 v.i]] w fun e w' =>
      e = .returned (.bool (sndB v)) ∧ Below w.heap.size w w' := by
  obtain ⟨k, n, s, t, i⟩ := v
  simp only at hk
  subst hk
  obtain ⟨B, hB⟩ : ∃ B, sndB ⟨4, n, s, t, i⟩ = B := ⟨_, rfl⟩
  rw [hB]
  have HS : Hid (B = decide (n = 0 ∧ s = 0 ∧ t.toList = [] ∧ 0 ≤ i ∧ i ≤ 3652058)) := hB.symm
  clear hB
  go_enter Tryz.func65, Tryz.ntmps65
  go_wp2_with fail
  all_goals go_ret
  all_goals exact ⟨ret_bool (by first | (rw [HS.out]; done) | (rw [HS.out]; simp [*]; done) | (rw [HS.out]; simp; omega) | (rw [HS.out]; simp [*]; omega) | (rw [HS.out]; simp only [List.isEmpty_iff, List.isEmpty_eq_false_iff] at *; simp [*]; done) | (rw [HS.out]; simp only [List.isEmpty_iff, List.isEmpty_eq_false_iff] at *; simp [*]; omega) | (rw [HS.out, Bool.eq_iff_iff]; simp only [List.isEmpty_iff, List.isEmpty_eq_false_iff] at *; simp [*]; done) | (exfalso; omega)), bel⟩

set_option maxRecDepth 100000 in
set_option maxHeartbeats 800000 in
theorem rSound1 (v : Vl) (w : World) (hv : v.wf) (hk : v.k = 1) :
    Calls Tryz.prog 65 #[.agg #[.int .i64 v.k, .int .i64 v.n, .int .i64 v.s, .string v.t, .int .i64 v.i]] w fun e w' =>
      e = .returned (.bool (sndB v)) ∧ Below w.heap.size w w' := by
  obtain ⟨k, n, s, t, i⟩ := v
  simp only at hk
  subst hk
  obtain ⟨B, hB⟩ : ∃ B, sndB ⟨1, n, s, t, i⟩ = B := ⟨_, rfl⟩
  rw [hB]
  have HS : Hid (B = (decide (t.toList = [] ∧ i = 0) && decSnd n s)) := hB.symm
  clear hB
  by_cases hn : n = 0
  · subst hn
    go_enter Tryz.func65, Tryz.ntmps65
    go_wp2_with fail
    refine (ref01Sound_any 0 s _).mono ?_
    rintro e w1 ⟨rfl, hb1⟩
    have hz1 := hb1.size
    try simp at hz1
    obtain ⟨q1_0, l1_0, r1_0⟩ := aft hb1 (w.heap.size)
    obtain ⟨d, hd⟩ : ∃ d, decSnd 0 s = d := ⟨_, rfl⟩
    rw [hd]
    have HT : Hid (B = (decide (t.toList = [] ∧ i = 0) && d)) := by rw [← hd]; exact HS.out
    clear hd HS
    cases d
    · have HU : Hid (B = false) := by show B = _; rw [HT.out]; simp
      clear HT
      go_wp2_with fail
      all_goals go_ret
      all_goals exact ⟨ret_bool (by first | (rw [HU.out]; done) | (rw [HU.out]; simp [*]; done) | (rw [HU.out]; simp; omega) | (rw [HU.out]; simp [*]; omega) | (rw [HU.out]; simp only [List.isEmpty_iff, List.isEmpty_eq_false_iff] at *; simp [*]; done) | (rw [HU.out]; simp only [List.isEmpty_iff, List.isEmpty_eq_false_iff] at *; simp [*]; omega) | (rw [HU.out, Bool.eq_iff_iff]; simp only [List.isEmpty_iff, List.isEmpty_eq_false_iff] at *; simp [*]; done) | (exfalso; omega)), bel⟩
    · have HU : Hid (B = decide (t.toList = [] ∧ i = 0)) := by show B = _; rw [HT.out]; simp
      clear HT
      go_wp2_with fail
      all_goals go_ret
      all_goals exact ⟨ret_bool (by first | (rw [HU.out]; done) | (rw [HU.out]; simp [*]; done) | (rw [HU.out]; simp; omega) | (rw [HU.out]; simp [*]; omega) | (rw [HU.out]; simp only [List.isEmpty_iff, List.isEmpty_eq_false_iff] at *; simp [*]; done) | (rw [HU.out]; simp only [List.isEmpty_iff, List.isEmpty_eq_false_iff] at *; simp [*]; omega) | (rw [HU.out, Bool.eq_iff_iff]; simp only [List.isEmpty_iff, List.isEmpty_eq_false_iff] at *; simp [*]; done) | (exfalso; omega)), bel⟩
  · go_enter Tryz.func65, Tryz.ntmps65
    go_wp2_with fail
    refine (ref01Sound_any n s _).mono ?_
    rintro e w1 ⟨rfl, hb1⟩
    have hz1 := hb1.size
    try simp at hz1
    obtain ⟨q1_0, l1_0, r1_0⟩ := aft hb1 (w.heap.size)
    obtain ⟨d, hd⟩ : ∃ d, decSnd n s = d := ⟨_, rfl⟩
    rw [hd]
    have HT : Hid (B = (decide (t.toList = [] ∧ i = 0) && d)) := by rw [← hd]; exact HS.out
    clear hd HS
    cases d
    · have HU : Hid (B = false) := by show B = _; rw [HT.out]; simp
      clear HT
      go_wp2_with fail
      all_goals go_ret
      all_goals exact ⟨ret_bool (by first | (rw [HU.out]; done) | (rw [HU.out]; simp [*]; done) | (rw [HU.out]; simp; omega) | (rw [HU.out]; simp [*]; omega) | (rw [HU.out]; simp only [List.isEmpty_iff, List.isEmpty_eq_false_iff] at *; simp [*]; done) | (rw [HU.out]; simp only [List.isEmpty_iff, List.isEmpty_eq_false_iff] at *; simp [*]; omega) | (rw [HU.out, Bool.eq_iff_iff]; simp only [List.isEmpty_iff, List.isEmpty_eq_false_iff] at *; simp [*]; done) | (exfalso; omega)), bel⟩
    · have HU : Hid (B = decide (t.toList = [] ∧ i = 0)) := by show B = _; rw [HT.out]; simp
      clear HT
      go_wp2_with fail
      all_goals go_ret
      all_goals exact ⟨ret_bool (by first | (rw [HU.out]; done) | (rw [HU.out]; simp [*]; done) | (rw [HU.out]; simp; omega) | (rw [HU.out]; simp [*]; omega) | (rw [HU.out]; simp only [List.isEmpty_iff, List.isEmpty_eq_false_iff] at *; simp [*]; done) | (rw [HU.out]; simp only [List.isEmpty_iff, List.isEmpty_eq_false_iff] at *; simp [*]; omega) | (rw [HU.out, Bool.eq_iff_iff]; simp only [List.isEmpty_iff, List.isEmpty_eq_false_iff] at *; simp [*]; done) | (exfalso; omega)), bel⟩

set_option maxRecDepth 100000 in
set_option maxHeartbeats 800000 in
theorem rSound2 (v : Vl) (w : World) (hv : v.wf) (hk : v.k = 2) :
    Calls Tryz.prog 65 #[.agg #[.int .i64 v.k, .int .i64 v.n, .int .i64 v.s, .string v.t, .int .i64 v.i]] w fun e w' =>
      e = .returned (.bool (sndB v)) ∧ Below w.heap.size w w' := by
  obtain ⟨k, n, s, t, i⟩ := v
  simp only at hk
  subst hk
  obtain ⟨B, hB⟩ : ∃ B, sndB ⟨2, n, s, t, i⟩ = B := ⟨_, rfl⟩
  rw [hB]
  have HS : Hid (B = (decide (n = 0 ∧ s = 0 ∧ i = 0 ∧ t.size ≤ 256) && goodB t)) := hB.symm
  clear hB
  by_cases h0 : n = 0 ∧ s = 0 ∧ i = 0 ∧ t.size ≤ 256
  · obtain ⟨rfl, rfl, rfl, hz⟩ := h0
    have HT : Hid (B = goodB t) := by show B = _; rw [HS.out]; simp [hz]
    go_enter Tryz.func65, Tryz.ntmps65
    go_wp2_with fail
    refine (refGood_any t _ (by omega)).mono ?_
    rintro e w1 ⟨rfl, rfl⟩
    rw [← HT.out]
    go_wp2_with fail
    all_goals go_ret
    all_goals exact ⟨ret_bool (by first | rfl | (simp [*]; done) | (exfalso; omega)), bel⟩
  · have HT : Hid (B = false) := by show B = _; rw [HS.out]; simp only [h0]; rfl
    clear HS
    go_enter Tryz.func65, Tryz.ntmps65
    go_wp2_with fail
    go_ways
    all_goals try (exfalso; omega)
    go_goals
    all_goals go_ret
    all_goals exact ⟨ret_bool (by first | (rw [HT.out]; done) | (rw [HT.out]; simp [*]; done) | (rw [HT.out]; simp; omega) | (rw [HT.out]; simp [*]; omega) | (rw [HT.out]; simp only [List.isEmpty_iff, List.isEmpty_eq_false_iff] at *; simp [*]; done) | (rw [HT.out]; simp only [List.isEmpty_iff, List.isEmpty_eq_false_iff] at *; simp [*]; omega) | (rw [HT.out, Bool.eq_iff_iff]; simp only [List.isEmpty_iff, List.isEmpty_eq_false_iff] at *; simp [*]; done) | (exfalso; omega)), bel⟩

set_option maxRecDepth 100000 in
set_option maxHeartbeats 800000 in
theorem rSound5 (v : Vl) (w : World) (hv : v.wf) (h0 : ¬ v.k = 0) (h1 : ¬ v.k = 1) (h2 : ¬ v.k = 2) (h3 : ¬ v.k = 3) (h4 : ¬ v.k = 4) :
    Calls Tryz.prog 65 #[.agg #[.int .i64 v.k, .int .i64 v.n, .int .i64 v.s, .string v.t, .int .i64 v.i]] w fun e w' =>
      e = .returned (.bool (sndB v)) ∧ Below w.heap.size w w' := by
  obtain ⟨k, n, s, t, i⟩ := v
  simp only at h0 h1 h2 h3 h4
  have e0 : (k == 0) = false := by simp [h0]
  have e1 : (k == 1) = false := by simp [h1]
  have e2 : (k == 2) = false := by simp [h2]
  have e3 : (k == 3) = false := by simp [h3]
  have e4 : (k == 4) = false := by simp [h4]
  obtain ⟨B, hB⟩ : ∃ B, sndB ⟨k, n, s, t, i⟩ = B := ⟨_, rfl⟩
  rw [hB]
  have HS : Hid (B = false) := by show B = _; rw [← hB]; simp only [sndB, h0, h1, h2, h3, h4, if_false]
  clear h0 h1 h2 h3 h4 hB
  go_enter Tryz.func65, Tryz.ntmps65
  go_wp2_with fail
  all_goals go_ret
  all_goals exact ⟨ret_bool (by first | (rw [HS.out]; done) | (rw [HS.out]; simp [*]; done) | (rw [HS.out]; simp; omega) | (rw [HS.out]; simp [*]; omega) | (rw [HS.out]; simp only [List.isEmpty_iff, List.isEmpty_eq_false_iff] at *; simp [*]; done) | (rw [HS.out]; simp only [List.isEmpty_iff, List.isEmpty_eq_false_iff] at *; simp [*]; omega) | (rw [HS.out, Bool.eq_iff_iff]; simp only [List.isEmpty_iff, List.isEmpty_eq_false_iff] at *; simp [*]; done) | (exfalso; omega)), bel⟩

theorem rSound_any (v : Vl) (w : World) (hv : v.wf) :
    Calls Tryz.prog 65 #[.agg #[.int .i64 v.k, .int .i64 v.n, .int .i64 v.s, .string v.t, .int .i64 v.i]] w fun e w' =>
      e = .returned (.bool (sndB v)) ∧ Below w.heap.size w w' := by
  by_cases h0 : v.k = 0
  · exact rSound0 v w hv h0
  by_cases h1 : v.k = 1
  · exact rSound1 v w hv h1
  by_cases h2 : v.k = 2
  · exact rSound2 v w hv h2
  by_cases h3 : v.k = 3
  · exact rSound3 v w hv h3
  by_cases h4 : v.k = 4
  · exact rSound4 v w hv h4
  exact rSound5 v w hv h0 h1 h2 h3 h4
end Go.Proofs.YtankkadnhdfpfaaGreatDoor

/- Rows of digits: soffitref01.size, digits, long, less, Compare, walked. -/
set_option linter.unusedSimpArgs false
set_option linter.unusedVariables false
namespace Go.Proofs.YtankkadnhdfpfaaGreatDoor
open Go.RowKit

def rowA (f : Nat → Int) (n : Nat) : Array Value := ((List.range n).map fun j => Value.int .i64 (f j)).toArray
theorem rowA_get (f : Nat → Int) (n j : Nat) (h : j < n) : (rowA f n)[j]? = some (.int .i64 (f j)) := by
  simp [rowA, h]
theorem rowA_congr {f g : Nat → Int} {n : Nat} (h : ∀ j, j < n → f j = g j) : rowA f n = rowA g n := by
  unfold rowA
  congr 1
  apply List.map_congr_left
  intro j hj
  rw [h j (List.mem_range.1 hj)]
theorem rowA_set (f : Nat → Int) (n i : Nat) (x : Int) : (rowA f n).setIfInBounds i (.int .i64 x) = rowA (fun j => if j = i then x else f j) n := by
  apply Array.ext_getElem?
  intro j
  rw [Array.getElem?_setIfInBounds]
  by_cases hj : j < n
  · by_cases e : i = j
    · subst e
      rw [if_pos rfl, rowA_get _ _ _ hj]
      simp [rowA, hj]
    · rw [if_neg e, rowA_get _ _ _ hj, rowA_get _ _ _ hj, if_neg (by omega)]
  · have h1 : (rowA f n)[j]? = none := Array.getElem?_eq_none (by simp [rowA]; omega)
    have h2 : (rowA (fun j => if j = i then x else f j) n)[j]? = none := Array.getElem?_eq_none (by simp [rowA]; omega)
    rw [h1, h2]
    by_cases e : i = j
    · subst e; rw [if_pos rfl, if_neg (by simp [rowA]; omega)]
    · rw [if_neg e]
def RowIs (w : World) (g : Nat) (f : Nat → Int) (n : Nat) : Prop := ∀ j, j < n → w.cell? ⟨g, j, none⟩ = some (.int .i64 (f j))
theorem RowIs.below {w w' : World} {g n : Nat} {f : Nat → Int} (h : RowIs w g f n) (hb : Below w.heap.size w w') : RowIs w' g f n := fun j hj => cell_below hb (h j hj)

set_option maxHeartbeats 400000 in
theorem refSize_any (n : Int) (w : World) (h1 : -9223372036854775807 ≤ n) (h2 : n ≤ 9223372036854775807) :
    Calls Tryz.prog 194 #[.int .i64 n] w fun e w' => e = .returned (.int .i64 n.natAbs) ∧ w = w' := by
  obtain ⟨m, hm⟩ : ∃ m, n.natAbs = m := ⟨_, rfl⟩
  rw [hm]
  by_cases h : n < 0
  · have hm2 : (m : Int) = -n := by omega
    have HM := Lib.hid hm2
    clear hm hm2
    go_enter Tryz.func194, Tryz.ntmps194
    go_wp2_with fail
    go_ret
    exact ⟨ret_int HM.out.symm, rfl⟩
  · have hm2 : (m : Int) = n := by omega
    have HM := Lib.hid hm2
    clear hm hm2
    have h0 : 0 ≤ n := by omega
    go_enter Tryz.func194, Tryz.ntmps194
    go_wp2_with fail
    go_ret
    exact ⟨ret_int HM.out.symm, rfl⟩

theorem dig_succ (n k : Nat) : n / 10 ^ (k + 1) = n / 10 ^ k / 10 := by rw [Nat.pow_succ, Nat.div_div_eq_div_mul]

set_option maxHeartbeats 800000 in
theorem digits_any (n : Nat) (w : World) (hn : n ≤ 9223372036854775807) :
    Calls Tryz.prog 193 #[.int .i64 n, .int .i64 12] w fun e w' =>
      e = .returned (.slice (some ⟨w.heap.size, 0, none⟩) 12 12) ∧ w' = w.alloc (.cells (rowA (fun j => (dig n j : Int)) 12) 3) := by
  have hmk : ∀ W, (Instr.makeSlice 141 (.int .i64 12) (.int .i64 12)).run Tryz.prog W = .ok (.slice (some ⟨W.heap.size, 0, none⟩) 12 12) (W.alloc (.cells (rowA (fun _ => 0) 12) 3)) := fun _ => by kernel_rfl
  go_enter Tryz.func193, Tryz.ntmps193
  go_wp2_with fail
  go_loopg [0, 6] 12 (fun k nv iv wr => ∃ j : Nat, j ≤ 12 ∧ 12 - j ≤ k ∧ nv = .int .i64 ((n / 10 ^ j : Nat) : Int) ∧ iv = .int .i64 j ∧ wr = w.alloc (.cells (rowA (fun i => if i < j then (dig n i : Int) else 0) 12) 3))
  case atStart => exact ⟨0, by omega, by omega, by simp, rfl, rfl⟩
  case round =>
    obtain ⟨j, hj, hjk, rfl, rfl, rfl⟩ := hrel
    have hle : n / 10 ^ j ≤ n := Nat.div_le_self _ _
    have hsucc := Lib.hid (dig_succ n j)
    have hdg : Hid (n / 10 ^ j % 10 = dig n j) := rfl
    generalize hm : n / 10 ^ j = m at *
    have HM := Lib.hid hm
    clear hm
    by_cases hlt : j < 12
    · have hcell := rowA_get (fun i => if i < j then (dig n i : Int) else 0) 12 j hlt
      have hset := fun x => rowA_set (fun i => if i < j then (dig n i : Int) else 0) 12 j x
      have HSET := Lib.hid hset
      clear hset
      generalize hr : rowA (fun i => if i < j then (dig n i : Int) else 0) 12 = R at *
      have HR := Lib.hid hr
      clear hr
      go_wp2_with fail
      go_roundg (gk - 1)
      case measure => omega
      case rel =>
        refine ⟨j + 1, by omega, by omega, ?_, by go_num, ?_⟩
        · rw [hsucc.out]; go_num
        · have e : ((m : Int) % 10) = ((dig n j : Nat) : Int) := by rw [← hdg.out]; omega
          rw [e, HSET.out]
          rw [rowA_congr (g := fun i => if i < j + 1 then ((dig n i : Nat) : Int) else 0)]
          intro i hi
          by_cases h1 : i = j
          · subst h1; simp
          · simp only [h1, if_false]
            by_cases h2 : i < j
            · rw [if_pos h2, if_pos (by omega)]
            · rw [if_neg h2, if_neg (by omega)]
    · go_wp2_with fail
      go_ret
      refine ⟨rfl, ?_⟩
      rw [rowA_congr (g := fun i => ((dig n i : Nat) : Int))]
      intro i hi
      show (if i < j then _ else _) = _
      rw [if_pos (by omega)]

theorem RowIs.set_ {w : World} {g n : Nat} {f : Nat → Int} (h : RowIs w g f n) (i : Nat) (hi : i < n) (x : Int) : RowIs (w.setCell ⟨g, i, none⟩ (.int .i64 x)) g (fun j => if j = i then x else f j) n := by
  intro j hj
  by_cases e : j = i
  · subst e
    rw [World.cell?_setCell_same _ _ _ (h j hj)]
    show _ = some (Value.int .i64 (if j = j then x else f j))
    rw [if_pos rfl]
  · rw [World.cell?_setCell_other _ _ _ _ (by intro hh; injection hh with _ h2; omega), h j hj]
    show _ = some (Value.int .i64 (if j = i then x else f j))
    rw [if_neg e]
theorem RowIs.far {w : World} {g g' n : Nat} {f : Nat → Int} (h : RowIs w g f n) (hg : g' ≠ g) (i : Nat) (v : Value) : RowIs (w.setCell ⟨g', i, none⟩ v) g f n := by
  intro j hj
  rw [World.cell?_setCell_other _ _ _ _ (by intro hh; injection hh with h1; omega), h j hj]
theorem RowIs.congr {w : World} {g n : Nat} {f f' : Nat → Int} (h : RowIs w g f n) (hf : ∀ j, j < n → f j = f' j) : RowIs w g f' n := fun j hj => by rw [h j hj, hf j hj]
theorem rowA_RowIs {w : World} {g n : Nat} {f : Nat → Int} {t : TypeId} {fr : Nat × Nat} (h : w.heap[g]? = some (.cells (rowA f n) t fr)) : RowIs w g f n := fun j hj => by
  rw [cell_of_block h, rowA_get _ _ _ hj]
theorem frozen_setCell (w : World) (a b : Addr) (v : Value) : (w.setCell a v).frozen? b = w.frozen? b := by
  simp only [World.setCell, World.frozen?, Array.getElem?_modify]
  by_cases hb : a.block = b.block
  · rw [if_pos hb]
    cases hh : w.heap[b.block]? with
    | none => rfl
    | some o => cases o <;> rfl
  · rw [if_neg hb]
def LongIs (n s : Int) (w : World) (e : Ending) (w' : World) : Prop :=
  ∃ g, e = .returned (.slice (some ⟨g, 0, none⟩) 60 60) ∧ RowIs w' g (fun j => (longF n.natAbs s.toNat j : Int)) 60 ∧ Below w.heap.size w w'
def longTo (m t j : Nat) (i : Nat) : Int := if 12 - t ≤ i ∧ i < 12 - t + j then (dig m (i - (12 - t)) : Int) else 0

set_option maxHeartbeats 1600000 in
theorem long_any (n s : Int) (w : World) (h1 : -999999999999 ≤ n) (h2 : n ≤ 999999999999) (h3 : 0 ≤ s) (h4 : s ≤ 6) :
    Calls Tryz.prog 168 #[.agg #[.int .i64 n, .int .i64 s]] w (LongIs n s w) := by
  obtain ⟨t, rfl⟩ : ∃ t : Nat, s = (t : Int) := ⟨s.toNat, by omega⟩
  have hmk : ∀ W, (Instr.makeSlice 141 (.int .i64 60) (.int .i64 60)).run Tryz.prog W = .ok (.slice (some ⟨W.heap.size, 0, none⟩) 60 60) (W.alloc (.cells (rowA (fun _ => 0) 60) 3)) := fun _ => by kernel_rfl
  obtain ⟨m, hm⟩ : ∃ m, n.natAbs = m := ⟨_, rfl⟩
  have HM := Lib.hid hm
  have hm2 : m ≤ 999999999999 := by omega
  clear hm
  go_enter Tryz.func168, Tryz.ntmps168
  go_wp2_with fail
  refine (refSize_any n _ (by omega) (by omega)).mono ?_
  rintro e w1 ⟨rfl, rfl⟩
  rw [HM.out]
  go_wp2_with fail
  refine (digits_any m _ (by omega)).mono ?_
  rintro e w1 ⟨rfl, rfl⟩
  go_wp2_with fail
  go_loopg [5] 12 (fun k iv wr => ∃ j : Nat, j ≤ 12 ∧ 12 - j ≤ k ∧ iv = .int .i64 j ∧ wr.cell? ⟨w.heap.size, 1, none⟩ = some (.int .i64 t) ∧ RowIs wr (w.heap.size + 1) (longTo m t j) 60 ∧ (∀ o, wr.frozen? ⟨w.heap.size + 1, o, none⟩ = false) ∧ RowIs wr (w.heap.size + 1 + 1) (fun j => (dig m j : Int)) 12 ∧ w.heap.size + 3 ≤ wr.heap.size ∧ Below w.heap.size w wr)
  case atStart =>
    refine ⟨0, by omega, by omega, rfl, by simp [go_sem], ?_, fun o => by simp [go_sem], ?_, by simp, bel⟩
    · intro i hi
      have e : longTo m t 0 i = 0 := by unfold longTo; rw [if_neg (by omega)]
      rw [e]
      simp only [go_sem, sz_alloc, World.cell?_alloc_past, World.cell?_alloc_at, Nat.lt_succ_self, Nat.lt_add_one]
      exact rowA_get _ _ _ hi
    · intro i hi
      simp only [go_sem, sz_alloc, World.cell?_alloc_at]
      exact rowA_get _ _ _ hi
  case round =>
    obtain ⟨j, hj, hjk, rfl, hsc, hrl, hfr, hrd, hsz, hbel⟩ := hrel
    by_cases hlt : j < 12
    · have hD := hrd j hlt
      have hR := hrl (j + 12 - t) (by omega)
      have hF := hfr (j + 12 - t)
      have HRL := Lib.hid hrl
      have HRD := Lib.hid hrd
      have HFR := Lib.hid hfr
      clear hrl hrd hfr
      have hi1 : IntKind.i64.wrap ((j : Int) + 12) = (j : Int) + 12 := IntWalk.i64_in _ (by omega)
      have hi2 : IntKind.i64.wrap ((j : Int) + 12 - (t : Int)) = (j : Int) + 12 - (t : Int) := IntWalk.i64_in _ (by omega)
      have hi3 : ((j : Int) + 12 - (t : Int)).toNat = j + 12 - t := by omega
      have hi4 : (0 : Int) ≤ (j : Int) + 12 - (t : Int) := by omega
      have hi5 : (j : Int) + 12 - (t : Int) < 60 := by omega
      have hi6 : (j : Int) < 12 := by omega
      go_wp2_with fail
      go_region
      clear hi1 hi2 hi3 hi4 hi5 hi6
      go_wp2_with fail
      go_roundg (gk - 1)
      case measure => omega
      case rel =>
        refine ⟨j + 1, by omega, by omega, by go_num, ?_, ?_, fun o => (frozen_setCell _ _ _ _).trans (HFR.out o), ?_, (by first | omega | (simp only [sz_alloc, sz_set, sz_drew, sz_drewN, sz_iterAt, sz_iter] at *; omega) | (simp; done) | (simp; omega) | (simp at *; omega)), bel⟩
        · show World.cell? (wr.setCell _ _) _ = _
          rw [World.cell?_setCell_other _ _ _ _ (by intro hh; injection hh with h1; omega)]
          exact hsc
        · have hx : RowIs wr.drew (w.heap.size + 1) (longTo m t j) 60 := HRL.out
          refine (hx.set_ (j + 12 - t) (by omega) _).congr fun i hi => ?_
          unfold longTo
          by_cases e : i = j + 12 - t
          · subst e
            rw [if_pos rfl, if_pos (by omega), show j + 12 - t - (12 - t) = j by omega]
          · rw [if_neg e]
            by_cases e2 : 12 - t ≤ i ∧ i < 12 - t + j
            · rw [if_pos e2, if_pos (by omega)]
            · rw [if_neg e2, if_neg (by omega)]
        · have hx : RowIs wr.drew (w.heap.size + 1 + 1) (fun j => (dig m j : Int)) 12 := HRD.out
          exact hx.far (by omega) _ _
    · obtain rfl : j = 12 := by omega
      go_wp2_with fail
      go_ret
      refine ⟨w.heap.size + 1, rfl, hrl.congr fun i hi => ?_, hbel⟩
      unfold longTo longF
      rw [Int.toNat_natCast, HM.out]
      by_cases e : 12 - t ≤ i ∧ i < 12 - t + 12
      · rw [if_pos e, if_pos (by omega)]
      · rw [if_neg e, if_neg (by omega)]; rfl

set_option maxHeartbeats 800000 in
theorem refLess_any (g h : Nat) (a b : Nat → Nat) (w : World) (ha : RowIs w g (fun j => (a j : Int)) 60) (hb : RowIs w h (fun j => (b j : Int)) 60) :
    Calls Tryz.prog 167 #[.slice (some ⟨g, 0, none⟩) 60 60, .slice (some ⟨h, 0, none⟩) 60 60] w fun e w' => e = .returned (.bool (lessD a b 60)) ∧ Below w.heap.size w w' := by
  obtain ⟨B, hB⟩ : ∃ B, lessD a b 60 = B := ⟨_, rfl⟩
  rw [hB]
  have HB := Lib.hid hB
  clear hB
  have HA := Lib.hid ha
  have HC := Lib.hid hb
  clear ha hb
  go_enter Tryz.func167, Tryz.ntmps167
  go_wp2_with fail
  go_loopg [5] 60 (fun k iv wr => k ≤ 60 ∧ Hid (lessD a b k = B) ∧ iv = .int .i64 ((k : Int) - 1) ∧ ∃ q, wr = w.drewN q)
  case atStart => exact ⟨by omega, HB, rfl, 0, rfl⟩
  case round =>
    obtain ⟨hk, hl, rfl, q, rfl⟩ := hrel
    rcases gk with _ | k
    · go_wp2_with fail
      go_ret
      exact ⟨ret_bool hl.out, bel⟩
    · have hl2 : Hid ((if a k = b k then lessD a b k else decide (a k < b k)) = B) := hl
      have ca : w.cell? ⟨g, k, none⟩ = some (.int .i64 (a k : Int)) := HA.out k (by omega)
      have cb : w.cell? ⟨h, k, none⟩ = some (.int .i64 (b k : Int)) := HC.out k (by omega)
      generalize hx : a k = x at *
      generalize hy : b k = y at *
      clear hx hy hl
      have e0 : ((k + 1 : Nat) : Int) - 1 = (k : Int) := by omega
      rw [e0]
      have e1 : (0 : Int) ≤ (k : Int) := by omega
      have e2 : (k : Int) < 60 := by omega
      by_cases he : x = y
      · have hb1 : ((x : Int) != (y : Int)) = false := by simp [he]
        have HL : Hid (lessD a b k = B) := by show lessD a b k = B; rw [← hl2.out, if_pos he]
        clear he hl2
        go_wp2_with fail
        go_region
        go_wp2_with fail
        go_roundg k
        case measure => omega
        case rel => exact ⟨by omega, HL, by go_num, q + 1, rfl⟩
      · have hb1 : ((x : Int) != (y : Int)) = true := by simp; omega
        have HL : Hid (decide (x < y) = B) := by show _ = B; rw [← hl2.out, if_neg he]
        clear he hl2
        go_wp2_with fail
        go_region
        go_wp2_with fail
        go_region
        go_wp2_with fail
        go_ret
        exact ⟨ret_bool (by first | (rw [← HL.out]; done) | (rw [← HL.out]; simp; done)), bel⟩

theorem RowIs.lt {w : World} {g : Nat} {f : Nat → Int} (h : RowIs w g f 60) : g < w.heap.size := cell_lt (h 0 (by omega))

set_option maxHeartbeats 3200000 in
theorem refCmp_yes (n s n' s' : Int) (w : World) (h : decSnd n s = true) (h' : decSnd n' s' = true) :
    Calls Tryz.prog 153 #[.agg #[.int .i64 n, .int .i64 s], .agg #[.int .i64 n', .int .i64 s']] w fun e w' => e = .returned (.tuple #[.int .i64 (refCmp n s n' s'), .int .i64 0]) ∧ Below w.heap.size w w' := by
  obtain ⟨C, hC⟩ : ∃ C, refCmp n s n' s' = C := ⟨_, rfl⟩
  rw [hC]
  obtain ⟨a1, a2, a3, a4, -⟩ := decSnd_of h
  obtain ⟨b1, b2, b3, b4, -⟩ := decSnd_of h'
  have H1 := Lib.hid h
  have H2 := Lib.hid h'
  clear h h'
  have HC : Hid (C = if n < 0 ∧ 0 ≤ n' then -1 else if 0 ≤ n ∧ n' < 0 then 1 else
    if lessD (longF n.natAbs s.toNat) (longF n'.natAbs s'.toNat) 60 = true then (if n < 0 then 1 else -1)
    else if lessD (longF n'.natAbs s'.toNat) (longF n.natAbs s.toNat) 60 = true then (if n < 0 then -1 else 1) else 0) := hC.symm
  clear hC
  generalize hL : lessD (longF n.natAbs s.toNat) (longF n'.natAbs s'.toNat) 60 = L at *
  generalize hM : lessD (longF n'.natAbs s'.toNat) (longF n.natAbs s.toNat) 60 = M at *
  have HL := Lib.hid hL
  have HM := Lib.hid hM
  clear hL hM
  cases t1 : decide (n < 0) <;> cases t2 : decide (n' < 0)
  all_goals
    have s1 := t1
    have s2 := t2
    simp only [decide_eq_true_eq, decide_eq_false_iff_not] at s1 s2
    have t3 : decide (0 ≤ n) = !decide (n < 0) := by rw [← decide_not, decide_eq_decide]; omega
    have t4 : decide (0 ≤ n') = !decide (n' < 0) := by rw [← decide_not, decide_eq_decide]; omega
    rw [t1] at t3
    rw [t2] at t4
    simp only [Bool.not_false, Bool.not_true] at t3 t4
    go_enter Tryz.func153, Tryz.ntmps153
    go_wp2_with fail
    refine (ref01Sound_any n s _).mono ?_
    rintro e w1 ⟨rfl, hb1⟩
    rw [H1.out]
    have hz1 := hb1.size
    try simp at hz1
    obtain ⟨q1_0, l1_0, r1_0⟩ := aft hb1 (w.heap.size)
    obtain ⟨q1_1, l1_1, r1_1⟩ := aft hb1 (w.heap.size + 1)
    go_wp2_with fail
    refine (ref01Sound_any n' s' _).mono ?_
    rintro e w2 ⟨rfl, hb2⟩
    rw [H2.out]
    have hz2 := hb2.size
    try simp at hz2
    obtain ⟨q2_0, l2_0, r2_0⟩ := aft hb2 (w.heap.size)
    obtain ⟨q2_1, l2_1, r2_1⟩ := aft hb2 (w.heap.size + 1)
    go_wp2_with fail
    try (go_ret2; exact ⟨by rw [HC.out]; simp [*]; done, bel⟩)
  · have HD : Hid (C = if L = true then -1 else if M = true then 1 else 0) := by show C = _; rw [HC.out, if_neg (by omega), if_neg (by omega)]; simp only [show ¬ n < 0 by omega, if_false]
    clear HC
    have kk0 : w2.cell? ⟨w.heap.size, 0, none⟩ = some (.int .i64 n) := cel
    have kk1 : w2.cell? ⟨w.heap.size, 1, none⟩ = some (.int .i64 s) := cel
    have kk2 : w2.cell? ⟨w.heap.size + 1, 0, none⟩ = some (.int .i64 n') := cel
    have kk3 : w2.cell? ⟨w.heap.size + 1, 1, none⟩ = some (.int .i64 s') := cel
    go_region_held3 (fun w' => Below w2.heap.size w2 w' ∧ w'.cell? ⟨w.heap.size, 0, none⟩ = some (.int .i64 n) ∧ w'.cell? ⟨w.heap.size, 1, none⟩ = some (.int .i64 s) ∧ w'.cell? ⟨w.heap.size + 1, 0, none⟩ = some (.int .i64 n') ∧ w'.cell? ⟨w.heap.size + 1, 1, none⟩ = some (.int .i64 s')) ((refine and_keep ?_ (fun hk => ⟨keep_cell hk l2_0 kk0, keep_cell hk l2_0 kk1, keep_cell hk l2_1 kk2, keep_cell hk l2_1 kk3⟩); exact bel))
      (first
        | (go_at_call 168; refine (long_any _ _ _ (by omega) (by omega) (by omega) (by omega)).mono ?_; rintro e w' hL; obtain ⟨gg, rfl, hrow, hb'⟩ := hL)
        | (go_at_call 167; refine (refLess_any _ _ (longF n.natAbs s.toNat) (longF n'.natAbs s'.toNat) _ (by first | assumption | exact RowIs.below (by assumption) (by assumption)) (by first | assumption | exact RowIs.below (by assumption) (by assumption))).mono ?_; rintro e w' ⟨rfl, hb'⟩))
    rw [HL.out]
    have hS : Below w2.heap.size w2 _ ∧ _ := (by assumption)
    have hbwz := hS.1
    clear hS
    have hzz := hbwz.size
    have qz_0 := fun o => (hbwz.cell (p := ⟨w.heap.size, o, none⟩) l2_0).trans (q2_0 o)
    have rz_0 := fun o => (hbwz.frozen (p := ⟨w.heap.size, o, none⟩) l2_0).trans (r2_0 o)
    have lz_0 := Nat.lt_of_lt_of_le l2_0 hzz
    have qz_1 := fun o => (hbwz.cell (p := ⟨w.heap.size + 1, o, none⟩) l2_1).trans (q2_1 o)
    have rz_1 := fun o => (hbwz.frozen (p := ⟨w.heap.size + 1, o, none⟩) l2_1).trans (r2_1 o)
    have lz_1 := Nat.lt_of_lt_of_le l2_1 hzz
    cases L
    · go_wp2_with fail
      have kk0 : w2.cell? ⟨w.heap.size, 0, none⟩ = some (.int .i64 n) := cel
      have kk1 : w2.cell? ⟨w.heap.size, 1, none⟩ = some (.int .i64 s) := cel
      have kk2 : w2.cell? ⟨w.heap.size + 1, 0, none⟩ = some (.int .i64 n') := cel
      have kk3 : w2.cell? ⟨w.heap.size + 1, 1, none⟩ = some (.int .i64 s') := cel
      go_region_held3 (fun w' => Below w2.heap.size w2 w' ∧ w'.cell? ⟨w.heap.size, 0, none⟩ = some (.int .i64 n) ∧ w'.cell? ⟨w.heap.size, 1, none⟩ = some (.int .i64 s) ∧ w'.cell? ⟨w.heap.size + 1, 0, none⟩ = some (.int .i64 n') ∧ w'.cell? ⟨w.heap.size + 1, 1, none⟩ = some (.int .i64 s')) ((refine and_keep ?_ (fun hk => ⟨keep_cell hk l2_0 kk0, keep_cell hk l2_0 kk1, keep_cell hk l2_1 kk2, keep_cell hk l2_1 kk3⟩); exact bel))
        (first
          | (go_at_call 168; refine (long_any _ _ _ (by omega) (by omega) (by omega) (by omega)).mono ?_; rintro e w' hL; obtain ⟨gg, rfl, hrow, hb'⟩ := hL)
          | (go_at_call 167; refine (refLess_any _ _ (longF n'.natAbs s'.toNat) (longF n.natAbs s.toNat) _ (by first | assumption | exact RowIs.below (by assumption) (by assumption)) (by first | assumption | exact RowIs.below (by assumption) (by assumption))).mono ?_; rintro e w' ⟨rfl, hb'⟩))
      rw [HM.out]
      cases M
      · have HX : Hid (C = 0) := HD.out
        go_wp2_with fail
        go_ret2
        exact ⟨by rw [HX.out]; rfl, bel⟩
      · have HX : Hid (C = 1) := HD.out
        go_wp2_with fail
        go_ret2
        exact ⟨by rw [HX.out]; rfl, bel⟩
    · have HX : Hid (C = -1) := HD.out
      go_wp2_with fail
      go_ret2
      exact ⟨by rw [HX.out]; rfl, bel⟩
  · have HD : Hid (C = if L = true then 1 else if M = true then -1 else 0) := by show C = _; rw [HC.out, if_neg (by omega), if_neg (by omega)]; simp only [show n < 0 by omega, if_true]
    clear HC
    have kk0 : w2.cell? ⟨w.heap.size, 0, none⟩ = some (.int .i64 n) := cel
    have kk1 : w2.cell? ⟨w.heap.size, 1, none⟩ = some (.int .i64 s) := cel
    have kk2 : w2.cell? ⟨w.heap.size + 1, 0, none⟩ = some (.int .i64 n') := cel
    have kk3 : w2.cell? ⟨w.heap.size + 1, 1, none⟩ = some (.int .i64 s') := cel
    go_region_held3 (fun w' => Below w2.heap.size w2 w' ∧ w'.cell? ⟨w.heap.size, 0, none⟩ = some (.int .i64 n) ∧ w'.cell? ⟨w.heap.size, 1, none⟩ = some (.int .i64 s) ∧ w'.cell? ⟨w.heap.size + 1, 0, none⟩ = some (.int .i64 n') ∧ w'.cell? ⟨w.heap.size + 1, 1, none⟩ = some (.int .i64 s')) ((refine and_keep ?_ (fun hk => ⟨keep_cell hk l2_0 kk0, keep_cell hk l2_0 kk1, keep_cell hk l2_1 kk2, keep_cell hk l2_1 kk3⟩); exact bel))
      (first
        | (go_at_call 168; refine (long_any _ _ _ (by omega) (by omega) (by omega) (by omega)).mono ?_; rintro e w' hL; obtain ⟨gg, rfl, hrow, hb'⟩ := hL)
        | (go_at_call 167; refine (refLess_any _ _ (longF n.natAbs s.toNat) (longF n'.natAbs s'.toNat) _ (by first | assumption | exact RowIs.below (by assumption) (by assumption)) (by first | assumption | exact RowIs.below (by assumption) (by assumption))).mono ?_; rintro e w' ⟨rfl, hb'⟩))
    rw [HL.out]
    have hS : Below w2.heap.size w2 _ ∧ _ := (by assumption)
    have hbwz := hS.1
    clear hS
    have hzz := hbwz.size
    have qz_0 := fun o => (hbwz.cell (p := ⟨w.heap.size, o, none⟩) l2_0).trans (q2_0 o)
    have rz_0 := fun o => (hbwz.frozen (p := ⟨w.heap.size, o, none⟩) l2_0).trans (r2_0 o)
    have lz_0 := Nat.lt_of_lt_of_le l2_0 hzz
    have qz_1 := fun o => (hbwz.cell (p := ⟨w.heap.size + 1, o, none⟩) l2_1).trans (q2_1 o)
    have rz_1 := fun o => (hbwz.frozen (p := ⟨w.heap.size + 1, o, none⟩) l2_1).trans (r2_1 o)
    have lz_1 := Nat.lt_of_lt_of_le l2_1 hzz
    cases L
    · go_wp2_with fail
      have kk0 : w2.cell? ⟨w.heap.size, 0, none⟩ = some (.int .i64 n) := cel
      have kk1 : w2.cell? ⟨w.heap.size, 1, none⟩ = some (.int .i64 s) := cel
      have kk2 : w2.cell? ⟨w.heap.size + 1, 0, none⟩ = some (.int .i64 n') := cel
      have kk3 : w2.cell? ⟨w.heap.size + 1, 1, none⟩ = some (.int .i64 s') := cel
      go_region_held3 (fun w' => Below w2.heap.size w2 w' ∧ w'.cell? ⟨w.heap.size, 0, none⟩ = some (.int .i64 n) ∧ w'.cell? ⟨w.heap.size, 1, none⟩ = some (.int .i64 s) ∧ w'.cell? ⟨w.heap.size + 1, 0, none⟩ = some (.int .i64 n') ∧ w'.cell? ⟨w.heap.size + 1, 1, none⟩ = some (.int .i64 s')) ((refine and_keep ?_ (fun hk => ⟨keep_cell hk l2_0 kk0, keep_cell hk l2_0 kk1, keep_cell hk l2_1 kk2, keep_cell hk l2_1 kk3⟩); exact bel))
        (first
          | (go_at_call 168; refine (long_any _ _ _ (by omega) (by omega) (by omega) (by omega)).mono ?_; rintro e w' hL; obtain ⟨gg, rfl, hrow, hb'⟩ := hL)
          | (go_at_call 167; refine (refLess_any _ _ (longF n'.natAbs s'.toNat) (longF n.natAbs s.toNat) _ (by first | assumption | exact RowIs.below (by assumption) (by assumption)) (by first | assumption | exact RowIs.below (by assumption) (by assumption))).mono ?_; rintro e w' ⟨rfl, hb'⟩))
      rw [HM.out]
      cases M
      · have HX : Hid (C = 0) := HD.out
        go_wp2_with fail
        go_ret2
        exact ⟨by rw [HX.out]; rfl, bel⟩
      · have HX : Hid (C = -1) := HD.out
        go_wp2_with fail
        go_ret2
        exact ⟨by rw [HX.out]; rfl, bel⟩
    · have HX : Hid (C = 1) := HD.out
      go_wp2_with fail
      go_ret2
      exact ⟨by rw [HX.out]; rfl, bel⟩

set_option maxHeartbeats 800000 in
theorem ref01Cmp_any (n s n' s' : Int) (w : World) :
    Calls Tryz.prog 153 #[.agg #[.int .i64 n, .int .i64 s], .agg #[.int .i64 n', .int .i64 s']] w fun e w' => e = .returned (cmpRes n s n' s') ∧ Below w.heap.size w w' := by
  cases h : decSnd n s
  · have HC := Lib.hid (cmpRes_no (n := n) (s := s) (n' := n') (s' := s') (by rw [h]; rfl))
    go_enter Tryz.func153, Tryz.ntmps153
    go_wp2_with fail
    refine (ref01Sound_any n s _).mono ?_
    rintro e w1 ⟨rfl, hb1⟩
    rw [h]
    clear h
    go_wp2_with fail
    go_ret2
    exact ⟨by rw [HC.out]; rfl, bel⟩
  · cases h' : decSnd n' s'
    · have HC := Lib.hid (cmpRes_no (n := n) (s := s) (n' := n') (s' := s') (by rw [h, h']; rfl))
      go_enter Tryz.func153, Tryz.ntmps153
      go_wp2_with fail
      refine (ref01Sound_any n s _).mono ?_
      rintro e w1 ⟨rfl, hb1⟩
      rw [h]
      clear h
      have hz1 := hb1.size
      try simp at hz1
      obtain ⟨q1_0, l1_0, r1_0⟩ := aft hb1 (w.heap.size)
      obtain ⟨q1_1, l1_1, r1_1⟩ := aft hb1 (w.heap.size + 1)
      go_wp2_with fail
      refine (ref01Sound_any n' s' _).mono ?_
      rintro e w2 ⟨rfl, hb2⟩
      rw [h']
      clear h'
      go_wp2_with fail
      go_ret2
      exact ⟨by rw [HC.out]; rfl, bel⟩
    · refine (refCmp_yes n s n' s' w h h').mono fun e w' ⟨he, hb⟩ => ⟨?_, hb⟩
      rw [he, cmpRes_yes h h', refCmp_eq h h']
end Go.Proofs.YtankkadnhdfpfaaGreatDoor

/- soffitref04.Compare, walked. -/
set_option linter.unusedSimpArgs false
set_option linter.unusedVariables false
namespace Go.Proofs.YtankkadnhdfpfaaGreatDoor
open Go.RowKit

theorem bytesLess_irrefl : ∀ l : List UInt8, Op.bytesLess l l = false
  | [] => rfl
  | x :: r => by
    unfold Op.bytesLess
    simp [bytesLess_irrefl r]

theorem snd_one {a b : Vl} (ha : sndB a = true) (hb : sndB b = true) (hk : a.k = b.k) (h1 : ¬ a.k = 1) : a.t.toList = b.t.toList ∨ a.i = b.i := by
  unfold sndB at ha hb
  rw [← hk] at hb
  by_cases h0 : a.k = 0
  · rw [if_pos h0] at ha hb
    simp at ha hb
    left; rw [ha.2.2.1, hb.2.2.1]
  · rw [if_neg h0, if_neg h1] at ha hb
    by_cases h2 : a.k = 2
    · rw [if_pos h2] at ha hb
      simp at ha hb
      right; omega
    · rw [if_neg h2] at ha hb
      by_cases h3 : a.k = 3
      · rw [if_pos h3] at ha hb
        simp at ha hb
        left; rw [ha.2.2.1, hb.2.2.1]
      · rw [if_neg h3] at ha hb
        by_cases h4 : a.k = 4
        · rw [if_pos h4] at ha hb
          simp at ha hb
          left; rw [ha.2.2.1, hb.2.2.1]
        · rw [if_neg h4] at ha
          cases ha

theorem cmpT_eq0 {a b : ByteArray} (h : a.toList = b.toList) : cmpT a b = 0 := by
  unfold cmpT; rw [h, bytesLess_irrefl]; simp
theorem oc1 {a b : ByteArray} {i j : Int} (h : Op.bytesLess a.toList b.toList = true) : orI (cmpT a b) (cmpI i j) = -1 := by
  have : cmpT a b = -1 := by unfold cmpT; rw [if_pos h]
  rw [this]; rfl
theorem oc2 {a b : ByteArray} {i j : Int} (hi : i < j) (ho : a.toList = b.toList ∨ i = j) : orI (cmpT a b) (cmpI i j) = -1 := by
  rcases ho with h | h
  · rw [cmpT_eq0 h]; unfold orI cmpI; rw [if_pos rfl, if_pos hi]
  · omega
theorem oc3 {a b : ByteArray} {i j : Int} (h : Op.bytesLess a.toList b.toList = false) (hn : ¬ a.toList = b.toList) : orI (cmpT a b) (cmpI i j) = 1 := by
  have : cmpT a b = 1 := by unfold cmpT; rw [h]; simp [hn]
  rw [this]; rfl
theorem oc4 {a b : ByteArray} {i j : Int} (h : a.toList = b.toList) (hi : j < i) : orI (cmpT a b) (cmpI i j) = 1 := by
  rw [cmpT_eq0 h]; unfold orI cmpI; rw [if_pos rfl, if_neg (by omega), if_pos hi]
theorem oc5 {a b : ByteArray} {i j : Int} (h : a.toList = b.toList) (h1 : i ≤ j) (h2 : j ≤ i) : orI (cmpT a b) (cmpI i j) = 0 := by
  rw [cmpT_eq0 h]; unfold orI cmpI; rw [if_pos rfl, if_neg (by omega), if_neg (by omega)]
theorem ret_cmp {C : Value} {D x : Int} (h : C = .tuple #[.int .i64 D, .int .i64 0]) (hx : D = x) : Ending.returned (.tuple #[.int .i64 x, .int .i64 0]) = .returned C := by rw [h, hx]

set_option maxRecDepth 100000 in
set_option maxHeartbeats 3200000 in
theorem rCompare_any (a b : Vl) (w : World) (ha : a.wf) (hb : b.wf) :
    Calls Tryz.prog 117 #[.agg #[.int .i64 a.k, .int .i64 a.n, .int .i64 a.s, .string a.t, .int .i64 a.i], .agg #[.int .i64 b.k, .int .i64 b.n, .int .i64 b.s, .string b.t, .int .i64 b.i]] w fun e w' =>
      e = .returned (cmpVRes a b) ∧ Below w.heap.size w w' := by
  obtain ⟨C, hC⟩ : ∃ C, cmpVRes a b = C := ⟨_, rfl⟩
  rw [hC]
  cases sa : sndB a
  · have HC : Hid (C = .tuple #[.int .i64 0, .int .i64 2]) := by rw [← hC]; unfold cmpVRes; rw [sa]; exact rfl
    clear hC
    go_enter Tryz.func117, Tryz.ntmps117
    go_wp2_with fail
    refine (rSound_any a _ ha).mono ?_
    rintro e w1 ⟨rfl, hb1⟩
    rw [sa]
    clear sa
    go_wp2_with fail
    go_ret2
    exact ⟨by rw [HC.out]; rfl, bel⟩
  · cases sb : sndB b
    · have HC : Hid (C = .tuple #[.int .i64 0, .int .i64 2]) := by rw [← hC]; unfold cmpVRes; rw [sa, sb]; exact rfl
      clear hC
      go_enter Tryz.func117, Tryz.ntmps117
      go_wp2_with fail
      refine (rSound_any a _ ha).mono ?_
      rintro e w1 ⟨rfl, hb1⟩
      rw [sa]
      clear sa
      have hz1 := hb1.size
      try simp at hz1
      obtain ⟨q1_0, l1_0, r1_0⟩ := aft hb1 (w.heap.size)
      obtain ⟨q1_1, l1_1, r1_1⟩ := aft hb1 (w.heap.size + 1)
      go_wp2_with fail
      refine (rSound_any b _ hb).mono ?_
      rintro e w2 ⟨rfl, hb2⟩
      rw [sb]
      clear sb
      go_wp2_with fail
      go_ret2
      exact ⟨by rw [HC.out]; rfl, bel⟩
    · have HC : Hid (C = .tuple #[.int .i64 (cmpV a b), .int .i64 0]) := by rw [← hC]; unfold cmpVRes; rw [sa, sb]; exact rfl
      clear hC
      have HA := Lib.hid sa
      have HB := Lib.hid sb
      obtain ⟨D, hD⟩ : ∃ D, cmpV a b = D := ⟨_, rfl⟩
      rw [hD] at HC
      by_cases hk : a.k = b.k
      · have e1 : (a.k != b.k) = false := by simp [hk]
        by_cases h1 : a.k = 1
        · have e2 : (a.k == 1) = true := by simp [h1]
          have HD : Hid (cmpRes a.n a.s b.n b.s = .tuple #[.int .i64 D, .int .i64 0]) := by
            show _ = _
            rw [cmpRes_yes (sndB_dec sa h1) (sndB_dec sb (by omega)), ← hD]; unfold cmpV; rw [if_pos hk, if_pos h1]
          clear hD hk h1
          go_enter Tryz.func117, Tryz.ntmps117
          go_wp2_with fail
          refine (rSound_any a _ ha).mono ?_
          rintro e w1 ⟨rfl, hb1⟩
          rw [sa]
          clear sa
          have hz1 := hb1.size
          try simp at hz1
          obtain ⟨q1_0, l1_0, r1_0⟩ := aft hb1 (w.heap.size)
          obtain ⟨q1_1, l1_1, r1_1⟩ := aft hb1 (w.heap.size + 1)
          go_wp2_with fail
          refine (rSound_any b _ hb).mono ?_
          rintro e w2 ⟨rfl, hb2⟩
          rw [sb]
          clear sb
          have hz2 := hb2.size
          try simp at hz2
          obtain ⟨q2_0, l2_0, r2_0⟩ := aft hb2 (w.heap.size)
          obtain ⟨q2_1, l2_1, r2_1⟩ := aft hb2 (w.heap.size + 1)
          go_wp2_with fail
          refine (ref01Cmp_any _ _ _ _ _).mono ?_
          rintro e w3 ⟨rfl, hb3⟩
          rw [HD.out]
          go_wp2_with fail
          go_ret2
          exact ⟨by rw [HC.out]; rfl, bel⟩
        · have e2 : (a.k == 1) = false := by simp [h1]
          have HO := Lib.hid (snd_one sa sb hk h1)
          have HD : Hid (D = orI (cmpT a.t b.t) (cmpI a.i b.i)) := by
            show D = _
            rw [← hD]; unfold cmpV; rw [if_pos hk, if_neg h1]
          clear hD hk h1
          go_enter Tryz.func117, Tryz.ntmps117
          go_wp2_with fail
          refine (rSound_any a _ ha).mono ?_
          rintro e w1 ⟨rfl, hb1⟩
          rw [sa]
          clear sa
          have hz1 := hb1.size
          try simp at hz1
          obtain ⟨q1_0, l1_0, r1_0⟩ := aft hb1 (w.heap.size)
          obtain ⟨q1_1, l1_1, r1_1⟩ := aft hb1 (w.heap.size + 1)
          go_wp2_with fail
          refine (rSound_any b _ hb).mono ?_
          rintro e w2 ⟨rfl, hb2⟩
          rw [sb]
          clear sb
          have hz2 := hb2.size
          try simp at hz2
          obtain ⟨q2_0, l2_0, r2_0⟩ := aft hb2 (w.heap.size)
          obtain ⟨q2_1, l2_1, r2_1⟩ := aft hb2 (w.heap.size + 1)
          go_wp2_with fail
          all_goals go_ret2
          all_goals first
            | exact ⟨ret_cmp HC.out (HD.out.trans (oc1 (by assumption))), bel⟩
            | exact ⟨ret_cmp HC.out (HD.out.trans (oc2 (by assumption) HO.out)), bel⟩
            | exact ⟨ret_cmp HC.out (HD.out.trans (oc3 (by assumption) (by assumption))), bel⟩
            | exact ⟨ret_cmp HC.out (HD.out.trans (oc4 (by assumption) (by assumption))), bel⟩
            | exact ⟨ret_cmp HC.out (HD.out.trans (oc5 (by assumption) (by assumption) (by assumption))), bel⟩
      · have e1 : (a.k != b.k) = true := by simp [hk]
        have HD : Hid (D = cmpI a.k b.k) := by show D = _; rw [← hD]; unfold cmpV; rw [if_neg hk]
        have HK := Lib.hid hk
        clear hD hk
        go_enter Tryz.func117, Tryz.ntmps117
        go_wp2_with fail
        refine (rSound_any a _ ha).mono ?_
        rintro e w1 ⟨rfl, hb1⟩
        rw [sa]
        clear sa
        have hz1 := hb1.size
        try simp at hz1
        obtain ⟨q1_0, l1_0, r1_0⟩ := aft hb1 (w.heap.size)
        obtain ⟨q1_1, l1_1, r1_1⟩ := aft hb1 (w.heap.size + 1)
        go_wp2_with fail
        refine (rSound_any b _ hb).mono ?_
        rintro e w2 ⟨rfl, hb2⟩
        rw [sb]
        clear sb
        have hz2 := hb2.size
        try simp at hz2
        obtain ⟨q2_0, l2_0, r2_0⟩ := aft hb2 (w.heap.size)
        obtain ⟨q2_1, l2_1, r2_1⟩ := aft hb2 (w.heap.size + 1)
        go_wp2_with fail
        all_goals go_ret2
        all_goals exact ⟨ret_cmp HC.out (HD.out.trans (by have := HK.out; unfold cmpI; split <;> (try split) <;> omega)), bel⟩
end Go.Proofs.YtankkadnhdfpfaaGreatDoor
