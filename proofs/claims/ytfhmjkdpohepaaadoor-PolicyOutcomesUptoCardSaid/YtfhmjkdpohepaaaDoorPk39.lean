import Derived.Test.YtfhmjkdpohepaaaDoorPk24
import Derived.Test.YtfhmjkdpohepaaaDoorPk34
import Derived.Test.YtfhmjkdpohepaaaDoorPk07
/- soffitref04.Compare, walked. -/
set_option linter.unusedSimpArgs false
set_option linter.unusedVariables false
namespace Go.Proofs.YtfhmjkdpohepaaaDoor
open Go.RowKit

theorem bytesLess_irrefl : ∀ l : List UInt8, Op.bytesLess l l = false
  | [] => rfl
  | x :: r => by
    unfold Op.bytesLess
    simp [bytesLess_irrefl r]

/-- of sound values of one kind, not numbers: the texts are one, or the numbers are -/
theorem snd_one {a b : Vl} (ha : sndB a = true) (hb : sndB b = true) (hk : a.k = b.k) (h1 : ¬ a.k = 1) : a.t.toList = b.t.toList ∨ a.i = b.i := by
  unfold sndB at ha hb
  rw [← hk] at hb
  by_cases h0 : a.k = 0
  · rw [if_pos h0] at ha hb
    simp at ha hb
    left; rw [ha.2.2.1, hb.2.2.1]
  · rw [if_neg h0, if_neg h1] at ha hb
    by_cases h2 : a.k = 2
    · rw [if_pos h2] at ha hb
      simp at ha hb
      right; omega
    · rw [if_neg h2] at ha hb
      by_cases h3 : a.k = 3
      · rw [if_pos h3] at ha hb
        simp at ha hb
        left; rw [ha.2.2.1, hb.2.2.1]
      · rw [if_neg h3] at ha hb
        by_cases h4 : a.k = 4
        · rw [if_pos h4] at ha hb
          simp at ha hb
          left; rw [ha.2.2.1, hb.2.2.1]
        · rw [if_neg h4] at ha
          cases ha

theorem cmpT_eq0 {a b : ByteArray} (h : a.toList = b.toList) : cmpT a b = 0 := by
  unfold cmpT; rw [h, bytesLess_irrefl]; simp
theorem oc1 {a b : ByteArray} {i j : Int} (h : Op.bytesLess a.toList b.toList = true) : orI (cmpT a b) (cmpI i j) = -1 := by
  have : cmpT a b = -1 := by unfold cmpT; rw [if_pos h]
  rw [this]; rfl
theorem oc2 {a b : ByteArray} {i j : Int} (hi : i < j) (ho : a.toList = b.toList ∨ i = j) : orI (cmpT a b) (cmpI i j) = -1 := by
  rcases ho with h | h
  · rw [cmpT_eq0 h]; unfold orI cmpI; rw [if_pos rfl, if_pos hi]
  · omega
theorem oc3 {a b : ByteArray} {i j : Int} (h : Op.bytesLess a.toList b.toList = false) (hn : ¬ a.toList = b.toList) : orI (cmpT a b) (cmpI i j) = 1 := by
  have : cmpT a b = 1 := by unfold cmpT; rw [h]; simp [hn]
  rw [this]; rfl
theorem oc4 {a b : ByteArray} {i j : Int} (h : a.toList = b.toList) (hi : j < i) : orI (cmpT a b) (cmpI i j) = 1 := by
  rw [cmpT_eq0 h]; unfold orI cmpI; rw [if_pos rfl, if_neg (by omega), if_pos hi]
theorem oc5 {a b : ByteArray} {i j : Int} (h : a.toList = b.toList) (h1 : i ≤ j) (h2 : j ≤ i) : orI (cmpT a b) (cmpI i j) = 0 := by
  rw [cmpT_eq0 h]; unfold orI cmpI; rw [if_pos rfl, if_neg (by omega), if_neg (by omega)]
theorem ret_cmp {C : Value} {D x : Int} (h : C = .tuple #[.int .i64 D, .int .i64 0]) (hx : D = x) : Ending.returned (.tuple #[.int .i64 x, .int .i64 0]) = .returned C := by rw [h, hx]

set_option maxRecDepth 100000 in
set_option maxHeartbeats 3200000 in
theorem rCompare_any (a b : Vl) (w : World) (ha : a.wf) (hb : b.wf) :
    Calls Tryd.prog 15 #[.agg #[.int .i64 a.k, .int .i64 a.n, .int .i64 a.s, .string a.t, .int .i64 a.i], .agg #[.int .i64 b.k, .int .i64 b.n, .int .i64 b.s, .string b.t, .int .i64 b.i]] w fun e w' =>
      e = .returned (cmpVRes a b) ∧ Below w.heap.size w w' := by
  obtain ⟨C, hC⟩ : ∃ C, cmpVRes a b = C := ⟨_, rfl⟩
  rw [hC]
  cases sa : sndB a
  · have HC : Hid (C = .tuple #[.int .i64 0, .int .i64 2]) := by rw [← hC]; unfold cmpVRes; rw [sa]; exact rfl
    clear hC
    go_enter Tryd.func15, Tryd.ntmps15
    go_wp2_with fail
    refine (rSound_any a _ ha).mono ?_
    rintro e w1 ⟨rfl, hb1⟩
    rw [sa]
    clear sa
    go_wp2_with fail
    go_ret2
    exact ⟨by rw [HC.out]; rfl, bel⟩
  · cases sb : sndB b
    · have HC : Hid (C = .tuple #[.int .i64 0, .int .i64 2]) := by rw [← hC]; unfold cmpVRes; rw [sa, sb]; exact rfl
      clear hC
      go_enter Tryd.func15, Tryd.ntmps15
      go_wp2_with fail
      refine (rSound_any a _ ha).mono ?_
      rintro e w1 ⟨rfl, hb1⟩
      rw [sa]
      clear sa
      have hz1 := hb1.size
      try simp at hz1
      obtain ⟨q1_0, l1_0, r1_0⟩ := aft hb1 (w.heap.size)
      obtain ⟨q1_1, l1_1, r1_1⟩ := aft hb1 (w.heap.size + 1)
      go_wp2_with fail
      refine (rSound_any b _ hb).mono ?_
      rintro e w2 ⟨rfl, hb2⟩
      rw [sb]
      clear sb
      go_wp2_with fail
      go_ret2
      exact ⟨by rw [HC.out]; rfl, bel⟩
    · have HC : Hid (C = .tuple #[.int .i64 (cmpV a b), .int .i64 0]) := by rw [← hC]; unfold cmpVRes; rw [sa, sb]; exact rfl
      clear hC
      have HA := Lib.hid sa
      have HB := Lib.hid sb
      obtain ⟨D, hD⟩ : ∃ D, cmpV a b = D := ⟨_, rfl⟩
      rw [hD] at HC
      by_cases hk : a.k = b.k
      · have e1 : (a.k != b.k) = false := by simp [hk]
        by_cases h1 : a.k = 1
        · have e2 : (a.k == 1) = true := by simp [h1]
          have HD : Hid (cmpRes a.n a.s b.n b.s = .tuple #[.int .i64 D, .int .i64 0]) := by
            show _ = _
            rw [cmpRes_yes (sndB_dec sa h1) (sndB_dec sb (by omega)), ← hD]; unfold cmpV; rw [if_pos hk, if_pos h1]
          clear hD hk h1
          go_enter Tryd.func15, Tryd.ntmps15
          go_wp2_with fail
          refine (rSound_any a _ ha).mono ?_
          rintro e w1 ⟨rfl, hb1⟩
          rw [sa]
          clear sa
          have hz1 := hb1.size
          try simp at hz1
          obtain ⟨q1_0, l1_0, r1_0⟩ := aft hb1 (w.heap.size)
          obtain ⟨q1_1, l1_1, r1_1⟩ := aft hb1 (w.heap.size + 1)
          go_wp2_with fail
          refine (rSound_any b _ hb).mono ?_
          rintro e w2 ⟨rfl, hb2⟩
          rw [sb]
          clear sb
          have hz2 := hb2.size
          try simp at hz2
          obtain ⟨q2_0, l2_0, r2_0⟩ := aft hb2 (w.heap.size)
          obtain ⟨q2_1, l2_1, r2_1⟩ := aft hb2 (w.heap.size + 1)
          go_wp2_with fail
          refine (ref01Cmp_any _ _ _ _ _).mono ?_
          rintro e w3 ⟨rfl, hb3⟩
          rw [HD.out]
          go_wp2_with fail
          go_ret2
          exact ⟨by rw [HC.out]; rfl, bel⟩
        · have e2 : (a.k == 1) = false := by simp [h1]
          have HO := Lib.hid (snd_one sa sb hk h1)
          have HD : Hid (D = orI (cmpT a.t b.t) (cmpI a.i b.i)) := by
            show D = _
            rw [← hD]; unfold cmpV; rw [if_pos hk, if_neg h1]
          clear hD hk h1
          go_enter Tryd.func15, Tryd.ntmps15
          go_wp2_with fail
          refine (rSound_any a _ ha).mono ?_
          rintro e w1 ⟨rfl, hb1⟩
          rw [sa]
          clear sa
          have hz1 := hb1.size
          try simp at hz1
          obtain ⟨q1_0, l1_0, r1_0⟩ := aft hb1 (w.heap.size)
          obtain ⟨q1_1, l1_1, r1_1⟩ := aft hb1 (w.heap.size + 1)
          go_wp2_with fail
          refine (rSound_any b _ hb).mono ?_
          rintro e w2 ⟨rfl, hb2⟩
          rw [sb]
          clear sb
          have hz2 := hb2.size
          try simp at hz2
          obtain ⟨q2_0, l2_0, r2_0⟩ := aft hb2 (w.heap.size)
          obtain ⟨q2_1, l2_1, r2_1⟩ := aft hb2 (w.heap.size + 1)
          go_wp2_with fail
          all_goals go_ret2
          all_goals first
            | exact ⟨ret_cmp HC.out (HD.out.trans (oc1 (by assumption))), bel⟩
            | exact ⟨ret_cmp HC.out (HD.out.trans (oc2 (by assumption) HO.out)), bel⟩
            | exact ⟨ret_cmp HC.out (HD.out.trans (oc3 (by assumption) (by assumption))), bel⟩
            | exact ⟨ret_cmp HC.out (HD.out.trans (oc4 (by assumption) (by assumption))), bel⟩
            | exact ⟨ret_cmp HC.out (HD.out.trans (oc5 (by assumption) (by assumption) (by assumption))), bel⟩
      · have e1 : (a.k != b.k) = true := by simp [hk]
        have HD : Hid (D = cmpI a.k b.k) := by show D = _; rw [← hD]; unfold cmpV; rw [if_neg hk]
        have HK := Lib.hid hk
        clear hD hk
        go_enter Tryd.func15, Tryd.ntmps15
        go_wp2_with fail
        refine (rSound_any a _ ha).mono ?_
        rintro e w1 ⟨rfl, hb1⟩
        rw [sa]
        clear sa
        have hz1 := hb1.size
        try simp at hz1
        obtain ⟨q1_0, l1_0, r1_0⟩ := aft hb1 (w.heap.size)
        obtain ⟨q1_1, l1_1, r1_1⟩ := aft hb1 (w.heap.size + 1)
        go_wp2_with fail
        refine (rSound_any b _ hb).mono ?_
        rintro e w2 ⟨rfl, hb2⟩
        rw [sb]
        clear sb
        have hz2 := hb2.size
        try simp at hz2
        obtain ⟨q2_0, l2_0, r2_0⟩ := aft hb2 (w.heap.size)
        obtain ⟨q2_1, l2_1, r2_1⟩ := aft hb2 (w.heap.size + 1)
        go_wp2_with fail
        all_goals go_ret2
        all_goals exact ⟨ret_cmp HC.out (HD.out.trans (by have := HK.out; unfold cmpI; split <;> (try split) <;> omega)), bel⟩
end Go.Proofs.YtfhmjkdpohepaaaDoor
