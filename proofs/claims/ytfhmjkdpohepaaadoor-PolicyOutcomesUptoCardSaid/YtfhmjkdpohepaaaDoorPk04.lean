import Derived.Test.YtfhmjkdpohepaaaDoorPk01
import Derived.Test.YtfhmjkdpohepaaaDoorPk02
import Derived.Test.YtfhmjkdpohepaaaDoorPk03
import Derived.Test.YtfhmjkdpohepaaaDoorPk05
import Derived.Test.YtfhmjkdpohepaaaDoorPk06
/- A value of the program, as Lean data. -/
set_option linter.unusedSimpArgs false
set_option linter.unusedVariables false
namespace Go.Proofs.YtfhmjkdpohepaaaDoor
open Go.RowKit

/-- a value: its kind, the number's N and Scale, its text, its N -/
structure Vl where
  k : Int
  n : Int
  s : Int
  t : ByteArray
  i : Int
def I64 (x : Int) : Prop := -9223372036854775808 ≤ x ∧ x ≤ 9223372036854775807
structure Vl.wf (v : Vl) : Prop where
  k : I64 v.k
  n : I64 v.n
  s : I64 v.s
  i : I64 v.i
  t : v.t.size ≤ 9223372036854775807
def Vl.zero : Vl := ⟨0, 0, 0, ⟨#[]⟩, 0⟩
/-- may it be a value? -/
def sndB (v : Vl) : Bool :=
  if v.k = 0 then decide (v.n = 0 ∧ v.s = 0 ∧ v.t.toList = [] ∧ v.i = 0)
  else if v.k = 1 then decide (v.t.toList = [] ∧ v.i = 0) && decSnd v.n v.s
  else if v.k = 2 then decide (v.n = 0 ∧ v.s = 0 ∧ v.i = 0 ∧ v.t.size ≤ 256) && goodB v.t
  else if v.k = 3 then decide (v.n = 0 ∧ v.s = 0 ∧ v.t.toList = [] ∧ (v.i = 0 ∨ v.i = 1))
  else if v.k = 4 then decide (v.n = 0 ∧ v.s = 0 ∧ v.t.toList = [] ∧ 0 ≤ v.i ∧ v.i ≤ 3652058)
  else false
end Go.Proofs.YtfhmjkdpohepaaaDoor

/- When are two values equal? and how the code asks it. -/
set_option linter.unusedSimpArgs false
set_option linter.unusedVariables false
namespace Go.Proofs.YtfhmjkdpohepaaaDoor
open Go.RowKit

theorem toList_inj {a b : ByteArray} (h : a.toList = b.toList) : a = b := by
  rw [ByteArray.toList_eq, ByteArray.toList_eq] at h
  obtain ⟨x⟩ := a
  obtain ⟨y⟩ := b
  exact congrArg ByteArray.mk (Array.ext' h)

/-- are two values equal? -/
def eqB (a b : Vl) : Bool := a.k == b.k && a.n == b.n && a.s == b.s && a.t.toList == b.t.toList && a.i == b.i
theorem eqB_iff (a b : Vl) : eqB a b = true ↔ a = b := by
  obtain ⟨k, n, s, t, i⟩ := a
  obtain ⟨k', n', s', t', i'⟩ := b
  simp only [eqB, Bool.and_eq_true, beq_iff_eq, Vl.mk.injEq]
  constructor
  · rintro ⟨⟨⟨⟨h1, h2⟩, h3⟩, h4⟩, h5⟩
    exact ⟨h1, h2, h3, toList_inj h4, h5⟩
  · rintro ⟨rfl, rfl, rfl, rfl, rfl⟩
    exact ⟨⟨⟨⟨rfl, rfl⟩, rfl⟩, rfl⟩, rfl⟩

theorem eqV_run (a b : Vl) (w : World) : (binOp .eql 26 (.agg #[.int .i64 a.k, .int .i64 a.n, .int .i64 a.s, .string a.t, .int .i64 a.i]) (.agg #[.int .i64 b.k, .int .i64 b.n, .int .i64 b.s, .string b.t, .int .i64 b.i])).run Tryd.prog w =
    .ok (.bool (eqB a b)) w := by
  obtain ⟨k, n, s, t, i⟩ := a
  obtain ⟨k', n', s', t', i'⟩ := b
  unfold eqB
  go_simp
  repeat' split
  all_goals simp_all

theorem neV_run (a b : Vl) (w : World) : (binOp .neq 26 (.agg #[.int .i64 a.k, .int .i64 a.n, .int .i64 a.s, .string a.t, .int .i64 a.i]) (.agg #[.int .i64 b.k, .int .i64 b.n, .int .i64 b.s, .string b.t, .int .i64 b.i])).run Tryd.prog w =
    .ok (.bool (!eqB a b)) w := by
  obtain ⟨k, n, s, t, i⟩ := a
  obtain ⟨k', n', s', t', i'⟩ := b
  unfold eqB
  go_simp
  repeat' split
  all_goals simp_all

theorem rdL_one {W : World} {sz b : Nat} {cs : List Value} (h : ∀ o, W.cell? ⟨b, o, none⟩ = cs.toArray[o]?) : RdL W sz (some ⟨b, 0, none⟩) [cs] := by
  intro j c hc
  rcases j with _ | j
  · obtain rfl : cs = c := by simpa using hc
    exact ⟨b, 0, rfl, fun i v hv => by rw [show (0 + 0 * sz + i) = i by omega, h]; simpa using hv⟩
  · simp at hc
theorem rdL_two {W : World} {sz b : Nat} {cs ds : List Value} (hl : cs.length = sz) (h : ∀ o, W.cell? ⟨b, o, none⟩ = (cs ++ ds).toArray[o]?) : RdL W sz (some ⟨b, 0, none⟩) [cs, ds] := by
  intro j c hc
  rcases j with _ | _ | j
  · obtain rfl : cs = c := by simpa using hc
    exact ⟨b, 0, rfl, fun i v hv => by
      rw [show (0 + 0 * sz + i) = i by omega, h]
      have hi : i < cs.length := (List.getElem?_eq_some_iff.mp hv).1
      simp only [List.getElem?_toArray]
      rw [List.getElem?_append_left hi]; exact hv⟩
  · obtain rfl : ds = c := by simpa using hc
    exact ⟨b, 0, rfl, fun i v hv => by
      rw [show (0 + (0 + 1) * sz + i) = cs.length + i by omega, h]
      simp only [List.getElem?_toArray]
      rw [List.getElem?_append_right (by omega), Nat.add_sub_cancel_left]; exact hv⟩
  · simp at hc

end Go.Proofs.YtfhmjkdpohepaaaDoor

/- soffit/value.Sound, walked. -/
set_option linter.unusedSimpArgs false
set_option linter.unusedVariables false
namespace Go.Proofs.YtfhmjkdpohepaaaDoor
open Go.RowKit

set_option maxRecDepth 100000 in
set_option maxHeartbeats 800000 in
theorem vSound0 (v : Vl) (w : World) (hv : v.wf) (hE : Env w) (hk : v.k = 0) :
    Calls Tryd.prog 30 #[.agg #[.int .i64 v.k, .int .i64 v.n, .int .i64 v.s, .string v.t, .int .i64 v.i]] w fun e w' =>
      e = .returned (.bool (sndB v)) ∧ Below w.heap.size w w' := by
  obtain ⟨k, n, s, t, i⟩ := v
  simp only at hk
  subst hk
  obtain ⟨B, hB⟩ : ∃ B, sndB ⟨0, n, s, t, i⟩ = B := ⟨_, rfl⟩
  rw [hB]
  have HS : Hid (B = decide (n = 0 ∧ s = 0 ∧ t.toList = [] ∧ i = 0)) := hB.symm
  clear hB
  go_enter Tryd.func30, Tryd.ntmps30
  go_wp2_with fail
  all_goals go_ret
  all_goals exact ⟨ret_bool (by first | (rw [HS.out]; done) | (rw [HS.out]; simp [*]; done) | (rw [HS.out]; simp; omega) | (rw [HS.out]; simp [*]; omega) | (rw [HS.out]; simp only [List.isEmpty_iff, List.isEmpty_eq_false_iff] at *; simp [*]; done) | (rw [HS.out]; simp only [List.isEmpty_iff, List.isEmpty_eq_false_iff] at *; simp [*]; omega) | (rw [HS.out, Bool.eq_iff_iff]; simp only [List.isEmpty_iff, List.isEmpty_eq_false_iff] at *; simp [*]; done) | (exfalso; omega)), bel⟩

set_option maxRecDepth 100000 in
set_option maxHeartbeats 800000 in
theorem vSound1 (v : Vl) (w : World) (hv : v.wf) (hE : Env w) (hk : v.k = 1) :
    Calls Tryd.prog 30 #[.agg #[.int .i64 v.k, .int .i64 v.n, .int .i64 v.s, .string v.t, .int .i64 v.i]] w fun e w' =>
      e = .returned (.bool (sndB v)) ∧ Below w.heap.size w w' := by
  obtain ⟨k, n, s, t, i⟩ := v
  simp only at hk
  subst hk
  have hn := hv.n
  have hs := hv.s
  clear hv
  simp only [I64] at hn hs
  obtain ⟨hn1, hn2⟩ := hn
  obtain ⟨hs1, hs2⟩ := hs
  obtain ⟨B, hB⟩ : ∃ B, sndB ⟨1, n, s, t, i⟩ = B := ⟨_, rfl⟩
  rw [hB]
  have HS : Hid (B = (decide (t.toList = [] ∧ i = 0) && decSnd n s)) := hB.symm
  clear hB
  by_cases ht : t.toList = [] ∧ i = 0
  · obtain ⟨ht, rfl⟩ := ht
    have HT : Hid (B = decSnd n s) := by show B = _; rw [HS.out]; simp [ht]
    go_enter Tryd.func30, Tryd.ntmps30
    go_wp2_with fail
    refine (decSound_any n s _ hn1 hn2 hs1 hs2).mono ?_
    rintro e w1 ⟨rfl, hb1⟩
    rw [← HT.out]
    go_wp2_with fail
    all_goals go_ret
    all_goals exact ⟨ret_bool (by first | rfl | (simp [*]; done) | (exfalso; omega)), bel⟩
  · have HT : Hid (B = false) := by show B = _; rw [HS.out]; simp only [ht]; rfl
    go_enter Tryd.func30, Tryd.ntmps30
    go_wp2_with fail
    all_goals try (refine (decSound_any n s _ hn1 hn2 hs1 hs2).mono ?_; exfalso; simp_all; done)
    all_goals go_ret
    all_goals exact ⟨ret_bool (by first | (rw [HT.out]; done) | (rw [HT.out]; simp [*]; done) | (rw [HT.out]; simp; omega) | (rw [HT.out]; simp [*]; omega) | (rw [HT.out]; simp only [List.isEmpty_iff, List.isEmpty_eq_false_iff] at *; simp [*]; done) | (rw [HT.out]; simp only [List.isEmpty_iff, List.isEmpty_eq_false_iff] at *; simp [*]; omega) | (rw [HT.out, Bool.eq_iff_iff]; simp only [List.isEmpty_iff, List.isEmpty_eq_false_iff] at *; simp [*]; done) | (exfalso; omega)), bel⟩

set_option maxRecDepth 100000 in
set_option maxHeartbeats 800000 in
theorem vSound2 (v : Vl) (w : World) (hv : v.wf) (hE : Env w) (hk : v.k = 2) :
    Calls Tryd.prog 30 #[.agg #[.int .i64 v.k, .int .i64 v.n, .int .i64 v.s, .string v.t, .int .i64 v.i]] w fun e w' =>
      e = .returned (.bool (sndB v)) ∧ Below w.heap.size w w' := by
  obtain ⟨k, n, s, t, i⟩ := v
  simp only at hk
  subst hk
  have ht := hv.t
  simp only at ht
  clear hv
  obtain ⟨B, hB⟩ : ∃ B, sndB ⟨2, n, s, t, i⟩ = B := ⟨_, rfl⟩
  rw [hB]
  have HS : Hid (B = (decide (n = 0 ∧ s = 0 ∧ i = 0 ∧ t.size ≤ 256) && goodB t)) := hB.symm
  clear hB
  by_cases h0 : n = 0 ∧ s = 0 ∧ i = 0 ∧ t.size ≤ 256
  · obtain ⟨rfl, rfl, rfl, hz⟩ := h0
    have HT : Hid (B = goodB t) := by show B = _; rw [HS.out]; simp [hz]
    go_enter Tryd.func30, Tryd.ntmps30
    go_wp2_with fail
    refine (good_any t _ ht (hE.below bel)).mono ?_
    rintro e w1 ⟨rfl, hb1⟩
    rw [← HT.out]
    go_wp2_with fail
    all_goals go_ret
    all_goals exact ⟨ret_bool (by first | rfl | (simp [*]; done) | (exfalso; omega)), bel⟩
  · have HT : Hid (B = false) := by show B = _; rw [HS.out]; simp only [h0]; rfl
    clear HS
    go_enter Tryd.func30, Tryd.ntmps30
    go_wp2_with fail
    all_goals go_ret
    all_goals exact ⟨ret_bool (by first | (rw [HT.out]; done) | (rw [HT.out]; simp [*]; done) | (rw [HT.out]; simp; omega) | (rw [HT.out]; simp [*]; omega) | (rw [HT.out]; simp only [List.isEmpty_iff, List.isEmpty_eq_false_iff] at *; simp [*]; done) | (rw [HT.out]; simp only [List.isEmpty_iff, List.isEmpty_eq_false_iff] at *; simp [*]; omega) | (rw [HT.out, Bool.eq_iff_iff]; simp only [List.isEmpty_iff, List.isEmpty_eq_false_iff] at *; simp [*]; done) | (exfalso; omega)), bel⟩

set_option maxRecDepth 100000 in
set_option maxHeartbeats 800000 in
theorem vSound3 (v : Vl) (w : World) (hv : v.wf) (hE : Env w) (hk : v.k = 3) :
    Calls Tryd.prog 30 #[.agg #[.int .i64 v.k, .int .i64 v.n, .int .i64 v.s, .string v.t, .int .i64 v.i]] w fun e w' =>
      e = .returned (.bool (sndB v)) ∧ Below w.heap.size w w' := by
  obtain ⟨k, n, s, t, i⟩ := v
  simp only at hk
  subst hk
  obtain ⟨B, hB⟩ : ∃ B, sndB ⟨3, n, s, t, i⟩ = B := ⟨_, rfl⟩
  rw [hB]
  have HS : Hid (B = decide (n = 0 ∧ s = 0 ∧ t.toList = [] ∧ (i = 0 ∨ i = 1))) := hB.symm
  clear hB
  have hand := i64_and1 i
  by_cases h0 : i = 0
  · subst h0
    clear hand
    have hand : bits .and .i64 0 1 = 0 := i64_and1 0
    have HT : Hid (B = decide (n = 0 ∧ s = 0 ∧ t.toList = [])) := by show B = _; rw [HS.out]; simp
    clear HS
    go_enter Tryd.func30, Tryd.ntmps30
    go_wp2_with fail
    all_goals go_ret
    all_goals exact ⟨ret_bool (by first | (rw [HT.out]; done) | (rw [HT.out]; simp [*]; done) | (rw [HT.out]; simp; omega) | (rw [HT.out]; simp [*]; omega) | (rw [HT.out]; simp only [List.isEmpty_iff, List.isEmpty_eq_false_iff] at *; simp [*]; done) | (rw [HT.out]; simp only [List.isEmpty_iff, List.isEmpty_eq_false_iff] at *; simp [*]; omega) | (rw [HT.out, Bool.eq_iff_iff]; simp only [List.isEmpty_iff, List.isEmpty_eq_false_iff] at *; simp [*]; done) | (exfalso; omega)), bel⟩
  · by_cases h1 : i = 1
    · subst h1
      clear hand
      have hand : bits .and .i64 1 1 = 1 := i64_and1 1
      have HT : Hid (B = decide (n = 0 ∧ s = 0 ∧ t.toList = [])) := by show B = _; rw [HS.out]; simp
      clear HS
      go_enter Tryd.func30, Tryd.ntmps30
      go_wp2_with fail
      all_goals go_ret
      all_goals exact ⟨ret_bool (by first | (rw [HT.out]; done) | (rw [HT.out]; simp [*]; done) | (rw [HT.out]; simp; omega) | (rw [HT.out]; simp [*]; omega) | (rw [HT.out]; simp only [List.isEmpty_iff, List.isEmpty_eq_false_iff] at *; simp [*]; done) | (rw [HT.out]; simp only [List.isEmpty_iff, List.isEmpty_eq_false_iff] at *; simp [*]; omega) | (rw [HT.out, Bool.eq_iff_iff]; simp only [List.isEmpty_iff, List.isEmpty_eq_false_iff] at *; simp [*]; done) | (exfalso; omega)), bel⟩
    · have hne : ¬ (i = i % 2) := by omega
      have HT : Hid (B = false) := by show B = _; rw [HS.out]; simp [h0, h1]
      clear HS h0 h1
      go_enter Tryd.func30, Tryd.ntmps30
      go_wp2_with fail
      all_goals go_ret
      all_goals exact ⟨ret_bool (by first | (rw [HT.out]; done) | (rw [HT.out]; simp [*]; done) | (rw [HT.out]; simp; omega) | (rw [HT.out]; simp [*]; omega) | (rw [HT.out]; simp only [List.isEmpty_iff, List.isEmpty_eq_false_iff] at *; simp [*]; done) | (rw [HT.out]; simp only [List.isEmpty_iff, List.isEmpty_eq_false_iff] at *; simp [*]; omega) | (rw [HT.out, Bool.eq_iff_iff]; simp only [List.isEmpty_iff, List.isEmpty_eq_false_iff] at *; simp [*]; done) | (exfalso; omega)), bel⟩

set_option maxRecDepth 100000 in
set_option maxHeartbeats 800000 in
theorem vSound4 (v : Vl) (w : World) (hv : v.wf) (hE : Env w) (hk : v.k = 4) :
    Calls Tryd.prog 30 #[.agg #[.int .i64 v.k, .int .i64 v.n, .int .i64 v.s, .string v.t, .int .i64 v.i]] w fun e w' =>
      e = .returned (.bool (sndB v)) ∧ Below w.heap.size w w' := by
  obtain ⟨k, n, s, t, i⟩ := v
  simp only at hk
  subst hk
  obtain ⟨B, hB⟩ : ∃ B, sndB ⟨4, n, s, t, i⟩ = B := ⟨_, rfl⟩
  rw [hB]
  have HS : Hid (B = decide (n = 0 ∧ s = 0 ∧ t.toList = [] ∧ 0 ≤ i ∧ i ≤ 3652058)) := hB.symm
  clear hB
  by_cases h0 : i < 0
  · have HT : Hid (B = false) := by
      show B = _; rw [HS.out]; rw [decide_eq_false_iff_not]; omega
    clear HS
    go_enter Tryd.func30, Tryd.ntmps30
    go_wp2_with fail
    all_goals go_ret
    all_goals exact ⟨ret_bool (by first | (rw [HT.out]; done) | (rw [HT.out]; simp [*]; done) | (rw [HT.out]; simp; omega) | (rw [HT.out]; simp [*]; omega) | (rw [HT.out]; simp only [List.isEmpty_iff, List.isEmpty_eq_false_iff] at *; simp [*]; done) | (rw [HT.out]; simp only [List.isEmpty_iff, List.isEmpty_eq_false_iff] at *; simp [*]; omega) | (rw [HT.out, Bool.eq_iff_iff]; simp only [List.isEmpty_iff, List.isEmpty_eq_false_iff] at *; simp [*]; done) | (exfalso; omega)), bel⟩
  · by_cases h1 : 3652058 < i
    · have HT : Hid (B = false) := by
        show B = _; rw [HS.out]; rw [decide_eq_false_iff_not]; omega
      clear HS
      go_enter Tryd.func30, Tryd.ntmps30
      go_wp2_with fail
      all_goals go_ret
      all_goals exact ⟨ret_bool (by first | (rw [HT.out]; done) | (rw [HT.out]; simp [*]; done) | (rw [HT.out]; simp; omega) | (rw [HT.out]; simp [*]; omega) | (rw [HT.out]; simp only [List.isEmpty_iff, List.isEmpty_eq_false_iff] at *; simp [*]; done) | (rw [HT.out]; simp only [List.isEmpty_iff, List.isEmpty_eq_false_iff] at *; simp [*]; omega) | (rw [HT.out, Bool.eq_iff_iff]; simp only [List.isEmpty_iff, List.isEmpty_eq_false_iff] at *; simp [*]; done) | (exfalso; omega)), bel⟩
    · have h2 : 0 ≤ i := by omega
      have h3 : i ≤ 3652058 := by omega
      have HT : Hid (B = decide (n = 0 ∧ s = 0 ∧ t.toList = [])) := by show B = _; rw [HS.out, decide_eq_decide]; simp [h2, h3]
      clear HS h0 h1
      go_enter Tryd.func30, Tryd.ntmps30
      go_wp2_with fail
      go_ways
      all_goals go_ret
      all_goals exact ⟨ret_bool (by first | (rw [HT.out]; done) | (rw [HT.out]; simp [*]; done) | (rw [HT.out]; simp; omega) | (rw [HT.out]; simp [*]; omega) | (rw [HT.out]; simp only [List.isEmpty_iff, List.isEmpty_eq_false_iff] at *; simp [*]; done) | (rw [HT.out]; simp only [List.isEmpty_iff, List.isEmpty_eq_false_iff] at *; simp [*]; omega) | (rw [HT.out, Bool.eq_iff_iff]; simp only [List.isEmpty_iff, List.isEmpty_eq_false_iff] at *; simp [*]; done) | (exfalso; omega)), bel⟩

set_option maxHeartbeats 800000 in
theorem vSound5 (v : Vl) (w : World) (hv : v.wf) (hE : Env w) (h0 : ¬ v.k = 0) (h1 : ¬ v.k = 1) (h2 : ¬ v.k = 2) (h3 : ¬ v.k = 3) (h4 : ¬ v.k = 4) :
    Calls Tryd.prog 30 #[.agg #[.int .i64 v.k, .int .i64 v.n, .int .i64 v.s, .string v.t, .int .i64 v.i]] w fun e w' =>
      e = .returned (.bool (sndB v)) ∧ Below w.heap.size w w' := by
  obtain ⟨k, n, s, t, i⟩ := v
  simp only at h0 h1 h2 h3 h4
  have e0 : (k == 0) = false := by simp [h0]
  have e1 : (k == 1) = false := by simp [h1]
  have e2 : (k == 2) = false := by simp [h2]
  have e3 : (k == 3) = false := by simp [h3]
  have e4 : (k == 4) = false := by simp [h4]
  obtain ⟨B, hB⟩ : ∃ B, sndB ⟨k, n, s, t, i⟩ = B := ⟨_, rfl⟩
  rw [hB]
  have HS : Hid (B = false) := by show B = _; rw [← hB]; simp only [sndB, h0, h1, h2, h3, h4, if_false]
  clear hB
  clear h0 h1 h2 h3 h4
  go_enter Tryd.func30, Tryd.ntmps30
  go_wp2_with fail
  all_goals go_ret
  all_goals exact ⟨ret_bool (by first | (rw [HS.out]; done) | (rw [HS.out]; simp [*]; done) | (rw [HS.out]; simp; omega) | (rw [HS.out]; simp [*]; omega) | (rw [HS.out]; simp only [List.isEmpty_iff, List.isEmpty_eq_false_iff] at *; simp [*]; done) | (rw [HS.out]; simp only [List.isEmpty_iff, List.isEmpty_eq_false_iff] at *; simp [*]; omega) | (rw [HS.out, Bool.eq_iff_iff]; simp only [List.isEmpty_iff, List.isEmpty_eq_false_iff] at *; simp [*]; done) | (exfalso; omega)), bel⟩

theorem vSound_any (v : Vl) (w : World) (hv : v.wf) (hE : Env w) :
    Calls Tryd.prog 30 #[.agg #[.int .i64 v.k, .int .i64 v.n, .int .i64 v.s, .string v.t, .int .i64 v.i]] w fun e w' =>
      e = .returned (.bool (sndB v)) ∧ Below w.heap.size w w' := by
  by_cases h0 : v.k = 0
  · exact vSound0 v w hv hE h0
  by_cases h1 : v.k = 1
  · exact vSound1 v w hv hE h1
  by_cases h2 : v.k = 2
  · exact vSound2 v w hv hE h2
  by_cases h3 : v.k = 3
  · exact vSound3 v w hv hE h3
  by_cases h4 : v.k = 4
  · exact vSound4 v w hv hE h4
  exact vSound5 v w hv hE h0 h1 h2 h3 h4
end Go.Proofs.YtfhmjkdpohepaaaDoor

/- Lists of values: slices.IndexFunc, ContainsFunc at them; soffit/policy.sound. -/
set_option linter.unusedSimpArgs false
set_option linter.unusedVariables false
namespace Go.Proofs.YtfhmjkdpohepaaaDoor
open Go.RowKit

def Vl.cells5 (v : Vl) : List Value := [.int .i64 v.k, .int .i64 v.n, .int .i64 v.s, .string v.t, .int .i64 v.i]

/-- what a predicate owes: at each of some things, in every world that has all that was there -/
def valGives (g : Nat) (fv : Array Value) (p : Vl → Bool) (xs : List Vl) (w : World) : Prop :=
  ∀ x ∈ xs, ∀ W : World, Below w.heap.size w W → Calls Tryd.prog g (#[.agg #[.int .i64 x.k, .int .i64 x.n, .int .i64 x.s, .string x.t, .int .i64 x.i]] ++ fv) W fun e w' => e = .returned (.bool (p x)) ∧ Below W.heap.size W w'

set_option maxRecDepth 100000 in
set_option maxHeartbeats 800000 in
theorem valIndex (g : Nat) (p : Vl → Bool) (xs : List Vl) (A : Option Addr) (c : Nat) (w : World) (hr : RdL w 5 A (xs.map Vl.cells5)) (hn : xs.length ≤ 9223372036854775807)
    (hg : valGives g #[] p xs w) (he : ∀ args W, (callFunc g args).run Tryd.prog W = .ok (.enter g args) W) :
    Calls Tryd.prog 44 #[.slice A xs.length c, .func (.func g) #[] #[]] w fun e w' => e = .returned (.int .i64 (idxF p xs 0)) ∧ Below w.heap.size w w' := by
  go_enter Tryd.func44, Tryd.ntmps44
  go_wp2_with fail
  go_loopg [8] xs.length (fun k i wr => ∃ j : Nat, j ≤ xs.length ∧ xs.length - j ≤ k ∧ Hid (idxF p xs 0 = idxF p (xs.drop j) j) ∧ i = .int .i64 j ∧ Below w.heap.size w wr)
  case atStart => exact ⟨0, by omega, by omega, rfl, rfl, Below.refl _ _⟩
  case round =>
    obtain ⟨j, hj, hjk, hi, rfl, hbel⟩ := hrel
    by_cases hlt : j < xs.length
    · obtain ⟨b, off, rfl, hx⟩ := (hr.below hbel).at_ hlt
      have hmem : xs[j]'hlt ∈ xs := List.getElem_mem hlt
      have hyes := fun h => idxF_drop_yes (p := p) hlt h
      have hno := fun h => idxF_drop_no (p := p) hlt h
      generalize hX : xs[j]'hlt = x at *
      have hgx := hg x hmem
      have g0 : wr.cell? ⟨b, off + j * 5, none⟩ = some (.int .i64 x.k) := hx.get 0 rfl
      have g1 : wr.cell? ⟨b, off + j * 5 + 1, none⟩ = some (.int .i64 x.n) := hx.get 1 rfl
      have g2 : wr.cell? ⟨b, off + j * 5 + 2, none⟩ = some (.int .i64 x.s) := hx.get 2 rfl
      have g3 : wr.cell? ⟨b, off + j * 5 + 3, none⟩ = some (.string x.t) := hx.get 3 rfl
      have g4 : wr.cell? ⟨b, off + j * 5 + 4, none⟩ = some (.int .i64 x.i) := hx.get 4 rfl
      have HG := Lib.hid hgx
      have HYES := Lib.hid hyes
      have HNO := Lib.hid hno
      have hsz := hbel.size
      clear hgx hyes hno hX hmem hx
      cases hp : p x
      · have HN := Lib.hid (HNO.out hp)
        go_wp2_with fail
        refine (HG.out _ bel).mono ?_
        rintro e w1 ⟨rfl, hb1⟩
        rw [hp]
        clear hp
        go_wp2_with fail
        go_roundg (gk - 1)
        case measure => omega
        case rel => exact ⟨j + 1, by omega, by omega, hi.out.trans HN.out, by go_num, bel⟩
      · have HY := Lib.hid (HYES.out hp)
        go_wp2_with fail
        refine (HG.out _ bel).mono ?_
        rintro e w1 ⟨rfl, hb1⟩
        rw [hp]
        clear hp
        go_wp2_with fail
        go_ret
        exact ⟨ret_int (by rw [hi.out, HY.out]), bel⟩
    · have HE := Lib.hid (idxF_drop_end (p := p) hlt)
      go_wp2_with fail
      go_ret
      exact ⟨ret_int (by rw [hi.out, HE.out]), hbel⟩

set_option maxHeartbeats 400000 in
theorem valContains (g : Nat) (p : Vl → Bool) (xs : List Vl) (A : Option Addr) (c : Nat) (w : World) (hr : RdL w 5 A (xs.map Vl.cells5)) (hn : xs.length ≤ 9223372036854775807)
    (hg : valGives g #[] p xs w) (he : ∀ args W, (callFunc g args).run Tryd.prog W = .ok (.enter g args) W) :
    Calls Tryd.prog 28 #[.slice A xs.length c, .func (.func g) #[] #[]] w fun e w' => e = .returned (.bool (xs.any p)) ∧ Below w.heap.size w w' := by
  have HA := Lib.hid (idxF_any p xs 0)
  go_enter Tryd.func28, Tryd.ntmps28
  go_wp2_with fail
  refine (valIndex g p xs A c _ hr hn hg he).mono ?_
  rintro e w1 ⟨rfl, hb1⟩
  generalize idxF p xs 0 = r at *
  go_wp2_with fail
  go_ret
  exact ⟨ret_bool HA.out, hb1⟩

def allSnd (vs : List Vl) : Bool := !vs.any (fun v => !sndB v)
end Go.Proofs.YtfhmjkdpohepaaaDoor

/- soffit/policy.sound, walked. -/
set_option linter.unusedSimpArgs false
set_option linter.unusedVariables false
namespace Go.Proofs.YtfhmjkdpohepaaaDoor
open Go.RowKit

set_option maxHeartbeats 400000 in
theorem psound1_any (v : Vl) (w : World) (hv : v.wf) (hE : Env w) :
    Calls Tryd.prog 29 #[.agg #[.int .i64 v.k, .int .i64 v.n, .int .i64 v.s, .string v.t, .int .i64 v.i]] w fun e w' =>
      e = .returned (.bool (!sndB v)) ∧ Below w.heap.size w w' := by
  obtain ⟨B, hB⟩ : ∃ B, sndB v = B := ⟨_, rfl⟩
  rw [hB]
  go_enter Tryd.func29, Tryd.ntmps29
  go_wp2_with fail
  refine (vSound_any v _ hv (hE.below bel)).mono ?_
  rintro e w1 ⟨rfl, hb1⟩
  rw [hB]
  clear hB
  go_wp2_with fail
  go_ret
  exact ⟨ret_bool rfl, bel⟩

set_option maxHeartbeats 400000 in
theorem psound_any (vs : List Vl) (A : Option Addr) (cap : Nat) (w : World) (hr : RdL w 5 A (vs.map Vl.cells5)) (hw : ∀ v ∈ vs, v.wf) (hn : vs.length ≤ 9223372036854775807) (hE : Env w) :
    Calls Tryd.prog 16 #[.slice A vs.length cap] w fun e w' =>
      e = .returned (.bool (allSnd vs)) ∧ Below w.heap.size w w' := by
  obtain ⟨B, hB⟩ : ∃ B, allSnd vs = B := ⟨_, rfl⟩
  rw [hB]
  have hgives : valGives 29 #[] (fun v => !sndB v) vs w := fun v hv W hW => psound1_any v W (hw v hv) (hE.below hW)
  have eg : ∀ args W, (callFunc 29 args).run Tryd.prog W = .ok (.enter 29 args) W := enters_of Tryd.func29 (by kernel_rfl) rfl
  have HC : Hid (B = !vs.any (fun v => !sndB v)) := hB.symm
  have HG := Lib.hid hgives
  have HEG := Lib.hid eg
  clear hgives eg hB
  go_enter Tryd.func16, Tryd.ntmps16
  go_wp2_with fail
  refine (valContains 29 (fun v => !sndB v) vs A cap _ hr hn HG.out HEG.out).mono ?_
  rintro e w1 ⟨rfl, hb1⟩
  generalize vs.any (fun v => !sndB v) = N at *
  go_wp2_with fail
  go_ret
  exact ⟨ret_bool HC.out.symm, hb1⟩
end Go.Proofs.YtfhmjkdpohepaaaDoor
