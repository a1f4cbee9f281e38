import Derived.Test.YtfhmjkdpohepaaaDoorPk07
import Derived.Sort.Grow
/- What value.order and its callees make of the world: new blocks and draws alone. (Printed by gen_ordd.py.) -/
set_option linter.unusedSimpArgs false
set_option linter.unusedVariables false
namespace Go.Proofs.YtfhmjkdpohepaaaDoor
open Go.RowKit

/-- as Below, and draws are only added -/
structure BelowD (B : Nat) (w w' : World) : Prop where
  low : Below B w w'
  dr : w.drawn ≤ w'.drawn
theorem BelowD.refl (B : Nat) (w : World) : BelowD B w w := ⟨Below.refl _ _, Nat.le_refl _⟩
theorem BelowD.trans {B : Nat} {a b c : World} (h : BelowD B a b) (k : BelowD B b c) : BelowD B a c := ⟨h.low.trans k.low, Nat.le_trans h.dr k.dr⟩
theorem BelowD.mono {B B' : Nat} {w w' : World} (h : BelowD B w w') (hB : B' ≤ B) : BelowD B' w w' := ⟨h.low.mono hB, h.dr⟩
theorem BelowD.drew {B : Nat} {a w : World} (h : BelowD B a w) : BelowD B a w.drew := ⟨h.low.drew, Nat.le_succ_of_le h.dr⟩
theorem BelowD.alloc {B : Nat} {a w : World} (h : BelowD B a w) (hB : B ≤ w.heap.size) (o : Obj) : BelowD B a (w.alloc o) := ⟨h.low.alloc hB o, h.dr⟩
theorem BelowD.setCell {B : Nat} {a w : World} (h : BelowD B a w) {p : Addr} (hp : B ≤ p.block) (u : Value) : BelowD B a (w.setCell p u) := ⟨h.low.setCell hp u, h.dr⟩
theorem BelowD.size {B : Nat} {a w : World} (h : BelowD B a w) : a.heap.size ≤ w.heap.size := h.low.size
theorem BelowD.cell {B : Nat} {w w' : World} (h : BelowD B w w') {p : Addr} (hp : p.block < B) : w'.cell? p = w.cell? p := h.low.cell hp
theorem BelowD.frozen {B : Nat} {w w' : World} (h : BelowD B w w') {p : Addr} (hp : p.block < B) : w'.frozen? p = w.frozen? p := h.low.frozen hp
theorem belowD_drewN {B : Nat} {a w : World} (h : BelowD B a w) (n : Nat) : BelowD B a (w.drewN n) := ⟨below_drewN h.low n, Nat.le_trans h.dr (Nat.le_add_right _ _)⟩
theorem belowD_iterAt {B : Nat} {a w : World} (h : BelowD B a w) {k : Nat} (hk : B ≤ k) (s : ByteArray) (p : Nat) : BelowD B a (w.iterAt k s p) := ⟨below_iterAt h.low hk s p, h.dr⟩
theorem belowD_iter {B : Nat} {a w : World} (h : BelowD B a w) (hB : B ≤ w.heap.size) (s : ByteArray) (p : Nat) : BelowD B a (w.iter s p) := ⟨below_iter h.low hB s p, h.dr⟩
theorem bcellD {W w1 : World} (hb : BelowD W.heap.size W w1) : (∀ b o, b < W.heap.size → w1.cell? ⟨b, o, none⟩ = W.cell? ⟨b, o, none⟩) ∧ (∀ b o, b < W.heap.size → w1.frozen? ⟨b, o, none⟩ = W.frozen? ⟨b, o, none⟩) := bcell hb.low
theorem keep_cellD {W w' : World} {p : Addr} {v : Value} (hk : BelowD W.heap.size W w') (hp : p.block < W.heap.size) (h : W.cell? p = some v) : w'.cell? p = some v := (hk.cell hp).trans h
/-- .. and so the world is the old one grown and drawn on -/
theorem BelowD.grow_ {w w' : World} (h : BelowD w.heap.size w w') : ∃ q os', w' = Go.Sort.grow (w.drewN q) os' := by
  refine ⟨w'.drawn - w.drawn, (w'.heap.toList.drop w.heap.size).toArray, ?_⟩
  have hh : w'.heap = w.heap ++ (w'.heap.toList.drop w.heap.size).toArray := by
    apply Array.ext_getElem?
    intro k
    by_cases hk : k < w.heap.size
    · rw [Array.getElem?_append_left hk]; exact h.low.block k hk
    · rw [Array.getElem?_append_right (by omega)]
      simp only [List.getElem?_toArray, List.getElem?_drop, Array.getElem?_toList]
      rw [show w.heap.size + (k - w.heap.size) = k by omega]
  have hd : w.drawn + (w'.drawn - w.drawn) = w'.drawn := by have := h.dr; omega
  have ho := h.low.os
  have ht := h.low.tape
  have hp := h.low.output
  show w' = { heap := w.heap ++ (w'.heap.toList.drop w.heap.size).toArray, tape := w.tape, drawn := w.drawn + (w'.drawn - w.drawn), os := w.os, output := w.output }
  rw [← hh, hd, ← ho, ← ht, ← hp]

set_option maxHeartbeats 400000 in
theorem short_anyD (n s : Nat) (hn : n ≤ 18446744073709551615) (hs : s ≤ 6) (w : World) :
    Calls Tryd.prog 47 #[.agg #[.int .u64 n, .int .i64 s]] w fun e w' =>
      e = .returned (.agg #[.int .u64 (shU s n).1, .int .i64 (shU s n).2]) ∧ BelowD w.heap.size w w' := by
  go_enter Tryd.func47, Tryd.ntmps47
  go_wp2
  go_loopg [] s (fun k wr => ∃ m : Nat, m ≤ n ∧ k ≤ s ∧ Hid (shU s n = shU k m) ∧ wr = (w.alloc (.cells #[.int .u64 m, .int .i64 k] 58)).alloc (.cells #[.int .u64 0, .int .i64 0] 58))
  case atStart => exact ⟨n, Nat.le_refl _, Nat.le_refl _, rfl, rfl⟩
  case round =>
    obtain ⟨m, hm, hk, hsh, rfl⟩ := hrel
    rcases gk with _ | k
    · go_wp2
      refine bodyPost_ret (v := .agg #[.int .u64 (shU s n).1, .int .i64 (shU s n).2]) ?_ rfl ⟨rfl, ?_⟩
      · rw [hsh.out]
        simp [results, Tryd.results47, go_sem, shU_zero]
      · exact (by repeat' (first | (with_reducible exact BelowD.refl _ _) | (with_reducible assumption) | (with_reducible refine BelowD.drew ?_) | (with_reducible refine belowD_drewN ?_ _) | (with_reducible refine belowD_iterAt ?_ ?_ _ _) | (with_reducible refine belowD_iter ?_ ?_ _ _) | (with_reducible refine BelowD.alloc ?_ ?_ _) | (with_reducible refine BelowD.setCell ?_ ?_ _) | (with_reducible refine BelowD.trans ?_ (BelowD.mono (by assumption) ?_)) | (simp only [sz_alloc, sz_set, sz_drew, sz_drewN, sz_iterAt, sz_iter] at *; omega) | omega | (simp; done) | (simp; omega) | (apply BelowD.size; assumption) | (simp only [sz_drew, sz_drewN]; apply BelowD.size; assumption) | (refine Nat.le_trans ?_ (BelowD.size (by assumption)))))
    · by_cases h10 : m % 10 = 0
      · have HC := Lib.hid (shU_cut k m h10)
        have hb : ((m : Int) % 10 == 0) = true := by simp; omega
        go_wp2
        go_roundg k
        case measure => omega
        case rel =>
          refine ⟨m / 10, by omega, by omega, hsh.out.trans HC.out, ?_⟩
          rfl
      · have HC := Lib.hid (shU_stop k m h10)
        have hb : ((m : Int) % 10 == 0) = false := by simp; omega
        go_wp2
        refine bodyPost_ret (v := .agg #[.int .u64 (shU s n).1, .int .i64 (shU s n).2]) ?_ rfl ⟨rfl, ?_⟩
        · rw [hsh.out, HC.out]
          simp [results, Tryd.results47, go_sem]
        · exact (by repeat' (first | (with_reducible exact BelowD.refl _ _) | (with_reducible assumption) | (with_reducible refine BelowD.drew ?_) | (with_reducible refine belowD_drewN ?_ _) | (with_reducible refine belowD_iterAt ?_ ?_ _ _) | (with_reducible refine belowD_iter ?_ ?_ _ _) | (with_reducible refine BelowD.alloc ?_ ?_ _) | (with_reducible refine BelowD.setCell ?_ ?_ _) | (with_reducible refine BelowD.trans ?_ (BelowD.mono (by assumption) ?_)) | (simp only [sz_alloc, sz_set, sz_drew, sz_drewN, sz_iterAt, sz_iter] at *; omega) | omega | (simp; done) | (simp; omega) | (apply BelowD.size; assumption) | (simp only [sz_drew, sz_drewN]; apply BelowD.size; assumption) | (refine Nat.le_trans ?_ (BelowD.size (by assumption)))))

set_option maxHeartbeats 400000 in
theorem dec_anyD (n s : Nat) (b : Bool) (hn : n ≤ 18446744073709551615) (hs : s ≤ 6) (w : World) :
    Calls Tryd.prog 31 #[.agg #[.int .u64 n, .int .i64 s], .bool b] w fun e w' =>
      e = .returned (decRes b n s) ∧ BelowD w.heap.size w w' := by
  have hl := shU_le s n
  go_enter Tryd.func31, Tryd.ntmps31
  go_wp2_with fail
  refine (short_anyD n s hn hs _).mono ?_
  rintro e w1 ⟨rfl, hb1⟩
  obtain ⟨hc1, hf1⟩ := bcellD hb1
  have hz1 := hb1.size
  try simp at hz1
  have q1_0 := fun o => hc1 (w.heap.size) o (by first | omega | (simp only [sz_alloc, sz_set, sz_drew, sz_drewN, sz_iterAt, sz_iter] at *; omega) | (simp; done) | (simp; omega) | (simp at *; omega))
  have l1_0 : w.heap.size < w1.heap.size := by omega
  have r1_0 := fun o => hf1 (w.heap.size) o (by first | omega | (simp only [sz_alloc, sz_set, sz_drew, sz_drewN, sz_iterAt, sz_iter] at *; omega) | (simp; done) | (simp; omega) | (simp at *; omega))
  have q1_1 := fun o => hc1 (w.heap.size + 1) o (by first | omega | (simp only [sz_alloc, sz_set, sz_drew, sz_drewN, sz_iterAt, sz_iter] at *; omega) | (simp; done) | (simp; omega) | (simp at *; omega))
  have l1_1 : w.heap.size + 1 < w1.heap.size := by omega
  have r1_1 := fun o => hf1 (w.heap.size + 1) o (by first | omega | (simp only [sz_alloc, sz_set, sz_drew, sz_drewN, sz_iterAt, sz_iter] at *; omega) | (simp; done) | (simp; omega) | (simp at *; omega))
  clear hc1 hf1
  by_cases hle : (shU s n).1 ≤ 999999999999
  · have hd : decide ((999999999999 : Int) < ((shU s n).1 : Int)) = false := by simp; omega
    have hfin : ∀ b, decRes b n s = .tuple #[.agg #[.int .i64 (sgn b (shU s n).1), .int .i64 (shU s n).2], .int .i64 0] := fun b => if_pos hle
    have HF := Lib.hid hfin
    clear hfin
    cases b
    · go_wp2_with fail
      refine bodyPost_ret (v := .tuple #[.agg #[.int .i64 (shU s n).1, .int .i64 (shU s n).2], .int .i64 0]) ?_ rfl ⟨HF.out _ ▸ rfl, ?_⟩
      · simp [results, Tryd.results31, go_sem, *]
      · exact (by repeat' (first | (with_reducible exact BelowD.refl _ _) | (with_reducible assumption) | (with_reducible refine BelowD.drew ?_) | (with_reducible refine belowD_drewN ?_ _) | (with_reducible refine belowD_iterAt ?_ ?_ _ _) | (with_reducible refine belowD_iter ?_ ?_ _ _) | (with_reducible refine BelowD.alloc ?_ ?_ _) | (with_reducible refine BelowD.setCell ?_ ?_ _) | (with_reducible refine BelowD.trans ?_ (BelowD.mono (by assumption) ?_)) | (simp only [sz_alloc, sz_set, sz_drew, sz_drewN, sz_iterAt, sz_iter] at *; omega) | omega | (simp; done) | (simp; omega) | (apply BelowD.size; assumption) | (simp only [sz_drew, sz_drewN]; apply BelowD.size; assumption) | (refine Nat.le_trans ?_ (BelowD.size (by assumption)))))
    · go_wp2_with fail
      refine bodyPost_ret (v := .tuple #[.agg #[.int .i64 (-(shU s n).1), .int .i64 (shU s n).2], .int .i64 0]) ?_ rfl ⟨HF.out _ ▸ rfl, ?_⟩
      · simp [results, Tryd.results31, go_sem, *]
      · exact (by repeat' (first | (with_reducible exact BelowD.refl _ _) | (with_reducible assumption) | (with_reducible refine BelowD.drew ?_) | (with_reducible refine belowD_drewN ?_ _) | (with_reducible refine belowD_iterAt ?_ ?_ _ _) | (with_reducible refine belowD_iter ?_ ?_ _ _) | (with_reducible refine BelowD.alloc ?_ ?_ _) | (with_reducible refine BelowD.setCell ?_ ?_ _) | (with_reducible refine BelowD.trans ?_ (BelowD.mono (by assumption) ?_)) | (simp only [sz_alloc, sz_set, sz_drew, sz_drewN, sz_iterAt, sz_iter] at *; omega) | omega | (simp; done) | (simp; omega) | (apply BelowD.size; assumption) | (simp only [sz_drew, sz_drewN]; apply BelowD.size; assumption) | (refine Nat.le_trans ?_ (BelowD.size (by assumption)))))
  · have hd : decide ((999999999999 : Int) < ((shU s n).1 : Int)) = true := by simp; omega
    have hfin : decRes b n s = .tuple #[.agg #[.int .i64 0, .int .i64 0], .int .i64 3] := if_neg hle
    have HF := Lib.hid hfin
    clear hfin
    go_wp2_with fail
    refine bodyPost_ret (v := .tuple #[.agg #[.int .i64 0, .int .i64 0], .int .i64 3]) ?_ rfl ⟨HF.out ▸ rfl, ?_⟩
    · simp [results, Tryd.results31, go_sem, *]
    · exact (by repeat' (first | (with_reducible exact BelowD.refl _ _) | (with_reducible assumption) | (with_reducible refine BelowD.drew ?_) | (with_reducible refine belowD_drewN ?_ _) | (with_reducible refine belowD_iterAt ?_ ?_ _ _) | (with_reducible refine belowD_iter ?_ ?_ _ _) | (with_reducible refine BelowD.alloc ?_ ?_ _) | (with_reducible refine BelowD.setCell ?_ ?_ _) | (with_reducible refine BelowD.trans ?_ (BelowD.mono (by assumption) ?_)) | (simp only [sz_alloc, sz_set, sz_drew, sz_drewN, sz_iterAt, sz_iter] at *; omega) | omega | (simp; done) | (simp; omega) | (apply BelowD.size; assumption) | (simp only [sz_drew, sz_drewN]; apply BelowD.size; assumption) | (refine Nat.le_trans ?_ (BelowD.size (by assumption)))))

set_option maxHeartbeats 800000 in
theorem make_anyD (n s : Int) (w : World) (hn1 : -9223372036854775808 ≤ n) (hn2 : n ≤ 9223372036854775807) (hs1 : -9223372036854775808 ≤ s) (hs2 : s ≤ 9223372036854775807) :
    Calls Tryd.prog 17 #[.int .i64 n, .int .i64 s] w fun e w' => e = .returned (makeRes n s) ∧ BelowD w.heap.size w w' := by
  by_cases h : decIn n s = true
  · obtain ⟨h1, h2, h3, h4⟩ := decIn_of h
    by_cases hneg : n < 0
    · obtain ⟨m, rfl⟩ : ∃ m : Nat, n = -(m : Int) := ⟨n.natAbs, by omega⟩
      obtain ⟨t, rfl⟩ : ∃ t : Nat, s = (t : Int) := ⟨s.toNat, by omega⟩
      have hm : m ≤ 999999999999 := by omega
      have ht : t ≤ 6 := by omega
      have HG : Hid (decRes true m t = .tuple #[.agg #[.int .i64 (sgn true (shU t m).1), .int .i64 (shU t m).2], .int .i64 0]) := by
        have := (shU_le t m).1
        exact if_pos (by omega)
      have HF : Hid (makeRes (-(m : Int)) t = .tuple #[.agg #[.int .i64 (sgn true (shU t m).1), .int .i64 (shU t m).2], .int .i64 0]) := by
        have := decRes_mk h
        rw [Int.natAbs_neg, Int.natAbs_natCast, Int.toNat_natCast, decide_eq_true hneg] at this
        exact this.symm.trans HG.out
      have e1 : decide ((t : Int) < 0) = false := by simp
      have e2 : decide (6 < (t : Int)) = false := by simp; omega
      have e4 : decide (999999999999 < (m : Int)) = false := by simp; omega
      have e5 : decide (0 < m) = true := by simp; omega
      have e6 : (0 : Int) < m := by omega
      clear h hneg h1 h2 h3 h4 hs1 hs2 hn1 hn2
      generalize (shU t m).1 = a at *
      generalize (shU t m).2 = c at *
      go_enter Tryd.func17, Tryd.ntmps17
      go_wp2_with fail
      try rw [show max (-(m : Int)) (m : Int) = (m : Int) by omega]
      refine (dec_anyD m t true (by omega) ht _).mono ?_
      rintro e w1 ⟨rfl, hb1⟩
      rw [HG.out]
      obtain ⟨hc1, hf1⟩ := bcellD hb1
      have hz1 := hb1.size
      try simp at hz1
      have q1_0 := fun o => hc1 (w.heap.size) o (by first | omega | (simp only [sz_alloc, sz_set, sz_drew, sz_drewN, sz_iterAt, sz_iter] at *; omega) | (simp; done) | (simp; omega) | (simp at *; omega))
      have l1_0 : w.heap.size < w1.heap.size := by omega
      have r1_0 := fun o => hf1 (w.heap.size) o (by first | omega | (simp only [sz_alloc, sz_set, sz_drew, sz_drewN, sz_iterAt, sz_iter] at *; omega) | (simp; done) | (simp; omega) | (simp at *; omega))
      clear hc1 hf1
      go_wp2_with fail
      refine bodyPost_ret (v := .tuple #[.agg #[.int .i64 (sgn true a), .int .i64 c], .int .i64 0]) (by simp [results, Tryd.results17, go_sem, *]) rfl ⟨?_, (by repeat' (first | (with_reducible exact BelowD.refl _ _) | (with_reducible assumption) | (with_reducible refine BelowD.drew ?_) | (with_reducible refine belowD_drewN ?_ _) | (with_reducible refine belowD_iterAt ?_ ?_ _ _) | (with_reducible refine belowD_iter ?_ ?_ _ _) | (with_reducible refine BelowD.alloc ?_ ?_ _) | (with_reducible refine BelowD.setCell ?_ ?_ _) | (with_reducible refine BelowD.trans ?_ (BelowD.mono (by assumption) ?_)) | (simp only [sz_alloc, sz_set, sz_drew, sz_drewN, sz_iterAt, sz_iter] at *; omega) | omega | (simp; done) | (simp; omega) | (apply BelowD.size; assumption) | (simp only [sz_drew, sz_drewN]; apply BelowD.size; assumption) | (refine Nat.le_trans ?_ (BelowD.size (by assumption)))))⟩
      rw [HF.out]
    · obtain ⟨m, rfl⟩ : ∃ m : Nat, n = (m : Int) := ⟨n.natAbs, by omega⟩
      obtain ⟨t, rfl⟩ : ∃ t : Nat, s = (t : Int) := ⟨s.toNat, by omega⟩
      have hm : m ≤ 999999999999 := by omega
      have ht : t ≤ 6 := by omega
      have HG : Hid (decRes false m t = .tuple #[.agg #[.int .i64 (sgn false (shU t m).1), .int .i64 (shU t m).2], .int .i64 0]) := by
        have := (shU_le t m).1
        exact if_pos (by omega)
      have HF : Hid (makeRes ((m : Int)) t = .tuple #[.agg #[.int .i64 (sgn false (shU t m).1), .int .i64 (shU t m).2], .int .i64 0]) := by
        have := decRes_mk h
        rw [Int.natAbs_natCast, Int.toNat_natCast, decide_eq_false hneg] at this
        exact this.symm.trans HG.out
      have e1 : decide ((t : Int) < 0) = false := by simp
      have e2 : decide (6 < (t : Int)) = false := by simp; omega
      have e4 : decide (999999999999 < (m : Int)) = false := by simp; omega
      have e5 : -(m : Int) ≤ m := by omega
      clear h hneg h1 h2 h3 h4 hs1 hs2 hn1 hn2
      generalize (shU t m).1 = a at *
      generalize (shU t m).2 = c at *
      go_enter Tryd.func17, Tryd.ntmps17
      go_wp2_with fail
      try rw [show max (m : Int) (-(m : Int)) = (m : Int) by omega]
      refine (dec_anyD m t false (by omega) ht _).mono ?_
      rintro e w1 ⟨rfl, hb1⟩
      rw [HG.out]
      obtain ⟨hc1, hf1⟩ := bcellD hb1
      have hz1 := hb1.size
      try simp at hz1
      have q1_0 := fun o => hc1 (w.heap.size) o (by first | omega | (simp only [sz_alloc, sz_set, sz_drew, sz_drewN, sz_iterAt, sz_iter] at *; omega) | (simp; done) | (simp; omega) | (simp at *; omega))
      have l1_0 : w.heap.size < w1.heap.size := by omega
      have r1_0 := fun o => hf1 (w.heap.size) o (by first | omega | (simp only [sz_alloc, sz_set, sz_drew, sz_drewN, sz_iterAt, sz_iter] at *; omega) | (simp; done) | (simp; omega) | (simp at *; omega))
      clear hc1 hf1
      go_wp2_with fail
      refine bodyPost_ret (v := .tuple #[.agg #[.int .i64 (sgn false a), .int .i64 c], .int .i64 0]) (by simp [results, Tryd.results17, go_sem, *]) rfl ⟨?_, (by repeat' (first | (with_reducible exact BelowD.refl _ _) | (with_reducible assumption) | (with_reducible refine BelowD.drew ?_) | (with_reducible refine belowD_drewN ?_ _) | (with_reducible refine belowD_iterAt ?_ ?_ _ _) | (with_reducible refine belowD_iter ?_ ?_ _ _) | (with_reducible refine BelowD.alloc ?_ ?_ _) | (with_reducible refine BelowD.setCell ?_ ?_ _) | (with_reducible refine BelowD.trans ?_ (BelowD.mono (by assumption) ?_)) | (simp only [sz_alloc, sz_set, sz_drew, sz_drewN, sz_iterAt, sz_iter] at *; omega) | omega | (simp; done) | (simp; omega) | (apply BelowD.size; assumption) | (simp only [sz_drew, sz_drewN]; apply BelowD.size; assumption) | (refine Nat.le_trans ?_ (BelowD.size (by assumption)))))⟩
      rw [HF.out]
  · have h' : decIn n s = false := by simpa using h
    have HF := Lib.hid (makeRes_no h')
    have h0 : s < 0 ∨ (0 ≤ s ∧ 6 < s) ∨ (0 ≤ s ∧ s ≤ 6 ∧ 999999999999 < n) ∨ (0 ≤ s ∧ s ≤ 6 ∧ n ≤ 999999999999 ∧ n < -999999999999) := by
      simp [decIn] at h'; omega
    clear h h'
    rcases h0 with a | ⟨a, b⟩ | ⟨a, b, c⟩ | ⟨a, b, c, d⟩
    · have e1 : decide (s < 0) = true := by simp; omega
      go_enter Tryd.func17, Tryd.ntmps17
      go_wp2_with fail
      refine bodyPost_ret (v := .tuple #[.agg #[.int .i64 0, .int .i64 0], .int .i64 3]) (by simp [results, Tryd.results17, go_sem, *]) rfl ⟨?_, (by repeat' (first | (with_reducible exact BelowD.refl _ _) | (with_reducible assumption) | (with_reducible refine BelowD.drew ?_) | (with_reducible refine belowD_drewN ?_ _) | (with_reducible refine belowD_iterAt ?_ ?_ _ _) | (with_reducible refine belowD_iter ?_ ?_ _ _) | (with_reducible refine BelowD.alloc ?_ ?_ _) | (with_reducible refine BelowD.setCell ?_ ?_ _) | (with_reducible refine BelowD.trans ?_ (BelowD.mono (by assumption) ?_)) | (simp only [sz_alloc, sz_set, sz_drew, sz_drewN, sz_iterAt, sz_iter] at *; omega) | omega | (simp; done) | (simp; omega) | (apply BelowD.size; assumption) | (simp only [sz_drew, sz_drewN]; apply BelowD.size; assumption) | (refine Nat.le_trans ?_ (BelowD.size (by assumption)))))⟩
      rw [HF.out]
    · have e1 : decide (s < 0) = false := by simp; omega
      have e2 : decide (6 < s) = true := by simp; omega
      go_enter Tryd.func17, Tryd.ntmps17
      go_wp2_with fail
      refine bodyPost_ret (v := .tuple #[.agg #[.int .i64 0, .int .i64 0], .int .i64 3]) (by simp [results, Tryd.results17, go_sem, *]) rfl ⟨?_, (by repeat' (first | (with_reducible exact BelowD.refl _ _) | (with_reducible assumption) | (with_reducible refine BelowD.drew ?_) | (with_reducible refine belowD_drewN ?_ _) | (with_reducible refine belowD_iterAt ?_ ?_ _ _) | (with_reducible refine belowD_iter ?_ ?_ _ _) | (with_reducible refine BelowD.alloc ?_ ?_ _) | (with_reducible refine BelowD.setCell ?_ ?_ _) | (with_reducible refine BelowD.trans ?_ (BelowD.mono (by assumption) ?_)) | (simp only [sz_alloc, sz_set, sz_drew, sz_drewN, sz_iterAt, sz_iter] at *; omega) | omega | (simp; done) | (simp; omega) | (apply BelowD.size; assumption) | (simp only [sz_drew, sz_drewN]; apply BelowD.size; assumption) | (refine Nat.le_trans ?_ (BelowD.size (by assumption)))))⟩
      rw [HF.out]
    · have e1 : decide (s < 0) = false := by simp; omega
      have e2 : decide (6 < s) = false := by simp; omega
      have e3 : decide (999999999999 < n) = true := by simp; omega
      go_enter Tryd.func17, Tryd.ntmps17
      go_wp2_with fail
      refine bodyPost_ret (v := .tuple #[.agg #[.int .i64 0, .int .i64 0], .int .i64 3]) (by simp [results, Tryd.results17, go_sem, *]) rfl ⟨?_, (by repeat' (first | (with_reducible exact BelowD.refl _ _) | (with_reducible assumption) | (with_reducible refine BelowD.drew ?_) | (with_reducible refine belowD_drewN ?_ _) | (with_reducible refine belowD_iterAt ?_ ?_ _ _) | (with_reducible refine belowD_iter ?_ ?_ _ _) | (with_reducible refine BelowD.alloc ?_ ?_ _) | (with_reducible refine BelowD.setCell ?_ ?_ _) | (with_reducible refine BelowD.trans ?_ (BelowD.mono (by assumption) ?_)) | (simp only [sz_alloc, sz_set, sz_drew, sz_drewN, sz_iterAt, sz_iter] at *; omega) | omega | (simp; done) | (simp; omega) | (apply BelowD.size; assumption) | (simp only [sz_drew, sz_drewN]; apply BelowD.size; assumption) | (refine Nat.le_trans ?_ (BelowD.size (by assumption)))))⟩
      rw [HF.out]
    · have e1 : decide (s < 0) = false := by simp; omega
      have e2 : decide (6 < s) = false := by simp; omega
      have e3 : decide (999999999999 < n) = false := by simp; omega
      have e4 : decide (n < -999999999999) = true := by simp; omega
      go_enter Tryd.func17, Tryd.ntmps17
      go_wp2_with fail
      refine bodyPost_ret (v := .tuple #[.agg #[.int .i64 0, .int .i64 0], .int .i64 3]) (by simp [results, Tryd.results17, go_sem, *]) rfl ⟨?_, (by repeat' (first | (with_reducible exact BelowD.refl _ _) | (with_reducible assumption) | (with_reducible refine BelowD.drew ?_) | (with_reducible refine belowD_drewN ?_ _) | (with_reducible refine belowD_iterAt ?_ ?_ _ _) | (with_reducible refine belowD_iter ?_ ?_ _ _) | (with_reducible refine BelowD.alloc ?_ ?_ _) | (with_reducible refine BelowD.setCell ?_ ?_ _) | (with_reducible refine BelowD.trans ?_ (BelowD.mono (by assumption) ?_)) | (simp only [sz_alloc, sz_set, sz_drew, sz_drewN, sz_iterAt, sz_iter] at *; omega) | omega | (simp; done) | (simp; omega) | (apply BelowD.size; assumption) | (simp only [sz_drew, sz_drewN]; apply BelowD.size; assumption) | (refine Nat.le_trans ?_ (BelowD.size (by assumption)))))⟩
      rw [HF.out]

set_option maxHeartbeats 400000 in
theorem decSound_anyD (n s : Int) (w : World) (hn1 : -9223372036854775808 ≤ n) (hn2 : n ≤ 9223372036854775807) (hs1 : -9223372036854775808 ≤ s) (hs2 : s ≤ 9223372036854775807) :
    Calls Tryd.prog 45 #[.agg #[.int .i64 n, .int .i64 s]] w fun e w' => e = .returned (.bool (decSnd n s)) ∧ BelowD w.heap.size w w' := by
  by_cases h : decIn n s = true
  · have HM := Lib.hid (makeRes_yes h)
    have HF := Lib.hid (decIn_snd h)
    clear h
    generalize mkN n s = N at *
    generalize mkS n s = S at *
    go_enter Tryd.func45, Tryd.ntmps45
    go_wp2_with fail
    refine (make_anyD n s _ hn1 hn2 hs1 hs2).mono ?_
    rintro e w1 ⟨rfl, hb1⟩
    rw [HM.out]
    obtain ⟨hc1, hf1⟩ := bcellD hb1
    have hz1 := hb1.size
    try simp at hz1
    have q1_0 := fun o => hc1 (w.heap.size) o (by first | omega | (simp only [sz_alloc, sz_set, sz_drew, sz_drewN, sz_iterAt, sz_iter] at *; omega) | (simp; done) | (simp; omega) | (simp at *; omega))
    have l1_0 : w.heap.size < w1.heap.size := by omega
    have r1_0 := fun o => hf1 (w.heap.size) o (by first | omega | (simp only [sz_alloc, sz_set, sz_drew, sz_drewN, sz_iterAt, sz_iter] at *; omega) | (simp; done) | (simp; omega) | (simp at *; omega))
    clear hc1 hf1
    clear hn1 hn2 hs1 hs2
    go_wp2_with fail
    all_goals go_ret
    all_goals exact ⟨ret_bool (by rw [HF.out]; simp [*]), (by repeat' (first | (with_reducible exact BelowD.refl _ _) | (with_reducible assumption) | (with_reducible refine BelowD.drew ?_) | (with_reducible refine belowD_drewN ?_ _) | (with_reducible refine belowD_iterAt ?_ ?_ _ _) | (with_reducible refine belowD_iter ?_ ?_ _ _) | (with_reducible refine BelowD.alloc ?_ ?_ _) | (with_reducible refine BelowD.setCell ?_ ?_ _) | (with_reducible refine BelowD.trans ?_ (BelowD.mono (by assumption) ?_)) | (simp only [sz_alloc, sz_set, sz_drew, sz_drewN, sz_iterAt, sz_iter] at *; omega) | omega | (simp; done) | (simp; omega) | (apply BelowD.size; assumption) | (simp only [sz_drew, sz_drewN]; apply BelowD.size; assumption) | (refine Nat.le_trans ?_ (BelowD.size (by assumption)))))⟩
  · have h' : decIn n s = false := by simpa using h
    have HM := Lib.hid (makeRes_no h')
    have HF := Lib.hid (not_decIn_snd h')
    clear h h'
    go_enter Tryd.func45, Tryd.ntmps45
    go_wp2_with fail
    refine (make_anyD n s _ hn1 hn2 hs1 hs2).mono ?_
    rintro e w1 ⟨rfl, hb1⟩
    rw [HM.out]
    obtain ⟨hc1, hf1⟩ := bcellD hb1
    have hz1 := hb1.size
    try simp at hz1
    have q1_0 := fun o => hc1 (w.heap.size) o (by first | omega | (simp only [sz_alloc, sz_set, sz_drew, sz_drewN, sz_iterAt, sz_iter] at *; omega) | (simp; done) | (simp; omega) | (simp at *; omega))
    have l1_0 : w.heap.size < w1.heap.size := by omega
    have r1_0 := fun o => hf1 (w.heap.size) o (by first | omega | (simp only [sz_alloc, sz_set, sz_drew, sz_drewN, sz_iterAt, sz_iter] at *; omega) | (simp; done) | (simp; omega) | (simp at *; omega))
    clear hc1 hf1
    go_wp2_with fail
    go_ret
    exact ⟨ret_bool (by rw [HF.out]), (by repeat' (first | (with_reducible exact BelowD.refl _ _) | (with_reducible assumption) | (with_reducible refine BelowD.drew ?_) | (with_reducible refine belowD_drewN ?_ _) | (with_reducible refine belowD_iterAt ?_ ?_ _ _) | (with_reducible refine belowD_iter ?_ ?_ _ _) | (with_reducible refine BelowD.alloc ?_ ?_ _) | (with_reducible refine BelowD.setCell ?_ ?_ _) | (with_reducible refine BelowD.trans ?_ (BelowD.mono (by assumption) ?_)) | (simp only [sz_alloc, sz_set, sz_drew, sz_drewN, sz_iterAt, sz_iter] at *; omega) | omega | (simp; done) | (simp; omega) | (apply BelowD.size; assumption) | (simp only [sz_drew, sz_drewN]; apply BelowD.size; assumption) | (refine Nat.le_trans ?_ (BelowD.size (by assumption)))))⟩

set_option maxHeartbeats 800000 in
theorem units_anyD (n s : Int) (w : World) (h1 : -999999999999 ≤ n) (h2 : n ≤ 999999999999) (h3 : 0 ≤ s) (h4 : s ≤ 6) :
    Calls Tryd.prog 51 #[.agg #[.int .i64 n, .int .i64 s]] w fun e w' => e = .returned (.int .i64 (unitsI n s)) ∧ BelowD w.heap.size w w' := by
  obtain ⟨t, rfl⟩ : ∃ t : Nat, s = (t : Int) := ⟨s.toNat, by omega⟩
  have hb := units_bd h1 h2 h3 h4
  have hsub : IntKind.i64.wrap (6 - (t : Int)) = ((6 - t : Nat) : Int) := by rw [IntWalk.i64_in _ (by omega)]; omega
  obtain ⟨p, hp⟩ : ∃ p, 10 ^ (6 - t) = p := ⟨_, rfl⟩
  have hu : unitsI n t = n * (p : Int) := by
    unfold unitsI; rw [← hp, Int.toNat_natCast]; norm_cast
  rw [hu] at hb ⊢
  have HP := Lib.hid hp
  clear hp hu
  have hp2 : p ≤ 1000000 := by
    have h := Nat.pow_le_pow_right (n := 10) (by omega) (show 6 - t ≤ 6 by omega)
    rw [HP.out] at h
    have e2 : (10 : Nat) ^ 6 = 1000000 := rfl
    omega
  go_enter Tryd.func51, Tryd.ntmps51
  go_wp2_with fail
  go_region_held3 (fun w' => w'.cell? ⟨w.heap.size, 0, none⟩ = some (.int .i64 n) ∧ w'.cell? ⟨w.heap.size, 1, none⟩ = some (.int .i64 t)) (go_keep)
    (first
      | (go_at_call 64; refine (power_p (6 - t) p (by omega) HP.out _).mono ?_; rintro e w' ⟨rfl, rfl⟩))
  go_wp2_with fail
  go_ret
  refine ⟨ret_int ?_, (by repeat' (first | (with_reducible exact BelowD.refl _ _) | (with_reducible assumption) | (with_reducible refine BelowD.drew ?_) | (with_reducible refine belowD_drewN ?_ _) | (with_reducible refine belowD_iterAt ?_ ?_ _ _) | (with_reducible refine belowD_iter ?_ ?_ _ _) | (with_reducible refine BelowD.alloc ?_ ?_ _) | (with_reducible refine BelowD.setCell ?_ ?_ _) | (with_reducible refine BelowD.trans ?_ (BelowD.mono (by assumption) ?_)) | (simp only [sz_alloc, sz_set, sz_drew, sz_drewN, sz_iterAt, sz_iter] at *; omega) | omega | (simp; done) | (simp; omega) | (apply BelowD.size; assumption) | (simp only [sz_drew, sz_drewN]; apply BelowD.size; assumption) | (refine Nat.le_trans ?_ (BelowD.size (by assumption)))))⟩
  show IntKind.i64.wrap (n * IntKind.i64.wrap (p : Int)) = n * (p : Int)
  rw [IntWalk.i64_in (p : Int) (by omega), IntWalk.i64_in (n * (p : Int)) (by omega)]

set_option maxHeartbeats 800000 in
/-- a row of two numbers in a block of its own -/
theorem all2_anyD (b : Nat) (n s n' s' : Int) (w : World) (hb : b < w.heap.size)
    (c0 : w.cell? ⟨b, 0, none⟩ = some (.int .i64 n)) (c1 : w.cell? ⟨b, 1, none⟩ = some (.int .i64 s)) (c2 : w.cell? ⟨b, 2, none⟩ = some (.int .i64 n')) (c3 : w.cell? ⟨b, 3, none⟩ = some (.int .i64 s'))
    (hn : I64 n) (hs : I64 s) (hn' : I64 n') (hs' : I64 s') :
    Calls Tryd.prog 50 #[.slice (some ⟨b, 0, none⟩) 2 2] w fun e w' => e = .returned (.int .i64 (okE (decSnd n s && decSnd n' s'))) ∧ BelowD w.heap.size w w' := by
  go_enter Tryd.func50, Tryd.ntmps50
  go_wp2_with fail
  go_loopg [7] 2 (fun k i wr => ∃ j : Nat, j ≤ 2 ∧ 2 - j ≤ k ∧ (1 ≤ j → Hid (decSnd n s = true)) ∧ (2 ≤ j → Hid (decSnd n' s' = true)) ∧ i = .int .i64 j ∧ BelowD w.heap.size w wr)
  case atStart => exact ⟨0, by omega, by omega, fun h => by omega, fun h => by omega, rfl, BelowD.refl _ _⟩
  case round =>
    obtain ⟨j, hj, hjk, g1, g2, rfl, hbel⟩ := hrel
    have hc : ∀ o, wr.cell? ⟨b, o, none⟩ = w.cell? ⟨b, o, none⟩ := fun o => hbel.cell (p := ⟨b, o, none⟩) hb
    have d0 := (hc 0).trans c0
    have d1 := (hc 1).trans c1
    have d2 := (hc 2).trans c2
    have d3 := (hc 3).trans c3
    clear hc
    have hsz := hbel.size
    have hj3 : j = 0 ∨ j = 1 ∨ j = 2 := by omega
    rcases hj3 with rfl | rfl | rfl
    · have I1 := hn
      have I2 := hs
      simp only [I64] at I1 I2
      cases hd : decSnd n s
      · have HF : Hid ((decSnd n s && decSnd n' s') = false) := by show _ = _; rw [hd]; simp
        go_wp2_with fail
        refine (decSound_anyD n s _ I1.1 I1.2 I2.1 I2.2).mono ?_
        rintro e w1 ⟨rfl, hb1⟩
        rw [hd]
        clear hd I1 I2
        go_wp2_with fail
        go_ret
        exact ⟨ret_int (by rw [HF.out]; rfl), (by repeat' (first | (with_reducible exact BelowD.refl _ _) | (with_reducible assumption) | (with_reducible refine BelowD.drew ?_) | (with_reducible refine belowD_drewN ?_ _) | (with_reducible refine belowD_iterAt ?_ ?_ _ _) | (with_reducible refine belowD_iter ?_ ?_ _ _) | (with_reducible refine BelowD.alloc ?_ ?_ _) | (with_reducible refine BelowD.setCell ?_ ?_ _) | (with_reducible refine BelowD.trans ?_ (BelowD.mono (by assumption) ?_)) | (simp only [sz_alloc, sz_set, sz_drew, sz_drewN, sz_iterAt, sz_iter] at *; omega) | omega | (simp; done) | (simp; omega) | (apply BelowD.size; assumption) | (simp only [sz_drew, sz_drewN]; apply BelowD.size; assumption) | (refine Nat.le_trans ?_ (BelowD.size (by assumption)))))⟩
      · have HD := Lib.hid hd
        go_wp2_with fail
        refine (decSound_anyD n s _ I1.1 I1.2 I2.1 I2.2).mono ?_
        rintro e w1 ⟨rfl, hb1⟩
        rw [hd]
        clear hd I1 I2
        go_wp2_with fail
        go_roundg (gk - 1)
        case measure => omega
        case rel => exact ⟨0 + 1, by omega, by omega, fun _ => HD, fun h => by omega, by go_num, (by repeat' (first | (with_reducible exact BelowD.refl _ _) | (with_reducible assumption) | (with_reducible refine BelowD.drew ?_) | (with_reducible refine belowD_drewN ?_ _) | (with_reducible refine belowD_iterAt ?_ ?_ _ _) | (with_reducible refine belowD_iter ?_ ?_ _ _) | (with_reducible refine BelowD.alloc ?_ ?_ _) | (with_reducible refine BelowD.setCell ?_ ?_ _) | (with_reducible refine BelowD.trans ?_ (BelowD.mono (by assumption) ?_)) | (simp only [sz_alloc, sz_set, sz_drew, sz_drewN, sz_iterAt, sz_iter] at *; omega) | omega | (simp; done) | (simp; omega) | (apply BelowD.size; assumption) | (simp only [sz_drew, sz_drewN]; apply BelowD.size; assumption) | (refine Nat.le_trans ?_ (BelowD.size (by assumption)))))⟩
    · have I1 := hn'
      have I2 := hs'
      simp only [I64] at I1 I2
      cases hd : decSnd n' s'
      · have HF : Hid ((decSnd n s && decSnd n' s') = false) := by show _ = _; rw [hd]; simp
        go_wp2_with fail
        refine (decSound_anyD n' s' _ I1.1 I1.2 I2.1 I2.2).mono ?_
        rintro e w1 ⟨rfl, hb1⟩
        rw [hd]
        clear hd I1 I2
        go_wp2_with fail
        go_ret
        exact ⟨ret_int (by rw [HF.out]; rfl), (by repeat' (first | (with_reducible exact BelowD.refl _ _) | (with_reducible assumption) | (with_reducible refine BelowD.drew ?_) | (with_reducible refine belowD_drewN ?_ _) | (with_reducible refine belowD_iterAt ?_ ?_ _ _) | (with_reducible refine belowD_iter ?_ ?_ _ _) | (with_reducible refine BelowD.alloc ?_ ?_ _) | (with_reducible refine BelowD.setCell ?_ ?_ _) | (with_reducible refine BelowD.trans ?_ (BelowD.mono (by assumption) ?_)) | (simp only [sz_alloc, sz_set, sz_drew, sz_drewN, sz_iterAt, sz_iter] at *; omega) | omega | (simp; done) | (simp; omega) | (apply BelowD.size; assumption) | (simp only [sz_drew, sz_drewN]; apply BelowD.size; assumption) | (refine Nat.le_trans ?_ (BelowD.size (by assumption)))))⟩
      · have HD := Lib.hid hd
        go_wp2_with fail
        refine (decSound_anyD n' s' _ I1.1 I1.2 I2.1 I2.2).mono ?_
        rintro e w1 ⟨rfl, hb1⟩
        rw [hd]
        clear hd I1 I2
        go_wp2_with fail
        go_roundg (gk - 1)
        case measure => omega
        case rel => exact ⟨1 + 1, by omega, by omega, fun _ => g1 (by omega), fun _ => HD, by go_num, (by repeat' (first | (with_reducible exact BelowD.refl _ _) | (with_reducible assumption) | (with_reducible refine BelowD.drew ?_) | (with_reducible refine belowD_drewN ?_ _) | (with_reducible refine belowD_iterAt ?_ ?_ _ _) | (with_reducible refine belowD_iter ?_ ?_ _ _) | (with_reducible refine BelowD.alloc ?_ ?_ _) | (with_reducible refine BelowD.setCell ?_ ?_ _) | (with_reducible refine BelowD.trans ?_ (BelowD.mono (by assumption) ?_)) | (simp only [sz_alloc, sz_set, sz_drew, sz_drewN, sz_iterAt, sz_iter] at *; omega) | omega | (simp; done) | (simp; omega) | (apply BelowD.size; assumption) | (simp only [sz_drew, sz_drewN]; apply BelowD.size; assumption) | (refine Nat.le_trans ?_ (BelowD.size (by assumption)))))⟩
    · have HT : Hid ((decSnd n s && decSnd n' s') = true) := by show _ = _; rw [(g1 (by omega)).out, (g2 (by omega)).out]; rfl
      go_wp2_with fail
      go_ret
      exact ⟨ret_int (by rw [HT.out]; rfl), hbel⟩

set_option maxHeartbeats 1600000 in
theorem decCmp_anyD (n s n' s' : Int) (w : World) (hn : I64 n) (hs : I64 s) (hn' : I64 n') (hs' : I64 s') :
    Calls Tryd.prog 68 #[.agg #[.int .i64 n, .int .i64 s], .agg #[.int .i64 n', .int .i64 s']] w fun e w' => e = .returned (cmpRes n s n' s') ∧ BelowD w.heap.size w w' := by
  cases hd : (decSnd n s && decSnd n' s')
  · have HF := Lib.hid (cmpRes_no hd)
    go_enter Tryd.func68, Tryd.ntmps68
    go_wp2_with fail
    refine (all2_anyD _ n s n' s' _ (by first | omega | (simp only [sz_alloc, sz_set, sz_drew, sz_drewN, sz_iterAt, sz_iter] at *; omega) | (simp; done) | (simp; omega) | (simp at *; omega)) (by first | (simp [go_sem]; done) | (simp [go_sem, *]; done)) (by first | (simp [go_sem]; done) | (simp [go_sem, *]; done)) (by first | (simp [go_sem]; done) | (simp [go_sem, *]; done)) (by first | (simp [go_sem]; done) | (simp [go_sem, *]; done)) hn hs hn' hs').mono ?_
    rintro e w1 ⟨rfl, hb1⟩
    rw [hd, okE_false]
    clear hd
    go_wp2_with fail
    go_ret2
    exact ⟨by rw [HF.out]; rfl, (by repeat' (first | (with_reducible exact BelowD.refl _ _) | (with_reducible assumption) | (with_reducible refine BelowD.drew ?_) | (with_reducible refine belowD_drewN ?_ _) | (with_reducible refine belowD_iterAt ?_ ?_ _ _) | (with_reducible refine belowD_iter ?_ ?_ _ _) | (with_reducible refine BelowD.alloc ?_ ?_ _) | (with_reducible refine BelowD.setCell ?_ ?_ _) | (with_reducible refine BelowD.trans ?_ (BelowD.mono (by assumption) ?_)) | (simp only [sz_alloc, sz_set, sz_drew, sz_drewN, sz_iterAt, sz_iter] at *; omega) | omega | (simp; done) | (simp; omega) | (apply BelowD.size; assumption) | (simp only [sz_drew, sz_drewN]; apply BelowD.size; assumption) | (refine Nat.le_trans ?_ (BelowD.size (by assumption)))))⟩
  · have hd2 : decSnd n s = true ∧ decSnd n' s' = true := by simpa using hd
    have HF := Lib.hid (cmpRes_yes hd2.1 hd2.2)
    obtain ⟨a1, a2, a3, a4, -⟩ := decSnd_of hd2.1
    obtain ⟨b1, b2, b3, b4, -⟩ := decSnd_of hd2.2
    go_enter Tryd.func68, Tryd.ntmps68
    go_wp2_with fail
    refine (all2_anyD _ n s n' s' _ (by first | omega | (simp only [sz_alloc, sz_set, sz_drew, sz_drewN, sz_iterAt, sz_iter] at *; omega) | (simp; done) | (simp; omega) | (simp at *; omega)) (by first | (simp [go_sem]; done) | (simp [go_sem, *]; done)) (by first | (simp [go_sem]; done) | (simp [go_sem, *]; done)) (by first | (simp [go_sem]; done) | (simp [go_sem, *]; done)) (by first | (simp [go_sem]; done) | (simp [go_sem, *]; done)) hn hs hn' hs').mono ?_
    rintro e w1 ⟨rfl, hb1⟩
    rw [hd, okE_true]
    clear hd hd2 hn hs hn' hs'
    obtain ⟨hc1, hf1⟩ := bcellD hb1
    have hz1 := hb1.size
    try simp at hz1
    have q1_0 := fun o => hc1 (w.heap.size) o (by first | omega | (simp only [sz_alloc, sz_set, sz_drew, sz_drewN, sz_iterAt, sz_iter] at *; omega) | (simp; done) | (simp; omega) | (simp at *; omega))
    have l1_0 : w.heap.size < w1.heap.size := by omega
    have r1_0 := fun o => hf1 (w.heap.size) o (by first | omega | (simp only [sz_alloc, sz_set, sz_drew, sz_drewN, sz_iterAt, sz_iter] at *; omega) | (simp; done) | (simp; omega) | (simp at *; omega))
    have q1_1 := fun o => hc1 (w.heap.size + 1) o (by first | omega | (simp only [sz_alloc, sz_set, sz_drew, sz_drewN, sz_iterAt, sz_iter] at *; omega) | (simp; done) | (simp; omega) | (simp at *; omega))
    have l1_1 : w.heap.size + 1 < w1.heap.size := by omega
    have r1_1 := fun o => hf1 (w.heap.size + 1) o (by first | omega | (simp only [sz_alloc, sz_set, sz_drew, sz_drewN, sz_iterAt, sz_iter] at *; omega) | (simp; done) | (simp; omega) | (simp at *; omega))
    clear hc1 hf1
    go_wp2_with fail
    have kk0 : w1.cell? ⟨w.heap.size, 0, none⟩ = some (.int .i64 n) := (by first | (simp [go_sem]; done) | (simp [go_sem, *]; done))
    have kk1 : w1.cell? ⟨w.heap.size, 1, none⟩ = some (.int .i64 s) := (by first | (simp [go_sem]; done) | (simp [go_sem, *]; done))
    have kk2 : w1.cell? ⟨w.heap.size + 1, 0, none⟩ = some (.int .i64 n') := (by first | (simp [go_sem]; done) | (simp [go_sem, *]; done))
    have kk3 : w1.cell? ⟨w.heap.size + 1, 1, none⟩ = some (.int .i64 s') := (by first | (simp [go_sem]; done) | (simp [go_sem, *]; done))
    go_region_held3 (fun w' => BelowD w1.heap.size w1 w' ∧ w'.cell? ⟨w.heap.size, 0, none⟩ = some (.int .i64 n) ∧ w'.cell? ⟨w.heap.size, 1, none⟩ = some (.int .i64 s) ∧ w'.cell? ⟨w.heap.size + 1, 0, none⟩ = some (.int .i64 n') ∧ w'.cell? ⟨w.heap.size + 1, 1, none⟩ = some (.int .i64 s')) ((refine and_keep ?_ (fun hk => ⟨keep_cellD hk l1_0 kk0, keep_cellD hk l1_0 kk1, keep_cellD hk l1_1 kk2, keep_cellD hk l1_1 kk3⟩); exact (by repeat' (first | (with_reducible exact BelowD.refl _ _) | (with_reducible assumption) | (with_reducible refine BelowD.drew ?_) | (with_reducible refine belowD_drewN ?_ _) | (with_reducible refine belowD_iterAt ?_ ?_ _ _) | (with_reducible refine belowD_iter ?_ ?_ _ _) | (with_reducible refine BelowD.alloc ?_ ?_ _) | (with_reducible refine BelowD.setCell ?_ ?_ _) | (with_reducible refine BelowD.trans ?_ (BelowD.mono (by assumption) ?_)) | (simp only [sz_alloc, sz_set, sz_drew, sz_drewN, sz_iterAt, sz_iter] at *; omega) | omega | (simp; done) | (simp; omega) | (apply BelowD.size; assumption) | (simp only [sz_drew, sz_drewN]; apply BelowD.size; assumption) | (refine Nat.le_trans ?_ (BelowD.size (by assumption)))))))
      (first
        | (go_at_call 51; refine (units_anyD _ _ _ (by omega) (by omega) (by omega) (by omega)).mono ?_; rintro e w' ⟨rfl, hb'⟩)
        | (go_at_call 67; refine (Tryd.cmp_Compare_int _ _ _).mono ?_; rintro e w' ⟨rfl, rfl⟩))
    rw [compareInt_eq]
    go_wp2_with fail
    go_ret2
    exact ⟨by rw [HF.out]; rfl, (by repeat' (first | (with_reducible exact BelowD.refl _ _) | (with_reducible assumption) | (with_reducible refine BelowD.drew ?_) | (with_reducible refine belowD_drewN ?_ _) | (with_reducible refine belowD_iterAt ?_ ?_ _ _) | (with_reducible refine belowD_iter ?_ ?_ _ _) | (with_reducible refine BelowD.alloc ?_ ?_ _) | (with_reducible refine BelowD.setCell ?_ ?_ _) | (with_reducible refine BelowD.trans ?_ (BelowD.mono (by assumption) ?_)) | (simp only [sz_alloc, sz_set, sz_drew, sz_drewN, sz_iterAt, sz_iter] at *; omega) | omega | (simp; done) | (simp; omega) | (apply BelowD.size; assumption) | (simp only [sz_drew, sz_drewN]; apply BelowD.size; assumption) | (refine Nat.le_trans ?_ (BelowD.size (by assumption)))))⟩

set_option maxHeartbeats 1600000 in
theorem order_anyD (a b : Vl) (w : World) (ha : a.wf) (hb : b.wf) (sa : sndB a = true) (sb : sndB b = true) :
    Calls Tryd.prog 55 #[.agg #[.int .i64 a.k, .int .i64 a.n, .int .i64 a.s, .string a.t, .int .i64 a.i], .agg #[.int .i64 b.k, .int .i64 b.n, .int .i64 b.s, .string b.t, .int .i64 b.i]] w fun e w' =>
      e = .returned (.int .i64 (cmpV a b)) ∧ BelowD w.heap.size w w' := by
  obtain ⟨C, hC⟩ : ∃ C, cmpV a b = C := ⟨_, rfl⟩
  rw [hC]
  by_cases hk : a.k = b.k
  · have e1 : (a.k != b.k) = false := by simp [hk]
    by_cases h1 : a.k = 1
    · have HC : Hid (C = cmpD a.n a.s b.n b.s) := by rw [← hC]; unfold cmpV; rw [if_pos hk, if_pos h1]; exact rfl
      have HM := Lib.hid (cmpRes_yes (sndB_dec sa h1) (sndB_dec sb (by omega)))
      have I1 := ha.n
      have I2 := ha.s
      have I3 := hb.n
      have I4 := hb.s
      have e2 : (a.k == 1) = true := by simp [h1]
      clear hk h1 hC sa sb ha hb
      go_enter Tryd.func55, Tryd.ntmps55
      go_wp2_with fail
      refine (decCmp_anyD _ _ _ _ _ I1 I2 I3 I4).mono ?_
      rintro e w1 ⟨rfl, hb1⟩
      rw [HM.out]
      go_wp2_with fail
      go_ret
      exact ⟨ret_int HC.out.symm, (by repeat' (first | (with_reducible exact BelowD.refl _ _) | (with_reducible assumption) | (with_reducible refine BelowD.drew ?_) | (with_reducible refine belowD_drewN ?_ _) | (with_reducible refine belowD_iterAt ?_ ?_ _ _) | (with_reducible refine belowD_iter ?_ ?_ _ _) | (with_reducible refine BelowD.alloc ?_ ?_ _) | (with_reducible refine BelowD.setCell ?_ ?_ _) | (with_reducible refine BelowD.trans ?_ (BelowD.mono (by assumption) ?_)) | (simp only [sz_alloc, sz_set, sz_drew, sz_drewN, sz_iterAt, sz_iter] at *; omega) | omega | (simp; done) | (simp; omega) | (apply BelowD.size; assumption) | (simp only [sz_drew, sz_drewN]; apply BelowD.size; assumption) | (refine Nat.le_trans ?_ (BelowD.size (by assumption)))))⟩
    · have HC : Hid (C = orI (cmpT a.t b.t) (cmpI a.i b.i)) := by rw [← hC]; unfold cmpV; rw [if_pos hk, if_neg h1]; exact rfl
      have e2 : (a.k == 1) = false := by simp [h1]
      clear hk h1 hC sa sb ha hb
      go_enter Tryd.func55, Tryd.ntmps55
      go_wp2_with fail
      generalize hEW0 : (w.alloc _).alloc _ = W0
      have hbW0 : BelowD w.heap.size w W0 := (by rw [← hEW0]; exact (by repeat' (first | (with_reducible exact BelowD.refl _ _) | (with_reducible assumption) | (with_reducible refine BelowD.drew ?_) | (with_reducible refine belowD_drewN ?_ _) | (with_reducible refine belowD_iterAt ?_ ?_ _ _) | (with_reducible refine belowD_iter ?_ ?_ _ _) | (with_reducible refine BelowD.alloc ?_ ?_ _) | (with_reducible refine BelowD.setCell ?_ ?_ _) | (with_reducible refine BelowD.trans ?_ (BelowD.mono (by assumption) ?_)) | (simp only [sz_alloc, sz_set, sz_drew, sz_drewN, sz_iterAt, sz_iter] at *; omega) | omega | (simp; done) | (simp; omega) | (apply BelowD.size; assumption) | (simp only [sz_drew, sz_drewN]; apply BelowD.size; assumption) | (refine Nat.le_trans ?_ (BelowD.size (by assumption))))))
      have lW0_0 : w.heap.size < W0.heap.size := (by rw [← hEW0]; first | omega | (simp only [sz_alloc, sz_set, sz_drew, sz_drewN, sz_iterAt, sz_iter] at *; omega) | (simp; done) | (simp; omega) | (simp at *; omega))
      have qW0_0 : ∀ o, W0.cell? ⟨w.heap.size, o, none⟩ = _ := fun o => congrArg (fun W : World => W.cell? ⟨w.heap.size, o, none⟩) hEW0.symm
      have rW0_0 : ∀ o, W0.frozen? ⟨w.heap.size, o, none⟩ = _ := fun o => congrArg (fun W : World => W.frozen? ⟨w.heap.size, o, none⟩) hEW0.symm
      have lW0_1 : w.heap.size + 1 < W0.heap.size := (by rw [← hEW0]; first | omega | (simp only [sz_alloc, sz_set, sz_drew, sz_drewN, sz_iterAt, sz_iter] at *; omega) | (simp; done) | (simp; omega) | (simp at *; omega))
      have qW0_1 : ∀ o, W0.cell? ⟨w.heap.size + 1, o, none⟩ = _ := fun o => congrArg (fun W : World => W.cell? ⟨w.heap.size + 1, o, none⟩) hEW0.symm
      have rW0_1 : ∀ o, W0.frozen? ⟨w.heap.size + 1, o, none⟩ = _ := fun o => congrArg (fun W : World => W.frozen? ⟨w.heap.size + 1, o, none⟩) hEW0.symm
      clear hEW0
      have kk0 : W0.cell? ⟨w.heap.size, 3, none⟩ = some (.string a.t) := (by first | (simp [go_sem]; done) | (simp [go_sem, *]; done))
      have kk1 : W0.cell? ⟨w.heap.size, 4, none⟩ = some (.int .i64 a.i) := (by first | (simp [go_sem]; done) | (simp [go_sem, *]; done))
      have kk2 : W0.cell? ⟨w.heap.size + 1, 3, none⟩ = some (.string b.t) := (by first | (simp [go_sem]; done) | (simp [go_sem, *]; done))
      have kk3 : W0.cell? ⟨w.heap.size + 1, 4, none⟩ = some (.int .i64 b.i) := (by first | (simp [go_sem]; done) | (simp [go_sem, *]; done))
      go_region_held3 (fun w' => BelowD W0.heap.size W0 w' ∧ w'.cell? ⟨w.heap.size, 3, none⟩ = some (.string a.t) ∧ w'.cell? ⟨w.heap.size, 4, none⟩ = some (.int .i64 a.i) ∧ w'.cell? ⟨w.heap.size + 1, 3, none⟩ = some (.string b.t) ∧ w'.cell? ⟨w.heap.size + 1, 4, none⟩ = some (.int .i64 b.i)) ((refine and_keep ?_ (fun hk => ⟨keep_cellD hk lW0_0 kk0, keep_cellD hk lW0_0 kk1, keep_cellD hk lW0_1 kk2, keep_cellD hk lW0_1 kk3⟩); exact (by repeat' (first | (with_reducible exact BelowD.refl _ _) | (with_reducible assumption) | (with_reducible refine BelowD.drew ?_) | (with_reducible refine belowD_drewN ?_ _) | (with_reducible refine belowD_iterAt ?_ ?_ _ _) | (with_reducible refine belowD_iter ?_ ?_ _ _) | (with_reducible refine BelowD.alloc ?_ ?_ _) | (with_reducible refine BelowD.setCell ?_ ?_ _) | (with_reducible refine BelowD.trans ?_ (BelowD.mono (by assumption) ?_)) | (simp only [sz_alloc, sz_set, sz_drew, sz_drewN, sz_iterAt, sz_iter] at *; omega) | omega | (simp; done) | (simp; omega) | (apply BelowD.size; assumption) | (simp only [sz_drew, sz_drewN]; apply BelowD.size; assumption) | (refine Nat.le_trans ?_ (BelowD.size (by assumption)))))))
        (first
          | (go_at_call 70; refine (cmpT_any _ _ _).mono ?_; rintro e w' ⟨rfl, rfl⟩)
          | (go_at_call 67; refine (Tryd.cmp_Compare_int _ _ _).mono ?_; rintro e w' ⟨rfl, rfl⟩)
          | (go_at_call 69; refine (or2_any _ (cmpT a.t b.t) (Lib.compareInt a.i b.i) _ (by first | omega | (simp only [sz_alloc, sz_set, sz_drew, sz_drewN, sz_iterAt, sz_iter] at *; omega) | (simp; done) | (simp; omega) | (simp at *; omega)) (by first | (simp [go_sem]; done) | (simp [go_sem, *]; done)) (by first | (simp [go_sem]; done) | (simp [go_sem, *]; done))).mono ?_; rintro e w' ⟨rfl, rfl⟩))
      rw [compareInt_eq]
      go_wp2_with fail
      go_ret
      exact ⟨ret_int HC.out.symm, (by repeat' (first | (with_reducible exact BelowD.refl _ _) | (with_reducible assumption) | (with_reducible refine BelowD.drew ?_) | (with_reducible refine belowD_drewN ?_ _) | (with_reducible refine belowD_iterAt ?_ ?_ _ _) | (with_reducible refine belowD_iter ?_ ?_ _ _) | (with_reducible refine BelowD.alloc ?_ ?_ _) | (with_reducible refine BelowD.setCell ?_ ?_ _) | (with_reducible refine BelowD.trans ?_ (BelowD.mono (by assumption) ?_)) | (simp only [sz_alloc, sz_set, sz_drew, sz_drewN, sz_iterAt, sz_iter] at *; omega) | omega | (simp; done) | (simp; omega) | (apply BelowD.size; assumption) | (simp only [sz_drew, sz_drewN]; apply BelowD.size; assumption) | (refine Nat.le_trans ?_ (BelowD.size (by assumption)))))⟩
  · have HC : Hid (C = cmpI a.k b.k) := by rw [← hC]; unfold cmpV; rw [if_neg hk]; exact rfl
    have e1 : (a.k != b.k) = true := by simp [hk]
    clear hk hC sa sb ha hb
    go_enter Tryd.func55, Tryd.ntmps55
    go_wp2_with fail
    refine (Tryd.cmp_Compare_int _ _ _).mono ?_
    rintro e w' ⟨rfl, rfl⟩
    rw [compareInt_eq]
    go_wp2_with fail
    go_ret
    exact ⟨ret_int HC.out.symm, (by repeat' (first | (with_reducible exact BelowD.refl _ _) | (with_reducible assumption) | (with_reducible refine BelowD.drew ?_) | (with_reducible refine belowD_drewN ?_ _) | (with_reducible refine belowD_iterAt ?_ ?_ _ _) | (with_reducible refine belowD_iter ?_ ?_ _ _) | (with_reducible refine BelowD.alloc ?_ ?_ _) | (with_reducible refine BelowD.setCell ?_ ?_ _) | (with_reducible refine BelowD.trans ?_ (BelowD.mono (by assumption) ?_)) | (simp only [sz_alloc, sz_set, sz_drew, sz_drewN, sz_iterAt, sz_iter] at *; omega) | omega | (simp; done) | (simp; omega) | (apply BelowD.size; assumption) | (simp only [sz_drew, sz_drewN]; apply BelowD.size; assumption) | (refine Nat.le_trans ?_ (BelowD.size (by assumption)))))⟩

end Go.Proofs.YtfhmjkdpohepaaaDoor
