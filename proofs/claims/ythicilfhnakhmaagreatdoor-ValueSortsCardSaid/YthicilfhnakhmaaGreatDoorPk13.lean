import Derived.Test.YthicilfhnakhmaaGreatDoorPk01
import Derived.Test.YthicilfhnakhmaaGreatDoorPk02
import Derived.Test.YthicilfhnakhmaaGreatDoorPk07
import Derived.Test.YthicilfhnakhmaaGreatDoorPk08
import Derived.Test.YthicilfhnakhmaaGreatDoorPk10
import Derived.Test.YthicilfhnakhmaaGreatDoorPk12
import Derived.Test.YthicilfhnakhmaaGreatDoorPk03
/- The signs as the reference looks at them: soffitref04.good, walked. -/
set_option linter.unusedSimpArgs false
set_option linter.unusedVariables false
namespace Go.Proofs.YthicilfhnakhmaaGreatDoor
open Go.RowKit

theorem byteAt_get (s : ByteArray) (i : Nat) (h : i < s.size) : byteAt s i = (s[i]'h).toNat := by
  unfold byteAt
  show (s.data[i]!).toNat = _
  rw [getElem!_pos s.data i h]
  rfl

set_option maxRecDepth 100000 in
set_option maxHeartbeats 800000 in
theorem refGood_any (s : ByteArray) (w : World) (hs : s.size ≤ 1099511627776) :
    Calls Tryz.prog 32 #[.string s] w fun e w' => e = .returned (.bool (goodB s)) ∧ w = w' := by
  go_enter Tryz.func32, Tryz.ntmps32
  go_wp2_with fail
  go_loopg [3] s.size (fun k at_ wr => ∃ i : Nat, s.size - i ≤ k ∧ Hid (goodB s = goodFrom s k i) ∧ at_ = .int .i64 i ∧ w = wr)
  case atStart => exact ⟨0, by omega, rfl, rfl, rfl⟩
  case round =>
    obtain ⟨i, hik, hgood, rfl, rfl⟩ := hrel
    by_cases h : i < s.size
    · have hbt := byteAt_get s i h
      have hb256 := byteAt_lt s i
      obtain ⟨b, hb⟩ : ∃ b, byteAt s i = b := ⟨_, rfl⟩
      rw [hb] at hbt hb256
      have hbi : ((s[i]'h).toNat : Int) = (b : Int) := by rw [hbt]
      have HB := Lib.hid hb
      clear hb hbt
      have hz : stepN s i = 0 → goodB s = false := fun h0 => by rw [hgood.out]; exact goodFrom_bad s gk i h hik h0
      have HZ := Lib.hid hz
      clear hz
      go_upto_block 2 with fail
      go_cut [5, 6, 7] (fun n r le wc => 1 ≤ refLen b ∧ refLen b ≤ 4 ∧ n = .int .i64 (refLen b) ∧ r = .int .i64 (refHead b) ∧ le = .int .i64 (refLeast b) ∧ w = wc)
      case first =>
        by_cases c1 : b < 128
        ·
          have e1 : refLen b = 1 := by simp [refLen, *]
          have e2 : refHead b = b := by simp [refHead, *]
          have e3 : refLeast b = 0 := by simp [refLeast, *]
          have E := Lib.hid (And.intro e1 (And.intro e2 e3))
          clear e1 e2 e3
          skip
          go_wp2_with fail
          go_meet
          case rel => obtain ⟨e1, e2, e3⟩ := E.out; exact ⟨by omega, by omega, by rw [e1]; rfl, by first | (rw [e2]; done) | (rw [e2]; go_num), by rw [e3]; rfl, rfl⟩
        · by_cases c2 : 192 ≤ b ∧ b < 224
          ·
            have e1 : refLen b = 2 := by simp [refLen, *]
            have e2 : refHead b = b - 192 := by simp [refHead, *]
            have e3 : refLeast b = 128 := by simp [refLeast, *]
            have E := Lib.hid (And.intro e1 (And.intro e2 e3))
            clear e1 e2 e3
            obtain ⟨c2, c3⟩ := c2
            go_wp2_with fail
            go_meet
            case rel => obtain ⟨e1, e2, e3⟩ := E.out; exact ⟨by omega, by omega, by rw [e1]; rfl, by first | (rw [e2]; done) | (rw [e2]; go_num), by rw [e3]; rfl, rfl⟩
          · by_cases c3 : 224 ≤ b ∧ b < 240
            ·
              have e1 : refLen b = 3 := by simp [refLen, *]
              have e2 : refHead b = b - 224 := by simp [refHead, *]
              have e3 : refLeast b = 2048 := by simp [refLeast, *]
              have E := Lib.hid (And.intro e1 (And.intro e2 e3))
              clear e1 e2 e3
              obtain ⟨c4, c5⟩ := c3
              go_wp2_with fail
              go_meet
              case rel => obtain ⟨e1, e2, e3⟩ := E.out; exact ⟨by omega, by omega, by rw [e1]; rfl, by first | (rw [e2]; done) | (rw [e2]; go_num), by rw [e3]; rfl, rfl⟩
            · by_cases c4 : 240 ≤ b ∧ b < 248
              ·
                have e1 : refLen b = 4 := by simp [refLen, *]
                have e2 : refHead b = b - 240 := by simp [refHead, *]
                have e3 : refLeast b = 65536 := by simp [refLeast, *]
                have E := Lib.hid (And.intro e1 (And.intro e2 e3))
                clear e1 e2 e3
                obtain ⟨c5, c6⟩ := c4
                go_wp2_with fail
                go_meet
                case rel => obtain ⟨e1, e2, e3⟩ := E.out; exact ⟨by omega, by omega, by rw [e1]; rfl, by first | (rw [e2]; done) | (rw [e2]; go_num), by rw [e3]; rfl, rfl⟩
              · have hl : refLen b = 0 := by simp [refLen, *]
                have H0 := Lib.hid (HZ.out (stepN_no s i (by rw [HB.out]; exact hl)))
                clear hl
                have c5 : 128 ≤ b := by omega
                go_wp2_with fail
                all_goals go_ret
                all_goals exact ⟨ret_bool H0.out.symm, rfl⟩
      case rest =>
        obtain ⟨hL1, hL4, rfl, rfl, rfl, rfl⟩ := hcut
        obtain ⟨L, hL⟩ : ∃ L, refLen b = L := ⟨_, rfl⟩
        obtain ⟨le, hle⟩ : ∃ le, refLeast b = le := ⟨_, rfl⟩
        have hl2 : le ≤ 65536 := by rw [← hle]; unfold refLeast; repeat' split
                                    all_goals omega
        have hr0 : refRune s i 0 = refHead b := by rw [← HB.out]; rfl
        rw [← hr0]
        rw [hL] at hL1 hL4
        rw [hL, hle]
        have HL : Hid (refLen (byteAt s i) = L) := by rw [HB.out]; exact hL
        have HLE : Hid (refLeast (byteAt s i) = le) := by rw [HB.out]; exact hle
        clear hr0 hL hle
        obtain ⟨ko, rfl⟩ : ∃ ko : Nat, ko = gk := ⟨_, rfl⟩
        go_wp2_with fail
        go_loopg [6, 8] L (fun k r jv wr => ∃ j : Nat, 1 ≤ j ∧ j ≤ L ∧ L - j ≤ k ∧ Hid (contsB s i (j - 1) = true) ∧ r = .int .i64 (refRune s i (j - 1)) ∧ jv = .int .i64 j ∧ w = wr)
        case atStart => exact ⟨1, by omega, by omega, by omega, rfl, rfl, rfl, rfl⟩
        case round =>
          obtain ⟨j, hj1, hjL, hjk, hcont, rfl, rfl, rfl⟩ := hrel
          have hrl := refRune_lt3 s i (j - 1) (by omega)
          by_cases hjl : j < L
          · have hz : contB s (i + j) = false → goodB s = false := fun h0 => HZ.out (stepN_conts s i (contsB_false s i j hj1 h0 _ (by rw [HL.out]; omega)))
            by_cases hin : i + j < s.size
            · have hbt := byteAt_get s (i + j) hin
              have hc256 := byteAt_lt s (i + j)
              have hcb : contB s (i + j) = (decide (128 ≤ byteAt s (i + j)) && decide (byteAt s (i + j) < 192)) := by unfold contB; simp [hin]
              have hsucc := refRune_succ s i (j - 1)
              have hcs := contsB_succ s i (j - 1) hcont.out
              rw [show j - 1 + 1 = j by omega] at hsucc hcs
              rw [hcb] at hz hcs
              have hrs := refRune_lt3 s i j (by omega)
              obtain ⟨c, hc⟩ : ∃ c, byteAt s (i + j) = c := ⟨_, rfl⟩
              rw [hc] at hbt hc256 hz hsucc hcs
              have hci : ((s[i + j]'hin).toNat : Int) = (c : Int) := by rw [hbt]
              clear hbt hcb hc
              obtain ⟨r, hr⟩ : ∃ r, refRune s i (j - 1) = r := ⟨_, rfl⟩
              obtain ⟨r', hr'⟩ : ∃ r, refRune s i j = r := ⟨_, rfl⟩
              rw [hr, hr'] at hsucc
              rw [hr'] at hrs
              rw [hr] at hrl ⊢
              have HR' := Lib.hid hr'
              have HS := Lib.hid hsucc
              have HZ2 := Lib.hid hz
              have HCS := Lib.hid hcs
              clear hr hr' hz hcs hsucc
              by_cases k1 : c < 128
              · have H0 : Hid (goodB s = false) := HZ2.out (by simp; omega)
                go_wp2_with fail
                go_ret
                exact ⟨ret_bool H0.out.symm, rfl⟩
              · by_cases k2 : c < 192
                · have H0 : Hid (contsB s i j = true) := HCS.out (by simp; omega)
                  have hrb : r * 64 + (c - 128) ≤ 1811939328 := by have := HS.out; omega
                  go_wp2_with fail
                  go_roundg (gk - 1)
                  case measure => omega
                  case rel =>
                    refine ⟨j + 1, by omega, by omega, by omega, H0, ?_, by go_num, rfl⟩
                    show _ = Value.int .i64 ((refRune s i (j + 1 - 1) : Nat) : Int)
                    rw [show j + 1 - 1 = j by omega, HR'.out, HS.out]
                    go_num
                · have H0 : Hid (goodB s = false) := HZ2.out (by simp; omega)
                  go_wp2_with fail
                  all_goals go_ret
                  all_goals exact ⟨ret_bool H0.out.symm, rfl⟩
            · have H0 : Hid (goodB s = false) := hz (by unfold contB; simp [hin])
              go_wp2_with fail
              go_ret
              exact ⟨ret_bool H0.out.symm, rfl⟩
          · obtain rfl : j = L := by omega
            have hlow := fun hh => HZ.out (stepN_low s i hh)
            have hyes := stepN_yes s i (by rw [HL.out]; exact hj1) (by rw [HL.out]; exact hcont.out)
            have hstep := fun h0 => goodFrom_step s ko i h hik h0
            rw [HL.out, HLE.out] at hlow hyes
            obtain ⟨r, hr⟩ : ∃ r, refRune s i (j - 1) = r := ⟨_, rfl⟩
            rw [hr] at hlow hyes hrl ⊢
            have HLOW := Lib.hid hlow
            have HYES := Lib.hid hyes
            have HSTEP := Lib.hid hstep
            clear hlow hyes hstep hr
            by_cases hle : r < le
            · have H0 : Hid (goodB s = false) := HLOW.out (.inl hle)
              go_wp2_with fail
              go_ret
              exact ⟨ret_bool H0.out.symm, rfl⟩
            · cases hsg : signB r
              · have H0 : Hid (goodB s = false) := HLOW.out (.inr hsg)
                have hsf : ¬ (r = 9 ∨ r = 10 ∨ r = 13 ∨ (32 ≤ r ∧ r ≤ 55295) ∨ (57344 ≤ r ∧ r ≤ 65533) ∨ (65536 ≤ r ∧ r ≤ 1114111)) := by
                  intro hc; rw [show signB r = true by simp [signB]; omega] at hsg; cases hsg
                clear hsg
                go_wp2_with fail
                all_goals first | (go_ret; exact ⟨ret_bool H0.out.symm, rfl⟩) | (exfalso; (try simp only [Bool.not_eq_false', Bool.not_eq_true', decide_eq_true_eq, decide_eq_false_iff_not] at *); omega)
              · have H1 := Lib.hid (HYES.out hle hsg)
                have hst : (r = 9 ∨ r = 10 ∨ r = 13 ∨ (32 ≤ r ∧ r ≤ 55295) ∨ (57344 ≤ r ∧ r ≤ 65533) ∨ (65536 ≤ r ∧ r ≤ 1114111)) := by
                  simp [signB] at hsg; omega
                clear hsg
                have hne : stepN s i ≠ 0 := by rw [H1.out]; omega
                obtain ⟨g, hg0, hg1, hg2⟩ := HSTEP.out hne
                rw [H1.out] at hg1 hg2
                have HG2 := Lib.hid hg2
                clear hg2 hne
                go_wp2_with fail
                all_goals first
                  | (exfalso; (try simp only [Bool.not_eq_false', Bool.not_eq_true', decide_eq_true_eq, decide_eq_false_iff_not] at *); omega)
                  | (go_roundg g
                     case measure => exact hg0
                     case rel => exact ⟨i + j, hg1, hgood.out.trans HG2.out, by go_num, rfl⟩)
    · go_wp2_with fail
      go_ret
      exact ⟨ret_bool (by rw [hgood.out, goodFrom_out s gk i h]), rfl⟩
end Go.Proofs.YthicilfhnakhmaaGreatDoor

/- soffitref04.Sound, walked. -/
set_option linter.unusedSimpArgs false
set_option linter.unusedVariables false
namespace Go.Proofs.YthicilfhnakhmaaGreatDoor
open Go.RowKit

set_option maxRecDepth 100000 in
set_option maxHeartbeats 800000 in
theorem rSound0 (v : Vl) (w : World) (hv : v.wf) (hk : v.k = 0) :
    Calls Tryz.prog 14 #[.agg #[.int .i64 v.k, .int .i64 v.n, .int .i64 v.s, .string v.t, .int .i64 v.i]] w fun e w' =>
      e = .returned (.bool (sndB v)) ∧ Below w.heap.size w w' := by
  obtain ⟨k, n, s, t, i⟩ := v
  simp only at hk
  subst hk
  obtain ⟨B, hB⟩ : ∃ B, sndB ⟨0, n, s, t, i⟩ = B := ⟨_, rfl⟩
  rw [hB]
  have HS : Hid (B = decide (n = 0 ∧ s = 0 ∧ t.toList = [] ∧ i = 0)) := hB.symm
  clear hB
  go_enter Tryz.func14, Tryz.ntmps14
  go_wp2_with fail
  all_goals go_ret
  all_goals exact ⟨ret_bool (by first | (rw [HS.out]; done) | (rw [HS.out]; simp [*]; done) | (rw [HS.out]; simp; omega) | (rw [HS.out]; simp [*]; omega) | (rw [HS.out]; simp only [List.isEmpty_iff, List.isEmpty_eq_false_iff] at *; simp [*]; done) | (rw [HS.out]; simp only [List.isEmpty_iff, List.isEmpty_eq_false_iff] at *; simp [*]; omega) | (rw [HS.out, Bool.eq_iff_iff]; simp only [List.isEmpty_iff, List.isEmpty_eq_false_iff] at *; simp [*]; done) | (exfalso; omega)), bel⟩

set_option maxRecDepth 100000 in
set_option maxHeartbeats 800000 in
theorem rSound3 (v : Vl) (w : World) (hv : v.wf) (hk : v.k = 3) :
    Calls Tryz.prog 14 #[.agg #[.int .i64 v.k, .int .i64 v.n, .int .i64 v.s, .string v.t, .int .i64 v.i]] w fun e w' =>
      e = .returned (.bool (sndB v)) ∧ Below w.heap.size w w' := by
  obtain ⟨k, n, s, t, i⟩ := v
  simp only at hk
  subst hk
  obtain ⟨B, hB⟩ : ∃ B, sndB ⟨3, n, s, t, i⟩ = B := ⟨_, rfl⟩
  rw [hB]
  have HS : Hid (B = decide (n = 0 ∧ s = 0 ∧ t.toList = [] ∧ (i = 0 ∨ i = 1))) := hB.symm
  clear hB
  go_enter Tryz.func14, Tryz.ntmps14
  go_wp2_with fail
  all_goals go_ret
  all_goals exact ⟨ret_bool (by first | (rw [HS.out]; done) | (rw [HS.out]; simp [*]; done) | (rw [HS.out]; simp; omega) | (rw [HS.out]; simp [*]; omega) | (rw [HS.out]; simp only [List.isEmpty_iff, List.isEmpty_eq_false_iff] at *; simp [*]; done) | (rw [HS.out]; simp only [List.isEmpty_iff, List.isEmpty_eq_false_iff] at *; simp [*]; omega) | (rw [HS.out, Bool.eq_iff_iff]; simp only [List.isEmpty_iff, List.isEmpty_eq_false_iff] at *; simp [*]; done) | (exfalso; omega)), bel⟩

set_option maxRecDepth 100000 in
set_option maxHeartbeats 800000 in
theorem rSound4 (v : Vl) (w : World) (hv : v.wf) (hk : v.k = 4) :
    Calls Tryz.prog 14 #[.agg #[.int .i64 v.k, .int .i64 v.n, .int .i64 v.s, .string v.t, .int .i64 v.i]] w fun e w' =>
      e = .returned (.bool (sndB v)) ∧ Below w.heap.size w w' := by
  obtain ⟨k, n, s, t, i⟩ := v
  simp only at hk
  subst hk
  obtain ⟨B, hB⟩ : ∃ B, sndB ⟨4, n, s, t, i⟩ = B := ⟨_, rfl⟩
  rw [hB]
  have HS : Hid (B = decide (n = 0 ∧ s = 0 ∧ t.toList = [] ∧ 0 ≤ i ∧ i ≤ 3652058)) := hB.symm
  clear hB
  go_enter Tryz.func14, Tryz.ntmps14
  go_wp2_with fail
  all_goals go_ret
  all_goals exact ⟨ret_bool (by first | (rw [HS.out]; done) | (rw [HS.out]; simp [*]; done) | (rw [HS.out]; simp; omega) | (rw [HS.out]; simp [*]; omega) | (rw [HS.out]; simp only [List.isEmpty_iff, List.isEmpty_eq_false_iff] at *; simp [*]; done) | (rw [HS.out]; simp only [List.isEmpty_iff, List.isEmpty_eq_false_iff] at *; simp [*]; omega) | (rw [HS.out, Bool.eq_iff_iff]; simp only [List.isEmpty_iff, List.isEmpty_eq_false_iff] at *; simp [*]; done) | (exfalso; omega)), bel⟩

set_option maxRecDepth 100000 in
set_option maxHeartbeats 800000 in
theorem rSound1 (v : Vl) (w : World) (hv : v.wf) (hk : v.k = 1) :
    Calls Tryz.prog 14 #[.agg #[.int .i64 v.k, .int .i64 v.n, .int .i64 v.s, .string v.t, .int .i64 v.i]] w fun e w' =>
      e = .returned (.bool (sndB v)) ∧ Below w.heap.size w w' := by
  obtain ⟨k, n, s, t, i⟩ := v
  simp only at hk
  subst hk
  obtain ⟨B, hB⟩ : ∃ B, sndB ⟨1, n, s, t, i⟩ = B := ⟨_, rfl⟩
  rw [hB]
  have HS : Hid (B = (decide (t.toList = [] ∧ i = 0) && decSnd n s)) := hB.symm
  clear hB
  by_cases hn : n = 0
  · subst hn
    go_enter Tryz.func14, Tryz.ntmps14
    go_wp2_with fail
    refine (ref01Sound_any 0 s _).mono ?_
    rintro e w1 ⟨rfl, hb1⟩
    have hz1 := hb1.size
    try simp at hz1
    obtain ⟨q1_0, l1_0, r1_0⟩ := aft hb1 (w.heap.size)
    obtain ⟨d, hd⟩ : ∃ d, decSnd 0 s = d := ⟨_, rfl⟩
    rw [hd]
    have HT : Hid (B = (decide (t.toList = [] ∧ i = 0) && d)) := by rw [← hd]; exact HS.out
    clear hd HS
    cases d
    · have HU : Hid (B = false) := by show B = _; rw [HT.out]; simp
      clear HT
      go_wp2_with fail
      all_goals go_ret
      all_goals exact ⟨ret_bool (by first | (rw [HU.out]; done) | (rw [HU.out]; simp [*]; done) | (rw [HU.out]; simp; omega) | (rw [HU.out]; simp [*]; omega) | (rw [HU.out]; simp only [List.isEmpty_iff, List.isEmpty_eq_false_iff] at *; simp [*]; done) | (rw [HU.out]; simp only [List.isEmpty_iff, List.isEmpty_eq_false_iff] at *; simp [*]; omega) | (rw [HU.out, Bool.eq_iff_iff]; simp only [List.isEmpty_iff, List.isEmpty_eq_false_iff] at *; simp [*]; done) | (exfalso; omega)), bel⟩
    · have HU : Hid (B = decide (t.toList = [] ∧ i = 0)) := by show B = _; rw [HT.out]; simp
      clear HT
      go_wp2_with fail
      all_goals go_ret
      all_goals exact ⟨ret_bool (by first | (rw [HU.out]; done) | (rw [HU.out]; simp [*]; done) | (rw [HU.out]; simp; omega) | (rw [HU.out]; simp [*]; omega) | (rw [HU.out]; simp only [List.isEmpty_iff, List.isEmpty_eq_false_iff] at *; simp [*]; done) | (rw [HU.out]; simp only [List.isEmpty_iff, List.isEmpty_eq_false_iff] at *; simp [*]; omega) | (rw [HU.out, Bool.eq_iff_iff]; simp only [List.isEmpty_iff, List.isEmpty_eq_false_iff] at *; simp [*]; done) | (exfalso; omega)), bel⟩
  · go_enter Tryz.func14, Tryz.ntmps14
    go_wp2_with fail
    refine (ref01Sound_any n s _).mono ?_
    rintro e w1 ⟨rfl, hb1⟩
    have hz1 := hb1.size
    try simp at hz1
    obtain ⟨q1_0, l1_0, r1_0⟩ := aft hb1 (w.heap.size)
    obtain ⟨d, hd⟩ : ∃ d, decSnd n s = d := ⟨_, rfl⟩
    rw [hd]
    have HT : Hid (B = (decide (t.toList = [] ∧ i = 0) && d)) := by rw [← hd]; exact HS.out
    clear hd HS
    cases d
    · have HU : Hid (B = false) := by show B = _; rw [HT.out]; simp
      clear HT
      go_wp2_with fail
      all_goals go_ret
      all_goals exact ⟨ret_bool (by first | (rw [HU.out]; done) | (rw [HU.out]; simp [*]; done) | (rw [HU.out]; simp; omega) | (rw [HU.out]; simp [*]; omega) | (rw [HU.out]; simp only [List.isEmpty_iff, List.isEmpty_eq_false_iff] at *; simp [*]; done) | (rw [HU.out]; simp only [List.isEmpty_iff, List.isEmpty_eq_false_iff] at *; simp [*]; omega) | (rw [HU.out, Bool.eq_iff_iff]; simp only [List.isEmpty_iff, List.isEmpty_eq_false_iff] at *; simp [*]; done) | (exfalso; omega)), bel⟩
    · have HU : Hid (B = decide (t.toList = [] ∧ i = 0)) := by show B = _; rw [HT.out]; simp
      clear HT
      go_wp2_with fail
      all_goals go_ret
      all_goals exact ⟨ret_bool (by first | (rw [HU.out]; done) | (rw [HU.out]; simp [*]; done) | (rw [HU.out]; simp; omega) | (rw [HU.out]; simp [*]; omega) | (rw [HU.out]; simp only [List.isEmpty_iff, List.isEmpty_eq_false_iff] at *; simp [*]; done) | (rw [HU.out]; simp only [List.isEmpty_iff, List.isEmpty_eq_false_iff] at *; simp [*]; omega) | (rw [HU.out, Bool.eq_iff_iff]; simp only [List.isEmpty_iff, List.isEmpty_eq_false_iff] at *; simp [*]; done) | (exfalso; omega)), bel⟩

set_option maxRecDepth 100000 in
set_option maxHeartbeats 800000 in
theorem rSound2 (v : Vl) (w : World) (hv : v.wf) (hk : v.k = 2) :
    Calls Tryz.prog 14 #[.agg #[.int .i64 v.k, .int .i64 v.n, .int .i64 v.s, .string v.t, .int .i64 v.i]] w fun e w' =>
      e = .returned (.bool (sndB v)) ∧ Below w.heap.size w w' := by
  obtain ⟨k, n, s, t, i⟩ := v
  simp only at hk
  subst hk
  obtain ⟨B, hB⟩ : ∃ B, sndB ⟨2, n, s, t, i⟩ = B := ⟨_, rfl⟩
  rw [hB]
  have HS : Hid (B = (decide (n = 0 ∧ s = 0 ∧ i = 0 ∧ t.size ≤ 256) && goodB t)) := hB.symm
  clear hB
  by_cases h0 : n = 0 ∧ s = 0 ∧ i = 0 ∧ t.size ≤ 256
  · obtain ⟨rfl, rfl, rfl, hz⟩ := h0
    have HT : Hid (B = goodB t) := by show B = _; rw [HS.out]; simp [hz]
    go_enter Tryz.func14, Tryz.ntmps14
    go_wp2_with fail
    refine (refGood_any t _ (by omega)).mono ?_
    rintro e w1 ⟨rfl, rfl⟩
    rw [← HT.out]
    go_wp2_with fail
    all_goals go_ret
    all_goals exact ⟨ret_bool (by first | rfl | (simp [*]; done) | (exfalso; omega)), bel⟩
  · have HT : Hid (B = false) := by show B = _; rw [HS.out]; simp only [h0]; rfl
    clear HS
    go_enter Tryz.func14, Tryz.ntmps14
    go_wp2_with fail
    go_ways
    all_goals try (exfalso; omega)
    go_goals
    all_goals go_ret
    all_goals exact ⟨ret_bool (by first | (rw [HT.out]; done) | (rw [HT.out]; simp [*]; done) | (rw [HT.out]; simp; omega) | (rw [HT.out]; simp [*]; omega) | (rw [HT.out]; simp only [List.isEmpty_iff, List.isEmpty_eq_false_iff] at *; simp [*]; done) | (rw [HT.out]; simp only [List.isEmpty_iff, List.isEmpty_eq_false_iff] at *; simp [*]; omega) | (rw [HT.out, Bool.eq_iff_iff]; simp only [List.isEmpty_iff, List.isEmpty_eq_false_iff] at *; simp [*]; done) | (exfalso; omega)), bel⟩

set_option maxRecDepth 100000 in
set_option maxHeartbeats 800000 in
theorem rSound5 (v : Vl) (w : World) (hv : v.wf) (h0 : ¬ v.k = 0) (h1 : ¬ v.k = 1) (h2 : ¬ v.k = 2) (h3 : ¬ v.k = 3) (h4 : ¬ v.k = 4) :
    Calls Tryz.prog 14 #[.agg #[.int .i64 v.k, .int .i64 v.n, .int .i64 v.s, .string v.t, .int .i64 v.i]] w fun e w' =>
      e = .returned (.bool (sndB v)) ∧ Below w.heap.size w w' := by
  obtain ⟨k, n, s, t, i⟩ := v
  simp only at h0 h1 h2 h3 h4
  have e0 : (k == 0) = false := by simp [h0]
  have e1 : (k == 1) = false := by simp [h1]
  have e2 : (k == 2) = false := by simp [h2]
  have e3 : (k == 3) = false := by simp [h3]
  have e4 : (k == 4) = false := by simp [h4]
  obtain ⟨B, hB⟩ : ∃ B, sndB ⟨k, n, s, t, i⟩ = B := ⟨_, rfl⟩
  rw [hB]
  have HS : Hid (B = false) := by show B = _; rw [← hB]; simp only [sndB, h0, h1, h2, h3, h4, if_false]
  clear h0 h1 h2 h3 h4 hB
  go_enter Tryz.func14, Tryz.ntmps14
  go_wp2_with fail
  all_goals go_ret
  all_goals exact ⟨ret_bool (by first | (rw [HS.out]; done) | (rw [HS.out]; simp [*]; done) | (rw [HS.out]; simp; omega) | (rw [HS.out]; simp [*]; omega) | (rw [HS.out]; simp only [List.isEmpty_iff, List.isEmpty_eq_false_iff] at *; simp [*]; done) | (rw [HS.out]; simp only [List.isEmpty_iff, List.isEmpty_eq_false_iff] at *; simp [*]; omega) | (rw [HS.out, Bool.eq_iff_iff]; simp only [List.isEmpty_iff, List.isEmpty_eq_false_iff] at *; simp [*]; done) | (exfalso; omega)), bel⟩

theorem rSound_any (v : Vl) (w : World) (hv : v.wf) :
    Calls Tryz.prog 14 #[.agg #[.int .i64 v.k, .int .i64 v.n, .int .i64 v.s, .string v.t, .int .i64 v.i]] w fun e w' =>
      e = .returned (.bool (sndB v)) ∧ Below w.heap.size w w' := by
  by_cases h0 : v.k = 0
  · exact rSound0 v w hv h0
  by_cases h1 : v.k = 1
  · exact rSound1 v w hv h1
  by_cases h2 : v.k = 2
  · exact rSound2 v w hv h2
  by_cases h3 : v.k = 3
  · exact rSound3 v w hv h3
  by_cases h4 : v.k = 4
  · exact rSound4 v w hv h4
  exact rSound5 v w hv h0 h1 h2 h3 h4
end Go.Proofs.YthicilfhnakhmaaGreatDoor

/- soffit/value.Text, soffitref04.Text, Quoted: walked. -/
set_option linter.unusedSimpArgs false
set_option linter.unusedVariables false
namespace Go.Proofs.YthicilfhnakhmaaGreatDoor
open Go.RowKit Go.Sort Go.Lib

/-- a value's text -/
noncomputable def valL (v : Vl) : List UInt8 :=
  if v.k = 1 then decL v.n v.s else if v.k = 2 then quoL v.t.data.toList else if v.k = 3 then (if v.i = 1 then [116, 114, 117, 101] else [102, 97, 108, 115, 101]) else if v.k = 4 then 64 :: 34 :: (dayL v.i ++ [34]) else [110, 117, 108, 108]
noncomputable def txtRes (v : Vl) : Value := if sndB v = true then .tuple #[.string ⟨(valL v).toArray⟩, .int .i64 0] else .tuple #[.string ⟨#[]⟩, .int .i64 2]
theorem txtRes_yes {v : Vl} (h : sndB v = true) : txtRes v = .tuple #[.string ⟨(valL v).toArray⟩, .int .i64 0] := by unfold txtRes; rw [h]; rfl
theorem txtRes_no {v : Vl} (h : sndB v = false) : txtRes v = .tuple #[.string ⟨#[]⟩, .int .i64 2] := by unfold txtRes; rw [h]; rfl

set_option maxRecDepth 100000 in
set_option maxHeartbeats 1600000 in
theorem quoted_any (s : ByteArray) (w : World) (hs : s.size ≤ 1000) :
    Calls Tryz.prog 27 #[.string s] w fun e w' => e = .returned (.string ⟨(quoL s.data.toList).toArray⟩) ∧ Below w.heap.size w w' := by
  obtain ⟨l, hl⟩ : ∃ l, s.data.toList = l := ⟨_, rfl⟩
  have hll : l.length = s.size := by rw [← hl]; rfl
  have hget : ∀ i (h : i < s.size) (h2 : i < l.length), l[i]'h2 = s[i]'h := by intro i h h2; subst hl; rfl
  have hext : ∀ i (h : i < s.size), s.extract i (i + 1) = ⟨#[s[i]'h]⟩ := by
    intro i h
    have e : s = ⟨l.toArray⟩ := by rw [← hl]
    have h2 : i < l.length := by rw [hll]; exact h
    rw [← hget i h h2]
    rw [e, ba_extract, List.take_succ_eq_append_getElem h2, List.drop_left' (by rw [List.length_take]; omega)]
  rw [hl]
  have HLL := Lib.hid hll
  have HGET := Lib.hid hget
  have HEXT := Lib.hid hext
  clear hl hll hget hext
  obtain ⟨R, hR⟩ : ∃ R : ByteArray, ⟨(quoL l).toArray⟩ = R := ⟨_, rfl⟩
  rw [hR]
  have HR := Lib.hid hR
  clear hR
  go_enter Tryz.func27, Tryz.ntmps27
  go_wp2_with fail
  go_loopg [3, 4] s.size (fun k ov iv wr => ∃ (i : Nat) (O : ByteArray), i ≤ s.size ∧ s.size - i ≤ k ∧ iv = .int .i64 (i : Int) ∧ ov = .string O ∧ Hid (O = ⟨(34 :: escL (l.take i)).toArray⟩) ∧ O.size ≤ 2 * i + 1 ∧ w = wr)
  case atStart => exact ⟨0, ⟨#[34]⟩, by omega, by omega, rfl, rfl, rfl, by show (1 : Nat) ≤ 1; omega, rfl⟩
  case round =>
    obtain ⟨i, O, hi, hik, rfl, rfl, HO, hO, rfl⟩ := hrel
    by_cases hlt : i < s.size
    · have hlt' : (i : Int) < (s.size : Int) := by omega
      have hil : i < l.length := by rw [HLL.out]; exact hlt
      have hst := escL_take l i hil
      rw [HGET.out i hlt hil] at hst
      have hx1 := HEXT.out i hlt
      obtain ⟨x, hx⟩ : ∃ x, s[i]'hlt = x := ⟨_, rfl⟩
      rw [hx] at hst hx1
      have hi0 : (0 : Int) ≤ (i : Int) := by omega
      have hi1 : (i : Int) + 1 ≤ (s.size : Int) := by omega
      have hi2 : IntKind.i64.wrap ((i : Int) + 1) = (i : Int) + 1 := IntWalk.i64_in _ (by omega)
      have hi3 : ¬ (s.size : Int) < (i : Int) + 1 := by omega
      have hi4 : i + 1 ≤ s.size := hlt
      have ho1 : ¬ 9223372036854775807 < O.size + 1 := by omega
      have ho2 : ¬ 9223372036854775807 < O.size + 1 + 1 := by omega
      have hext1 : s.extract i (i + 1) = ⟨#[x]⟩ := hx1
      by_cases hq : x = 34
      · subst hq
        have e34 : (((34 : UInt8).toNat : Int) == 34) = true := rfl
        rw [if_pos (.inl rfl)] at hst
        have HST := Lib.hid hst
        clear hst hx1
        go_wp2_with fail
        go_roundg (gk - 1)
        case measure => omega
        case rel =>
          refine ⟨i + 1, O ++ ⟨#[92]⟩ ++ ⟨#[34]⟩, by omega, by omega, by first | rfl | go_num, by first | rfl | (rw [hext1]), Lib.hid ?_, ?_, rfl⟩
          · rw [HST.out, HO.out, show (⟨#[92]⟩ : ByteArray) = ⟨[92].toArray⟩ from rfl, show (⟨#[34]⟩ : ByteArray) = ⟨[34].toArray⟩ from rfl, ba_append, ba_append]; simp
          · rw [ByteArray.size_append, ByteArray.size_append]; show O.size + 1 + 1 ≤ _; omega
      · have e34 : ((x.toNat : Int) == 34) = false := by
          rw [beq_eq_false_iff_ne]; intro h; exact hq (UInt8.toNat_inj.1 (by have : x.toNat = 34 := by omega
                                                                             rw [this]; rfl))
        by_cases hb : x = 92
        · subst hb
          have e92 : (((92 : UInt8).toNat : Int) == 92) = true := rfl
          rw [if_pos (.inr rfl)] at hst
          have HST := Lib.hid hst
          clear hst hx1 hq
          go_wp2_with fail
          go_roundg (gk - 1)
          case measure => omega
          case rel =>
            refine ⟨i + 1, O ++ ⟨#[92]⟩ ++ ⟨#[92]⟩, by omega, by omega, by first | rfl | go_num, by first | rfl | (rw [hext1]), Lib.hid ?_, ?_, rfl⟩
            · rw [HST.out, HO.out, show (⟨#[92]⟩ : ByteArray) = ⟨[92].toArray⟩ from rfl, ba_append, ba_append]; simp
            · rw [ByteArray.size_append, ByteArray.size_append]; show O.size + 1 + 1 ≤ _; omega
        · have e92 : ((x.toNat : Int) == 92) = false := by
            rw [beq_eq_false_iff_ne]; intro h; exact hb (UInt8.toNat_inj.1 (by have : x.toNat = 92 := by omega
                                                                               rw [this]; rfl))
          rw [if_neg (by rintro (h | h) <;> contradiction)] at hst
          have HST := Lib.hid hst
          clear hst hx1 hq hb
          go_wp2_with fail
          go_roundg (gk - 1)
          case measure => omega
          case rel =>
            refine ⟨i + 1, O ++ ⟨#[x]⟩, by omega, by omega, by first | rfl | go_num, by first | rfl | (rw [hext1]), Lib.hid ?_, ?_, rfl⟩
            · rw [HST.out, HO.out, show (⟨#[x]⟩ : ByteArray) = ⟨[x].toArray⟩ from rfl, ba_append]; simp
            · rw [ByteArray.size_append]; show O.size + 1 ≤ _; omega
    · have hlt' : ¬ (i : Int) < (s.size : Int) := by omega
      have HE : Hid (O ++ ⟨#[34]⟩ = R) := Lib.hid (by
        rw [← HR.out, HO.out, List.take_of_length_le (by rw [HLL.out]; omega), show (⟨#[34]⟩ : ByteArray) = ⟨[34].toArray⟩ from rfl, ba_append]; rfl)
      have ho1 : ¬ 9223372036854775807 < O.size + 1 := by omega
      go_wp2_with fail
      go_ret
      exact ⟨by rw [← HE.out]; rfl, bel⟩
end Go.Proofs.YthicilfhnakhmaaGreatDoor

/- soffit/value.Text, soffitref04.Text: walked. -/
set_option linter.unusedSimpArgs false
set_option linter.unusedVariables false
namespace Go.Proofs.YthicilfhnakhmaaGreatDoor
open Go.RowKit Go.Sort Go.Lib

theorem snd_k {v : Vl} (h : sndB v = true) : v.k = 0 ∨ v.k = 1 ∨ v.k = 2 ∨ v.k = 3 ∨ v.k = 4 := by
  unfold sndB at h
  by_cases h0 : v.k = 0
  · exact .inl h0
  by_cases h1 : v.k = 1
  · exact .inr (.inl h1)
  by_cases h2 : v.k = 2
  · exact .inr (.inr (.inl h2))
  by_cases h3 : v.k = 3
  · exact .inr (.inr (.inr (.inl h3)))
  by_cases h4 : v.k = 4
  · exact .inr (.inr (.inr (.inr h4)))
  rw [if_neg h0, if_neg h1, if_neg h2, if_neg h3, if_neg h4] at h
  cases h
theorem snd2_size {v : Vl} (h : sndB v = true) (hk : v.k = 2) : v.t.size ≤ 256 := by
  unfold sndB at h
  rw [if_neg (by omega), if_neg (by omega), if_pos hk] at h
  simp only [Bool.and_eq_true, decide_eq_true_eq] at h
  first | exact h.1.2.2 | omega
theorem snd3_i {v : Vl} (h : sndB v = true) (hk : v.k = 3) : v.i = 0 ∨ v.i = 1 := by
  unfold sndB at h
  rw [if_neg (by omega), if_neg (by omega), if_neg (by omega), if_pos hk] at h
  simp only [Bool.and_eq_true, decide_eq_true_eq] at h
  omega
theorem snd4_i {v : Vl} (h : sndB v = true) (hk : v.k = 4) : 0 ≤ v.i ∧ v.i ≤ 3652058 := by
  unfold sndB at h
  rw [if_neg (by omega), if_neg (by omega), if_neg (by omega), if_neg (by omega), if_pos hk] at h
  simp only [Bool.and_eq_true, decide_eq_true_eq] at h
  omega
theorem snd1_dec {v : Vl} (h : sndB v = true) (hk : v.k = 1) : decSnd v.n v.s = true := by
  unfold sndB at h
  rw [if_neg (by omega), if_pos hk] at h
  simp only [Bool.and_eq_true] at h
  exact h.2
theorem year_of {n : Int} (h0 : 0 ≤ n) : ∀ Y : Nat, n < fstY ((Y : Int) + 1) → ∃ y, 1 ≤ y ∧ fstY y ≤ n ∧ n < fstY (y + 1)
  | 0, h => by
    rw [show ((0 : Nat) : Int) + 1 = 1 from rfl, fstY_one] at h
    omega
  | Y + 1, h => by
    by_cases h1 : n < fstY ((Y : Int) + 1)
    · exact year_of h0 Y h1
    · exact ⟨(Y : Int) + 1, by omega, by omega, by rw [show ((Y + 1 : Nat) : Int) + 1 = (Y : Int) + 1 + 1 by omega] at h; exact h⟩
theorem month_of {y c : Int} (h0 : 0 ≤ c) : ∀ M : Nat, c < mCum y M → ∃ m, mCum y m ≤ c ∧ c < mCum y (m + 1)
  | 0, h => by rw [mCum] at h; omega
  | M + 1, h => by
    by_cases h1 : c < mCum y M
    · exact month_of h0 M h1
    · exact ⟨M, by omega, h⟩
theorem date_of {n : Int} (h1 : 0 ≤ n) (h2 : n ≤ 3652058) : ∃ y m d, IsDate n y m d := by
  obtain ⟨y, y1, lo, hi⟩ := year_of h1 9999 (by rw [show ((9999 : Nat) : Int) + 1 = 10000 from rfl, fstY_end]; omega)
  obtain ⟨m, ml, mh⟩ := month_of (y := y) (c := n - fstY y) (by omega) 12 (by rw [mCum_year]; rw [fstY_succ] at hi; omega)
  exact ⟨y, m, _, IsDate.of y1 lo hi (by omega) ml mh⟩
theorem dayL_len {n : Int} (h1 : 0 ≤ n) (h2 : n ≤ 3652058) (hx : ∃ y m d, IsDate n y m d) : (dayL n).length = 10 := by
  obtain ⟨y, m, d, h⟩ := hx
  rw [dayL_eq h]
  unfold dateL
  have hd := h.d_bd
  have hm := h.m2
  have a := h.y1
  have b := h.y2
  rw [List.length_append, List.length_cons, List.length_append, List.length_cons, padD_len (dec_len_lt (k := 3) (by omega)), padD_len (dec_len_lt (k := 1) (by omega)), padD_len (dec_len_lt (k := 1) (by omega))]

set_option maxRecDepth 100000 in
set_option maxHeartbeats 6400000 in
theorem rText_any (v : Vl) (w : World) (hv : v.wf) :
    Calls Tryz.prog 12 #[.agg #[.int .i64 v.k, .int .i64 v.n, .int .i64 v.s, .string v.t, .int .i64 v.i]] w fun e w' => e = .returned (txtRes v) ∧ Below w.heap.size w w' := by
  cases hs : sndB v
  · rw [txtRes_no hs]
    go_enter Tryz.func12, Tryz.ntmps12
    go_wp2_with fail
    refine (rSound_any v _ hv).mono ?_
    rintro e w1 ⟨rfl, hb1⟩
    rw [hs]
    clear hs
    go_wp2_with fail
    go_ret2
    exact ⟨rfl, bel⟩
  · have hk := snd_k hs
    rw [txtRes_yes hs]
    have H3 := Lib.hid (fun h => snd3_i hs h)
    have H4 := Lib.hid (fun h => snd4_i hs h)
    have H2 := Lib.hid (fun h => snd2_size hs h)
    have H1 := Lib.hid (fun h => snd1_dec hs h)
    obtain ⟨k, n, s, t, i⟩ := v
    dsimp only at hk H1 H2 H3 H4 ⊢
    rcases hk with rfl | rfl | rfl | rfl | rfl
    · skip
      go_enter Tryz.func12, Tryz.ntmps12
      go_wp2_with fail
      refine (rSound_any ⟨0, n, s, t, i⟩ _ hv).mono ?_
      rintro e w1 ⟨rfl, hb1⟩
      rw [hs]
      clear hs
      have hz1 := hb1.size
      try simp at hz1
      obtain ⟨q1_0, l1_0, r1_0⟩ := aft hb1 (w.heap.size)
      go_wp2_with fail
      go_ret2
      exact ⟨rfl, bel⟩
    · have hdt : decTxtRes n s = .tuple #[.string ⟨(decL n s).toArray⟩, .int .i64 0] := by unfold decTxtRes; rw [H1.out rfl]; rfl
      obtain ⟨R, hR⟩ : ∃ R : ByteArray, ⟨(decL n s).toArray⟩ = R := ⟨_, rfl⟩
      have hV : (⟨(valL ⟨1, n, s, t, i⟩).toArray⟩ : ByteArray) = R := hR
      rw [hV]
      rw [hR] at hdt
      have HDT := Lib.hid hdt
      clear hdt hR hV
      go_enter Tryz.func12, Tryz.ntmps12
      go_wp2_with fail
      refine (rSound_any ⟨1, n, s, t, i⟩ _ hv).mono ?_
      rintro e w1 ⟨rfl, hb1⟩
      rw [hs]
      clear hs
      have hz1 := hb1.size
      try simp at hz1
      obtain ⟨q1_0, l1_0, r1_0⟩ := aft hb1 (w.heap.size)
      go_wp2_with fail
      refine (refText_any n s _ hv.n hv.s).mono ?_
      rintro e w2 ⟨rfl, hb2⟩
      rw [HDT.out]
      go_wp2_with fail
      go_ret2
      exact ⟨rfl, bel⟩
    · have h256 : t.size ≤ 256 := H2.out rfl
      obtain ⟨R, hR⟩ : ∃ R : ByteArray, ⟨(quoL t.data.toList).toArray⟩ = R := ⟨_, rfl⟩
      have hV : (⟨(valL ⟨2, n, s, t, i⟩).toArray⟩ : ByteArray) = R := hR
      rw [hV]
      have HR := Lib.hid hR
      clear hR hV
      go_enter Tryz.func12, Tryz.ntmps12
      go_wp2_with fail
      refine (rSound_any ⟨2, n, s, t, i⟩ _ hv).mono ?_
      rintro e w1 ⟨rfl, hb1⟩
      rw [hs]
      clear hs
      have hz1 := hb1.size
      try simp at hz1
      obtain ⟨q1_0, l1_0, r1_0⟩ := aft hb1 (w.heap.size)
      go_wp2_with fail
      refine (quoted_any t _ (by omega)).mono ?_
      rintro e w2 ⟨rfl, hb2⟩
      rw [HR.out]
      go_wp2_with fail
      go_ret2
      exact ⟨rfl, bel⟩
    · have h01 := H3.out rfl
      obtain ⟨R, hR⟩ : ∃ R : ByteArray, ⟨(valL ⟨3, n, s, t, i⟩).toArray⟩ = R := ⟨_, rfl⟩
      have HR : Hid (R = if i = 1 then ⟨#[116, 114, 117, 101]⟩ else ⟨#[102, 97, 108, 115, 101]⟩) := Lib.hid (by
        rw [← hR]; unfold valL; dsimp only
        rw [if_neg (by decide), if_neg (by decide), if_pos rfl]
        split <;> rfl)
      rw [hR]
      clear hR H1 H2 H3 H4
      go_enter Tryz.func12, Tryz.ntmps12
      go_wp2_with fail
      refine (rSound_any ⟨3, n, s, t, i⟩ _ hv).mono ?_
      rintro e w1 ⟨rfl, hb1⟩
      rw [hs]
      clear hs
      have hv0 : True := trivial
      rcases h01 with h01 | h01
      · subst h01
        have hz1 := hb1.size
        try simp at hz1
        obtain ⟨q1_0, l1_0, r1_0⟩ := aft hb1 (w.heap.size)
        go_wp2_with fail
        go_ret2
        exact ⟨by rw [show R = _ from HR.out.trans (if_neg (by decide))]; rfl, bel⟩
      · subst h01
        have hz1 := hb1.size
        try simp at hz1
        obtain ⟨q1_0, l1_0, r1_0⟩ := aft hb1 (w.heap.size)
        go_wp2_with fail
        go_ret2
        exact ⟨by rw [show R = _ from HR.out.trans (if_pos (by decide))]; rfl, bel⟩
    · have h4 := H4.out rfl
      have hdt : dayRes i = .tuple #[.string ⟨(dayL i).toArray⟩, .int .i64 0] := by unfold dayRes; rw [if_pos h4]
      obtain ⟨R, hR⟩ : ∃ R : ByteArray, ⟨(dayL i).toArray⟩ = R := ⟨_, rfl⟩
      rw [hR] at hdt
      have hRs : R.size = 10 := by rw [← hR, ba_size]; exact dayL_len h4.1 h4.2 (date_of h4.1 h4.2)
      have HV : Hid ((⟨#[64, 34]⟩ : ByteArray) ++ R ++ ⟨#[34]⟩ = ⟨(valL ⟨4, n, s, t, i⟩).toArray⟩) := Lib.hid (by
        rw [← hR, show (⟨#[64, 34]⟩ : ByteArray) = ⟨[64, 34].toArray⟩ from rfl, show (⟨#[34]⟩ : ByteArray) = ⟨[34].toArray⟩ from rfl, ba_append, ba_append]; rfl)
      have o1 : ¬ 9223372036854775807 < 2 + R.size := by omega
      have o2 : ¬ 9223372036854775807 < 2 + R.size + 1 := by omega
      have HDT := Lib.hid hdt
      clear hdt hR hRs h4
      go_enter Tryz.func12, Tryz.ntmps12
      go_wp2_with fail
      refine (rSound_any ⟨4, n, s, t, i⟩ _ hv).mono ?_
      rintro e w1 ⟨rfl, hb1⟩
      rw [hs]
      clear hs
      have hz1 := hb1.size
      try simp at hz1
      obtain ⟨q1_0, l1_0, r1_0⟩ := aft hb1 (w.heap.size)
      go_wp2_with fail
      refine (rdText_any i _).mono ?_
      rintro e w2 ⟨rfl, hb2⟩
      rw [HDT.out]
      go_wp2_with fail
      go_ret2
      exact ⟨by rw [← HV.out]; rfl, bel⟩

set_option maxRecDepth 100000 in
set_option maxHeartbeats 6400000 in
theorem vText_any (v : Vl) (w : World) (hv : v.wf) (hE : EnvP w) :
    Calls Tryz.prog 11 #[.agg #[.int .i64 v.k, .int .i64 v.n, .int .i64 v.s, .string v.t, .int .i64 v.i]] w fun e w' => e = .returned (txtRes v) ∧ Below w.heap.size w w' := by
  cases hs : sndB v
  · rw [txtRes_no hs]
    go_enter Tryz.func11, Tryz.ntmps11
    go_wp2_with fail
    refine (vSound_any v _ hv (hE.env.below bel)).mono ?_
    rintro e w1 ⟨rfl, hb1⟩
    rw [hs]
    clear hs
    go_wp2_with fail
    go_ret2
    exact ⟨rfl, bel⟩
  · have hk := snd_k hs
    rw [txtRes_yes hs]
    have H3 := Lib.hid (fun h => snd3_i hs h)
    have H4 := Lib.hid (fun h => snd4_i hs h)
    have H2 := Lib.hid (fun h => snd2_size hs h)
    have H1 := Lib.hid (fun h => snd1_dec hs h)
    obtain ⟨k, n, s, t, i⟩ := v
    dsimp only at hk H1 H2 H3 H4 ⊢
    rcases hk with rfl | rfl | rfl | rfl | rfl
    · skip
      go_enter Tryz.func11, Tryz.ntmps11
      go_wp2_with fail
      refine (vSound_any ⟨0, n, s, t, i⟩ _ hv (hE.env.below bel)).mono ?_
      rintro e w1 ⟨rfl, hb1⟩
      rw [hs]
      clear hs
      have hz1 := hb1.size
      try simp at hz1
      obtain ⟨q1_0, l1_0, r1_0⟩ := aft hb1 (w.heap.size)
      go_wp2_with fail
      go_ret2
      exact ⟨rfl, bel⟩
    · have hdt : decTxtRes n s = .tuple #[.string ⟨(decL n s).toArray⟩, .int .i64 0] := by unfold decTxtRes; rw [H1.out rfl]; rfl
      obtain ⟨R, hR⟩ : ∃ R : ByteArray, ⟨(decL n s).toArray⟩ = R := ⟨_, rfl⟩
      have hV : (⟨(valL ⟨1, n, s, t, i⟩).toArray⟩ : ByteArray) = R := hR
      rw [hV]
      rw [hR] at hdt
      have HDT := Lib.hid hdt
      clear hdt hR hV
      go_enter Tryz.func11, Tryz.ntmps11
      go_wp2_with fail
      refine (vSound_any ⟨1, n, s, t, i⟩ _ hv (hE.env.below bel)).mono ?_
      rintro e w1 ⟨rfl, hb1⟩
      rw [hs]
      clear hs
      have hz1 := hb1.size
      try simp at hz1
      obtain ⟨q1_0, l1_0, r1_0⟩ := aft hb1 (w.heap.size)
      go_wp2_with fail
      refine (decText_any n s _ hv.n hv.s (hE.below bel)).mono ?_
      rintro e w2 ⟨rfl, hb2⟩
      rw [HDT.out]
      go_wp2_with fail
      go_ret2
      exact ⟨rfl, bel⟩
    · have h256 : t.size ≤ 256 := H2.out rfl
      obtain ⟨R, hR⟩ : ∃ R : ByteArray, ⟨(escL t.data.toList).toArray⟩ = R := ⟨_, rfl⟩
      have hRs : R.size ≤ 1000 := by rw [← hR, ba_size, escL_length]; have := spN_le t.data.toList; have e : t.data.toList.length = t.size := rfl; omega
      have HV : Hid ((⟨#[34]⟩ : ByteArray) ++ R ++ ⟨#[34]⟩ = ⟨(valL ⟨2, n, s, t, i⟩).toArray⟩) := Lib.hid (by
        rw [← hR, show (⟨#[34]⟩ : ByteArray) = ⟨[34].toArray⟩ from rfl, ba_append, ba_append]; rfl)
      have o1 : ¬ 9223372036854775807 < 1 + R.size := by omega
      have o2 : ¬ 9223372036854775807 < 1 + R.size + 1 := by omega
      have HR := Lib.hid hR
      clear hR hRs
      go_enter Tryz.func11, Tryz.ntmps11
      go_wp2_with fail
      refine (vSound_any ⟨2, n, s, t, i⟩ _ hv (hE.env.below bel)).mono ?_
      rintro e w1 ⟨rfl, hb1⟩
      rw [hs]
      clear hs
      have hz1 := hb1.size
      try simp at hz1
      obtain ⟨q1_0, l1_0, r1_0⟩ := aft hb1 (w.heap.size)
      go_wp2_with fail
      have kk0 : w1.cell? ⟨w.heap.size, 3, none⟩ = some (.string t) := cel
      go_region_held3 (fun w' => Below w1.heap.size w1 w' ∧ w'.cell? ⟨w.heap.size, 3, none⟩ = some (.string t)) ((refine and_keep ?_ (fun hk => keep_cell hk l1_0 kk0); exact bell))
        (first
          | (go_at_call 23; refine (newRpl_any _ _ (by simp) (by go_simp) (by go_simp) (by go_simp) (by go_simp)).mono ?_; rintro e w' ⟨b, rfl, hbb, hnr, hb'⟩)
          | (go_at_call 24; refine (rplReplace_any _ t _ hnr (by omega)).mono ?_; rintro e w'' ⟨rfl, hb''⟩; rw [HR.out]))

      go_wp2_with fail
      go_ret2
      exact ⟨by rw [← HV.out]; rfl, bell⟩
    · have h01 := H3.out rfl
      obtain ⟨R, hR⟩ : ∃ R : ByteArray, ⟨(valL ⟨3, n, s, t, i⟩).toArray⟩ = R := ⟨_, rfl⟩
      have HR : Hid (R = if i = 1 then ⟨#[116, 114, 117, 101]⟩ else ⟨#[102, 97, 108, 115, 101]⟩) := Lib.hid (by
        rw [← hR]; unfold valL; dsimp only
        rw [if_neg (by decide), if_neg (by decide), if_pos rfl]
        split <;> rfl)
      rw [hR]
      clear hR H1 H2 H3 H4
      go_enter Tryz.func11, Tryz.ntmps11
      go_wp2_with fail
      refine (vSound_any ⟨3, n, s, t, i⟩ _ hv (hE.env.below bel)).mono ?_
      rintro e w1 ⟨rfl, hb1⟩
      rw [hs]
      clear hs
      have hv0 : True := trivial
      rcases h01 with h01 | h01
      · subst h01
        have hz1 := hb1.size
        try simp at hz1
        obtain ⟨q1_0, l1_0, r1_0⟩ := aft hb1 (w.heap.size)
        go_wp2_with fail
        go_ret2
        exact ⟨by rw [show R = _ from HR.out.trans (if_neg (by decide))]; rfl, bel⟩
      · subst h01
        have hz1 := hb1.size
        try simp at hz1
        obtain ⟨q1_0, l1_0, r1_0⟩ := aft hb1 (w.heap.size)
        go_wp2_with fail
        go_ret2
        exact ⟨by rw [show R = _ from HR.out.trans (if_pos (by decide))]; rfl, bel⟩
    · have h4 := H4.out rfl
      have hdt : dayRes i = .tuple #[.string ⟨(dayL i).toArray⟩, .int .i64 0] := by unfold dayRes; rw [if_pos h4]
      obtain ⟨R, hR⟩ : ∃ R : ByteArray, ⟨(dayL i).toArray⟩ = R := ⟨_, rfl⟩
      rw [hR] at hdt
      have hRs : R.size = 10 := by rw [← hR, ba_size]; exact dayL_len h4.1 h4.2 (date_of h4.1 h4.2)
      have HV : Hid ((⟨#[64, 34]⟩ : ByteArray) ++ R ++ ⟨#[34]⟩ = ⟨(valL ⟨4, n, s, t, i⟩).toArray⟩) := Lib.hid (by
        rw [← hR, show (⟨#[64, 34]⟩ : ByteArray) = ⟨[64, 34].toArray⟩ from rfl, show (⟨#[34]⟩ : ByteArray) = ⟨[34].toArray⟩ from rfl, ba_append, ba_append]; rfl)
      have o1 : ¬ 9223372036854775807 < 2 + R.size := by omega
      have o2 : ¬ 9223372036854775807 < 2 + R.size + 1 := by omega
      have HDT := Lib.hid hdt
      clear hdt hR hRs h4
      go_enter Tryz.func11, Tryz.ntmps11
      go_wp2_with fail
      refine (vSound_any ⟨4, n, s, t, i⟩ _ hv (hE.env.below bel)).mono ?_
      rintro e w1 ⟨rfl, hb1⟩
      rw [hs]
      clear hs
      have hz1 := hb1.size
      try simp at hz1
      obtain ⟨q1_0, l1_0, r1_0⟩ := aft hb1 (w.heap.size)
      go_wp2_with fail
      refine (dText_any i _ (hE.below bel)).mono ?_
      rintro e w2 ⟨rfl, hb2⟩
      rw [HDT.out]
      go_wp2_with fail
      go_ret2
      exact ⟨by rw [← HV.out]; rfl, bel⟩
end Go.Proofs.YthicilfhnakhmaaGreatDoor
