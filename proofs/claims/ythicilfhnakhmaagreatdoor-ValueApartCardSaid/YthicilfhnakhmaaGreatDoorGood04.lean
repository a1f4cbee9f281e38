/- The signs as the reference looks at them: soffitref04.good, walked. -/
import Derived.Test.YthicilfhnakhmaaGreatDoorBase
import Derived.Test.YthicilfhnakhmaaGreatDoorUtf
set_option linter.unusedSimpArgs false
set_option linter.unusedVariables false
namespace Go.Proofs.YthicilfhnakhmaaGreatDoor
open Go.RowKit

theorem byteAt_get (s : ByteArray) (i : Nat) (h : i < s.size) : byteAt s i = (s[i]'h).toNat := by
  unfold byteAt
  show (s.data[i]!).toNat = _
  rw [getElem!_pos s.data i h]
  rfl

set_option maxRecDepth 100000 in
set_option maxHeartbeats 800000 in
theorem refGood_any (s : ByteArray) (w : World) (hs : s.size ≤ 1099511627776) :
    Calls Tryz.prog 32 #[.string s] w fun e w' => e = .returned (.bool (goodB s)) ∧ w = w' := by
  go_enter Tryz.func32, Tryz.ntmps32
  go_wp2_with fail
  go_loopg [3] s.size (fun k at_ wr => ∃ i : Nat, s.size - i ≤ k ∧ Hid (goodB s = goodFrom s k i) ∧ at_ = .int .i64 i ∧ w = wr)
  case atStart => exact ⟨0, by omega, rfl, rfl, rfl⟩
  case round =>
    obtain ⟨i, hik, hgood, rfl, rfl⟩ := hrel
    by_cases h : i < s.size
    · have hbt := byteAt_get s i h
      have hb256 := byteAt_lt s i
      obtain ⟨b, hb⟩ : ∃ b, byteAt s i = b := ⟨_, rfl⟩
      rw [hb] at hbt hb256
      have hbi : ((s[i]'h).toNat : Int) = (b : Int) := by rw [hbt]
      have HB := Lib.hid hb
      clear hb hbt
      have hz : stepN s i = 0 → goodB s = false := fun h0 => by rw [hgood.out]; exact goodFrom_bad s gk i h hik h0
      have HZ := Lib.hid hz
      clear hz
      go_upto_block 2 with fail
      go_cut [5, 6, 7] (fun n r le wc => 1 ≤ refLen b ∧ refLen b ≤ 4 ∧ n = .int .i64 (refLen b) ∧ r = .int .i64 (refHead b) ∧ le = .int .i64 (refLeast b) ∧ w = wc)
      case first =>
        by_cases c1 : b < 128
        ·
          have e1 : refLen b = 1 := by simp [refLen, *]
          have e2 : refHead b = b := by simp [refHead, *]
          have e3 : refLeast b = 0 := by simp [refLeast, *]
          have E := Lib.hid (And.intro e1 (And.intro e2 e3))
          clear e1 e2 e3
          skip
          go_wp2_with fail
          go_meet
          case rel => obtain ⟨e1, e2, e3⟩ := E.out; exact ⟨by omega, by omega, by rw [e1]; rfl, by first | (rw [e2]; done) | (rw [e2]; go_num), by rw [e3]; rfl, rfl⟩
        · by_cases c2 : 192 ≤ b ∧ b < 224
          ·
            have e1 : refLen b = 2 := by simp [refLen, *]
            have e2 : refHead b = b - 192 := by simp [refHead, *]
            have e3 : refLeast b = 128 := by simp [refLeast, *]
            have E := Lib.hid (And.intro e1 (And.intro e2 e3))
            clear e1 e2 e3
            obtain ⟨c2, c3⟩ := c2
            go_wp2_with fail
            go_meet
            case rel => obtain ⟨e1, e2, e3⟩ := E.out; exact ⟨by omega, by omega, by rw [e1]; rfl, by first | (rw [e2]; done) | (rw [e2]; go_num), by rw [e3]; rfl, rfl⟩
          · by_cases c3 : 224 ≤ b ∧ b < 240
            ·
              have e1 : refLen b = 3 := by simp [refLen, *]
              have e2 : refHead b = b - 224 := by simp [refHead, *]
              have e3 : refLeast b = 2048 := by simp [refLeast, *]
              have E := Lib.hid (And.intro e1 (And.intro e2 e3))
              clear e1 e2 e3
              obtain ⟨c4, c5⟩ := c3
              go_wp2_with fail
              go_meet
              case rel => obtain ⟨e1, e2, e3⟩ := E.out; exact ⟨by omega, by omega, by rw [e1]; rfl, by first | (rw [e2]; done) | (rw [e2]; go_num), by rw [e3]; rfl, rfl⟩
            · by_cases c4 : 240 ≤ b ∧ b < 248
              ·
                have e1 : refLen b = 4 := by simp [refLen, *]
                have e2 : refHead b = b - 240 := by simp [refHead, *]
                have e3 : refLeast b = 65536 := by simp [refLeast, *]
                have E := Lib.hid (And.intro e1 (And.intro e2 e3))
                clear e1 e2 e3
                obtain ⟨c5, c6⟩ := c4
                go_wp2_with fail
                go_meet
                case rel => obtain ⟨e1, e2, e3⟩ := E.out; exact ⟨by omega, by omega, by rw [e1]; rfl, by first | (rw [e2]; done) | (rw [e2]; go_num), by rw [e3]; rfl, rfl⟩
              · have hl : refLen b = 0 := by simp [refLen, *]
                have H0 := Lib.hid (HZ.out (stepN_no s i (by rw [HB.out]; exact hl)))
                clear hl
                have c5 : 128 ≤ b := by omega
                go_wp2_with fail
                all_goals go_ret
                all_goals exact ⟨ret_bool H0.out.symm, rfl⟩
      case rest =>
        obtain ⟨hL1, hL4, rfl, rfl, rfl, rfl⟩ := hcut
        obtain ⟨L, hL⟩ : ∃ L, refLen b = L := ⟨_, rfl⟩
        obtain ⟨le, hle⟩ : ∃ le, refLeast b = le := ⟨_, rfl⟩
        have hl2 : le ≤ 65536 := by rw [← hle]; unfold refLeast; repeat' split
                                    all_goals omega
        have hr0 : refRune s i 0 = refHead b := by rw [← HB.out]; rfl
        rw [← hr0]
        rw [hL] at hL1 hL4
        rw [hL, hle]
        have HL : Hid (refLen (byteAt s i) = L) := by rw [HB.out]; exact hL
        have HLE : Hid (refLeast (byteAt s i) = le) := by rw [HB.out]; exact hle
        clear hr0 hL hle
        obtain ⟨ko, rfl⟩ : ∃ ko : Nat, ko = gk := ⟨_, rfl⟩
        go_wp2_with fail
        go_loopg [6, 8] L (fun k r jv wr => ∃ j : Nat, 1 ≤ j ∧ j ≤ L ∧ L - j ≤ k ∧ Hid (contsB s i (j - 1) = true) ∧ r = .int .i64 (refRune s i (j - 1)) ∧ jv = .int .i64 j ∧ w = wr)
        case atStart => exact ⟨1, by omega, by omega, by omega, rfl, rfl, rfl, rfl⟩
        case round =>
          obtain ⟨j, hj1, hjL, hjk, hcont, rfl, rfl, rfl⟩ := hrel
          have hrl := refRune_lt3 s i (j - 1) (by omega)
          by_cases hjl : j < L
          · have hz : contB s (i + j) = false → goodB s = false := fun h0 => HZ.out (stepN_conts s i (contsB_false s i j hj1 h0 _ (by rw [HL.out]; omega)))
            by_cases hin : i + j < s.size
            · have hbt := byteAt_get s (i + j) hin
              have hc256 := byteAt_lt s (i + j)
              have hcb : contB s (i + j) = (decide (128 ≤ byteAt s (i + j)) && decide (byteAt s (i + j) < 192)) := by unfold contB; simp [hin]
              have hsucc := refRune_succ s i (j - 1)
              have hcs := contsB_succ s i (j - 1) hcont.out
              rw [show j - 1 + 1 = j by omega] at hsucc hcs
              rw [hcb] at hz hcs
              have hrs := refRune_lt3 s i j (by omega)
              obtain ⟨c, hc⟩ : ∃ c, byteAt s (i + j) = c := ⟨_, rfl⟩
              rw [hc] at hbt hc256 hz hsucc hcs
              have hci : ((s[i + j]'hin).toNat : Int) = (c : Int) := by rw [hbt]
              clear hbt hcb hc
              obtain ⟨r, hr⟩ : ∃ r, refRune s i (j - 1) = r := ⟨_, rfl⟩
              obtain ⟨r', hr'⟩ : ∃ r, refRune s i j = r := ⟨_, rfl⟩
              rw [hr, hr'] at hsucc
              rw [hr'] at hrs
              rw [hr] at hrl ⊢
              have HR' := Lib.hid hr'
              have HS := Lib.hid hsucc
              have HZ2 := Lib.hid hz
              have HCS := Lib.hid hcs
              clear hr hr' hz hcs hsucc
              by_cases k1 : c < 128
              · have H0 : Hid (goodB s = false) := HZ2.out (by simp; omega)
                go_wp2_with fail
                go_ret
                exact ⟨ret_bool H0.out.symm, rfl⟩
              · by_cases k2 : c < 192
                · have H0 : Hid (contsB s i j = true) := HCS.out (by simp; omega)
                  have hrb : r * 64 + (c - 128) ≤ 1811939328 := by have := HS.out; omega
                  go_wp2_with fail
                  go_roundg (gk - 1)
                  case measure => omega
                  case rel =>
                    refine ⟨j + 1, by omega, by omega, by omega, H0, ?_, by go_num, rfl⟩
                    show _ = Value.int .i64 ((refRune s i (j + 1 - 1) : Nat) : Int)
                    rw [show j + 1 - 1 = j by omega, HR'.out, HS.out]
                    go_num
                · have H0 : Hid (goodB s = false) := HZ2.out (by simp; omega)
                  go_wp2_with fail
                  all_goals go_ret
                  all_goals exact ⟨ret_bool H0.out.symm, rfl⟩
            · have H0 : Hid (goodB s = false) := hz (by unfold contB; simp [hin])
              go_wp2_with fail
              go_ret
              exact ⟨ret_bool H0.out.symm, rfl⟩
          · obtain rfl : j = L := by omega
            have hlow := fun hh => HZ.out (stepN_low s i hh)
            have hyes := stepN_yes s i (by rw [HL.out]; exact hj1) (by rw [HL.out]; exact hcont.out)
            have hstep := fun h0 => goodFrom_step s ko i h hik h0
            rw [HL.out, HLE.out] at hlow hyes
            obtain ⟨r, hr⟩ : ∃ r, refRune s i (j - 1) = r := ⟨_, rfl⟩
            rw [hr] at hlow hyes hrl ⊢
            have HLOW := Lib.hid hlow
            have HYES := Lib.hid hyes
            have HSTEP := Lib.hid hstep
            clear hlow hyes hstep hr
            by_cases hle : r < le
            · have H0 : Hid (goodB s = false) := HLOW.out (.inl hle)
              go_wp2_with fail
              go_ret
              exact ⟨ret_bool H0.out.symm, rfl⟩
            · cases hsg : signB r
              · have H0 : Hid (goodB s = false) := HLOW.out (.inr hsg)
                have hsf : ¬ (r = 9 ∨ r = 10 ∨ r = 13 ∨ (32 ≤ r ∧ r ≤ 55295) ∨ (57344 ≤ r ∧ r ≤ 65533) ∨ (65536 ≤ r ∧ r ≤ 1114111)) := by
                  intro hc; rw [show signB r = true by simp [signB]; omega] at hsg; cases hsg
                clear hsg
                go_wp2_with fail
                all_goals first | (go_ret; exact ⟨ret_bool H0.out.symm, rfl⟩) | (exfalso; (try simp only [Bool.not_eq_false', Bool.not_eq_true', decide_eq_true_eq, decide_eq_false_iff_not] at *); omega)
              · have H1 := Lib.hid (HYES.out hle hsg)
                have hst : (r = 9 ∨ r = 10 ∨ r = 13 ∨ (32 ≤ r ∧ r ≤ 55295) ∨ (57344 ≤ r ∧ r ≤ 65533) ∨ (65536 ≤ r ∧ r ≤ 1114111)) := by
                  simp [signB] at hsg; omega
                clear hsg
                have hne : stepN s i ≠ 0 := by rw [H1.out]; omega
                obtain ⟨g, hg0, hg1, hg2⟩ := HSTEP.out hne
                rw [H1.out] at hg1 hg2
                have HG2 := Lib.hid hg2
                clear hg2 hne
                go_wp2_with fail
                all_goals first
                  | (exfalso; (try simp only [Bool.not_eq_false', Bool.not_eq_true', decide_eq_true_eq, decide_eq_false_iff_not] at *); omega)
                  | (go_roundg g
                     case measure => exact hg0
                     case rel => exact ⟨i + j, hg1, hgood.out.trans HG2.out, by go_num, rfl⟩)
    · go_wp2_with fail
      go_ret
      exact ⟨ret_bool (by rw [hgood.out, goodFrom_out s gk i h]), rfl⟩
end Go.Proofs.YthicilfhnakhmaaGreatDoor
