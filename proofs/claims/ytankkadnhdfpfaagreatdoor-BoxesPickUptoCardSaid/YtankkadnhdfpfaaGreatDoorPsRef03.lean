import Derived.Test.YtankkadnhdfpfaaGreatDoorPk01
import Derived.Test.YtankkadnhdfpfaaGreatDoorPk04
import Derived.Test.YtankkadnhdfpfaaGreatDoorPk07
/- The signs as the reference of the third chapter looks at them, walked. -/
set_option linter.unusedSimpArgs false
set_option linter.unusedVariables false
namespace Go.Proofs.YtankkadnhdfpfaaGreatDoor.Wd
open Go.RowKit

theorem byteAt_get3 (s : ByteArray) (i : Nat) (h : i < s.size) : byteAt s i = (s[i]'h).toNat := by
  unfold byteAt
  show (s.data[i]!).toNat = _
  rw [getElem!_pos s.data i h]
  rfl

set_option maxHeartbeats 400000 in
theorem sign03_any (r : Nat) (w : World) (hr : r ≤ 9007199254740992) :
    Calls Tryz.prog 212 #[.int .i64 r] w fun e w' => e = .returned (.bool (signB r)) ∧ w = w' := by
  go_enter Tryz.func212, Tryz.ntmps212
  go_wp2_with fail
  all_goals go_ret
  all_goals refine ⟨ret_bool ?_, rfl⟩
  all_goals (rw [Bool.eq_iff_iff]; simp [signB]; omega)

set_option maxRecDepth 100000 in
set_option maxHeartbeats 1600000 in
theorem first03_any (s : ByteArray) (w : World) (h0 : 0 < s.size) (hs : s.size ≤ 1099511627776) :
    Calls Tryz.prog 192 #[.string s] w fun e w' => (∃ r : Int, e = .returned (.tuple #[.int .i64 r, .int .i64 (stepN s 0)])) ∧ w = w' := by
  have hbt := byteAt_get3 s 0 h0
  have hb256 := byteAt_lt s 0
  obtain ⟨b, hb⟩ : ∃ b, byteAt s 0 = b := ⟨_, rfl⟩
  rw [hb] at hbt hb256
  have hbi : ((s[0]'h0).toNat : Int) = (b : Int) := by rw [hbt]
  have HB := Lib.hid hb
  have hno := stepN_no s 0
  have hcn := stepN_conts s 0
  have hlw := stepN_low s 0
  have hys := stepN_yes s 0
  rw [hb] at hno hcn hlw hys
  have HNO := Lib.hid hno
  have HCN := Lib.hid hcn
  have HLW := Lib.hid hlw
  have HYS := Lib.hid hys
  obtain ⟨n0, hn0⟩ : ∃ n, stepN s 0 = n := ⟨_, rfl⟩
  rw [hn0]
  have HN := Lib.hid hn0
  clear hb hbt hno hcn hlw hys hn0
  go_enter Tryz.func192, Tryz.ntmps192
  go_upto_block 0 with fail
  go_cut [5, 6, 7] (fun n r le wc => 1 ≤ refLen b ∧ refLen b ≤ 4 ∧ n = .int .i64 (refLen b) ∧ r = .int .i64 (refHead b) ∧ le = .int .i64 (refLeast b) ∧ w = wc)
  case first =>
    by_cases c1 : b < 128
    ·
      have e1 : refLen b = 1 := by simp [refLen, *]
      have e2 : refHead b = b := by simp [refHead, *]
      have e3 : refLeast b = 0 := by simp [refLeast, *]
      have E := Lib.hid (And.intro e1 (And.intro e2 e3))
      clear e1 e2 e3
      skip
      go_wp2_with fail
      go_meet
      case rel => obtain ⟨e1, e2, e3⟩ := E.out; exact ⟨by omega, by omega, by rw [e1]; rfl, by first | (rw [e2]; done) | (rw [e2]; go_num), by rw [e3]; rfl, rfl⟩
    · by_cases c2 : 192 ≤ b ∧ b < 224
      ·
        have e1 : refLen b = 2 := by simp [refLen, *]
        have e2 : refHead b = b - 192 := by simp [refHead, *]
        have e3 : refLeast b = 128 := by simp [refLeast, *]
        have E := Lib.hid (And.intro e1 (And.intro e2 e3))
        clear e1 e2 e3
        obtain ⟨c2, c3⟩ := c2
        go_wp2_with fail
        go_meet
        case rel => obtain ⟨e1, e2, e3⟩ := E.out; exact ⟨by omega, by omega, by rw [e1]; rfl, by first | (rw [e2]; done) | (rw [e2]; go_num), by rw [e3]; rfl, rfl⟩
      · by_cases c3 : 224 ≤ b ∧ b < 240
        ·
          have e1 : refLen b = 3 := by simp [refLen, *]
          have e2 : refHead b = b - 224 := by simp [refHead, *]
          have e3 : refLeast b = 2048 := by simp [refLeast, *]
          have E := Lib.hid (And.intro e1 (And.intro e2 e3))
          clear e1 e2 e3
          obtain ⟨c4, c5⟩ := c3
          go_wp2_with fail
          go_meet
          case rel => obtain ⟨e1, e2, e3⟩ := E.out; exact ⟨by omega, by omega, by rw [e1]; rfl, by first | (rw [e2]; done) | (rw [e2]; go_num), by rw [e3]; rfl, rfl⟩
        · by_cases c4 : 240 ≤ b ∧ b < 248
          ·
            have e1 : refLen b = 4 := by simp [refLen, *]
            have e2 : refHead b = b - 240 := by simp [refHead, *]
            have e3 : refLeast b = 65536 := by simp [refLeast, *]
            have E := Lib.hid (And.intro e1 (And.intro e2 e3))
            clear e1 e2 e3
            obtain ⟨c5, c6⟩ := c4
            go_wp2_with fail
            go_meet
            case rel => obtain ⟨e1, e2, e3⟩ := E.out; exact ⟨by omega, by omega, by rw [e1]; rfl, by first | (rw [e2]; done) | (rw [e2]; go_num), by rw [e3]; rfl, rfl⟩
          · have hl : refLen b = 0 := by simp [refLen, *]
            have H0 := Lib.hid (HNO.out hl)
            clear hl
            have c5 : 128 ≤ b := by omega
            go_wp2_with fail
            all_goals refine bodyPost_ret (v := .tuple #[.int .i64 0, .int .i64 0]) (by simp [results, Tryz.results192, go_sem, *]) rfl ⟨⟨0, by rw [← HN.out, H0.out]; rfl⟩, rfl⟩
  case rest =>
    obtain ⟨hL1, hL4, rfl, rfl, rfl, rfl⟩ := hcut
    obtain ⟨L, hL⟩ : ∃ L, refLen b = L := ⟨_, rfl⟩
    obtain ⟨le, hle⟩ : ∃ le, refLeast b = le := ⟨_, rfl⟩
    have hl2 : le ≤ 65536 := by rw [← hle]; unfold refLeast; repeat' split
                                all_goals omega
    have hr0 : refRune s 0 0 = refHead b := by rw [← HB.out]; rfl
    rw [← hr0]
    have hcn := HCN.out
    have hlw := HLW.out
    have hys := HYS.out
    rw [hL] at hL1 hL4 hcn hlw hys
    rw [hle] at hlw hys
    rw [hL, hle]
    have HC := Lib.hid hcn
    have HW := Lib.hid hlw
    have HY := Lib.hid hys
    clear hr0 hL hle hcn hlw hys HNO HCN HLW HYS
    by_cases hshort : s.size < L
    · have H0 := Lib.hid (HC.out (contsB_false s 0 s.size (by omega) (by unfold contB; simp) _ (by omega)))
      go_wp2_with fail
      refine bodyPost_ret (v := .tuple #[.int .i64 0, .int .i64 0]) (by simp [results, Tryz.results192, go_sem, *]) rfl ⟨⟨0, by rw [← HN.out, H0.out]; rfl⟩, rfl⟩
    go_wp2_with fail
    go_loopg [6, 8] L (fun k r jv wr => ∃ j : Nat, 1 ≤ j ∧ j ≤ L ∧ L - j ≤ k ∧ Hid (contsB s 0 (j - 1) = true) ∧ r = .int .i64 (refRune s 0 (j - 1)) ∧ jv = .int .i64 j ∧ w = wr)
    case atStart => exact ⟨1, by omega, by omega, by omega, rfl, rfl, rfl, rfl⟩
    case round =>
      obtain ⟨j, hj1, hjL, hjk, hcont, rfl, rfl, rfl⟩ := hrel
      have hrl := refRune_lt3 s 0 (j - 1) (by omega)
      by_cases hjl : j < L
      · have hin : j < s.size := by omega
        have hz : contB s (0 + j) = false → stepN s 0 = 0 := fun h0 => HC.out (contsB_false s 0 j hj1 h0 _ (by omega))
        have hbt := byteAt_get3 s j hin
        have hc256 := byteAt_lt s j
        have hcb : contB s (0 + j) = (decide (128 ≤ byteAt s j) && decide (byteAt s j < 192)) := by unfold contB; simp [hin]
        have hsucc := refRune_succ s 0 (j - 1)
        have hcs := contsB_succ s 0 (j - 1) hcont.out
        rw [show j - 1 + 1 = j by omega] at hsucc hcs
        rw [hcb] at hz hcs
        rw [Nat.zero_add] at hsucc
        have hrs := refRune_lt3 s 0 j (by omega)
        obtain ⟨c, hc⟩ : ∃ c, byteAt s j = c := ⟨_, rfl⟩
        rw [hc] at hbt hc256 hz hsucc hcs
        have hci : ((s[j]'hin).toNat : Int) = (c : Int) := by rw [hbt]
        clear hbt hcb hc
        obtain ⟨r, hr⟩ : ∃ r, refRune s 0 (j - 1) = r := ⟨_, rfl⟩
        obtain ⟨r', hr'⟩ : ∃ r, refRune s 0 j = r := ⟨_, rfl⟩
        rw [hr, hr'] at hsucc
        rw [hr'] at hrs
        rw [hr] at hrl ⊢
        have HR' := Lib.hid hr'
        have HS := Lib.hid hsucc
        have HZ2 := Lib.hid hz
        have HCS := Lib.hid hcs
        clear hr hr' hz hcs hsucc
        by_cases k1 : c < 128
        · have H0 : Hid (stepN s 0 = 0) := HZ2.out (by simp; omega)
          go_wp2_with fail
          refine bodyPost_ret (v := .tuple #[.int .i64 0, .int .i64 0]) (by simp [results, Tryz.results192, go_sem, *]) rfl ⟨⟨0, by rw [← HN.out, H0.out]; rfl⟩, rfl⟩
        · by_cases k2 : c < 192
          · have H0 : Hid (contsB s 0 j = true) := HCS.out (by simp; omega)
            have hrb : r * 64 + (c - 128) ≤ 1811939328 := by have := HS.out; omega
            go_wp2_with fail
            go_roundg (gk - 1)
            case measure => omega
            case rel =>
              refine ⟨j + 1, by omega, by omega, by omega, H0, ?_, by go_num, rfl⟩
              show _ = Value.int .i64 ((refRune s 0 (j + 1 - 1) : Nat) : Int)
              rw [show j + 1 - 1 = j by omega, HR'.out, HS.out]
              go_num
          · have H0 : Hid (stepN s 0 = 0) := HZ2.out (by simp; omega)
            go_wp2_with fail
            all_goals refine bodyPost_ret (v := .tuple #[.int .i64 0, .int .i64 0]) (by simp [results, Tryz.results192, go_sem, *]) rfl ⟨⟨0, by rw [← HN.out, H0.out]; rfl⟩, rfl⟩
      · obtain rfl : j = L := by omega
        have hlow := HW.out
        have hyes := HY.out hj1 hcont.out
        obtain ⟨r, hr⟩ : ∃ r, refRune s 0 (j - 1) = r := ⟨_, rfl⟩
        rw [hr] at hlow hyes hrl ⊢
        have HLOW := Lib.hid hlow
        have HYES := Lib.hid hyes
        clear hlow hyes hr
        by_cases hle : r < le
        · have H0 : Hid (stepN s 0 = 0) := HLOW.out (.inl hle)
          go_wp2_with fail
          refine bodyPost_ret (v := .tuple #[.int .i64 0, .int .i64 0]) (by simp [results, Tryz.results192, go_sem, *]) rfl ⟨⟨0, by rw [← HN.out, H0.out]; rfl⟩, rfl⟩
        · cases hsg : signB r
          · have H0 : Hid (stepN s 0 = 0) := HLOW.out (.inr hsg)
            go_wp2_with (go_at_call 212; refine (sign03_any r _ (by omega)).mono ?_; rintro e w' ⟨rfl, rfl⟩; rw [hsg])
            all_goals refine bodyPost_ret (v := .tuple #[.int .i64 0, .int .i64 0]) (by simp [results, Tryz.results192, go_sem, *]) rfl ⟨⟨0, by rw [← HN.out, H0.out]; rfl⟩, rfl⟩
          · have H1 := Lib.hid (HYES.out hle hsg)
            go_wp2_with (go_at_call 212; refine (sign03_any r _ (by omega)).mono ?_; rintro e w' ⟨rfl, rfl⟩; rw [hsg])
            all_goals refine bodyPost_ret (v := .tuple #[.int .i64 r, .int .i64 j]) (by simp [results, Tryz.results192, go_sem, *]) rfl ⟨⟨r, by rw [← HN.out, H1.out]⟩, rfl⟩
theorem contsB_last (s : ByteArray) (i : Nat) : ∀ k, contsB s i k = true → k = 0 ∨ i + k < s.size
  | 0, _ => .inl rfl
  | k + 1, h => by
    have h2 : (contsB s i k && contB s (i + (k + 1))) = true := h
    simp [contB] at h2
    exact .inr h2.2.1.1
theorem stepN_le (s : ByteArray) (i : Nat) (h : i < s.size) : i + stepN s i ≤ s.size := by
  rw [stepN_ref]
  split
  · omega
  · split
    · rename_i h1 h2
      split
      · omega
      · rcases contsB_last s i _ h2 with h3 | h3 <;> omega
    · omega
theorem stepN_extract (s : ByteArray) (i : Nat) : stepN (s.extract i s.size) 0 = stepN s i := by
  unfold stepN
  rw [decode_extract]

set_option maxHeartbeats 400000 in
theorem bad03_any (s : ByteArray) (w : World) (hs : s.size ≤ 1099511627776) :
    Calls Tryz.prog 166 #[.string s] w fun e w' => e = .returned (.int .i64 (badFrom s s.size 0)) ∧ w = w' := by
  obtain ⟨r, hr⟩ : ∃ r, badFrom s s.size 0 = r := ⟨_, rfl⟩
  rw [hr]
  have HR := Lib.hid hr
  clear hr
  go_enter Tryz.func166, Tryz.ntmps166
  go_wp2_with fail
  go_loopg [3] s.size (fun k at_ wr => ∃ i : Nat, s.size - i ≤ k ∧ i ≤ s.size ∧ Hid (badFrom s k i = r) ∧ at_ = .int .i64 i ∧ w = wr)
  case atStart => exact ⟨0, by omega, by omega, HR, rfl, rfl⟩
  case round =>
    obtain ⟨i, hik, hin, hbad, rfl, rfl⟩ := hrel
    by_cases h : i < s.size
    · obtain ⟨g, rfl⟩ : ∃ g, gk = g + 1 := ⟨gk - 1, by omega⟩
      have hb1 : badFrom s (g + 1) i = if stepN s i = 0 then (i : Int) else badFrom s g (i + stepN s i) := by
        show (if i < s.size then _ else _) = _
        rw [if_pos h]
      have hle := stepN_le s i h
      have hx := stepN_extract s i
      have hxs : (s.extract i s.size).size = s.size - i := by simp
      obtain ⟨n, hn⟩ : ∃ n, stepN s i = n := ⟨_, rfl⟩
      rw [hn] at hb1 hle hx
      obtain ⟨x, hxx⟩ : ∃ x, s.extract i s.size = x := ⟨_, rfl⟩
      have H1 := Lib.hid hb1
      have HX := Lib.hid (hxx ▸ hx : stepN x 0 = n)
      have HXS := Lib.hid (hxx ▸ hxs : x.size = s.size - i)
      clear hb1 hn hx hxs
      by_cases h0 : n = 0
      · subst h0
        go_wp2_with fail
        try rw [hxx]
        refine (first03_any x _ (by rw [HXS.out]; omega) (by rw [HXS.out]; omega)).mono ?_
        rintro e w' ⟨⟨r1, rfl⟩, rfl⟩
        rw [HX.out]
        go_wp2_with fail
        go_ret
        exact ⟨ret_int (by rw [← hbad.out, H1.out]; rfl), rfl⟩
      · go_wp2_with fail
        try rw [hxx]
        refine (first03_any x _ (by rw [HXS.out]; omega) (by rw [HXS.out]; omega)).mono ?_
        rintro e w' ⟨⟨r1, rfl⟩, rfl⟩
        rw [HX.out]
        go_wp2_with fail
        go_roundg g
        case measure => omega
        case rel => exact ⟨i + n, by omega, by omega, by rw [← hbad.out, H1.out, if_neg h0]; rfl, by go_num, rfl⟩
    · have hb1 : badFrom s gk i = -1 := by
        cases gk with
        | zero => rfl
        | succ g => show (if i < s.size then _ else _) = _; rw [if_neg h]
      have H1 := Lib.hid hb1
      clear hb1
      go_wp2_with fail
      go_ret
      exact ⟨ret_int (by rw [← hbad.out, H1.out]), rfl⟩

set_option maxHeartbeats 400000 in
theorem good03_any (s : ByteArray) (w : World) (hs : s.size ≤ 1099511627776) :
    Calls Tryz.prog 149 #[.string s] w fun e w' => e = .returned (.bool (goodB s)) ∧ w = w' := by
  have HG := Lib.hid (goodFrom_bad_iff s s.size 0)
  go_enter Tryz.func149, Tryz.ntmps149
  go_wp2_with fail
  refine (bad03_any s _ hs).mono ?_
  rintro e w1 ⟨rfl, rfl⟩
  generalize badFrom s s.size 0 = r at *
  go_wp2_with fail
  go_ret
  exact ⟨ret_bool HG.out.symm, rfl⟩
end Go.Proofs.YtankkadnhdfpfaaGreatDoor.Wd
