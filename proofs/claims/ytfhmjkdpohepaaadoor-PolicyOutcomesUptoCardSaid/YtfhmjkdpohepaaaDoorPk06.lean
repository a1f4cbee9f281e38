import Derived.Test.YtfhmjkdpohepaaaDoorPk01
import Derived.Test.YtfhmjkdpohepaaaDoorPk03
import Derived.Test.YtfhmjkdpohepaaaDoorShelf
/- The signs: soffit/chars, walked. -/
set_option linter.unusedSimpArgs false
set_option linter.unusedVariables false
namespace Go.Proofs.YtfhmjkdpohepaaaDoor
open Go.RowKit

set_option maxHeartbeats 400000 in
theorem sign_any (r : Nat) (w : World) (hr : r ≤ 2147483647) :
    Calls Tryd.prog 72 #[.int .i32 r] w fun e w' => e = .returned (.bool (signB r)) ∧ w = w' := by
  go_enter Tryd.func72, Tryd.ntmps72
  go_wp2_with fail
  all_goals go_ret
  all_goals refine ⟨ret_bool ?_, rfl⟩
  all_goals (rw [Bool.eq_iff_iff]; simp [signB]; omega)

/-- where the first sign stands that may not -/
def badFrom (s : ByteArray) : Nat → Nat → Int
  | 0, _ => -1
  | f + 1, i => if i < s.size then (if stepN s i = 0 then (i : Int) else badFrom s f (i + stepN s i)) else -1

theorem extract_go (s : ByteArray) (i : Nat) (h : i < s.size) : Lib.decodeGo (s.extract i s.size) = Utf8.decode s i := by
  unfold Lib.decodeGo
  rw [if_neg (by simp [ByteArray.size_extract]; omega), decode_extract]

theorem goodFrom_bad_iff (s : ByteArray) (f i : Nat) : goodFrom s f i = decide (badFrom s f i < 0) := by
  induction f generalizing i with
  | zero => rfl
  | succ f ih =>
    show (if i < s.size then (if stepN s i = 0 then false else _) else true) = decide ((if i < s.size then (if stepN s i = 0 then (i : Int) else _) else -1) < 0)
    by_cases h : i < s.size
    · rw [if_pos h, if_pos h]
      by_cases h0 : stepN s i = 0
      · rw [if_pos h0, if_pos h0]; simp
      · rw [if_neg h0, if_neg h0]; exact ih _
    · rw [if_neg h, if_neg h]; rfl

set_option maxHeartbeats 800000 in
theorem bad_any (s : ByteArray) (w : World) (hs : s.size ≤ 9223372036854775807) (hE : Env w) :
    Calls Tryd.prog 63 #[.string s] w fun e w' => e = .returned (.int .i64 (badFrom s s.size 0)) ∧ Below w.heap.size w w' := by
  go_enter Tryd.func63, Tryd.ntmps63
  go_wp2_with fail
  go_loopg [] s.size (fun k wr => ∃ i : Nat, s.size - i ≤ k ∧ Hid (badFrom s s.size 0 = badFrom s k i) ∧ wr.heap[w.heap.size]? = some (.stringIter s i) ∧ w.heap.size < wr.heap.size ∧ Below w.heap.size w wr)
  case atStart => exact ⟨0, by omega, rfl, World.iter_heap _ _ _, (by first | omega | (simp only [sz_alloc, sz_set, sz_drew, sz_drewN, sz_iterAt, sz_iter] at *; omega) | (simp; done) | (simp; omega) | (simp at *; omega)), bell⟩
  case round =>
    obtain ⟨i, hik, hbad, hit, hlt, hbel⟩ := hrel
    by_cases h : i < s.size
    · have hn := fun ty => Lib.run_next_any_at (P := Tryd.prog) wr w.heap.size s i ty hit h
      have hx := extract_go s i h
      have hR : (Utf8.decode s i).1 ≤ 2147483647 := decode_le s i
      have hM : 1 ≤ (Utf8.decode s i).2 := decode_pos s i
      have hst : stepN s i = if ((Utf8.decode s i).1 == 65533 && (Utf8.decode s i).2 == 1) || !signB (Utf8.decode s i).1 then 0 else (Utf8.decode s i).2 := rfl
      have hst2 : stepN s i ≠ 0 → stepN s i = (Utf8.decode s i).2 := by
        intro h0; rw [hst] at h0 ⊢; split at h0
        · exact absurd rfl h0
        · rename_i h1; rw [if_neg h1]
      obtain ⟨g, rfl⟩ : ∃ g, gk = g + 1 := ⟨gk - 1, by omega⟩
      have hb1 : badFrom s (g + 1) i = if stepN s i = 0 then (i : Int) else badFrom s g (i + stepN s i) := by
        show (if i < s.size then _ else _) = _
        rw [if_pos h]
      have HX := Lib.hid hx
      have HB1 := Lib.hid hb1
      have HST := Lib.hid hst
      have HST2 := Lib.hid hst2
      clear hx hb1 hst hst2
      generalize hd1 : (Utf8.decode s i).1 = R at *
      generalize hd2 : (Utf8.decode s i).2 = M at *
      have HD1 := Lib.hid hd1
      have HD2 := Lib.hid hd2
      clear hd1 hd2
      go_wp2_with fail
      have hE' : Env (wr.iterAt w.heap.size s (i + M)) := hE.below bell
      refine (Tryd.utf8_DecodeRuneInString _ _ hE'.tabs).mono ?_
      rintro e w1 ⟨rfl, hbw⟩
      rw [HX.out, HD1.out, HD2.out]
      have hz : wr.heap.size ≤ w1.heap.size := by have := hbw.size; rw [sz_iterAt] at this; exact this
      have hit1 : w1.heap[w.heap.size]? = some (.stringIter s (i + M)) := by
        rw [hbw.block _ (by rw [sz_iterAt]; exact hlt)]
        exact Lib.iterAt_heap wr w.heap.size s i (i + M) hit
      have hbel1 : Below w.heap.size w w1 := (below_iterAt hbel (Nat.le_refl _) s (i + M)).trans (hbw.mono (by rw [sz_iterAt]; omega))
      clear hbw hit hn
      -- the sign is asked of whatever stands there but for a broken byte
      have fin : ∀ b : Bool, Hid (b = signB R) → Hid (¬ (R = 65533 ∧ M = 1)) → Hid (stepN s i = if b = true then M else 0) := by
        intro b hb hno
        show stepN s i = _
        rw [HST.out, hb.out]
        have : (R == 65533 && M == 1) = false := by
          rw [Bool.eq_false_iff]; simpa using hno.out
        rw [this]
        cases signB R <;> rfl
      by_cases hr : R = 65533 ∧ M = 1
      · obtain ⟨rfl, rfl⟩ := hr
        go_wp2_with fail
        go_ret
        refine ⟨ret_int ?_, hbel1⟩
        rw [hbad.out, HB1.out, if_pos (HST.out.trans (by simp))]
      · have HR := Lib.hid hr
        by_cases h1 : R = 65533
        · subst h1
          have e1 : ((M : Int) == 1) = false := by simp; omega
          clear hr
          go_wp2_with fail
          refine (sign_any 65533 _ (by omega)).mono ?_
          rintro e w2 ⟨rfl, rfl⟩
          have H0 := fin true rfl HR
          go_wp2_with fail
          go_roundg g
          case measure => omega
          case rel => exact ⟨i + M, by omega, by rw [hbad.out, HB1.out, if_neg (by rw [H0.out]; simp; omega), H0.out]; rfl, hit1, by omega, hbel1⟩
        · have e1 : ((R : Int) == 65533) = false := by simp; omega
          clear hr h1
          go_wp2_with fail
          refine (sign_any R _ hR).mono ?_
          rintro e w2 ⟨rfl, rfl⟩
          cases hsg : signB R
          · have H0 := fin false hsg.symm HR
            clear hsg
            go_wp2_with fail
            go_ret
            refine ⟨ret_int ?_, hbel1⟩
            rw [hbad.out, HB1.out, if_pos (show stepN s i = 0 by rw [H0.out]; rfl)]
          · have H0 := fin true hsg.symm HR
            clear hsg
            go_wp2_with fail
            go_roundg g
            case measure => omega
            case rel => exact ⟨i + M, by omega, by rw [hbad.out, HB1.out, if_neg (by rw [H0.out]; simp; omega), H0.out]; rfl, hit1, by omega, hbel1⟩
    · have hn := fun ty => Lib.run_next_end_at (P := Tryd.prog) wr w.heap.size s i ty hit h
      go_wp2_with fail
      go_ret
      refine ⟨ret_int ?_, hbel⟩
      rw [hbad.out]
      cases gk with
      | zero => rfl
      | succ g => show _ = (if i < s.size then _ else _); rw [if_neg h]

set_option maxHeartbeats 400000 in
theorem good_any (s : ByteArray) (w : World) (hs : s.size ≤ 9223372036854775807) (hE : Env w) :
    Calls Tryd.prog 46 #[.string s] w fun e w' => e = .returned (.bool (goodB s)) ∧ Below w.heap.size w w' := by
  have HG := Lib.hid (goodFrom_bad_iff s s.size 0)
  go_enter Tryd.func46, Tryd.ntmps46
  go_wp2_with fail
  refine (bad_any s _ hs hE).mono ?_
  rintro e w1 ⟨rfl, hb1⟩
  generalize badFrom s s.size 0 = r at *
  go_wp2_with fail
  go_ret
  exact ⟨ret_bool HG.out.symm, hb1⟩
end Go.Proofs.YtfhmjkdpohepaaaDoor

/- The signs as the reference looks at them: soffitref04.good, walked. -/
set_option linter.unusedSimpArgs false
set_option linter.unusedVariables false
namespace Go.Proofs.YtfhmjkdpohepaaaDoor
open Go.RowKit

theorem byteAt_get (s : ByteArray) (i : Nat) (h : i < s.size) : byteAt s i = (s[i]'h).toNat := by
  unfold byteAt
  show (s.data[i]!).toNat = _
  rw [getElem!_pos s.data i h]
  rfl

set_option maxRecDepth 100000 in
set_option maxHeartbeats 800000 in
theorem refGood_any (s : ByteArray) (w : World) (hs : s.size ≤ 1099511627776) :
    Calls Tryd.prog 39 #[.string s] w fun e w' => e = .returned (.bool (goodB s)) ∧ w = w' := by
  go_enter Tryd.func39, Tryd.ntmps39
  go_wp2_with fail
  go_loopg [3] s.size (fun k at_ wr => ∃ i : Nat, s.size - i ≤ k ∧ Hid (goodB s = goodFrom s k i) ∧ at_ = .int .i64 i ∧ w = wr)
  case atStart => exact ⟨0, by omega, rfl, rfl, rfl⟩
  case round =>
    obtain ⟨i, hik, hgood, rfl, rfl⟩ := hrel
    by_cases h : i < s.size
    · have hbt := byteAt_get s i h
      have hb256 := byteAt_lt s i
      obtain ⟨b, hb⟩ : ∃ b, byteAt s i = b := ⟨_, rfl⟩
      rw [hb] at hbt hb256
      have hbi : ((s[i]'h).toNat : Int) = (b : Int) := by rw [hbt]
      have HB := Lib.hid hb
      clear hb hbt
      have hz : stepN s i = 0 → goodB s = false := fun h0 => by rw [hgood.out]; exact goodFrom_bad s gk i h hik h0
      have HZ := Lib.hid hz
      clear hz
      go_upto_block 2 with fail
      go_cut [5, 6, 7] (fun n r le wc => 1 ≤ refLen b ∧ refLen b ≤ 4 ∧ n = .int .i64 (refLen b) ∧ r = .int .i64 (refHead b) ∧ le = .int .i64 (refLeast b) ∧ w = wc)
      case first =>
        by_cases c1 : b < 128
        ·
          have e1 : refLen b = 1 := by simp [refLen, *]
          have e2 : refHead b = b := by simp [refHead, *]
          have e3 : refLeast b = 0 := by simp [refLeast, *]
          have E := Lib.hid (And.intro e1 (And.intro e2 e3))
          clear e1 e2 e3
          skip
          go_wp2_with fail
          go_meet
          case rel => obtain ⟨e1, e2, e3⟩ := E.out; exact ⟨by omega, by omega, by rw [e1]; rfl, by first | (rw [e2]; done) | (rw [e2]; go_num), by rw [e3]; rfl, rfl⟩
        · by_cases c2 : 192 ≤ b ∧ b < 224
          ·
            have e1 : refLen b = 2 := by simp [refLen, *]
            have e2 : refHead b = b - 192 := by simp [refHead, *]
            have e3 : refLeast b = 128 := by simp [refLeast, *]
            have E := Lib.hid (And.intro e1 (And.intro e2 e3))
            clear e1 e2 e3
            obtain ⟨c2, c3⟩ := c2
            go_wp2_with fail
            go_meet
            case rel => obtain ⟨e1, e2, e3⟩ := E.out; exact ⟨by omega, by omega, by rw [e1]; rfl, by first | (rw [e2]; done) | (rw [e2]; go_num), by rw [e3]; rfl, rfl⟩
          · by_cases c3 : 224 ≤ b ∧ b < 240
            ·
              have e1 : refLen b = 3 := by simp [refLen, *]
              have e2 : refHead b = b - 224 := by simp [refHead, *]
              have e3 : refLeast b = 2048 := by simp [refLeast, *]
              have E := Lib.hid (And.intro e1 (And.intro e2 e3))
              clear e1 e2 e3
              obtain ⟨c4, c5⟩ := c3
              go_wp2_with fail
              go_meet
              case rel => obtain ⟨e1, e2, e3⟩ := E.out; exact ⟨by omega, by omega, by rw [e1]; rfl, by first | (rw [e2]; done) | (rw [e2]; go_num), by rw [e3]; rfl, rfl⟩
            · by_cases c4 : 240 ≤ b ∧ b < 248
              ·
                have e1 : refLen b = 4 := by simp [refLen, *]
                have e2 : refHead b = b - 240 := by simp [refHead, *]
                have e3 : refLeast b = 65536 := by simp [refLeast, *]
                have E := Lib.hid (And.intro e1 (And.intro e2 e3))
                clear e1 e2 e3
                obtain ⟨c5, c6⟩ := c4
                go_wp2_with fail
                go_meet
                case rel => obtain ⟨e1, e2, e3⟩ := E.out; exact ⟨by omega, by omega, by rw [e1]; rfl, by first | (rw [e2]; done) | (rw [e2]; go_num), by rw [e3]; rfl, rfl⟩
              · have hl : refLen b = 0 := by simp [refLen, *]
                have H0 := Lib.hid (HZ.out (stepN_no s i (by rw [HB.out]; exact hl)))
                clear hl
                have c5 : 128 ≤ b := by omega
                go_wp2_with fail
                all_goals go_ret
                all_goals exact ⟨ret_bool H0.out.symm, rfl⟩
      case rest =>
        obtain ⟨hL1, hL4, rfl, rfl, rfl, rfl⟩ := hcut
        obtain ⟨L, hL⟩ : ∃ L, refLen b = L := ⟨_, rfl⟩
        obtain ⟨le, hle⟩ : ∃ le, refLeast b = le := ⟨_, rfl⟩
        have hl2 : le ≤ 65536 := by rw [← hle]; unfold refLeast; repeat' split
                                    all_goals omega
        have hr0 : refRune s i 0 = refHead b := by rw [← HB.out]; rfl
        rw [← hr0]
        rw [hL] at hL1 hL4
        rw [hL, hle]
        have HL : Hid (refLen (byteAt s i) = L) := by rw [HB.out]; exact hL
        have HLE : Hid (refLeast (byteAt s i) = le) := by rw [HB.out]; exact hle
        clear hr0 hL hle
        obtain ⟨ko, rfl⟩ : ∃ ko : Nat, ko = gk := ⟨_, rfl⟩
        go_wp2_with fail
        go_loopg [6, 8] L (fun k r jv wr => ∃ j : Nat, 1 ≤ j ∧ j ≤ L ∧ L - j ≤ k ∧ Hid (contsB s i (j - 1) = true) ∧ r = .int .i64 (refRune s i (j - 1)) ∧ jv = .int .i64 j ∧ w = wr)
        case atStart => exact ⟨1, by omega, by omega, by omega, rfl, rfl, rfl, rfl⟩
        case round =>
          obtain ⟨j, hj1, hjL, hjk, hcont, rfl, rfl, rfl⟩ := hrel
          have hrl := refRune_lt3 s i (j - 1) (by omega)
          by_cases hjl : j < L
          · have hz : contB s (i + j) = false → goodB s = false := fun h0 => HZ.out (stepN_conts s i (contsB_false s i j hj1 h0 _ (by rw [HL.out]; omega)))
            by_cases hin : i + j < s.size
            · have hbt := byteAt_get s (i + j) hin
              have hc256 := byteAt_lt s (i + j)
              have hcb : contB s (i + j) = (decide (128 ≤ byteAt s (i + j)) && decide (byteAt s (i + j) < 192)) := by unfold contB; simp [hin]
              have hsucc := refRune_succ s i (j - 1)
              have hcs := contsB_succ s i (j - 1) hcont.out
              rw [show j - 1 + 1 = j by omega] at hsucc hcs
              rw [hcb] at hz hcs
              have hrs := refRune_lt3 s i j (by omega)
              obtain ⟨c, hc⟩ : ∃ c, byteAt s (i + j) = c := ⟨_, rfl⟩
              rw [hc] at hbt hc256 hz hsucc hcs
              have hci : ((s[i + j]'hin).toNat : Int) = (c : Int) := by rw [hbt]
              clear hbt hcb hc
              obtain ⟨r, hr⟩ : ∃ r, refRune s i (j - 1) = r := ⟨_, rfl⟩
              obtain ⟨r', hr'⟩ : ∃ r, refRune s i j = r := ⟨_, rfl⟩
              rw [hr, hr'] at hsucc
              rw [hr'] at hrs
              rw [hr] at hrl ⊢
              have HR' := Lib.hid hr'
              have HS := Lib.hid hsucc
              have HZ2 := Lib.hid hz
              have HCS := Lib.hid hcs
              clear hr hr' hz hcs hsucc
              by_cases k1 : c < 128
              · have H0 : Hid (goodB s = false) := HZ2.out (by simp; omega)
                go_wp2_with fail
                go_ret
                exact ⟨ret_bool H0.out.symm, rfl⟩
              · by_cases k2 : c < 192
                · have H0 : Hid (contsB s i j = true) := HCS.out (by simp; omega)
                  have hrb : r * 64 + (c - 128) ≤ 1811939328 := by have := HS.out; omega
                  go_wp2_with fail
                  go_roundg (gk - 1)
                  case measure => omega
                  case rel =>
                    refine ⟨j + 1, by omega, by omega, by omega, H0, ?_, by go_num, rfl⟩
                    show _ = Value.int .i64 ((refRune s i (j + 1 - 1) : Nat) : Int)
                    rw [show j + 1 - 1 = j by omega, HR'.out, HS.out]
                    go_num
                · have H0 : Hid (goodB s = false) := HZ2.out (by simp; omega)
                  go_wp2_with fail
                  all_goals go_ret
                  all_goals exact ⟨ret_bool H0.out.symm, rfl⟩
            · have H0 : Hid (goodB s = false) := hz (by unfold contB; simp [hin])
              go_wp2_with fail
              go_ret
              exact ⟨ret_bool H0.out.symm, rfl⟩
          · obtain rfl : j = L := by omega
            have hlow := fun hh => HZ.out (stepN_low s i hh)
            have hyes := stepN_yes s i (by rw [HL.out]; exact hj1) (by rw [HL.out]; exact hcont.out)
            have hstep := fun h0 => goodFrom_step s ko i h hik h0
            rw [HL.out, HLE.out] at hlow hyes
            obtain ⟨r, hr⟩ : ∃ r, refRune s i (j - 1) = r := ⟨_, rfl⟩
            rw [hr] at hlow hyes hrl ⊢
            have HLOW := Lib.hid hlow
            have HYES := Lib.hid hyes
            have HSTEP := Lib.hid hstep
            clear hlow hyes hstep hr
            by_cases hle : r < le
            · have H0 : Hid (goodB s = false) := HLOW.out (.inl hle)
              go_wp2_with fail
              go_ret
              exact ⟨ret_bool H0.out.symm, rfl⟩
            · cases hsg : signB r
              · have H0 : Hid (goodB s = false) := HLOW.out (.inr hsg)
                have hsf : ¬ (r = 9 ∨ r = 10 ∨ r = 13 ∨ (32 ≤ r ∧ r ≤ 55295) ∨ (57344 ≤ r ∧ r ≤ 65533) ∨ (65536 ≤ r ∧ r ≤ 1114111)) := by
                  intro hc; rw [show signB r = true by simp [signB]; omega] at hsg; cases hsg
                clear hsg
                go_wp2_with fail
                all_goals first | (go_ret; exact ⟨ret_bool H0.out.symm, rfl⟩) | (exfalso; (try simp only [Bool.not_eq_false', Bool.not_eq_true', decide_eq_true_eq, decide_eq_false_iff_not] at *); omega)
              · have H1 := Lib.hid (HYES.out hle hsg)
                have hst : (r = 9 ∨ r = 10 ∨ r = 13 ∨ (32 ≤ r ∧ r ≤ 55295) ∨ (57344 ≤ r ∧ r ≤ 65533) ∨ (65536 ≤ r ∧ r ≤ 1114111)) := by
                  simp [signB] at hsg; omega
                clear hsg
                have hne : stepN s i ≠ 0 := by rw [H1.out]; omega
                obtain ⟨g, hg0, hg1, hg2⟩ := HSTEP.out hne
                rw [H1.out] at hg1 hg2
                have HG2 := Lib.hid hg2
                clear hg2 hne
                go_wp2_with fail
                all_goals first
                  | (exfalso; (try simp only [Bool.not_eq_false', Bool.not_eq_true', decide_eq_true_eq, decide_eq_false_iff_not] at *); omega)
                  | (go_roundg g
                     case measure => exact hg0
                     case rel => exact ⟨i + j, hg1, hgood.out.trans HG2.out, by go_num, rfl⟩)
    · go_wp2_with fail
      go_ret
      exact ⟨ret_bool (by rw [hgood.out, goodFrom_out s gk i h]), rfl⟩
end Go.Proofs.YtfhmjkdpohepaaaDoor
