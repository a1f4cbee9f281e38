/- The signs: soffit/chars, walked. -/
import Derived.Test.YthicilfhnakhmaaGreatDoorBase
import Derived.Test.YthicilfhnakhmaaGreatDoorUtf
import Derived.Test.YthicilfhnakhmaaGreatDoorShelf
set_option linter.unusedSimpArgs false
set_option linter.unusedVariables false
namespace Go.Proofs.YthicilfhnakhmaaGreatDoor
open Go.RowKit

set_option maxHeartbeats 400000 in
theorem sign_any (r : Nat) (w : World) (hr : r ≤ 2147483647) :
    Calls Tryz.prog 84 #[.int .i32 r] w fun e w' => e = .returned (.bool (signB r)) ∧ w = w' := by
  go_enter Tryz.func84, Tryz.ntmps84
  go_wp2_with fail
  all_goals go_ret
  all_goals refine ⟨ret_bool ?_, rfl⟩
  all_goals (rw [Bool.eq_iff_iff]; simp [signB]; omega)

/-- where the first sign stands that may not -/
def badFrom (s : ByteArray) : Nat → Nat → Int
  | 0, _ => -1
  | f + 1, i => if i < s.size then (if stepN s i = 0 then (i : Int) else badFrom s f (i + stepN s i)) else -1

theorem extract_go (s : ByteArray) (i : Nat) (h : i < s.size) : Lib.decodeGo (s.extract i s.size) = Utf8.decode s i := by
  unfold Lib.decodeGo
  rw [if_neg (by simp [ByteArray.size_extract]; omega), decode_extract]

theorem goodFrom_bad_iff (s : ByteArray) (f i : Nat) : goodFrom s f i = decide (badFrom s f i < 0) := by
  induction f generalizing i with
  | zero => rfl
  | succ f ih =>
    show (if i < s.size then (if stepN s i = 0 then false else _) else true) = decide ((if i < s.size then (if stepN s i = 0 then (i : Int) else _) else -1) < 0)
    by_cases h : i < s.size
    · rw [if_pos h, if_pos h]
      by_cases h0 : stepN s i = 0
      · rw [if_pos h0, if_pos h0]; simp
      · rw [if_neg h0, if_neg h0]; exact ih _
    · rw [if_neg h, if_neg h]; rfl

set_option maxHeartbeats 800000 in
theorem bad_any (s : ByteArray) (w : World) (hs : s.size ≤ 9223372036854775807) (hE : Env w) :
    Calls Tryz.prog 57 #[.string s] w fun e w' => e = .returned (.int .i64 (badFrom s s.size 0)) ∧ Below w.heap.size w w' := by
  go_enter Tryz.func57, Tryz.ntmps57
  go_wp2_with fail
  go_loopg [] s.size (fun k wr => ∃ i : Nat, s.size - i ≤ k ∧ Hid (badFrom s s.size 0 = badFrom s k i) ∧ wr.heap[w.heap.size]? = some (.stringIter s i) ∧ w.heap.size < wr.heap.size ∧ Below w.heap.size w wr)
  case atStart => exact ⟨0, by omega, rfl, World.iter_heap _ _ _, (by first | omega | (simp only [sz_alloc, sz_set, sz_drew, sz_drewN, sz_iterAt, sz_iter] at *; omega) | (simp; done) | (simp; omega) | (simp at *; omega)), (by repeat' (first | (with_reducible exact Below.refl _ _) | (with_reducible assumption) | (with_reducible refine Below.drew ?_) | (with_reducible refine below_drewN ?_ _) | (with_reducible refine below_iterAt ?_ ?_ _ _) | (with_reducible refine below_iter ?_ ?_ _ _) | (with_reducible refine Below.alloc ?_ ?_ _) | (with_reducible refine Below.setCell ?_ ?_ _) | (with_reducible refine Below.trans ?_ (Below.mono (by assumption) ?_)) | (simp only [sz_alloc, sz_set, sz_drew, sz_drewN, sz_iterAt, sz_iter] at *; omega) | omega | (simp; done) | (simp; omega) | (apply Below.size; assumption) | (simp only [sz_drew, sz_drewN]; apply Below.size; assumption) | (refine Nat.le_trans ?_ (Below.size (by assumption)))))⟩
  case round =>
    obtain ⟨i, hik, hbad, hit, hlt, hbel⟩ := hrel
    by_cases h : i < s.size
    · have hn := fun ty => Lib.run_next_any_at (P := Tryz.prog) wr w.heap.size s i ty hit h
      have hx := extract_go s i h
      have hR : (Utf8.decode s i).1 ≤ 2147483647 := decode_le s i
      have hM : 1 ≤ (Utf8.decode s i).2 := decode_pos s i
      have hst : stepN s i = if ((Utf8.decode s i).1 == 65533 && (Utf8.decode s i).2 == 1) || !signB (Utf8.decode s i).1 then 0 else (Utf8.decode s i).2 := rfl
      have hst2 : stepN s i ≠ 0 → stepN s i = (Utf8.decode s i).2 := by
        intro h0; rw [hst] at h0 ⊢; split at h0
        · exact absurd rfl h0
        · rename_i h1; rw [if_neg h1]
      obtain ⟨g, rfl⟩ : ∃ g, gk = g + 1 := ⟨gk - 1, by omega⟩
      have hb1 : badFrom s (g + 1) i = if stepN s i = 0 then (i : Int) else badFrom s g (i + stepN s i) := by
        show (if i < s.size then _ else _) = _
        rw [if_pos h]
      have HX := Lib.hid hx
      have HB1 := Lib.hid hb1
      have HST := Lib.hid hst
      have HST2 := Lib.hid hst2
      clear hx hb1 hst hst2
      generalize hd1 : (Utf8.decode s i).1 = R at *
      generalize hd2 : (Utf8.decode s i).2 = M at *
      have HD1 := Lib.hid hd1
      have HD2 := Lib.hid hd2
      clear hd1 hd2
      go_wp2_with fail
      have hE' : Env (wr.iterAt w.heap.size s (i + M)) := hE.below (by repeat' (first | (with_reducible exact Below.refl _ _) | (with_reducible assumption) | (with_reducible refine Below.drew ?_) | (with_reducible refine below_drewN ?_ _) | (with_reducible refine below_iterAt ?_ ?_ _ _) | (with_reducible refine below_iter ?_ ?_ _ _) | (with_reducible refine Below.alloc ?_ ?_ _) | (with_reducible refine Below.setCell ?_ ?_ _) | (with_reducible refine Below.trans ?_ (Below.mono (by assumption) ?_)) | (simp only [sz_alloc, sz_set, sz_drew, sz_drewN, sz_iterAt, sz_iter] at *; omega) | omega | (simp; done) | (simp; omega) | (apply Below.size; assumption) | (simp only [sz_drew, sz_drewN]; apply Below.size; assumption) | (refine Nat.le_trans ?_ (Below.size (by assumption)))))
      refine (Tryz.utf8_DecodeRuneInString _ _ hE'.tabs).mono ?_
      rintro e w1 ⟨rfl, hbw⟩
      rw [HX.out, HD1.out, HD2.out]
      have hz : wr.heap.size ≤ w1.heap.size := by have := hbw.size; rw [sz_iterAt] at this; exact this
      have hit1 : w1.heap[w.heap.size]? = some (.stringIter s (i + M)) := by
        rw [hbw.block _ (by rw [sz_iterAt]; exact hlt)]
        exact Lib.iterAt_heap wr w.heap.size s i (i + M) hit
      have hbel1 : Below w.heap.size w w1 := (below_iterAt hbel (Nat.le_refl _) s (i + M)).trans (hbw.mono (by rw [sz_iterAt]; omega))
      clear hbw hit hn
      -- the sign is asked of whatever stands there but for a broken byte
      have fin : ∀ b : Bool, Hid (b = signB R) → Hid (¬ (R = 65533 ∧ M = 1)) → Hid (stepN s i = if b = true then M else 0) := by
        intro b hb hno
        show stepN s i = _
        rw [HST.out, hb.out]
        have : (R == 65533 && M == 1) = false := by
          rw [Bool.eq_false_iff]; simpa using hno.out
        rw [this]
        cases signB R <;> rfl
      by_cases hr : R = 65533 ∧ M = 1
      · obtain ⟨rfl, rfl⟩ := hr
        go_wp2_with fail
        go_ret
        refine ⟨ret_int ?_, hbel1⟩
        rw [hbad.out, HB1.out, if_pos (HST.out.trans (by simp))]
      · have HR := Lib.hid hr
        by_cases h1 : R = 65533
        · subst h1
          have e1 : ((M : Int) == 1) = false := by simp; omega
          clear hr
          go_wp2_with fail
          refine (sign_any 65533 _ (by omega)).mono ?_
          rintro e w2 ⟨rfl, rfl⟩
          have H0 := fin true rfl HR
          go_wp2_with fail
          go_roundg g
          case measure => omega
          case rel => exact ⟨i + M, by omega, by rw [hbad.out, HB1.out, if_neg (by rw [H0.out]; simp; omega), H0.out]; rfl, hit1, by omega, hbel1⟩
        · have e1 : ((R : Int) == 65533) = false := by simp; omega
          clear hr h1
          go_wp2_with fail
          refine (sign_any R _ hR).mono ?_
          rintro e w2 ⟨rfl, rfl⟩
          cases hsg : signB R
          · have H0 := fin false hsg.symm HR
            clear hsg
            go_wp2_with fail
            go_ret
            refine ⟨ret_int ?_, hbel1⟩
            rw [hbad.out, HB1.out, if_pos (show stepN s i = 0 by rw [H0.out]; rfl)]
          · have H0 := fin true hsg.symm HR
            clear hsg
            go_wp2_with fail
            go_roundg g
            case measure => omega
            case rel => exact ⟨i + M, by omega, by rw [hbad.out, HB1.out, if_neg (by rw [H0.out]; simp; omega), H0.out]; rfl, hit1, by omega, hbel1⟩
    · have hn := fun ty => Lib.run_next_end_at (P := Tryz.prog) wr w.heap.size s i ty hit h
      go_wp2_with fail
      go_ret
      refine ⟨ret_int ?_, hbel⟩
      rw [hbad.out]
      cases gk with
      | zero => rfl
      | succ g => show _ = (if i < s.size then _ else _); rw [if_neg h]

set_option maxHeartbeats 400000 in
theorem good_any (s : ByteArray) (w : World) (hs : s.size ≤ 9223372036854775807) (hE : Env w) :
    Calls Tryz.prog 30 #[.string s] w fun e w' => e = .returned (.bool (goodB s)) ∧ Below w.heap.size w w' := by
  have HG := Lib.hid (goodFrom_bad_iff s s.size 0)
  go_enter Tryz.func30, Tryz.ntmps30
  go_wp2_with fail
  refine (bad_any s _ hs hE).mono ?_
  rintro e w1 ⟨rfl, hb1⟩
  generalize badFrom s s.size 0 = r at *
  go_wp2_with fail
  go_ret
  exact ⟨ret_bool HG.out.symm, hb1⟩
end Go.Proofs.YthicilfhnakhmaaGreatDoor
