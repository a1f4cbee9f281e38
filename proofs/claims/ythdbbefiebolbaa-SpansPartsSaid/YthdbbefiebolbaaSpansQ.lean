/- Spans: the reference's predicate leaves the world as it is. -/
import Derived.Test.YthdbbefiebolbaaSpans1
set_option linter.unusedSimpArgs false
set_option linter.unusedVariables false
namespace Go.Proofs.Ythdbbefiebolbaa
open Go.RowKit Go.Sort

set_option maxHeartbeats 800000 in
theorem refSpans_q (xs : List Sp) (n : Int) (A : Option Addr) (c : Nat) (w : World) (hr : RdL w 2 A (xs.map spC)) (hn : xs.length ≤ 9223372036854775807) :
    Calls Try.prog 13 #[.slice A xs.length c, .int .i64 n] w fun e w' => e = .returned (.bool (inS xs n)) ∧ w' = w := by
  obtain ⟨B, hB⟩ : ∃ B, inS xs n = B := ⟨_, rfl⟩
  rw [hB]
  have HB : Hid (B = inS (xs.drop 0) n) := hB.symm
  clear hB
  go_enter Try.func13, Try.ntmps13
  go_wp2_with fail
  go_loopg [5] xs.length (fun k i wr => ∃ j : Nat, j ≤ xs.length ∧ xs.length - j ≤ k ∧ Hid (B = inS (xs.drop j) n) ∧ i = .int .i64 j ∧ wr = w)
  case atStart => exact ⟨0, by omega, by omega, HB, rfl, rfl⟩
  case round =>
    obtain ⟨j, hj, hjk, hi, rfl, rfl⟩ := hrel
    by_cases hlt : j < xs.length
    · obtain ⟨b, off, rfl, hx⟩ := hr.at_ hlt
      have hst : inS (xs.drop j) n = (hasS (xs[j]'hlt) n || inS (xs.drop (j + 1)) n) := by rw [List.drop_eq_getElem_cons hlt]; rfl
      generalize xs[j]'hlt = y at *
      have g0 : wr.cell? ⟨b, off + j * 2, none⟩ = some (.int .i64 y.1) := hx.get 0 rfl
      have g1 : wr.cell? ⟨b, off + j * 2 + 1, none⟩ = some (.int .i64 y.2) := hx.get 1 rfl
      have HST := Lib.hid hst
      have i0 : (0 : Int) ≤ (j : Int) := by omega
      have i1 : (j : Int) < (xs.length : Int) := by omega
      clear hst hx
      by_cases h1 : y.1 ≤ n
      · by_cases h2 : n ≤ y.2
        · have HY : Hid (B = true) := by show B = _; rw [hi.out, HST.out]; simp [hasS, h1, h2]
          go_wp2_with fail
          go_ret
          exact ⟨ret_bool HY.out.symm, rfl⟩
        · have HY : Hid (B = inS (xs.drop (j + 1)) n) := by show B = _; rw [hi.out, HST.out]; simp [hasS, h1, h2]
          go_wp2_with fail
          go_roundg (xs.length - (j + 1))
          case measure => omega
          case rel => exact ⟨j + 1, by omega, by omega, HY, by go_num, rfl⟩
      · have HY : Hid (B = inS (xs.drop (j + 1)) n) := by show B = _; rw [hi.out, HST.out]; simp [hasS, h1]
        go_wp2_with fail
        go_roundg (xs.length - (j + 1))
        case measure => omega
        case rel => exact ⟨j + 1, by omega, by omega, HY, by go_num, rfl⟩
    · have HY : Hid (B = false) := by show B = _; rw [hi.out, List.drop_eq_nil_of_le (by omega)]; rfl
      have i1 : ¬ ((j : Int) < (xs.length : Int)) := by omega
      go_wp2_with fail
      go_ret
      exact ⟨ret_bool HY.out.symm, rfl⟩

theorem refSpans_v (xs : List Sp) (n : Int) (b : Bool) (A : Option Addr) (c : Nat) (w : World) (hb : inS xs n = b) (hr : RdL w 2 A (xs.map spC)) (hn : xs.length ≤ 9223372036854775807) :
    Calls Try.prog 13 #[.slice A xs.length c, .int .i64 n] w fun e w' => e = .returned (.bool b) ∧ w' = w := by
  rw [← hb]
  exact refSpans_q xs n A c w hr hn
end Go.Proofs.Ythdbbefiebolbaa
