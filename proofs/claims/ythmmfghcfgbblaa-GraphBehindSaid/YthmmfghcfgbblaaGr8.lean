/- small, walked. -/
import Derived.Test.YthmmfghcfgbblaaGr2
set_option linter.unusedSimpArgs false
set_option linter.unusedVariables false
namespace Go.Proofs.Ythmmfghcfgbblaa
open Go.RowKit Go.Sort Go.Lib

theorem small_yes {n : Nat} {xs : List TxAt} (h : smallB n xs = true) : n ≤ 60 ∧ xs.length ≤ 60 ∧ ∀ x ∈ xs, x.l.length ≤ 60 := by
  unfold smallB at h
  simp only [Bool.and_eq_true, decide_eq_true_eq, List.all_eq_true] at h
  exact ⟨h.1.1, h.1.2, h.2⟩
set_option maxRecDepth 100000 in
set_option maxHeartbeats 1600000 in
theorem small_any (A D : Option Addr) (n : Nat) (xs : List TxAt) (c cd : Nat) (w : World) (hD : RdL w 1 D (xs.map TxAt.cells)) (hx : ∀ x ∈ xs, x.l.length ≤ 9223372036854775807) :
    Calls Try.prog 7 #[.slice A n c, .slice D xs.length cd] w fun e w' => e = .returned (.bool (smallB n xs)) ∧ w' = w := by
  obtain ⟨R, hR⟩ : ∃ R, smallB n xs = R := ⟨_, rfl⟩
  rw [hR]
  have HR := Lib.hid hR
  have HD := Lib.hid hD
  have HX := Lib.hid hx
  clear hR hD hx
  by_cases h1 : n ≤ 60
  · by_cases h2 : xs.length ≤ 60
    · have i1 : ¬ (60 : Int) < (n : Int) := by omega
      have i2 : ¬ (60 : Int) < (xs.length : Int) := by omega
      go_enter Try.func7, Try.ntmps7
      go_wp2_with fail
      go_loopg [5] xs.length (fun k iv wr => ∃ j : Nat, j ≤ xs.length ∧ xs.length - j ≤ k ∧ iv = .int .i64 j ∧ Hid (∀ x ∈ xs.take j, x.l.length ≤ 60) ∧ w = wr)
      case atStart => exact ⟨0, by omega, by omega, rfl, Lib.hid (fun x hx => by simp at hx), rfl⟩
      case round =>
        clear i1 i2
        obtain ⟨j, hj, hjk, rfl, HI, rfl⟩ := hrel
        by_cases hlt : j < xs.length
        · obtain ⟨b, off, hbe, g0⟩ := rdA_at HD.out hlt
          subst hbe
          have i1 : (0 : Int) ≤ (j : Int) := by omega
          have i2 : (j : Int) < (xs.length : Int) := by omega
          have htk : xs.take (j + 1) = xs.take j ++ [xs[j]'hlt] := List.take_succ_eq_append_getElem hlt
          have hmem := List.getElem_mem hlt
          generalize xs[j]'hlt = x at *
          by_cases hl : x.l.length ≤ 60
          · have HJ : Hid (∀ x ∈ xs.take (j + 1), x.l.length ≤ 60) := Lib.hid (by
              rw [htk]
              intro y hy
              rcases List.mem_append.1 hy with h | h
              · exact HI.out y h
              · rw [List.mem_singleton.1 h]; exact hl)
            have i3 : ¬ (60 : Int) < (x.l.length : Int) := by omega
            clear htk hmem hl
            go_wp2_with fail
            go_roundg (xs.length - (j + 1))
            case measure => omega
            case rel => exact ⟨j + 1, by omega, by omega, by go_num, HJ, rfl⟩
          · have i3 : (60 : Int) < (x.l.length : Int) := by omega
            have hf : R = false := by
              rw [← HR.out]
              cases h : smallB n xs
              · rfl
              · exact absurd ((small_yes h).2.2 x hmem) hl
            have HF := Lib.hid hf
            clear htk hmem hl hf
            go_wp2_with fail
            go_ret
            exact ⟨ret_bool HF.out.symm, rfl⟩
        · have i2 : ¬ (j : Int) < (xs.length : Int) := by omega
          have ht : R = true := by
            rw [← HR.out]
            unfold smallB
            rw [decide_eq_true h1, decide_eq_true h2, Bool.true_and, Bool.true_and, List.all_eq_true]
            intro x hx
            exact decide_eq_true (HI.out x (by rw [List.take_of_length_le (by omega)]; exact hx))
          have HT := Lib.hid ht
          clear ht
          go_wp2_with fail
          go_ret
          exact ⟨ret_bool HT.out.symm, rfl⟩
    · have i1 : ¬ (60 : Int) < (n : Int) := by omega
      have i2 : (60 : Int) < (xs.length : Int) := by omega
      have hf : R = false := by rw [← HR.out]; unfold smallB; rw [decide_eq_false h2]; simp
      have HF := Lib.hid hf
      clear hf h2
      go_enter Try.func7, Try.ntmps7
      go_wp2_with fail
      go_ret
      exact ⟨ret_bool HF.out.symm, rfl⟩
  · have i1 : (60 : Int) < (n : Int) := by omega
    have hf : R = false := by rw [← HR.out]; unfold smallB; rw [decide_eq_false h1]; simp
    have HF := Lib.hid hf
    clear hf h1
    go_enter Try.func7, Try.ntmps7
    go_wp2_with fail
    go_ret
    exact ⟨ret_bool HF.out.symm, rfl⟩
end Go.Proofs.Ythmmfghcfgbblaa
