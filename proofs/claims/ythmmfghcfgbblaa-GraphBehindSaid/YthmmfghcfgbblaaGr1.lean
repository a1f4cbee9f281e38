/- find, Ints, small, walked. -/
import Derived.Test.YthmmfghcfgbblaaGr0
set_option linter.unusedSimpArgs false
set_option linter.unusedVariables false
namespace Go.Proofs.Ythmmfghcfgbblaa
open Go.RowKit Go.Sort Go.Lib

theorem rdT_at {w : World} {A : Option Addr} {l : List Tx} (hr : RdL w 1 A (l.map tC)) {j : Nat} (h : j < l.length) : ∃ b off, A = some ⟨b, off, none⟩ ∧ w.cell? ⟨b, off + j, none⟩ = some (encStr (l[j]'h)) := by
  obtain ⟨b, off, rfl, hx⟩ := hr.at_ h
  refine ⟨b, off, rfl, ?_⟩
  have := hx.get 0 (v := encStr (l[j]'h)) rfl
  simpa using this
set_option maxHeartbeats 800000 in
theorem find_any (A : Option Addr) (l : List Tx) (c : Nat) (s : Tx) (w : World) (hr : RdL w 1 A (l.map tC)) (hn : l.length ≤ 9223372036854775807) :
    Calls Try.prog 19 #[.slice A l.length c, encStr s] w fun e w' => e = .returned (.int .i64 (findV l s)) ∧ w' = w := by
  obtain ⟨R, hR⟩ : ∃ R, findV l s = R := ⟨_, rfl⟩
  rw [hR]
  have HR := Lib.hid hR
  have HD := Lib.hid hr
  clear hR hr
  go_enter Try.func19, Try.ntmps19
  go_wp2_with fail
  go_loopg [5] l.length (fun k iv wr => ∃ j : Nat, j ≤ l.length ∧ l.length - j ≤ k ∧ iv = .int .i64 j ∧ Hid (s ∉ l.take j) ∧ w = wr)
  case atStart => exact ⟨0, by omega, by omega, rfl, Lib.hid (by simp), rfl⟩
  case round =>
    obtain ⟨j, hj, hjk, rfl, HI, rfl⟩ := hrel
    by_cases hlt : j < l.length
    · obtain ⟨b, off, hbe, g0⟩ := rdT_at HD.out hlt
      subst hbe
      have i1 : (0 : Int) ≤ (j : Int) := by omega
      have i2 : (j : Int) < (l.length : Int) := by omega
      have htk : l.take (j + 1) = l.take j ++ [l[j]'hlt] := List.take_succ_eq_append_getElem hlt
      have hfnd : l[j]'hlt = s → R = (j : Int) := by
        intro e
        rw [← HR.out]
        have hm : s ∈ l := by rw [← e]; exact List.getElem_mem hlt
        unfold findV
        rw [if_pos hm]
        have h1 : ¬ l.idxOf s < j := fun h => HI.out (mem_take_of_idx hm h)
        have h2 : s ∈ l.take (j + 1) := by rw [htk, e]; simp
        have h3 := idx_lt_of_mem_take h2
        congr 1
        omega
      generalize l[j]'hlt = x at *
      cases hx : (x == s)
      · have hne : x ≠ s := by rw [beqT] at hx; simpa using hx
        have HJ : Hid (s ∉ l.take (j + 1)) := Lib.hid (by
          rw [htk, List.mem_append, List.mem_singleton]
          rintro (h | h)
          · exact HI.out h
          · exact hne h.symm)
        clear htk hfnd hne
        go_wp2_with fail
        go_roundg (l.length - (j + 1))
        case measure => omega
        case rel => exact ⟨j + 1, by omega, by omega, by go_num, HJ, rfl⟩
      · have he : x = s := by rw [beqT] at hx; simpa using hx
        have HF := Lib.hid (hfnd he)
        clear htk hfnd he
        go_wp2_with fail
        refine bodyPost_ret (v := .int .i64 j) (by simp [results, Try.results19, go_sem]) rfl ⟨by rw [HF.out], rfl⟩
    · have i2 : ¬ (j : Int) < (l.length : Int) := by omega
      have hn1 : R = -1 := by
        rw [← HR.out]
        unfold findV
        have := HI.out
        rw [List.take_of_length_le (by omega)] at this
        rw [if_neg this]
      have HF := Lib.hid hn1
      clear hn1
      go_wp2_with fail
      refine bodyPost_ret (v := .int .i64 (-1)) (by simp [results, Try.results19, go_sem]) rfl ⟨by rw [HF.out], rfl⟩
end Go.Proofs.Ythmmfghcfgbblaa
