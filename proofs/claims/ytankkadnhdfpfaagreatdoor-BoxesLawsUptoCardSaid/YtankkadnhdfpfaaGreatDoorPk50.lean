import Derived.Test.YtankkadnhdfpfaaGreatDoorPk30
import Derived.Test.YtankkadnhdfpfaaGreatDoorPk01
/- soffitlaw16.few: walked. -/
set_option linter.unusedSimpArgs false
set_option linter.unusedVariables false
namespace Go.Proofs.YtankkadnhdfpfaaGreatDoor
open Go.RowKit Sp Wd

theorem BoxesAt.take_ {w : World} {A : Option Addr} {l : List BxArg} (h : BoxesAt w A l) (n : Nat) : BoxesAt w A (l.take n) :=
  ⟨h.rd.takeA n, fun x hx => h.bx x (List.mem_of_mem_take hx), by have := h.n; rw [List.length_take]; omega⟩
set_option maxHeartbeats 800000 in
theorem few_any (bs : List BxArg) (B : Option Addr) (cb : Nat) (w : World) (hB : BoxesAt w B bs) (hc : bs.length ≤ cb) :
    Calls Tryz.prog 22 #[.slice B bs.length cb] w fun e w' => e = .returned (.slice B (bs.take 12).length cb) ∧ Below w.heap.size w w' := by
  obtain ⟨m, hm⟩ : ∃ m, bs.length = m := ⟨_, rfl⟩
  have HM := Lib.hid hm
  have m63 : m ≤ 9223372036854775807 := by rw [← hm]; exact hB.n
  rw [hm] at hc ⊢
  by_cases h12 : 12 < m
  · have hlt : (bs.take 12).length = 12 := by rw [List.length_take, HM.out]; omega
    rw [hlt]
    obtain ⟨b0, o0, hB0, -⟩ := hB.rd.at_ (show 0 < bs.length by omega)
    have i1 : (12 : Int) < (m : Int) := by omega
    have i2 : (12 : Int) ≤ (cb : Int) := by omega
    subst hB0
    clear hm hB h12 hlt
    go_enter Tryz.func22, Tryz.ntmps22
    go_wp2_with fail
    go_ret
    exact ⟨rfl, bel⟩
  · have hlt : (bs.take 12).length = m := by rw [List.length_take, HM.out]; omega
    rw [hlt]
    have i1 : ¬ (12 : Int) < (m : Int) := by omega
    clear hm hB h12 hlt hc
    go_enter Tryz.func22, Tryz.ntmps22
    go_wp2_with fail
    go_ret
    exact ⟨rfl, bel⟩
end Go.Proofs.YtankkadnhdfpfaaGreatDoor
