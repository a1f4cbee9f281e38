import Derived.Test.YtankkadnhdfpfaaGreatDoorPk27
import Derived.Test.YtankkadnhdfpfaaGreatDoorPk42
import Derived.Test.YtankkadnhdfpfaaGreatDoorPk15
import Derived.Test.YtankkadnhdfpfaaGreatDoorPk23
import Derived.Test.YtankkadnhdfpfaaGreatDoorPk01
/- soffitref15.Tidy, Zero: walked. -/
set_option linter.unusedSimpArgs false
set_option linter.unusedVariables false
namespace Go.Proofs.YtankkadnhdfpfaaGreatDoor
open Go.RowKit Sp Wd

set_option maxRecDepth 100000 in
set_option maxHeartbeats 1600000 in
theorem rZero_any (w : World) : Calls Tryz.prog 38 #[.agg #[.int .i64 0, .slice none 0 0, .bool false, .slice none 0 0, .int .i64 0, .bool false]] w fun e w' => e = .returned (.bool true) ∧ Below w.heap.size w w' := by
  go_enter Tryz.func38, Tryz.ntmps38
  go_wp2_with fail
  go_ret
  exact ⟨rfl, bel⟩
set_option maxRecDepth 100000 in
set_option maxHeartbeats 6400000 in
theorem rTidy_any (s : St) (g : Sg) (N : Nat) (A B : Option Addr) (ca cb : Nat) (w : World) (hS : StAt w s A B) (is : Is g s) (hk : 1 ≤ g.k ∧ g.k ≤ 4) (os : StOk N s) (hN : N ≤ 8000000000000) :
    Calls Tryz.prog 40 #[.agg #[.int .i64 s.k, .slice A s.sp.length ca, .bool s.al, .slice B s.ws.length cb, .int .i64 s.b, .bool s.nul]] w fun e w' => e = .returned (.bool true) ∧ Below w.heap.size w w' := by
  have c1 : Hid (∀ W, Below w.heap.size w W → Calls Tryz.prog 76 #[.slice A s.sp.length ca] W fun e w' => e = .returned (.bool true) ∧ Below W.heap.size W w') := Lib.hid (fun W hW => refOrdered_any s.sp is.ord is.wf A ca W (hS.sp.below hW) (by have := os.ls; omega))
  have c2 : Hid (∀ W, Below w.heap.size w W → Calls Tryz.prog 77 #[.slice B s.ws.length cb] W fun e w' => e = .returned (.bool true) ∧ Below W.heap.size W w') := Lib.hid (fun W hW => rising_any B s.ws cb W (hS.ws.below hW) (by have := os.lw; omega) is.rise is.txt)
  have kinds := is_kinds is hk
  clear hS is os hk hN
  rcases kinds with ⟨h1 | h1, h2, h3, h4⟩ | ⟨h1, h2, h3⟩ | ⟨h1, h2, h3, h4, h5 | h5 | h5 | h5⟩
  · rw [h3] at c2 ⊢
    rw [h1, h2, h4]
    clear h1 h2 h3 h4
    go_enter Tryz.func40, Tryz.ntmps40
    go_wp2_with fail
    refine (c1.out _ bel).mono ?_
    rintro e w1 ⟨rfl, hb1⟩
    have hz1 := hb1.size
    try simp at hz1
    obtain ⟨q1_0, l1_0, r1_0⟩ := aft hb1 (w.heap.size)
    go_wp2_with fail
    refine (c2.out _ bel).mono ?_
    rintro e w2 ⟨rfl, hb2⟩
    go_wp2_with fail
    go_ret
    exact ⟨rfl, bel⟩
  · rw [h3] at c2 ⊢
    rw [h1, h2, h4]
    clear h1 h2 h3 h4
    go_enter Tryz.func40, Tryz.ntmps40
    go_wp2_with fail
    refine (c1.out _ bel).mono ?_
    rintro e w1 ⟨rfl, hb1⟩
    have hz1 := hb1.size
    try simp at hz1
    obtain ⟨q1_0, l1_0, r1_0⟩ := aft hb1 (w.heap.size)
    go_wp2_with fail
    refine (c2.out _ bel).mono ?_
    rintro e w2 ⟨rfl, hb2⟩
    go_wp2_with fail
    go_ret
    exact ⟨rfl, bel⟩
  · rw [h2] at c1 ⊢
    rw [h1, h3]
    clear h1 h2 h3
    go_enter Tryz.func40, Tryz.ntmps40
    go_wp2_with fail
    refine (c1.out _ bel).mono ?_
    rintro e w1 ⟨rfl, hb1⟩
    have hz1 := hb1.size
    try simp at hz1
    obtain ⟨q1_0, l1_0, r1_0⟩ := aft hb1 (w.heap.size)
    go_wp2_with fail
    refine (c2.out _ bel).mono ?_
    rintro e w2 ⟨rfl, hb2⟩
    go_wp2_with fail
    go_ret
    exact ⟨rfl, bel⟩
  all_goals
    rw [h2] at c1 ⊢
    rw [h4] at c2 ⊢
    rw [h1, h3, h5]
    clear h1 h2 h3 h4 h5
    go_enter Tryz.func40, Tryz.ntmps40
    go_wp2_with fail
    refine (c1.out _ bel).mono ?_
    rintro e w1 ⟨rfl, hb1⟩
    have hz1 := hb1.size
    try simp at hz1
    obtain ⟨q1_0, l1_0, r1_0⟩ := aft hb1 (w.heap.size)
    go_wp2_with fail
    refine (c2.out _ bel).mono ?_
    rintro e w2 ⟨rfl, hb2⟩
    go_wp2_with fail
    go_ret
    exact ⟨rfl, bel⟩
end Go.Proofs.YtankkadnhdfpfaaGreatDoor
