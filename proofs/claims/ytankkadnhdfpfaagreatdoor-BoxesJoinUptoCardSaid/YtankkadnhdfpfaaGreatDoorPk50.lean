import Derived.Test.YtankkadnhdfpfaaGreatDoorPk28
import Derived.Test.YtankkadnhdfpfaaGreatDoorPk13
import Derived.Test.YtankkadnhdfpfaaGreatDoorPk16
import Derived.Test.YtankkadnhdfpfaaGreatDoorPk24
import Derived.Test.YtankkadnhdfpfaaGreatDoorPk01
import Derived.Test.YtankkadnhdfpfaaGreatDoorPk41
/- soffitref15.Tidy, Zero: walked. -/
set_option linter.unusedSimpArgs false
set_option linter.unusedVariables false
namespace Go.Proofs.YtankkadnhdfpfaaGreatDoor
open Go.RowKit Sp Wd

set_option maxRecDepth 100000 in
set_option maxHeartbeats 1600000 in
theorem rZero_any (w : World) : Calls Tryz.prog 38 #[.agg #[.int .i64 0, .slice none 0 0, .bool false, .slice none 0 0, .int .i64 0, .bool false]] w fun e w' => e = .returned (.bool true) ∧ Below w.heap.size w w' := by
  go_enter Tryz.func38, Tryz.ntmps38
  go_wp2_with fail
  go_ret
  exact ⟨rfl, bel⟩
set_option maxRecDepth 100000 in
set_option maxHeartbeats 6400000 in
theorem rTidy_any (s : St) (g : Sg) (N : Nat) (A B : Option Addr) (ca cb : Nat) (w : World) (hS : StAt w s A B) (is : Is g s) (hk : 1 ≤ g.k ∧ g.k ≤ 4) (os : StOk N s) (hN : N ≤ 8000000000000) :
    Calls Tryz.prog 40 #[.agg #[.int .i64 s.k, .slice A s.sp.length ca, .bool s.al, .slice B s.ws.length cb, .int .i64 s.b, .bool s.nul]] w fun e w' => e = .returned (.bool true) ∧ Below w.heap.size w w' := by
  have c1 : Hid (∀ W, Below w.heap.size w W → Calls Tryz.prog 76 #[.slice A s.sp.length ca] W fun e w' => e = .returned (.bool true) ∧ Below W.heap.size W w') := Lib.hid (fun W hW => refOrdered_any s.sp is.ord is.wf A ca W (hS.sp.below hW) (by have := os.ls; omega))
  have c2 : Hid (∀ W, Below w.heap.size w W → Calls Tryz.prog 77 #[.slice B s.ws.length cb] W fun e w' => e = .returned (.bool true) ∧ Below W.heap.size W w') := Lib.hid (fun W hW => rising_any B s.ws cb W (hS.ws.below hW) (by have := os.lw; omega) is.rise is.txt)
  have kinds := is_kinds is hk
  clear hS is os hk hN
  rcases kinds with ⟨h1 | h1, h2, h3, h4⟩ | ⟨h1, h2, h3⟩ | ⟨h1, h2, h3, h4, h5 | h5 | h5 | h5⟩
  · rw [h3] at c2 ⊢
    rw [h1, h2, h4]
    clear h1 h2 h3 h4
    go_enter Tryz.func40, Tryz.ntmps40
    go_wp2_with fail
    refine (c1.out _ bel).mono ?_
    rintro e w1 ⟨rfl, hb1⟩
    have hz1 := hb1.size
    try simp at hz1
    obtain ⟨q1_0, l1_0, r1_0⟩ := aft hb1 (w.heap.size)
    go_wp2_with fail
    refine (c2.out _ bel).mono ?_
    rintro e w2 ⟨rfl, hb2⟩
    go_wp2_with fail
    go_ret
    exact ⟨rfl, bel⟩
  · rw [h3] at c2 ⊢
    rw [h1, h2, h4]
    clear h1 h2 h3 h4
    go_enter Tryz.func40, Tryz.ntmps40
    go_wp2_with fail
    refine (c1.out _ bel).mono ?_
    rintro e w1 ⟨rfl, hb1⟩
    have hz1 := hb1.size
    try simp at hz1
    obtain ⟨q1_0, l1_0, r1_0⟩ := aft hb1 (w.heap.size)
    go_wp2_with fail
    refine (c2.out _ bel).mono ?_
    rintro e w2 ⟨rfl, hb2⟩
    go_wp2_with fail
    go_ret
    exact ⟨rfl, bel⟩
  · rw [h2] at c1 ⊢
    rw [h1, h3]
    clear h1 h2 h3
    go_enter Tryz.func40, Tryz.ntmps40
    go_wp2_with fail
    refine (c1.out _ bel).mono ?_
    rintro e w1 ⟨rfl, hb1⟩
    have hz1 := hb1.size
    try simp at hz1
    obtain ⟨q1_0, l1_0, r1_0⟩ := aft hb1 (w.heap.size)
    go_wp2_with fail
    refine (c2.out _ bel).mono ?_
    rintro e w2 ⟨rfl, hb2⟩
    go_wp2_with fail
    go_ret
    exact ⟨rfl, bel⟩
  all_goals
    rw [h2] at c1 ⊢
    rw [h4] at c2 ⊢
    rw [h1, h3, h5]
    clear h1 h2 h3 h4 h5
    go_enter Tryz.func40, Tryz.ntmps40
    go_wp2_with fail
    refine (c1.out _ bel).mono ?_
    rintro e w1 ⟨rfl, hb1⟩
    have hz1 := hb1.size
    try simp at hz1
    obtain ⟨q1_0, l1_0, r1_0⟩ := aft hb1 (w.heap.size)
    go_wp2_with fail
    refine (c2.out _ bel).mono ?_
    rintro e w2 ⟨rfl, hb2⟩
    go_wp2_with fail
    go_ret
    exact ⟨rfl, bel⟩
end Go.Proofs.YtankkadnhdfpfaaGreatDoor

/- soffitlaw16.clean at boxes that were met: walked. -/
set_option linter.unusedSimpArgs false
set_option linter.unusedVariables false
namespace Go.Proofs.YtankkadnhdfpfaaGreatDoor
open Go.RowKit Sp Wd

set_option maxRecDepth 100000 in
set_option maxHeartbeats 6400000 in
theorem clean_yes (bs : List BxArg) (B : Option Addr) (cb : Nat) (w : World) (hB : BoxesAt w B bs) (hG : ∀ x ∈ bs, GoodBx x) (hne : ∀ x ∈ bs, emptyK (keyOf x.l) = false) (hE : Env w) :
    Calls Tryz.prog 33 #[.slice B bs.length cb] w fun e w' => e = .returned (.bool true) ∧ Below w.heap.size w w' := by
  have HB := Lib.hid hB
  have HG := Lib.hid hG
  have HNE := Lib.hid hne
  have HE := Lib.hid hE
  obtain ⟨m, hm⟩ : ∃ m, bs.length = m := ⟨_, rfl⟩
  have HM := Lib.hid hm
  have m63 : m ≤ 9223372036854775807 := by rw [← hm]; exact hB.n
  rw [hm]
  clear hB hG hne hE hm
  go_enter Tryz.func33, Tryz.ntmps33
  go_wp2_with fail
  go_loopg [3] m (fun k iv wr => ∃ i : Nat, i ≤ m ∧ m - i ≤ k ∧ iv = .int .i64 i ∧ Below w.heap.size w wr)
  case atStart => exact ⟨0, by omega, by omega, rfl, Below.refl _ _⟩
  case round =>
    obtain ⟨i, hi, hik, rfl, hbel⟩ := hrel
    by_cases hlt : i < m
    · have i1 : (i : Int) < (m : Int) := by omega
      have i3 : (0 : Int) ≤ (i : Int) := by omega
      have hil : i < bs.length := by rw [HM.out]; exact hlt
      obtain ⟨b, off, hAe, hx⟩ := (HB.out.rd.below hbel).at_ hil
      have hbx := (HB.out.bx _ (List.getElem_mem hil)).below hbel
      have hgx := HG.out _ (List.getElem_mem hil)
      have hnx := HNE.out _ (List.getElem_mem hil)
      have hmm := HM.out
      generalize bs[i]'hil = x at *
      subst hAe
      have hx0 : wr.cell? ⟨b, off + i, none⟩ = some (.slice x.A x.l.length x.c) := by have := hx.get 0 (v := .slice x.A x.l.length x.c) rfl; simpa using this
      rw [emptyK_key] at hnx
      have HEMP := Lib.hid (bxEmpty_any x.l x.A x.c wr hbx 2097200 (fun s hs => (hgx.2 s hs).1) (by omega) (HE.out.below hbel))
      rw [hnx] at HEMP
      have HX := Lib.hid hbx
      have HGX := Lib.hid hgx
      obtain ⟨p, hp⟩ : ∃ p, x.l.length = p := ⟨_, rfl⟩
      have HP := Lib.hid hp
      have p63 : p ≤ 9223372036854775807 := by rw [← hp]; exact hbx.n
      rw [hp] at hx0 HEMP
      have hlb := cell_lt hx0
      clear hx hil hbx hgx hnx hmm hp
      go_wp2_with fail
      refine HEMP.out.mono ?_
      rintro e w1 ⟨rfl, hb1⟩
      have hx1 := cell_below hb1 hx0
      have hB1 : Below w.heap.size w w1 := hbel.trans (hb1.mono hbel.size)
      have HX1 := Lib.hid (HX.out.below hb1)
      clear hb1 hbel HX HEMP hx0 hlb
      go_wp2_with fail
      go_loopg [4] p (fun k kv wr => ∃ j : Nat, j ≤ p ∧ p - j ≤ k ∧ kv = .int .i64 j ∧ Below w1.heap.size w1 wr)
      case atStart => exact ⟨0, by omega, by omega, rfl, Below.refl _ _⟩
      case round =>
        obtain ⟨j, hj, hjk, rfl, hbj⟩ := hrel
        have hx2 := cell_below hbj hx1
        by_cases hltj : j < p
        · have i5 : (j : Int) < (p : Int) := by omega
          have i6 : (0 : Int) ≤ (j : Int) := by omega
          have hjl : j < x.l.length := by rw [HP.out]; exact hltj
          obtain ⟨b2, o2, hA2, hy⟩ := (HX1.out.rd.below hbj).at_ hjl
          have hst := (HX1.out.st _ (List.getElem_mem hjl)).below hbj
          have hgs := HGX.out.2 _ (List.getElem_mem hjl)
          have hpp := HP.out
          generalize x.l[j]'hjl = s at *
          rw [hA2] at hx2
          have s0 := (show wr.cell? ⟨b2, o2 + j * 6, none⟩ = some (.int .i64 s.s.k) from hy.get 0 rfl)
          have s1 := (show wr.cell? ⟨b2, o2 + j * 6 + 1, none⟩ = some (.slice s.A s.s.sp.length s.ca) from hy.get 1 rfl)
          have s2 := (show wr.cell? ⟨b2, o2 + j * 6 + 2, none⟩ = some (.bool s.s.al) from hy.get 2 rfl)
          have s3 := (show wr.cell? ⟨b2, o2 + j * 6 + 3, none⟩ = some (.slice s.B s.s.ws.length s.cb) from hy.get 3 rfl)
          have s4 := (show wr.cell? ⟨b2, o2 + j * 6 + 4, none⟩ = some (.int .i64 s.s.b) from hy.get 4 rfl)
          have s5 := (show wr.cell? ⟨b2, o2 + j * 6 + 5, none⟩ = some (.bool s.s.nul) from hy.get 5 rfl)
          obtain ⟨g1, g2, G, hG⟩ := hgs
          have hk4 : 1 ≤ G.k ∧ G.k ≤ 4 := by rw [← hG.k]; exact g2
          have HT := Lib.hid (rTidy_any s.s G 2097200 s.A s.B s.ca s.cb wr hst hG hk4 g1 (by omega))
          have HBJ := Lib.hid hbj
          clear hst hy hjl hpp hG hk4 g1 g2 hA2 hbj
          go_wp2_with fail
          refine HT.out.mono ?_
          rintro e w2 ⟨rfl, hb2⟩
          have hbn := HBJ.out.trans (hb2.mono HBJ.out.size)
          clear hb2 s0 s1 s2 s3 s4 s5 hx2
          go_wp2_with fail
          go_roundg (p - (j + 1))
          case measure => omega
          case rel => exact ⟨j + 1, by omega, Nat.le_refl _, by go_num, hbn⟩
        · have i5 : ¬ (j : Int) < (p : Int) := by omega
          have hbn := hB1.trans (hbj.mono hB1.size)
          clear hbj
          go_wp2_with fail
          go_roundg (m - (i + 1))
          case measure => omega
          case rel => exact ⟨i + 1, by omega, Nat.le_refl _, by go_num, hbn⟩
    · have i1 : ¬ (i : Int) < (m : Int) := by omega
      go_wp2_with fail
      go_ret
      exact ⟨rfl, hbel⟩
end Go.Proofs.YtankkadnhdfpfaaGreatDoor
