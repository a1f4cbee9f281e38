import Derived.Test.YtfhmjkdpohepaaaDoorPk07
import Derived.Test.YtfhmjkdpohepaaaDoorPk08
import Derived.Test.YtfhmjkdpohepaaaDoorPk01
import Derived.Test.YtfhmjkdpohepaaaDoorPk05
/- soffit/policy.Outcome, walked: outputs that are no values. -/
set_option linter.unusedSimpArgs false
set_option linter.unusedVariables false
namespace Go.Proofs.YtfhmjkdpohepaaaDoor
open Go.RowKit

set_option maxRecDepth 100000 in
set_option maxHeartbeats 6400000 in
theorem outNo1 (os od : List Vl) (df : Vl) (fs : List Int) (A B F : Option Addr) (ca cb cf : Nat) (w : World) (hA : RdL w 5 A (os.map Vl.cells5)) (hB : RdL w 5 B (od.map Vl.cells5)) (hF : RdL w 1 F (fs.map intC)) (hos : ∀ v ∈ os, v.wf) (hod : ∀ v ∈ od, v.wf) (hdf : df.wf) (hfs : Rise os.length fs) (h16 : fs.length ≤ 1000000) (n1 : os.length ≤ 9223372036854775807) (n2 : od.length ≤ 9223372036854775807) (hE : Env w)
    (p : Int) (hk : knownB p = true) (s1 : allSnd os = false) :
    Calls Tryd.prog 9 #[.int .i64 p, .slice A os.length ca, .slice B od.length cb, .agg #[.int .i64 df.k, .int .i64 df.n, .int .i64 df.s, .string df.t, .int .i64 df.i], .slice F fs.length cf] w fun e w' =>
      e = .returned (.tuple #[.agg #[.int .i64 0, .int .i64 0, .int .i64 0, .string ⟨#[]⟩, .int .i64 0], .int .i64 2]) ∧ Below w.heap.size w w' := by
  go_enter Tryd.func9, Tryd.ntmps9
  go_wp2_with fail
  generalize hEW0 : (w.alloc _).alloc _ = W0
  have hbW0 : Below w.heap.size w W0 := (by rw [← hEW0]; exact bel)
  have lW0_0 : w.heap.size < W0.heap.size := lsz hEW0
  have qW0_0 : ∀ o, W0.cell? ⟨w.heap.size, o, none⟩ = _ := fun o => congrArg (fun W : World => W.cell? ⟨w.heap.size, o, none⟩) hEW0.symm
  have rW0_0 : ∀ o, W0.frozen? ⟨w.heap.size, o, none⟩ = _ := fun o => congrArg (fun W : World => W.frozen? ⟨w.heap.size, o, none⟩) hEW0.symm
  have lW0_1 : w.heap.size + 1 < W0.heap.size := lsz hEW0
  have qW0_1 : ∀ o, W0.cell? ⟨w.heap.size + 1, o, none⟩ = _ := fun o => congrArg (fun W : World => W.cell? ⟨w.heap.size + 1, o, none⟩) hEW0.symm
  have rW0_1 : ∀ o, W0.frozen? ⟨w.heap.size + 1, o, none⟩ = _ := fun o => congrArg (fun W : World => W.frozen? ⟨w.heap.size + 1, o, none⟩) hEW0.symm
  clear hEW0
  refine (known_any p _).mono ?_
  rintro e w1 ⟨rfl, hb1⟩
  rw [hk]
  clear hk
  have hz1 := hb1.size
  try simp at hz1
  obtain ⟨q1_0, l1_0, r1_0⟩ := aft hb1 (w.heap.size)
  obtain ⟨q1_1, l1_1, r1_1⟩ := aft hb1 (w.heap.size + 1)
  go_wp2_with fail
  have hw1 : Below w.heap.size w w1 := bel
  go_loopg [25] fs.length (fun k iv wr => ∃ j : Nat, j ≤ fs.length ∧ fs.length - j ≤ k ∧ iv = .int .i64 j ∧ Below w1.heap.size w1 wr)
  case atStart => exact ⟨0, by omega, by omega, rfl, Below.refl _ _⟩
  case round =>
    obtain ⟨j, hj, hjk, rfl, hbel⟩ := hrel
    have hsz := hbel.size
    have qa_0 := fun o => (hbel.cell (p := ⟨w.heap.size, o, none⟩) l1_0).trans (q1_0 o)
    have ra_0 := fun o => (hbel.frozen (p := ⟨w.heap.size, o, none⟩) l1_0).trans (r1_0 o)
    have la_0 : w.heap.size < wr.heap.size := by omega
    have qa_1 := fun o => (hbel.cell (p := ⟨w.heap.size + 1, o, none⟩) l1_1).trans (q1_1 o)
    have ra_1 := fun o => (hbel.frozen (p := ⟨w.heap.size + 1, o, none⟩) l1_1).trans (r1_1 o)
    have la_1 : w.heap.size + 1 < wr.heap.size := by omega
    by_cases hlt : j < fs.length
    · obtain ⟨b, off, rfl, hx⟩ := ((hF.below hw1).below hbel).at_ hlt
      have hx0 := hfs.lo _ (List.getElem_mem hlt)
      have hx1 := hfs.hi _ (List.getElem_mem hlt)
      have g0 : wr.cell? ⟨b, off + j, none⟩ = some (.int .i64 (fs[j]'hlt)) := by have := hx.get 0 rfl; simpa using this
      have i0 : (0 : Int) ≤ (j : Int) := by omega
      have i1 : (j : Int) < (fs.length : Int) := by omega
      rcases j with _ | i
      · generalize fs[0]'hlt = x at *
        have e1 : ¬ (x < 0) := by omega
        have e2 : ¬ ((os.length : Int) ≤ x) := by omega
        clear hx hx0 hx1
        try simp only [Int.natCast_zero, Nat.add_zero] at *
        go_wp2_with fail
        go_roundg (gk - 1)
        case measure => omega
        case rel => exact ⟨1, by omega, by omega, by go_num, bel⟩
      · have hy := hfs.up i hlt
        have g1 : wr.cell? ⟨b, off + i, none⟩ = some (.int .i64 (fs[i]'(by omega))) := by have := hF.below hw1; have := this.below hbel; have := (this.at_ (show i < fs.length by omega)); obtain ⟨b2, o2, e, hh⟩ := this; cases e; have := hh.get 0 rfl; simpa using this
        generalize fs[i + 1]'hlt = x at *
        generalize fs[i]'(Nat.lt_of_succ_lt hlt) = y at *
        have e1 : ¬ (x < 0) := by omega
        have e2 : ¬ ((os.length : Int) ≤ x) := by omega
        have e3 : ¬ (x ≤ y) := by omega
        have e4 : (0 : Int) < (i : Int) + 1 := by omega
        have e5 : (i : Int) < (fs.length : Int) := by omega
        have e6 : (0 : Int) ≤ (i : Int) := by omega
        clear hx hx0 hx1 hy
        try simp only [Int.natCast_add, Int.natCast_one] at *
        go_wp2_with fail
        go_roundg (gk - 1)
        case measure => omega
        case rel => exact ⟨i + 2, by omega, by omega, by go_num, bel⟩
    · clear hj hjk
      go_wp2_with fail
      refine (psound_any os A ca _ (hA.below bel) hos n1 (hE.below bel)).mono ?_
      rintro e w2 ⟨rfl, hb2⟩
      rw [s1]
      clear s1
      have hz2 := hb2.size
      try simp at hz2
      obtain ⟨q2_0, l2_0, r2_0⟩ := aft hb2 (w.heap.size)
      obtain ⟨q2_1, l2_1, r2_1⟩ := aft hb2 (w.heap.size + 1)
      go_wp2_with fail
      refine bodyPost_ret (v := .tuple #[.agg #[.int .i64 0, .int .i64 0, .int .i64 0, .string ⟨#[]⟩, .int .i64 0], .int .i64 2]) (by simp [results, Tryd.results9, go_sem, *]) rfl ⟨?_, bel⟩
      rfl
end Go.Proofs.YtfhmjkdpohepaaaDoor

/- soffit/policy.Outcome, walked: an order that has no values. -/
set_option linter.unusedSimpArgs false
set_option linter.unusedVariables false
namespace Go.Proofs.YtfhmjkdpohepaaaDoor
open Go.RowKit

set_option maxRecDepth 100000 in
set_option maxHeartbeats 6400000 in
theorem outNo2 (os od : List Vl) (df : Vl) (fs : List Int) (A B F : Option Addr) (ca cb cf : Nat) (w : World) (hA : RdL w 5 A (os.map Vl.cells5)) (hB : RdL w 5 B (od.map Vl.cells5)) (hF : RdL w 1 F (fs.map intC)) (hos : ∀ v ∈ os, v.wf) (hod : ∀ v ∈ od, v.wf) (hdf : df.wf) (hfs : Rise os.length fs) (h16 : fs.length ≤ 1000000) (n1 : os.length ≤ 9223372036854775807) (n2 : od.length ≤ 9223372036854775807) (hE : Env w)
    (p : Int) (hk : knownB p = true) (s1 : allSnd os = true) (s2 : allSnd od = false) :
    Calls Tryd.prog 9 #[.int .i64 p, .slice A os.length ca, .slice B od.length cb, .agg #[.int .i64 df.k, .int .i64 df.n, .int .i64 df.s, .string df.t, .int .i64 df.i], .slice F fs.length cf] w fun e w' =>
      e = .returned (.tuple #[.agg #[.int .i64 0, .int .i64 0, .int .i64 0, .string ⟨#[]⟩, .int .i64 0], .int .i64 2]) ∧ Below w.heap.size w w' := by
  go_enter Tryd.func9, Tryd.ntmps9
  go_wp2_with fail
  generalize hEW0 : (w.alloc _).alloc _ = W0
  have hbW0 : Below w.heap.size w W0 := (by rw [← hEW0]; exact bel)
  have lW0_0 : w.heap.size < W0.heap.size := lsz hEW0
  have qW0_0 : ∀ o, W0.cell? ⟨w.heap.size, o, none⟩ = _ := fun o => congrArg (fun W : World => W.cell? ⟨w.heap.size, o, none⟩) hEW0.symm
  have rW0_0 : ∀ o, W0.frozen? ⟨w.heap.size, o, none⟩ = _ := fun o => congrArg (fun W : World => W.frozen? ⟨w.heap.size, o, none⟩) hEW0.symm
  have lW0_1 : w.heap.size + 1 < W0.heap.size := lsz hEW0
  have qW0_1 : ∀ o, W0.cell? ⟨w.heap.size + 1, o, none⟩ = _ := fun o => congrArg (fun W : World => W.cell? ⟨w.heap.size + 1, o, none⟩) hEW0.symm
  have rW0_1 : ∀ o, W0.frozen? ⟨w.heap.size + 1, o, none⟩ = _ := fun o => congrArg (fun W : World => W.frozen? ⟨w.heap.size + 1, o, none⟩) hEW0.symm
  clear hEW0
  refine (known_any p _).mono ?_
  rintro e w1 ⟨rfl, hb1⟩
  rw [hk]
  clear hk
  have hz1 := hb1.size
  try simp at hz1
  obtain ⟨q1_0, l1_0, r1_0⟩ := aft hb1 (w.heap.size)
  obtain ⟨q1_1, l1_1, r1_1⟩ := aft hb1 (w.heap.size + 1)
  go_wp2_with fail
  have hw1 : Below w.heap.size w w1 := bel
  go_loopg [25] fs.length (fun k iv wr => ∃ j : Nat, j ≤ fs.length ∧ fs.length - j ≤ k ∧ iv = .int .i64 j ∧ Below w1.heap.size w1 wr)
  case atStart => exact ⟨0, by omega, by omega, rfl, Below.refl _ _⟩
  case round =>
    obtain ⟨j, hj, hjk, rfl, hbel⟩ := hrel
    have hsz := hbel.size
    have qa_0 := fun o => (hbel.cell (p := ⟨w.heap.size, o, none⟩) l1_0).trans (q1_0 o)
    have ra_0 := fun o => (hbel.frozen (p := ⟨w.heap.size, o, none⟩) l1_0).trans (r1_0 o)
    have la_0 : w.heap.size < wr.heap.size := by omega
    have qa_1 := fun o => (hbel.cell (p := ⟨w.heap.size + 1, o, none⟩) l1_1).trans (q1_1 o)
    have ra_1 := fun o => (hbel.frozen (p := ⟨w.heap.size + 1, o, none⟩) l1_1).trans (r1_1 o)
    have la_1 : w.heap.size + 1 < wr.heap.size := by omega
    by_cases hlt : j < fs.length
    · obtain ⟨b, off, rfl, hx⟩ := ((hF.below hw1).below hbel).at_ hlt
      have hx0 := hfs.lo _ (List.getElem_mem hlt)
      have hx1 := hfs.hi _ (List.getElem_mem hlt)
      have g0 : wr.cell? ⟨b, off + j, none⟩ = some (.int .i64 (fs[j]'hlt)) := by have := hx.get 0 rfl; simpa using this
      have i0 : (0 : Int) ≤ (j : Int) := by omega
      have i1 : (j : Int) < (fs.length : Int) := by omega
      rcases j with _ | i
      · generalize fs[0]'hlt = x at *
        have e1 : ¬ (x < 0) := by omega
        have e2 : ¬ ((os.length : Int) ≤ x) := by omega
        clear hx hx0 hx1
        try simp only [Int.natCast_zero, Nat.add_zero] at *
        go_wp2_with fail
        go_roundg (gk - 1)
        case measure => omega
        case rel => exact ⟨1, by omega, by omega, by go_num, bel⟩
      · have hy := hfs.up i hlt
        have g1 : wr.cell? ⟨b, off + i, none⟩ = some (.int .i64 (fs[i]'(by omega))) := by have := hF.below hw1; have := this.below hbel; have := (this.at_ (show i < fs.length by omega)); obtain ⟨b2, o2, e, hh⟩ := this; cases e; have := hh.get 0 rfl; simpa using this
        generalize fs[i + 1]'hlt = x at *
        generalize fs[i]'(Nat.lt_of_succ_lt hlt) = y at *
        have e1 : ¬ (x < 0) := by omega
        have e2 : ¬ ((os.length : Int) ≤ x) := by omega
        have e3 : ¬ (x ≤ y) := by omega
        have e4 : (0 : Int) < (i : Int) + 1 := by omega
        have e5 : (i : Int) < (fs.length : Int) := by omega
        have e6 : (0 : Int) ≤ (i : Int) := by omega
        clear hx hx0 hx1 hy
        try simp only [Int.natCast_add, Int.natCast_one] at *
        go_wp2_with fail
        go_roundg (gk - 1)
        case measure => omega
        case rel => exact ⟨i + 2, by omega, by omega, by go_num, bel⟩
    · clear hj hjk
      go_wp2_with fail
      refine (psound_any os A ca _ (hA.below bel) hos n1 (hE.below bel)).mono ?_
      rintro e w2 ⟨rfl, hb2⟩
      rw [s1]
      clear s1
      have hz2 := hb2.size
      try simp at hz2
      obtain ⟨q2_0, l2_0, r2_0⟩ := aft hb2 (w.heap.size)
      obtain ⟨q2_1, l2_1, r2_1⟩ := aft hb2 (w.heap.size + 1)
      go_wp2_with fail
      refine (psound_any od B cb _ (hB.below bel) hod n2 (hE.below bel)).mono ?_
      rintro e w3 ⟨rfl, hb3⟩
      rw [s2]
      clear s2
      have hz3 := hb3.size
      try simp at hz3
      obtain ⟨q3_0, l3_0, r3_0⟩ := aft hb3 (w.heap.size)
      obtain ⟨q3_1, l3_1, r3_1⟩ := aft hb3 (w.heap.size + 1)
      go_wp2_with fail
      refine bodyPost_ret (v := .tuple #[.agg #[.int .i64 0, .int .i64 0, .int .i64 0, .string ⟨#[]⟩, .int .i64 0], .int .i64 2]) (by simp [results, Tryd.results9, go_sem, *]) rfl ⟨?_, bel⟩
      rfl
end Go.Proofs.YtfhmjkdpohepaaaDoor

/- soffit/policy.Outcome, walked: a default that is no value. -/
set_option linter.unusedSimpArgs false
set_option linter.unusedVariables false
namespace Go.Proofs.YtfhmjkdpohepaaaDoor
open Go.RowKit

set_option maxRecDepth 100000 in
set_option maxHeartbeats 6400000 in
theorem outNo3 (os od : List Vl) (df : Vl) (fs : List Int) (A B F : Option Addr) (ca cb cf : Nat) (w : World) (hA : RdL w 5 A (os.map Vl.cells5)) (hB : RdL w 5 B (od.map Vl.cells5)) (hF : RdL w 1 F (fs.map intC)) (hos : ∀ v ∈ os, v.wf) (hod : ∀ v ∈ od, v.wf) (hdf : df.wf) (hfs : Rise os.length fs) (h16 : fs.length ≤ 1000000) (n1 : os.length ≤ 9223372036854775807) (n2 : od.length ≤ 9223372036854775807) (hE : Env w)
    (p : Int) (hk : knownB p = true) (s1 : allSnd os = true) (s2 : allSnd od = true) (s3 : allSnd [df] = false) :
    Calls Tryd.prog 9 #[.int .i64 p, .slice A os.length ca, .slice B od.length cb, .agg #[.int .i64 df.k, .int .i64 df.n, .int .i64 df.s, .string df.t, .int .i64 df.i], .slice F fs.length cf] w fun e w' =>
      e = .returned (.tuple #[.agg #[.int .i64 0, .int .i64 0, .int .i64 0, .string ⟨#[]⟩, .int .i64 0], .int .i64 2]) ∧ Below w.heap.size w w' := by
  go_enter Tryd.func9, Tryd.ntmps9
  go_wp2_with fail
  generalize hEW0 : (w.alloc _).alloc _ = W0
  have hbW0 : Below w.heap.size w W0 := (by rw [← hEW0]; exact bel)
  have lW0_0 : w.heap.size < W0.heap.size := lsz hEW0
  have qW0_0 : ∀ o, W0.cell? ⟨w.heap.size, o, none⟩ = _ := fun o => congrArg (fun W : World => W.cell? ⟨w.heap.size, o, none⟩) hEW0.symm
  have rW0_0 : ∀ o, W0.frozen? ⟨w.heap.size, o, none⟩ = _ := fun o => congrArg (fun W : World => W.frozen? ⟨w.heap.size, o, none⟩) hEW0.symm
  have lW0_1 : w.heap.size + 1 < W0.heap.size := lsz hEW0
  have qW0_1 : ∀ o, W0.cell? ⟨w.heap.size + 1, o, none⟩ = _ := fun o => congrArg (fun W : World => W.cell? ⟨w.heap.size + 1, o, none⟩) hEW0.symm
  have rW0_1 : ∀ o, W0.frozen? ⟨w.heap.size + 1, o, none⟩ = _ := fun o => congrArg (fun W : World => W.frozen? ⟨w.heap.size + 1, o, none⟩) hEW0.symm
  clear hEW0
  refine (known_any p _).mono ?_
  rintro e w1 ⟨rfl, hb1⟩
  rw [hk]
  clear hk
  have hz1 := hb1.size
  try simp at hz1
  obtain ⟨q1_0, l1_0, r1_0⟩ := aft hb1 (w.heap.size)
  obtain ⟨q1_1, l1_1, r1_1⟩ := aft hb1 (w.heap.size + 1)
  go_wp2_with fail
  have hw1 : Below w.heap.size w w1 := bel
  go_loopg [25] fs.length (fun k iv wr => ∃ j : Nat, j ≤ fs.length ∧ fs.length - j ≤ k ∧ iv = .int .i64 j ∧ Below w1.heap.size w1 wr)
  case atStart => exact ⟨0, by omega, by omega, rfl, Below.refl _ _⟩
  case round =>
    obtain ⟨j, hj, hjk, rfl, hbel⟩ := hrel
    have hsz := hbel.size
    have qa_0 := fun o => (hbel.cell (p := ⟨w.heap.size, o, none⟩) l1_0).trans (q1_0 o)
    have ra_0 := fun o => (hbel.frozen (p := ⟨w.heap.size, o, none⟩) l1_0).trans (r1_0 o)
    have la_0 : w.heap.size < wr.heap.size := by omega
    have qa_1 := fun o => (hbel.cell (p := ⟨w.heap.size + 1, o, none⟩) l1_1).trans (q1_1 o)
    have ra_1 := fun o => (hbel.frozen (p := ⟨w.heap.size + 1, o, none⟩) l1_1).trans (r1_1 o)
    have la_1 : w.heap.size + 1 < wr.heap.size := by omega
    by_cases hlt : j < fs.length
    · obtain ⟨b, off, rfl, hx⟩ := ((hF.below hw1).below hbel).at_ hlt
      have hx0 := hfs.lo _ (List.getElem_mem hlt)
      have hx1 := hfs.hi _ (List.getElem_mem hlt)
      have g0 : wr.cell? ⟨b, off + j, none⟩ = some (.int .i64 (fs[j]'hlt)) := by have := hx.get 0 rfl; simpa using this
      have i0 : (0 : Int) ≤ (j : Int) := by omega
      have i1 : (j : Int) < (fs.length : Int) := by omega
      rcases j with _ | i
      · generalize fs[0]'hlt = x at *
        have e1 : ¬ (x < 0) := by omega
        have e2 : ¬ ((os.length : Int) ≤ x) := by omega
        clear hx hx0 hx1
        try simp only [Int.natCast_zero, Nat.add_zero] at *
        go_wp2_with fail
        go_roundg (gk - 1)
        case measure => omega
        case rel => exact ⟨1, by omega, by omega, by go_num, bel⟩
      · have hy := hfs.up i hlt
        have g1 : wr.cell? ⟨b, off + i, none⟩ = some (.int .i64 (fs[i]'(by omega))) := by have := hF.below hw1; have := this.below hbel; have := (this.at_ (show i < fs.length by omega)); obtain ⟨b2, o2, e, hh⟩ := this; cases e; have := hh.get 0 rfl; simpa using this
        generalize fs[i + 1]'hlt = x at *
        generalize fs[i]'(Nat.lt_of_succ_lt hlt) = y at *
        have e1 : ¬ (x < 0) := by omega
        have e2 : ¬ ((os.length : Int) ≤ x) := by omega
        have e3 : ¬ (x ≤ y) := by omega
        have e4 : (0 : Int) < (i : Int) + 1 := by omega
        have e5 : (i : Int) < (fs.length : Int) := by omega
        have e6 : (0 : Int) ≤ (i : Int) := by omega
        clear hx hx0 hx1 hy
        try simp only [Int.natCast_add, Int.natCast_one] at *
        go_wp2_with fail
        go_roundg (gk - 1)
        case measure => omega
        case rel => exact ⟨i + 2, by omega, by omega, by go_num, bel⟩
    · clear hj hjk
      go_wp2_with fail
      refine (psound_any os A ca _ (hA.below bel) hos n1 (hE.below bel)).mono ?_
      rintro e w2 ⟨rfl, hb2⟩
      rw [s1]
      clear s1
      have hz2 := hb2.size
      try simp at hz2
      obtain ⟨q2_0, l2_0, r2_0⟩ := aft hb2 (w.heap.size)
      obtain ⟨q2_1, l2_1, r2_1⟩ := aft hb2 (w.heap.size + 1)
      go_wp2_with fail
      refine (psound_any od B cb _ (hB.below bel) hod n2 (hE.below bel)).mono ?_
      rintro e w3 ⟨rfl, hb3⟩
      rw [s2]
      clear s2
      have hz3 := hb3.size
      try simp at hz3
      obtain ⟨q3_0, l3_0, r3_0⟩ := aft hb3 (w.heap.size)
      obtain ⟨q3_1, l3_1, r3_1⟩ := aft hb3 (w.heap.size + 1)
      go_wp2_with fail
      generalize hEW4 : w3.alloc _ = W4
      have hbW4 : Below w.heap.size w W4 := (by rw [← hEW4]; exact bel)
      have lW4_0 : w.heap.size < W4.heap.size := lsz hEW4
      have qW4_0 : ∀ o, W4.cell? ⟨w.heap.size, o, none⟩ = _ := fun o => congrArg (fun W : World => W.cell? ⟨w.heap.size, o, none⟩) hEW4.symm
      have rW4_0 : ∀ o, W4.frozen? ⟨w.heap.size, o, none⟩ = _ := fun o => congrArg (fun W : World => W.frozen? ⟨w.heap.size, o, none⟩) hEW4.symm
      have lW4_1 : w.heap.size + 1 < W4.heap.size := lsz hEW4
      have qW4_1 : ∀ o, W4.cell? ⟨w.heap.size + 1, o, none⟩ = _ := fun o => congrArg (fun W : World => W.cell? ⟨w.heap.size + 1, o, none⟩) hEW4.symm
      have rW4_1 : ∀ o, W4.frozen? ⟨w.heap.size + 1, o, none⟩ = _ := fun o => congrArg (fun W : World => W.frozen? ⟨w.heap.size + 1, o, none⟩) hEW4.symm
      have lW4_2 : w3.heap.size < W4.heap.size := lsz hEW4
      have qW4_2 : ∀ o, W4.cell? ⟨w3.heap.size, o, none⟩ = _ := fun o => congrArg (fun W : World => W.cell? ⟨w3.heap.size, o, none⟩) hEW4.symm
      have rW4_2 : ∀ o, W4.frozen? ⟨w3.heap.size, o, none⟩ = _ := fun o => congrArg (fun W : World => W.frozen? ⟨w3.heap.size, o, none⟩) hEW4.symm
      clear hEW4
      have t0 : ∀ o, W4.cell? ⟨w3.heap.size, o, none⟩ = df.cells5.toArray[o]? := by intro o; rw [qW4_2 o]; simp [go_sem]; rfl
      have rd : RdL W4 5 (some ⟨w3.heap.size, 0, none⟩) ([df].map Vl.cells5) := rdL_one t0
      clear t0
      have hd1 : ∀ v ∈ [df], v.wf := by intro v hv; have e : v = df := (by simpa using hv); rw [e]; exact hdf
      refine (psound_any [df] _ 1 _ rd hd1 (by show (1 : Nat) ≤ 9223372036854775807; omega) (hE.below bel)).mono ?_
      rintro e w4 ⟨rfl, hb4⟩
      rw [s3]
      clear s3 rd hd1
      have hz4 := hb4.size
      try simp at hz4
      obtain ⟨q4_0, l4_0, r4_0⟩ := aft hb4 (w.heap.size)
      obtain ⟨q4_1, l4_1, r4_1⟩ := aft hb4 (w.heap.size + 1)
      go_wp2_with fail
      refine bodyPost_ret (v := .tuple #[.agg #[.int .i64 0, .int .i64 0, .int .i64 0, .string ⟨#[]⟩, .int .i64 0], .int .i64 2]) (by simp [results, Tryd.results9, go_sem, *]) rfl ⟨?_, bel⟩
      rfl
end Go.Proofs.YtfhmjkdpohepaaaDoor

/- soffit/policy.Outcome, walked: how many fire. -/
set_option linter.unusedSimpArgs false
set_option linter.unusedVariables false
namespace Go.Proofs.YtfhmjkdpohepaaaDoor
open Go.RowKit

theorem decIn_len {n : Nat} (h : n ≤ 1000000) : decIn n 0 = true := by simp [decIn]; omega
theorem mk_zero (n : Nat) : mkN n 0 = n ∧ mkS n 0 = 0 := by
  unfold mkN mkS
  rw [show (0 : Int).toNat = 0 from rfl, shU_zero, decide_eq_false (by omega)]
  exact ⟨by unfold sgn; simp, rfl⟩
theorem make_len {n : Nat} (h : n ≤ 1000000) : makeRes n 0 = .tuple #[.agg #[.int .i64 n, .int .i64 0], .int .i64 0] := by
  rw [makeRes_yes (decIn_len h), (mk_zero n).1, (mk_zero n).2]

set_option maxRecDepth 100000 in
set_option maxHeartbeats 6400000 in
theorem outCount (os od : List Vl) (df : Vl) (fs : List Int) (A B F : Option Addr) (ca cb cf : Nat) (w : World) (hA : RdL w 5 A (os.map Vl.cells5)) (hB : RdL w 5 B (od.map Vl.cells5)) (hF : RdL w 1 F (fs.map intC)) (hos : ∀ v ∈ os, v.wf) (hod : ∀ v ∈ od, v.wf) (hdf : df.wf) (hfs : Rise os.length fs) (h16 : fs.length ≤ 1000000) (n1 : os.length ≤ 9223372036854775807) (n2 : od.length ≤ 9223372036854775807) (hE : Env w)
    (s1 : allSnd os = true) (s2 : allSnd od = true) (s3 : allSnd [df] = true) :
    Calls Tryd.prog 9 #[.int .i64 35, .slice A os.length ca, .slice B od.length cb, .agg #[.int .i64 df.k, .int .i64 df.n, .int .i64 df.s, .string df.t, .int .i64 df.i], .slice F fs.length cf] w fun e w' =>
      e = .returned (.tuple #[.agg #[.int .i64 1, .int .i64 fs.length, .int .i64 0, .string ⟨#[]⟩, .int .i64 0], .int .i64 0]) ∧ Below w.heap.size w w' := by
  have hk : knownB 35 = true := by decide
  go_enter Tryd.func9, Tryd.ntmps9
  go_wp2_with fail
  generalize hEW0 : (w.alloc _).alloc _ = W0
  have hbW0 : Below w.heap.size w W0 := (by rw [← hEW0]; exact bel)
  have lW0_0 : w.heap.size < W0.heap.size := lsz hEW0
  have qW0_0 : ∀ o, W0.cell? ⟨w.heap.size, o, none⟩ = _ := fun o => congrArg (fun W : World => W.cell? ⟨w.heap.size, o, none⟩) hEW0.symm
  have rW0_0 : ∀ o, W0.frozen? ⟨w.heap.size, o, none⟩ = _ := fun o => congrArg (fun W : World => W.frozen? ⟨w.heap.size, o, none⟩) hEW0.symm
  have lW0_1 : w.heap.size + 1 < W0.heap.size := lsz hEW0
  have qW0_1 : ∀ o, W0.cell? ⟨w.heap.size + 1, o, none⟩ = _ := fun o => congrArg (fun W : World => W.cell? ⟨w.heap.size + 1, o, none⟩) hEW0.symm
  have rW0_1 : ∀ o, W0.frozen? ⟨w.heap.size + 1, o, none⟩ = _ := fun o => congrArg (fun W : World => W.frozen? ⟨w.heap.size + 1, o, none⟩) hEW0.symm
  clear hEW0
  refine (known_any 35 _).mono ?_
  rintro e w1 ⟨rfl, hb1⟩
  rw [hk]
  clear hk
  have hz1 := hb1.size
  try simp at hz1
  obtain ⟨q1_0, l1_0, r1_0⟩ := aft hb1 (w.heap.size)
  obtain ⟨q1_1, l1_1, r1_1⟩ := aft hb1 (w.heap.size + 1)
  go_wp2_with fail
  have hw1 : Below w.heap.size w w1 := bel
  go_loopg [25] fs.length (fun k iv wr => ∃ j : Nat, j ≤ fs.length ∧ fs.length - j ≤ k ∧ iv = .int .i64 j ∧ Below w1.heap.size w1 wr)
  case atStart => exact ⟨0, by omega, by omega, rfl, Below.refl _ _⟩
  case round =>
    obtain ⟨j, hj, hjk, rfl, hbel⟩ := hrel
    have hsz := hbel.size
    have qa_0 := fun o => (hbel.cell (p := ⟨w.heap.size, o, none⟩) l1_0).trans (q1_0 o)
    have ra_0 := fun o => (hbel.frozen (p := ⟨w.heap.size, o, none⟩) l1_0).trans (r1_0 o)
    have la_0 : w.heap.size < wr.heap.size := by omega
    have qa_1 := fun o => (hbel.cell (p := ⟨w.heap.size + 1, o, none⟩) l1_1).trans (q1_1 o)
    have ra_1 := fun o => (hbel.frozen (p := ⟨w.heap.size + 1, o, none⟩) l1_1).trans (r1_1 o)
    have la_1 : w.heap.size + 1 < wr.heap.size := by omega
    by_cases hlt : j < fs.length
    · obtain ⟨b, off, rfl, hx⟩ := ((hF.below hw1).below hbel).at_ hlt
      have hx0 := hfs.lo _ (List.getElem_mem hlt)
      have hx1 := hfs.hi _ (List.getElem_mem hlt)
      have g0 : wr.cell? ⟨b, off + j, none⟩ = some (.int .i64 (fs[j]'hlt)) := by have := hx.get 0 rfl; simpa using this
      have i0 : (0 : Int) ≤ (j : Int) := by omega
      have i1 : (j : Int) < (fs.length : Int) := by omega
      rcases j with _ | i
      · generalize fs[0]'hlt = x at *
        have e1 : ¬ (x < 0) := by omega
        have e2 : ¬ ((os.length : Int) ≤ x) := by omega
        clear hx hx0 hx1
        try simp only [Int.natCast_zero, Nat.add_zero] at *
        go_wp2_with fail
        go_roundg (gk - 1)
        case measure => omega
        case rel => exact ⟨1, by omega, by omega, by go_num, bel⟩
      · have hy := hfs.up i hlt
        have g1 : wr.cell? ⟨b, off + i, none⟩ = some (.int .i64 (fs[i]'(by omega))) := by have := hF.below hw1; have := this.below hbel; have := (this.at_ (show i < fs.length by omega)); obtain ⟨b2, o2, e, hh⟩ := this; cases e; have := hh.get 0 rfl; simpa using this
        generalize fs[i + 1]'hlt = x at *
        generalize fs[i]'(Nat.lt_of_succ_lt hlt) = y at *
        have e1 : ¬ (x < 0) := by omega
        have e2 : ¬ ((os.length : Int) ≤ x) := by omega
        have e3 : ¬ (x ≤ y) := by omega
        have e4 : (0 : Int) < (i : Int) + 1 := by omega
        have e5 : (i : Int) < (fs.length : Int) := by omega
        have e6 : (0 : Int) ≤ (i : Int) := by omega
        clear hx hx0 hx1 hy
        try simp only [Int.natCast_add, Int.natCast_one] at *
        go_wp2_with fail
        go_roundg (gk - 1)
        case measure => omega
        case rel => exact ⟨i + 2, by omega, by omega, by go_num, bel⟩
    · clear hj hjk
      go_wp2_with fail
      refine (psound_any os A ca _ (hA.below bel) hos n1 (hE.below bel)).mono ?_
      rintro e w2 ⟨rfl, hb2⟩
      rw [s1]
      clear s1
      have hz2 := hb2.size
      try simp at hz2
      obtain ⟨q2_0, l2_0, r2_0⟩ := aft hb2 (w.heap.size)
      obtain ⟨q2_1, l2_1, r2_1⟩ := aft hb2 (w.heap.size + 1)
      go_wp2_with fail
      refine (psound_any od B cb _ (hB.below bel) hod n2 (hE.below bel)).mono ?_
      rintro e w3 ⟨rfl, hb3⟩
      rw [s2]
      clear s2
      have hz3 := hb3.size
      try simp at hz3
      obtain ⟨q3_0, l3_0, r3_0⟩ := aft hb3 (w.heap.size)
      obtain ⟨q3_1, l3_1, r3_1⟩ := aft hb3 (w.heap.size + 1)
      go_wp2_with fail
      generalize hEW4 : w3.alloc _ = W4
      have hbW4 : Below w.heap.size w W4 := (by rw [← hEW4]; exact bel)
      have lW4_0 : w.heap.size < W4.heap.size := lsz hEW4
      have qW4_0 : ∀ o, W4.cell? ⟨w.heap.size, o, none⟩ = _ := fun o => congrArg (fun W : World => W.cell? ⟨w.heap.size, o, none⟩) hEW4.symm
      have rW4_0 : ∀ o, W4.frozen? ⟨w.heap.size, o, none⟩ = _ := fun o => congrArg (fun W : World => W.frozen? ⟨w.heap.size, o, none⟩) hEW4.symm
      have lW4_1 : w.heap.size + 1 < W4.heap.size := lsz hEW4
      have qW4_1 : ∀ o, W4.cell? ⟨w.heap.size + 1, o, none⟩ = _ := fun o => congrArg (fun W : World => W.cell? ⟨w.heap.size + 1, o, none⟩) hEW4.symm
      have rW4_1 : ∀ o, W4.frozen? ⟨w.heap.size + 1, o, none⟩ = _ := fun o => congrArg (fun W : World => W.frozen? ⟨w.heap.size + 1, o, none⟩) hEW4.symm
      have lW4_2 : w3.heap.size < W4.heap.size := lsz hEW4
      have qW4_2 : ∀ o, W4.cell? ⟨w3.heap.size, o, none⟩ = _ := fun o => congrArg (fun W : World => W.cell? ⟨w3.heap.size, o, none⟩) hEW4.symm
      have rW4_2 : ∀ o, W4.frozen? ⟨w3.heap.size, o, none⟩ = _ := fun o => congrArg (fun W : World => W.frozen? ⟨w3.heap.size, o, none⟩) hEW4.symm
      clear hEW4
      have t0 : ∀ o, W4.cell? ⟨w3.heap.size, o, none⟩ = df.cells5.toArray[o]? := by intro o; rw [qW4_2 o]; simp [go_sem]; rfl
      have rd : RdL W4 5 (some ⟨w3.heap.size, 0, none⟩) ([df].map Vl.cells5) := rdL_one t0
      clear t0
      have hd1 : ∀ v ∈ [df], v.wf := by intro v hv; have e : v = df := (by simpa using hv); rw [e]; exact hdf
      refine (psound_any [df] _ 1 _ rd hd1 (by show (1 : Nat) ≤ 9223372036854775807; omega) (hE.below bel)).mono ?_
      rintro e w4 ⟨rfl, hb4⟩
      rw [s3]
      clear s3 rd hd1
      have hz4 := hb4.size
      try simp at hz4
      obtain ⟨q4_0, l4_0, r4_0⟩ := aft hb4 (w.heap.size)
      obtain ⟨q4_1, l4_1, r4_1⟩ := aft hb4 (w.heap.size + 1)
      go_wp2_with fail
      refine (make_any fs.length 0 _ (by omega) (by omega) (by omega) (by omega)).mono ?_
      rintro e w5 ⟨rfl, hb5⟩
      rw [make_len (by omega)]
      have hz5 := hb5.size
      try simp at hz5
      obtain ⟨q5_0, l5_0, r5_0⟩ := aft hb5 (w.heap.size)
      obtain ⟨q5_1, l5_1, r5_1⟩ := aft hb5 (w.heap.size + 1)
      go_wp2_with fail
      refine bodyPost_ret (v := .tuple #[.agg #[.int .i64 1, .int .i64 fs.length, .int .i64 0, .string ⟨#[]⟩, .int .i64 0], .int .i64 0]) (by simp [results, Tryd.results9, go_sem, *]) rfl ⟨?_, bel⟩
      rfl
end Go.Proofs.YtfhmjkdpohepaaaDoor
