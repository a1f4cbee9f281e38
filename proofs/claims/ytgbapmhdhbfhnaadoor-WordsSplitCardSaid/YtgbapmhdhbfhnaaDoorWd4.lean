/- words.Other, Empty and the reference's Words and Rising, walked. -/
import Derived.Test.YtgbapmhdhbfhnaaDoorWd3
set_option linter.unusedSimpArgs false
set_option linter.unusedVariables false
namespace Go.Proofs.YtgbapmhdhbfhnaaDoor
open Go.RowKit Go.Sort Go.Lib

set_option maxHeartbeats 800000 in
theorem other_any (all : Bool) (A : Option Addr) (l : List Tx) (c : Nat) (w : World) (hE : Env w) (hr : RdL w 1 A (l.map tC)) (hs : ∀ t ∈ l, t.length ≤ 9223372036854775807) (hn : l.length * 16 ≤ 140737488355328) :
    Calls Tryd.prog 18 #[.agg #[.bool all, .slice A l.length c]] w fun e w' => ∃ A', e = .returned (.agg #[.bool (!all), .slice A' (norm l).length (norm l).length]) ∧ OwnT w' w.heap.size A' (norm l) ∧ Below w.heap.size w w' := by
  have HS := Lib.hid hs
  have HR := Lib.hid hr
  clear hs hr
  go_enter Tryd.func18, Tryd.ntmps18
  go_wp2_with fail
  generalize hEu : (w.alloc _).alloc _ = u
  have hbu : Below w.heap.size w u := (by rw [← hEu]; exact (by repeat' (first | (with_reducible exact Below.refl _ _) | (with_reducible assumption) | (with_reducible refine Below.drew ?_) | (with_reducible refine below_drewN ?_ _) | (with_reducible refine below_iterAt ?_ ?_ _ _) | (with_reducible refine below_iter ?_ ?_ _ _) | (with_reducible refine Below.alloc ?_ ?_ _) | (with_reducible refine Below.setCell ?_ ?_ _) | (with_reducible refine Below.trans ?_ (Below.mono (by assumption) ?_)) | (simp only [sz_alloc, sz_set, sz_drew, sz_drewN, sz_iterAt, sz_iter] at *; omega) | omega | (simp; done) | (simp; omega) | (apply Below.size; assumption) | (simp only [sz_drew, sz_drewN]; apply Below.size; assumption) | (refine Nat.le_trans ?_ (Below.size (by assumption))))))
  have lu_0 : w.heap.size < u.heap.size := (by rw [← hEu]; first | omega | (simp only [sz_alloc, sz_set, sz_drew, sz_drewN, sz_iterAt, sz_iter] at *; omega) | (simp; done) | (simp; omega) | (simp at *; omega))
  have qu_0 : ∀ o, u.cell? ⟨w.heap.size, o, none⟩ = _ := fun o => congrArg (fun W : World => W.cell? ⟨w.heap.size, o, none⟩) hEu.symm
  have ru_0 : ∀ o, u.frozen? ⟨w.heap.size, o, none⟩ = _ := fun o => congrArg (fun W : World => W.frozen? ⟨w.heap.size, o, none⟩) hEu.symm
  have lu_1 : w.heap.size + 1 < u.heap.size := (by rw [← hEu]; first | omega | (simp only [sz_alloc, sz_set, sz_drew, sz_drewN, sz_iterAt, sz_iter] at *; omega) | (simp; done) | (simp; omega) | (simp at *; omega))
  have qu_1 : ∀ o, u.cell? ⟨w.heap.size + 1, o, none⟩ = _ := fun o => congrArg (fun W : World => W.cell? ⟨w.heap.size + 1, o, none⟩) hEu.symm
  have ru_1 : ∀ o, u.frozen? ⟨w.heap.size + 1, o, none⟩ = _ := fun o => congrArg (fun W : World => W.frozen? ⟨w.heap.size + 1, o, none⟩) hEu.symm
  clear hEu
  refine (make_any (!all) A l c u (hE.below hbu) (HR.out.below hbu) HS.out hn).mono ?_
  rintro e w1 ⟨A1, rfl, hr1, hb1⟩
  have HR1 := Lib.hid hr1
  clear hr1
  have hz1 := hb1.size
  have q1 := fun o => (hb1.cell (p := ⟨w.heap.size + 1, o, none⟩) lu_1).trans (qu_1 o)
  have r1 := fun o => (hb1.frozen (p := ⟨w.heap.size + 1, o, none⟩) lu_1).trans (ru_1 o)
  have l1 : w.heap.size + 1 < w1.heap.size := by omega
  have hbw : Below w.heap.size w w1 := hbu.trans (hb1.mono hbu.size)
  clear qu_0 ru_0 qu_1 ru_1
  go_wp2_with fail
  have hfin : OwnT ((w1.setCell ⟨w.heap.size + 1, 0, none⟩ (.bool (!all))).setCell ⟨w.heap.size + 1, 1, none⟩ (.slice A1 (norm l).length (norm l).length)) u.heap.size A1 (norm l) := (HR1.out.set_ lu_1 0 _).set_ lu_1 1 _
  refine bodyPost_ret (v := .agg #[.bool (!all), .slice A1 (norm l).length (norm l).length]) (by simp [results, Tryd.results18, go_sem, *]) rfl ⟨A1, rfl, hfin.base hbu.size, (by repeat' (first | (with_reducible exact Below.refl _ _) | (with_reducible assumption) | (with_reducible refine Below.drew ?_) | (with_reducible refine below_drewN ?_ _) | (with_reducible refine below_iterAt ?_ ?_ _ _) | (with_reducible refine below_iter ?_ ?_ _ _) | (with_reducible refine Below.alloc ?_ ?_ _) | (with_reducible refine Below.setCell ?_ ?_ _) | (with_reducible refine Below.trans ?_ (Below.mono (by assumption) ?_)) | (simp only [sz_alloc, sz_set, sz_drew, sz_drewN, sz_iterAt, sz_iter] at *; omega) | omega | (simp; done) | (simp; omega) | (apply Below.size; assumption) | (simp only [sz_drew, sz_drewN]; apply Below.size; assumption) | (refine Nat.le_trans ?_ (Below.size (by assumption)))))⟩

set_option maxRecDepth 100000 in
set_option maxHeartbeats 800000 in
theorem empty_any (all : Bool) (A : Option Addr) (l : List Tx) (c : Nat) (w : World) (hE : Env w) (hr : RdL w 1 A (l.map tC)) (hs : ∀ t ∈ l, t.length ≤ 9223372036854775807) (hn : l.length * 16 ≤ 140737488355328) :
    Calls Tryd.prog 11 #[.agg #[.bool all, .slice A l.length c]] w fun e w' => e = .returned (.bool (emptyW all l)) ∧ Below w.heap.size w w' := by
  have HS := Lib.hid hs
  have HR := Lib.hid hr
  clear hs hr
  obtain ⟨R, hR⟩ : ∃ R, emptyW all l = R := ⟨_, rfl⟩
  rw [hR]
  have HRR := Lib.hid hR
  clear hR
  cases all
  · have HN : Hid ((((norm l).length : Int) == 0) = R) := by
      have : (((norm l).length : Int) == 0) = R := by
        rw [← HRR.out]
        unfold emptyW
        cases norm l with
        | nil => rfl
        | cons x r => simp; omega
      exact Lib.hid this
    go_enter Tryd.func11, Tryd.ntmps11
    go_wp2_with fail
    generalize hEu : w.alloc _ = u
    have hbu : Below w.heap.size w u := (by rw [← hEu]; exact (by repeat' (first | (with_reducible exact Below.refl _ _) | (with_reducible assumption) | (with_reducible refine Below.drew ?_) | (with_reducible refine below_drewN ?_ _) | (with_reducible refine below_iterAt ?_ ?_ _ _) | (with_reducible refine below_iter ?_ ?_ _ _) | (with_reducible refine Below.alloc ?_ ?_ _) | (with_reducible refine Below.setCell ?_ ?_ _) | (with_reducible refine Below.trans ?_ (Below.mono (by assumption) ?_)) | (simp only [sz_alloc, sz_set, sz_drew, sz_drewN, sz_iterAt, sz_iter] at *; omega) | omega | (simp; done) | (simp; omega) | (apply Below.size; assumption) | (simp only [sz_drew, sz_drewN]; apply Below.size; assumption) | (refine Nat.le_trans ?_ (Below.size (by assumption))))))
    have lu_0 : w.heap.size < u.heap.size := (by rw [← hEu]; first | omega | (simp only [sz_alloc, sz_set, sz_drew, sz_drewN, sz_iterAt, sz_iter] at *; omega) | (simp; done) | (simp; omega) | (simp at *; omega))
    have qu_0 : ∀ o, u.cell? ⟨w.heap.size, o, none⟩ = _ := fun o => congrArg (fun W : World => W.cell? ⟨w.heap.size, o, none⟩) hEu.symm
    have ru_0 : ∀ o, u.frozen? ⟨w.heap.size, o, none⟩ = _ := fun o => congrArg (fun W : World => W.frozen? ⟨w.heap.size, o, none⟩) hEu.symm
    clear hEu
    refine (make_any false A l c u (hE.below hbu) (HR.out.below hbu) HS.out hn).mono ?_
    rintro e w1 ⟨A1, rfl, hr1, hb1⟩
    have HNN := HN.out
    generalize (norm l).length = n at *
    have hfd : ∀ W : World, (Instr.field 24 (.agg #[.bool false, .slice A1 n n]) 1).run Tryd.prog W = .ok (.slice A1 n n) W := fun _ => by kernel_rfl
    go_wp2_with fail
    go_ret
    exact ⟨ret_bool rfl, hbu.trans (hb1.mono hbu.size)⟩
  · have HN : Hid (R = false) := Lib.hid (by rw [← HRR.out]; rfl)
    go_enter Tryd.func11, Tryd.ntmps11
    go_wp2_with fail
    go_ret
    exact ⟨ret_bool HN.out.symm, (by repeat' (first | (with_reducible exact Below.refl _ _) | (with_reducible assumption) | (with_reducible refine Below.drew ?_) | (with_reducible refine below_drewN ?_ _) | (with_reducible refine below_iterAt ?_ ?_ _ _) | (with_reducible refine below_iter ?_ ?_ _ _) | (with_reducible refine Below.alloc ?_ ?_ _) | (with_reducible refine Below.setCell ?_ ?_ _) | (with_reducible refine Below.trans ?_ (Below.mono (by assumption) ?_)) | (simp only [sz_alloc, sz_set, sz_drew, sz_drewN, sz_iterAt, sz_iter] at *; omega) | omega | (simp; done) | (simp; omega) | (apply Below.size; assumption) | (simp only [sz_drew, sz_drewN]; apply Below.size; assumption) | (refine Nat.le_trans ?_ (Below.size (by assumption)))))⟩

theorem beqT (x t : Tx) : (x == t) = decide (x = t) := by rw [Bool.eq_iff_iff]; simp
theorem take_contains (l : List Tx) (j : Nat) (h : j < l.length) (t : Tx) : (l.take (j + 1)).contains t = ((l.take j).contains t || decide (l[j]'h = t)) := by
  rw [List.take_succ_eq_append_getElem h, contains_append]
  congr 1
  rw [Bool.eq_iff_iff, List.contains_iff_mem]
  simp [eq_comm]
set_option maxRecDepth 100000 in
set_option maxHeartbeats 800000 in
theorem rWords_any (all : Bool) (A : Option Addr) (l : List Tx) (c : Nat) (t : Tx) (w : World) (hr : RdL w 1 A (l.map tC)) (hn : l.length ≤ 9223372036854775807) :
    Calls Tryd.prog 13 #[.agg #[.bool all, .slice A l.length c], encStr t] w fun e w' => e = .returned (.bool (inW all l t)) ∧ Below w.heap.size w w' := by
  obtain ⟨R, hR⟩ : ∃ R, inW all l t = R := ⟨_, rfl⟩
  rw [hR]
  have HR := Lib.hid hR
  clear hR
  have HD := Lib.hid hr
  clear hr
  cases hx : textB t
  · have H0 : Hid (R = false) := by
      have : R = false := by rw [← HR.out]; unfold inW; rw [hx]; rfl
      exact Lib.hid this
    go_enter Tryd.func13, Tryd.ntmps13
    go_wp2_with fail
    refine (word_any t _).mono ?_
    rintro e w1 ⟨rfl, rfl⟩
    rw [hx]
    go_wp2_with fail
    go_ret
    exact ⟨ret_bool H0.out.symm, (by repeat' (first | (with_reducible exact Below.refl _ _) | (with_reducible assumption) | (with_reducible refine Below.drew ?_) | (with_reducible refine below_drewN ?_ _) | (with_reducible refine below_iterAt ?_ ?_ _ _) | (with_reducible refine below_iter ?_ ?_ _ _) | (with_reducible refine Below.alloc ?_ ?_ _) | (with_reducible refine Below.setCell ?_ ?_ _) | (with_reducible refine Below.trans ?_ (Below.mono (by assumption) ?_)) | (simp only [sz_alloc, sz_set, sz_drew, sz_drewN, sz_iterAt, sz_iter] at *; omega) | omega | (simp; done) | (simp; omega) | (apply Below.size; assumption) | (simp only [sz_drew, sz_drewN]; apply Below.size; assumption) | (refine Nat.le_trans ?_ (Below.size (by assumption)))))⟩
  · have H0 : Hid (R = (l.contains t != all)) := by
      have : R = (l.contains t != all) := by rw [← HR.out]; unfold inW; rw [hx, Bool.true_and]
      exact Lib.hid this
    go_enter Tryd.func13, Tryd.ntmps13
    go_wp2_with fail
    refine (word_any t _).mono ?_
    rintro e w1 ⟨rfl, rfl⟩
    rw [hx]
    clear hx
    go_wp2_with fail
    generalize hEu : w.alloc _ = u
    have hbu : Below w.heap.size w u := (by rw [← hEu]; exact (by repeat' (first | (with_reducible exact Below.refl _ _) | (with_reducible assumption) | (with_reducible refine Below.drew ?_) | (with_reducible refine below_drewN ?_ _) | (with_reducible refine below_iterAt ?_ ?_ _ _) | (with_reducible refine below_iter ?_ ?_ _ _) | (with_reducible refine Below.alloc ?_ ?_ _) | (with_reducible refine Below.setCell ?_ ?_ _) | (with_reducible refine Below.trans ?_ (Below.mono (by assumption) ?_)) | (simp only [sz_alloc, sz_set, sz_drew, sz_drewN, sz_iterAt, sz_iter] at *; omega) | omega | (simp; done) | (simp; omega) | (apply Below.size; assumption) | (simp only [sz_drew, sz_drewN]; apply Below.size; assumption) | (refine Nat.le_trans ?_ (Below.size (by assumption))))))
    have lu_0 : w.heap.size < u.heap.size := (by rw [← hEu]; first | omega | (simp only [sz_alloc, sz_set, sz_drew, sz_drewN, sz_iterAt, sz_iter] at *; omega) | (simp; done) | (simp; omega) | (simp at *; omega))
    have qu_0 : ∀ o, u.cell? ⟨w.heap.size, o, none⟩ = _ := fun o => congrArg (fun W : World => W.cell? ⟨w.heap.size, o, none⟩) hEu.symm
    have ru_0 : ∀ o, u.frozen? ⟨w.heap.size, o, none⟩ = _ := fun o => congrArg (fun W : World => W.frozen? ⟨w.heap.size, o, none⟩) hEu.symm
    clear hEu
    have hru : RdL u 1 A (l.map tC) := HD.out.below hbu
    go_loopg [5, 6] l.length (fun k inv iv wr => ∃ j : Nat, j ≤ l.length ∧ l.length - j ≤ k ∧ inv = .bool ((l.take j).contains t) ∧ iv = .int .i64 j ∧ u = wr)
    case atStart => exact ⟨0, by omega, by omega, rfl, rfl, rfl⟩
    case round =>
      obtain ⟨j, hj, hjk, rfl, rfl, rfl⟩ := hrel
      by_cases hlt : j < l.length
      · obtain ⟨b, off, rfl, hx0⟩ := hru.at_ hlt
        have g0 : u.cell? ⟨b, off + j, none⟩ = some (encStr (l[j]'hlt)) := by have := hx0.get 0 (v := encStr (l[j]'hlt)) rfl; simpa using this
        have hst : (l.take (j + 1)).contains t = ((l.take j).contains t || decide (l[j]'hlt = t)) := take_contains l j hlt t
        generalize l[j]'hlt = x at *
        have HST := Lib.hid hst
        clear hst hx0
        have i1 : (0 : Int) ≤ (j : Int) := by omega
        have i2 : (j : Int) < (l.length : Int) := by omega
        generalize (l.take j).contains t = C at *
        cases C
        · go_wp2_with fail
          go_roundg (l.length - (j + 1))
          case measure => omega
          case rel => exact ⟨j + 1, by omega, by omega, by rw [HST.out]; simp only [Bool.false_or, Bool.true_or, beqT], by go_num, rfl⟩
        · go_wp2_with fail
          go_roundg (l.length - (j + 1))
          case measure => omega
          case rel => exact ⟨j + 1, by omega, by omega, by rw [HST.out]; simp only [Bool.false_or, Bool.true_or, beqT], by go_num, rfl⟩
      · have i1 : ¬ ((j : Int) < (l.length : Int)) := by omega
        have hjn : l.take j = l := List.take_of_length_le (by omega)
        rw [hjn]
        clear hjn
        generalize l.contains t = C at *
        go_wp2_with fail
        go_ret
        refine ⟨ret_bool ?_, hbu⟩
        rw [H0.out]
        cases C <;> cases all <;> rfl

theorem word_v {v : Bool} (t : Tx) (w : World) (h : textB t = v) :
    Calls Tryd.prog 16 #[encStr t] w fun e w' => e = .returned (.bool v) ∧ w' = w := by
  subst h
  refine (word_any t w).mono ?_
  rintro e w' ⟨rfl, rfl⟩
  exact ⟨rfl, rfl⟩
theorem lessS (a b : Tx) : Op.bytesLess a b = decide (a < b) := bytesLess_eq a b
theorem less_gt {a b : Tx} (h : b < a) : Op.bytesLess a b = false ∧ (a == b) = false := by
  have h1 : ¬ a < b := fun h2 => tx_irrefl _ (tx_lt_trans (tx_le h) h2)
  have h2 : ¬ a = b := fun h2 => by subst h2; exact tx_irrefl _ h
  exact ⟨by rw [lessS, decide_eq_false h1], by rw [beqT, decide_eq_false h2]⟩
set_option maxRecDepth 100000 in
set_option maxHeartbeats 1600000 in
theorem rising_any (A : Option Addr) (l : List Tx) (c : Nat) (w : World) (hr : RdL w 1 A (l.map tC)) (hn : l.length ≤ 9223372036854775807) (hl : l.Pairwise (· < ·)) (ht : ∀ x ∈ l, textB x = true) :
    Calls Tryd.prog 10 #[.slice A l.length c] w fun e w' => e = .returned (.bool true) ∧ Below w.heap.size w w' := by
  have HD := Lib.hid hr
  have HL := Lib.hid hl
  have HT := Lib.hid ht
  clear hr hl ht
  go_enter Tryd.func10, Tryd.ntmps10
  go_wp2_with fail
  go_loopg [3] l.length (fun k iv wr => ∃ j : Nat, j ≤ l.length ∧ l.length - j ≤ k ∧ iv = .int .i64 j ∧ Below w.heap.size w wr)
  case atStart => exact ⟨0, by omega, by omega, rfl, Below.refl _ _⟩
  case round =>
    obtain ⟨j, hj, hjk, rfl, hbel⟩ := hrel
    have hsz := hbel.size
    by_cases hlt : j < l.length
    · obtain ⟨b, off, rfl, hx0⟩ := (HD.out.below hbel).at_ hlt
      have g0 : wr.cell? ⟨b, off + j, none⟩ = some (encStr (l[j]'hlt)) := by have := hx0.get 0 (v := encStr (l[j]'hlt)) rfl; simpa using this
      have hbl : b < wr.heap.size := cell_lt g0
      have hst := HT.out _ (List.getElem_mem hlt)
      have i0 : (0 : Int) ≤ (j : Int) := by omega
      have i1 : (j : Int) < (l.length : Int) := by omega
      rcases j with _ | i
      · generalize l[0]'hlt = y at *
        clear hx0
        try simp only [Int.natCast_zero, Nat.zero_mul, Nat.add_zero] at *
        go_wp2_with fail
        go_quiet (first | (go_at_call 16; refine Calls.quiet_of_same (word_v y _ hst)) | fail)
        go_wp2_with fail
        go_roundg (l.length - 1)
        case measure => omega
        case rel => exact ⟨1, by omega, by omega, by go_num, (by repeat' (first | (with_reducible exact Below.refl _ _) | (with_reducible assumption) | (with_reducible refine Below.drew ?_) | (with_reducible refine below_drewN ?_ _) | (with_reducible refine below_iterAt ?_ ?_ _ _) | (with_reducible refine below_iter ?_ ?_ _ _) | (with_reducible refine Below.alloc ?_ ?_ _) | (with_reducible refine Below.setCell ?_ ?_ _) | (with_reducible refine Below.trans ?_ (Below.mono (by assumption) ?_)) | (simp only [sz_alloc, sz_set, sz_drew, sz_drewN, sz_iterAt, sz_iter] at *; omega) | omega | (simp; done) | (simp; omega) | (apply Below.size; assumption) | (simp only [sz_drew, sz_drewN]; apply Below.size; assumption) | (refine Nat.le_trans ?_ (Below.size (by assumption)))))⟩
      · have hp : l[i]'(by omega) < l[i + 1]'hlt := List.pairwise_iff_getElem.1 HL.out i (i + 1) (by omega) hlt (by omega)
        have g3 : wr.cell? ⟨b, off + i, none⟩ = some (encStr (l[i]'(by omega))) := by
          have h3 := (HD.out.below hbel).at_ (show i < l.length by omega)
          obtain ⟨b2, o2, e, hh⟩ := h3
          cases e
          have := hh.get 0 (v := encStr (l[i]'(by omega))) rfl
          simpa using this
        generalize l[i + 1]'hlt = y at *
        generalize l[i]'(Nat.lt_of_succ_lt hlt) = z at *
        obtain ⟨hle, heq⟩ := less_gt hp
        have e4 : decide ((0 : Int) < (i : Int) + 1) = true := decide_eq_true (by omega)
        have e8 : (i : Int) + 1 - 1 = (i : Int) := by omega
        have e9 : IntKind.i64.wrap ((i : Int) + 1 - 1) = (i : Int) := by rw [e8]; exact IntWalk.i64_in _ (by omega)
        have e5 : (i : Int) < (l.length : Int) := by omega
        have e6 : (0 : Int) ≤ (i : Int) := by omega
        clear hx0 hp
        try simp only [Int.natCast_add, Int.natCast_one] at *
        go_wp2_with fail
        go_quiet (first | (go_at_call 16; refine Calls.quiet_of_same (word_v y _ hst)) | fail)
        go_wp2_with fail
        go_roundg (l.length - (i + 2))
        case measure => omega
        case rel => exact ⟨i + 2, by omega, by omega, by go_num, (by repeat' (first | (with_reducible exact Below.refl _ _) | (with_reducible assumption) | (with_reducible refine Below.drew ?_) | (with_reducible refine below_drewN ?_ _) | (with_reducible refine below_iterAt ?_ ?_ _ _) | (with_reducible refine below_iter ?_ ?_ _ _) | (with_reducible refine Below.alloc ?_ ?_ _) | (with_reducible refine Below.setCell ?_ ?_ _) | (with_reducible refine Below.trans ?_ (Below.mono (by assumption) ?_)) | (simp only [sz_alloc, sz_set, sz_drew, sz_drewN, sz_iterAt, sz_iter] at *; omega) | omega | (simp; done) | (simp; omega) | (apply Below.size; assumption) | (simp only [sz_drew, sz_drewN]; apply Below.size; assumption) | (refine Nat.le_trans ?_ (Below.size (by assumption)))))⟩
    · have i1 : ¬ ((j : Int) < (l.length : Int)) := by omega
      go_wp2_with fail
      go_ret
      exact ⟨ret_bool rfl, hbel⟩
end Go.Proofs.YtgbapmhdhbfhnaaDoor
