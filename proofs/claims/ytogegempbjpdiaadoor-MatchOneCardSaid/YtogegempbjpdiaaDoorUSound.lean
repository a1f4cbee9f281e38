/- soffit/unary.Sound, walked. -/
import Derived.Test.YtogegempbjpdiaaDoorTests
set_option linter.unusedSimpArgs false
set_option linter.unusedVariables false
namespace Go.Proofs.YtogegempbjpdiaaDoor
open Go.RowKit

/-- a cell of a table, as Lean data -/
structure Cel where
  any : Bool
  neg : Bool
  ts : List Tst
/-- may they be tests? -/
def uSndB (c : Cel) : Bool := if c.any = true then !c.neg && decide (c.ts.length = 0) else decide (1 ≤ c.ts.length ∧ c.ts.length ≤ 8) && !c.ts.any (fun t => !uOneB t)

set_option maxHeartbeats 400000 in
theorem uSound1_any (t : Tst) (w : World) (ht : t.wf) (hE : Env w) :
    Calls Tryd.prog 24 #[.agg #[.int .i64 t.k, .int .i64 t.lo.k, .int .i64 t.lo.n, .int .i64 t.lo.s, .string t.lo.t, .int .i64 t.lo.i, .int .i64 t.hi.k, .int .i64 t.hi.n, .int .i64 t.hi.s, .string t.hi.t, .int .i64 t.hi.i, .bool t.ol, .bool t.oh]] w fun e w' =>
      e = .returned (.bool (!uOneB t)) ∧ Below w.heap.size w w' := by
  obtain ⟨B, hB⟩ : ∃ B, uOneB t = B := ⟨_, rfl⟩
  rw [hB]
  have HB := Lib.hid hB
  clear hB
  go_enter Tryd.func24, Tryd.ntmps24
  go_wp2_with fail
  refine (uOne_any t _ ht (hE.below (by repeat' (first | (with_reducible exact Below.refl _ _) | (with_reducible assumption) | (with_reducible refine Below.drew ?_) | (with_reducible refine below_drewN ?_ _) | (with_reducible refine below_iterAt ?_ ?_ _ _) | (with_reducible refine below_iter ?_ ?_ _ _) | (with_reducible refine Below.alloc ?_ ?_ _) | (with_reducible refine Below.setCell ?_ ?_ _) | (with_reducible refine Below.trans ?_ (Below.mono (by assumption) ?_)) | (simp only [sz_alloc, sz_set, sz_drew, sz_drewN, sz_iterAt, sz_iter] at *; omega) | omega | (simp; done) | (simp; omega) | (apply Below.size; assumption) | (simp only [sz_drew, sz_drewN]; apply Below.size; assumption) | (refine Nat.le_trans ?_ (Below.size (by assumption))))))).mono ?_
  rintro e w1 ⟨rfl, hb1⟩
  rw [HB.out]
  go_wp2_with fail
  go_ret
  exact ⟨ret_bool rfl, (by repeat' (first | (with_reducible exact Below.refl _ _) | (with_reducible assumption) | (with_reducible refine Below.drew ?_) | (with_reducible refine below_drewN ?_ _) | (with_reducible refine below_iterAt ?_ ?_ _ _) | (with_reducible refine below_iter ?_ ?_ _ _) | (with_reducible refine Below.alloc ?_ ?_ _) | (with_reducible refine Below.setCell ?_ ?_ _) | (with_reducible refine Below.trans ?_ (Below.mono (by assumption) ?_)) | (simp only [sz_alloc, sz_set, sz_drew, sz_drewN, sz_iterAt, sz_iter] at *; omega) | omega | (simp; done) | (simp; omega) | (apply Below.size; assumption) | (simp only [sz_drew, sz_drewN]; apply Below.size; assumption) | (refine Nat.le_trans ?_ (Below.size (by assumption)))))⟩

set_option maxHeartbeats 800000 in
theorem uSound_any (c : Cel) (A : Option Addr) (cap : Nat) (w : World) (hr : RdL w 13 A (c.ts.map Tst.cells)) (hw : ∀ t ∈ c.ts, t.wf) (hn : c.ts.length ≤ 9223372036854775807) (hE : Env w) :
    Calls Tryd.prog 17 #[.agg #[.bool c.any, .bool c.neg, .slice A c.ts.length cap]] w fun e w' =>
      e = .returned (.bool (uSndB c)) ∧ Below w.heap.size w w' := by
  obtain ⟨B, hB⟩ : ∃ B, uSndB c = B := ⟨_, rfl⟩
  rw [hB]
  have hgives : ∀ W, Below w.heap.size w W → tstGives 24 #[] (fun t => !uOneB t) c.ts W := fun W hW t ht W' hW' =>
    uSound1_any t W' (hw t ht) ((hE.below hW).below hW')
  have eg : ∀ args W, (callFunc 24 args).run Tryd.prog W = .ok (.enter 24 args) W := enters_of Tryd.func24 (by kernel_rfl) rfl
  have HG := Lib.hid hgives
  have HEG := Lib.hid eg
  clear hgives eg
  obtain ⟨any, neg, ts⟩ := c
  simp only at hr hw hn ⊢
  cases any
  · have HB : Hid (B = (decide (1 ≤ ts.length ∧ ts.length ≤ 8) && !ts.any (fun t => !uOneB t))) := by rw [← hB]; rfl
    clear hB
    by_cases h1 : 1 ≤ ts.length
    · by_cases h8 : ts.length ≤ 8
      · have HC : Hid (B = !ts.any (fun t => !uOneB t)) := by show B = _; rw [HB.out]; simp [h1, h8]
        clear HB
        have e1 : decide ((1 : Int) ≤ (ts.length : Int)) = true := by simp; omega
        have e8 : decide ((ts.length : Int) ≤ 8) = true := by simp; omega
        go_enter Tryd.func17, Tryd.ntmps17
        go_wp2_with fail
        refine (tstContains 24 (fun t => !uOneB t) ts A cap _ (hr.below (by repeat' (first | (with_reducible exact Below.refl _ _) | (with_reducible assumption) | (with_reducible refine Below.drew ?_) | (with_reducible refine below_drewN ?_ _) | (with_reducible refine below_iterAt ?_ ?_ _ _) | (with_reducible refine below_iter ?_ ?_ _ _) | (with_reducible refine Below.alloc ?_ ?_ _) | (with_reducible refine Below.setCell ?_ ?_ _) | (with_reducible refine Below.trans ?_ (Below.mono (by assumption) ?_)) | (simp only [sz_alloc, sz_set, sz_drew, sz_drewN, sz_iterAt, sz_iter] at *; omega) | omega | (simp; done) | (simp; omega) | (apply Below.size; assumption) | (simp only [sz_drew, sz_drewN]; apply Below.size; assumption) | (refine Nat.le_trans ?_ (Below.size (by assumption)))))) hn (HG.out _ (by repeat' (first | (with_reducible exact Below.refl _ _) | (with_reducible assumption) | (with_reducible refine Below.drew ?_) | (with_reducible refine below_drewN ?_ _) | (with_reducible refine below_iterAt ?_ ?_ _ _) | (with_reducible refine below_iter ?_ ?_ _ _) | (with_reducible refine Below.alloc ?_ ?_ _) | (with_reducible refine Below.setCell ?_ ?_ _) | (with_reducible refine Below.trans ?_ (Below.mono (by assumption) ?_)) | (simp only [sz_alloc, sz_set, sz_drew, sz_drewN, sz_iterAt, sz_iter] at *; omega) | omega | (simp; done) | (simp; omega) | (apply Below.size; assumption) | (simp only [sz_drew, sz_drewN]; apply Below.size; assumption) | (refine Nat.le_trans ?_ (Below.size (by assumption)))))) HEG.out).mono ?_
        rintro e w1 ⟨rfl, hb1⟩
        generalize ts.any (fun t => !uOneB t) = N at *
        go_wp2_with fail
        go_ret
        exact ⟨ret_bool HC.out.symm, (by repeat' (first | (with_reducible exact Below.refl _ _) | (with_reducible assumption) | (with_reducible refine Below.drew ?_) | (with_reducible refine below_drewN ?_ _) | (with_reducible refine below_iterAt ?_ ?_ _ _) | (with_reducible refine below_iter ?_ ?_ _ _) | (with_reducible refine Below.alloc ?_ ?_ _) | (with_reducible refine Below.setCell ?_ ?_ _) | (with_reducible refine Below.trans ?_ (Below.mono (by assumption) ?_)) | (simp only [sz_alloc, sz_set, sz_drew, sz_drewN, sz_iterAt, sz_iter] at *; omega) | omega | (simp; done) | (simp; omega) | (apply Below.size; assumption) | (simp only [sz_drew, sz_drewN]; apply Below.size; assumption) | (refine Nat.le_trans ?_ (Below.size (by assumption)))))⟩
      · have HC : Hid (B = false) := by show B = _; rw [HB.out]; simp [h8]
        clear HB
        have e1 : decide ((1 : Int) ≤ (ts.length : Int)) = true := by simp; omega
        have e8 : decide ((ts.length : Int) ≤ 8) = false := by simp; omega
        go_enter Tryd.func17, Tryd.ntmps17
        go_wp2_with fail
        all_goals go_ret
        all_goals exact ⟨ret_bool (by first | (rw [HC.out]; done) | (rw [HC.out]; simp [*]; done) | (rw [HC.out]; simp; omega) | (rw [HC.out]; simp [*]; omega) | (rw [HC.out]; simp only [List.isEmpty_iff, List.isEmpty_eq_false_iff] at *; simp [*]; done) | (rw [HC.out]; simp only [List.isEmpty_iff, List.isEmpty_eq_false_iff] at *; simp [*]; omega) | (rw [HC.out, Bool.eq_iff_iff]; simp only [List.isEmpty_iff, List.isEmpty_eq_false_iff] at *; simp [*]; done) | (exfalso; omega)), (by repeat' (first | (with_reducible exact Below.refl _ _) | (with_reducible assumption) | (with_reducible refine Below.drew ?_) | (with_reducible refine below_drewN ?_ _) | (with_reducible refine below_iterAt ?_ ?_ _ _) | (with_reducible refine below_iter ?_ ?_ _ _) | (with_reducible refine Below.alloc ?_ ?_ _) | (with_reducible refine Below.setCell ?_ ?_ _) | (with_reducible refine Below.trans ?_ (Below.mono (by assumption) ?_)) | (simp only [sz_alloc, sz_set, sz_drew, sz_drewN, sz_iterAt, sz_iter] at *; omega) | omega | (simp; done) | (simp; omega) | (apply Below.size; assumption) | (simp only [sz_drew, sz_drewN]; apply Below.size; assumption) | (refine Nat.le_trans ?_ (Below.size (by assumption)))))⟩
    · have HC : Hid (B = false) := by show B = _; rw [HB.out]; simp [h1]
      clear HB
      have e1 : decide ((1 : Int) ≤ (ts.length : Int)) = false := by simp; omega
      go_enter Tryd.func17, Tryd.ntmps17
      go_wp2_with fail
      all_goals go_ret
      all_goals exact ⟨ret_bool (by first | (rw [HC.out]; done) | (rw [HC.out]; simp [*]; done) | (rw [HC.out]; simp; omega) | (rw [HC.out]; simp [*]; omega) | (rw [HC.out]; simp only [List.isEmpty_iff, List.isEmpty_eq_false_iff] at *; simp [*]; done) | (rw [HC.out]; simp only [List.isEmpty_iff, List.isEmpty_eq_false_iff] at *; simp [*]; omega) | (rw [HC.out, Bool.eq_iff_iff]; simp only [List.isEmpty_iff, List.isEmpty_eq_false_iff] at *; simp [*]; done) | (exfalso; omega)), (by repeat' (first | (with_reducible exact Below.refl _ _) | (with_reducible assumption) | (with_reducible refine Below.drew ?_) | (with_reducible refine below_drewN ?_ _) | (with_reducible refine below_iterAt ?_ ?_ _ _) | (with_reducible refine below_iter ?_ ?_ _ _) | (with_reducible refine Below.alloc ?_ ?_ _) | (with_reducible refine Below.setCell ?_ ?_ _) | (with_reducible refine Below.trans ?_ (Below.mono (by assumption) ?_)) | (simp only [sz_alloc, sz_set, sz_drew, sz_drewN, sz_iterAt, sz_iter] at *; omega) | omega | (simp; done) | (simp; omega) | (apply Below.size; assumption) | (simp only [sz_drew, sz_drewN]; apply Below.size; assumption) | (refine Nat.le_trans ?_ (Below.size (by assumption)))))⟩
  · have HB : Hid (B = (!neg && decide (ts.length = 0))) := by rw [← hB]; rfl
    clear hB
    by_cases h0 : ts.length = 0
    · have e0 : ((ts.length : Int) == 0) = true := by rw [h0]; rfl
      have HC : Hid (B = !neg) := by show B = _; rw [HB.out]; simp [h0]
      clear HB
      cases neg
      all_goals
        go_enter Tryd.func17, Tryd.ntmps17
        go_wp2_with fail
        all_goals go_ret
        all_goals exact ⟨ret_bool (by first | (rw [HC.out]; done) | (rw [HC.out]; simp [*]; done) | (rw [HC.out]; simp; omega) | (rw [HC.out]; simp [*]; omega) | (rw [HC.out]; simp only [List.isEmpty_iff, List.isEmpty_eq_false_iff] at *; simp [*]; done) | (rw [HC.out]; simp only [List.isEmpty_iff, List.isEmpty_eq_false_iff] at *; simp [*]; omega) | (rw [HC.out, Bool.eq_iff_iff]; simp only [List.isEmpty_iff, List.isEmpty_eq_false_iff] at *; simp [*]; done) | (exfalso; omega)), (by repeat' (first | (with_reducible exact Below.refl _ _) | (with_reducible assumption) | (with_reducible refine Below.drew ?_) | (with_reducible refine below_drewN ?_ _) | (with_reducible refine below_iterAt ?_ ?_ _ _) | (with_reducible refine below_iter ?_ ?_ _ _) | (with_reducible refine Below.alloc ?_ ?_ _) | (with_reducible refine Below.setCell ?_ ?_ _) | (with_reducible refine Below.trans ?_ (Below.mono (by assumption) ?_)) | (simp only [sz_alloc, sz_set, sz_drew, sz_drewN, sz_iterAt, sz_iter] at *; omega) | omega | (simp; done) | (simp; omega) | (apply Below.size; assumption) | (simp only [sz_drew, sz_drewN]; apply Below.size; assumption) | (refine Nat.le_trans ?_ (Below.size (by assumption)))))⟩
    · have e0 : ((ts.length : Int) == 0) = false := by rw [beq_eq_false_iff_ne]; omega
      have HC : Hid (B = false) := by show B = _; rw [HB.out]; simp [h0]
      clear HB
      cases neg
      all_goals
        go_enter Tryd.func17, Tryd.ntmps17
        go_wp2_with fail
        all_goals go_ret
        all_goals exact ⟨ret_bool (by first | (rw [HC.out]; done) | (rw [HC.out]; simp [*]; done) | (rw [HC.out]; simp; omega) | (rw [HC.out]; simp [*]; omega) | (rw [HC.out]; simp only [List.isEmpty_iff, List.isEmpty_eq_false_iff] at *; simp [*]; done) | (rw [HC.out]; simp only [List.isEmpty_iff, List.isEmpty_eq_false_iff] at *; simp [*]; omega) | (rw [HC.out, Bool.eq_iff_iff]; simp only [List.isEmpty_iff, List.isEmpty_eq_false_iff] at *; simp [*]; done) | (exfalso; omega)), (by repeat' (first | (with_reducible exact Below.refl _ _) | (with_reducible assumption) | (with_reducible refine Below.drew ?_) | (with_reducible refine below_drewN ?_ _) | (with_reducible refine below_iterAt ?_ ?_ _ _) | (with_reducible refine below_iter ?_ ?_ _ _) | (with_reducible refine Below.alloc ?_ ?_ _) | (with_reducible refine Below.setCell ?_ ?_ _) | (with_reducible refine Below.trans ?_ (Below.mono (by assumption) ?_)) | (simp only [sz_alloc, sz_set, sz_drew, sz_drewN, sz_iterAt, sz_iter] at *; omega) | omega | (simp; done) | (simp; omega) | (apply Below.size; assumption) | (simp only [sz_drew, sz_drewN]; apply Below.size; assumption) | (refine Nat.le_trans ?_ (Below.size (by assumption)))))⟩
end Go.Proofs.YtogegempbjpdiaaDoor
