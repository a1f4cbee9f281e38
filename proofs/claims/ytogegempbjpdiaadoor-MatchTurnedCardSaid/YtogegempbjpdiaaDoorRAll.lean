/- soffitref12.All, walked. -/
import Derived.Test.YtogegempbjpdiaaDoorHolds
set_option linter.unusedSimpArgs false
set_option linter.unusedVariables false
namespace Go.Proofs.YtogegempbjpdiaaDoor
open Go.RowKit

/-- as the reference says: do sound tests hold of a sound value? -/
def refAllB (c : Cel) (v : Vl) : Bool := if c.any = true then true else (c.ts.any (fun t => holdsB t v) != c.neg)
theorem uOneB_lo {t : Tst} (h : uOneB t = true) : sndB t.lo = true := by
  unfold uOneB at h; simp only [Bool.and_eq_true] at h; exact h.1.1
theorem uOneB_hi {t : Tst} (h : uOneB t = true) : sndB t.hi = true := by
  unfold uOneB at h; simp only [Bool.and_eq_true] at h; exact h.1.2
theorem uSndB_mem {c : Cel} (h : uSndB c = true) {t : Tst} (ht : t ∈ c.ts) : uOneB t = true := by
  unfold uSndB at h
  by_cases ha : c.any = true
  · rw [if_pos ha] at h
    simp at h
    rw [h.2] at ht; cases ht
  · rw [if_neg ha] at h
    simp only [Bool.and_eq_true, Bool.not_eq_true', List.any_eq_false] at h
    have := h.2 t ht
    simpa using this
theorem any_take_succ {α : Type} {p : α → Bool} {xs : List α} {j : Nat} (hj : j < xs.length) : (xs.take (j + 1)).any p = ((xs.take j).any p || p (xs[j]'hj)) := by
  rw [List.take_succ_eq_append_getElem hj, List.any_append]; simp

set_option maxRecDepth 100000 in
set_option maxHeartbeats 3200000 in
theorem rAll_any (c : Cel) (v : Vl) (A : Option Addr) (cap : Nat) (w : World) (hr : RdL w 13 A (c.ts.map Tst.cells)) (hw : ∀ t ∈ c.ts, t.wf) (hv : v.wf) (hn : c.ts.length ≤ 9223372036854775807) (su : uSndB c = true) (sv : sndB v = true) :
    Calls Tryd.prog 11 #[.agg #[.bool c.any, .bool c.neg, .slice A c.ts.length cap], .agg #[.int .i64 v.k, .int .i64 v.n, .int .i64 v.s, .string v.t, .int .i64 v.i]] w fun e w' =>
      e = .returned (.bool (refAllB c v)) ∧ Below w.heap.size w w' := by
  obtain ⟨C, hC⟩ : ∃ C, refAllB c v = C := ⟨_, rfl⟩
  rw [hC]
  cases ca : c.any
  · have HC : Hid (C = (c.ts.any (fun t => holdsB t v) != c.neg)) := by rw [← hC]; unfold refAllB; rw [ca]; exact rfl
    clear hC
    have SU := Lib.hid su
    have SV := Lib.hid sv
    clear su
    go_enter Tryd.func11, Tryd.ntmps11
    go_wp2_with fail
    generalize hEW0 : (w.alloc _).alloc _ = W0
    have hbW0 : Below w.heap.size w W0 := (by rw [← hEW0]; exact (by repeat' (first | (with_reducible exact Below.refl _ _) | (with_reducible assumption) | (with_reducible refine Below.drew ?_) | (with_reducible refine below_drewN ?_ _) | (with_reducible refine below_iterAt ?_ ?_ _ _) | (with_reducible refine below_iter ?_ ?_ _ _) | (with_reducible refine Below.alloc ?_ ?_ _) | (with_reducible refine Below.setCell ?_ ?_ _) | (with_reducible refine Below.trans ?_ (Below.mono (by assumption) ?_)) | (simp only [sz_alloc, sz_set, sz_drew, sz_drewN, sz_iterAt, sz_iter] at *; omega) | omega | (simp; done) | (simp; omega) | (apply Below.size; assumption) | (simp only [sz_drew, sz_drewN]; apply Below.size; assumption) | (refine Nat.le_trans ?_ (Below.size (by assumption))))))
    have lW0_0 : w.heap.size < W0.heap.size := (by rw [← hEW0]; first | omega | (simp only [sz_alloc, sz_set, sz_drew, sz_drewN, sz_iterAt, sz_iter] at *; omega) | (simp; done) | (simp; omega) | (simp at *; omega))
    have qW0_0 : ∀ o, W0.cell? ⟨w.heap.size, o, none⟩ = _ := fun o => congrArg (fun W : World => W.cell? ⟨w.heap.size, o, none⟩) hEW0.symm
    have rW0_0 : ∀ o, W0.frozen? ⟨w.heap.size, o, none⟩ = _ := fun o => congrArg (fun W : World => W.frozen? ⟨w.heap.size, o, none⟩) hEW0.symm
    have lW0_1 : w.heap.size + 1 < W0.heap.size := (by rw [← hEW0]; first | omega | (simp only [sz_alloc, sz_set, sz_drew, sz_drewN, sz_iterAt, sz_iter] at *; omega) | (simp; done) | (simp; omega) | (simp at *; omega))
    have qW0_1 : ∀ o, W0.cell? ⟨w.heap.size + 1, o, none⟩ = _ := fun o => congrArg (fun W : World => W.cell? ⟨w.heap.size + 1, o, none⟩) hEW0.symm
    have rW0_1 : ∀ o, W0.frozen? ⟨w.heap.size + 1, o, none⟩ = _ := fun o => congrArg (fun W : World => W.frozen? ⟨w.heap.size + 1, o, none⟩) hEW0.symm
    clear hEW0
    have hr2 := hr.below hbW0
    clear hr
    go_loopg [5, 6] c.ts.length (fun k sv iv wr => ∃ j : Nat, j ≤ c.ts.length ∧ c.ts.length - j ≤ k ∧ sv = .bool ((c.ts.take j).any (fun t => holdsB t v)) ∧ iv = .int .i64 j ∧ Below W0.heap.size W0 wr)
    case atStart => exact ⟨0, by omega, by omega, rfl, rfl, Below.refl _ _⟩
    case round =>
      obtain ⟨j, hj, hjk, rfl, rfl, hbel⟩ := hrel
      have hsz := hbel.size
      have qr_0 := fun o => (hbel.cell (p := ⟨w.heap.size, o, none⟩) lW0_0).trans (qW0_0 o)
      have qr_1 := fun o => (hbel.cell (p := ⟨w.heap.size + 1, o, none⟩) lW0_1).trans (qW0_1 o)
      have lr_0 : w.heap.size < wr.heap.size := by omega
      have lr_1 : w.heap.size + 1 < wr.heap.size := by omega
      by_cases hlt : j < c.ts.length
      · obtain ⟨b, off, rfl, hx⟩ := (hr2.below hbel).at_ hlt
        have hmem : c.ts[j]'hlt ∈ c.ts := List.getElem_mem hlt
        have hsuc := any_take_succ (p := fun t => holdsB t v) hlt
        generalize hX : c.ts[j]'hlt = x at *
        have hxw := hw x hmem
        have hxl := uOneB_lo (uSndB_mem SU.out hmem)
        have hxh := uOneB_hi (uSndB_mem SU.out hmem)
        have g0 : wr.cell? ⟨b, off + j * 13, none⟩ = some (.int .i64 x.k) := hx.get 0 rfl
        have g1 : wr.cell? ⟨b, off + j * 13 + 1, none⟩ = some (.int .i64 x.lo.k) := hx.get 1 rfl
        have g2 : wr.cell? ⟨b, off + j * 13 + 2, none⟩ = some (.int .i64 x.lo.n) := hx.get 2 rfl
        have g3 : wr.cell? ⟨b, off + j * 13 + 3, none⟩ = some (.int .i64 x.lo.s) := hx.get 3 rfl
        have g4 : wr.cell? ⟨b, off + j * 13 + 4, none⟩ = some (.string x.lo.t) := hx.get 4 rfl
        have g5 : wr.cell? ⟨b, off + j * 13 + 5, none⟩ = some (.int .i64 x.lo.i) := hx.get 5 rfl
        have g6 : wr.cell? ⟨b, off + j * 13 + 6, none⟩ = some (.int .i64 x.hi.k) := hx.get 6 rfl
        have g7 : wr.cell? ⟨b, off + j * 13 + 7, none⟩ = some (.int .i64 x.hi.n) := hx.get 7 rfl
        have g8 : wr.cell? ⟨b, off + j * 13 + 8, none⟩ = some (.int .i64 x.hi.s) := hx.get 8 rfl
        have g9 : wr.cell? ⟨b, off + j * 13 + 9, none⟩ = some (.string x.hi.t) := hx.get 9 rfl
        have g10 : wr.cell? ⟨b, off + j * 13 + 10, none⟩ = some (.int .i64 x.hi.i) := hx.get 10 rfl
        have g11 : wr.cell? ⟨b, off + j * 13 + 11, none⟩ = some (.bool x.ol) := hx.get 11 rfl
        have g12 : wr.cell? ⟨b, off + j * 13 + 12, none⟩ = some (.bool x.oh) := hx.get 12 rfl
        have hbl : b < wr.heap.size := cell_lt g0
        clear hx hX hmem
        generalize hS : (c.ts.take j).any (fun t => holdsB t v) = S at *
        have HSUC := Lib.hid hsuc
        clear hsuc hS
        have i0 : (0 : Int) ≤ (j : Int) := by omega
        have i1 : (j : Int) < (c.ts.length : Int) := by omega
        cases S
        · go_wp2_with fail
          have kk0 : wr.cell? ⟨w.heap.size, 2, none⟩ = some (.slice (some ⟨b, off, none⟩) c.ts.length cap) := (by first | (simp [go_sem]; done) | (simp [go_sem, *]; done))
          have kk1 : wr.cell? ⟨w.heap.size + 1, 0, none⟩ = some (.int .i64 v.k) := (by first | (simp [go_sem]; done) | (simp [go_sem, *]; done))
          have kk2 : wr.cell? ⟨w.heap.size + 1, 1, none⟩ = some (.int .i64 v.n) := (by first | (simp [go_sem]; done) | (simp [go_sem, *]; done))
          have kk3 : wr.cell? ⟨w.heap.size + 1, 2, none⟩ = some (.int .i64 v.s) := (by first | (simp [go_sem]; done) | (simp [go_sem, *]; done))
          have kk4 : wr.cell? ⟨w.heap.size + 1, 3, none⟩ = some (.string v.t) := (by first | (simp [go_sem]; done) | (simp [go_sem, *]; done))
          have kk5 : wr.cell? ⟨w.heap.size + 1, 4, none⟩ = some (.int .i64 v.i) := (by first | (simp [go_sem]; done) | (simp [go_sem, *]; done))
          have kk6 : wr.cell? ⟨b, off + j * 13, none⟩ = some (.int .i64 x.k) := (by first | (simp [go_sem]; done) | (simp [go_sem, *]; done))
          have kk7 : wr.cell? ⟨b, off + j * 13 + 1, none⟩ = some (.int .i64 x.lo.k) := (by first | (simp [go_sem]; done) | (simp [go_sem, *]; done))
          have kk8 : wr.cell? ⟨b, off + j * 13 + 2, none⟩ = some (.int .i64 x.lo.n) := (by first | (simp [go_sem]; done) | (simp [go_sem, *]; done))
          have kk9 : wr.cell? ⟨b, off + j * 13 + 3, none⟩ = some (.int .i64 x.lo.s) := (by first | (simp [go_sem]; done) | (simp [go_sem, *]; done))
          have kk10 : wr.cell? ⟨b, off + j * 13 + 4, none⟩ = some (.string x.lo.t) := (by first | (simp [go_sem]; done) | (simp [go_sem, *]; done))
          have kk11 : wr.cell? ⟨b, off + j * 13 + 5, none⟩ = some (.int .i64 x.lo.i) := (by first | (simp [go_sem]; done) | (simp [go_sem, *]; done))
          have kk12 : wr.cell? ⟨b, off + j * 13 + 6, none⟩ = some (.int .i64 x.hi.k) := (by first | (simp [go_sem]; done) | (simp [go_sem, *]; done))
          have kk13 : wr.cell? ⟨b, off + j * 13 + 7, none⟩ = some (.int .i64 x.hi.n) := (by first | (simp [go_sem]; done) | (simp [go_sem, *]; done))
          have kk14 : wr.cell? ⟨b, off + j * 13 + 8, none⟩ = some (.int .i64 x.hi.s) := (by first | (simp [go_sem]; done) | (simp [go_sem, *]; done))
          have kk15 : wr.cell? ⟨b, off + j * 13 + 9, none⟩ = some (.string x.hi.t) := (by first | (simp [go_sem]; done) | (simp [go_sem, *]; done))
          have kk16 : wr.cell? ⟨b, off + j * 13 + 10, none⟩ = some (.int .i64 x.hi.i) := (by first | (simp [go_sem]; done) | (simp [go_sem, *]; done))
          have kk17 : wr.cell? ⟨b, off + j * 13 + 11, none⟩ = some (.bool x.ol) := (by first | (simp [go_sem]; done) | (simp [go_sem, *]; done))
          have kk18 : wr.cell? ⟨b, off + j * 13 + 12, none⟩ = some (.bool x.oh) := (by first | (simp [go_sem]; done) | (simp [go_sem, *]; done))
          go_region_held3 (fun w' => Below wr.heap.size wr w' ∧ w'.cell? ⟨w.heap.size, 2, none⟩ = some (.slice (some ⟨b, off, none⟩) c.ts.length cap) ∧ w'.cell? ⟨w.heap.size + 1, 0, none⟩ = some (.int .i64 v.k) ∧ w'.cell? ⟨w.heap.size + 1, 1, none⟩ = some (.int .i64 v.n) ∧ w'.cell? ⟨w.heap.size + 1, 2, none⟩ = some (.int .i64 v.s) ∧ w'.cell? ⟨w.heap.size + 1, 3, none⟩ = some (.string v.t) ∧ w'.cell? ⟨w.heap.size + 1, 4, none⟩ = some (.int .i64 v.i) ∧ w'.cell? ⟨b, off + j * 13, none⟩ = some (.int .i64 x.k) ∧ w'.cell? ⟨b, off + j * 13 + 1, none⟩ = some (.int .i64 x.lo.k) ∧ w'.cell? ⟨b, off + j * 13 + 2, none⟩ = some (.int .i64 x.lo.n) ∧ w'.cell? ⟨b, off + j * 13 + 3, none⟩ = some (.int .i64 x.lo.s) ∧ w'.cell? ⟨b, off + j * 13 + 4, none⟩ = some (.string x.lo.t) ∧ w'.cell? ⟨b, off + j * 13 + 5, none⟩ = some (.int .i64 x.lo.i) ∧ w'.cell? ⟨b, off + j * 13 + 6, none⟩ = some (.int .i64 x.hi.k) ∧ w'.cell? ⟨b, off + j * 13 + 7, none⟩ = some (.int .i64 x.hi.n) ∧ w'.cell? ⟨b, off + j * 13 + 8, none⟩ = some (.int .i64 x.hi.s) ∧ w'.cell? ⟨b, off + j * 13 + 9, none⟩ = some (.string x.hi.t) ∧ w'.cell? ⟨b, off + j * 13 + 10, none⟩ = some (.int .i64 x.hi.i) ∧ w'.cell? ⟨b, off + j * 13 + 11, none⟩ = some (.bool x.ol) ∧ w'.cell? ⟨b, off + j * 13 + 12, none⟩ = some (.bool x.oh)) ((refine and_keep ?_ (fun hk => ⟨keep_cell hk lr_0 kk0, keep_cell hk lr_1 kk1, keep_cell hk lr_1 kk2, keep_cell hk lr_1 kk3, keep_cell hk lr_1 kk4, keep_cell hk lr_1 kk5, keep_cell hk hbl kk6, keep_cell hk hbl kk7, keep_cell hk hbl kk8, keep_cell hk hbl kk9, keep_cell hk hbl kk10, keep_cell hk hbl kk11, keep_cell hk hbl kk12, keep_cell hk hbl kk13, keep_cell hk hbl kk14, keep_cell hk hbl kk15, keep_cell hk hbl kk16, keep_cell hk hbl kk17, keep_cell hk hbl kk18⟩); exact (by repeat' (first | (with_reducible exact Below.refl _ _) | (with_reducible assumption) | (with_reducible refine Below.drew ?_) | (with_reducible refine below_drewN ?_ _) | (with_reducible refine below_iterAt ?_ ?_ _ _) | (with_reducible refine below_iter ?_ ?_ _ _) | (with_reducible refine Below.alloc ?_ ?_ _) | (with_reducible refine Below.setCell ?_ ?_ _) | (with_reducible refine Below.trans ?_ (Below.mono (by assumption) ?_)) | (simp only [sz_alloc, sz_set, sz_drew, sz_drewN, sz_iterAt, sz_iter] at *; omega) | omega | (simp; done) | (simp; omega) | (apply Below.size; assumption) | (simp only [sz_drew, sz_drewN]; apply Below.size; assumption) | (refine Nat.le_trans ?_ (Below.size (by assumption)))))))
            (first
              | (go_at_call 14; refine (holds_any x v _ hxw hv hxl hxh sv).mono ?_; rintro e w' ⟨rfl, hb'⟩))
          have hS : Below wr.heap.size wr _ ∧ _ := (by assumption)
          have hbz := hS.1
          clear hS
          obtain ⟨H, hH⟩ : ∃ H, holdsB x v = H := ⟨_, rfl⟩
          rw [hH] at HSUC ⊢
          go_wp2_with fail
          go_roundg (gk - 1)
          case measure => omega
          case rel => exact ⟨j + 1, by omega, by omega, by rw [HSUC.out]; rfl, by go_num, (by repeat' (first | (with_reducible exact Below.refl _ _) | (with_reducible assumption) | (with_reducible refine Below.drew ?_) | (with_reducible refine below_drewN ?_ _) | (with_reducible refine below_iterAt ?_ ?_ _ _) | (with_reducible refine below_iter ?_ ?_ _ _) | (with_reducible refine Below.alloc ?_ ?_ _) | (with_reducible refine Below.setCell ?_ ?_ _) | (with_reducible refine Below.trans ?_ (Below.mono (by assumption) ?_)) | (simp only [sz_alloc, sz_set, sz_drew, sz_drewN, sz_iterAt, sz_iter] at *; omega) | omega | (simp; done) | (simp; omega) | (apply Below.size; assumption) | (simp only [sz_drew, sz_drewN]; apply Below.size; assumption) | (refine Nat.le_trans ?_ (Below.size (by assumption)))))⟩
        · go_wp2_with fail
          go_quiet (fail)
          go_wp2_with fail
          go_roundg (gk - 1)
          case measure => omega
          case rel => exact ⟨j + 1, by omega, by omega, by rw [HSUC.out]; rfl, by go_num, (by repeat' (first | (with_reducible exact Below.refl _ _) | (with_reducible assumption) | (with_reducible refine Below.drew ?_) | (with_reducible refine below_drewN ?_ _) | (with_reducible refine below_iterAt ?_ ?_ _ _) | (with_reducible refine below_iter ?_ ?_ _ _) | (with_reducible refine Below.alloc ?_ ?_ _) | (with_reducible refine Below.setCell ?_ ?_ _) | (with_reducible refine Below.trans ?_ (Below.mono (by assumption) ?_)) | (simp only [sz_alloc, sz_set, sz_drew, sz_drewN, sz_iterAt, sz_iter] at *; omega) | omega | (simp; done) | (simp; omega) | (apply Below.size; assumption) | (simp only [sz_drew, sz_drewN]; apply Below.size; assumption) | (refine Nat.le_trans ?_ (Below.size (by assumption)))))⟩
      · have hje : j = c.ts.length := by omega
        subst hje
        have i1 : ¬ ((c.ts.length : Int) < (c.ts.length : Int)) := by omega
        rw [List.take_length]
        generalize hS : c.ts.any (fun t => holdsB t v) = S at *
        go_wp2_with fail
        go_ret
        cases S <;> cases hcn : c.neg <;> exact ⟨ret_bool (by rw [HC.out, hcn]; simp), (by repeat' (first | (with_reducible exact Below.refl _ _) | (with_reducible assumption) | (with_reducible refine Below.drew ?_) | (with_reducible refine below_drewN ?_ _) | (with_reducible refine below_iterAt ?_ ?_ _ _) | (with_reducible refine below_iter ?_ ?_ _ _) | (with_reducible refine Below.alloc ?_ ?_ _) | (with_reducible refine Below.setCell ?_ ?_ _) | (with_reducible refine Below.trans ?_ (Below.mono (by assumption) ?_)) | (simp only [sz_alloc, sz_set, sz_drew, sz_drewN, sz_iterAt, sz_iter] at *; omega) | omega | (simp; done) | (simp; omega) | (apply Below.size; assumption) | (simp only [sz_drew, sz_drewN]; apply Below.size; assumption) | (refine Nat.le_trans ?_ (Below.size (by assumption)))))⟩
  · have HC : Hid (C = true) := by rw [← hC]; unfold refAllB; rw [ca]; exact rfl
    clear hC
    go_enter Tryd.func11, Tryd.ntmps11
    go_wp2_with fail
    go_ret
    exact ⟨ret_bool HC.out.symm, (by repeat' (first | (with_reducible exact Below.refl _ _) | (with_reducible assumption) | (with_reducible refine Below.drew ?_) | (with_reducible refine below_drewN ?_ _) | (with_reducible refine below_iterAt ?_ ?_ _ _) | (with_reducible refine below_iter ?_ ?_ _ _) | (with_reducible refine Below.alloc ?_ ?_ _) | (with_reducible refine Below.setCell ?_ ?_ _) | (with_reducible refine Below.trans ?_ (Below.mono (by assumption) ?_)) | (simp only [sz_alloc, sz_set, sz_drew, sz_drewN, sz_iterAt, sz_iter] at *; omega) | omega | (simp; done) | (simp; omega) | (apply Below.size; assumption) | (simp only [sz_drew, sz_drewN]; apply Below.size; assumption) | (refine Nat.le_trans ?_ (Below.size (by assumption)))))⟩
end Go.Proofs.YtogegempbjpdiaaDoor
