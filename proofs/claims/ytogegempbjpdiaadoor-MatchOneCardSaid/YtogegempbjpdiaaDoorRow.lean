/- soffit/match.Row, walked. -/
import Derived.Test.YtogegempbjpdiaaDoorMatchAll
set_option linter.unusedSimpArgs false
set_option linter.unusedVariables false
namespace Go.Proofs.YtogegempbjpdiaaDoor
open Go.RowKit

/-- a cell where it lies -/
structure CelAt where
  c : Cel
  A : Option Addr
  cap : Nat
def CelAt.cells (x : CelAt) : List Value := [.bool x.c.any, .bool x.c.neg, .slice x.A x.c.ts.length x.cap]
def Vl.cells5 (v : Vl) : List Value := [.int .i64 v.k, .int .i64 v.n, .int .i64 v.s, .string v.t, .int .i64 v.i]
structure CelAt.ok (x : CelAt) (w : World) : Prop where
  rd : RdL w 13 x.A (x.c.ts.map Tst.cells)
  wf : ∀ t ∈ x.c.ts, t.wf
  len : x.c.ts.length ≤ 9223372036854775807
theorem CelAt.ok.below {x : CelAt} {w w' : World} (h : x.ok w) (hb : Below w.heap.size w w') : x.ok w' := ⟨h.rd.below hb, h.wf, h.len⟩

def rowF : List (Cel × Vl) → Bool → Value
  | [], out => .tuple #[.bool out, .int .i64 0]
  | (c, v) :: r, out => if (uSndB c && sndB v) = true then rowF r (out && allB c v) else .tuple #[.bool false, .int .i64 2]
def rowZip (cs : List CelAt) (vs : List Vl) (j : Nat) : List (Cel × Vl) := ((cs.map CelAt.c).zip vs).drop j
def rowRes (cs : List CelAt) (vs : List Vl) : Value := if cs.length = vs.length then rowF (rowZip cs vs 0) true else .tuple #[.bool false, .int .i64 1]
theorem rowZip_step {cs : List CelAt} {vs : List Vl} {j : Nat} (hj : j < cs.length) (hv : j < vs.length) :
    rowZip cs vs j = ((cs[j]'hj).c, vs[j]'hv) :: rowZip cs vs (j + 1) := by
  unfold rowZip
  rw [List.drop_eq_getElem_cons (by simp; omega)]
  simp
theorem rowZip_end {cs : List CelAt} {vs : List Vl} {j : Nat} (hj : ¬ j < cs.length) : rowZip cs vs j = [] := by
  unfold rowZip
  exact List.drop_eq_nil_of_le (by simp; omega)
theorem rowF_yes {c : Cel} {v : Vl} {r : List (Cel × Vl)} {o : Bool} (h : (uSndB c && sndB v) = true) : rowF ((c, v) :: r) o = rowF r (o && allB c v) := by
  show (if _ then _ else _) = _; rw [if_pos h]
theorem rowF_no {c : Cel} {v : Vl} {r : List (Cel × Vl)} {o : Bool} (h : (uSndB c && sndB v) = false) : rowF ((c, v) :: r) o = .tuple #[.bool false, .int .i64 2] := by
  show (if _ then _ else _) = _; rw [if_neg (by rw [h]; simp)]

set_option maxRecDepth 100000 in
set_option maxHeartbeats 1600000 in
theorem row_any (cs : List CelAt) (vs : List Vl) (A B : Option Addr) (ca cb : Nat) (w : World) (hA : RdL w 3 A (cs.map CelAt.cells)) (hB : RdL w 5 B (vs.map Vl.cells5))
    (hcs : ∀ x ∈ cs, x.ok w) (hvs : ∀ v ∈ vs, v.wf) (hna : cs.length ≤ 9223372036854775807) (hE : Env w) :
    Calls Tryd.prog 12 #[.slice A cs.length ca, .slice B vs.length cb] w fun e w' =>
      e = .returned (rowRes cs vs) ∧ Below w.heap.size w w' := by
  obtain ⟨C, hC⟩ : ∃ C, rowRes cs vs = C := ⟨_, rfl⟩
  rw [hC]
  by_cases hlen : cs.length = vs.length
  · have HC : Hid (C = rowF (rowZip cs vs 0) true) := by rw [← hC]; unfold rowRes; rw [if_pos hlen]; exact rfl
    clear hC
    have e0 : ((cs.length : Int) != (vs.length : Int)) = false := by rw [bne_eq_false_iff_eq]; omega
    have HL := Lib.hid hlen
    clear hlen
    go_enter Tryd.func12, Tryd.ntmps12
    go_wp2_with fail
    clear e0
    go_loopg [6, 18] cs.length (fun k ov iv wr => ∃ (j : Nat) (o : Bool), j ≤ cs.length ∧ cs.length - j ≤ k ∧ Hid (C = rowF (rowZip cs vs j) o) ∧ ov = .bool o ∧ iv = .int .i64 j ∧ Below w.heap.size w wr)
    case atStart => exact ⟨0, true, by omega, by omega, HC, rfl, rfl, Below.refl _ _⟩
    case round =>
      obtain ⟨j, o, hj, hjk, hrow, rfl, rfl, hbel⟩ := hrel
      have hsz := hbel.size
      by_cases hlt : j < cs.length
      · have hlv : j < vs.length := by have := HL.out; omega
        obtain ⟨b, off, rfl, hx⟩ := (hA.below hbel).at_ hlt
        obtain ⟨b', off', rfl, hy⟩ := (hB.below hbel).at_ hlv
        have hxm := hcs _ (List.getElem_mem hlt)
        have hym := hvs _ (List.getElem_mem hlv)
        have hst := rowZip_step hlt hlv
        generalize hX : cs[j]'hlt = x at *
        generalize hY : vs[j]'hlv = y at *
        have hxo := hxm.below hbel
        have g0 : wr.cell? ⟨b, off + j * 3, none⟩ = some (.bool x.c.any) := hx.get 0 rfl
        have g1 : wr.cell? ⟨b, off + j * 3 + 1, none⟩ = some (.bool x.c.neg) := hx.get 1 rfl
        have g2 : wr.cell? ⟨b, off + j * 3 + 2, none⟩ = some (.slice x.A x.c.ts.length x.cap) := hx.get 2 rfl
        have y0 : wr.cell? ⟨b', off' + j * 5, none⟩ = some (.int .i64 y.k) := hy.get 0 rfl
        have y1 : wr.cell? ⟨b', off' + j * 5 + 1, none⟩ = some (.int .i64 y.n) := hy.get 1 rfl
        have y2 : wr.cell? ⟨b', off' + j * 5 + 2, none⟩ = some (.int .i64 y.s) := hy.get 2 rfl
        have y3 : wr.cell? ⟨b', off' + j * 5 + 3, none⟩ = some (.string y.t) := hy.get 3 rfl
        have y4 : wr.cell? ⟨b', off' + j * 5 + 4, none⟩ = some (.int .i64 y.i) := hy.get 4 rfl
        have hbl : b < wr.heap.size := cell_lt g0
        have hyl : b' < wr.heap.size := cell_lt y0
        have HST := Lib.hid hst
        clear hx hy hX hY hst hxm
        have i0 : (0 : Int) ≤ (j : Int) := by omega
        have i1 : (j : Int) < (cs.length : Int) := by omega
        have i2 : (j : Int) < (vs.length : Int) := by omega
        have hEr := hE.below hbel
        go_wp2_with fail
        generalize hEW1 : wr.alloc _ = W1
        have hbW1 : Below wr.heap.size wr W1 := (by rw [← hEW1]; exact (by repeat' (first | (with_reducible exact Below.refl _ _) | (with_reducible assumption) | (with_reducible refine Below.drew ?_) | (with_reducible refine below_drewN ?_ _) | (with_reducible refine below_iterAt ?_ ?_ _ _) | (with_reducible refine below_iter ?_ ?_ _ _) | (with_reducible refine Below.alloc ?_ ?_ _) | (with_reducible refine Below.setCell ?_ ?_ _) | (with_reducible refine Below.trans ?_ (Below.mono (by assumption) ?_)) | (simp only [sz_alloc, sz_set, sz_drew, sz_drewN, sz_iterAt, sz_iter] at *; omega) | omega | (simp; done) | (simp; omega) | (apply Below.size; assumption) | (simp only [sz_drew, sz_drewN]; apply Below.size; assumption) | (refine Nat.le_trans ?_ (Below.size (by assumption))))))
        have lW1_0 : wr.heap.size < W1.heap.size := (by rw [← hEW1]; simp)
        have x0 : W1.cell? ⟨wr.heap.size, 0, none⟩ = some (.bool x.c.any) := by rw [← hEW1]; first | (simp [go_sem]; done) | (simp [go_sem, *]; done)
        have x1 : W1.cell? ⟨wr.heap.size, 1, none⟩ = some (.bool x.c.neg) := by rw [← hEW1]; first | (simp [go_sem]; done) | (simp [go_sem, *]; done)
        have x2 : W1.cell? ⟨wr.heap.size, 2, none⟩ = some (.slice x.A x.c.ts.length x.cap) := by rw [← hEW1]; first | (simp [go_sem]; done) | (simp [go_sem, *]; done)
        clear hEW1
        have z0 := cell_below hbW1 y0
        have z1 := cell_below hbW1 y1
        have z2 := cell_below hbW1 y2
        have z3 := cell_below hbW1 y3
        have z4 := cell_below hbW1 y4
        have hyl1 : b' < W1.heap.size := cell_lt z0
        clear y0 y1 y2 y3 y4 g0 g1 g2
        have hxo1 := hxo.below hbW1
        have hE1 := hEr.below hbW1
        cases sg : (uSndB x.c && sndB y)
        · have hres : allRes x.c y = .tuple #[.bool false, .int .i64 2] := by unfold allRes; rw [sg]; rfl
          have HD : Hid (C = .tuple #[.bool false, .int .i64 2]) := by show C = _; rw [hrow.out, HST.out, rowF_no sg]
          have kk0 : W1.cell? ⟨wr.heap.size, 0, none⟩ = some (.bool x.c.any) := (by first | (simp [go_sem]; done) | (simp [go_sem, *]; done))
          have kk1 : W1.cell? ⟨wr.heap.size, 1, none⟩ = some (.bool x.c.neg) := (by first | (simp [go_sem]; done) | (simp [go_sem, *]; done))
          have kk2 : W1.cell? ⟨wr.heap.size, 2, none⟩ = some (.slice x.A x.c.ts.length x.cap) := (by first | (simp [go_sem]; done) | (simp [go_sem, *]; done))
          have kk3 : W1.cell? ⟨b', off' + j * 5, none⟩ = some (.int .i64 y.k) := (by first | (simp [go_sem]; done) | (simp [go_sem, *]; done))
          have kk4 : W1.cell? ⟨b', off' + j * 5 + 1, none⟩ = some (.int .i64 y.n) := (by first | (simp [go_sem]; done) | (simp [go_sem, *]; done))
          have kk5 : W1.cell? ⟨b', off' + j * 5 + 2, none⟩ = some (.int .i64 y.s) := (by first | (simp [go_sem]; done) | (simp [go_sem, *]; done))
          have kk6 : W1.cell? ⟨b', off' + j * 5 + 3, none⟩ = some (.string y.t) := (by first | (simp [go_sem]; done) | (simp [go_sem, *]; done))
          have kk7 : W1.cell? ⟨b', off' + j * 5 + 4, none⟩ = some (.int .i64 y.i) := (by first | (simp [go_sem]; done) | (simp [go_sem, *]; done))
          go_region_held3 (fun w' => Below W1.heap.size W1 w' ∧ w'.cell? ⟨wr.heap.size, 0, none⟩ = some (.bool x.c.any) ∧ w'.cell? ⟨wr.heap.size, 1, none⟩ = some (.bool x.c.neg) ∧ w'.cell? ⟨wr.heap.size, 2, none⟩ = some (.slice x.A x.c.ts.length x.cap) ∧ w'.cell? ⟨b', off' + j * 5, none⟩ = some (.int .i64 y.k) ∧ w'.cell? ⟨b', off' + j * 5 + 1, none⟩ = some (.int .i64 y.n) ∧ w'.cell? ⟨b', off' + j * 5 + 2, none⟩ = some (.int .i64 y.s) ∧ w'.cell? ⟨b', off' + j * 5 + 3, none⟩ = some (.string y.t) ∧ w'.cell? ⟨b', off' + j * 5 + 4, none⟩ = some (.int .i64 y.i)) ((refine and_keep ?_ (fun hk => ⟨keep_cell hk lW1_0 kk0, keep_cell hk lW1_0 kk1, keep_cell hk lW1_0 kk2, keep_cell hk hyl1 kk3, keep_cell hk hyl1 kk4, keep_cell hk hyl1 kk5, keep_cell hk hyl1 kk6, keep_cell hk hyl1 kk7⟩); exact (by repeat' (first | (with_reducible exact Below.refl _ _) | (with_reducible assumption) | (with_reducible refine Below.drew ?_) | (with_reducible refine below_drewN ?_ _) | (with_reducible refine below_iterAt ?_ ?_ _ _) | (with_reducible refine below_iter ?_ ?_ _ _) | (with_reducible refine Below.alloc ?_ ?_ _) | (with_reducible refine Below.setCell ?_ ?_ _) | (with_reducible refine Below.trans ?_ (Below.mono (by assumption) ?_)) | (simp only [sz_alloc, sz_set, sz_drew, sz_drewN, sz_iterAt, sz_iter] at *; omega) | omega | (simp; done) | (simp; omega) | (apply Below.size; assumption) | (simp only [sz_drew, sz_drewN]; apply Below.size; assumption) | (refine Nat.le_trans ?_ (Below.size (by assumption)))))))
            (first
              | (go_at_call 8; refine (mAll_any x.c y x.A x.cap _ (hxo1.rd.below (And.left (by assumption))) hxo1.wf hym hxo1.len (hE1.below (And.left (by assumption)))).mono ?_; rintro e w' ⟨rfl, hb'⟩; rw [hres]))
          have hS : Below W1.heap.size W1 _ ∧ _ := (by assumption)
          have hbz := hS.1
          clear hS
          go_wp2_with fail
          go_ret2
          exact ⟨by rw [HD.out]; rfl, (by repeat' (first | (with_reducible exact Below.refl _ _) | (with_reducible assumption) | (with_reducible refine Below.drew ?_) | (with_reducible refine below_drewN ?_ _) | (with_reducible refine below_iterAt ?_ ?_ _ _) | (with_reducible refine below_iter ?_ ?_ _ _) | (with_reducible refine Below.alloc ?_ ?_ _) | (with_reducible refine Below.setCell ?_ ?_ _) | (with_reducible refine Below.trans ?_ (Below.mono (by assumption) ?_)) | (simp only [sz_alloc, sz_set, sz_drew, sz_drewN, sz_iterAt, sz_iter] at *; omega) | omega | (simp; done) | (simp; omega) | (apply Below.size; assumption) | (simp only [sz_drew, sz_drewN]; apply Below.size; assumption) | (refine Nat.le_trans ?_ (Below.size (by assumption)))))⟩
        · have hres : allRes x.c y = .tuple #[.bool (allB x.c y), .int .i64 0] := by unfold allRes; rw [sg]; rfl
          have HD : Hid (C = rowF (rowZip cs vs (j + 1)) (o && allB x.c y)) := by show C = _; rw [hrow.out, HST.out, rowF_yes sg]
          generalize allB x.c y = Q at *
          cases o
          all_goals
            have kk0 : W1.cell? ⟨wr.heap.size, 0, none⟩ = some (.bool x.c.any) := (by first | (simp [go_sem]; done) | (simp [go_sem, *]; done))
            have kk1 : W1.cell? ⟨wr.heap.size, 1, none⟩ = some (.bool x.c.neg) := (by first | (simp [go_sem]; done) | (simp [go_sem, *]; done))
            have kk2 : W1.cell? ⟨wr.heap.size, 2, none⟩ = some (.slice x.A x.c.ts.length x.cap) := (by first | (simp [go_sem]; done) | (simp [go_sem, *]; done))
            have kk3 : W1.cell? ⟨b', off' + j * 5, none⟩ = some (.int .i64 y.k) := (by first | (simp [go_sem]; done) | (simp [go_sem, *]; done))
            have kk4 : W1.cell? ⟨b', off' + j * 5 + 1, none⟩ = some (.int .i64 y.n) := (by first | (simp [go_sem]; done) | (simp [go_sem, *]; done))
            have kk5 : W1.cell? ⟨b', off' + j * 5 + 2, none⟩ = some (.int .i64 y.s) := (by first | (simp [go_sem]; done) | (simp [go_sem, *]; done))
            have kk6 : W1.cell? ⟨b', off' + j * 5 + 3, none⟩ = some (.string y.t) := (by first | (simp [go_sem]; done) | (simp [go_sem, *]; done))
            have kk7 : W1.cell? ⟨b', off' + j * 5 + 4, none⟩ = some (.int .i64 y.i) := (by first | (simp [go_sem]; done) | (simp [go_sem, *]; done))
            go_region_held3 (fun w' => Below W1.heap.size W1 w' ∧ w'.cell? ⟨wr.heap.size, 0, none⟩ = some (.bool x.c.any) ∧ w'.cell? ⟨wr.heap.size, 1, none⟩ = some (.bool x.c.neg) ∧ w'.cell? ⟨wr.heap.size, 2, none⟩ = some (.slice x.A x.c.ts.length x.cap) ∧ w'.cell? ⟨b', off' + j * 5, none⟩ = some (.int .i64 y.k) ∧ w'.cell? ⟨b', off' + j * 5 + 1, none⟩ = some (.int .i64 y.n) ∧ w'.cell? ⟨b', off' + j * 5 + 2, none⟩ = some (.int .i64 y.s) ∧ w'.cell? ⟨b', off' + j * 5 + 3, none⟩ = some (.string y.t) ∧ w'.cell? ⟨b', off' + j * 5 + 4, none⟩ = some (.int .i64 y.i)) ((refine and_keep ?_ (fun hk => ⟨keep_cell hk lW1_0 kk0, keep_cell hk lW1_0 kk1, keep_cell hk lW1_0 kk2, keep_cell hk hyl1 kk3, keep_cell hk hyl1 kk4, keep_cell hk hyl1 kk5, keep_cell hk hyl1 kk6, keep_cell hk hyl1 kk7⟩); exact (by repeat' (first | (with_reducible exact Below.refl _ _) | (with_reducible assumption) | (with_reducible refine Below.drew ?_) | (with_reducible refine below_drewN ?_ _) | (with_reducible refine below_iterAt ?_ ?_ _ _) | (with_reducible refine below_iter ?_ ?_ _ _) | (with_reducible refine Below.alloc ?_ ?_ _) | (with_reducible refine Below.setCell ?_ ?_ _) | (with_reducible refine Below.trans ?_ (Below.mono (by assumption) ?_)) | (simp only [sz_alloc, sz_set, sz_drew, sz_drewN, sz_iterAt, sz_iter] at *; omega) | omega | (simp; done) | (simp; omega) | (apply Below.size; assumption) | (simp only [sz_drew, sz_drewN]; apply Below.size; assumption) | (refine Nat.le_trans ?_ (Below.size (by assumption)))))))
              (first
                | (go_at_call 8; refine (mAll_any x.c y x.A x.cap _ (hxo1.rd.below (And.left (by assumption))) hxo1.wf hym hxo1.len (hE1.below (And.left (by assumption)))).mono ?_; rintro e w' ⟨rfl, hb'⟩; rw [hres]))
            have hS : Below W1.heap.size W1 _ ∧ _ := (by assumption)
            have hbz := hS.1
            clear hS
            go_wp2_with fail
            go_roundg (gk - 1)
            case measure => omega
            case rel => exact ⟨j + 1, _, by omega, by omega, HD, (by first | rfl | simp), by go_num, (by repeat' (first | (with_reducible exact Below.refl _ _) | (with_reducible assumption) | (with_reducible refine Below.drew ?_) | (with_reducible refine below_drewN ?_ _) | (with_reducible refine below_iterAt ?_ ?_ _ _) | (with_reducible refine below_iter ?_ ?_ _ _) | (with_reducible refine Below.alloc ?_ ?_ _) | (with_reducible refine Below.setCell ?_ ?_ _) | (with_reducible refine Below.trans ?_ (Below.mono (by assumption) ?_)) | (simp only [sz_alloc, sz_set, sz_drew, sz_drewN, sz_iterAt, sz_iter] at *; omega) | omega | (simp; done) | (simp; omega) | (apply Below.size; assumption) | (simp only [sz_drew, sz_drewN]; apply Below.size; assumption) | (refine Nat.le_trans ?_ (Below.size (by assumption)))))⟩
      · have hrz := Lib.hid (rowZip_end (vs := vs) hlt)
        have i1 : ¬ ((j : Int) < (cs.length : Int)) := by omega
        have i2 : ¬ ((j : Int) < (vs.length : Int)) := by have := HL.out; omega
        go_wp2_with fail
        go_ret2
        exact ⟨by rw [hrow.out, hrz.out]; rfl, (by repeat' (first | (with_reducible exact Below.refl _ _) | (with_reducible assumption) | (with_reducible refine Below.drew ?_) | (with_reducible refine below_drewN ?_ _) | (with_reducible refine below_iterAt ?_ ?_ _ _) | (with_reducible refine below_iter ?_ ?_ _ _) | (with_reducible refine Below.alloc ?_ ?_ _) | (with_reducible refine Below.setCell ?_ ?_ _) | (with_reducible refine Below.trans ?_ (Below.mono (by assumption) ?_)) | (simp only [sz_alloc, sz_set, sz_drew, sz_drewN, sz_iterAt, sz_iter] at *; omega) | omega | (simp; done) | (simp; omega) | (apply Below.size; assumption) | (simp only [sz_drew, sz_drewN]; apply Below.size; assumption) | (refine Nat.le_trans ?_ (Below.size (by assumption)))))⟩
  · have HC : Hid (C = .tuple #[.bool false, .int .i64 1]) := by rw [← hC]; unfold rowRes; rw [if_neg hlen]; exact rfl
    clear hC
    have e0 : ((cs.length : Int) != (vs.length : Int)) = true := by rw [bne_iff_ne]; omega
    go_enter Tryd.func12, Tryd.ntmps12
    go_wp2_with fail
    go_ret2
    exact ⟨by rw [HC.out]; rfl, (by repeat' (first | (with_reducible exact Below.refl _ _) | (with_reducible assumption) | (with_reducible refine Below.drew ?_) | (with_reducible refine below_drewN ?_ _) | (with_reducible refine below_iterAt ?_ ?_ _ _) | (with_reducible refine below_iter ?_ ?_ _ _) | (with_reducible refine Below.alloc ?_ ?_ _) | (with_reducible refine Below.setCell ?_ ?_ _) | (with_reducible refine Below.trans ?_ (Below.mono (by assumption) ?_)) | (simp only [sz_alloc, sz_set, sz_drew, sz_drewN, sz_iterAt, sz_iter] at *; omega) | omega | (simp; done) | (simp; omega) | (apply Below.size; assumption) | (simp only [sz_drew, sz_drewN]; apply Below.size; assumption) | (refine Nat.le_trans ?_ (Below.size (by assumption)))))⟩
end Go.Proofs.YtogegempbjpdiaaDoor
