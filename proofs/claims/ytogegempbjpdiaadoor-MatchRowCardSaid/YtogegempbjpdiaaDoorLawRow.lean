/- soffitlaw12.MatchRow, walked. -/
import Derived.Test.YtogegempbjpdiaaDoorAwake
import Derived.Test.YtogegempbjpdiaaDoorRUSound
set_option linter.unusedSimpArgs false
set_option linter.unusedVariables false
namespace Go.Proofs.YtogegempbjpdiaaDoor
open Go.RowKit

def sp (p : Cel × Vl) : Bool := uSndB p.1 && sndB p.2
def ap (p : Cel × Vl) : Bool := sp p && allB p.1 p.2
theorem rowF_eq : ∀ (l : List (Cel × Vl)) (o : Bool), rowF l o = if l.all sp = true then .tuple #[.bool (o && l.all ap), .int .i64 0] else .tuple #[.bool false, .int .i64 2]
  | [], o => by simp [rowF]
  | (c, v) :: r, o => by
    cases h : (uSndB c && sndB v)
    · rw [rowF_no h]
      have : sp (c, v) = false := h
      simp [this]
    · rw [rowF_yes h, rowF_eq r]
      have h1 : sp (c, v) = true := h
      have h2 : ap (c, v) = allB c v := by unfold ap; rw [h1]; simp
      rw [List.all_cons, List.all_cons, h1, h2, Bool.true_and]
      simp [Bool.and_assoc]
theorem all_take_succ {α : Type} {p : α → Bool} {xs : List α} {j : Nat} (hj : j < xs.length) : (xs.take (j + 1)).all p = ((xs.take j).all p && p (xs[j]'hj)) := by
  rw [List.take_succ_eq_append_getElem hj, List.all_append]; simp
theorem ap_sp {l : List (Cel × Vl)} (h : l.all ap = true) : l.all sp = true := by
  rw [List.all_eq_true] at h ⊢
  intro x hx
  have := h x hx
  unfold ap at this
  simp at this
  exact this.1
def zsOf (cs : List CelAt) (vs : List Vl) : List (Cel × Vl) := (cs.map CelAt.c).zip vs
theorem rowRes_eq {cs : List CelAt} {vs : List Vl} (h : cs.length = vs.length) : rowRes cs vs = if (zsOf cs vs).all sp = true then .tuple #[.bool ((zsOf cs vs).all ap), .int .i64 0] else .tuple #[.bool false, .int .i64 2] := by
  unfold rowRes
  rw [if_pos h, rowF_eq]
  rfl
theorem zs_len {cs : List CelAt} {vs : List Vl} (h : cs.length = vs.length) : (zsOf cs vs).length = cs.length := by
  unfold zsOf
  rw [List.length_zip, List.length_map, h, Nat.min_self]
theorem zs_get {cs : List CelAt} {vs : List Vl} {j : Nat} (h1 : j < cs.length) (h2 : j < vs.length) (h : j < (zsOf cs vs).length) : (zsOf cs vs)[j]'h = ((cs[j]'h1).c, vs[j]'h2) := by
  simp [zsOf]

set_option maxRecDepth 100000 in
set_option maxHeartbeats 3200000 in
theorem lawRow_any (cs : List CelAt) (vs : List Vl) (A B : Option Addr) (ca cb : Nat) (w : World) (hA : RdL w 3 A (cs.map CelAt.cells)) (hB : RdL w 5 B (vs.map Vl.cells5))
    (hcs : ∀ x ∈ cs, x.ok w) (hvs : ∀ v ∈ vs, v.wf) (hna : cs.length ≤ 9223372036854775807) (hE : Env w) :
    Calls Tryd.prog 4 #[.slice A cs.length ca, .slice B vs.length cb] w fun e w' =>
      e = .returned (.bool true) ∧ Below w.heap.size w w' := by
  by_cases hlen : cs.length = vs.length
  · obtain ⟨q, e, hrow, hfin⟩ : ∃ (q : Bool) (e : Int), rowRes cs vs = .tuple #[.bool q, .int .i64 e] ∧ (((zsOf cs vs).all sp = false ∧ q = false ∧ e = 2) ∨ ((zsOf cs vs).all sp = true ∧ e = 0 ∧ q = (zsOf cs vs).all ap)) := by
      rw [rowRes_eq hlen]
      cases (zsOf cs vs).all sp
      · exact ⟨false, 2, rfl, Or.inl ⟨rfl, rfl, rfl⟩⟩
      · exact ⟨_, 0, rfl, Or.inr ⟨rfl, rfl, rfl⟩⟩
    have e0 : ((cs.length : Int) != (vs.length : Int)) = false := by rw [bne_eq_false_iff_eq]; omega
    have HL := Lib.hid hlen
    have HF := Lib.hid hfin
    clear hlen hfin
    go_enter Tryd.func4, Tryd.ntmps4
    go_wp2_with fail
    refine (row_any cs vs A B ca cb w hA hB hcs hvs hna hE).mono ?_
    rintro e w1 ⟨rfl, hb1⟩
    rw [hrow]
    clear hrow
    go_wp2_with fail
    clear e0
    go_loopg [7, 8, 9] cs.length (fun k av mv iv wr => ∃ j : Nat, j ≤ cs.length ∧ cs.length - j ≤ k ∧ av = .bool (((zsOf cs vs).take j).all ap) ∧ mv = .bool (((zsOf cs vs).take j).all sp) ∧ iv = .int .i64 j ∧ Below w.heap.size w wr)
    case atStart => exact ⟨0, by omega, by omega, rfl, rfl, rfl, hb1⟩
    case round =>
      obtain ⟨j, hj, hjk, rfl, rfl, rfl, hbel⟩ := hrel
      have hsz := hbel.size
      by_cases hlt : j < cs.length
      · have hlv : j < vs.length := by have := HL.out; omega
        have hlz : j < (zsOf cs vs).length := by rw [zs_len HL.out]; exact hlt
        obtain ⟨b, off, rfl, hx⟩ := (hA.below hbel).at_ hlt
        obtain ⟨b', off', rfl, hy⟩ := (hB.below hbel).at_ hlv
        have hxm := hcs _ (List.getElem_mem hlt)
        have hym := hvs _ (List.getElem_mem hlv)
        have hs1 := all_take_succ (p := sp) hlz
        have hs2 := all_take_succ (p := ap) hlz
        have hle := fun h => ap_sp (l := (zsOf cs vs).take j) h
        rw [zs_get hlt hlv hlz] at hs1 hs2
        generalize hX : cs[j]'hlt = x at *
        generalize hY : vs[j]'hlv = y at *
        generalize hM : ((zsOf cs vs).take j).all sp = M at *
        generalize hQ : ((zsOf cs vs).take j).all ap = Q at *
        have hxo := hxm.below hbel
        have g0 : wr.cell? ⟨b, off + j * 3, none⟩ = some (.bool x.c.any) := hx.get 0 rfl
        have g1 : wr.cell? ⟨b, off + j * 3 + 1, none⟩ = some (.bool x.c.neg) := hx.get 1 rfl
        have g2 : wr.cell? ⟨b, off + j * 3 + 2, none⟩ = some (.slice x.A x.c.ts.length x.cap) := hx.get 2 rfl
        have y0 : wr.cell? ⟨b', off' + j * 5, none⟩ = some (.int .i64 y.k) := hy.get 0 rfl
        have y1 : wr.cell? ⟨b', off' + j * 5 + 1, none⟩ = some (.int .i64 y.n) := hy.get 1 rfl
        have y2 : wr.cell? ⟨b', off' + j * 5 + 2, none⟩ = some (.int .i64 y.s) := hy.get 2 rfl
        have y3 : wr.cell? ⟨b', off' + j * 5 + 3, none⟩ = some (.string y.t) := hy.get 3 rfl
        have y4 : wr.cell? ⟨b', off' + j * 5 + 4, none⟩ = some (.int .i64 y.i) := hy.get 4 rfl
        have hbl : b < wr.heap.size := cell_lt g0
        have hyl : b' < wr.heap.size := cell_lt y0
        have HS1 := Lib.hid hs1
        have HS2 := Lib.hid hs2
        have hsp : sp (x.c, y) = (uSndB x.c && sndB y) := rfl
        have hap : ap (x.c, y) = (sp (x.c, y) && allB x.c y) := rfl
        have HSP := Lib.hid hsp
        have HAP := Lib.hid hap
        clear hx hy hX hY hM hQ hxm hs1 hs2 hsp hap
        have i0 : (0 : Int) ≤ (j : Int) := by omega
        have i1 : (j : Int) < (cs.length : Int) := by omega
        have i2 : (j : Int) < (vs.length : Int) := by omega
        cases M
        · have hq0 : Q = false := by cases Q; · rfl
                                     · have := hle rfl; simp at this
          subst hq0
          clear hle
          go_wp2_with fail
          go_quiet (fail)
          go_wp2_with fail
          go_quiet (fail)
          go_wp2_with fail
          go_roundg (gk - 1)
          case measure => omega
          case rel => exact ⟨j + 1, by omega, by omega, by rw [HS2.out]; rfl, by rw [HS1.out]; rfl, by go_num, (by repeat' (first | (with_reducible exact Below.refl _ _) | (with_reducible assumption) | (with_reducible refine Below.drew ?_) | (with_reducible refine below_drewN ?_ _) | (with_reducible refine below_iterAt ?_ ?_ _ _) | (with_reducible refine below_iter ?_ ?_ _ _) | (with_reducible refine Below.alloc ?_ ?_ _) | (with_reducible refine Below.setCell ?_ ?_ _) | (with_reducible refine Below.trans ?_ (Below.mono (by assumption) ?_)) | (simp only [sz_alloc, sz_set, sz_drew, sz_drewN, sz_iterAt, sz_iter] at *; omega) | omega | (simp; done) | (simp; omega) | (apply Below.size; assumption) | (simp only [sz_drew, sz_drewN]; apply Below.size; assumption) | (refine Nat.le_trans ?_ (Below.size (by assumption)))))⟩
        · clear hle
          cases sg : (uSndB x.c && sndB y)
          · have HN1 : Hid (((zsOf cs vs).take (j + 1)).all sp = false) := by show _ = _; rw [HS1.out, HSP.out, sg]; rfl
            have HN2 : Hid (((zsOf cs vs).take (j + 1)).all ap = false) := by show _ = _; rw [HS2.out, HAP.out, HSP.out, sg]; simp
            cases Q
            all_goals
              go_wp2_with fail
              have kk0 : wr.cell? ⟨b, off + j * 3, none⟩ = some (.bool x.c.any) := (by first | (simp [go_sem]; done) | (simp [go_sem, *]; done))
              have kk1 : wr.cell? ⟨b, off + j * 3 + 1, none⟩ = some (.bool x.c.neg) := (by first | (simp [go_sem]; done) | (simp [go_sem, *]; done))
              have kk2 : wr.cell? ⟨b, off + j * 3 + 2, none⟩ = some (.slice x.A x.c.ts.length x.cap) := (by first | (simp [go_sem]; done) | (simp [go_sem, *]; done))
              have kk3 : wr.cell? ⟨b', off' + j * 5, none⟩ = some (.int .i64 y.k) := (by first | (simp [go_sem]; done) | (simp [go_sem, *]; done))
              have kk4 : wr.cell? ⟨b', off' + j * 5 + 1, none⟩ = some (.int .i64 y.n) := (by first | (simp [go_sem]; done) | (simp [go_sem, *]; done))
              have kk5 : wr.cell? ⟨b', off' + j * 5 + 2, none⟩ = some (.int .i64 y.s) := (by first | (simp [go_sem]; done) | (simp [go_sem, *]; done))
              have kk6 : wr.cell? ⟨b', off' + j * 5 + 3, none⟩ = some (.string y.t) := (by first | (simp [go_sem]; done) | (simp [go_sem, *]; done))
              have kk7 : wr.cell? ⟨b', off' + j * 5 + 4, none⟩ = some (.int .i64 y.i) := (by first | (simp [go_sem]; done) | (simp [go_sem, *]; done))
              go_region_held3 (fun w' => Below wr.heap.size wr w' ∧ w'.cell? ⟨b, off + j * 3, none⟩ = some (.bool x.c.any) ∧ w'.cell? ⟨b, off + j * 3 + 1, none⟩ = some (.bool x.c.neg) ∧ w'.cell? ⟨b, off + j * 3 + 2, none⟩ = some (.slice x.A x.c.ts.length x.cap) ∧ w'.cell? ⟨b', off' + j * 5, none⟩ = some (.int .i64 y.k) ∧ w'.cell? ⟨b', off' + j * 5 + 1, none⟩ = some (.int .i64 y.n) ∧ w'.cell? ⟨b', off' + j * 5 + 2, none⟩ = some (.int .i64 y.s) ∧ w'.cell? ⟨b', off' + j * 5 + 3, none⟩ = some (.string y.t) ∧ w'.cell? ⟨b', off' + j * 5 + 4, none⟩ = some (.int .i64 y.i)) ((refine and_keep ?_ (fun hk => ⟨keep_cell hk hbl kk0, keep_cell hk hbl kk1, keep_cell hk hbl kk2, keep_cell hk hyl kk3, keep_cell hk hyl kk4, keep_cell hk hyl kk5, keep_cell hk hyl kk6, keep_cell hk hyl kk7⟩); exact (by repeat' (first | (with_reducible exact Below.refl _ _) | (with_reducible assumption) | (with_reducible refine Below.drew ?_) | (with_reducible refine below_drewN ?_ _) | (with_reducible refine below_iterAt ?_ ?_ _ _) | (with_reducible refine below_iter ?_ ?_ _ _) | (with_reducible refine Below.alloc ?_ ?_ _) | (with_reducible refine Below.setCell ?_ ?_ _) | (with_reducible refine Below.trans ?_ (Below.mono (by assumption) ?_)) | (simp only [sz_alloc, sz_set, sz_drew, sz_drewN, sz_iterAt, sz_iter] at *; omega) | omega | (simp; done) | (simp; omega) | (apply Below.size; assumption) | (simp only [sz_drew, sz_drewN]; apply Below.size; assumption) | (refine Nat.le_trans ?_ (Below.size (by assumption)))))))
                (first
                  | (go_at_call 9; refine (may_any x.c y x.A x.cap _ (hxo.rd.below (And.left (by assumption))) hxo.wf hym hxo.len).mono ?_; rintro e w' ⟨rfl, hb'⟩; rw [sg]))
              have hS : Below wr.heap.size wr _ ∧ _ := (by assumption)
              have hbz := hS.1
              clear hS
              go_wp2_with fail
              go_quiet (fail)
              go_wp2_with fail
              go_roundg (gk - 1)
              case measure => omega
              case rel => exact ⟨j + 1, by omega, by omega, by rw [HN2.out], by rw [HN1.out], by go_num, (by repeat' (first | (with_reducible exact Below.refl _ _) | (with_reducible assumption) | (with_reducible refine Below.drew ?_) | (with_reducible refine below_drewN ?_ _) | (with_reducible refine below_iterAt ?_ ?_ _ _) | (with_reducible refine below_iter ?_ ?_ _ _) | (with_reducible refine Below.alloc ?_ ?_ _) | (with_reducible refine Below.setCell ?_ ?_ _) | (with_reducible refine Below.trans ?_ (Below.mono (by assumption) ?_)) | (simp only [sz_alloc, sz_set, sz_drew, sz_drewN, sz_iterAt, sz_iter] at *; omega) | omega | (simp; done) | (simp; omega) | (apply Below.size; assumption) | (simp only [sz_drew, sz_drewN]; apply Below.size; assumption) | (refine Nat.le_trans ?_ (Below.size (by assumption)))))⟩
          · have hs : uSndB x.c = true ∧ sndB y = true := by simpa using sg
            have href := refAll_all hs.1 hs.2
            have HSS := Lib.hid hs
            clear hs
            have HN1 : Hid (((zsOf cs vs).take (j + 1)).all sp = true) := by show _ = _; rw [HS1.out, HSP.out, sg]; rfl
            have HN2 : Hid (((zsOf cs vs).take (j + 1)).all ap = (Q && allB x.c y)) := by show _ = _; rw [HS2.out, HAP.out, HSP.out, sg]; simp
            generalize allB x.c y = R at *
            cases Q
            · go_wp2_with fail
              have kk0 : wr.cell? ⟨b, off + j * 3, none⟩ = some (.bool x.c.any) := (by first | (simp [go_sem]; done) | (simp [go_sem, *]; done))
              have kk1 : wr.cell? ⟨b, off + j * 3 + 1, none⟩ = some (.bool x.c.neg) := (by first | (simp [go_sem]; done) | (simp [go_sem, *]; done))
              have kk2 : wr.cell? ⟨b, off + j * 3 + 2, none⟩ = some (.slice x.A x.c.ts.length x.cap) := (by first | (simp [go_sem]; done) | (simp [go_sem, *]; done))
              have kk3 : wr.cell? ⟨b', off' + j * 5, none⟩ = some (.int .i64 y.k) := (by first | (simp [go_sem]; done) | (simp [go_sem, *]; done))
              have kk4 : wr.cell? ⟨b', off' + j * 5 + 1, none⟩ = some (.int .i64 y.n) := (by first | (simp [go_sem]; done) | (simp [go_sem, *]; done))
              have kk5 : wr.cell? ⟨b', off' + j * 5 + 2, none⟩ = some (.int .i64 y.s) := (by first | (simp [go_sem]; done) | (simp [go_sem, *]; done))
              have kk6 : wr.cell? ⟨b', off' + j * 5 + 3, none⟩ = some (.string y.t) := (by first | (simp [go_sem]; done) | (simp [go_sem, *]; done))
              have kk7 : wr.cell? ⟨b', off' + j * 5 + 4, none⟩ = some (.int .i64 y.i) := (by first | (simp [go_sem]; done) | (simp [go_sem, *]; done))
              go_region_held3 (fun w' => Below wr.heap.size wr w' ∧ w'.cell? ⟨b, off + j * 3, none⟩ = some (.bool x.c.any) ∧ w'.cell? ⟨b, off + j * 3 + 1, none⟩ = some (.bool x.c.neg) ∧ w'.cell? ⟨b, off + j * 3 + 2, none⟩ = some (.slice x.A x.c.ts.length x.cap) ∧ w'.cell? ⟨b', off' + j * 5, none⟩ = some (.int .i64 y.k) ∧ w'.cell? ⟨b', off' + j * 5 + 1, none⟩ = some (.int .i64 y.n) ∧ w'.cell? ⟨b', off' + j * 5 + 2, none⟩ = some (.int .i64 y.s) ∧ w'.cell? ⟨b', off' + j * 5 + 3, none⟩ = some (.string y.t) ∧ w'.cell? ⟨b', off' + j * 5 + 4, none⟩ = some (.int .i64 y.i)) ((refine and_keep ?_ (fun hk => ⟨keep_cell hk hbl kk0, keep_cell hk hbl kk1, keep_cell hk hbl kk2, keep_cell hk hyl kk3, keep_cell hk hyl kk4, keep_cell hk hyl kk5, keep_cell hk hyl kk6, keep_cell hk hyl kk7⟩); exact (by repeat' (first | (with_reducible exact Below.refl _ _) | (with_reducible assumption) | (with_reducible refine Below.drew ?_) | (with_reducible refine below_drewN ?_ _) | (with_reducible refine below_iterAt ?_ ?_ _ _) | (with_reducible refine below_iter ?_ ?_ _ _) | (with_reducible refine Below.alloc ?_ ?_ _) | (with_reducible refine Below.setCell ?_ ?_ _) | (with_reducible refine Below.trans ?_ (Below.mono (by assumption) ?_)) | (simp only [sz_alloc, sz_set, sz_drew, sz_drewN, sz_iterAt, sz_iter] at *; omega) | omega | (simp; done) | (simp; omega) | (apply Below.size; assumption) | (simp only [sz_drew, sz_drewN]; apply Below.size; assumption) | (refine Nat.le_trans ?_ (Below.size (by assumption)))))))
                (first
                  | (go_at_call 9; refine (may_any x.c y x.A x.cap _ (hxo.rd.below (And.left (by assumption))) hxo.wf hym hxo.len).mono ?_; rintro e w' ⟨rfl, hb'⟩; rw [sg]))
              have hS : Below wr.heap.size wr _ ∧ _ := (by assumption)
              have hbz := hS.1
              clear hS
              go_wp2_with fail
              go_quiet (fail)
              go_wp2_with fail
              go_roundg (gk - 1)
              case measure => omega
              case rel => exact ⟨j + 1, by omega, by omega, by rw [HN2.out]; rfl, by rw [HN1.out], by go_num, (by repeat' (first | (with_reducible exact Below.refl _ _) | (with_reducible assumption) | (with_reducible refine Below.drew ?_) | (with_reducible refine below_drewN ?_ _) | (with_reducible refine below_iterAt ?_ ?_ _ _) | (with_reducible refine below_iter ?_ ?_ _ _) | (with_reducible refine Below.alloc ?_ ?_ _) | (with_reducible refine Below.setCell ?_ ?_ _) | (with_reducible refine Below.trans ?_ (Below.mono (by assumption) ?_)) | (simp only [sz_alloc, sz_set, sz_drew, sz_drewN, sz_iterAt, sz_iter] at *; omega) | omega | (simp; done) | (simp; omega) | (apply Below.size; assumption) | (simp only [sz_drew, sz_drewN]; apply Below.size; assumption) | (refine Nat.le_trans ?_ (Below.size (by assumption)))))⟩
            · go_wp2_with fail
              have kk0 : wr.cell? ⟨b, off + j * 3, none⟩ = some (.bool x.c.any) := (by first | (simp [go_sem]; done) | (simp [go_sem, *]; done))
              have kk1 : wr.cell? ⟨b, off + j * 3 + 1, none⟩ = some (.bool x.c.neg) := (by first | (simp [go_sem]; done) | (simp [go_sem, *]; done))
              have kk2 : wr.cell? ⟨b, off + j * 3 + 2, none⟩ = some (.slice x.A x.c.ts.length x.cap) := (by first | (simp [go_sem]; done) | (simp [go_sem, *]; done))
              have kk3 : wr.cell? ⟨b', off' + j * 5, none⟩ = some (.int .i64 y.k) := (by first | (simp [go_sem]; done) | (simp [go_sem, *]; done))
              have kk4 : wr.cell? ⟨b', off' + j * 5 + 1, none⟩ = some (.int .i64 y.n) := (by first | (simp [go_sem]; done) | (simp [go_sem, *]; done))
              have kk5 : wr.cell? ⟨b', off' + j * 5 + 2, none⟩ = some (.int .i64 y.s) := (by first | (simp [go_sem]; done) | (simp [go_sem, *]; done))
              have kk6 : wr.cell? ⟨b', off' + j * 5 + 3, none⟩ = some (.string y.t) := (by first | (simp [go_sem]; done) | (simp [go_sem, *]; done))
              have kk7 : wr.cell? ⟨b', off' + j * 5 + 4, none⟩ = some (.int .i64 y.i) := (by first | (simp [go_sem]; done) | (simp [go_sem, *]; done))
              go_region_held3 (fun w' => Below wr.heap.size wr w' ∧ w'.cell? ⟨b, off + j * 3, none⟩ = some (.bool x.c.any) ∧ w'.cell? ⟨b, off + j * 3 + 1, none⟩ = some (.bool x.c.neg) ∧ w'.cell? ⟨b, off + j * 3 + 2, none⟩ = some (.slice x.A x.c.ts.length x.cap) ∧ w'.cell? ⟨b', off' + j * 5, none⟩ = some (.int .i64 y.k) ∧ w'.cell? ⟨b', off' + j * 5 + 1, none⟩ = some (.int .i64 y.n) ∧ w'.cell? ⟨b', off' + j * 5 + 2, none⟩ = some (.int .i64 y.s) ∧ w'.cell? ⟨b', off' + j * 5 + 3, none⟩ = some (.string y.t) ∧ w'.cell? ⟨b', off' + j * 5 + 4, none⟩ = some (.int .i64 y.i)) ((refine and_keep ?_ (fun hk => ⟨keep_cell hk hbl kk0, keep_cell hk hbl kk1, keep_cell hk hbl kk2, keep_cell hk hyl kk3, keep_cell hk hyl kk4, keep_cell hk hyl kk5, keep_cell hk hyl kk6, keep_cell hk hyl kk7⟩); exact (by repeat' (first | (with_reducible exact Below.refl _ _) | (with_reducible assumption) | (with_reducible refine Below.drew ?_) | (with_reducible refine below_drewN ?_ _) | (with_reducible refine below_iterAt ?_ ?_ _ _) | (with_reducible refine below_iter ?_ ?_ _ _) | (with_reducible refine Below.alloc ?_ ?_ _) | (with_reducible refine Below.setCell ?_ ?_ _) | (with_reducible refine Below.trans ?_ (Below.mono (by assumption) ?_)) | (simp only [sz_alloc, sz_set, sz_drew, sz_drewN, sz_iterAt, sz_iter] at *; omega) | omega | (simp; done) | (simp; omega) | (apply Below.size; assumption) | (simp only [sz_drew, sz_drewN]; apply Below.size; assumption) | (refine Nat.le_trans ?_ (Below.size (by assumption)))))))
                (first
                  | (go_at_call 9; refine (may_any x.c y x.A x.cap _ (hxo.rd.below (And.left (by assumption))) hxo.wf hym hxo.len).mono ?_; rintro e w' ⟨rfl, hb'⟩; rw [sg]))
              rename_i hS
              obtain ⟨hbz, g0, g1, g2, y0, y1, y2, y3, y4⟩ := hS
              obtain ⟨Wz, hWz⟩ : ∃ W, W = w' := ⟨_, rfl⟩
              subst hWz
              have hbl2 := Nat.lt_of_lt_of_le hbl hbz.size
              have hyl2 := Nat.lt_of_lt_of_le hyl hbz.size
              have hxo2 := hxo.below hbz
              go_wp2_with fail
              have kk0 : Wz.cell? ⟨b, off + j * 3, none⟩ = some (.bool x.c.any) := (by first | (simp [go_sem]; done) | (simp [go_sem, *]; done))
              have kk1 : Wz.cell? ⟨b, off + j * 3 + 1, none⟩ = some (.bool x.c.neg) := (by first | (simp [go_sem]; done) | (simp [go_sem, *]; done))
              have kk2 : Wz.cell? ⟨b, off + j * 3 + 2, none⟩ = some (.slice x.A x.c.ts.length x.cap) := (by first | (simp [go_sem]; done) | (simp [go_sem, *]; done))
              have kk3 : Wz.cell? ⟨b', off' + j * 5, none⟩ = some (.int .i64 y.k) := (by first | (simp [go_sem]; done) | (simp [go_sem, *]; done))
              have kk4 : Wz.cell? ⟨b', off' + j * 5 + 1, none⟩ = some (.int .i64 y.n) := (by first | (simp [go_sem]; done) | (simp [go_sem, *]; done))
              have kk5 : Wz.cell? ⟨b', off' + j * 5 + 2, none⟩ = some (.int .i64 y.s) := (by first | (simp [go_sem]; done) | (simp [go_sem, *]; done))
              have kk6 : Wz.cell? ⟨b', off' + j * 5 + 3, none⟩ = some (.string y.t) := (by first | (simp [go_sem]; done) | (simp [go_sem, *]; done))
              have kk7 : Wz.cell? ⟨b', off' + j * 5 + 4, none⟩ = some (.int .i64 y.i) := (by first | (simp [go_sem]; done) | (simp [go_sem, *]; done))
              go_region_held3 (fun w' => Below Wz.heap.size Wz w' ∧ w'.cell? ⟨b, off + j * 3, none⟩ = some (.bool x.c.any) ∧ w'.cell? ⟨b, off + j * 3 + 1, none⟩ = some (.bool x.c.neg) ∧ w'.cell? ⟨b, off + j * 3 + 2, none⟩ = some (.slice x.A x.c.ts.length x.cap) ∧ w'.cell? ⟨b', off' + j * 5, none⟩ = some (.int .i64 y.k) ∧ w'.cell? ⟨b', off' + j * 5 + 1, none⟩ = some (.int .i64 y.n) ∧ w'.cell? ⟨b', off' + j * 5 + 2, none⟩ = some (.int .i64 y.s) ∧ w'.cell? ⟨b', off' + j * 5 + 3, none⟩ = some (.string y.t) ∧ w'.cell? ⟨b', off' + j * 5 + 4, none⟩ = some (.int .i64 y.i)) ((refine and_keep ?_ (fun hk => ⟨keep_cell hk hbl2 kk0, keep_cell hk hbl2 kk1, keep_cell hk hbl2 kk2, keep_cell hk hyl2 kk3, keep_cell hk hyl2 kk4, keep_cell hk hyl2 kk5, keep_cell hk hyl2 kk6, keep_cell hk hyl2 kk7⟩); exact (by repeat' (first | (with_reducible exact Below.refl _ _) | (with_reducible assumption) | (with_reducible refine Below.drew ?_) | (with_reducible refine below_drewN ?_ _) | (with_reducible refine below_iterAt ?_ ?_ _ _) | (with_reducible refine below_iter ?_ ?_ _ _) | (with_reducible refine Below.alloc ?_ ?_ _) | (with_reducible refine Below.setCell ?_ ?_ _) | (with_reducible refine Below.trans ?_ (Below.mono (by assumption) ?_)) | (simp only [sz_alloc, sz_set, sz_drew, sz_drewN, sz_iterAt, sz_iter] at *; omega) | omega | (simp; done) | (simp; omega) | (apply Below.size; assumption) | (simp only [sz_drew, sz_drewN]; apply Below.size; assumption) | (refine Nat.le_trans ?_ (Below.size (by assumption)))))))
                (first
                  | (go_at_call 11; refine (rAll_any x.c y x.A x.cap _ (hxo2.rd.below (And.left (by assumption))) hxo2.wf hym hxo2.len HSS.out.1 HSS.out.2).mono ?_; rintro e w' ⟨rfl, hb'⟩; rw [href]))
              have hS : Below Wz.heap.size Wz _ ∧ _ := (by assumption)
              have hbz2 := hS.1
              clear hS
              go_wp2_with fail
              go_roundg (gk - 1)
              case measure => omega
              case rel => exact ⟨j + 1, by omega, by omega, by rw [HN2.out]; rfl, by rw [HN1.out], by go_num, (by repeat' (first | (with_reducible exact Below.refl _ _) | (with_reducible assumption) | (with_reducible refine Below.drew ?_) | (with_reducible refine below_drewN ?_ _) | (with_reducible refine below_iterAt ?_ ?_ _ _) | (with_reducible refine below_iter ?_ ?_ _ _) | (with_reducible refine Below.alloc ?_ ?_ _) | (with_reducible refine Below.setCell ?_ ?_ _) | (with_reducible refine Below.trans ?_ (Below.mono (by assumption) ?_)) | (simp only [sz_alloc, sz_set, sz_drew, sz_drewN, sz_iterAt, sz_iter] at *; omega) | omega | (simp; done) | (simp; omega) | (apply Below.size; assumption) | (simp only [sz_drew, sz_drewN]; apply Below.size; assumption) | (refine Nat.le_trans ?_ (Below.size (by assumption)))))⟩
      · have hje : j = cs.length := by omega
        subst hje
        have i1 : ¬ ((cs.length : Int) < (cs.length : Int)) := by omega
        rw [← zs_len HL.out, List.take_length]
        have hfin := HF.out
        generalize (zsOf cs vs).all sp = M at *
        generalize (zsOf cs vs).all ap = Q at *
        clear HF
        rcases hfin with ⟨rfl, rfl, rfl⟩ | ⟨rfl, rfl, rfl⟩
        all_goals
          go_wp2_with fail
          refine (awake_any _ (hE.below (by repeat' (first | (with_reducible exact Below.refl _ _) | (with_reducible assumption) | (with_reducible refine Below.drew ?_) | (with_reducible refine below_drewN ?_ _) | (with_reducible refine below_iterAt ?_ ?_ _ _) | (with_reducible refine below_iter ?_ ?_ _ _) | (with_reducible refine Below.alloc ?_ ?_ _) | (with_reducible refine Below.setCell ?_ ?_ _) | (with_reducible refine Below.trans ?_ (Below.mono (by assumption) ?_)) | (simp only [sz_alloc, sz_set, sz_drew, sz_drewN, sz_iterAt, sz_iter] at *; omega) | omega | (simp; done) | (simp; omega) | (apply Below.size; assumption) | (simp only [sz_drew, sz_drewN]; apply Below.size; assumption) | (refine Nat.le_trans ?_ (Below.size (by assumption))))))).mono ?_
          rintro e w2 ⟨rfl, hb2⟩
          go_wp2_with fail
          go_ret
          exact ⟨ret_bool (by simp), (by repeat' (first | (with_reducible exact Below.refl _ _) | (with_reducible assumption) | (with_reducible refine Below.drew ?_) | (with_reducible refine below_drewN ?_ _) | (with_reducible refine below_iterAt ?_ ?_ _ _) | (with_reducible refine below_iter ?_ ?_ _ _) | (with_reducible refine Below.alloc ?_ ?_ _) | (with_reducible refine Below.setCell ?_ ?_ _) | (with_reducible refine Below.trans ?_ (Below.mono (by assumption) ?_)) | (simp only [sz_alloc, sz_set, sz_drew, sz_drewN, sz_iterAt, sz_iter] at *; omega) | omega | (simp; done) | (simp; omega) | (apply Below.size; assumption) | (simp only [sz_drew, sz_drewN]; apply Below.size; assumption) | (refine Nat.le_trans ?_ (Below.size (by assumption)))))⟩
  · have hrow : rowRes cs vs = .tuple #[.bool false, .int .i64 1] := by unfold rowRes; rw [if_neg hlen]
    have e0 : ((cs.length : Int) != (vs.length : Int)) = true := by simp; omega
    clear hlen
    go_enter Tryd.func4, Tryd.ntmps4
    go_wp2_with fail
    refine (row_any cs vs A B ca cb w hA hB hcs hvs hna hE).mono ?_
    rintro e w1 ⟨rfl, hb1⟩
    rw [hrow]
    clear hrow
    go_wp2_with fail
    refine (awake_any _ (hE.below (by repeat' (first | (with_reducible exact Below.refl _ _) | (with_reducible assumption) | (with_reducible refine Below.drew ?_) | (with_reducible refine below_drewN ?_ _) | (with_reducible refine below_iterAt ?_ ?_ _ _) | (with_reducible refine below_iter ?_ ?_ _ _) | (with_reducible refine Below.alloc ?_ ?_ _) | (with_reducible refine Below.setCell ?_ ?_ _) | (with_reducible refine Below.trans ?_ (Below.mono (by assumption) ?_)) | (simp only [sz_alloc, sz_set, sz_drew, sz_drewN, sz_iterAt, sz_iter] at *; omega) | omega | (simp; done) | (simp; omega) | (apply Below.size; assumption) | (simp only [sz_drew, sz_drewN]; apply Below.size; assumption) | (refine Nat.le_trans ?_ (Below.size (by assumption))))))).mono ?_
    rintro e w2 ⟨rfl, hb2⟩
    go_wp2_with fail
    go_ret
    exact ⟨ret_bool (by rfl), (by repeat' (first | (with_reducible exact Below.refl _ _) | (with_reducible assumption) | (with_reducible refine Below.drew ?_) | (with_reducible refine below_drewN ?_ _) | (with_reducible refine below_iterAt ?_ ?_ _ _) | (with_reducible refine below_iter ?_ ?_ _ _) | (with_reducible refine Below.alloc ?_ ?_ _) | (with_reducible refine Below.setCell ?_ ?_ _) | (with_reducible refine Below.trans ?_ (Below.mono (by assumption) ?_)) | (simp only [sz_alloc, sz_set, sz_drew, sz_drewN, sz_iterAt, sz_iter] at *; omega) | omega | (simp; done) | (simp; omega) | (apply Below.size; assumption) | (simp only [sz_drew, sz_drewN]; apply Below.size; assumption) | (refine Nat.le_trans ?_ (Below.size (by assumption)))))⟩
end Go.Proofs.YtogegempbjpdiaaDoor
