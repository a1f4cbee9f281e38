/- (soffit/policy.outs).one and .end, walked: the whole. -/
import Derived.Test.YtfhmjkdpohepaaaDoorOutsE
set_option linter.unusedSimpArgs false
set_option linter.unusedVariables false
namespace Go.Proofs.YtfhmjkdpohepaaaDoor
open Go.RowKit

def oneV (o : Vl) (os : List Vl) : Vl := if os.any (fun v => !eqB v o) = true then Vl.zero else o
set_option maxRecDepth 100000 in
set_option maxHeartbeats 1600000 in
theorem one_any (o : Vl) (r : List Vl) (A : Option Addr) (c : Nat) (w : World) (hr : RdL w 5 A ((o :: r).map Vl.cells5)) (hn : (o :: r).length ≤ 1000000) :
    Calls Tryd.prog 18 #[.slice A (o :: r).length c] w fun e w' => e = .returned (.agg #[.int .i64 (oneV o (o :: r)).k, .int .i64 (oneV o (o :: r)).n, .int .i64 (oneV o (o :: r)).s, .string (oneV o (o :: r)).t, .int .i64 (oneV o (o :: r)).i]) ∧ Below w.heap.size w w' := by
  obtain ⟨R, hR⟩ : ∃ R, oneV o (o :: r) = R := ⟨_, rfl⟩
  rw [hR]
  have hRR : R = if (o :: r).any (fun v => !eqB v o) = true then Vl.zero else o := hR.symm
  clear hR
  obtain ⟨os, hos⟩ : ∃ os, o :: r = os := ⟨_, rfl⟩
  have h0 : os[0]? = some o := by rw [← hos]; rfl
  have hpos : 0 < os.length := by rw [← hos]; simp
  rw [hos] at hRR hr hn ⊢
  clear hos
  obtain ⟨b, off, hA, hx⟩ := hr.at_ hpos
  have he : os[0]'hpos = o := Option.some.inj ((List.getElem?_eq_getElem hpos).symm.trans h0)
  rw [he] at hx
  rw [hA] at hr ⊢
  have eg : ∀ args W, (callFunc 33 args).run Tryd.prog W = .ok (.enter 33 args) W := enters_of Tryd.func33 (by kernel_rfl) rfl
  have HX : Hid (CellsAt w b off o.cells5) := by have := hx; rw [Nat.zero_mul, Nat.add_zero] at this; exact this
  have HEG := Lib.hid eg
  have HR := Lib.hid hr
  have HPOS := Lib.hid hpos
  have i0 : (0 : Int) < (os.length : Int) := by omega
  clear eg hx he h0 hA hr
  go_enter Tryd.func18, Tryd.ntmps18
  go_wp2_with fail
  generalize hEW0 : (w.alloc _).alloc _ = W0
  have hbW0 : Below w.heap.size w W0 := (by rw [← hEW0]; exact (by repeat' (first | (with_reducible exact Below.refl _ _) | (with_reducible assumption) | (with_reducible refine Below.drew ?_) | (with_reducible refine below_drewN ?_ _) | (with_reducible refine below_iterAt ?_ ?_ _ _) | (with_reducible refine below_iter ?_ ?_ _ _) | (with_reducible refine Below.alloc ?_ ?_ _) | (with_reducible refine Below.setCell ?_ ?_ _) | (with_reducible refine Below.trans ?_ (Below.mono (by assumption) ?_)) | (simp only [sz_alloc, sz_set, sz_drew, sz_drewN, sz_iterAt, sz_iter] at *; omega) | omega | (simp; done) | (simp; omega) | (apply Below.size; assumption) | (simp only [sz_drew, sz_drewN]; apply Below.size; assumption) | (refine Nat.le_trans ?_ (Below.size (by assumption))))))
  have lW0_0 : w.heap.size < W0.heap.size := (by rw [← hEW0]; first | omega | (simp only [sz_alloc, sz_set, sz_drew, sz_drewN, sz_iterAt, sz_iter] at *; omega) | (simp; done) | (simp; omega) | (simp at *; omega))
  have qW0_0 : ∀ o, W0.cell? ⟨w.heap.size, o, none⟩ = _ := fun o => congrArg (fun W : World => W.cell? ⟨w.heap.size, o, none⟩) hEW0.symm
  have rW0_0 : ∀ o, W0.frozen? ⟨w.heap.size, o, none⟩ = _ := fun o => congrArg (fun W : World => W.frozen? ⟨w.heap.size, o, none⟩) hEW0.symm
  have lW0_1 : w.heap.size + 1 < W0.heap.size := (by rw [← hEW0]; first | omega | (simp only [sz_alloc, sz_set, sz_drew, sz_drewN, sz_iterAt, sz_iter] at *; omega) | (simp; done) | (simp; omega) | (simp at *; omega))
  have qW0_1 : ∀ o, W0.cell? ⟨w.heap.size + 1, o, none⟩ = _ := fun o => congrArg (fun W : World => W.cell? ⟨w.heap.size + 1, o, none⟩) hEW0.symm
  have rW0_1 : ∀ o, W0.frozen? ⟨w.heap.size + 1, o, none⟩ = _ := fun o => congrArg (fun W : World => W.frozen? ⟨w.heap.size + 1, o, none⟩) hEW0.symm
  clear hEW0
  have k0 : W0.cell? ⟨w.heap.size, 0, none⟩ = some (.slice (some ⟨b, off, none⟩) os.length c) := (by first | (simp [go_sem]; done) | (simp [go_sem, *]; done))
  have hgives : outGives 33 #[.pointer (some ⟨w.heap.size, 0, none⟩)] (fun v => !eqB v o) os W0 := fun x _ W hW => one1_any x o w.heap.size b off os.length c W (cell_below hW k0) HPOS.out ((HX.out.below hbW0).below hW)
  have hcall := outContainsF 33 ⟨w.heap.size, 0, none⟩ (fun v => !eqB v o) os _ c W0 (HR.out.below hbW0) (by omega) hgives HEG.out
  cases hany : os.any (fun v => !eqB v o)
  · have HV : Hid (R = o) := by show R = o; rw [hRR, hany]; rfl
    rw [hany] at hcall
    have HCALL := Lib.hid hcall
    clear hany hRR hcall hgives
    refine HCALL.out.mono ?_
    rintro e w1 ⟨rfl, hb1⟩
    have hx1 := (HX.out.below hbW0).below hb1
    have k1 := cell_below hb1 k0
    have hbw1 : Below w.heap.size w w1 := hbW0.trans (hb1.mono (by have := hbW0.size; omega))
    obtain ⟨hc1, hf1⟩ := bcell hb1
    have hz1 := hb1.size
    try simp at hz1
    have q1_0 := fun o => hc1 (w.heap.size) o (by first | omega | (simp only [sz_alloc, sz_set, sz_drew, sz_drewN, sz_iterAt, sz_iter] at *; omega) | (simp; done) | (simp; omega) | (simp at *; omega))
    have l1_0 : w.heap.size < w1.heap.size := by omega
    have r1_0 := fun o => hf1 (w.heap.size) o (by first | omega | (simp only [sz_alloc, sz_set, sz_drew, sz_drewN, sz_iterAt, sz_iter] at *; omega) | (simp; done) | (simp; omega) | (simp at *; omega))
    have q1_1 := fun o => hc1 (w.heap.size + 1) o (by first | omega | (simp only [sz_alloc, sz_set, sz_drew, sz_drewN, sz_iterAt, sz_iter] at *; omega) | (simp; done) | (simp; omega) | (simp at *; omega))
    have l1_1 : w.heap.size + 1 < w1.heap.size := by omega
    have r1_1 := fun o => hf1 (w.heap.size + 1) o (by first | omega | (simp only [sz_alloc, sz_set, sz_drew, sz_drewN, sz_iterAt, sz_iter] at *; omega) | (simp; done) | (simp; omega) | (simp at *; omega))
    clear hc1 hf1
    have y0 : w1.cell? ⟨b, off, none⟩ = some (.int .i64 o.k) := by have := hx1.get 0 rfl; simpa using this
    have y1 : w1.cell? ⟨b, off + 1, none⟩ = some (.int .i64 o.n) := by have := hx1.get 1 rfl; simpa using this
    have y2 : w1.cell? ⟨b, off + 2, none⟩ = some (.int .i64 o.s) := by have := hx1.get 2 rfl; simpa using this
    have y3 : w1.cell? ⟨b, off + 3, none⟩ = some (.string o.t) := by have := hx1.get 3 rfl; simpa using this
    have y4 : w1.cell? ⟨b, off + 4, none⟩ = some (.int .i64 o.i) := by have := hx1.get 4 rfl; simpa using this
    clear hx1 HCALL
    go_wp2_with fail
    try go_quiet (fail)
    go_wp2_with fail
    refine bodyPost_ret (v := .agg #[.int .i64 o.k, .int .i64 o.n, .int .i64 o.s, .string o.t, .int .i64 o.i]) (by simp [results, Tryd.results18, go_sem, *]) rfl ⟨?_, (by repeat' (first | (with_reducible exact Below.refl _ _) | (with_reducible assumption) | (with_reducible refine Below.drew ?_) | (with_reducible refine below_drewN ?_ _) | (with_reducible refine below_iterAt ?_ ?_ _ _) | (with_reducible refine below_iter ?_ ?_ _ _) | (with_reducible refine Below.alloc ?_ ?_ _) | (with_reducible refine Below.setCell ?_ ?_ _) | (with_reducible refine Below.trans ?_ (Below.mono (by assumption) ?_)) | (simp only [sz_alloc, sz_set, sz_drew, sz_drewN, sz_iterAt, sz_iter] at *; omega) | omega | (simp; done) | (simp; omega) | (apply Below.size; assumption) | (simp only [sz_drew, sz_drewN]; apply Below.size; assumption) | (refine Nat.le_trans ?_ (Below.size (by assumption)))))⟩
    rw [HV.out]
  · have HV : Hid (R = Vl.zero) := by show R = _; rw [hRR, hany]; rfl
    rw [hany] at hcall
    have HCALL := Lib.hid hcall
    clear hany hRR hcall hgives
    refine HCALL.out.mono ?_
    rintro e w1 ⟨rfl, hb1⟩
    have k1 := cell_below hb1 k0
    have hbw1 : Below w.heap.size w w1 := hbW0.trans (hb1.mono (by have := hbW0.size; omega))
    obtain ⟨hc1, hf1⟩ := bcell hb1
    have hz1 := hb1.size
    try simp at hz1
    have q1_0 := fun o => hc1 (w.heap.size) o (by first | omega | (simp only [sz_alloc, sz_set, sz_drew, sz_drewN, sz_iterAt, sz_iter] at *; omega) | (simp; done) | (simp; omega) | (simp at *; omega))
    have l1_0 : w.heap.size < w1.heap.size := by omega
    have r1_0 := fun o => hf1 (w.heap.size) o (by first | omega | (simp only [sz_alloc, sz_set, sz_drew, sz_drewN, sz_iterAt, sz_iter] at *; omega) | (simp; done) | (simp; omega) | (simp at *; omega))
    have q1_1 := fun o => hc1 (w.heap.size + 1) o (by first | omega | (simp only [sz_alloc, sz_set, sz_drew, sz_drewN, sz_iterAt, sz_iter] at *; omega) | (simp; done) | (simp; omega) | (simp at *; omega))
    have l1_1 : w.heap.size + 1 < w1.heap.size := by omega
    have r1_1 := fun o => hf1 (w.heap.size + 1) o (by first | omega | (simp only [sz_alloc, sz_set, sz_drew, sz_drewN, sz_iterAt, sz_iter] at *; omega) | (simp; done) | (simp; omega) | (simp at *; omega))
    clear hc1 hf1
    clear HCALL
    go_wp2_with fail
    refine bodyPost_ret (v := .agg #[.int .i64 0, .int .i64 0, .int .i64 0, .string ⟨#[]⟩, .int .i64 0]) (by simp [results, Tryd.results18, go_sem, *]) rfl ⟨?_, (by repeat' (first | (with_reducible exact Below.refl _ _) | (with_reducible assumption) | (with_reducible refine Below.drew ?_) | (with_reducible refine below_drewN ?_ _) | (with_reducible refine below_iterAt ?_ ?_ _ _) | (with_reducible refine below_iter ?_ ?_ _ _) | (with_reducible refine Below.alloc ?_ ?_ _) | (with_reducible refine Below.setCell ?_ ?_ _) | (with_reducible refine Below.trans ?_ (Below.mono (by assumption) ?_)) | (simp only [sz_alloc, sz_set, sz_drew, sz_drewN, sz_iterAt, sz_iter] at *; omega) | omega | (simp; done) | (simp; omega) | (apply Below.size; assumption) | (simp only [sz_drew, sz_drewN]; apply Below.size; assumption) | (refine Nat.le_trans ?_ (Below.size (by assumption)))))⟩
    rw [HV.out]
    rfl

/-- the least of some, or the greatest; none, if they are not of one kind -/
def EndOf (o : Vl) (os : List Vl) (gr : Bool) (R : Vl) : Prop := (os.any (badK o) = true ∧ R = Vl.zero) ∨ (os.any (badK o) = false ∧ R ∈ os ∧ ∀ y ∈ os, (if gr = true then ltV R y else ltV y R) = false)
set_option maxRecDepth 100000 in
set_option maxHeartbeats 3200000 in
theorem end_any (o : Vl) (r : List Vl) (gr : Bool) (A : Option Addr) (c : Nat) (w : World) (hr : RdL w 5 A ((o :: r).map Vl.cells5)) (hn : (o :: r).length ≤ 1000000) (hw : ∀ v ∈ o :: r, v.wf) (hs : ∀ v ∈ o :: r, sndB v = true) (hE : Env w) :
    Calls Tryd.prog 21 #[.slice A (o :: r).length c, .bool gr] w fun e w' => ∃ R : Vl, e = .returned (.agg #[.int .i64 R.k, .int .i64 R.n, .int .i64 R.s, .string R.t, .int .i64 R.i]) ∧ EndOf o (o :: r) gr R ∧ Below w.heap.size w w' := by
  obtain ⟨os, hos⟩ : ∃ os, o :: r = os := ⟨_, rfl⟩
  have h0 : os[0]? = some o := by rw [← hos]; rfl
  have hpos : 0 < os.length := by rw [← hos]; simp
  rw [hos] at hw hs hr hn ⊢
  clear hos
  obtain ⟨b, off, hA, hx⟩ := hr.at_ hpos
  have he : os[0]'hpos = o := Option.some.inj ((List.getElem?_eq_getElem hpos).symm.trans h0)
  rw [he] at hx
  rw [hA] at hr ⊢
  have eg : ∀ args W, (callFunc 36 args).run Tryd.prog W = .ok (.enter 36 args) W := enters_of Tryd.func36 (by kernel_rfl) rfl
  have HX : Hid (CellsAt w b off o.cells5) := by have := hx; rw [Nat.zero_mul, Nat.add_zero] at this; exact this
  have HEG := Lib.hid eg
  have HR := Lib.hid hr
  have HPOS := Lib.hid hpos
  have i0 : (0 : Int) < (os.length : Int) := by omega
  clear eg hx he h0 hA hr
  go_enter Tryd.func21, Tryd.ntmps21
  go_wp2_with fail
  generalize hEW0 : (w.alloc _).alloc _ = W0
  have hbW0 : Below w.heap.size w W0 := (by rw [← hEW0]; exact (by repeat' (first | (with_reducible exact Below.refl _ _) | (with_reducible assumption) | (with_reducible refine Below.drew ?_) | (with_reducible refine below_drewN ?_ _) | (with_reducible refine below_iterAt ?_ ?_ _ _) | (with_reducible refine below_iter ?_ ?_ _ _) | (with_reducible refine Below.alloc ?_ ?_ _) | (with_reducible refine Below.setCell ?_ ?_ _) | (with_reducible refine Below.trans ?_ (Below.mono (by assumption) ?_)) | (simp only [sz_alloc, sz_set, sz_drew, sz_drewN, sz_iterAt, sz_iter] at *; omega) | omega | (simp; done) | (simp; omega) | (apply Below.size; assumption) | (simp only [sz_drew, sz_drewN]; apply Below.size; assumption) | (refine Nat.le_trans ?_ (Below.size (by assumption))))))
  have lW0_0 : w.heap.size < W0.heap.size := (by rw [← hEW0]; first | omega | (simp only [sz_alloc, sz_set, sz_drew, sz_drewN, sz_iterAt, sz_iter] at *; omega) | (simp; done) | (simp; omega) | (simp at *; omega))
  have qW0_0 : ∀ o, W0.cell? ⟨w.heap.size, o, none⟩ = _ := fun o => congrArg (fun W : World => W.cell? ⟨w.heap.size, o, none⟩) hEW0.symm
  have rW0_0 : ∀ o, W0.frozen? ⟨w.heap.size, o, none⟩ = _ := fun o => congrArg (fun W : World => W.frozen? ⟨w.heap.size, o, none⟩) hEW0.symm
  have lW0_1 : w.heap.size + 1 < W0.heap.size := (by rw [← hEW0]; first | omega | (simp only [sz_alloc, sz_set, sz_drew, sz_drewN, sz_iterAt, sz_iter] at *; omega) | (simp; done) | (simp; omega) | (simp at *; omega))
  have qW0_1 : ∀ o, W0.cell? ⟨w.heap.size + 1, o, none⟩ = _ := fun o => congrArg (fun W : World => W.cell? ⟨w.heap.size + 1, o, none⟩) hEW0.symm
  have rW0_1 : ∀ o, W0.frozen? ⟨w.heap.size + 1, o, none⟩ = _ := fun o => congrArg (fun W : World => W.frozen? ⟨w.heap.size + 1, o, none⟩) hEW0.symm
  clear hEW0
  have k0 : W0.cell? ⟨w.heap.size, 0, none⟩ = some (.slice (some ⟨b, off, none⟩) os.length c) := (by first | (simp [go_sem]; done) | (simp [go_sem, *]; done))
  have hgives : outGives 36 #[.pointer (some ⟨w.heap.size, 0, none⟩)] (badK o) os W0 := fun x _ W hW => end1_any x o w.heap.size b off os.length c W (cell_below hW k0) HPOS.out ((HX.out.below hbW0).below hW)
  have hcall := outContainsF 36 ⟨w.heap.size, 0, none⟩ (badK o) os _ c W0 (HR.out.below hbW0) (by omega) hgives HEG.out
  have HW := Lib.hid hw
  have HSN := Lib.hid hs
  clear hw hs
  cases hany : os.any (badK o)
  · rw [hany] at hcall
    have HCALL := Lib.hid hcall
    have HANY := Lib.hid hany
    clear hany hcall hgives
    refine HCALL.out.mono ?_
    rintro e w1 ⟨rfl, hb1⟩
    have k1 := cell_below hb1 k0
    have hbw1 : Below w.heap.size w w1 := hbW0.trans (hb1.mono (by have := hbW0.size; omega))
    obtain ⟨hc1, hf1⟩ := bcell hb1
    have hz1 := hb1.size
    try simp at hz1
    have q1_0 := fun o => hc1 (w.heap.size) o (by first | omega | (simp only [sz_alloc, sz_set, sz_drew, sz_drewN, sz_iterAt, sz_iter] at *; omega) | (simp; done) | (simp; omega) | (simp at *; omega))
    have l1_0 : w.heap.size < w1.heap.size := by omega
    have r1_0 := fun o => hf1 (w.heap.size) o (by first | omega | (simp only [sz_alloc, sz_set, sz_drew, sz_drewN, sz_iterAt, sz_iter] at *; omega) | (simp; done) | (simp; omega) | (simp at *; omega))
    have q1_1 := fun o => hc1 (w.heap.size + 1) o (by first | omega | (simp only [sz_alloc, sz_set, sz_drew, sz_drewN, sz_iterAt, sz_iter] at *; omega) | (simp; done) | (simp; omega) | (simp at *; omega))
    have l1_1 : w.heap.size + 1 < w1.heap.size := by omega
    have r1_1 := fun o => hf1 (w.heap.size + 1) o (by first | omega | (simp only [sz_alloc, sz_set, sz_drew, sz_drewN, sz_iterAt, sz_iter] at *; omega) | (simp; done) | (simp; omega) | (simp at *; omega))
    clear hc1 hf1
    clear HCALL
    go_wp2_with fail
    refine (vsort_any os _ c _ (HR.out.below hbw1) HW.out HSN.out HPOS.out (by omega) (hE.below hbw1)).mono ?_
    rintro e w2 ⟨L, B, rfl, hL, hso, hb2⟩
    have hbw2 : Below w.heap.size w w2 := hbw1.trans (hb2.mono hbw1.size)
    have hz0 := hbw1.size
    obtain ⟨hc2, hf2⟩ := bcell hb2
    have hz2 := hb2.size
    try simp at hz2
    have q2_0 := fun o => hc2 (w.heap.size) o (by first | omega | (simp only [sz_alloc, sz_set, sz_drew, sz_drewN, sz_iterAt, sz_iter] at *; omega) | (simp; done) | (simp; omega) | (simp at *; omega))
    have l2_0 : w.heap.size < w2.heap.size := by omega
    have r2_0 := fun o => hf2 (w.heap.size) o (by first | omega | (simp only [sz_alloc, sz_set, sz_drew, sz_drewN, sz_iterAt, sz_iter] at *; omega) | (simp; done) | (simp; omega) | (simp at *; omega))
    have q2_1 := fun o => hc2 (w.heap.size + 1) o (by first | omega | (simp only [sz_alloc, sz_set, sz_drew, sz_drewN, sz_iterAt, sz_iter] at *; omega) | (simp; done) | (simp; omega) | (simp at *; omega))
    have l2_1 : w.heap.size + 1 < w2.heap.size := by omega
    have r2_1 := fun o => hf2 (w.heap.size + 1) o (by first | omega | (simp only [sz_alloc, sz_set, sz_drew, sz_drewN, sz_iterAt, sz_iter] at *; omega) | (simp; done) | (simp; omega) | (simp at *; omega))
    clear hc2 hf2
    obtain ⟨m, hm⟩ : ∃ m, L.length = m + 1 := ⟨L.length - 1, by have := hso.pos; omega⟩
    have hle : m + 1 ≤ 1000000 := by rw [← hm]; exact Nat.le_trans hso.len hn
    cases gr
    · obtain ⟨b2, o2, rfl, hx2⟩ := hL.at_ (show 0 < L.length by omega)
      obtain ⟨x, hxe⟩ : ∃ x, L[0]'(by omega) = x := ⟨_, rfl⟩
      rw [hxe] at hx2
      have hend : EndOf o os false x := Or.inr ⟨HANY.out, (hso.mem x).1 (by rw [← hxe]; exact List.getElem_mem _), fun y hy => hso.low y hy x (by rw [← hxe]; exact List.getElem?_eq_getElem _)⟩
      have y0 : w2.cell? ⟨b2, o2, none⟩ = some (.int .i64 x.k) := by have := hx2.get 0 rfl; simpa using this
      have y1 : w2.cell? ⟨b2, o2 + 1, none⟩ = some (.int .i64 x.n) := by have := hx2.get 1 rfl; simpa using this
      have y2 : w2.cell? ⟨b2, o2 + 2, none⟩ = some (.int .i64 x.s) := by have := hx2.get 2 rfl; simpa using this
      have y3 : w2.cell? ⟨b2, o2 + 3, none⟩ = some (.string x.t) := by have := hx2.get 3 rfl; simpa using this
      have y4 : w2.cell? ⟨b2, o2 + 4, none⟩ = some (.int .i64 x.i) := by have := hx2.get 4 rfl; simpa using this
      have HEND := Lib.hid hend
      rw [hm]
      have j1 : (0 : Int) < (m : Int) + 1 := by omega
      clear hx2 hxe hso hL hm hend
      go_wp2_with fail
      try go_quiet (fail)
      go_wp2_with fail
      refine bodyPost_ret (v := .agg #[.int .i64 x.k, .int .i64 x.n, .int .i64 x.s, .string x.t, .int .i64 x.i]) (by simp [results, Tryd.results21, go_sem, *]) rfl ⟨x, rfl, HEND.out, ?_⟩
      exact (by repeat' (first | (with_reducible exact Below.refl _ _) | (with_reducible assumption) | (with_reducible refine Below.drew ?_) | (with_reducible refine below_drewN ?_ _) | (with_reducible refine below_iterAt ?_ ?_ _ _) | (with_reducible refine below_iter ?_ ?_ _ _) | (with_reducible refine Below.alloc ?_ ?_ _) | (with_reducible refine Below.setCell ?_ ?_ _) | (with_reducible refine Below.trans ?_ (Below.mono (by assumption) ?_)) | (simp only [sz_alloc, sz_set, sz_drew, sz_drewN, sz_iterAt, sz_iter] at *; omega) | omega | (simp; done) | (simp; omega) | (apply Below.size; assumption) | (simp only [sz_drew, sz_drewN]; apply Below.size; assumption) | (refine Nat.le_trans ?_ (Below.size (by assumption)))))
    · obtain ⟨b2, o2, rfl, hx2⟩ := hL.at_ (show m < L.length by omega)
      obtain ⟨x, hxe⟩ : ∃ x, L[m]'(by omega) = x := ⟨_, rfl⟩
      rw [hxe] at hx2
      have hlast : L.getLast? = some x := by rw [List.getLast?_eq_getElem?, hm, Nat.add_sub_cancel, ← hxe]; exact List.getElem?_eq_getElem _
      have hend : EndOf o os true x := Or.inr ⟨HANY.out, (hso.mem x).1 (by rw [← hxe]; exact List.getElem_mem _), fun y hy => hso.high y hy x hlast⟩
      have y0 : w2.cell? ⟨b2, o2 + m * 5, none⟩ = some (.int .i64 x.k) := by have := hx2.get 0 rfl; simpa using this
      have y1 : w2.cell? ⟨b2, o2 + m * 5 + 1, none⟩ = some (.int .i64 x.n) := by have := hx2.get 1 rfl; simpa using this
      have y2 : w2.cell? ⟨b2, o2 + m * 5 + 2, none⟩ = some (.int .i64 x.s) := by have := hx2.get 2 rfl; simpa using this
      have y3 : w2.cell? ⟨b2, o2 + m * 5 + 3, none⟩ = some (.string x.t) := by have := hx2.get 3 rfl; simpa using this
      have y4 : w2.cell? ⟨b2, o2 + m * 5 + 4, none⟩ = some (.int .i64 x.i) := by have := hx2.get 4 rfl; simpa using this
      have HEND := Lib.hid hend
      rw [hm]
      have j1 : (m : Int) < (m : Int) + 1 := by omega
      have j2 : (0 : Int) ≤ (m : Int) := by omega
      have j3 : (m : Int) + 1 - 1 = (m : Int) := by omega
      have j4 : IntKind.i64.wrap ((m : Int) + 1 - 1) = (m : Int) := by rw [j3]; exact IntWalk.i64_in _ (by omega)
      clear hx2 hxe hso hL hm hend hlast
      go_wp2_with fail
      try go_quiet (fail)
      go_wp2_with fail
      refine bodyPost_ret (v := .agg #[.int .i64 x.k, .int .i64 x.n, .int .i64 x.s, .string x.t, .int .i64 x.i]) (by simp [results, Tryd.results21, go_sem, *]) rfl ⟨x, rfl, HEND.out, ?_⟩
      exact (by repeat' (first | (with_reducible exact Below.refl _ _) | (with_reducible assumption) | (with_reducible refine Below.drew ?_) | (with_reducible refine below_drewN ?_ _) | (with_reducible refine below_iterAt ?_ ?_ _ _) | (with_reducible refine below_iter ?_ ?_ _ _) | (with_reducible refine Below.alloc ?_ ?_ _) | (with_reducible refine Below.setCell ?_ ?_ _) | (with_reducible refine Below.trans ?_ (Below.mono (by assumption) ?_)) | (simp only [sz_alloc, sz_set, sz_drew, sz_drewN, sz_iterAt, sz_iter] at *; omega) | omega | (simp; done) | (simp; omega) | (apply Below.size; assumption) | (simp only [sz_drew, sz_drewN]; apply Below.size; assumption) | (refine Nat.le_trans ?_ (Below.size (by assumption)))))
  · rw [hany] at hcall
    have HCALL := Lib.hid hcall
    have hend : EndOf o os gr Vl.zero := Or.inl ⟨hany, rfl⟩
    have HEND := Lib.hid hend
    clear hany hcall hgives hend
    refine HCALL.out.mono ?_
    rintro e w1 ⟨rfl, hb1⟩
    have k1 := cell_below hb1 k0
    have hbw1 : Below w.heap.size w w1 := hbW0.trans (hb1.mono (by have := hbW0.size; omega))
    obtain ⟨hc1, hf1⟩ := bcell hb1
    have hz1 := hb1.size
    try simp at hz1
    have q1_0 := fun o => hc1 (w.heap.size) o (by first | omega | (simp only [sz_alloc, sz_set, sz_drew, sz_drewN, sz_iterAt, sz_iter] at *; omega) | (simp; done) | (simp; omega) | (simp at *; omega))
    have l1_0 : w.heap.size < w1.heap.size := by omega
    have r1_0 := fun o => hf1 (w.heap.size) o (by first | omega | (simp only [sz_alloc, sz_set, sz_drew, sz_drewN, sz_iterAt, sz_iter] at *; omega) | (simp; done) | (simp; omega) | (simp at *; omega))
    have q1_1 := fun o => hc1 (w.heap.size + 1) o (by first | omega | (simp only [sz_alloc, sz_set, sz_drew, sz_drewN, sz_iterAt, sz_iter] at *; omega) | (simp; done) | (simp; omega) | (simp at *; omega))
    have l1_1 : w.heap.size + 1 < w1.heap.size := by omega
    have r1_1 := fun o => hf1 (w.heap.size + 1) o (by first | omega | (simp only [sz_alloc, sz_set, sz_drew, sz_drewN, sz_iterAt, sz_iter] at *; omega) | (simp; done) | (simp; omega) | (simp at *; omega))
    clear hc1 hf1
    clear HCALL
    go_wp2_with fail
    refine bodyPost_ret (v := .agg #[.int .i64 0, .int .i64 0, .int .i64 0, .string ⟨#[]⟩, .int .i64 0]) (by simp [results, Tryd.results21, go_sem, *]) rfl ⟨Vl.zero, rfl, HEND.out, ?_⟩
    exact (by repeat' (first | (with_reducible exact Below.refl _ _) | (with_reducible assumption) | (with_reducible refine Below.drew ?_) | (with_reducible refine below_drewN ?_ _) | (with_reducible refine below_iterAt ?_ ?_ _ _) | (with_reducible refine below_iter ?_ ?_ _ _) | (with_reducible refine Below.alloc ?_ ?_ _) | (with_reducible refine Below.setCell ?_ ?_ _) | (with_reducible refine Below.trans ?_ (Below.mono (by assumption) ?_)) | (simp only [sz_alloc, sz_set, sz_drew, sz_drewN, sz_iterAt, sz_iter] at *; omega) | omega | (simp; done) | (simp; omega) | (apply Below.size; assumption) | (simp only [sz_drew, sz_drewN]; apply Below.size; assumption) | (refine Nat.le_trans ?_ (Below.size (by assumption)))))
end Go.Proofs.YtfhmjkdpohepaaaDoor
