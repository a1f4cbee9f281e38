/- Meet of two that are not both "all but some", one of them long. (printed by gen_wsplit.py) -/
import Derived.Test.YtgbapmhdhbfhnaaDoorWd13
set_option linter.unusedSimpArgs false
set_option linter.unusedVariables false
namespace Go.Proofs.YtgbapmhdhbfhnaaDoor
open Go.RowKit Go.Sort Go.Lib

set_option maxRecDepth 100000 in
set_option maxHeartbeats 1600000 in
theorem meetA_long (bA : Bool) (A B : Option Addr) (la lb : List Tx) (ca cb : Nat) (w : World) (hE : Env w) (hA : RdL w 1 A (la.map tC)) (hB : RdL w 1 B (lb.map tC)) (hsa : ∀ t ∈ la, t.length ≤ 9223372036854775807) (hsb : ∀ t ∈ lb, t.length ≤ 9223372036854775807) (hna : la.length * 16 ≤ 140737488355328) (hnb : lb.length ≤ 4611686018427387903) :
    Calls Tryd.prog 17 #[.agg #[.bool false, .slice A la.length ca], .agg #[.bool bA, .slice B lb.length cb]] w fun e w' => ∃ A', e = .returned (.agg #[.bool (meetW false la bA lb).1, .slice A' (meetW false la bA lb).2.length (meetW false la bA lb).2.length]) ∧ OwnT w' w.heap.size A' (meetW false la bA lb).2 ∧ Below w.heap.size w w' := by
  have eg : ∀ args W, (callFunc 30 args).run Tryd.prog W = .ok (.enter 30 args) W := enters_of Tryd.func30 (by kernel_rfl) rfl
  have HEG := Lib.hid eg
  have HSA := Lib.hid hsa
  have HSB := Lib.hid hsb
  have HA := Lib.hid hA
  have HB := Lib.hid hB
  have HE := Lib.hid hE
  clear eg hsa hsb hA hB hE
  go_enter Tryd.func17, Tryd.ntmps17
  go_wp2_with fail
  generalize hEu : ((w.alloc _).alloc _).alloc _ = u
  have hbu : Below w.heap.size w u := (by rw [← hEu]; exact (by repeat' (first | (with_reducible exact Below.refl _ _) | (with_reducible assumption) | (with_reducible refine Below.drew ?_) | (with_reducible refine below_drewN ?_ _) | (with_reducible refine below_iterAt ?_ ?_ _ _) | (with_reducible refine below_iter ?_ ?_ _ _) | (with_reducible refine Below.alloc ?_ ?_ _) | (with_reducible refine Below.setCell ?_ ?_ _) | (with_reducible refine Below.trans ?_ (Below.mono (by assumption) ?_)) | (simp only [sz_alloc, sz_set, sz_drew, sz_drewN, sz_iterAt, sz_iter] at *; omega) | omega | (simp; done) | (simp; omega) | (apply Below.size; assumption) | (simp only [sz_drew, sz_drewN]; apply Below.size; assumption) | (refine Nat.le_trans ?_ (Below.size (by assumption))))))
  have lu_0 : w.heap.size < u.heap.size := (by rw [← hEu]; first | omega | (simp only [sz_alloc, sz_set, sz_drew, sz_drewN, sz_iterAt, sz_iter] at *; omega) | (simp; done) | (simp; omega) | (simp at *; omega))
  have qu_0 : ∀ o, u.cell? ⟨w.heap.size, o, none⟩ = _ := fun o => congrArg (fun W : World => W.cell? ⟨w.heap.size, o, none⟩) hEu.symm
  have ru_0 : ∀ o, u.frozen? ⟨w.heap.size, o, none⟩ = _ := fun o => congrArg (fun W : World => W.frozen? ⟨w.heap.size, o, none⟩) hEu.symm
  have lu_1 : w.heap.size + 1 < u.heap.size := (by rw [← hEu]; first | omega | (simp only [sz_alloc, sz_set, sz_drew, sz_drewN, sz_iterAt, sz_iter] at *; omega) | (simp; done) | (simp; omega) | (simp at *; omega))
  have qu_1 : ∀ o, u.cell? ⟨w.heap.size + 1, o, none⟩ = _ := fun o => congrArg (fun W : World => W.cell? ⟨w.heap.size + 1, o, none⟩) hEu.symm
  have ru_1 : ∀ o, u.frozen? ⟨w.heap.size + 1, o, none⟩ = _ := fun o => congrArg (fun W : World => W.frozen? ⟨w.heap.size + 1, o, none⟩) hEu.symm
  have lu_2 : w.heap.size + 1 + 1 < u.heap.size := (by rw [← hEu]; first | omega | (simp only [sz_alloc, sz_set, sz_drew, sz_drewN, sz_iterAt, sz_iter] at *; omega) | (simp; done) | (simp; omega) | (simp at *; omega))
  have qu_2 : ∀ o, u.cell? ⟨w.heap.size + 1 + 1, o, none⟩ = _ := fun o => congrArg (fun W : World => W.cell? ⟨w.heap.size + 1 + 1, o, none⟩) hEu.symm
  have ru_2 : ∀ o, u.frozen? ⟨w.heap.size + 1 + 1, o, none⟩ = _ := fun o => congrArg (fun W : World => W.frozen? ⟨w.heap.size + 1 + 1, o, none⟩) hEu.symm
  clear hEu
  have hszu : w.heap.size ≤ u.heap.size := hbu.size
  have HBX : Hid (BoxW u (w.heap.size + 1) bA B lb cb) := Lib.hid ⟨(qu_1 0).trans (by simp [go_sem]), (qu_1 1).trans (by simp [go_sem]), HB.out.below hbu⟩
  refine (cloneT A la ca u (HA.out.below hbu) hna).mono ?_
  rintro e w1 ⟨A1, cap, rfl, hcap, ho, hb1, hA1⟩
  have hz1 := hb1.size
  have HO := Lib.hid ho
  clear ho
  go_wp2_with fail
  refine (deleteQ 30 ⟨w.heap.size + 1, 0, none⟩ (fun t => inW bA lb t) A1 la cap u.heap.size w1 hz1 HO.out hcap (by omega) (fun x hx W hW hsz => meet1_any (w.heap.size + 1) bA B lb cb x W (HE.out.below (hbu.trans ((hb1.trans hW).mono hszu))) (HBX.out.below (hb1.trans hW)) (by omega) (HSA.out x hx)) HEG.out).mono ?_
  rintro e w2 ⟨rfl, ho2, hb2⟩
  have hz2 := hb2.size
  obtain ⟨fl, hfl⟩ : ∃ fl, la.filter (fun t => inW bA lb t) = fl := ⟨_, rfl⟩
  rw [hfl] at ho2 ⊢
  have hl2 : fl.length ≤ la.length := by rw [← hfl]; exact List.length_filter_le _ _
  have hfs : ∀ t ∈ fl, t.length ≤ 9223372036854775807 := by rw [← hfl]; exact fun t ht => HSA.out t (List.mem_filter.1 ht).1
  have HFS := Lib.hid hfs
  have HFL := Lib.hid hfl
  have HO2 := Lib.hid ho2
  have hbx2 : Below u.heap.size u w2 := hb1.trans hb2
  clear ho2 hfs hfl
  go_wp2_with fail
  refine (make_any false A1 fl cap w2 (HE.out.below (hbu.trans (hbx2.mono hszu))) HO2.out.rd HFS.out (by omega)).mono ?_
  rintro e w3 ⟨A3, rfl, ho3, hb3⟩
  have hz3 := hb3.size
  obtain ⟨m, hm⟩ : ∃ m, norm fl = m := ⟨_, rfl⟩
  rw [hm] at ho3 ⊢
  have HM : Hid ((meetW false la bA lb) = (false, m)) := Lib.hid (by rw [← hm, ← HFL.out]; rfl)
  have HO3 := Lib.hid ho3
  clear ho3 hm
  have hbx : Below u.heap.size u w3 := hbx2.trans (hb3.mono (by omega))
  have q5 := fun o => (hbx.cell (p := ⟨w.heap.size + 1 + 1, o, none⟩) lu_2).trans (qu_2 o)
  have r5 := fun o => (hbx.frozen (p := ⟨w.heap.size + 1 + 1, o, none⟩) lu_2).trans (ru_2 o)
  have l5 : w.heap.size + 1 + 1 < w3.heap.size := by omega
  have hb5 : Below w.heap.size w w3 := hbu.trans (hbx.mono hszu)
  clear hbx qu_0 ru_0 qu_1 ru_1 qu_2 ru_2 hb1 hb2 hb3 hbx2 hA1
  go_wp2_with fail
  have hfin : OwnT ((w3.setCell ⟨w.heap.size + 1 + 1, 0, none⟩ (.bool false)).setCell ⟨w.heap.size + 1 + 1, 1, none⟩ (.slice A3 m.length m.length)) w2.heap.size A3 m := by
    exact (HO3.out.set_ (by omega) 0 _).set_ (by omega) 1 _
  rw [HM.out]
  refine bodyPost_ret (v := .agg #[.bool false, .slice A3 m.length m.length]) (by simp [results, Tryd.results17, go_sem, *]) rfl ⟨A3, rfl, hfin.base (by omega), (by repeat' (first | (with_reducible exact Below.refl _ _) | (with_reducible assumption) | (with_reducible refine Below.drew ?_) | (with_reducible refine below_drewN ?_ _) | (with_reducible refine below_iterAt ?_ ?_ _ _) | (with_reducible refine below_iter ?_ ?_ _ _) | (with_reducible refine Below.alloc ?_ ?_ _) | (with_reducible refine Below.setCell ?_ ?_ _) | (with_reducible refine Below.trans ?_ (Below.mono (by assumption) ?_)) | (simp only [sz_alloc, sz_set, sz_drew, sz_drewN, sz_iterAt, sz_iter] at *; omega) | omega | (simp; done) | (simp; omega) | (apply Below.size; assumption) | (simp only [sz_drew, sz_drewN]; apply Below.size; assumption) | (refine Nat.le_trans ?_ (Below.size (by assumption)))))⟩

set_option maxRecDepth 100000 in
set_option maxHeartbeats 1600000 in
theorem meetB_long (A B : Option Addr) (la lb : List Tx) (ca cb : Nat) (w : World) (hE : Env w) (hA : RdL w 1 A (la.map tC)) (hB : RdL w 1 B (lb.map tC)) (hsa : ∀ t ∈ la, t.length ≤ 9223372036854775807) (hsb : ∀ t ∈ lb, t.length ≤ 9223372036854775807) (hna : la.length ≤ 4611686018427387903) (hnb : lb.length * 16 ≤ 140737488355328) :
    Calls Tryd.prog 17 #[.agg #[.bool true, .slice A la.length ca], .agg #[.bool false, .slice B lb.length cb]] w fun e w' => ∃ A', e = .returned (.agg #[.bool (meetW true la false lb).1, .slice A' (meetW true la false lb).2.length (meetW true la false lb).2.length]) ∧ OwnT w' w.heap.size A' (meetW true la false lb).2 ∧ Below w.heap.size w w' := by
  have eg : ∀ args W, (callFunc 30 args).run Tryd.prog W = .ok (.enter 30 args) W := enters_of Tryd.func30 (by kernel_rfl) rfl
  have HEG := Lib.hid eg
  have HSA := Lib.hid hsa
  have HSB := Lib.hid hsb
  have HA := Lib.hid hA
  have HB := Lib.hid hB
  have HE := Lib.hid hE
  clear eg hsa hsb hA hB hE
  go_enter Tryd.func17, Tryd.ntmps17
  go_wp2_with fail
  generalize hEu : ((w.alloc _).alloc _).alloc _ = u
  have hbu : Below w.heap.size w u := (by rw [← hEu]; exact (by repeat' (first | (with_reducible exact Below.refl _ _) | (with_reducible assumption) | (with_reducible refine Below.drew ?_) | (with_reducible refine below_drewN ?_ _) | (with_reducible refine below_iterAt ?_ ?_ _ _) | (with_reducible refine below_iter ?_ ?_ _ _) | (with_reducible refine Below.alloc ?_ ?_ _) | (with_reducible refine Below.setCell ?_ ?_ _) | (with_reducible refine Below.trans ?_ (Below.mono (by assumption) ?_)) | (simp only [sz_alloc, sz_set, sz_drew, sz_drewN, sz_iterAt, sz_iter] at *; omega) | omega | (simp; done) | (simp; omega) | (apply Below.size; assumption) | (simp only [sz_drew, sz_drewN]; apply Below.size; assumption) | (refine Nat.le_trans ?_ (Below.size (by assumption))))))
  have lu_0 : w.heap.size < u.heap.size := (by rw [← hEu]; first | omega | (simp only [sz_alloc, sz_set, sz_drew, sz_drewN, sz_iterAt, sz_iter] at *; omega) | (simp; done) | (simp; omega) | (simp at *; omega))
  have qu_0 : ∀ o, u.cell? ⟨w.heap.size, o, none⟩ = _ := fun o => congrArg (fun W : World => W.cell? ⟨w.heap.size, o, none⟩) hEu.symm
  have ru_0 : ∀ o, u.frozen? ⟨w.heap.size, o, none⟩ = _ := fun o => congrArg (fun W : World => W.frozen? ⟨w.heap.size, o, none⟩) hEu.symm
  have lu_1 : w.heap.size + 1 < u.heap.size := (by rw [← hEu]; first | omega | (simp only [sz_alloc, sz_set, sz_drew, sz_drewN, sz_iterAt, sz_iter] at *; omega) | (simp; done) | (simp; omega) | (simp at *; omega))
  have qu_1 : ∀ o, u.cell? ⟨w.heap.size + 1, o, none⟩ = _ := fun o => congrArg (fun W : World => W.cell? ⟨w.heap.size + 1, o, none⟩) hEu.symm
  have ru_1 : ∀ o, u.frozen? ⟨w.heap.size + 1, o, none⟩ = _ := fun o => congrArg (fun W : World => W.frozen? ⟨w.heap.size + 1, o, none⟩) hEu.symm
  have lu_2 : w.heap.size + 1 + 1 < u.heap.size := (by rw [← hEu]; first | omega | (simp only [sz_alloc, sz_set, sz_drew, sz_drewN, sz_iterAt, sz_iter] at *; omega) | (simp; done) | (simp; omega) | (simp at *; omega))
  have qu_2 : ∀ o, u.cell? ⟨w.heap.size + 1 + 1, o, none⟩ = _ := fun o => congrArg (fun W : World => W.cell? ⟨w.heap.size + 1 + 1, o, none⟩) hEu.symm
  have ru_2 : ∀ o, u.frozen? ⟨w.heap.size + 1 + 1, o, none⟩ = _ := fun o => congrArg (fun W : World => W.frozen? ⟨w.heap.size + 1 + 1, o, none⟩) hEu.symm
  clear hEu
  have hszu : w.heap.size ≤ u.heap.size := hbu.size
  have HBX : Hid (BoxW u (w.heap.size + 1) true A la ca) := Lib.hid ⟨(qu_1 0).trans (by simp [go_sem]), (qu_1 1).trans (by simp [go_sem]), HA.out.below hbu⟩
  refine (cloneT B lb cb u (HB.out.below hbu) hnb).mono ?_
  rintro e w1 ⟨A1, cap, rfl, hcap, ho, hb1, hA1⟩
  have hz1 := hb1.size
  have HO := Lib.hid ho
  clear ho
  go_wp2_with fail
  refine (deleteQ 30 ⟨w.heap.size + 1, 0, none⟩ (fun t => inW true la t) A1 lb cap u.heap.size w1 hz1 HO.out hcap (by omega) (fun x hx W hW hsz => meet1_any (w.heap.size + 1) true A la ca x W (HE.out.below (hbu.trans ((hb1.trans hW).mono hszu))) (HBX.out.below (hb1.trans hW)) (by omega) (HSB.out x hx)) HEG.out).mono ?_
  rintro e w2 ⟨rfl, ho2, hb2⟩
  have hz2 := hb2.size
  obtain ⟨fl, hfl⟩ : ∃ fl, lb.filter (fun t => inW true la t) = fl := ⟨_, rfl⟩
  rw [hfl] at ho2 ⊢
  have hl2 : fl.length ≤ lb.length := by rw [← hfl]; exact List.length_filter_le _ _
  have hfs : ∀ t ∈ fl, t.length ≤ 9223372036854775807 := by rw [← hfl]; exact fun t ht => HSB.out t (List.mem_filter.1 ht).1
  have HFS := Lib.hid hfs
  have HFL := Lib.hid hfl
  have HO2 := Lib.hid ho2
  have hbx2 : Below u.heap.size u w2 := hb1.trans hb2
  clear ho2 hfs hfl
  go_wp2_with fail
  refine (make_any false A1 fl cap w2 (HE.out.below (hbu.trans (hbx2.mono hszu))) HO2.out.rd HFS.out (by omega)).mono ?_
  rintro e w3 ⟨A3, rfl, ho3, hb3⟩
  have hz3 := hb3.size
  obtain ⟨m, hm⟩ : ∃ m, norm fl = m := ⟨_, rfl⟩
  rw [hm] at ho3 ⊢
  have HM : Hid ((meetW true la false lb) = (false, m)) := Lib.hid (by rw [← hm, ← HFL.out]; rfl)
  have HO3 := Lib.hid ho3
  clear ho3 hm
  have hbx : Below u.heap.size u w3 := hbx2.trans (hb3.mono (by omega))
  have q5 := fun o => (hbx.cell (p := ⟨w.heap.size + 1 + 1, o, none⟩) lu_2).trans (qu_2 o)
  have r5 := fun o => (hbx.frozen (p := ⟨w.heap.size + 1 + 1, o, none⟩) lu_2).trans (ru_2 o)
  have l5 : w.heap.size + 1 + 1 < w3.heap.size := by omega
  have hb5 : Below w.heap.size w w3 := hbu.trans (hbx.mono hszu)
  clear hbx qu_0 ru_0 qu_1 ru_1 qu_2 ru_2 hb1 hb2 hb3 hbx2 hA1
  go_wp2_with fail
  have hfin : OwnT ((w3.setCell ⟨w.heap.size + 1 + 1, 0, none⟩ (.bool false)).setCell ⟨w.heap.size + 1 + 1, 1, none⟩ (.slice A3 m.length m.length)) w2.heap.size A3 m := by
    exact (HO3.out.set_ (by omega) 0 _).set_ (by omega) 1 _
  rw [HM.out]
  refine bodyPost_ret (v := .agg #[.bool false, .slice A3 m.length m.length]) (by simp [results, Tryd.results17, go_sem, *]) rfl ⟨A3, rfl, hfin.base (by omega), (by repeat' (first | (with_reducible exact Below.refl _ _) | (with_reducible assumption) | (with_reducible refine Below.drew ?_) | (with_reducible refine below_drewN ?_ _) | (with_reducible refine below_iterAt ?_ ?_ _ _) | (with_reducible refine below_iter ?_ ?_ _ _) | (with_reducible refine Below.alloc ?_ ?_ _) | (with_reducible refine Below.setCell ?_ ?_ _) | (with_reducible refine Below.trans ?_ (Below.mono (by assumption) ?_)) | (simp only [sz_alloc, sz_set, sz_drew, sz_drewN, sz_iterAt, sz_iter] at *; omega) | omega | (simp; done) | (simp; omega) | (apply Below.size; assumption) | (simp only [sz_drew, sz_drewN]; apply Below.size; assumption) | (refine Nat.le_trans ?_ (Below.size (by assumption)))))⟩


theorem meet_long (xA yA : Bool) (A B : Option Addr) (xl yl : List Tx) (ca cb : Nat) (w : World) (hE : Env w) (hA : RdL w 1 A (xl.map tC)) (hB : RdL w 1 B (yl.map tC)) (hsa : ∀ t ∈ xl, t.length ≤ 9223372036854775807) (hsb : ∀ t ∈ yl, t.length ≤ 9223372036854775807)
    (hx : xl.length ≤ 4611686018427387903) (hy : yl.length ≤ 4611686018427387903) (h1 : xA = false → xl.length * 16 ≤ 140737488355328) (h2 : xA = true → yA = false ∧ yl.length * 16 ≤ 140737488355328) :
    Calls Tryd.prog 17 #[.agg #[.bool xA, .slice A xl.length ca], .agg #[.bool yA, .slice B yl.length cb]] w fun e w' => ∃ A', e = .returned (.agg #[.bool (meetW xA xl yA yl).1, .slice A' (meetW xA xl yA yl).2.length (meetW xA xl yA yl).2.length]) ∧ OwnT w' w.heap.size A' (meetW xA xl yA yl).2 ∧ Below w.heap.size w w' := by
  cases xA
  · exact meetA_long yA A B xl yl ca cb w hE hA hB hsa hsb (h1 rfl) hy
  · obtain ⟨rfl, h3⟩ := h2 rfl
    exact meetB_long A B xl yl ca cb w hE hA hB hsa hsb hx h3
/-- the sizes and the meanings at WordsSplit -/
structure SplitP (aA bA : Bool) (la lb : List Tx) (xA yA : Bool) (xl ol yl z : List Tx) : Prop where
  xs : ∀ t ∈ xl, t ∈ la ∨ t ∈ lb
  os : ∀ t ∈ ol, t ∈ lb
  ys : ∀ t ∈ yl, t ∈ la ∨ t ∈ lb
  zs : ∀ t ∈ z, t ∈ la ∨ t ∈ lb
  xn : xl.length ≤ la.length + lb.length
  on : ol.length ≤ lb.length
  yn : yl.length ≤ la.length + lb.length
  zn : z.length ≤ la.length ∨ z.length ≤ lb.length
  h1 : xA = false → xl.length ≤ la.length ∨ xl.length ≤ lb.length
  h2 : xA = true → yA = false ∧ (yl.length ≤ la.length ∨ yl.length ≤ lb.length)
  zA : (meetW xA xl yA yl).1 = false
  ze : emptyW false z = true
  xi : ∀ t, inW xA xl t = (inW aA la t && inW bA lb t)
  yi : ∀ t, inW yA yl t = (inW aA la t && (!inW bA lb t && textB t))
theorem splitP (aA bA : Bool) (la lb : List Tx) :
    SplitP aA bA la lb (meetW aA la bA lb).1 (meetW aA la (!bA) (norm lb)).1 (meetW aA la bA lb).2 (norm lb) (meetW aA la (!bA) (norm lb)).2
      (meetW (meetW aA la bA lb).1 (meetW aA la bA lb).2 (meetW aA la (!bA) (norm lb)).1 (meetW aA la (!bA) (norm lb)).2).2 := by
  have hos : ∀ t ∈ norm lb, t ∈ lb := fun t ht => (mem_norm.1 ht).1
  have hys : ∀ t ∈ (meetW aA la (!bA) (norm lb)).2, t ∈ la ∨ t ∈ lb := fun t ht => (meetW_mem ht).imp id (hos t)
  have hzA : (meetW (meetW aA la bA lb).1 (meetW aA la bA lb).2 (meetW aA la (!bA) (norm lb)).1 (meetW aA la (!bA) (norm lb)).2).1 = false := by
    rw [meet_all, meet_all, meet_all]; cases aA <;> cases bA <;> rfl
  have hon := norm_length lb
  have hfl := fun (p : Tx → Bool) (l : List Tx) => Nat.le_trans (norm_length (l.filter p)) (List.length_filter_le p l)
  have hx1 : (meetW aA la bA lb).1 = false → (meetW aA la bA lb).2.length ≤ la.length ∨ (meetW aA la bA lb).2.length ≤ lb.length := by
    intro h
    rw [meet_all] at h
    cases aA <;> cases bA
    · exact .inl (hfl _ _)
    · exact .inl (hfl _ _)
    · exact .inr (hfl _ _)
    · cases h
  have hx2 : (meetW aA la bA lb).1 = true → (meetW aA la (!bA) (norm lb)).1 = false ∧ ((meetW aA la (!bA) (norm lb)).2.length ≤ la.length ∨ (meetW aA la (!bA) (norm lb)).2.length ≤ lb.length) := by
    intro h
    rw [meet_all] at h
    cases aA <;> cases bA
    · cases h
    · cases h
    · cases h
    · exact ⟨rfl, .inr (Nat.le_trans (hfl _ _) hon)⟩
  have hxi := inW_meet aA la bA lb
  have hyi : ∀ t, inW (meetW aA la (!bA) (norm lb)).1 (meetW aA la (!bA) (norm lb)).2 t = (inW aA la t && (!inW bA lb t && textB t)) := fun t => by rw [inW_meet, inW_other]
  refine ⟨fun t ht => meetW_mem ht, hos, hys, fun t ht => (meetW_mem ht).elim (fun h => meetW_mem h) (hys t), meetW_len _ _ _ _, hon, Nat.le_trans (meetW_len _ _ _ _) (by omega), ?_, hx1, hx2, hzA, ?_, hxi, hyi⟩
  · generalize meetW aA la bA lb = x at *
    generalize meetW aA la (!bA) (norm lb) = y at *
    obtain ⟨xA, xl⟩ := x
    obtain ⟨yA, yl⟩ := y
    cases xA
    · have := hfl (fun t => inW yA yl t) xl
      have h := hx1 rfl
      have e : (meetW false xl yA yl).2.length ≤ xl.length := this
      simp only at h e ⊢
      omega
    · obtain ⟨h1, h⟩ := hx2 rfl
      simp only at h1
      subst h1
      have e : (meetW true xl false yl).2.length ≤ yl.length := hfl _ _
      simp only at h e ⊢
      omega
  · have hi := inW_meet (meetW aA la bA lb).1 (meetW aA la bA lb).2 (meetW aA la (!bA) (norm lb)).1 (meetW aA la (!bA) (norm lb)).2
    rw [hzA] at hi
    refine emptyW_of (fun t => ?_)
    rw [hi t, hxi, hyi]
    cases inW aA la t <;> cases inW bA lb t <;> rfl
end Go.Proofs.YtgbapmhdhbfhnaaDoor
