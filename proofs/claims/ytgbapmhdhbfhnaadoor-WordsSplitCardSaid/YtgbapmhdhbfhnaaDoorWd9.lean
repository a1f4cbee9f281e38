/- words.Meet$1; Meet of two that are not both "all but some", walked. -/
import Derived.Test.YtgbapmhdhbfhnaaDoorWd8
set_option linter.unusedSimpArgs false
set_option linter.unusedVariables false
namespace Go.Proofs.YtgbapmhdhbfhnaaDoor
open Go.RowKit Go.Sort Go.Lib

/-- the box that the closure reads -/
structure BoxW (w : World) (q : Nat) (all : Bool) (A : Option Addr) (l : List Tx) (c : Nat) : Prop where
  k0 : w.cell? ⟨q, 0, none⟩ = some (.bool all)
  k1 : w.cell? ⟨q, 1, none⟩ = some (.slice A l.length c)
  rd : RdL w 1 A (l.map tC)
theorem BoxW.below {w w' : World} {q : Nat} {all : Bool} {A : Option Addr} {l : List Tx} {c : Nat} (h : BoxW w q all A l c) (hb : Below w.heap.size w w') : BoxW w' q all A l c :=
  ⟨cell_below hb h.k0, cell_below hb h.k1, h.rd.below hb⟩

set_option maxHeartbeats 800000 in
theorem meet1_any (q : Nat) (all : Bool) (A : Option Addr) (l : List Tx) (c : Nat) (t : Tx) (w : World) (hE : Env w) (hB : BoxW w q all A l c) (hn : l.length ≤ 9223372036854775807) (ht : t.length ≤ 9223372036854775807) :
    Calls Tryd.prog 30 #[encStr t, .pointer (some ⟨q, 0, none⟩)] w fun e w' => e = .returned (.bool (!inW all l t)) ∧ Below w.heap.size w w' := by
  have k0 := hB.k0
  have k1 := hB.k1
  obtain ⟨V, hV⟩ : ∃ V, inW all l t = V := ⟨_, rfl⟩
  have hh := has_any all A l c t w hE hB.rd hn ht
  rw [hV] at hh ⊢
  clear hV
  have HH := Lib.hid hh
  clear hh
  go_enter Tryd.func30, Tryd.ntmps30
  go_wp2_with fail
  refine HH.out.mono ?_
  rintro e w1 ⟨rfl, hb1⟩
  go_wp2_with fail
  go_ret
  exact ⟨rfl, hb1⟩

set_option maxRecDepth 100000 in
set_option maxHeartbeats 1600000 in
theorem meetA_any (bA : Bool) (A B : Option Addr) (la lb : List Tx) (ca cb : Nat) (w : World) (hE : Env w) (hA : RdL w 1 A (la.map tC)) (hB : RdL w 1 B (lb.map tC)) (hsa : ∀ t ∈ la, t.length ≤ 9223372036854775807) (hsb : ∀ t ∈ lb, t.length ≤ 9223372036854775807) (hna : la.length * 16 ≤ 140737488355328) (hnb : lb.length * 16 ≤ 140737488355328) :
    Calls Tryd.prog 17 #[.agg #[.bool false, .slice A la.length ca], .agg #[.bool bA, .slice B lb.length cb]] w fun e w' => ∃ A', e = .returned (.agg #[.bool (meetW false la bA lb).1, .slice A' (meetW false la bA lb).2.length (meetW false la bA lb).2.length]) ∧ OwnT w' w.heap.size A' (meetW false la bA lb).2 ∧ Below w.heap.size w w' := by
  have eg : ∀ args W, (callFunc 30 args).run Tryd.prog W = .ok (.enter 30 args) W := enters_of Tryd.func30 (by kernel_rfl) rfl
  have HEG := Lib.hid eg
  have HSA := Lib.hid hsa
  have HSB := Lib.hid hsb
  have HA := Lib.hid hA
  have HB := Lib.hid hB
  have HE := Lib.hid hE
  clear eg hsa hsb hA hB hE
  go_enter Tryd.func17, Tryd.ntmps17
  go_wp2_with fail
  generalize hEu : ((w.alloc _).alloc _).alloc _ = u
  have hbu : Below w.heap.size w u := (by rw [← hEu]; exact (by repeat' (first | (with_reducible exact Below.refl _ _) | (with_reducible assumption) | (with_reducible refine Below.drew ?_) | (with_reducible refine below_drewN ?_ _) | (with_reducible refine below_iterAt ?_ ?_ _ _) | (with_reducible refine below_iter ?_ ?_ _ _) | (with_reducible refine Below.alloc ?_ ?_ _) | (with_reducible refine Below.setCell ?_ ?_ _) | (with_reducible refine Below.trans ?_ (Below.mono (by assumption) ?_)) | (simp only [sz_alloc, sz_set, sz_drew, sz_drewN, sz_iterAt, sz_iter] at *; omega) | omega | (simp; done) | (simp; omega) | (apply Below.size; assumption) | (simp only [sz_drew, sz_drewN]; apply Below.size; assumption) | (refine Nat.le_trans ?_ (Below.size (by assumption))))))
  have lu_0 : w.heap.size < u.heap.size := (by rw [← hEu]; first | omega | (simp only [sz_alloc, sz_set, sz_drew, sz_drewN, sz_iterAt, sz_iter] at *; omega) | (simp; done) | (simp; omega) | (simp at *; omega))
  have qu_0 : ∀ o, u.cell? ⟨w.heap.size, o, none⟩ = _ := fun o => congrArg (fun W : World => W.cell? ⟨w.heap.size, o, none⟩) hEu.symm
  have ru_0 : ∀ o, u.frozen? ⟨w.heap.size, o, none⟩ = _ := fun o => congrArg (fun W : World => W.frozen? ⟨w.heap.size, o, none⟩) hEu.symm
  have lu_1 : w.heap.size + 1 < u.heap.size := (by rw [← hEu]; first | omega | (simp only [sz_alloc, sz_set, sz_drew, sz_drewN, sz_iterAt, sz_iter] at *; omega) | (simp; done) | (simp; omega) | (simp at *; omega))
  have qu_1 : ∀ o, u.cell? ⟨w.heap.size + 1, o, none⟩ = _ := fun o => congrArg (fun W : World => W.cell? ⟨w.heap.size + 1, o, none⟩) hEu.symm
  have ru_1 : ∀ o, u.frozen? ⟨w.heap.size + 1, o, none⟩ = _ := fun o => congrArg (fun W : World => W.frozen? ⟨w.heap.size + 1, o, none⟩) hEu.symm
  have lu_2 : w.heap.size + 1 + 1 < u.heap.size := (by rw [← hEu]; first | omega | (simp only [sz_alloc, sz_set, sz_drew, sz_drewN, sz_iterAt, sz_iter] at *; omega) | (simp; done) | (simp; omega) | (simp at *; omega))
  have qu_2 : ∀ o, u.cell? ⟨w.heap.size + 1 + 1, o, none⟩ = _ := fun o => congrArg (fun W : World => W.cell? ⟨w.heap.size + 1 + 1, o, none⟩) hEu.symm
  have ru_2 : ∀ o, u.frozen? ⟨w.heap.size + 1 + 1, o, none⟩ = _ := fun o => congrArg (fun W : World => W.frozen? ⟨w.heap.size + 1 + 1, o, none⟩) hEu.symm
  clear hEu
  have hszu : w.heap.size ≤ u.heap.size := hbu.size
  have HBX : Hid (BoxW u (w.heap.size + 1) bA B lb cb) := Lib.hid ⟨(qu_1 0).trans (by simp [go_sem]), (qu_1 1).trans (by simp [go_sem]), HB.out.below hbu⟩
  refine (cloneT A la ca u (HA.out.below hbu) hna).mono ?_
  rintro e w1 ⟨A1, cap, rfl, hcap, ho, hb1, hA1⟩
  have hz1 := hb1.size
  have HO := Lib.hid ho
  clear ho
  go_wp2_with fail
  refine (deleteQ 30 ⟨w.heap.size + 1, 0, none⟩ (fun t => inW bA lb t) A1 la cap u.heap.size w1 hz1 HO.out hcap (by omega) (fun x hx W hW hsz => meet1_any (w.heap.size + 1) bA B lb cb x W (HE.out.below (hbu.trans ((hb1.trans hW).mono hszu))) (HBX.out.below (hb1.trans hW)) (by omega) (HSA.out x hx)) HEG.out).mono ?_
  rintro e w2 ⟨rfl, ho2, hb2⟩
  have hz2 := hb2.size
  obtain ⟨fl, hfl⟩ : ∃ fl, la.filter (fun t => inW bA lb t) = fl := ⟨_, rfl⟩
  rw [hfl] at ho2 ⊢
  have hl2 : fl.length ≤ la.length := by rw [← hfl]; exact List.length_filter_le _ _
  have hfs : ∀ t ∈ fl, t.length ≤ 9223372036854775807 := by rw [← hfl]; exact fun t ht => HSA.out t (List.mem_filter.1 ht).1
  have HFS := Lib.hid hfs
  have HFL := Lib.hid hfl
  have HO2 := Lib.hid ho2
  have hbx2 : Below u.heap.size u w2 := hb1.trans hb2
  clear ho2 hfs hfl
  go_wp2_with fail
  refine (make_any false A1 fl cap w2 (HE.out.below (hbu.trans (hbx2.mono hszu))) HO2.out.rd HFS.out (by omega)).mono ?_
  rintro e w3 ⟨A3, rfl, ho3, hb3⟩
  have hz3 := hb3.size
  obtain ⟨m, hm⟩ : ∃ m, norm fl = m := ⟨_, rfl⟩
  rw [hm] at ho3 ⊢
  have HM : Hid ((meetW false la bA lb) = (false, m)) := Lib.hid (by rw [← hm, ← HFL.out]; rfl)
  have HO3 := Lib.hid ho3
  clear ho3 hm
  have hbx : Below u.heap.size u w3 := hbx2.trans (hb3.mono (by omega))
  have q5 := fun o => (hbx.cell (p := ⟨w.heap.size + 1 + 1, o, none⟩) lu_2).trans (qu_2 o)
  have r5 := fun o => (hbx.frozen (p := ⟨w.heap.size + 1 + 1, o, none⟩) lu_2).trans (ru_2 o)
  have l5 : w.heap.size + 1 + 1 < w3.heap.size := by omega
  have hb5 : Below w.heap.size w w3 := hbu.trans (hbx.mono hszu)
  clear hbx qu_0 ru_0 qu_1 ru_1 qu_2 ru_2 hb1 hb2 hb3 hbx2 hA1
  go_wp2_with fail
  have hfin : OwnT ((w3.setCell ⟨w.heap.size + 1 + 1, 0, none⟩ (.bool false)).setCell ⟨w.heap.size + 1 + 1, 1, none⟩ (.slice A3 m.length m.length)) w2.heap.size A3 m := by
    exact (HO3.out.set_ (by omega) 0 _).set_ (by omega) 1 _
  rw [HM.out]
  refine bodyPost_ret (v := .agg #[.bool false, .slice A3 m.length m.length]) (by simp [results, Tryd.results17, go_sem, *]) rfl ⟨A3, rfl, hfin.base (by omega), (by repeat' (first | (with_reducible exact Below.refl _ _) | (with_reducible assumption) | (with_reducible refine Below.drew ?_) | (with_reducible refine below_drewN ?_ _) | (with_reducible refine below_iterAt ?_ ?_ _ _) | (with_reducible refine below_iter ?_ ?_ _ _) | (with_reducible refine Below.alloc ?_ ?_ _) | (with_reducible refine Below.setCell ?_ ?_ _) | (with_reducible refine Below.trans ?_ (Below.mono (by assumption) ?_)) | (simp only [sz_alloc, sz_set, sz_drew, sz_drewN, sz_iterAt, sz_iter] at *; omega) | omega | (simp; done) | (simp; omega) | (apply Below.size; assumption) | (simp only [sz_drew, sz_drewN]; apply Below.size; assumption) | (refine Nat.le_trans ?_ (Below.size (by assumption)))))⟩

set_option maxRecDepth 100000 in
set_option maxHeartbeats 1600000 in
theorem meetB_any (A B : Option Addr) (la lb : List Tx) (ca cb : Nat) (w : World) (hE : Env w) (hA : RdL w 1 A (la.map tC)) (hB : RdL w 1 B (lb.map tC)) (hsa : ∀ t ∈ la, t.length ≤ 9223372036854775807) (hsb : ∀ t ∈ lb, t.length ≤ 9223372036854775807) (hna : la.length * 16 ≤ 140737488355328) (hnb : lb.length * 16 ≤ 140737488355328) :
    Calls Tryd.prog 17 #[.agg #[.bool true, .slice A la.length ca], .agg #[.bool false, .slice B lb.length cb]] w fun e w' => ∃ A', e = .returned (.agg #[.bool (meetW true la false lb).1, .slice A' (meetW true la false lb).2.length (meetW true la false lb).2.length]) ∧ OwnT w' w.heap.size A' (meetW true la false lb).2 ∧ Below w.heap.size w w' := by
  have eg : ∀ args W, (callFunc 30 args).run Tryd.prog W = .ok (.enter 30 args) W := enters_of Tryd.func30 (by kernel_rfl) rfl
  have HEG := Lib.hid eg
  have HSA := Lib.hid hsa
  have HSB := Lib.hid hsb
  have HA := Lib.hid hA
  have HB := Lib.hid hB
  have HE := Lib.hid hE
  clear eg hsa hsb hA hB hE
  go_enter Tryd.func17, Tryd.ntmps17
  go_wp2_with fail
  generalize hEu : ((w.alloc _).alloc _).alloc _ = u
  have hbu : Below w.heap.size w u := (by rw [← hEu]; exact (by repeat' (first | (with_reducible exact Below.refl _ _) | (with_reducible assumption) | (with_reducible refine Below.drew ?_) | (with_reducible refine below_drewN ?_ _) | (with_reducible refine below_iterAt ?_ ?_ _ _) | (with_reducible refine below_iter ?_ ?_ _ _) | (with_reducible refine Below.alloc ?_ ?_ _) | (with_reducible refine Below.setCell ?_ ?_ _) | (with_reducible refine Below.trans ?_ (Below.mono (by assumption) ?_)) | (simp only [sz_alloc, sz_set, sz_drew, sz_drewN, sz_iterAt, sz_iter] at *; omega) | omega | (simp; done) | (simp; omega) | (apply Below.size; assumption) | (simp only [sz_drew, sz_drewN]; apply Below.size; assumption) | (refine Nat.le_trans ?_ (Below.size (by assumption))))))
  have lu_0 : w.heap.size < u.heap.size := (by rw [← hEu]; first | omega | (simp only [sz_alloc, sz_set, sz_drew, sz_drewN, sz_iterAt, sz_iter] at *; omega) | (simp; done) | (simp; omega) | (simp at *; omega))
  have qu_0 : ∀ o, u.cell? ⟨w.heap.size, o, none⟩ = _ := fun o => congrArg (fun W : World => W.cell? ⟨w.heap.size, o, none⟩) hEu.symm
  have ru_0 : ∀ o, u.frozen? ⟨w.heap.size, o, none⟩ = _ := fun o => congrArg (fun W : World => W.frozen? ⟨w.heap.size, o, none⟩) hEu.symm
  have lu_1 : w.heap.size + 1 < u.heap.size := (by rw [← hEu]; first | omega | (simp only [sz_alloc, sz_set, sz_drew, sz_drewN, sz_iterAt, sz_iter] at *; omega) | (simp; done) | (simp; omega) | (simp at *; omega))
  have qu_1 : ∀ o, u.cell? ⟨w.heap.size + 1, o, none⟩ = _ := fun o => congrArg (fun W : World => W.cell? ⟨w.heap.size + 1, o, none⟩) hEu.symm
  have ru_1 : ∀ o, u.frozen? ⟨w.heap.size + 1, o, none⟩ = _ := fun o => congrArg (fun W : World => W.frozen? ⟨w.heap.size + 1, o, none⟩) hEu.symm
  have lu_2 : w.heap.size + 1 + 1 < u.heap.size := (by rw [← hEu]; first | omega | (simp only [sz_alloc, sz_set, sz_drew, sz_drewN, sz_iterAt, sz_iter] at *; omega) | (simp; done) | (simp; omega) | (simp at *; omega))
  have qu_2 : ∀ o, u.cell? ⟨w.heap.size + 1 + 1, o, none⟩ = _ := fun o => congrArg (fun W : World => W.cell? ⟨w.heap.size + 1 + 1, o, none⟩) hEu.symm
  have ru_2 : ∀ o, u.frozen? ⟨w.heap.size + 1 + 1, o, none⟩ = _ := fun o => congrArg (fun W : World => W.frozen? ⟨w.heap.size + 1 + 1, o, none⟩) hEu.symm
  clear hEu
  have hszu : w.heap.size ≤ u.heap.size := hbu.size
  have HBX : Hid (BoxW u (w.heap.size + 1) true A la ca) := Lib.hid ⟨(qu_1 0).trans (by simp [go_sem]), (qu_1 1).trans (by simp [go_sem]), HA.out.below hbu⟩
  refine (cloneT B lb cb u (HB.out.below hbu) hnb).mono ?_
  rintro e w1 ⟨A1, cap, rfl, hcap, ho, hb1, hA1⟩
  have hz1 := hb1.size
  have HO := Lib.hid ho
  clear ho
  go_wp2_with fail
  refine (deleteQ 30 ⟨w.heap.size + 1, 0, none⟩ (fun t => inW true la t) A1 lb cap u.heap.size w1 hz1 HO.out hcap (by omega) (fun x hx W hW hsz => meet1_any (w.heap.size + 1) true A la ca x W (HE.out.below (hbu.trans ((hb1.trans hW).mono hszu))) (HBX.out.below (hb1.trans hW)) (by omega) (HSB.out x hx)) HEG.out).mono ?_
  rintro e w2 ⟨rfl, ho2, hb2⟩
  have hz2 := hb2.size
  obtain ⟨fl, hfl⟩ : ∃ fl, lb.filter (fun t => inW true la t) = fl := ⟨_, rfl⟩
  rw [hfl] at ho2 ⊢
  have hl2 : fl.length ≤ lb.length := by rw [← hfl]; exact List.length_filter_le _ _
  have hfs : ∀ t ∈ fl, t.length ≤ 9223372036854775807 := by rw [← hfl]; exact fun t ht => HSB.out t (List.mem_filter.1 ht).1
  have HFS := Lib.hid hfs
  have HFL := Lib.hid hfl
  have HO2 := Lib.hid ho2
  have hbx2 : Below u.heap.size u w2 := hb1.trans hb2
  clear ho2 hfs hfl
  go_wp2_with fail
  refine (make_any false A1 fl cap w2 (HE.out.below (hbu.trans (hbx2.mono hszu))) HO2.out.rd HFS.out (by omega)).mono ?_
  rintro e w3 ⟨A3, rfl, ho3, hb3⟩
  have hz3 := hb3.size
  obtain ⟨m, hm⟩ : ∃ m, norm fl = m := ⟨_, rfl⟩
  rw [hm] at ho3 ⊢
  have HM : Hid ((meetW true la false lb) = (false, m)) := Lib.hid (by rw [← hm, ← HFL.out]; rfl)
  have HO3 := Lib.hid ho3
  clear ho3 hm
  have hbx : Below u.heap.size u w3 := hbx2.trans (hb3.mono (by omega))
  have q5 := fun o => (hbx.cell (p := ⟨w.heap.size + 1 + 1, o, none⟩) lu_2).trans (qu_2 o)
  have r5 := fun o => (hbx.frozen (p := ⟨w.heap.size + 1 + 1, o, none⟩) lu_2).trans (ru_2 o)
  have l5 : w.heap.size + 1 + 1 < w3.heap.size := by omega
  have hb5 : Below w.heap.size w w3 := hbu.trans (hbx.mono hszu)
  clear hbx qu_0 ru_0 qu_1 ru_1 qu_2 ru_2 hb1 hb2 hb3 hbx2 hA1
  go_wp2_with fail
  have hfin : OwnT ((w3.setCell ⟨w.heap.size + 1 + 1, 0, none⟩ (.bool false)).setCell ⟨w.heap.size + 1 + 1, 1, none⟩ (.slice A3 m.length m.length)) w2.heap.size A3 m := by
    exact (HO3.out.set_ (by omega) 0 _).set_ (by omega) 1 _
  rw [HM.out]
  refine bodyPost_ret (v := .agg #[.bool false, .slice A3 m.length m.length]) (by simp [results, Tryd.results17, go_sem, *]) rfl ⟨A3, rfl, hfin.base (by omega), (by repeat' (first | (with_reducible exact Below.refl _ _) | (with_reducible assumption) | (with_reducible refine Below.drew ?_) | (with_reducible refine below_drewN ?_ _) | (with_reducible refine below_iterAt ?_ ?_ _ _) | (with_reducible refine below_iter ?_ ?_ _ _) | (with_reducible refine Below.alloc ?_ ?_ _) | (with_reducible refine Below.setCell ?_ ?_ _) | (with_reducible refine Below.trans ?_ (Below.mono (by assumption) ?_)) | (simp only [sz_alloc, sz_set, sz_drew, sz_drewN, sz_iterAt, sz_iter] at *; omega) | omega | (simp; done) | (simp; omega) | (apply Below.size; assumption) | (simp only [sz_drew, sz_drewN]; apply Below.size; assumption) | (refine Nat.le_trans ?_ (Below.size (by assumption)))))⟩

end Go.Proofs.YtgbapmhdhbfhnaaDoor
