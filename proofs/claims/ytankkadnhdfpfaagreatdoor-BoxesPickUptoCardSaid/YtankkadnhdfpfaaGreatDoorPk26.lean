import Derived.Test.YtankkadnhdfpfaaGreatDoorPk25
import Derived.Test.YtankkadnhdfpfaaGreatDoorPk19
/- A row of texts of one's own reads as a list. -/
set_option linter.unusedSimpArgs false
set_option linter.unusedVariables false
namespace Go.Proofs.YtankkadnhdfpfaaGreatDoor.Wd
open Go.RowKit Go.Sort Go.Lib

theorem own_rd {w : World} {base : Nat} {e : TypeId} {sz : Nat} {v : Value} {n : Nat} {xs : List Value} {css : List (List Value)} (h : w.ownsRow base e sz v n xs) (hx : xs = css.flatten) (hs : ∀ c ∈ css, c.length = sz) (hn : css.length = n) :
    ∃ A c, v = .slice A n c ∧ RdL w sz A css := by
  obtain ⟨hl, h⟩ := h
  rcases h with ⟨rfl, rfl⟩ | ⟨g, cap, cur, rfl, hb, hg, h1, h2, h3, h4⟩
  · refine ⟨none, 0, rfl, ?_⟩
    obtain rfl : css = [] := List.length_eq_zero_iff.1 hn
    exact RdL.nil_ _ _ _
  · refine ⟨some ⟨g, 0, none⟩, cap, rfl, fun j c hj => ⟨g, 0, rfl, fun i u hu => ?_⟩⟩
    have hjl := (List.getElem?_eq_some_iff.1 hj).1
    have hc : c ∈ css := List.mem_of_getElem? hj
    have hil := (List.getElem?_eq_some_iff.1 hu).1
    have hcl := hs c hc
    have key : ∀ (l : List (List Value)) (j : Nat), (∀ c ∈ l, c.length = sz) → l[j]? = some c → l.flatten[j * sz + i]? = c[i]? := by
      intro l
      induction l with
      | nil => intro j _ h; simp at h
      | cons d r ih =>
        intro j hs' hj'
        cases j with
        | zero =>
          obtain rfl : d = c := by simpa using hj'
          simp only [List.flatten_cons, Nat.zero_mul, Nat.zero_add]
          exact List.getElem?_append_left hil
        | succ j =>
          have hd : d.length = sz := hs' d (by simp)
          simp only [List.flatten_cons]
          rw [List.getElem?_append_right (by rw [hd, Nat.succ_mul]; omega)]
          rw [show (j + 1) * sz + i - d.length = j * sz + i by rw [hd, Nat.succ_mul]; omega]
          exact ih j (fun c hc => hs' c (List.mem_cons_of_mem _ hc)) (by simpa using hj')
    have h5 := key css j hs hj
    rw [← hx, hu] at h5
    rw [← h4] at h5
    have h6 : cur.toList[j * sz + i]? = some u := by
      rw [List.getElem?_take] at h5
      split at h5
      · exact h5
      · cases h5
    rw [show (0 + j * sz + i) = j * sz + i by omega, cell_of_block hg]
    rw [← Array.getElem?_toList]
    exact h6
theorem flat_tC : ∀ l : List Tx, (l.map tC).flatten = l.map encStr
  | [] => rfl
  | x :: r => by rw [List.map_cons, List.flatten_cons, flat_tC r]; rfl
theorem own_rdT {w : World} {base : Nat} {v : Value} {l : List Tx} (h : w.ownsRow base 9 1 v l.length (l.map encStr)) : ∃ A c, v = .slice A l.length c ∧ RdL w 1 A (l.map tC) :=
  own_rd h (flat_tC l).symm (fun c hc => by obtain ⟨t, _, rfl⟩ := List.mem_map.1 hc; rfl) (by simp)
end Go.Proofs.YtankkadnhdfpfaaGreatDoor.Wd

/- words.Meet$1; Meet of two that are not both "all but some", walked. -/
set_option linter.unusedSimpArgs false
set_option linter.unusedVariables false
namespace Go.Proofs.YtankkadnhdfpfaaGreatDoor.Wd
open Go.RowKit Go.Sort Go.Lib

structure BoxW (w : World) (q : Nat) (all : Bool) (A : Option Addr) (l : List Tx) (c : Nat) : Prop where
  k0 : w.cell? ⟨q, 0, none⟩ = some (.bool all)
  k1 : w.cell? ⟨q, 1, none⟩ = some (.slice A l.length c)
  rd : RdL w 1 A (l.map tC)
theorem BoxW.below {w w' : World} {q : Nat} {all : Bool} {A : Option Addr} {l : List Tx} {c : Nat} (h : BoxW w q all A l c) (hb : Below w.heap.size w w') : BoxW w' q all A l c :=
  ⟨cell_below hb h.k0, cell_below hb h.k1, h.rd.below hb⟩

set_option maxHeartbeats 800000 in
theorem meet1_any (q : Nat) (all : Bool) (A : Option Addr) (l : List Tx) (c : Nat) (t : Tx) (w : World) (hE : Env w) (hB : BoxW w q all A l c) (hn : l.length ≤ 9223372036854775807) (ht : t.length ≤ 9223372036854775807) :
    Calls Tryz.prog 135 #[encStr t, .pointer (some ⟨q, 0, none⟩)] w fun e w' => e = .returned (.bool (!inW all l t)) ∧ Below w.heap.size w w' := by
  have k0 := hB.k0
  have k1 := hB.k1
  obtain ⟨V, hV⟩ : ∃ V, inW all l t = V := ⟨_, rfl⟩
  have hh := has_any all A l c t w hE hB.rd hn ht
  rw [hV] at hh ⊢
  clear hV
  have HH := Lib.hid hh
  clear hh
  go_enter Tryz.func135, Tryz.ntmps135
  go_wp2_with fail
  refine HH.out.mono ?_
  rintro e w1 ⟨rfl, hb1⟩
  go_wp2_with fail
  go_ret
  exact ⟨rfl, hb1⟩

set_option maxRecDepth 100000 in
set_option maxHeartbeats 1600000 in
theorem meetA_any (bA : Bool) (A B : Option Addr) (la lb : List Tx) (ca cb : Nat) (w : World) (hE : Env w) (hA : RdL w 1 A (la.map tC)) (hB : RdL w 1 B (lb.map tC)) (hsa : ∀ t ∈ la, t.length ≤ 9223372036854775807) (hsb : ∀ t ∈ lb, t.length ≤ 9223372036854775807) (hna : la.length * 16 ≤ 140737488355328) (hnb : lb.length * 16 ≤ 140737488355328) :
    Calls Tryz.prog 87 #[.agg #[.bool false, .slice A la.length ca], .agg #[.bool bA, .slice B lb.length cb]] w fun e w' => ∃ A', e = .returned (.agg #[.bool (meetW false la bA lb).1, .slice A' (meetW false la bA lb).2.length (meetW false la bA lb).2.length]) ∧ OwnT w' w.heap.size A' (meetW false la bA lb).2 ∧ Below w.heap.size w w' := by
  have eg : ∀ args W, (callFunc 135 args).run Tryz.prog W = .ok (.enter 135 args) W := enters_of Tryz.func135 (by kernel_rfl) rfl
  have HEG := Lib.hid eg
  have HSA := Lib.hid hsa
  have HSB := Lib.hid hsb
  have HA := Lib.hid hA
  have HB := Lib.hid hB
  have HE := Lib.hid hE
  clear eg hsa hsb hA hB hE
  go_enter Tryz.func87, Tryz.ntmps87
  go_wp2_with fail
  generalize hEu : ((w.alloc _).alloc _).alloc _ = u
  have hbu : Below w.heap.size w u := (by rw [← hEu]; exact bel)
  have lu_0 : w.heap.size < u.heap.size := lsz hEu
  have qu_0 : ∀ o, u.cell? ⟨w.heap.size, o, none⟩ = _ := fun o => congrArg (fun W : World => W.cell? ⟨w.heap.size, o, none⟩) hEu.symm
  have ru_0 : ∀ o, u.frozen? ⟨w.heap.size, o, none⟩ = _ := fun o => congrArg (fun W : World => W.frozen? ⟨w.heap.size, o, none⟩) hEu.symm
  have lu_1 : w.heap.size + 1 < u.heap.size := lsz hEu
  have qu_1 : ∀ o, u.cell? ⟨w.heap.size + 1, o, none⟩ = _ := fun o => congrArg (fun W : World => W.cell? ⟨w.heap.size + 1, o, none⟩) hEu.symm
  have ru_1 : ∀ o, u.frozen? ⟨w.heap.size + 1, o, none⟩ = _ := fun o => congrArg (fun W : World => W.frozen? ⟨w.heap.size + 1, o, none⟩) hEu.symm
  have lu_2 : w.heap.size + 1 + 1 < u.heap.size := lsz hEu
  have qu_2 : ∀ o, u.cell? ⟨w.heap.size + 1 + 1, o, none⟩ = _ := fun o => congrArg (fun W : World => W.cell? ⟨w.heap.size + 1 + 1, o, none⟩) hEu.symm
  have ru_2 : ∀ o, u.frozen? ⟨w.heap.size + 1 + 1, o, none⟩ = _ := fun o => congrArg (fun W : World => W.frozen? ⟨w.heap.size + 1 + 1, o, none⟩) hEu.symm
  clear hEu
  have hszu : w.heap.size ≤ u.heap.size := hbu.size
  have HBX : Hid (BoxW u (w.heap.size + 1) bA B lb cb) := Lib.hid ⟨(qu_1 0).trans (by simp [go_sem]), (qu_1 1).trans (by simp [go_sem]), HB.out.below hbu⟩
  refine (cloneT A la ca u (HA.out.below hbu) hna).mono ?_
  rintro e w1 ⟨A1, cap, rfl, hcap, ho, hb1, hA1⟩
  have hz1 := hb1.size
  have HO := Lib.hid ho
  clear ho
  go_wp2_with fail
  refine (deleteQ 135 ⟨w.heap.size + 1, 0, none⟩ (fun t => inW bA lb t) A1 la cap u.heap.size w1 hz1 HO.out hcap (by omega) (fun x hx W hW hsz => meet1_any (w.heap.size + 1) bA B lb cb x W (HE.out.below (hbu.trans ((hb1.trans hW).mono hszu))) (HBX.out.below (hb1.trans hW)) (by omega) (HSA.out x hx)) HEG.out).mono ?_
  rintro e w2 ⟨rfl, ho2, hb2⟩
  have hz2 := hb2.size
  obtain ⟨fl, hfl⟩ : ∃ fl, la.filter (fun t => inW bA lb t) = fl := ⟨_, rfl⟩
  rw [hfl] at ho2 ⊢
  have hl2 : fl.length ≤ la.length := by rw [← hfl]; exact List.length_filter_le _ _
  have hfs : ∀ t ∈ fl, t.length ≤ 9223372036854775807 := by rw [← hfl]; exact fun t ht => HSA.out t (List.mem_filter.1 ht).1
  have HFS := Lib.hid hfs
  have HFL := Lib.hid hfl
  have HO2 := Lib.hid ho2
  have hbx2 : Below u.heap.size u w2 := hb1.trans hb2
  clear ho2 hfs hfl
  go_wp2_with fail
  refine (make_any false A1 fl cap w2 (HE.out.below (hbu.trans (hbx2.mono hszu))) HO2.out.rd HFS.out (by omega)).mono ?_
  rintro e w3 ⟨A3, rfl, ho3, hb3⟩
  have hz3 := hb3.size
  obtain ⟨m, hm⟩ : ∃ m, norm fl = m := ⟨_, rfl⟩
  rw [hm] at ho3 ⊢
  have HM : Hid ((meetW false la bA lb) = (false, m)) := Lib.hid (by rw [← hm, ← HFL.out]; rfl)
  have HO3 := Lib.hid ho3
  clear ho3 hm
  have hbx : Below u.heap.size u w3 := hbx2.trans (hb3.mono (by omega))
  have q5 := fun o => (hbx.cell (p := ⟨w.heap.size + 1 + 1, o, none⟩) lu_2).trans (qu_2 o)
  have r5 := fun o => (hbx.frozen (p := ⟨w.heap.size + 1 + 1, o, none⟩) lu_2).trans (ru_2 o)
  have l5 : w.heap.size + 1 + 1 < w3.heap.size := by omega
  have hb5 : Below w.heap.size w w3 := hbu.trans (hbx.mono hszu)
  clear hbx qu_0 ru_0 qu_1 ru_1 qu_2 ru_2 hb1 hb2 hb3 hbx2 hA1
  go_wp2_with fail
  have hfin : OwnT ((w3.setCell ⟨w.heap.size + 1 + 1, 0, none⟩ (.bool false)).setCell ⟨w.heap.size + 1 + 1, 1, none⟩ (.slice A3 m.length m.length)) w2.heap.size A3 m := by
    exact (HO3.out.set_ (by omega) 0 _).set_ (by omega) 1 _
  rw [HM.out]
  refine bodyPost_ret (v := .agg #[.bool false, .slice A3 m.length m.length]) (by simp [results, Tryz.results87, go_sem, *]) rfl ⟨A3, rfl, hfin.base (by omega), bel⟩

set_option maxRecDepth 100000 in
set_option maxHeartbeats 1600000 in
theorem meetB_any (A B : Option Addr) (la lb : List Tx) (ca cb : Nat) (w : World) (hE : Env w) (hA : RdL w 1 A (la.map tC)) (hB : RdL w 1 B (lb.map tC)) (hsa : ∀ t ∈ la, t.length ≤ 9223372036854775807) (hsb : ∀ t ∈ lb, t.length ≤ 9223372036854775807) (hna : la.length * 16 ≤ 140737488355328) (hnb : lb.length * 16 ≤ 140737488355328) :
    Calls Tryz.prog 87 #[.agg #[.bool true, .slice A la.length ca], .agg #[.bool false, .slice B lb.length cb]] w fun e w' => ∃ A', e = .returned (.agg #[.bool (meetW true la false lb).1, .slice A' (meetW true la false lb).2.length (meetW true la false lb).2.length]) ∧ OwnT w' w.heap.size A' (meetW true la false lb).2 ∧ Below w.heap.size w w' := by
  have eg : ∀ args W, (callFunc 135 args).run Tryz.prog W = .ok (.enter 135 args) W := enters_of Tryz.func135 (by kernel_rfl) rfl
  have HEG := Lib.hid eg
  have HSA := Lib.hid hsa
  have HSB := Lib.hid hsb
  have HA := Lib.hid hA
  have HB := Lib.hid hB
  have HE := Lib.hid hE
  clear eg hsa hsb hA hB hE
  go_enter Tryz.func87, Tryz.ntmps87
  go_wp2_with fail
  generalize hEu : ((w.alloc _).alloc _).alloc _ = u
  have hbu : Below w.heap.size w u := (by rw [← hEu]; exact bel)
  have lu_0 : w.heap.size < u.heap.size := lsz hEu
  have qu_0 : ∀ o, u.cell? ⟨w.heap.size, o, none⟩ = _ := fun o => congrArg (fun W : World => W.cell? ⟨w.heap.size, o, none⟩) hEu.symm
  have ru_0 : ∀ o, u.frozen? ⟨w.heap.size, o, none⟩ = _ := fun o => congrArg (fun W : World => W.frozen? ⟨w.heap.size, o, none⟩) hEu.symm
  have lu_1 : w.heap.size + 1 < u.heap.size := lsz hEu
  have qu_1 : ∀ o, u.cell? ⟨w.heap.size + 1, o, none⟩ = _ := fun o => congrArg (fun W : World => W.cell? ⟨w.heap.size + 1, o, none⟩) hEu.symm
  have ru_1 : ∀ o, u.frozen? ⟨w.heap.size + 1, o, none⟩ = _ := fun o => congrArg (fun W : World => W.frozen? ⟨w.heap.size + 1, o, none⟩) hEu.symm
  have lu_2 : w.heap.size + 1 + 1 < u.heap.size := lsz hEu
  have qu_2 : ∀ o, u.cell? ⟨w.heap.size + 1 + 1, o, none⟩ = _ := fun o => congrArg (fun W : World => W.cell? ⟨w.heap.size + 1 + 1, o, none⟩) hEu.symm
  have ru_2 : ∀ o, u.frozen? ⟨w.heap.size + 1 + 1, o, none⟩ = _ := fun o => congrArg (fun W : World => W.frozen? ⟨w.heap.size + 1 + 1, o, none⟩) hEu.symm
  clear hEu
  have hszu : w.heap.size ≤ u.heap.size := hbu.size
  have HBX : Hid (BoxW u (w.heap.size + 1) true A la ca) := Lib.hid ⟨(qu_1 0).trans (by simp [go_sem]), (qu_1 1).trans (by simp [go_sem]), HA.out.below hbu⟩
  refine (cloneT B lb cb u (HB.out.below hbu) hnb).mono ?_
  rintro e w1 ⟨A1, cap, rfl, hcap, ho, hb1, hA1⟩
  have hz1 := hb1.size
  have HO := Lib.hid ho
  clear ho
  go_wp2_with fail
  refine (deleteQ 135 ⟨w.heap.size + 1, 0, none⟩ (fun t => inW true la t) A1 lb cap u.heap.size w1 hz1 HO.out hcap (by omega) (fun x hx W hW hsz => meet1_any (w.heap.size + 1) true A la ca x W (HE.out.below (hbu.trans ((hb1.trans hW).mono hszu))) (HBX.out.below (hb1.trans hW)) (by omega) (HSB.out x hx)) HEG.out).mono ?_
  rintro e w2 ⟨rfl, ho2, hb2⟩
  have hz2 := hb2.size
  obtain ⟨fl, hfl⟩ : ∃ fl, lb.filter (fun t => inW true la t) = fl := ⟨_, rfl⟩
  rw [hfl] at ho2 ⊢
  have hl2 : fl.length ≤ lb.length := by rw [← hfl]; exact List.length_filter_le _ _
  have hfs : ∀ t ∈ fl, t.length ≤ 9223372036854775807 := by rw [← hfl]; exact fun t ht => HSB.out t (List.mem_filter.1 ht).1
  have HFS := Lib.hid hfs
  have HFL := Lib.hid hfl
  have HO2 := Lib.hid ho2
  have hbx2 : Below u.heap.size u w2 := hb1.trans hb2
  clear ho2 hfs hfl
  go_wp2_with fail
  refine (make_any false A1 fl cap w2 (HE.out.below (hbu.trans (hbx2.mono hszu))) HO2.out.rd HFS.out (by omega)).mono ?_
  rintro e w3 ⟨A3, rfl, ho3, hb3⟩
  have hz3 := hb3.size
  obtain ⟨m, hm⟩ : ∃ m, norm fl = m := ⟨_, rfl⟩
  rw [hm] at ho3 ⊢
  have HM : Hid ((meetW true la false lb) = (false, m)) := Lib.hid (by rw [← hm, ← HFL.out]; rfl)
  have HO3 := Lib.hid ho3
  clear ho3 hm
  have hbx : Below u.heap.size u w3 := hbx2.trans (hb3.mono (by omega))
  have q5 := fun o => (hbx.cell (p := ⟨w.heap.size + 1 + 1, o, none⟩) lu_2).trans (qu_2 o)
  have r5 := fun o => (hbx.frozen (p := ⟨w.heap.size + 1 + 1, o, none⟩) lu_2).trans (ru_2 o)
  have l5 : w.heap.size + 1 + 1 < w3.heap.size := by omega
  have hb5 : Below w.heap.size w w3 := hbu.trans (hbx.mono hszu)
  clear hbx qu_0 ru_0 qu_1 ru_1 qu_2 ru_2 hb1 hb2 hb3 hbx2 hA1
  go_wp2_with fail
  have hfin : OwnT ((w3.setCell ⟨w.heap.size + 1 + 1, 0, none⟩ (.bool false)).setCell ⟨w.heap.size + 1 + 1, 1, none⟩ (.slice A3 m.length m.length)) w2.heap.size A3 m := by
    exact (HO3.out.set_ (by omega) 0 _).set_ (by omega) 1 _
  rw [HM.out]
  refine bodyPost_ret (v := .agg #[.bool false, .slice A3 m.length m.length]) (by simp [results, Tryz.results87, go_sem, *]) rfl ⟨A3, rfl, hfin.base (by omega), bel⟩

end Go.Proofs.YtankkadnhdfpfaaGreatDoor.Wd
