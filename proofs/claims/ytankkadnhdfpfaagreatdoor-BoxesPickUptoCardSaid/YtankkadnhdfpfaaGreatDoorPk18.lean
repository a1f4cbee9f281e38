import Derived.Test.YtankkadnhdfpfaaGreatDoorPk17
/- Spans: Join, walked. -/
set_option linter.unusedSimpArgs false
set_option linter.unusedVariables false
namespace Go.Proofs.YtankkadnhdfpfaaGreatDoor.Sp
open Go.RowKit Go.Sort

theorem flat_len (l : List Sp) : (l.flatMap spC).length = l.length * 2 := by
  induction l with
  | nil => rfl
  | cons x r ih => rw [List.flatMap_cons, List.length_append, ih]; simp [spC]; omega
theorem flat_last (pre : List Sp) (c : Sp) : ((pre ++ [c]).flatMap spC)[pre.length * 2]? = some (.int .i64 c.1) ∧ ((pre ++ [c]).flatMap spC)[pre.length * 2 + 1]? = some (.int .i64 c.2) := by
  rw [List.flatMap_append]
  refine ⟨?_, ?_⟩
  · rw [List.getElem?_append_right (by rw [flat_len]; omega), flat_len]; simp [spC]
  · rw [List.getElem?_append_right (by rw [flat_len]; omega), flat_len, show pre.length * 2 + 1 - pre.length * 2 = 1 by omega]; simp [spC]
theorem flat_set (pre : List Sp) (c : Sp) (m : Int) : ((pre ++ [c]).flatMap spC).set (pre.length * 2 + 1) (.int .i64 m) = (pre ++ [(c.1, m)]).flatMap spC := by
  rw [List.flatMap_append, List.flatMap_append, List.set_append_right _ _ (by rw [flat_len]; omega), flat_len, show pre.length * 2 + 1 - pre.length * 2 = 1 by omega]
  rfl
theorem cells_new {W : World} {cs : Array Value} {t : TypeId} {b : Nat} (hb : b = W.heap.size) (j : Nat) (u : Value) (h : cs.toList[j]? = some u) : (W.alloc (.cells cs t)).cell? ((⟨b, 0, none⟩ : Addr).add j) = some u := by
  subst hb
  have h1 := cell_of_block (MapKept.heap_alloc W (.cells cs t)).1 j
  rw [← Array.getElem?_toList, h] at h1
  rw [← h1]
  unfold Addr.add
  by_cases hj : j = 0
  · subst hj; rfl
  · rw [if_neg hj]; simp
theorem own_drewN {w : World} {base : Nat} {e : TypeId} {sz : Nat} {v : Value} {n : Nat} {xs : List Value} (h : w.ownsRow base e sz v n xs) (k : Nat) : (w.drewN k).ownsRow base e sz v n xs := h
theorem flat_css (l : List Sp) : l.flatMap spC = (l.map spC).flatten := by rw [List.flatMap_def]

set_option maxRecDepth 100000 in
set_option maxHeartbeats 3200000 in
theorem join_any (l : List Sp) (A : Option Addr) (c : Nat) (w : World) (hr : RdL w 2 A (l.map spC)) (hw : ∀ s ∈ l, SpWf s) (hn : l.length ≤ 8000000000000) :
    Calls Tryz.prog 84 #[.slice A l.length c] w fun e w' =>
      ∃ (R : List Sp) (B : Option Addr) (cb : Nat), e = .returned (.slice B R.length cb) ∧ RdL w' 2 B (R.map spC) ∧ JoinOf l R ∧ R.length ≤ cb ∧ (∀ p, B = some p → w.heap.size ≤ p.block ∧ p.block < w'.heap.size) ∧ Below w.heap.size w w' := by
  obtain ⟨i0, hinf, hza, hzb, hzc⟩ := info_parts (show (Tryz.prog.info? 86).map (fun i => (i.zero, i.size, i.bytes)) = some (some (.agg #[.int .i64 0, .int .i64 0]), 2, 16) by kernel_rfl)
  by_cases hl0 : l.length = 0
  · have hle : l = [] := List.length_eq_zero_iff.1 hl0
    subst hle
    have hsn := fun (p : Option Addr) (cap : Nat) (fv : Value) (W : World) => Go.Proofs.AnyF.slices_SortFunc_none Tryz.laysSort p cap fv W
    change ∀ (p : Option Addr) (cap : Nat) (fv : Value) (W : World), Calls Tryz.prog 124 _ _ _ at hsn
    go_enter Tryz.func84, Tryz.ntmps84
    go_wp2_with fail
    refine (clone_empty A c _).mono ?_
    rintro e w1 ⟨A1, rfl, hb1⟩
    go_wp2_with fail
    refine (delete_empty A1 _).mono ?_
    rintro e w2 ⟨rfl, hb2⟩
    go_wp2_with fail
    refine (hsn _ _ _ _).mono ?_
    rintro e w3 ⟨rfl, rfl⟩
    clear hsn
    obtain ⟨d, hd0⟩ : ∃ d : List Sp, d = [] := ⟨_, rfl⟩
    have HJ : Hid (JoinOf [] (joinAll d)) := by subst hd0; exact ⟨by simp [joinAll], trivial, fun _ => rfl, by simp [joinAll]⟩
    have hdn : d.length = 0 := by rw [hd0]; rfl
    have hz : ¬ ((0 : Int) < 0) := by omega
    have hb2' : Below w.heap.size w w3 := bel
    go_wp2_with fail
    go_loopg [3, 14] 1 (fun k ov iv wr => iv = .int .i64 0 ∧ ov = .slice none 0 0 ∧ Below w.heap.size w wr)
    case atStart => exact ⟨rfl, rfl, hb2'⟩
    case round =>
      obtain ⟨rfl, rfl, hbel⟩ := hrel
      go_wp2_with fail
      refine (clip_any _ _ 0 0 none rfl (fun _ => rfl) (Nat.le_refl _)).mono ?_
      rintro e w7 ⟨rfl, rfl⟩
      go_wp2_with fail
      go_ret
      exact ⟨[], none, 0, rfl, RdL.nil_ _ _ _, by have := HJ.out; rw [hd0] at this; exact this, Nat.le_refl _, (fun p h => nomatch h), hbel⟩
  · have hn0 : 0 < l.length := by omega
    obtain ⟨b0, off0, rfl, _⟩ := hr.at_ hn0
    go_enter Tryz.func84, Tryz.ntmps84
    go_wp2_with fail
    refine (clone_any l b0 off0 c _ hr hn).mono ?_
    rintro e w1 ⟨g, cap, f, rfl, hg, hg1, hlc, hrow, hfr, hfl, hb1⟩
    go_wp2_with fail
    refine (delete_any l f g cap w.heap.size w1 hg hb1.size hg1 hrow hfr hfl hlc (by omega)).mono ?_
    rintro e w2 ⟨rfl, f2, hrow2, hfr2, hfl2, hb2⟩
    have hz2 := hb2.size
    have hz1 := hb1.size
    have hg2 : g < w2.heap.size := by omega
    have hfn : (l.filter okS).length ≤ 8000000000000 := Nat.le_trans (List.length_filter_le _ _) hn
    go_wp2_with fail
    refine (sort_any (l.filter okS) f2 g cap w.heap.size w2 hg (by omega) hg2 hrow2 hfr2 hfl2 (by omega)).mono ?_
    rintro e w3 ⟨rfl, d, hperm, hpair, hd, hb3⟩
    have HJ : Hid (JoinOf l (joinAll d)) := join_of hw hperm hpair
    have hdw : ∀ s ∈ d, SpWf s := fun s hs => hw s (List.mem_filter.1 (hperm.mem_iff.1 hs)).1
    have hlen : d.length = (l.filter okS).length := hperm.length_eq
    have hdn : d.length ≤ 8000000000000 := by omega
    have hbw : Below w.heap.size w w3 := hb1.trans (hb2.trans hb3)
    rw [← hlen]
    clear hrow hfr hfl hrow2 hfr2 hfl2 hperm hpair hb1 hb2 hb3 hz1 hz2 hg1 hg2 hlc hlen hfn
    go_wp2_with fail
    go_loopg [3, 14] d.length (fun k ov iv wr => ∃ (j : Nat) (acc : List Sp), j ≤ d.length ∧ d.length - j ≤ k ∧ iv = .int .i64 j ∧ wr.ownsRow w3.heap.size 86 2 ov acc.length (acc.flatMap spC) ∧ acc.length ≤ j ∧ Hid ((j = 0 ∧ acc = []) ∨ (∃ pre c, acc = pre ++ [c] ∧ SpWf c ∧ joinAll d = pre ++ joinL c (d.drop j))) ∧ Below w3.heap.size w3 wr)
    case atStart => exact ⟨0, [], by omega, by omega, rfl, ⟨rfl, Or.inl ⟨rfl, rfl⟩⟩, by simp, Or.inl ⟨rfl, rfl⟩, bel⟩
    case round =>
      obtain ⟨j, acc, hj, hjk, rfl, hown, hal, hinv, hbel⟩ := hrel
      have hsz := hbel.size
      by_cases hlt : j < d.length
      · have hdrop : d.drop j = d[j]'hlt :: d.drop (j + 1) := List.drop_eq_getElem_cons hlt
        obtain ⟨b, off, hB, hx⟩ := (hd.below hbel).at_ hlt
        cases hB
        have hsw := hdw _ (List.getElem_mem hlt)
        have hj0 : j = 0 → joinAll d = joinL (d[j]'hlt) (d.drop (j + 1)) := by intro h; subst h; cases d with | nil => exact absurd hlt (by simp) | cons t q => rfl
        generalize d[j]'hlt = s at *
        have y0 : wr.cell? ⟨g, j * 2, none⟩ = some (.int .i64 s.1) := by have := hx.get 0 rfl; simpa using this
        have y1 : wr.cell? ⟨g, j * 2 + 1, none⟩ = some (.int .i64 s.2) := by have := hx.get 1 rfl; simpa using this
        have i1 : (j : Int) < (d.length : Int) := by omega
        have i2 : (0 : Int) ≤ (j : Int) := by omega
        have HD := Lib.hid hdrop
        have HSW := Lib.hid hsw
        have HJ0 := Lib.hid hj0
        clear hdrop hsw hx hj0
        rcases hinv.out with ⟨hjz, hacc⟩ | ⟨pre, c, hacc, hcw, hjo⟩
        · subst hacc
          have HJZ := Lib.hid hjz
          clear hjz
          have hsv := hown.2
          have hov : _ = Value.slice none 0 0 ∨ ∃ g2 c2, _ = Value.slice (some ⟨g2, 0, none⟩) 0 c2 := hsv.imp (fun h => h.1) (fun ⟨g2, c2, _, h, _⟩ => ⟨g2, c2, h⟩)
          have HOV := Lib.hid hown
          clear hsv hown
          rcases hov with rfl | ⟨g2, c2, rfl⟩
          · have e0 : decide ((0 : Int) < 0) = false := rfl
            go_wp2_with fail
            go_quiet (fail)
            go_wp2_with (first
              | (at_builtin; refine wpList_append_own _ rfl _ _ 31 rfl w3.heap.size 86 i0 (.agg #[.int .i64 0, .int .i64 0]) 2 16 Tryz.underlying31 hinf hza hzb hzc rfl (by decide) _ _ _ rfl ((HOV.out.alloc _).alloc _) ⟨wr.heap.size + 1, 0, none⟩ 1 1 (spC s) rfl rfl ?k1_a0 ?k2_a0 ?k3_a0 ?k4_a0 ?k5_a0 ?_)
              | fail)
            try case k1_a0 => exact fun i u hu => cells_new (by first | rfl | (simp; done) | (simp [World.drewN]; done)) i u hu
            try case k2_a0 => first | exact ⟨rfl, rfl⟩ | (intro u hu; simp [spC] at hu; rcases hu with rfl | rfl <;> rfl)
            try case k3_a0 => unfold maxLen; first | omega | (simp; done) | (simp; omega)
            try case k4_a0 => first | omega | (simp; done) | (simp; omega)
            try case k5_a0 => first | omega | (simp; done) | (simp; omega) | (simp [World.drewN]; omega)
            · intro v' w5 hown' hgrow _
              have hb5 : Below w3.heap.size w3 w5 := by
                refine Below.grown ?_ hgrow ?_ (fun g hg => (HOV.out.lt g hg).1)
                · exact bel
                · first | (simp; omega) | (simp [World.drewN]; omega)
              have hown2 : w5.ownsRow w3.heap.size 86 2 v' (([] : List Sp) ++ [s]).length ((([] : List Sp) ++ [s]).flatMap spC) := by first | exact hown' | (rw [List.flatMap_append, List.length_append]; exact hown') | (simpa using hown')
              clear hown' hgrow
              go_wp2_with fail
              go_roundg (d.length - (j + 1))
              case measure => omega
              case rel => exact ⟨j + 1, ([] : List Sp) ++ [s], by omega, by omega, by go_num, hown2, (by first | (simp; done) | (simp; omega)), Or.inr ⟨[], s, rfl, HSW.out, HJ0.out HJZ.out⟩, hb5⟩
          · have e0 : decide ((0 : Int) < 0) = false := rfl
            go_wp2_with fail
            go_quiet (fail)
            go_wp2_with (first
              | (at_builtin; refine wpList_append_own _ rfl _ _ 31 rfl w3.heap.size 86 i0 (.agg #[.int .i64 0, .int .i64 0]) 2 16 Tryz.underlying31 hinf hza hzb hzc rfl (by decide) _ _ _ rfl ((HOV.out.alloc _).alloc _) ⟨wr.heap.size + 1, 0, none⟩ 1 1 (spC s) rfl rfl ?k1_a1 ?k2_a1 ?k3_a1 ?k4_a1 ?k5_a1 ?_)
              | fail)
            try case k1_a1 => exact fun i u hu => cells_new (by first | rfl | (simp; done) | (simp [World.drewN]; done)) i u hu
            try case k2_a1 => first | exact ⟨rfl, rfl⟩ | (intro u hu; simp [spC] at hu; rcases hu with rfl | rfl <;> rfl)
            try case k3_a1 => unfold maxLen; first | omega | (simp; done) | (simp; omega)
            try case k4_a1 => first | omega | (simp; done) | (simp; omega)
            try case k5_a1 => first | omega | (simp; done) | (simp; omega) | (simp [World.drewN]; omega)
            · intro v' w5 hown' hgrow _
              have hb5 : Below w3.heap.size w3 w5 := by
                refine Below.grown ?_ hgrow ?_ (fun g hg => (HOV.out.lt g hg).1)
                · exact bel
                · first | (simp; omega) | (simp [World.drewN]; omega)
              have hown2 : w5.ownsRow w3.heap.size 86 2 v' (([] : List Sp) ++ [s]).length ((([] : List Sp) ++ [s]).flatMap spC) := by first | exact hown' | (rw [List.flatMap_append, List.length_append]; exact hown') | (simpa using hown')
              clear hown' hgrow
              go_wp2_with fail
              go_roundg (d.length - (j + 1))
              case measure => omega
              case rel => exact ⟨j + 1, ([] : List Sp) ++ [s], by omega, by omega, by go_num, hown2, (by first | (simp; done) | (simp; omega)), Or.inr ⟨[], s, rfl, HSW.out, HJ0.out HJZ.out⟩, hb5⟩
        · subst hacc
          have hsv := hown.2
          have hov : ∃ g2 c2, u3 = Value.slice (some ⟨g2, 0, none⟩) (pre.length + 1) c2 ∧ w3.heap.size ≤ g2 := by
            rcases hsv with ⟨_, h⟩ | ⟨g2, c2, _, h, h2, _⟩
            · simp at h
            · exact ⟨g2, c2, by rw [h]; simp, h2⟩
          obtain ⟨g2, c2, rfl, hg2⟩ := hov
          clear hsv
          have hpl : (pre ++ [c]).length = pre.length + 1 := by simp
          rw [hpl] at hown hal
          have hfl := flat_last pre c
          have x0 : wr.cell? ⟨g2, pre.length * 2, none⟩ = some (.int .i64 c.1) := (hown.cellAt (pre.length * 2) (by omega)).trans hfl.1
          have x1 : wr.cell? ⟨g2, pre.length * 2 + 1, none⟩ = some (.int .i64 c.2) := (hown.cellAt (pre.length * 2 + 1) (by omega)).trans hfl.2
          have xf : wr.frozen? ⟨g2, pre.length * 2 + 1, none⟩ = false := hown.frozenAt _
          have hg2l : g2 < wr.heap.size := cell_lt x0
          have hjo2 : joinAll d = pre ++ joinL c (s :: d.drop (j + 1)) := by rw [hjo, HD.out]
          have HO := Lib.hid hown
          have HP := Lib.hid hpl
          have HJO := Lib.hid hjo2
          have HCW := Lib.hid hcw
          have p1 : (0 : Int) ≤ (pre.length : Int) := by omega
          have p2 : (pre.length : Int) < (pre.length : Int) + 1 := by omega
          have p3 : decide ((0 : Int) < (pre.length : Int) + 1) = true := decide_eq_true (by omega)
          have p4 : (pre.length : Int) + 1 - 1 = (pre.length : Int) := by omega
          have p5 : IntKind.i64.wrap ((pre.length : Int) + 1 - 1) = (pre.length : Int) := by rw [p4]; exact IntWalk.i64_in _ (by omega)
          have p6 : IntKind.i64.wrap (pre.length : Int) = (pre.length : Int) := IntWalk.i64_in _ (by omega)
          have p7 : (pre.length : Int) < (pre.length : Int) + 1 := by omega
          have hcs := HCW.out.h2
          clear hown hfl hjo hjo2 hcw
          have three : ((c.2 == 9223372036854775807) = true ∧ glueB c s = true) ∨ ((c.2 == 9223372036854775807) = false ∧ decide (s.1 ≤ c.2 + 1) = true ∧ glueB c s = true) ∨ ((c.2 == 9223372036854775807) = false ∧ decide (s.1 ≤ c.2 + 1) = false ∧ glueB c s = false) := by
            unfold glueB MX; cases (c.2 == 9223372036854775807) <;> cases decide (s.1 ≤ c.2 + 1) <;> simp
          rcases three with ⟨e1, hgl⟩ | ⟨e1, e2, hgl⟩ | ⟨e1, e2, hgl⟩
          · have HG := Lib.hid hgl
            clear hgl
            go_wp2_with fail
            go_quiet (fail)
            go_wp2_with fail
            generalize hWZ : World.drewN (World.alloc wr _) _ = wz
            have hfl := flat_last pre c
            have zown : World.ownsRow wz w3.heap.size 86 2 (Value.slice (some ⟨g2, 0, none⟩) (pre.length + 1) c2) (pre.length + 1) ((pre ++ [c]).flatMap spC) := by rw [← hWZ]; exact own_drewN (HO.out.alloc _) nq
            have zb : Below w3.heap.size w3 wz := by rw [← hWZ]; exact below_drewN (hbel.alloc hsz _) _
            have z1 : World.cell? wz ⟨g2, pre.length * 2 + 1, none⟩ = some (.int .i64 c.2) := (zown.cellAt (pre.length * 2 + 1) (by omega)).trans hfl.2
            have z2 : World.cell? wz ⟨wr.heap.size, 1, none⟩ = some (.int .i64 s.2) := by rw [← hWZ]; exact cells_new (W := wr) (cs := #[.int .i64 s.1, .int .i64 s.2]) (t := 86) rfl 1 (.int .i64 s.2) rfl
            have z3 : World.frozen? wz ⟨g2, pre.length * 2 + 1, none⟩ = false := zown.frozenAt _
            have zs := (zown.stored (pre.length * 2 + 1) (.int .i64 (max c.2 s.2))).1
            rw [flat_set] at zs
            have hcw2 := HCW.out
            have hsw2 := HSW.out
            have k1 := hcw2.l1
            have k2 := hcw2.l2
            have k3 := hcw2.h1
            have k4 := hcw2.h2
            have k5 := hsw2.h2
            have zw : SpWf (c.1, max c.2 s.2) := ⟨k1, k2, by show _ ≤ max c.2 s.2; omega, by show max c.2 s.2 ≤ _; omega⟩
            have zbs : Below w3.heap.size w3 (wz.setCell ⟨g2, pre.length * 2 + 1, none⟩ (.int .i64 (max c.2 s.2))) := zb.setCell hg2 _
            have zl : (pre ++ [(c.1, max c.2 s.2)]).length = pre.length + 1 := by simp
            have zj : joinAll d = pre ++ joinL (c.1, max c.2 s.2) (d.drop (j + 1)) := by rw [HJO.out, joinL_yes HG.out]
            have ZO := Lib.hid zs
            have ZB := Lib.hid zbs
            have ZW := Lib.hid zw
            have ZL := Lib.hid zl
            have ZJ := Lib.hid zj
            clear hWZ hfl zown zb zs zbs zw zl zj hcw2 hsw2 k1 k2 k3 k4 k5
            go_still_tail 12, (by kernel_rfl)
            go_wp2_with fail
            go_roundg (d.length - (j + 1))
            case measure => omega
            case rel => exact ⟨j + 1, pre ++ [(c.1, max c.2 s.2)], by omega, by omega, by go_num, by rw [ZL.out]; exact ZO.out, by rw [ZL.out]; omega, Or.inr ⟨pre, (c.1, max c.2 s.2), rfl, ZW.out, ZJ.out⟩, ZB.out.drew⟩
          · have e3 : IntKind.i64.wrap (c.2 + 1) = c.2 + 1 := IntWalk.i64_in _ (by have := HCW.out.h1; simp at e1; omega)
            have HG := Lib.hid hgl
            clear hgl
            go_wp2_with fail
            go_quiet (fail)
            go_wp2_with fail
            generalize hWZ : World.drewN (World.alloc wr _) _ = wz
            have hfl := flat_last pre c
            have zown : World.ownsRow wz w3.heap.size 86 2 (Value.slice (some ⟨g2, 0, none⟩) (pre.length + 1) c2) (pre.length + 1) ((pre ++ [c]).flatMap spC) := by rw [← hWZ]; exact own_drewN (HO.out.alloc _) nq
            have zb : Below w3.heap.size w3 wz := by rw [← hWZ]; exact below_drewN (hbel.alloc hsz _) _
            have z1 : World.cell? wz ⟨g2, pre.length * 2 + 1, none⟩ = some (.int .i64 c.2) := (zown.cellAt (pre.length * 2 + 1) (by omega)).trans hfl.2
            have z2 : World.cell? wz ⟨wr.heap.size, 1, none⟩ = some (.int .i64 s.2) := by rw [← hWZ]; exact cells_new (W := wr) (cs := #[.int .i64 s.1, .int .i64 s.2]) (t := 86) rfl 1 (.int .i64 s.2) rfl
            have z3 : World.frozen? wz ⟨g2, pre.length * 2 + 1, none⟩ = false := zown.frozenAt _
            have zs := (zown.stored (pre.length * 2 + 1) (.int .i64 (max c.2 s.2))).1
            rw [flat_set] at zs
            have hcw2 := HCW.out
            have hsw2 := HSW.out
            have k1 := hcw2.l1
            have k2 := hcw2.l2
            have k3 := hcw2.h1
            have k4 := hcw2.h2
            have k5 := hsw2.h2
            have zw : SpWf (c.1, max c.2 s.2) := ⟨k1, k2, by show _ ≤ max c.2 s.2; omega, by show max c.2 s.2 ≤ _; omega⟩
            have zbs : Below w3.heap.size w3 (wz.setCell ⟨g2, pre.length * 2 + 1, none⟩ (.int .i64 (max c.2 s.2))) := zb.setCell hg2 _
            have zl : (pre ++ [(c.1, max c.2 s.2)]).length = pre.length + 1 := by simp
            have zj : joinAll d = pre ++ joinL (c.1, max c.2 s.2) (d.drop (j + 1)) := by rw [HJO.out, joinL_yes HG.out]
            have ZO := Lib.hid zs
            have ZB := Lib.hid zbs
            have ZW := Lib.hid zw
            have ZL := Lib.hid zl
            have ZJ := Lib.hid zj
            clear hWZ hfl zown zb zs zbs zw zl zj hcw2 hsw2 k1 k2 k3 k4 k5
            go_still_tail 12, (by kernel_rfl)
            go_wp2_with fail
            go_roundg (d.length - (j + 1))
            case measure => omega
            case rel => exact ⟨j + 1, pre ++ [(c.1, max c.2 s.2)], by omega, by omega, by go_num, by rw [ZL.out]; exact ZO.out, by rw [ZL.out]; omega, Or.inr ⟨pre, (c.1, max c.2 s.2), rfl, ZW.out, ZJ.out⟩, ZB.out.drew⟩
          · have HG := Lib.hid hgl
            clear hgl
            have e3 : IntKind.i64.wrap (c.2 + 1) = c.2 + 1 := IntWalk.i64_in _ (by have := HCW.out.h1; simp at e1; omega)
            go_wp2_with fail
            go_quiet (fail)
            go_wp2_with (first
              | (at_builtin; refine wpList_append_own _ rfl _ _ 31 rfl w3.heap.size 86 i0 (.agg #[.int .i64 0, .int .i64 0]) 2 16 Tryz.underlying31 hinf hza hzb hzc rfl (by decide) _ _ _ rfl ((own_drewN (HO.out.alloc _) _).alloc _) ⟨wr.heap.size + 1, 0, none⟩ 1 1 (spC s) rfl rfl ?k1_b ?k2_b ?k3_b ?k4_b ?k5_b ?_)
              | fail)
            try case k1_b => exact fun i u hu => cells_new (by first | rfl | (simp; done) | (simp [World.drewN]; done)) i u hu
            try case k2_b => first | exact ⟨rfl, rfl⟩ | (intro u hu; simp [spC] at hu; rcases hu with rfl | rfl <;> rfl)
            try case k3_b => unfold maxLen; first | omega | (simp; done) | (simp; omega)
            try case k4_b => first | omega | (simp; done) | (simp; omega)
            try case k5_b => first | omega | (simp; done) | (simp; omega) | (simp [World.drewN]; omega)
            · intro v' w5 hown' hgrow _
              have hb5 : Below w3.heap.size w3 w5 := by
                refine Below.grown ?_ hgrow ?_ (fun g hg => (HO.out.lt g hg).1)
                · exact bel
                · first | (simp; omega) | (simp [World.drewN]; omega)
              have hown2 : w5.ownsRow w3.heap.size 86 2 v' ((pre ++ [c]) ++ [s]).length (((pre ++ [c]) ++ [s]).flatMap spC) := by first | exact hown' | (rw [List.flatMap_append, List.length_append]; exact hown') | (simpa using hown')
              clear hown' hgrow
              go_wp2_with fail
              go_roundg (d.length - (j + 1))
              case measure => omega
              case rel => exact ⟨j + 1, (pre ++ [c]) ++ [s], by omega, by omega, by go_num, hown2, (by first | (simp; done) | (simp; omega)), Or.inr ⟨pre ++ [c], s, rfl, HSW.out, by rw [HJO.out, joinL_no HG.out, List.append_assoc]; first | done | rfl⟩, hb5⟩
      · have hje : j = d.length := by omega
        have hR : acc = joinAll d := by
          rcases hinv.out with ⟨h1, h2⟩ | ⟨pre, c, h1, _, h2⟩
          · have : d = [] := List.length_eq_zero_iff.1 (by omega)
            rw [h2, this]; rfl
          · rw [h2, h1, hje, List.drop_length]; rfl
        have i1 : ¬ ((j : Int) < (d.length : Int)) := by omega
        obtain ⟨B2, c2, rfl, hrd⟩ := own_rd (css := acc.map spC) hown (flat_css acc) (by intro c hc; obtain ⟨x, _, rfl⟩ := List.mem_map.1 hc; rfl) (by simp)
        have hnc : acc.length ≤ c2 ∧ (B2 = none → acc.length = 0) ∧ ∀ p, B2 = some p → w.heap.size ≤ p.block ∧ p.block < wr.heap.size := by
          have hbwz := hbw.size
          rcases hown.2 with ⟨h1, h2⟩ | ⟨g2, c3, _, h1, h4, h5, h3, _⟩
          · exact ⟨by omega, fun _ => h2, fun p h => by simp only [Value.slice.injEq] at h1; rw [h1.1] at h; cases h⟩
          · cases h1; exact ⟨h3, fun h => (by cases h), fun p h => by cases h; exact ⟨Nat.le_trans hbwz h4, (Array.getElem?_eq_some_iff.1 h5).1⟩⟩
        have HR := Lib.hid hR
        have HNC := Lib.hid hnc
        clear hR hown
        go_wp2_with fail
        refine (clip_any _ _ acc.length c2 B2 rfl hnc.2.1 hnc.1).mono ?_
        rintro e w7 ⟨rfl, rfl⟩
        go_wp2_with fail
        go_ret
        exact ⟨acc, B2, acc.length, rfl, hrd, by rw [HR.out]; exact HJ.out, Nat.le_refl _, HNC.out.2.2, hbw.trans (hbel.mono hbw.size)⟩
end Go.Proofs.YtankkadnhdfpfaaGreatDoor.Sp
