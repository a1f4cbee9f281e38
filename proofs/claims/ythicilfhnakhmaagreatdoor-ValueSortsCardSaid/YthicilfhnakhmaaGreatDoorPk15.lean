import Derived.Test.YthicilfhnakhmaaGreatDoorPk14
import Derived.Test.YthicilfhnakhmaaGreatDoorPk05
import Derived.Test.YthicilfhnakhmaaGreatDoorPk06
import Derived.Deep.RegionLaw
import Derived.Deep.AppendLies
import Derived.Test.YthicilfhnakhmaaGreatDoorPk03
import Derived.Test.YthicilfhnakhmaaGreatDoorPk13
/- soffitref04.Sort, walked. -/
set_option linter.unusedSimpArgs false
set_option linter.unusedVariables false
namespace Go.Proofs.YthicilfhnakhmaaGreatDoor
open Go.RowKit Go.Sort Go.Lib

def VAg (v : Vl) : Value := .agg #[.int .i64 v.k, .int .i64 v.n, .int .i64 v.s, .string v.t, .int .i64 v.i]
theorem snd_drop {l : List Vl} (h : ∀ v ∈ l, sndB v = true) : allSnd l = true := by
  unfold allSnd
  rw [Bool.not_eq_true', List.any_eq_false]
  intro v hv; rw [h v hv]; simp
set_option maxRecDepth 100000 in
set_option maxHeartbeats 1600000 in
theorem rsort_bad (l : List Vl) (A : Option Addr) (c : Nat) (w : World) (hr : RdL w 5 A (l.map Vl.cells5)) (hw : ∀ v ∈ l, v.wf) (hs : allSnd l = false) (hn : l.length ≤ 1000000) :
    Calls Tryz.prog 18 #[.slice A l.length c] w fun e w' => e = .returned (.tuple #[.slice none 0 0, .int .i64 2]) ∧ Below w.heap.size w w' := by
  have HW := Lib.hid hw
  have HR := Lib.hid hr
  have HS : Hid (allSnd l = false) := hs
  obtain ⟨u, hu⟩ : ∃ u, l.length = u := ⟨_, rfl⟩
  have HU := Lib.hid hu
  rw [hu] at hn ⊢
  clear hu hr hw hs
  go_enter Tryz.func18, Tryz.ntmps18
  go_wp2_with fail
  go_loopg [5] u (fun k iv wr => ∃ i : Nat, i ≤ u ∧ u - i ≤ k ∧ iv = .int .i64 (i : Int) ∧ Hid (∀ t, t < i → ∀ v, l[t]? = some v → sndB v = true) ∧ Below w.heap.size w wr)
  case atStart => exact ⟨0, by omega, by omega, rfl, Lib.hid (fun t ht => by omega), bel⟩
  case round =>
    obtain ⟨i, hi, hik, rfl, HT, hbel⟩ := hrel
    by_cases hlt : i < u
    · have hil : i < l.length := by rw [HU.out]; exact hlt
      obtain ⟨b, off, hAe, hx⟩ := (HR.out.below hbel).at_ hil
      subst hAe
      have hvw := HW.out _ (List.getElem_mem hil)
      have hget := List.getElem?_eq_getElem hil
      generalize l[i]'hil = y at *
      have y0 : wr.cell? ⟨b, off + i * 5, none⟩ = some (.int .i64 y.k) := hx.get 0 rfl
      have y1 : wr.cell? ⟨b, off + i * 5 + 1, none⟩ = some (.int .i64 y.n) := hx.get 1 rfl
      have y2 : wr.cell? ⟨b, off + i * 5 + 2, none⟩ = some (.int .i64 y.s) := hx.get 2 rfl
      have y3 : wr.cell? ⟨b, off + i * 5 + 3, none⟩ = some (.string y.t) := hx.get 3 rfl
      have y4 : wr.cell? ⟨b, off + i * 5 + 4, none⟩ = some (.int .i64 y.i) := hx.get 4 rfl
      have i1 : (0 : Int) ≤ (i : Int) := by omega
      have i2 : (i : Int) < (u : Int) := by omega
      have hsz := hbel.size
      have HG := Lib.hid hget
      clear hx hget
      cases hsy : sndB y
      · skip
        go_wp2_with fail
        refine (rSound_any y _ hvw).mono ?_
        rintro e w1 ⟨rfl, hb1⟩
        rw [hsy]
        clear hsy
        go_wp2_with fail
        go_ret2
        exact ⟨rfl, bel⟩
      · have HSY := Lib.hid hsy
        go_wp2_with fail
        refine (rSound_any y _ hvw).mono ?_
        rintro e w1 ⟨rfl, hb1⟩
        rw [hsy]
        clear hsy
        go_wp2_with fail
        go_roundg (gk - 1)
        case measure => omega
        case rel =>
          refine ⟨i + 1, by omega, by omega, by go_num, Lib.hid (fun t ht v hv => ?_), bel⟩
          by_cases e : t = i
          · subst e; rw [HG.out] at hv; cases hv; exact HSY.out
          · exact HT.out t (by omega) v hv
    · exfalso
      have h1 := HS.out
      unfold allSnd at h1
      rw [Bool.not_eq_false'] at h1
      obtain ⟨v, hv, h2⟩ := List.any_eq_true.1 h1
      obtain ⟨t, ht, rfl⟩ := List.getElem_of_mem hv
      have := HT.out t (by have := HU.out; omega) _ (List.getElem?_eq_getElem ht)
      rw [this] at h2; cases h2

set_option maxRecDepth 100000 in
set_option maxHeartbeats 6400000 in
theorem rsort_all (l : List Vl) (A : Option Addr) (c : Nat) (w : World) (hr : RdL w 5 A (l.map Vl.cells5)) (hw : ∀ v ∈ l, v.wf) (hs : ∀ v ∈ l, sndB v = true) (hn : l.length ≤ 1000000) :
    Calls Tryz.prog 18 #[.slice A l.length c] w fun e w' =>
      ∃ (R : List Vl) (B : Option Addr) (cb : Nat), e = .returned (.tuple #[.slice B R.length cb, .int .i64 0]) ∧ RdL w' 5 B (R.map Vl.cells5) ∧ RowOf l l.length R ∧ Below w.heap.size w w' := by
  obtain ⟨i0, hinf, hza, hzb, hzc⟩ := info_parts (show (Tryz.prog.info? 25).map (fun i => (i.zero, i.size, i.bytes)) = some (some (.agg #[.int .i64 0, .int .i64 0, .int .i64 0, .string ⟨#[]⟩, .int .i64 0]), 5, 48) by kernel_rfl)
  have HW := Lib.hid hw
  have HR := Lib.hid hr
  have HS := Lib.hid hs
  obtain ⟨u, hu⟩ : ∃ u, l.length = u := ⟨_, rfl⟩
  have HU := Lib.hid hu
  rw [hu] at hn ⊢
  clear hu hr hw hs
  go_enter Tryz.func18, Tryz.ntmps18
  go_wp2_with fail
  go_loopg [5] u (fun k iv wr => ∃ i : Nat, i ≤ u ∧ u - i ≤ k ∧ iv = .int .i64 (i : Int) ∧ Below (w.heap.size + 1) (w.alloc (.cells #[] 25)) wr)
  case atStart => exact ⟨0, by omega, by omega, rfl, bel⟩
  case round =>
    obtain ⟨i, hi, hik, rfl, hbel⟩ := hrel
    have hsz0 := hbel.size
    have hsz : w.heap.size + 1 ≤ wr.heap.size := by simpa using hsz0
    have hbw : Below w.heap.size w wr := (show Below w.heap.size w (w.alloc (.cells #[] 25)) from bel).trans (hbel.mono (Nat.le_succ _))
    by_cases hlt : i < u
    · have hil : i < l.length := by rw [HU.out]; exact hlt
      obtain ⟨b, off, hAe, hx⟩ := (HR.out.below hbw).at_ hil
      subst hAe
      have hvw := HW.out _ (List.getElem_mem hil)
      have hsy := HS.out _ (List.getElem_mem hil)
      generalize l[i]'hil = y at *
      have y0 : wr.cell? ⟨b, off + i * 5, none⟩ = some (.int .i64 y.k) := hx.get 0 rfl
      have y1 : wr.cell? ⟨b, off + i * 5 + 1, none⟩ = some (.int .i64 y.n) := hx.get 1 rfl
      have y2 : wr.cell? ⟨b, off + i * 5 + 2, none⟩ = some (.int .i64 y.s) := hx.get 2 rfl
      have y3 : wr.cell? ⟨b, off + i * 5 + 3, none⟩ = some (.string y.t) := hx.get 3 rfl
      have y4 : wr.cell? ⟨b, off + i * 5 + 4, none⟩ = some (.int .i64 y.i) := hx.get 4 rfl
      have i1 : (0 : Int) ≤ (i : Int) := by omega
      have i2 : (i : Int) < (u : Int) := by omega
      clear hx
      go_wp2_with fail
      refine (rSound_any y _ hvw).mono ?_
      rintro e w1 ⟨rfl, hb1⟩
      rw [hsy]
      clear hsy hbw
      go_wp2_with fail
      go_roundg (gk - 1)
      case measure => omega
      case rel => exact ⟨i + 1, by omega, by omega, by go_num, (by first | exact hbel.trans (hb1.mono hsz) | exact bel)⟩
    · have i2 : ¬ (i : Int) < (u : Int) := by omega
      have hstart : ∀ o, wr.cell? ⟨w.heap.size, o, none⟩ = none := fun o => (hbel.cell (p := ⟨w.heap.size, o, none⟩) (Nat.lt_succ_self _)).trans (by simp [go_sem])
      clear hbel hstart hsz0 hi hik hlt
      go_wp2_with fail
      go_loopg [4, 6] u (fun k ov iv wq => ∃ (i g cap : Nat) (R : List Vl), i ≤ u ∧ u - i ≤ k ∧ iv = .int .i64 (i : Int) ∧ ov = .slice (some ⟨g, 0, none⟩) R.length cap ∧ R.length ≤ cap ∧ Hid (RdL wq 5 (some ⟨g, 0, none⟩) (R.map Vl.cells5)) ∧ Hid (RowOf l i R) ∧ Below w.heap.size w wq)
      case atStart => exact ⟨0, w.heap.size, 0, [], by omega, by omega, rfl, rfl, Nat.le_refl _, RdL.nil_ _ _ _, RowOf.zero l, hbw⟩
      case round =>
        clear hbw hsz i2
        obtain ⟨i, g, cap, R, hi, hik, rfl, rfl, hcap, hRd, hRow, hbel⟩ := hrel
        have hsz := hbel.size
        by_cases hlt : i < u
        · have hil : i < l.length := by rw [HU.out]; exact hlt
          obtain ⟨b, off, hAe, hx⟩ := (HR.out.below hbel).at_ hil
          subst hAe
          have hvw := HW.out _ (List.getElem_mem hil)
          have hsy := HS.out _ (List.getElem_mem hil)
          have hget := List.getElem?_eq_getElem hil
          generalize l[i]'hil = y at *
          have HG := Lib.hid hget
          have HSY := Lib.hid hsy
          have y0 : wr.cell? ⟨b, off + i * 5, none⟩ = some (.int .i64 y.k) := hx.get 0 rfl
          have y1 : wr.cell? ⟨b, off + i * 5 + 1, none⟩ = some (.int .i64 y.n) := hx.get 1 rfl
          have y2 : wr.cell? ⟨b, off + i * 5 + 2, none⟩ = some (.int .i64 y.s) := hx.get 2 rfl
          have y3 : wr.cell? ⟨b, off + i * 5 + 3, none⟩ = some (.string y.t) := hx.get 3 rfl
          have y4 : wr.cell? ⟨b, off + i * 5 + 4, none⟩ = some (.int .i64 y.i) := hx.get 4 rfl
          have i1 : (0 : Int) ≤ (i : Int) := by omega
          have i2 : (i : Int) < (u : Int) := by omega
          have hRl := hRow.out.len
          have hRs : Hid (∀ v ∈ R, sndB v = true ∧ v.wf) := Lib.hid (fun v hv => by have := List.mem_of_mem_take ((hRow.out.mem v).1 hv); exact ⟨HS.out v this, HW.out v this⟩)
          obtain ⟨m, hm⟩ : ∃ m, R.length = m := ⟨_, rfl⟩
          have HM := Lib.hid hm
          rw [hm] at hcap hRl ⊢
          clear hx hget hsy hm
          go_wp2_with fail
          go_loopg [7, 8, 9] m (fun k av tv kv wz => ∃ (at_ q : Nat) (th : Bool), q ≤ m ∧ m - q ≤ k ∧ kv = .int .i64 (q : Int) ∧ av = .int .i64 (at_ : Int) ∧ tv = .bool th ∧ Hid (AtOf R y q at_ th) ∧ Below wr.heap.size wr wz)
          case atStart => exact ⟨0, 0, false, by omega, by omega, rfl, rfl, rfl, AtOf.zero R y, Below.refl _ _⟩
          case round =>
            obtain ⟨at_, q, th, hq, hqk, rfl, rfl, rfl, hAt, hbz⟩ := hrel
            have hszz := hbz.size
            have z0 := cell_below hbz y0
            have z1 := cell_below hbz y1
            have z2 := cell_below hbz y2
            have z3 := cell_below hbz y3
            have z4 := cell_below hbz y4
            clear y0 y1 y2 y3 y4
            by_cases hqm : q < m
            · have hql : q < R.length := by rw [HM.out]; exact hqm
              obtain ⟨b2, o2, hBe, hxx⟩ := (hRd.out.below hbz).at_ hql
              cases hBe
              have hxw := hRs.out _ (List.getElem_mem hql)
              have hgetx := List.getElem?_eq_getElem hql
              generalize R[q]'hql = x at *
              have x0 : wr.cell? ⟨g, q * 5, none⟩ = some (.int .i64 x.k) := by have := hxx.get 0 rfl; simpa using this
              have x1 : wr.cell? ⟨g, q * 5 + 1, none⟩ = some (.int .i64 x.n) := by have := hxx.get 1 rfl; simpa using this
              have x2 : wr.cell? ⟨g, q * 5 + 2, none⟩ = some (.int .i64 x.s) := by have := hxx.get 2 rfl; simpa using this
              have x3 : wr.cell? ⟨g, q * 5 + 3, none⟩ = some (.string x.t) := by have := hxx.get 3 rfl; simpa using this
              have x4 : wr.cell? ⟨g, q * 5 + 4, none⟩ = some (.int .i64 x.i) := by have := hxx.get 4 rfl; simpa using this
              have hcmp : Hid (∀ W, Calls Tryz.prog 9 #[.agg #[.int .i64 x.k, .int .i64 x.n, .int .i64 x.s, .string x.t, .int .i64 x.i], .agg #[.int .i64 y.k, .int .i64 y.n, .int .i64 y.s, .string y.t, .int .i64 y.i]] W fun e w' => e = .returned (.tuple #[.int .i64 (cmpV x y), .int .i64 0]) ∧ Below W.heap.size W w') := Lib.hid (fun W => (rCompare_any x y W hxw.2 hvw).mono (fun e w' ⟨h1, h2⟩ => ⟨by rw [h1]; unfold cmpVRes; rw [hxw.1, HSY.out]; rfl, h2⟩))
              have HXS := Lib.hid hxw
              have HGX := Lib.hid hgetx
              obtain ⟨D, hD⟩ : ∃ D, cmpV x y = D := ⟨_, rfl⟩
              rw [hD] at hcmp
              have HD := Lib.hid hD
              have j1 : (0 : Int) ≤ (q : Int) := by omega
              have j2 : (q : Int) < (m : Int) := by omega
              clear hxx hgetx hxw hD
              go_wp2_with fail
              have d0 := AtB.cell x0
              have d1 := AtB.cell x1
              have d2 := AtB.cell x2
              have d3 := AtB.cell x3
              have d4 := AtB.cell x4
              have f0 := AtB.cell z0
              have f1 := AtB.cell z1
              have f2 := AtB.cell z2
              have f3 := AtB.cell z3
              have f4 := AtB.cell z4
              refine wp_region_quiet_at (by kernel_rfl) (by kernel_rfl) ?_
              repeat (go_big_quiet_step ((first
                | (go_at_call 9; exact AtB.quiet _ (fun W hW => hcmp.out W)))))
              refine wpQuiet_nil ?_
              intro _ hw'
              obtain ⟨pq, hw''⟩ := hw'
              subst hw''
              have hpq := hbz.trans (pq.hb.mono hszz)
              clear d0 d1 d2 d3 d4 f0 f1 f2 f3 f4 x0 x1 x2 x3 x4 z0 z1 z2 z3 z4 hcmp
              have hD0 : (D == 0) = eqB x y := by
                rw [← HD.out, Bool.eq_iff_iff, beq_iff_eq, eqB_iff]
                exact cmpV_zero HXS.out.1 HSY.out
              by_cases hneg : D < 0
              · have hlt2 : ltV x y = true := cmpV_neg (by rw [HD.out]; exact hneg)
                have HL := Lib.hid hlt2
                have HD0 := Lib.hid hD0
                have HRU := Lib.hid hRow.out.up
                clear hlt2 hD0
                cases th
                all_goals
                  go_wp2_with fail
                  go_roundg (gk - 1)
                  case measure => omega
                  case rel => exact ⟨q + 1, q + 1, _, by omega, by omega, by go_num, by go_num, rfl, Lib.hid (hAt.out.less HRU.out HGX.out HL.out _ (by rw [← HD0.out]; simp)), hpq⟩
              · have hlt2 : ltV x y = false := by
                  cases h : ltV x y
                  · rfl
                  · exfalso
                    have h2 := HD.out
                    have h3 := ltOf_cmpV x y
                    rw [h] at h3
                    unfold ltOf at h3
                    have := of_decide_eq_true h3
                    omega
                have HL := Lib.hid hlt2
                have HD0 := Lib.hid hD0
                clear hlt2 hD0
                cases th
                all_goals
                  go_wp2_with fail
                  go_roundg (gk - 1)
                  case measure => omega
                  case rel => exact ⟨at_, q + 1, _, by omega, by omega, by go_num, rfl, rfl, Lib.hid (hAt.out.more HGX.out HL.out _ (by rw [← HD0.out]; simp)), hpq⟩
            · have hqe : q = m := by omega
              subst hqe
              have j2 : ¬ (q : Int) < (q : Int) := by omega
              have hbw1 : Below w.heap.size w wr := hbel.trans (hbz.mono hsz)
              have hRd1 := Lib.hid (hRd.out.below hbz)
              cases th
              · have hAt2 := hAt.out
                rw [← HM.out] at hAt2
                have HNEW := Lib.hid (hRow.out.new HG.out hAt2 HS.out)
                have hle : at_ ≤ q := hAt.out.le
                have HT1 : Hid (RdL wr 5 (some ⟨g, 0, none⟩) ((R.take at_).map Vl.cells5)) := Lib.hid (by
                  intro j c hc
                  refine hRd1.out j c ?_
                  rw [List.map_take, List.getElem?_take] at hc
                  split at hc
                  · exact hc
                  · cases hc)
                have hdr : RdL wr 5 (some ⟨g, at_ * 5, none⟩) ((R.drop at_).map Vl.cells5) := by
                  intro j c hc
                  rw [List.map_drop, List.getElem?_drop] at hc
                  obtain ⟨b9, o9, e9, h9⟩ := hRd1.out (at_ + j) c hc
                  cases e9
                  exact ⟨g, at_ * 5, rfl, fun i v hv => by have := h9 i v hv; rw [show at_ * 5 + j * 5 + i = 0 + (at_ + j) * 5 + i by omega]; exact this⟩
                have HT2 := Lib.hid hdr
                have HL1 : Hid ((R.take at_).length = at_) := Lib.hid (by rw [List.length_take, HM.out]; omega)
                have HL2 : Hid ((R.drop at_).length = q - at_) := Lib.hid (by rw [List.length_drop, HM.out])
                have k1 : (0 : Int) ≤ (at_ : Int) := by omega
                have k2 : (at_ : Int) ≤ (cap : Int) := by omega
                have k3 : (at_ : Int) ≤ (q : Int) := by omega
                have k4 : at_ ≤ cap := by omega
                have k5 : at_ ≤ q := hle
                have y00 := z0
                clear hAt2 hAt hqk hqm hdr
                have hgq : g < wr.heap.size ∨ q = 0 := by
                  by_cases h0 : q = 0
                  · exact .inr h0
                  · left
                    obtain ⟨b9, o9, e9, h9⟩ := hRd1.out.at_ (show 0 < R.length by rw [HM.out]; omega)
                    cases e9
                    exact cell_lt (h9.get 0 (v := .int .i64 (R[0]'(by rw [HM.out]; omega)).k) rfl)
                have hlb := cell_lt z0
                by_cases hca : cap = at_
                all_goals
                  go_wp2_with fail
                  go_region_law ((first
                    | (refine step_spread (by rfl) _ _ 36 (by rfl) wr.heap.size 25 i0 (.agg #[.int .i64 0, .int .i64 0, .int .i64 0, .string ⟨#[]⟩, .int .i64 0]) 5 48 Tryz.underlying36 hinf hza hzb hzc rfl (by decide) _ (0 + at_ + 1) (([] ++ (R.take at_).flatMap Vl.cells5) ++ Vl.cells5 y) (by rfl) hown2 _ (q - at_) _ ((R.drop at_).flatMap Vl.cells5) (by rfl) (by rw [five_len, HL2.out]) (by intro h; cases h) (by intro ad had j u hj; cases had; first | exact rd_flat (HT2.out.below b2) (five_all _) (by decide) j u (by rw [← List.flatMap_def]; exact hj) | (exfalso; rw [List.eq_nil_of_length_eq_zero (show (R.drop at_).length = 0 by rw [HL2.out]; omega)] at hj; simp at hj)) (five_one _) (by unfold maxLen; omega) (by omega) b2.size ?_; intro v3 w3 hown3 hg3; have b3 : Below wr.heap.size wr w3 := Below.grown b2 hg3 b2.size (fun k hk => (hown2.lt k hk).1))
                    | (refine step_spread (by rfl) _ _ 36 (by rfl) wr.heap.size 25 i0 (.agg #[.int .i64 0, .int .i64 0, .int .i64 0, .string ⟨#[]⟩, .int .i64 0]) 5 48 Tryz.underlying36 hinf hza hzb hzc rfl (by decide) _ (0 + at_) ([] ++ (R.take at_).flatMap Vl.cells5) (by rfl) (by first | exact hown1 | exact hown1.alloc _) (some ⟨_, 0, none⟩) 1 1 (Vl.cells5 y) (by rfl) (by rfl) (by intro h; cases h) (by intro ad had j u hj; cases had; first | exact World.news_of_block HLA j u hj | exact World.news_of_block HLB j u hj | exact World.news_of_block (MapKept.heap_alloc _ _).1 j u hj) (by intro u hu; simp [Vl.cells5] at hu; rcases hu with rfl | rfl | rfl | rfl | rfl <;> rfl) (by unfold maxLen; omega) (by omega) (by have := b1.size; first | (simp; omega) | omega) ?_; intro v2 w2 hown2 hg2; have b2 : Below wr.heap.size wr w2 := Below.grown (by repeat' first | with_reducible (first | exact Below.refl _ _ | assumption | refine Below.drew ?_ | refine Below.alloc ?_ ?_ _ | refine Below.trans ?_ (Below.mono (by assumption) ?_)) | omega | (simp; done) | (simp; omega) | refine Nat.le_trans ?_ (Below.size (by assumption))) hg2 (by have := b1.size; first | (simp; omega) | omega) (fun k hk => (hown1.lt k hk).1))
                    | (refine step_spread (by rfl) _ _ 36 (by rfl) wr.heap.size 25 i0 (.agg #[.int .i64 0, .int .i64 0, .int .i64 0, .string ⟨#[]⟩, .int .i64 0]) 5 48 Tryz.underlying36 hinf hza hzb hzc rfl (by decide) (.slice (some ⟨_, 0, none⟩) 0 0) 0 [] (by rfl) (by first | exact own_lit1 (by first | rfl | (simp; done)) (by first | omega | (simp; done) | (simp; omega)) | exact (own_lit1 (by first | rfl | (simp; done)) (by first | omega | (simp; done) | (simp; omega))).alloc _) (some ⟨g, 0, none⟩) at_ _ ((R.take at_).flatMap Vl.cells5) (by rfl) (by rw [five_len, HL1.out]) (by intro h; cases h) (by intro ad had j u hj; cases had; exact rd_flat (HT1.out.below (by repeat' first | with_reducible (first | exact Below.refl _ _ | assumption | refine Below.drew ?_ | refine Below.alloc ?_ ?_ _ | refine Below.trans ?_ (Below.mono (by assumption) ?_)) | omega | (simp; done) | (simp; omega) | refine Nat.le_trans ?_ (Below.size (by assumption)))) (five_all _) (by decide) j u (by rw [← List.flatMap_def]; exact hj)) (five_one _) (by unfold maxLen; omega) (by omega) (by first | (simp; done) | (simp; omega) | omega) ?_; intro v1 w1 hown1 hg1; have b1 : Below wr.heap.size wr w1 := Below.grown (by repeat' first | with_reducible (first | exact Below.refl _ _ | assumption | refine Below.drew ?_ | refine Below.alloc ?_ ?_ _ | refine Below.trans ?_ (Below.mono (by assumption) ?_)) | omega | (simp; done) | (simp; omega) | refine Nat.le_trans ?_ (Below.size (by assumption))) hg1 (by first | (simp; done) | (simp; omega) | omega) (fun k hk => by cases hk; first | omega | (simp; done) | (simp; omega)); have m0 := cell_below b1 z0; have m1 := cell_below b1 z1; have m2 := cell_below b1 z2; have m3 := cell_below b1 z3; have m4 := cell_below b1 z4; (first | (have HLA : w1.heap[wr.heap.size]? = some (.cells #[.int .i64 y.k, .int .i64 y.n, .int .i64 y.s, .string y.t, .int .i64 y.i] 25) := (hg1.block wr.heap.size (by first | (simp; done) | (simp; omega)) (by simp [Value.ownBlock])).trans ((Below.heap_alloc _ _ _ (by first | (simp; done) | (simp; omega))).trans (MapKept.heap_alloc wr _).1)) | (have HLB : w1.heap[wr.heap.size + 1]? = some (.cells #[.int .i64 y.k, .int .i64 y.n, .int .i64 y.s, .string y.t, .int .i64 y.i] 25) := (hg1.block (wr.heap.size + 1) (by first | (simp; done) | (simp; omega)) (by simp [Value.ownBlock])).trans (by have h9 := (MapKept.heap_alloc (wr.alloc (.cells #[] 25)) (.cells #[.int .i64 y.k, .int .i64 y.n, .int .i64 y.s, .string y.t, .int .i64 y.i] 25)).1; rw [sz_alloc] at h9; exact h9)) | skip))))
                  all_goals
                    have hflat : ([] ++ (R.take at_).flatMap Vl.cells5) ++ Vl.cells5 y ++ (R.drop at_).flatMap Vl.cells5 = ((R.take at_ ++ y :: R.drop at_).map Vl.cells5).flatten := by
                      rw [← List.flatMap_def, List.flatMap_append, List.flatMap_cons, List.nil_append, List.append_assoc]
                    have hnl : (R.take at_ ++ y :: R.drop at_).length = 0 + at_ + 1 + (q - at_) := by
                      rw [List.length_append, List.length_cons, HL1.out, HL2.out]; omega
                    have hbw3 : Below w.heap.size w w3 := hbw1.trans (b3.mono hbw1.size)
                    obtain ⟨T, cT, hT, hrT⟩ := own_rd (css := (R.take at_ ++ y :: R.drop at_).map Vl.cells5) hown3 hflat (five_all _) (by rw [List.length_map]; exact hnl)
                    rcases hown3.2 with ⟨_, h0⟩ | ⟨g9, cap9, cur9, hv9, _, _, hc9, _⟩
                    · omega
                    · rw [hv9] at hT
                      cases hT
                      rw [hv9]
                      have HRT := Lib.hid hrT
                      have HNL := Lib.hid hnl
                      generalize R.take at_ ++ y :: R.drop at_ = R9 at *
                      obtain ⟨n9, hn9⟩ : ∃ n9, 0 + at_ + 1 + (q - at_) = n9 := ⟨_, rfl⟩
                      rw [hn9] at hc9 HNL ⊢
                      clear hflat hrT hown3 hown2 hown1 hg1 hg2 hg3 b1 b2 b3 hn9 hnl
                      go_wp2_with fail
                      go_roundg (u - (i + 1))
                      case measure => omega
                      case rel => exact ⟨i + 1, g9, cT, R9, by omega, by omega, by go_num, by rw [HNL.out], by rw [HNL.out]; exact hc9, HRT, HNEW, hbw3⟩
              · have hAt2 := hAt.out
                rw [← HM.out] at hAt2
                have HOLD := Lib.hid (hRow.out.old HG.out hAt2)
                clear hAt2 hAt hqk hqm z0 z1 z2 z3 z4
                go_wp2_with fail
                go_roundg (u - (i + 1))
                case measure => omega
                case rel => exact ⟨i + 1, g, cap, R, by omega, by omega, by go_num, by rw [HM.out], by rw [HM.out]; exact hcap, hRd1, HOLD, hbw1⟩
        · have hie : i = u := by omega
          subst hie
          have i2 : ¬ (i : Int) < (i : Int) := by omega
          have hRl := hRow.out.len
          obtain ⟨m, hm⟩ : ∃ m, R.length = m := ⟨_, rfl⟩
          have HM := Lib.hid hm
          rw [hm] at hcap ⊢
          clear hm hik hlt
          go_wp2_with fail
          go_ret2

          refine ⟨R, some ⟨g, 0, none⟩, ⟨cap, ?_⟩, hRd.out, ?_, hbel⟩
          · rw [HM.out]; rfl
          · first | exact hRow.out | (rw [HU.out]; exact hRow.out)
end Go.Proofs.YthicilfhnakhmaaGreatDoor

/- soffitref04.Same at one list twice: walked. -/
set_option linter.unusedSimpArgs false
set_option linter.unusedVariables false
namespace Go.Proofs.YthicilfhnakhmaaGreatDoor
open Go.RowKit

set_option maxRecDepth 100000 in
set_option maxHeartbeats 1600000 in
theorem same_yes (l : List Vl) (A B : Option Addr) (ca cb : Nat) (w : World) (hA : RdL w 5 A (l.map Vl.cells5)) (hB : RdL w 5 B (l.map Vl.cells5)) (hn : l.length ≤ 1000000) :
    Calls Tryz.prog 19 #[.slice A l.length ca, .slice B l.length cb] w fun e w' => e = .returned (.bool true) ∧ Below w.heap.size w w' := by
  obtain ⟨u, hu⟩ : ∃ u, l.length = u := ⟨_, rfl⟩
  have HU := Lib.hid hu
  have HA := Lib.hid hA
  have HB := Lib.hid hB
  rw [hu] at hn ⊢
  clear hu hA hB
  go_enter Tryz.func19, Tryz.ntmps19
  go_wp2_with fail
  go_loopg [5] u (fun k iv wr => ∃ i : Nat, i ≤ u ∧ u - i ≤ k ∧ iv = .int .i64 (i : Int) ∧ Below w.heap.size w wr)
  case atStart => exact ⟨0, by omega, by omega, rfl, Below.refl _ _⟩
  case round =>
    obtain ⟨i, hi, hik, rfl, hbel⟩ := hrel
    by_cases hlt : i < u
    · have hil : i < l.length := by rw [HU.out]; exact hlt
      obtain ⟨b, off, hAe, hx⟩ := (HA.out.below hbel).at_ hil
      obtain ⟨b2, off2, hBe, hy⟩ := (HB.out.below hbel).at_ hil
      subst hAe hBe
      generalize l[i]'hil = y at *
      have y0 : wr.cell? ⟨b, off + i * 5, none⟩ = some (.int .i64 y.k) := hx.get 0 rfl
      have y1 : wr.cell? ⟨b, off + i * 5 + 1, none⟩ = some (.int .i64 y.n) := hx.get 1 rfl
      have y2 : wr.cell? ⟨b, off + i * 5 + 2, none⟩ = some (.int .i64 y.s) := hx.get 2 rfl
      have y3 : wr.cell? ⟨b, off + i * 5 + 3, none⟩ = some (.string y.t) := hx.get 3 rfl
      have y4 : wr.cell? ⟨b, off + i * 5 + 4, none⟩ = some (.int .i64 y.i) := hx.get 4 rfl
      have z0 : wr.cell? ⟨b2, off2 + i * 5, none⟩ = some (.int .i64 y.k) := hy.get 0 rfl
      have z1 : wr.cell? ⟨b2, off2 + i * 5 + 1, none⟩ = some (.int .i64 y.n) := hy.get 1 rfl
      have z2 : wr.cell? ⟨b2, off2 + i * 5 + 2, none⟩ = some (.int .i64 y.s) := hy.get 2 rfl
      have z3 : wr.cell? ⟨b2, off2 + i * 5 + 3, none⟩ = some (.string y.t) := hy.get 3 rfl
      have z4 : wr.cell? ⟨b2, off2 + i * 5 + 4, none⟩ = some (.int .i64 y.i) := hy.get 4 rfl
      have hne : ∀ W : World, (binOp .neq 25 (.agg #[.int .i64 y.k, .int .i64 y.n, .int .i64 y.s, .string y.t, .int .i64 y.i]) (.agg #[.int .i64 y.k, .int .i64 y.n, .int .i64 y.s, .string y.t, .int .i64 y.i])).run Tryz.prog W = .ok (.bool false) W := fun W => (neV_run y y W).trans (by rw [(eqB_iff y y).2 rfl]; rfl)
      have i1 : (0 : Int) ≤ (i : Int) := by omega
      have i2 : (i : Int) < (u : Int) := by omega
      clear hx hy
      go_wp2_with fail
      go_region
      all_goals
        go_wp2_with fail
        go_roundg (gk - 1)
        case measure => omega
        case rel => exact ⟨i + 1, by omega, by omega, by first | rfl | go_num, by first | exact hbel | exact hbel.drew⟩
    · have i2 : ¬ (i : Int) < (u : Int) := by omega
      go_wp2_with fail
      go_ret
      exact ⟨rfl, hbel⟩
end Go.Proofs.YthicilfhnakhmaaGreatDoor

/- Comparisons: soffit/value.Compare. -/
set_option linter.unusedSimpArgs false
set_option linter.unusedVariables false
namespace Go.Proofs.YthicilfhnakhmaaGreatDoor
open Go.RowKit

set_option maxHeartbeats 1600000 in
theorem vCompare_any (a b : Vl) (w : World) (ha : a.wf) (hb : b.wf) (hE : Env w) :
    Calls Tryz.prog 8 #[.agg #[.int .i64 a.k, .int .i64 a.n, .int .i64 a.s, .string a.t, .int .i64 a.i], .agg #[.int .i64 b.k, .int .i64 b.n, .int .i64 b.s, .string b.t, .int .i64 b.i]] w fun e w' =>
      e = .returned (cmpVRes a b) ∧ Below w.heap.size w w' := by
  obtain ⟨C, hC⟩ : ∃ C, cmpVRes a b = C := ⟨_, rfl⟩
  rw [hC]
  cases sa : sndB a
  · have HC : Hid (C = .tuple #[.int .i64 0, .int .i64 2]) := by rw [← hC]; unfold cmpVRes; rw [sa]; exact rfl
    clear hC
    go_enter Tryz.func8, Tryz.ntmps8
    go_wp2_with fail
    refine (vSound_any a _ ha (hE.below bel)).mono ?_
    rintro e w1 ⟨rfl, hb1⟩
    rw [sa]
    clear sa
    go_wp2_with fail
    go_ret2
    exact ⟨by rw [HC.out]; rfl, bel⟩
  · cases sb : sndB b
    · have HC : Hid (C = .tuple #[.int .i64 0, .int .i64 2]) := by rw [← hC]; unfold cmpVRes; rw [sa, sb]; exact rfl
      clear hC
      go_enter Tryz.func8, Tryz.ntmps8
      go_wp2_with fail
      refine (vSound_any a _ ha (hE.below bel)).mono ?_
      rintro e w1 ⟨rfl, hb1⟩
      rw [sa]
      clear sa
      have hz1 := hb1.size
      try simp at hz1
      obtain ⟨q1_0, l1_0, r1_0⟩ := aft hb1 (w.heap.size)
      obtain ⟨q1_1, l1_1, r1_1⟩ := aft hb1 (w.heap.size + 1)
      go_wp2_with fail
      refine (vSound_any b _ hb (hE.below bel)).mono ?_
      rintro e w2 ⟨rfl, hb2⟩
      rw [sb]
      clear sb
      go_wp2_with fail
      go_ret2
      exact ⟨by rw [HC.out]; rfl, bel⟩
    · have HC : Hid (C = .tuple #[.int .i64 (cmpV a b), .int .i64 0]) := by rw [← hC]; unfold cmpVRes; rw [sa, sb]; exact rfl
      clear hC
      have HA := Lib.hid sa
      have HB := Lib.hid sb
      go_enter Tryz.func8, Tryz.ntmps8
      go_wp2_with fail
      refine (vSound_any a _ ha (hE.below bel)).mono ?_
      rintro e w1 ⟨rfl, hb1⟩
      rw [sa]
      clear sa
      have hz1 := hb1.size
      try simp at hz1
      obtain ⟨q1_0, l1_0, r1_0⟩ := aft hb1 (w.heap.size)
      obtain ⟨q1_1, l1_1, r1_1⟩ := aft hb1 (w.heap.size + 1)
      go_wp2_with fail
      refine (vSound_any b _ hb (hE.below bel)).mono ?_
      rintro e w2 ⟨rfl, hb2⟩
      rw [sb]
      clear sb
      have hz2 := hb2.size
      try simp at hz2
      obtain ⟨q2_0, l2_0, r2_0⟩ := aft hb2 (w.heap.size)
      obtain ⟨q2_1, l2_1, r2_1⟩ := aft hb2 (w.heap.size + 1)
      go_wp2_with fail
      refine (order_any a b _ ha hb HA.out HB.out).mono ?_
      rintro e w3 ⟨rfl, hb3⟩
      go_wp2_with fail
      go_ret2
      exact ⟨by rw [HC.out]; rfl, bel⟩
end Go.Proofs.YthicilfhnakhmaaGreatDoor

/- soffitlaw04.awake, ValueTexts, ValueCompares: walked. -/
set_option linter.unusedSimpArgs false
set_option linter.unusedVariables false
namespace Go.Proofs.YthicilfhnakhmaaGreatDoor
open Go.RowKit Go.Sort Go.Lib

def awV : Vl := ⟨2, 0, 0, ⟨#[97, 34, 98]⟩, 0⟩
theorem aw_snd : sndB awV = true := by decide +kernel
theorem aw_txt : txtRes awV = .tuple #[.string ⟨#[34, 97, 92, 34, 98, 34]⟩, .int .i64 0] := by
  rw [txtRes_yes aw_snd]
  have e : valL awV = quoL [97, 34, 98] := by
    unfold valL awV
    dsimp only
    rw [if_neg (by decide), if_pos rfl]
  rw [e]
  rfl
theorem aw_wf1 : awV.wf := ⟨by unfold I64 awV; simp, by unfold I64 awV; simp, by unfold I64 awV; simp, by unfold I64 awV; simp, by show (3 : Nat) ≤ 9223372036854775807; omega⟩
def bV0 : Vl := ⟨3, 0, 0, ⟨#[]⟩, 0⟩
def dV5 : Vl := ⟨4, 0, 0, ⟨#[]⟩, 5⟩
theorem z_wf : Vl.zero.wf := ⟨by unfold I64 Vl.zero; simp, by unfold I64 Vl.zero; simp, by unfold I64 Vl.zero; simp, by unfold I64 Vl.zero; simp, by show (0 : Nat) ≤ 9223372036854775807; omega⟩
theorem b_wf0 : bV0.wf := ⟨by unfold I64 bV0; simp, by unfold I64 bV0; simp, by unfold I64 bV0; simp, by unfold I64 bV0; simp, by show (0 : Nat) ≤ 9223372036854775807; omega⟩
theorem d_wf5 : dV5.wf := ⟨by unfold I64 dV5; simp, by unfold I64 dV5; simp, by unfold I64 dV5; simp, by unfold I64 dV5; simp, by show (0 : Nat) ≤ 9223372036854775807; omega⟩
theorem aw_cmp : cmpVRes Vl.zero bV0 = .tuple #[.int .i64 (-1), .int .i64 0] := by
  have h1 : (sndB Vl.zero && sndB bV0) = true := by decide +kernel
  unfold cmpVRes
  rw [if_pos h1]
  rfl
theorem d5_snd : sndB dV5 = true := by decide +kernel

set_option maxRecDepth 100000 in
set_option maxHeartbeats 3200000 in
theorem awake04_any (w : World) (hE : EnvP w) :
    Calls Tryz.prog 10 #[] w fun e w' => e = .returned (.bool true) ∧ Below w.heap.size w w' := by
  have sEq : ((⟨#[34, 97, 92, 34, 98, 34]⟩ : ByteArray) == ⟨#[34, 97, 92, 34, 98, 34]⟩) = true := by decide +kernel
  go_enter Tryz.func10, Tryz.ntmps10
  go_wp2_with fail
  refine (vText_any awV _ aw_wf1 hE).mono ?_
  rintro e w1 ⟨rfl, hb1⟩
  rw [aw_txt]
  go_wp2_with fail
  refine (vCompare_any Vl.zero bV0 _ z_wf b_wf0 (hE.env.below bel)).mono ?_
  rintro e w2 ⟨rfl, hb2⟩
  rw [aw_cmp]
  go_wp2_with fail
  refine (vSound_any dV5 _ d_wf5 (hE.env.below bel)).mono ?_
  rintro e w3 ⟨rfl, hb3⟩
  rw [d5_snd]
  go_wp2_with fail
  go_ret
  exact ⟨rfl, bel⟩

set_option maxRecDepth 100000 in
set_option maxHeartbeats 3200000 in
theorem lawTexts_any (v : Vl) (w : World) (hv : v.wf) (hE : EnvP w) :
    Calls Tryz.prog 4 #[.agg #[.int .i64 v.k, .int .i64 v.n, .int .i64 v.s, .string v.t, .int .i64 v.i]] w fun e w' => e = .returned (.bool true) ∧ Below w.heap.size w w' := by
  obtain ⟨S, r, hR⟩ : ∃ (S : ByteArray) (r : Int), txtRes v = .tuple #[.string S, .int .i64 r] := by
    cases hs : sndB v
    · exact ⟨_, _, txtRes_no hs⟩
    · exact ⟨_, _, txtRes_yes hs⟩
  have HR := Lib.hid hR
  clear hR
  go_enter Tryz.func4, Tryz.ntmps4
  go_wp2_with fail
  refine (vText_any v _ hv (hE.below bel)).mono ?_
  rintro e w1 ⟨rfl, hb1⟩
  rw [HR.out]
  have hz1 := hb1.size
  try simp at hz1
  obtain ⟨q1_0, l1_0, r1_0⟩ := aft hb1 (w.heap.size)
  go_wp2_with fail
  refine (rText_any v _ hv).mono ?_
  rintro e w2 ⟨rfl, hb2⟩
  rw [HR.out]
  go_wp2_with fail
  refine (awake04_any _ (hE.below bel)).mono ?_
  rintro e w3 ⟨rfl, hb3⟩
  go_wp2_with fail
  go_ret
  exact ⟨ret_bool (by simp), bel⟩
end Go.Proofs.YthicilfhnakhmaaGreatDoor

/- soffitlaw04.ValueSorts: walked. -/
set_option linter.unusedSimpArgs false
set_option linter.unusedVariables false
namespace Go.Proofs.YthicilfhnakhmaaGreatDoor
open Go.RowKit Go.Sort Go.Lib

theorem bad_or (l : List Vl) : allSnd l = false ∨ ∀ v ∈ l, sndB v = true := by
  cases h : allSnd l
  · exact .inl rfl
  · right
    intro v hv
    unfold allSnd at h
    rw [Bool.not_eq_true', List.any_eq_false] at h
    have := h v hv
    simpa using this
theorem sort_same {l R S : List Vl} (hR : upV R) (hm : ∀ v, v ∈ R ↔ v ∈ l) (hS : RowOf l l.length S) : R = S :=
  up_eq hR hS.up (fun x => by rw [hm, hS.mem, List.take_length])

theorem vsortN_bad {n : Nat} {l : List Vl} (e : l.length = n) (A : Option Addr) (c : Nat) (w : World) (hr : RdL w 5 A (l.map Vl.cells5)) (hw : ∀ v ∈ l, v.wf) (hs : allSnd l = false) (hn : n ≤ 1000000) (hE : Env w) :
    Calls Tryz.prog 17 #[.slice A n c] w fun e w' => e = .returned (.tuple #[.slice none 0 0, .int .i64 2]) ∧ Below w.heap.size w w' := by
  subst e; exact vsort_bad l A c w hr hw hs hn hE
theorem rsortN_bad {n : Nat} {l : List Vl} (e : l.length = n) (A : Option Addr) (c : Nat) (w : World) (hr : RdL w 5 A (l.map Vl.cells5)) (hw : ∀ v ∈ l, v.wf) (hs : allSnd l = false) (hn : n ≤ 1000000) :
    Calls Tryz.prog 18 #[.slice A n c] w fun e w' => e = .returned (.tuple #[.slice none 0 0, .int .i64 2]) ∧ Below w.heap.size w w' := by
  subst e; exact rsort_bad l A c w hr hw hs hn
theorem vsortN_all {n : Nat} {l : List Vl} (e : l.length = n) (A : Option Addr) (c : Nat) (w : World) (hr : RdL w 5 A (l.map Vl.cells5)) (hw : ∀ v ∈ l, v.wf) (hs : ∀ v ∈ l, sndB v = true) (hn : n ≤ 1000000) (hE : Env w) :
    Calls Tryz.prog 17 #[.slice A n c] w fun e w' =>
      ∃ (R : List Vl) (B : Option Addr) (cb : Nat), e = .returned (.tuple #[.slice B R.length cb, .int .i64 0]) ∧ RdL w' 5 B (R.map Vl.cells5) ∧ upV R ∧ (∀ v, v ∈ R ↔ v ∈ l) ∧ Below w.heap.size w w' := by
  subst e; exact vsort_all l A c w hr hw hs hn hE
theorem rsortN_all {n : Nat} {l : List Vl} (e : l.length = n) (A : Option Addr) (c : Nat) (w : World) (hr : RdL w 5 A (l.map Vl.cells5)) (hw : ∀ v ∈ l, v.wf) (hs : ∀ v ∈ l, sndB v = true) (hn : n ≤ 1000000) :
    Calls Tryz.prog 18 #[.slice A n c] w fun e w' =>
      ∃ (R : List Vl) (B : Option Addr) (cb : Nat), e = .returned (.tuple #[.slice B R.length cb, .int .i64 0]) ∧ RdL w' 5 B (R.map Vl.cells5) ∧ RowOf l l.length R ∧ Below w.heap.size w w' := by
  subst e; exact rsort_all l A c w hr hw hs hn
theorem sameN_yes {n : Nat} {l : List Vl} (e : l.length = n) (A B : Option Addr) (ca cb : Nat) (w : World) (hA : RdL w 5 A (l.map Vl.cells5)) (hB : RdL w 5 B (l.map Vl.cells5)) (hn : n ≤ 1000000) :
    Calls Tryz.prog 19 #[.slice A n ca, .slice B n cb] w fun e w' => e = .returned (.bool true) ∧ Below w.heap.size w w' := by
  subst e; exact same_yes l A B ca cb w hA hB hn

set_option maxRecDepth 100000 in
set_option maxHeartbeats 3200000 in
theorem sorts_bad_few (ns : List Vl) (u : Nat) (A : Option Addr) (ca : Nat) (w : World) (hA : RdL w 5 A (ns.map Vl.cells5)) (hos : ∀ v ∈ ns, v.wf) (hs : allSnd ns = false) (hu : ns.length = u) (hl : ¬ 60 < u) (hca : u ≤ ca) (n1 : u ≤ 9223372036854775807) (hE : EnvP w) :
    Calls Tryz.prog 7 #[.slice A u ca] w fun e w' => e = .returned (.bool true) ∧ Below w.heap.size w w' := by
  have HU := Lib.hid hu
  have HA := Lib.hid hA
  have HNW := Lib.hid hos
  have HS := Lib.hid hs
  have HE := Lib.hid hE
  have HB : Hid (u ≤ 1000000) := Lib.hid (by omega)
  have i60 : ¬ (60 : Int) < (u : Int) := by omega
  clear hu hA hos hs hE
  go_enter Tryz.func7, Tryz.ntmps7
  go_wp2_with fail
  refine (vsortN_bad HU.out A ca _ (HA.out.below bel) HNW.out HS.out HB.out (HE.out.env.below bel)).mono ?_
  rintro e w1 ⟨rfl, hb1⟩
  go_wp2_with fail
  refine (rsortN_bad HU.out A ca _ (HA.out.below bel) HNW.out HS.out HB.out).mono ?_
  rintro e w2 ⟨rfl, hb2⟩
  go_wp2_with fail
  refine (awake04_any _ (HE.out.below bel)).mono ?_
  rintro e w3 ⟨rfl, hb3⟩
  go_wp2_with fail
  refine (sameN_yes (l := []) rfl none none 0 0 _ (RdL.nil_ _ _ _) (RdL.nil_ _ _ _) (by decide)).mono ?_
  rintro e w4 ⟨rfl, hb4⟩
  go_wp2_with fail
  go_ret
  exact ⟨rfl, bel⟩
set_option maxRecDepth 100000 in
set_option maxHeartbeats 3200000 in
theorem sorts_bad_many (ns : List Vl) (u : Nat) (A : Option Addr) (ca : Nat) (w : World) (hA : RdL w 5 A (ns.map Vl.cells5)) (hos : ∀ v ∈ ns, v.wf) (hs : allSnd ns = false) (hu : ns.length = 60) (hl : 60 < u) (hca : u ≤ ca) (n1 : u ≤ 9223372036854775807) (hE : EnvP w) :
    Calls Tryz.prog 7 #[.slice A u ca] w fun e w' => e = .returned (.bool true) ∧ Below w.heap.size w w' := by
  have HU := Lib.hid hu
  have HA := Lib.hid hA
  have HNW := Lib.hid hos
  have HS := Lib.hid hs
  have HE := Lib.hid hE
  have HB : Hid (60 ≤ 1000000) := Lib.hid (by omega)
  have i60 : (60 : Int) < (u : Int) := by omega
  have i61 : (60 : Int) ≤ (ca : Int) := by omega
  have i62 : 60 ≤ ca := by omega
  clear hu hA hos hs hE
  go_enter Tryz.func7, Tryz.ntmps7
  go_wp2_with fail
  refine (vsortN_bad HU.out A ca _ (HA.out.below bel) HNW.out HS.out HB.out (HE.out.env.below bel)).mono ?_
  rintro e w1 ⟨rfl, hb1⟩
  go_wp2_with fail
  refine (rsortN_bad HU.out A ca _ (HA.out.below bel) HNW.out HS.out HB.out).mono ?_
  rintro e w2 ⟨rfl, hb2⟩
  go_wp2_with fail
  refine (awake04_any _ (HE.out.below bel)).mono ?_
  rintro e w3 ⟨rfl, hb3⟩
  go_wp2_with fail
  refine (sameN_yes (l := []) rfl none none 0 0 _ (RdL.nil_ _ _ _) (RdL.nil_ _ _ _) (by decide)).mono ?_
  rintro e w4 ⟨rfl, hb4⟩
  go_wp2_with fail
  go_ret
  exact ⟨rfl, bel⟩
set_option maxRecDepth 100000 in
set_option maxHeartbeats 3200000 in
theorem sorts_good_few (ns : List Vl) (u : Nat) (A : Option Addr) (ca : Nat) (w : World) (hA : RdL w 5 A (ns.map Vl.cells5)) (hos : ∀ v ∈ ns, v.wf) (hs : ∀ v ∈ ns, sndB v = true) (hu : ns.length = u) (hl : ¬ 60 < u) (hca : u ≤ ca) (n1 : u ≤ 9223372036854775807) (hE : EnvP w) :
    Calls Tryz.prog 7 #[.slice A u ca] w fun e w' => e = .returned (.bool true) ∧ Below w.heap.size w w' := by
  have HU := Lib.hid hu
  have HA := Lib.hid hA
  have HNW := Lib.hid hos
  have HS := Lib.hid hs
  have HE := Lib.hid hE
  have HB : Hid (u ≤ 1000000) := Lib.hid (by omega)
  have i60 : ¬ (60 : Int) < (u : Int) := by omega
  clear hu hA hos hs hE
  go_enter Tryz.func7, Tryz.ntmps7
  go_wp2_with fail
  refine (vsortN_all HU.out A ca _ (HA.out.below bel) HNW.out HS.out HB.out (HE.out.env.below bel)).mono ?_
  rintro e w1 ⟨R, B, cb, rfl, hB1, hup, hmem, hb1⟩
  obtain ⟨m, hm⟩ : ∃ m, R.length = m := ⟨_, rfl⟩
  have HM := Lib.hid hm
  rw [hm]
  clear hm
  have HB1 := Lib.hid hB1
  have HUP := Lib.hid hup
  have HME := Lib.hid hmem
  clear hB1 hup hmem
  go_wp2_with fail
  refine (rsortN_all HU.out A ca _ (HA.out.below bel) HNW.out HS.out HB.out).mono ?_
  rintro e w2 ⟨S, C, cc, rfl, hC, hrow, hb2⟩
  have hsl := hrow.len
  obtain rfl : R = S := sort_same HUP.out HME.out hrow
  have hm6 : m ≤ 1000000 := by have := HU.out; have := HM.out; have := HB.out; omega
  have HC := Lib.hid hC
  clear hrow hsl hC
  rw [HM.out]
  go_wp2_with fail
  refine (awake04_any _ (HE.out.below bel)).mono ?_
  rintro e w3 ⟨rfl, hb3⟩
  go_wp2_with fail
  refine (sameN_yes HM.out B C cb cc _ (HB1.out.below bel) (HC.out.below bel) hm6).mono ?_
  rintro e w4 ⟨rfl, hb4⟩
  go_wp2_with fail
  go_ret
  exact ⟨rfl, bel⟩
set_option maxRecDepth 100000 in
set_option maxHeartbeats 3200000 in
theorem sorts_good_many (ns : List Vl) (u : Nat) (A : Option Addr) (ca : Nat) (w : World) (hA : RdL w 5 A (ns.map Vl.cells5)) (hos : ∀ v ∈ ns, v.wf) (hs : ∀ v ∈ ns, sndB v = true) (hu : ns.length = 60) (hl : 60 < u) (hca : u ≤ ca) (n1 : u ≤ 9223372036854775807) (hE : EnvP w) :
    Calls Tryz.prog 7 #[.slice A u ca] w fun e w' => e = .returned (.bool true) ∧ Below w.heap.size w w' := by
  have HU := Lib.hid hu
  have HA := Lib.hid hA
  have HNW := Lib.hid hos
  have HS := Lib.hid hs
  have HE := Lib.hid hE
  have HB : Hid (60 ≤ 1000000) := Lib.hid (by omega)
  have i60 : (60 : Int) < (u : Int) := by omega
  have i61 : (60 : Int) ≤ (ca : Int) := by omega
  have i62 : 60 ≤ ca := by omega
  clear hu hA hos hs hE
  go_enter Tryz.func7, Tryz.ntmps7
  go_wp2_with fail
  refine (vsortN_all HU.out A ca _ (HA.out.below bel) HNW.out HS.out HB.out (HE.out.env.below bel)).mono ?_
  rintro e w1 ⟨R, B, cb, rfl, hB1, hup, hmem, hb1⟩
  obtain ⟨m, hm⟩ : ∃ m, R.length = m := ⟨_, rfl⟩
  have HM := Lib.hid hm
  rw [hm]
  clear hm
  have HB1 := Lib.hid hB1
  have HUP := Lib.hid hup
  have HME := Lib.hid hmem
  clear hB1 hup hmem
  go_wp2_with fail
  refine (rsortN_all HU.out A ca _ (HA.out.below bel) HNW.out HS.out HB.out).mono ?_
  rintro e w2 ⟨S, C, cc, rfl, hC, hrow, hb2⟩
  have hsl := hrow.len
  obtain rfl : R = S := sort_same HUP.out HME.out hrow
  have hm6 : m ≤ 1000000 := by have := HU.out; have := HM.out; have := HB.out; omega
  have HC := Lib.hid hC
  clear hrow hsl hC
  rw [HM.out]
  go_wp2_with fail
  refine (awake04_any _ (HE.out.below bel)).mono ?_
  rintro e w3 ⟨rfl, hb3⟩
  go_wp2_with fail
  refine (sameN_yes HM.out B C cb cc _ (HB1.out.below bel) (HC.out.below bel) hm6).mono ?_
  rintro e w4 ⟨rfl, hb4⟩
  go_wp2_with fail
  go_ret
  exact ⟨rfl, bel⟩

theorem lawSorts_any (os : List Vl) (A : Option Addr) (ca : Nat) (w : World) (hA : RdL w 5 A (os.map Vl.cells5)) (hos : ∀ v ∈ os, v.wf) (hca : os.length ≤ ca) (n1 : os.length ≤ 9223372036854775807) (hE : EnvP w) :
    Calls Tryz.prog 7 #[.slice A os.length ca] w fun e w' => e = .returned (.bool true) ∧ Below w.heap.size w w' := by
  by_cases h : 60 < os.length
  · have hA' : RdL w 5 A ((os.take 60).map Vl.cells5) := by
      intro j c hc
      refine hA j c ?_
      rw [List.map_take, List.getElem?_take] at hc
      split at hc
      · exact hc
      · cases hc
    have hl : (os.take 60).length = 60 := by rw [List.length_take]; omega
    have hw' : ∀ v ∈ os.take 60, v.wf := fun v hv => hos v (List.mem_of_mem_take hv)
    rcases bad_or (os.take 60) with hs | hs
    · exact sorts_bad_many _ _ A ca w hA' hw' hs hl h hca n1 hE
    · exact sorts_good_many _ _ A ca w hA' hw' hs hl h hca n1 hE
  · rcases bad_or os with hs | hs
    · exact sorts_bad_few _ _ A ca w hA hos hs rfl h hca n1 hE
    · exact sorts_good_few _ _ A ca w hA hos hs rfl h hca n1 hE
end Go.Proofs.YthicilfhnakhmaaGreatDoor
