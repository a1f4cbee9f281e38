import Derived.Test.YtfhmjkdpohepaaaDoorPk23
import Derived.Test.YtfhmjkdpohepaaaDoorPk01
import Derived.Test.YtfhmjkdpohepaaaDoorPk36
/- soffitref17.gather by +, walked. -/
set_option linter.unusedSimpArgs false
set_option linter.unusedVariables false
namespace Go.Proofs.YtfhmjkdpohepaaaDoor
open Go.RowKit

set_option maxRecDepth 100000 in
set_option maxHeartbeats 3200000 in
theorem gatS_any (o : Vl) (r : List Vl) (A : Option Addr) (c : Nat) (w : World) (hr : RdL w 5 A ((o :: r).map Vl.cells5)) (hn : (o :: r).length ≤ 9223372036854775807) (hw : ∀ v ∈ o :: r, v.wf) (hs : ∀ v ∈ o :: r, sndB v = true) :
    Calls Tryd.prog 25 #[.int .i64 43, .slice A (o :: r).length c] w fun e w' =>
      e = .returned (.agg #[.int .i64 (sumF (o :: r) 0 0).k, .int .i64 (sumF (o :: r) 0 0).n, .int .i64 (sumF (o :: r) 0 0).s, .string (sumF (o :: r) 0 0).t, .int .i64 (sumF (o :: r) 0 0).i]) ∧ Below w.heap.size w w' := by
  obtain ⟨R, hR⟩ : ∃ R, sumF (o :: r) 0 0 = R := ⟨_, rfl⟩
  rw [hR]
  have HR : Hid (R = sumF ((o :: r).drop 0) 0 0) := hR.symm
  clear hR
  obtain ⟨os, hos⟩ : ∃ os, o :: r = os := ⟨_, rfl⟩
  have h0 : os[0]? = some o := by rw [← hos]; rfl
  have hpos : 0 < os.length := by rw [← hos]; simp
  have hoo : o ∈ os := by rw [← hos]; exact List.mem_cons_self
  rw [hos] at HR hw hs hr hn ⊢
  clear hos
  obtain ⟨b, off, hA, hx⟩ := hr.at_ hpos
  have he : os[0]'hpos = o := Option.some.inj ((List.getElem?_eq_getElem hpos).symm.trans h0)
  rw [he] at hx
  rw [hA] at hr ⊢
  have HX : Hid (CellsAt w b off o.cells5) := by have := hx; rw [Nat.zero_mul, Nat.add_zero] at this; exact this
  have y0 : w.cell? ⟨b, off, none⟩ = some (.int .i64 o.k) := by have := HX.out.get 0 rfl; simpa using this
  have y1 : w.cell? ⟨b, off + 1, none⟩ = some (.int .i64 o.n) := HX.out.get 1 rfl
  have y2 : w.cell? ⟨b, off + 2, none⟩ = some (.int .i64 o.s) := HX.out.get 2 rfl
  have y3 : w.cell? ⟨b, off + 3, none⟩ = some (.string o.t) := HX.out.get 3 rfl
  have y4 : w.cell? ⟨b, off + 4, none⟩ = some (.int .i64 o.i) := HX.out.get 4 rfl
  have hlw : b < w.heap.size := cell_lt y0
  have hnw : ¬ b = w.heap.size := by omega
  have HW := Lib.hid hw
  have HS := Lib.hid hs
  have HOO := Lib.hid hoo
  have HRD := Lib.hid hr
  have i0 : (0 : Int) < (os.length : Int) := by omega
  clear he hx h0 hA hr hw hs hoo
  go_enter Tryd.func25, Tryd.ntmps25
  go_wp2_with fail
  generalize hEW0 : (w.alloc _).alloc _ = W0
  have hbW0 : Below w.heap.size w W0 := (by rw [← hEW0]; exact bel)
  have lW0_0 : w.heap.size < W0.heap.size := lsz hEW0
  have qW0_0 : ∀ o, W0.cell? ⟨w.heap.size, o, none⟩ = _ := fun o => congrArg (fun W : World => W.cell? ⟨w.heap.size, o, none⟩) hEW0.symm
  have rW0_0 : ∀ o, W0.frozen? ⟨w.heap.size, o, none⟩ = _ := fun o => congrArg (fun W : World => W.frozen? ⟨w.heap.size, o, none⟩) hEW0.symm
  have lW0_1 : w.heap.size + 1 < W0.heap.size := lsz hEW0
  have qW0_1 : ∀ o, W0.cell? ⟨w.heap.size + 1, o, none⟩ = _ := fun o => congrArg (fun W : World => W.cell? ⟨w.heap.size + 1, o, none⟩) hEW0.symm
  have rW0_1 : ∀ o, W0.frozen? ⟨w.heap.size + 1, o, none⟩ = _ := fun o => congrArg (fun W : World => W.frozen? ⟨w.heap.size + 1, o, none⟩) hEW0.symm
  clear hEW0
  have HQ0 : Hid (∀ o, W0.cell? ⟨w.heap.size, o, none⟩ = (#[.int .i64 0, .int .i64 0, .int .i64 0, .string ⟨#[]⟩, .int .i64 0] : Array Value)[o]?) := Lib.hid (fun o => (qW0_0 o).trans (by simp [go_sem]))
  have HQ1 : Hid (∀ o, W0.cell? ⟨w.heap.size + 1, o, none⟩ = (#[.int .i64 1, .int .i64 0, .int .i64 0, .string ⟨#[]⟩, .int .i64 0] : Array Value)[o]?) := Lib.hid (fun o => (qW0_1 o).trans (by simp [go_sem]))
  have HF0 : Hid (∀ o, W0.frozen? ⟨w.heap.size, o, none⟩ = false) := Lib.hid (fun o => (rW0_0 o).trans (by simp [go_sem]))
  have HF1 : Hid (∀ o, W0.frozen? ⟨w.heap.size + 1, o, none⟩ = false) := Lib.hid (fun o => (rW0_1 o).trans (by simp [go_sem]))
  have hzW : w.heap.size + 2 ≤ W0.heap.size := by omega
  have H0 := HR
  clear HR qW0_0 rW0_0 qW0_1 rW0_1 y0 y1 y2 y3 y4
  go_loopg [6] os.length (fun k iv wr => ∃ (j : Nat) (n s : Int), iv = .int .i64 j ∧ j ≤ os.length ∧ os.length - j ≤ k ∧ Hid (R = sumF (os.drop j) n s) ∧ Hid (decSnd n s = true) ∧
    Hid (∀ o, wr.cell? ⟨w.heap.size, o, none⟩ = (#[.int .i64 0, .int .i64 0, .int .i64 0, .string ⟨#[]⟩, .int .i64 0] : Array Value)[o]?) ∧
    Hid (∀ o, wr.cell? ⟨w.heap.size + 1, o, none⟩ = (#[.int .i64 1, .int .i64 n, .int .i64 s, .string ⟨#[]⟩, .int .i64 0] : Array Value)[o]?) ∧
    Hid (∀ o, wr.frozen? ⟨w.heap.size, o, none⟩ = false) ∧ Hid (∀ o, wr.frozen? ⟨w.heap.size + 1, o, none⟩ = false) ∧ Below w.heap.size w wr ∧ w.heap.size + 2 ≤ wr.heap.size)
  case atStart => exact ⟨0, 0, 0, rfl, by omega, by omega, H0, Lib.hid (by decide), HQ0, HQ1, HF0, HF1, hbW0, hzW⟩
  case round =>
    clear H0 HQ0 HQ1 HF0 HF1 hbW0 hzW lW0_0 lW0_1
    obtain ⟨j, n, s, rfl, hj, hjk, HR, HD, HQ0, HQ1, HF0, HF1, hbel, hwz⟩ := hrel
    have z0 : wr.cell? ⟨w.heap.size + 1, 0, none⟩ = some (.int .i64 1) := HQ1.out 0
    have z1 : wr.cell? ⟨w.heap.size + 1, 1, none⟩ = some (.int .i64 n) := HQ1.out 1
    have z2 : wr.cell? ⟨w.heap.size + 1, 2, none⟩ = some (.int .i64 s) := HQ1.out 2
    have z3 : wr.cell? ⟨w.heap.size + 1, 3, none⟩ = some (.string ⟨#[]⟩) := HQ1.out 3
    have z4 : wr.cell? ⟨w.heap.size + 1, 4, none⟩ = some (.int .i64 0) := HQ1.out 4
    have u0 : wr.cell? ⟨w.heap.size, 0, none⟩ = some (.int .i64 0) := HQ0.out 0
    have u1 : wr.cell? ⟨w.heap.size, 1, none⟩ = some (.int .i64 0) := HQ0.out 1
    have u2 : wr.cell? ⟨w.heap.size, 2, none⟩ = some (.int .i64 0) := HQ0.out 2
    have u3 : wr.cell? ⟨w.heap.size, 3, none⟩ = some (.string ⟨#[]⟩) := HQ0.out 3
    have u4 : wr.cell? ⟨w.heap.size, 4, none⟩ = some (.int .i64 0) := HQ0.out 4
    have f0 := HF0.out
    have f1 := HF1.out
    by_cases hlt : j < os.length
    · obtain ⟨b2, off2, e2, hx⟩ := (HRD.out.below hbel).at_ hlt
      cases e2
      have hsx := HS.out _ (List.getElem_mem hlt)
      have hyes := fun h1 h2 => sumF_yes (n := n) (s := s) hlt h1 h2
      have hno := fun h => sumF_no (n := n) (s := s) hlt h
      generalize os[j]'hlt = x at *
      have y0 : wr.cell? ⟨b, off + j * 5, none⟩ = some (.int .i64 x.k) := hx.get 0 rfl
      have y1 : wr.cell? ⟨b, off + j * 5 + 1, none⟩ = some (.int .i64 x.n) := hx.get 1 rfl
      have y2 : wr.cell? ⟨b, off + j * 5 + 2, none⟩ = some (.int .i64 x.s) := hx.get 2 rfl
      have y3 : wr.cell? ⟨b, off + j * 5 + 3, none⟩ = some (.string x.t) := hx.get 3 rfl
      have y4 : wr.cell? ⟨b, off + j * 5 + 4, none⟩ = some (.int .i64 x.i) := hx.get 4 rfl
      have i1 : (j : Int) < (os.length : Int) := by omega
      have i2 : (0 : Int) ≤ (j : Int) := by omega
      have hadd := fun W => refAdd_any n s x.n x.s W HD.out (snd_dec hsx)
      obtain ⟨N, hN⟩ : ∃ N, unitsI n s + unitsI x.n x.s = N := ⟨_, rfl⟩
      rw [hN] at hadd hyes hno
      have HADD := Lib.hid hadd
      have HYES := Lib.hid hyes
      have HNO := Lib.hid hno
      clear hadd hyes hno hN hsx hx
      have hbA : Below wr.heap.size wr (wr.alloc (.cells #[.int .i64 x.k, .int .i64 x.n, .int .i64 x.s, .string x.t, .int .i64 x.i] 26)) := bel
      have a1 : (wr.alloc (.cells #[.int .i64 x.k, .int .i64 x.n, .int .i64 x.s, .string x.t, .int .i64 x.i] 26)).cell? ⟨w.heap.size + 1, 1, none⟩ = some (.int .i64 n) := cell_below hbA z1
      have a2 : (wr.alloc (.cells #[.int .i64 x.k, .int .i64 x.n, .int .i64 x.s, .string x.t, .int .i64 x.i] 26)).cell? ⟨w.heap.size + 1, 2, none⟩ = some (.int .i64 s) := cell_below hbA z2
      go_wp2_with fail
      refine (HADD.out _).mono ?_
      rintro e w1 ⟨rfl, hb1⟩
      have hb01 : Below wr.heap.size wr w1 := hbA.trans (hb1.mono hbA.size)
      have v0 : w1.cell? ⟨wr.heap.size, 0, none⟩ = some (.int .i64 x.k) := (hb1.cell (p := ⟨wr.heap.size, 0, none⟩) (by simp)).trans (by simp [go_sem])
      have l0 : w.heap.size < wr.heap.size := by omega
      have l1 : w.heap.size + 1 < wr.heap.size := by omega
      have P0 := Lib.hid (fun o => (hb01.cell (p := ⟨w.heap.size, o, none⟩) l0).trans (HQ0.out o))
      have P1 := Lib.hid (fun o => (hb01.cell (p := ⟨w.heap.size + 1, o, none⟩) l1).trans (HQ1.out o))
      have f0 := fun o => (hb01.frozen (p := ⟨w.heap.size, o, none⟩) l0).trans (HF0.out o)
      have f1 := fun o => (hb01.frozen (p := ⟨w.heap.size + 1, o, none⟩) l1).trans (HF1.out o)
      have hz1 := hb01.size
      have hbw1 : Below w.heap.size w w1 := hbel.trans (hb01.mono hbel.size)
      clear y0 y1 y2 y3 y4 z0 z1 z2 z3 z4 u0 u1 u2 u3 u4 HQ0 HQ1 HF0 HF1 hbA hb1 hb01 hbel HADD a1 a2
      cases hf : addFit N
      · rw [decRes_big hf]
        have hbB : Below w1.heap.size w1 (w1.alloc (.cells #[.int .i64 0, .int .i64 0] 24)) := bel
        have v0' : (w1.alloc (.cells #[.int .i64 0, .int .i64 0] 24)).cell? ⟨wr.heap.size, 0, none⟩ = some (.int .i64 x.k) := cell_below hbB v0
        have z0 : (w1.alloc (.cells #[.int .i64 0, .int .i64 0] 24)).cell? ⟨w.heap.size + 1, 0, none⟩ = some (.int .i64 1) := cell_below hbB (P1.out 0)
        have z1 : (w1.alloc (.cells #[.int .i64 0, .int .i64 0] 24)).cell? ⟨w.heap.size + 1, 1, none⟩ = some (.int .i64 n) := cell_below hbB (P1.out 1)
        have z2 : (w1.alloc (.cells #[.int .i64 0, .int .i64 0] 24)).cell? ⟨w.heap.size + 1, 2, none⟩ = some (.int .i64 s) := cell_below hbB (P1.out 2)
        have u0 : (w1.alloc (.cells #[.int .i64 0, .int .i64 0] 24)).cell? ⟨w.heap.size, 0, none⟩ = some (.int .i64 0) := cell_below hbB (P0.out 0)
        have u1 : (w1.alloc (.cells #[.int .i64 0, .int .i64 0] 24)).cell? ⟨w.heap.size, 1, none⟩ = some (.int .i64 0) := cell_below hbB (P0.out 1)
        have u2 : (w1.alloc (.cells #[.int .i64 0, .int .i64 0] 24)).cell? ⟨w.heap.size, 2, none⟩ = some (.int .i64 0) := cell_below hbB (P0.out 2)
        have u3 : (w1.alloc (.cells #[.int .i64 0, .int .i64 0] 24)).cell? ⟨w.heap.size, 3, none⟩ = some (.string ⟨#[]⟩) := cell_below hbB (P0.out 3)
        have u4 : (w1.alloc (.cells #[.int .i64 0, .int .i64 0] 24)).cell? ⟨w.heap.size, 4, none⟩ = some (.int .i64 0) := cell_below hbB (P0.out 4)
        have f0' := fun o => (hbB.frozen (p := ⟨w.heap.size, o, none⟩) (show w.heap.size < w1.heap.size by omega)).trans (f0 o)
        have f1' := fun o => (hbB.frozen (p := ⟨w.heap.size + 1, o, none⟩) (show w.heap.size + 1 < w1.heap.size by omega)).trans (f1 o)
        have hbw2 : Below w.heap.size w (w1.alloc (.cells #[.int .i64 0, .int .i64 0] 24)) := hbw1.trans (hbB.mono hbw1.size)
        have hz2 : w.heap.size + 2 ≤ (w1.alloc (.cells #[.int .i64 0, .int .i64 0] 24)).heap.size := by have := hbB.size; omega
        have HU1 := Lib.hid (fun o => (hbB.cell (p := ⟨w.heap.size + 1, o, none⟩) (show w.heap.size + 1 < w1.heap.size by omega)).trans (P1.out o))
        have HU2 := Lib.hid (fun o => (hbB.cell (p := ⟨w.heap.size, o, none⟩) (show w.heap.size < w1.heap.size by omega)).trans (P0.out o))
        clear f0 f1 v0 hbB
        have HZ := Lib.hid (HR.out.trans (HNO.out (.inr hf)))
        clear hf HYES HNO
        by_cases hk : x.k = 1
        · have hk1 : (x.k != 1) = false := by rw [bne_eq_false_iff_eq]; exact hk
          clear hk
          go_wp2_with fail
          refine bodyPost_ret (v := .agg #[.int .i64 0, .int .i64 0, .int .i64 0, .string ⟨#[]⟩, .int .i64 0]) (by simp [results, Tryd.results25, go_sem, *]) rfl ⟨by rw [HZ.out]; rfl, by repeat' (first | exact hbw2 | (refine Below.setCell ?_ ?_ _) | exact Nat.le_refl _)⟩
        · have hk1 : (x.k != 1) = true := by rw [bne_iff_ne]; exact hk
          clear hk
          go_wp2_with fail
          refine bodyPost_ret (v := .agg #[.int .i64 0, .int .i64 0, .int .i64 0, .string ⟨#[]⟩, .int .i64 0]) (by simp [results, Tryd.results25, go_sem, *]) rfl ⟨by rw [HZ.out]; rfl, by repeat' (first | exact hbw2 | (refine Below.setCell ?_ ?_ _) | exact Nat.le_refl _)⟩
      · rw [decRes_fit hf]
        by_cases hk : x.k = 1
        · have hk1 : (x.k != 1) = false := by rw [bne_eq_false_iff_eq]; exact hk
          have HY := Lib.hid (HR.out.trans (HYES.out hk hf))
          have HD2 := Lib.hid (add_snd hf)
          clear hk hf HYES HNO HR HD
          generalize addN N = n' at *
          generalize addS N = s' at *
          have hbB : Below w1.heap.size w1 (w1.alloc (.cells #[.int .i64 n', .int .i64 s'] 24)) := bel
          have v0' : (w1.alloc (.cells #[.int .i64 n', .int .i64 s'] 24)).cell? ⟨wr.heap.size, 0, none⟩ = some (.int .i64 x.k) := cell_below hbB v0
          have z0 : (w1.alloc (.cells #[.int .i64 n', .int .i64 s'] 24)).cell? ⟨w.heap.size + 1, 0, none⟩ = some (.int .i64 1) := cell_below hbB (P1.out 0)
          have z1 : (w1.alloc (.cells #[.int .i64 n', .int .i64 s'] 24)).cell? ⟨w.heap.size + 1, 1, none⟩ = some (.int .i64 n) := cell_below hbB (P1.out 1)
          have z2 : (w1.alloc (.cells #[.int .i64 n', .int .i64 s'] 24)).cell? ⟨w.heap.size + 1, 2, none⟩ = some (.int .i64 s) := cell_below hbB (P1.out 2)
          have u0 : (w1.alloc (.cells #[.int .i64 n', .int .i64 s'] 24)).cell? ⟨w.heap.size, 0, none⟩ = some (.int .i64 0) := cell_below hbB (P0.out 0)
          have u1 : (w1.alloc (.cells #[.int .i64 n', .int .i64 s'] 24)).cell? ⟨w.heap.size, 1, none⟩ = some (.int .i64 0) := cell_below hbB (P0.out 1)
          have u2 : (w1.alloc (.cells #[.int .i64 n', .int .i64 s'] 24)).cell? ⟨w.heap.size, 2, none⟩ = some (.int .i64 0) := cell_below hbB (P0.out 2)
          have u3 : (w1.alloc (.cells #[.int .i64 n', .int .i64 s'] 24)).cell? ⟨w.heap.size, 3, none⟩ = some (.string ⟨#[]⟩) := cell_below hbB (P0.out 3)
          have u4 : (w1.alloc (.cells #[.int .i64 n', .int .i64 s'] 24)).cell? ⟨w.heap.size, 4, none⟩ = some (.int .i64 0) := cell_below hbB (P0.out 4)
          have f0' := fun o => (hbB.frozen (p := ⟨w.heap.size, o, none⟩) (show w.heap.size < w1.heap.size by omega)).trans (f0 o)
          have f1' := fun o => (hbB.frozen (p := ⟨w.heap.size + 1, o, none⟩) (show w.heap.size + 1 < w1.heap.size by omega)).trans (f1 o)
          have hbw2 : Below w.heap.size w (w1.alloc (.cells #[.int .i64 n', .int .i64 s'] 24)) := hbw1.trans (hbB.mono hbw1.size)
          have hz2 : w.heap.size + 2 ≤ (w1.alloc (.cells #[.int .i64 n', .int .i64 s'] 24)).heap.size := by have := hbB.size; omega
          have HU1 := Lib.hid (fun o => (hbB.cell (p := ⟨w.heap.size + 1, o, none⟩) (show w.heap.size + 1 < w1.heap.size by omega)).trans (P1.out o))
          have HU2 := Lib.hid (fun o => (hbB.cell (p := ⟨w.heap.size, o, none⟩) (show w.heap.size < w1.heap.size by omega)).trans (P0.out o))
          clear f0 f1 v0 hbB
          go_wp2_with fail
          go_roundg (os.length - (j + 1))
          case measure => omega
          case rel => exact ⟨j + 1, n', s', by go_num, by omega, by omega, HY, HD2, Lib.hid (box_far (by omega) HU2.out), Lib.hid (box_set HU1.out), Lib.hid (fun o => by rw [frozen_set1, frozen_set1]; exact f0' o), Lib.hid (fun o => by rw [frozen_set1, frozen_set1]; exact f1' o), (hbw2.setCell (Nat.le_succ _) _).setCell (Nat.le_succ _) _, by simp only [sz_set]; exact hz2⟩
        · have hk1 : (x.k != 1) = true := by rw [bne_iff_ne]; exact hk
          generalize hgn : addN N = n' at *
          generalize hgs : addS N = s' at *
          have hbB : Below w1.heap.size w1 (w1.alloc (.cells #[.int .i64 n', .int .i64 s'] 24)) := bel
          have v0' : (w1.alloc (.cells #[.int .i64 n', .int .i64 s'] 24)).cell? ⟨wr.heap.size, 0, none⟩ = some (.int .i64 x.k) := cell_below hbB v0
          have z0 : (w1.alloc (.cells #[.int .i64 n', .int .i64 s'] 24)).cell? ⟨w.heap.size + 1, 0, none⟩ = some (.int .i64 1) := cell_below hbB (P1.out 0)
          have z1 : (w1.alloc (.cells #[.int .i64 n', .int .i64 s'] 24)).cell? ⟨w.heap.size + 1, 1, none⟩ = some (.int .i64 n) := cell_below hbB (P1.out 1)
          have z2 : (w1.alloc (.cells #[.int .i64 n', .int .i64 s'] 24)).cell? ⟨w.heap.size + 1, 2, none⟩ = some (.int .i64 s) := cell_below hbB (P1.out 2)
          have u0 : (w1.alloc (.cells #[.int .i64 n', .int .i64 s'] 24)).cell? ⟨w.heap.size, 0, none⟩ = some (.int .i64 0) := cell_below hbB (P0.out 0)
          have u1 : (w1.alloc (.cells #[.int .i64 n', .int .i64 s'] 24)).cell? ⟨w.heap.size, 1, none⟩ = some (.int .i64 0) := cell_below hbB (P0.out 1)
          have u2 : (w1.alloc (.cells #[.int .i64 n', .int .i64 s'] 24)).cell? ⟨w.heap.size, 2, none⟩ = some (.int .i64 0) := cell_below hbB (P0.out 2)
          have u3 : (w1.alloc (.cells #[.int .i64 n', .int .i64 s'] 24)).cell? ⟨w.heap.size, 3, none⟩ = some (.string ⟨#[]⟩) := cell_below hbB (P0.out 3)
          have u4 : (w1.alloc (.cells #[.int .i64 n', .int .i64 s'] 24)).cell? ⟨w.heap.size, 4, none⟩ = some (.int .i64 0) := cell_below hbB (P0.out 4)
          have f0' := fun o => (hbB.frozen (p := ⟨w.heap.size, o, none⟩) (show w.heap.size < w1.heap.size by omega)).trans (f0 o)
          have f1' := fun o => (hbB.frozen (p := ⟨w.heap.size + 1, o, none⟩) (show w.heap.size + 1 < w1.heap.size by omega)).trans (f1 o)
          have hbw2 : Below w.heap.size w (w1.alloc (.cells #[.int .i64 n', .int .i64 s'] 24)) := hbw1.trans (hbB.mono hbw1.size)
          have hz2 : w.heap.size + 2 ≤ (w1.alloc (.cells #[.int .i64 n', .int .i64 s'] 24)).heap.size := by have := hbB.size; omega
          have HU1 := Lib.hid (fun o => (hbB.cell (p := ⟨w.heap.size + 1, o, none⟩) (show w.heap.size + 1 < w1.heap.size by omega)).trans (P1.out o))
          have HU2 := Lib.hid (fun o => (hbB.cell (p := ⟨w.heap.size, o, none⟩) (show w.heap.size < w1.heap.size by omega)).trans (P0.out o))
          clear f0 f1 v0 hbB
          have HZ := Lib.hid (HR.out.trans (HNO.out (.inl hk)))
          clear hk hf HYES HNO
          go_wp2_with fail
          refine bodyPost_ret (v := .agg #[.int .i64 0, .int .i64 0, .int .i64 0, .string ⟨#[]⟩, .int .i64 0]) (by simp [results, Tryd.results25, go_sem, *]) rfl ⟨by rw [HZ.out]; rfl, by repeat' (first | exact hbw2 | (refine Below.setCell ?_ ?_ _) | exact Nat.le_refl _)⟩
    · have HE := Lib.hid (HR.out.trans (sumF_end hlt))
      have i1 : ¬ (j : Int) < (os.length : Int) := by omega
      go_wp2_with fail
      refine bodyPost_ret (v := .agg #[.int .i64 1, .int .i64 n, .int .i64 s, .string ⟨#[]⟩, .int .i64 0]) (by simp [results, Tryd.results25, go_sem, *]) rfl ⟨by rw [HE.out], bel⟩
end Go.Proofs.YtfhmjkdpohepaaaDoor
