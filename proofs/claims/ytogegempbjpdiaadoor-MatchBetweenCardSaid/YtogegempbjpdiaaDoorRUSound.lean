/- soffitref09.Sound and soffitref12.May, walked. -/
import Derived.Test.YtogegempbjpdiaaDoorRAll
set_option linter.unusedSimpArgs false
set_option linter.unusedVariables false
namespace Go.Proofs.YtogegempbjpdiaaDoor
open Go.RowKit

theorem neV_run (a b : Vl) (w : World) : (binOp .neq 28 (.agg #[.int .i64 a.k, .int .i64 a.n, .int .i64 a.s, .string a.t, .int .i64 a.i]) (.agg #[.int .i64 b.k, .int .i64 b.n, .int .i64 b.s, .string b.t, .int .i64 b.i])).run Tryd.prog w =
    .ok (.bool (!eqB a b)) w := by
  obtain ⟨k, n, s, t, i⟩ := a
  obtain ⟨k', n', s', t', i'⟩ := b
  unfold eqB
  go_simp
  repeat' split
  all_goals simp_all

theorem any_bad {ts : List Tst} {x : Tst} (hm : x ∈ ts) (hf : uOneB x = false) : ts.any (fun t => !uOneB t) = true := by
  rw [List.any_eq_true]; exact ⟨x, hm, by simp [hf]⟩

set_option maxRecDepth 100000 in
set_option maxHeartbeats 12800000 in
theorem rUSound_loop (c : Cel) (A : Option Addr) (cap : Nat) (w : World) (hr : RdL w 13 A (c.ts.map Tst.cells)) (hw : ∀ t ∈ c.ts, t.wf) (ca : c.any = false) (h1 : 1 ≤ c.ts.length) (h8 : c.ts.length ≤ 8) (B : Bool) (HC : Hid (B = !c.ts.any (fun t => !uOneB t))) :
    Calls Tryd.prog 15 #[.agg #[.bool c.any, .bool c.neg, .slice A c.ts.length cap]] w fun e w' =>
      e = .returned (.bool B) ∧ Below w.heap.size w w' := by
  rw [ca]
  have e1 : decide ((c.ts.length : Int) < 1) = false := by simp; omega
  have e8 : decide ((8 : Int) < (c.ts.length : Int)) = false := by simp; omega
  go_enter Tryd.func15, Tryd.ntmps15
  go_wp2_with fail
  generalize hEW0 : w.alloc _ = W0
  have hbW0 : Below w.heap.size w W0 := (by rw [← hEW0]; exact (by repeat' (first | (with_reducible exact Below.refl _ _) | (with_reducible assumption) | (with_reducible refine Below.drew ?_) | (with_reducible refine below_drewN ?_ _) | (with_reducible refine below_iterAt ?_ ?_ _ _) | (with_reducible refine below_iter ?_ ?_ _ _) | (with_reducible refine Below.alloc ?_ ?_ _) | (with_reducible refine Below.setCell ?_ ?_ _) | (with_reducible refine Below.trans ?_ (Below.mono (by assumption) ?_)) | (simp only [sz_alloc, sz_set, sz_drew, sz_drewN, sz_iterAt, sz_iter] at *; omega) | omega | (simp; done) | (simp; omega) | (apply Below.size; assumption) | (simp only [sz_drew, sz_drewN]; apply Below.size; assumption) | (refine Nat.le_trans ?_ (Below.size (by assumption))))))
  have lW0_0 : w.heap.size < W0.heap.size := (by rw [← hEW0]; first | omega | (simp only [sz_alloc, sz_set, sz_drew, sz_drewN, sz_iterAt, sz_iter] at *; omega) | (simp; done) | (simp; omega) | (simp at *; omega))
  have qW0_0 : ∀ o, W0.cell? ⟨w.heap.size, o, none⟩ = _ := fun o => congrArg (fun W : World => W.cell? ⟨w.heap.size, o, none⟩) hEW0.symm
  have rW0_0 : ∀ o, W0.frozen? ⟨w.heap.size, o, none⟩ = _ := fun o => congrArg (fun W : World => W.frozen? ⟨w.heap.size, o, none⟩) hEW0.symm
  clear hEW0
  have hr2 := hr.below hbW0
  clear hr e1 e8
  go_loopg [3] c.ts.length (fun k iv wr => ∃ j : Nat, j ≤ c.ts.length ∧ c.ts.length - j ≤ k ∧ iv = .int .i64 j ∧ (c.ts.take j).any (fun t => !uOneB t) = false ∧ Below W0.heap.size W0 wr)
  case atStart => exact ⟨0, by omega, by omega, rfl, rfl, Below.refl _ _⟩
  case round =>
    obtain ⟨j, hj, hjk, rfl, hno, hbel⟩ := hrel
    have hsz := hbel.size
    have qr_0 := fun o => (hbel.cell (p := ⟨w.heap.size, o, none⟩) lW0_0).trans (qW0_0 o)
    have lr_0 : w.heap.size < wr.heap.size := by omega
    by_cases hlt : j < c.ts.length
    · obtain ⟨b, off, rfl, hx⟩ := (hr2.below hbel).at_ hlt
      have hmem : c.ts[j]'hlt ∈ c.ts := List.getElem_mem hlt
      have hsuc := any_take_succ (p := fun t => !uOneB t) hlt
      generalize hX : c.ts[j]'hlt = x at *
      have hxw := hw x hmem
      have hl := hxw.lo
      have hh := hxw.hi
      have g0 : wr.cell? ⟨b, off + j * 13, none⟩ = some (.int .i64 x.k) := hx.get 0 rfl
      have g1 : wr.cell? ⟨b, off + j * 13 + 1, none⟩ = some (.int .i64 x.lo.k) := hx.get 1 rfl
      have g2 : wr.cell? ⟨b, off + j * 13 + 2, none⟩ = some (.int .i64 x.lo.n) := hx.get 2 rfl
      have g3 : wr.cell? ⟨b, off + j * 13 + 3, none⟩ = some (.int .i64 x.lo.s) := hx.get 3 rfl
      have g4 : wr.cell? ⟨b, off + j * 13 + 4, none⟩ = some (.string x.lo.t) := hx.get 4 rfl
      have g5 : wr.cell? ⟨b, off + j * 13 + 5, none⟩ = some (.int .i64 x.lo.i) := hx.get 5 rfl
      have g6 : wr.cell? ⟨b, off + j * 13 + 6, none⟩ = some (.int .i64 x.hi.k) := hx.get 6 rfl
      have g7 : wr.cell? ⟨b, off + j * 13 + 7, none⟩ = some (.int .i64 x.hi.n) := hx.get 7 rfl
      have g8 : wr.cell? ⟨b, off + j * 13 + 8, none⟩ = some (.int .i64 x.hi.s) := hx.get 8 rfl
      have g9 : wr.cell? ⟨b, off + j * 13 + 9, none⟩ = some (.string x.hi.t) := hx.get 9 rfl
      have g10 : wr.cell? ⟨b, off + j * 13 + 10, none⟩ = some (.int .i64 x.hi.i) := hx.get 10 rfl
      have g11 : wr.cell? ⟨b, off + j * 13 + 11, none⟩ = some (.bool x.ol) := hx.get 11 rfl
      have g12 : wr.cell? ⟨b, off + j * 13 + 12, none⟩ = some (.bool x.oh) := hx.get 12 rfl
      have hbl : b < wr.heap.size := cell_lt g0
      have HF : uOneB x = false → B = false := fun hf => by rw [HC.out, any_bad hmem hf]; rfl
      have HT : uOneB x = true → (c.ts.take (j + 1)).any (fun t => !uOneB t) = false := fun hf => by rw [hsuc, hno, hf]; rfl
      have HF' := Lib.hid HF
      have HT' := Lib.hid HT
      clear hx hX hmem hsuc HF HT hno hxw
      have i0 : (0 : Int) ≤ (j : Int) := by omega
      have i1 : (j : Int) < (c.ts.length : Int) := by omega
      have hq : ∀ W : World, (binOp .neq 28 (.agg #[.int .i64 x.hi.k, .int .i64 x.hi.n, .int .i64 x.hi.s, .string x.hi.t, .int .i64 x.hi.i]) (.agg #[.int .i64 0, .int .i64 0, .int .i64 0, .string ⟨#[]⟩, .int .i64 0])).run Tryd.prog W = .ok (.bool (!eqB x.hi Vl.zero)) W := fun W => neV_run x.hi Vl.zero W
      obtain ⟨R, hR⟩ : ∃ R, uOneB x = R := ⟨_, rfl⟩
      rw [hR] at HF' HT'
      have three : ((x.lo.k == 1) = true ∧ rankB x.lo = true) ∨ ((x.lo.k == 1) = false ∧ (x.lo.k == 4) = true ∧ rankB x.lo = true) ∨ ((x.lo.k == 1) = false ∧ (x.lo.k == 4) = false ∧ rankB x.lo = false) := by
        unfold rankB; cases (x.lo.k == 1) <;> cases (x.lo.k == 4) <;> simp
      rcases three with ⟨r1, hRk⟩ | ⟨r1, r4, hRk⟩ | ⟨r1, r4, hRk⟩
      · have HRK := Lib.hid hRk
        clear hRk
        have HRR := Lib.hid hR
        clear hR
        go_wp2_with fail
        refine (rSound_any x.lo _ hl).mono ?_
        rintro e w1 ⟨rfl, hb1⟩
        obtain ⟨SL, sl⟩ : ∃ SL, sndB x.lo = SL := ⟨_, rfl⟩
        rw [sl]
        cases SL
        · have hR := HRR.out
          have HB : Hid (R = false) := by rw [← hR]; show uOneB x = _; unfold uOneB; rw [sl]; rfl
          clear hR hq sl
          go_wp2_with fail
          all_goals go_ret
          all_goals exact ⟨ret_bool (HF'.out HB.out).symm, (by repeat' (first | (with_reducible exact Below.refl _ _) | (with_reducible assumption) | (with_reducible refine Below.drew ?_) | (with_reducible refine below_drewN ?_ _) | (with_reducible refine below_iterAt ?_ ?_ _ _) | (with_reducible refine below_iter ?_ ?_ _ _) | (with_reducible refine Below.alloc ?_ ?_ _) | (with_reducible refine Below.setCell ?_ ?_ _) | (with_reducible refine Below.trans ?_ (Below.mono (by assumption) ?_)) | (simp only [sz_alloc, sz_set, sz_drew, sz_drewN, sz_iterAt, sz_iter] at *; omega) | omega | (simp; done) | (simp; omega) | (apply Below.size; assumption) | (simp only [sz_drew, sz_drewN]; apply Below.size; assumption) | (refine Nat.le_trans ?_ (Below.size (by assumption)))))⟩
        · have HSL := Lib.hid sl
          clear sl
          obtain ⟨hc1, hf1⟩ := bcell hb1
          have hz1 := hb1.size
          try simp at hz1
          have q1_0 := fun o => hc1 (wr.heap.size) o (by first | omega | (simp only [sz_alloc, sz_set, sz_drew, sz_drewN, sz_iterAt, sz_iter] at *; omega) | (simp; done) | (simp; omega) | (simp at *; omega))
          have l1_0 : wr.heap.size < w1.heap.size := by omega
          have r1_0 := fun o => hf1 (wr.heap.size) o (by first | omega | (simp only [sz_alloc, sz_set, sz_drew, sz_drewN, sz_iterAt, sz_iter] at *; omega) | (simp; done) | (simp; omega) | (simp at *; omega))
          clear hc1 hf1
          go_wp2_with fail
          refine (rSound_any x.hi _ hh).mono ?_
          rintro e w2 ⟨rfl, hb2⟩
          obtain ⟨SH, sh⟩ : ∃ SH, sndB x.hi = SH := ⟨_, rfl⟩
          rw [sh]
          have hR := HRR.out
          have hRk := HRK.out
          have sl := HSL.out
          clear HRR HRK HSL
          cases SH
          · have HB : Hid (R = false) := by rw [← hR]; show uOneB x = _; unfold uOneB; rw [sl, sh]; rfl
            clear hR hRk hq sl sh
            go_wp2_with fail
            all_goals go_ret
            all_goals exact ⟨ret_bool (HF'.out HB.out).symm, (by repeat' (first | (with_reducible exact Below.refl _ _) | (with_reducible assumption) | (with_reducible refine Below.drew ?_) | (with_reducible refine below_drewN ?_ _) | (with_reducible refine below_iterAt ?_ ?_ _ _) | (with_reducible refine below_iter ?_ ?_ _ _) | (with_reducible refine Below.alloc ?_ ?_ _) | (with_reducible refine Below.setCell ?_ ?_ _) | (with_reducible refine Below.trans ?_ (Below.mono (by assumption) ?_)) | (simp only [sz_alloc, sz_set, sz_drew, sz_drewN, sz_iterAt, sz_iter] at *; omega) | omega | (simp; done) | (simp; omega) | (apply Below.size; assumption) | (simp only [sz_drew, sz_drewN]; apply Below.size; assumption) | (refine Nat.le_trans ?_ (Below.size (by assumption)))))⟩
          · skip
            obtain ⟨hc2, hf2⟩ := bcell hb2
            have hz2 := hb2.size
            try simp at hz2
            have q2_0 := fun o => hc2 (wr.heap.size) o (by first | omega | (simp only [sz_alloc, sz_set, sz_drew, sz_drewN, sz_iterAt, sz_iter] at *; omega) | (simp; done) | (simp; omega) | (simp at *; omega))
            have l2_0 : wr.heap.size < w2.heap.size := by omega
            have r2_0 := fun o => hf2 (wr.heap.size) o (by first | omega | (simp only [sz_alloc, sz_set, sz_drew, sz_drewN, sz_iterAt, sz_iter] at *; omega) | (simp; done) | (simp; omega) | (simp at *; omega))
            clear hc2 hf2
            rcases (show x.k < 1 ∨ 6 < x.k ∨ x.k = 1 ∨ x.k = 6 ∨ (1 < x.k ∧ x.k < 6) by omega) with hk | hk | hk | hk | hk
            · have k1 : decide (x.k < 1) = true := by simp; omega
              have HB : Hid (R = false) := by rw [← hR]; show uOneB x = _; unfold uOneB; rw [sl, sh, if_neg (by omega), decide_eq_false (by omega)]; rfl
              clear hR hRk sl sh
              clear hk
              have HV : R = false := by rw [HB.out]; first | done | (simp [*]; done) | (simp only [*]; rfl)
              clear HB
              go_wp2_with fail
              all_goals go_ret
              all_goals exact ⟨ret_bool (HF'.out HV).symm, (by repeat' (first | (with_reducible exact Below.refl _ _) | (with_reducible assumption) | (with_reducible refine Below.drew ?_) | (with_reducible refine below_drewN ?_ _) | (with_reducible refine below_iterAt ?_ ?_ _ _) | (with_reducible refine below_iter ?_ ?_ _ _) | (with_reducible refine Below.alloc ?_ ?_ _) | (with_reducible refine Below.setCell ?_ ?_ _) | (with_reducible refine Below.trans ?_ (Below.mono (by assumption) ?_)) | (simp only [sz_alloc, sz_set, sz_drew, sz_drewN, sz_iterAt, sz_iter] at *; omega) | omega | (simp; done) | (simp; omega) | (apply Below.size; assumption) | (simp only [sz_drew, sz_drewN]; apply Below.size; assumption) | (refine Nat.le_trans ?_ (Below.size (by assumption)))))⟩
            · have k1 : decide (x.k < 1) = false := by simp; omega
              have k6 : decide (6 < x.k) = true := by simp; omega
              have HB : Hid (R = false) := by rw [← hR]; show uOneB x = _; unfold uOneB; rw [sl, sh, if_neg (by omega), decide_eq_false (by omega)]; rfl
              clear hR hRk sl sh
              clear hk
              have HV : R = false := by rw [HB.out]; first | done | (simp [*]; done) | (simp only [*]; rfl)
              clear HB
              go_wp2_with fail
              all_goals go_ret
              all_goals exact ⟨ret_bool (HF'.out HV).symm, (by repeat' (first | (with_reducible exact Below.refl _ _) | (with_reducible assumption) | (with_reducible refine Below.drew ?_) | (with_reducible refine below_drewN ?_ _) | (with_reducible refine below_iterAt ?_ ?_ _ _) | (with_reducible refine below_iter ?_ ?_ _ _) | (with_reducible refine Below.alloc ?_ ?_ _) | (with_reducible refine Below.setCell ?_ ?_ _) | (with_reducible refine Below.trans ?_ (Below.mono (by assumption) ?_)) | (simp only [sz_alloc, sz_set, sz_drew, sz_drewN, sz_iterAt, sz_iter] at *; omega) | omega | (simp; done) | (simp; omega) | (apply Below.size; assumption) | (simp only [sz_drew, sz_drewN]; apply Below.size; assumption) | (refine Nat.le_trans ?_ (Below.size (by assumption)))))⟩
            · have kn1 : (x.k != 1) = false := by simp [hk]
              have k1 : decide (x.k < 1) = false := by simp; omega
              have k6 : decide (6 < x.k) = false := by simp; omega
              have ke1 : (x.k == 1) = true := by simp [hk]
              have ke6 : (x.k == 6) = false := by simp; omega
              have HB : Hid (R = (decide (1 ≤ x.k ∧ x.k < 6) && (rankB x.lo || x.k == 1) && eqB x.hi Vl.zero && !x.ol && !x.oh)) := by rw [← hR]; show uOneB x = _; unfold uOneB; rw [sl, sh, if_neg (by omega)]; rfl
              rw [ke1, decide_eq_true (show 1 ≤ x.k ∧ x.k < 6 by omega), Bool.or_true] at HB
              clear hRk
              simp only [Bool.true_and] at HB
              clear hk
              clear hR sl sh
              cases ez : eqB x.hi Vl.zero
              · skip
                have HV : R = false := by rw [HB.out]; first | done | (simp [*]; done) | (simp only [*]; rfl)
                clear HB
                go_wp2_with fail
                all_goals go_ret
                all_goals exact ⟨ret_bool (HF'.out HV).symm, (by repeat' (first | (with_reducible exact Below.refl _ _) | (with_reducible assumption) | (with_reducible refine Below.drew ?_) | (with_reducible refine below_drewN ?_ _) | (with_reducible refine below_iterAt ?_ ?_ _ _) | (with_reducible refine below_iter ?_ ?_ _ _) | (with_reducible refine Below.alloc ?_ ?_ _) | (with_reducible refine Below.setCell ?_ ?_ _) | (with_reducible refine Below.trans ?_ (Below.mono (by assumption) ?_)) | (simp only [sz_alloc, sz_set, sz_drew, sz_drewN, sz_iterAt, sz_iter] at *; omega) | omega | (simp; done) | (simp; omega) | (apply Below.size; assumption) | (simp only [sz_drew, sz_drewN]; apply Below.size; assumption) | (refine Nat.le_trans ?_ (Below.size (by assumption)))))⟩
              · cases eo : x.ol
                · cases ep : x.oh
                  · skip
                    have HV : R = true := by rw [HB.out]; first | done | (simp [*]; done) | (simp only [*]; rfl)
                    clear HB
                    go_wp2_with fail
                    go_roundg (gk - 1)
                    case measure => omega
                    case rel => exact ⟨j + 1, by omega, by omega, by go_num, HT'.out HV, (by repeat' (first | (with_reducible exact Below.refl _ _) | (with_reducible assumption) | (with_reducible refine Below.drew ?_) | (with_reducible refine below_drewN ?_ _) | (with_reducible refine below_iterAt ?_ ?_ _ _) | (with_reducible refine below_iter ?_ ?_ _ _) | (with_reducible refine Below.alloc ?_ ?_ _) | (with_reducible refine Below.setCell ?_ ?_ _) | (with_reducible refine Below.trans ?_ (Below.mono (by assumption) ?_)) | (simp only [sz_alloc, sz_set, sz_drew, sz_drewN, sz_iterAt, sz_iter] at *; omega) | omega | (simp; done) | (simp; omega) | (apply Below.size; assumption) | (simp only [sz_drew, sz_drewN]; apply Below.size; assumption) | (refine Nat.le_trans ?_ (Below.size (by assumption)))))⟩
                  · skip
                    have HV : R = false := by rw [HB.out]; first | done | (simp [*]; done) | (simp only [*]; rfl)
                    clear HB
                    go_wp2_with fail
                    all_goals go_ret
                    all_goals exact ⟨ret_bool (HF'.out HV).symm, (by repeat' (first | (with_reducible exact Below.refl _ _) | (with_reducible assumption) | (with_reducible refine Below.drew ?_) | (with_reducible refine below_drewN ?_ _) | (with_reducible refine below_iterAt ?_ ?_ _ _) | (with_reducible refine below_iter ?_ ?_ _ _) | (with_reducible refine Below.alloc ?_ ?_ _) | (with_reducible refine Below.setCell ?_ ?_ _) | (with_reducible refine Below.trans ?_ (Below.mono (by assumption) ?_)) | (simp only [sz_alloc, sz_set, sz_drew, sz_drewN, sz_iterAt, sz_iter] at *; omega) | omega | (simp; done) | (simp; omega) | (apply Below.size; assumption) | (simp only [sz_drew, sz_drewN]; apply Below.size; assumption) | (refine Nat.le_trans ?_ (Below.size (by assumption)))))⟩
                · skip
                  have HV : R = false := by rw [HB.out]; first | done | (simp [*]; done) | (simp only [*]; rfl)
                  clear HB
                  go_wp2_with fail
                  all_goals go_ret
                  all_goals exact ⟨ret_bool (HF'.out HV).symm, (by repeat' (first | (with_reducible exact Below.refl _ _) | (with_reducible assumption) | (with_reducible refine Below.drew ?_) | (with_reducible refine below_drewN ?_ _) | (with_reducible refine below_iterAt ?_ ?_ _ _) | (with_reducible refine below_iter ?_ ?_ _ _) | (with_reducible refine Below.alloc ?_ ?_ _) | (with_reducible refine Below.setCell ?_ ?_ _) | (with_reducible refine Below.trans ?_ (Below.mono (by assumption) ?_)) | (simp only [sz_alloc, sz_set, sz_drew, sz_drewN, sz_iterAt, sz_iter] at *; omega) | omega | (simp; done) | (simp; omega) | (apply Below.size; assumption) | (simp only [sz_drew, sz_drewN]; apply Below.size; assumption) | (refine Nat.le_trans ?_ (Below.size (by assumption)))))⟩
            · have kn1 : (x.k != 1) = true := by simp; omega
              have k1 : decide (x.k < 1) = false := by simp; omega
              have k6 : decide (6 < x.k) = false := by simp; omega
              have ke1 : (x.k == 1) = false := by simp; omega
              have ke6 : (x.k == 6) = true := by simp [hk]
              have HB : Hid (R = (rankB x.lo && x.hi.k == x.lo.k)) := by rw [← hR]; show uOneB x = _; unfold uOneB; rw [sl, sh, if_pos hk]; rfl
              rw [hRk] at HB
              clear hRk
              clear hk
              clear hR sl sh
              cases ez : (x.hi.k == x.lo.k)
              · have ezn : (x.hi.k != x.lo.k) = true := by unfold bne; rw [ez]; rfl
                have HV : R = false := by rw [HB.out]; first | done | (simp [*]; done) | (simp only [*]; rfl)
                clear HB
                go_wp2_with fail
                all_goals go_ret
                all_goals exact ⟨ret_bool (HF'.out HV).symm, (by repeat' (first | (with_reducible exact Below.refl _ _) | (with_reducible assumption) | (with_reducible refine Below.drew ?_) | (with_reducible refine below_drewN ?_ _) | (with_reducible refine below_iterAt ?_ ?_ _ _) | (with_reducible refine below_iter ?_ ?_ _ _) | (with_reducible refine Below.alloc ?_ ?_ _) | (with_reducible refine Below.setCell ?_ ?_ _) | (with_reducible refine Below.trans ?_ (Below.mono (by assumption) ?_)) | (simp only [sz_alloc, sz_set, sz_drew, sz_drewN, sz_iterAt, sz_iter] at *; omega) | omega | (simp; done) | (simp; omega) | (apply Below.size; assumption) | (simp only [sz_drew, sz_drewN]; apply Below.size; assumption) | (refine Nat.le_trans ?_ (Below.size (by assumption)))))⟩
              · have ezn : (x.hi.k != x.lo.k) = false := by unfold bne; rw [ez]; rfl
                have HV : R = true := by rw [HB.out]; first | done | (simp [*]; done) | (simp only [*]; rfl)
                clear HB
                go_wp2_with fail
                go_roundg (gk - 1)
                case measure => omega
                case rel => exact ⟨j + 1, by omega, by omega, by go_num, HT'.out HV, (by repeat' (first | (with_reducible exact Below.refl _ _) | (with_reducible assumption) | (with_reducible refine Below.drew ?_) | (with_reducible refine below_drewN ?_ _) | (with_reducible refine below_iterAt ?_ ?_ _ _) | (with_reducible refine below_iter ?_ ?_ _ _) | (with_reducible refine Below.alloc ?_ ?_ _) | (with_reducible refine Below.setCell ?_ ?_ _) | (with_reducible refine Below.trans ?_ (Below.mono (by assumption) ?_)) | (simp only [sz_alloc, sz_set, sz_drew, sz_drewN, sz_iterAt, sz_iter] at *; omega) | omega | (simp; done) | (simp; omega) | (apply Below.size; assumption) | (simp only [sz_drew, sz_drewN]; apply Below.size; assumption) | (refine Nat.le_trans ?_ (Below.size (by assumption)))))⟩
            · have kn1 : (x.k != 1) = true := by simp; omega
              have k1 : decide (x.k < 1) = false := by simp; omega
              have k6 : decide (6 < x.k) = false := by simp; omega
              have ke1 : (x.k == 1) = false := by simp; omega
              have ke6 : (x.k == 6) = false := by simp; omega
              have HB : Hid (R = (decide (1 ≤ x.k ∧ x.k < 6) && (rankB x.lo || x.k == 1) && eqB x.hi Vl.zero && !x.ol && !x.oh)) := by rw [← hR]; show uOneB x = _; unfold uOneB; rw [sl, sh, if_neg (by omega)]; rfl
              rw [hRk, ke1, decide_eq_true (show 1 ≤ x.k ∧ x.k < 6 by omega)] at HB
              clear hRk
              simp only [Bool.or_false, Bool.true_and, Bool.false_and] at HB
              clear hk
              clear hR sl sh
              cases ez : eqB x.hi Vl.zero
              · skip
                have HV : R = false := by rw [HB.out]; first | done | (simp [*]; done) | (simp only [*]; rfl)
                clear HB
                go_wp2_with fail
                all_goals go_ret
                all_goals exact ⟨ret_bool (HF'.out HV).symm, (by repeat' (first | (with_reducible exact Below.refl _ _) | (with_reducible assumption) | (with_reducible refine Below.drew ?_) | (with_reducible refine below_drewN ?_ _) | (with_reducible refine below_iterAt ?_ ?_ _ _) | (with_reducible refine below_iter ?_ ?_ _ _) | (with_reducible refine Below.alloc ?_ ?_ _) | (with_reducible refine Below.setCell ?_ ?_ _) | (with_reducible refine Below.trans ?_ (Below.mono (by assumption) ?_)) | (simp only [sz_alloc, sz_set, sz_drew, sz_drewN, sz_iterAt, sz_iter] at *; omega) | omega | (simp; done) | (simp; omega) | (apply Below.size; assumption) | (simp only [sz_drew, sz_drewN]; apply Below.size; assumption) | (refine Nat.le_trans ?_ (Below.size (by assumption)))))⟩
              · cases eo : x.ol
                · cases ep : x.oh
                  · skip
                    have HV : R = true := by rw [HB.out]; first | done | (simp [*]; done) | (simp only [*]; rfl)
                    clear HB
                    go_wp2_with fail
                    go_roundg (gk - 1)
                    case measure => omega
                    case rel => exact ⟨j + 1, by omega, by omega, by go_num, HT'.out HV, (by repeat' (first | (with_reducible exact Below.refl _ _) | (with_reducible assumption) | (with_reducible refine Below.drew ?_) | (with_reducible refine below_drewN ?_ _) | (with_reducible refine below_iterAt ?_ ?_ _ _) | (with_reducible refine below_iter ?_ ?_ _ _) | (with_reducible refine Below.alloc ?_ ?_ _) | (with_reducible refine Below.setCell ?_ ?_ _) | (with_reducible refine Below.trans ?_ (Below.mono (by assumption) ?_)) | (simp only [sz_alloc, sz_set, sz_drew, sz_drewN, sz_iterAt, sz_iter] at *; omega) | omega | (simp; done) | (simp; omega) | (apply Below.size; assumption) | (simp only [sz_drew, sz_drewN]; apply Below.size; assumption) | (refine Nat.le_trans ?_ (Below.size (by assumption)))))⟩
                  · skip
                    have HV : R = false := by rw [HB.out]; first | done | (simp [*]; done) | (simp only [*]; rfl)
                    clear HB
                    go_wp2_with fail
                    all_goals go_ret
                    all_goals exact ⟨ret_bool (HF'.out HV).symm, (by repeat' (first | (with_reducible exact Below.refl _ _) | (with_reducible assumption) | (with_reducible refine Below.drew ?_) | (with_reducible refine below_drewN ?_ _) | (with_reducible refine below_iterAt ?_ ?_ _ _) | (with_reducible refine below_iter ?_ ?_ _ _) | (with_reducible refine Below.alloc ?_ ?_ _) | (with_reducible refine Below.setCell ?_ ?_ _) | (with_reducible refine Below.trans ?_ (Below.mono (by assumption) ?_)) | (simp only [sz_alloc, sz_set, sz_drew, sz_drewN, sz_iterAt, sz_iter] at *; omega) | omega | (simp; done) | (simp; omega) | (apply Below.size; assumption) | (simp only [sz_drew, sz_drewN]; apply Below.size; assumption) | (refine Nat.le_trans ?_ (Below.size (by assumption)))))⟩
                · skip
                  have HV : R = false := by rw [HB.out]; first | done | (simp [*]; done) | (simp only [*]; rfl)
                  clear HB
                  go_wp2_with fail
                  all_goals go_ret
                  all_goals exact ⟨ret_bool (HF'.out HV).symm, (by repeat' (first | (with_reducible exact Below.refl _ _) | (with_reducible assumption) | (with_reducible refine Below.drew ?_) | (with_reducible refine below_drewN ?_ _) | (with_reducible refine below_iterAt ?_ ?_ _ _) | (with_reducible refine below_iter ?_ ?_ _ _) | (with_reducible refine Below.alloc ?_ ?_ _) | (with_reducible refine Below.setCell ?_ ?_ _) | (with_reducible refine Below.trans ?_ (Below.mono (by assumption) ?_)) | (simp only [sz_alloc, sz_set, sz_drew, sz_drewN, sz_iterAt, sz_iter] at *; omega) | omega | (simp; done) | (simp; omega) | (apply Below.size; assumption) | (simp only [sz_drew, sz_drewN]; apply Below.size; assumption) | (refine Nat.le_trans ?_ (Below.size (by assumption)))))⟩
      · have HRK := Lib.hid hRk
        clear hRk
        have HRR := Lib.hid hR
        clear hR
        go_wp2_with fail
        refine (rSound_any x.lo _ hl).mono ?_
        rintro e w1 ⟨rfl, hb1⟩
        obtain ⟨SL, sl⟩ : ∃ SL, sndB x.lo = SL := ⟨_, rfl⟩
        rw [sl]
        cases SL
        · have hR := HRR.out
          have HB : Hid (R = false) := by rw [← hR]; show uOneB x = _; unfold uOneB; rw [sl]; rfl
          clear hR hq sl
          go_wp2_with fail
          all_goals go_ret
          all_goals exact ⟨ret_bool (HF'.out HB.out).symm, (by repeat' (first | (with_reducible exact Below.refl _ _) | (with_reducible assumption) | (with_reducible refine Below.drew ?_) | (with_reducible refine below_drewN ?_ _) | (with_reducible refine below_iterAt ?_ ?_ _ _) | (with_reducible refine below_iter ?_ ?_ _ _) | (with_reducible refine Below.alloc ?_ ?_ _) | (with_reducible refine Below.setCell ?_ ?_ _) | (with_reducible refine Below.trans ?_ (Below.mono (by assumption) ?_)) | (simp only [sz_alloc, sz_set, sz_drew, sz_drewN, sz_iterAt, sz_iter] at *; omega) | omega | (simp; done) | (simp; omega) | (apply Below.size; assumption) | (simp only [sz_drew, sz_drewN]; apply Below.size; assumption) | (refine Nat.le_trans ?_ (Below.size (by assumption)))))⟩
        · have HSL := Lib.hid sl
          clear sl
          obtain ⟨hc1, hf1⟩ := bcell hb1
          have hz1 := hb1.size
          try simp at hz1
          have q1_0 := fun o => hc1 (wr.heap.size) o (by first | omega | (simp only [sz_alloc, sz_set, sz_drew, sz_drewN, sz_iterAt, sz_iter] at *; omega) | (simp; done) | (simp; omega) | (simp at *; omega))
          have l1_0 : wr.heap.size < w1.heap.size := by omega
          have r1_0 := fun o => hf1 (wr.heap.size) o (by first | omega | (simp only [sz_alloc, sz_set, sz_drew, sz_drewN, sz_iterAt, sz_iter] at *; omega) | (simp; done) | (simp; omega) | (simp at *; omega))
          clear hc1 hf1
          go_wp2_with fail
          refine (rSound_any x.hi _ hh).mono ?_
          rintro e w2 ⟨rfl, hb2⟩
          obtain ⟨SH, sh⟩ : ∃ SH, sndB x.hi = SH := ⟨_, rfl⟩
          rw [sh]
          have hR := HRR.out
          have hRk := HRK.out
          have sl := HSL.out
          clear HRR HRK HSL
          cases SH
          · have HB : Hid (R = false) := by rw [← hR]; show uOneB x = _; unfold uOneB; rw [sl, sh]; rfl
            clear hR hRk hq sl sh
            go_wp2_with fail
            all_goals go_ret
            all_goals exact ⟨ret_bool (HF'.out HB.out).symm, (by repeat' (first | (with_reducible exact Below.refl _ _) | (with_reducible assumption) | (with_reducible refine Below.drew ?_) | (with_reducible refine below_drewN ?_ _) | (with_reducible refine below_iterAt ?_ ?_ _ _) | (with_reducible refine below_iter ?_ ?_ _ _) | (with_reducible refine Below.alloc ?_ ?_ _) | (with_reducible refine Below.setCell ?_ ?_ _) | (with_reducible refine Below.trans ?_ (Below.mono (by assumption) ?_)) | (simp only [sz_alloc, sz_set, sz_drew, sz_drewN, sz_iterAt, sz_iter] at *; omega) | omega | (simp; done) | (simp; omega) | (apply Below.size; assumption) | (simp only [sz_drew, sz_drewN]; apply Below.size; assumption) | (refine Nat.le_trans ?_ (Below.size (by assumption)))))⟩
          · skip
            obtain ⟨hc2, hf2⟩ := bcell hb2
            have hz2 := hb2.size
            try simp at hz2
            have q2_0 := fun o => hc2 (wr.heap.size) o (by first | omega | (simp only [sz_alloc, sz_set, sz_drew, sz_drewN, sz_iterAt, sz_iter] at *; omega) | (simp; done) | (simp; omega) | (simp at *; omega))
            have l2_0 : wr.heap.size < w2.heap.size := by omega
            have r2_0 := fun o => hf2 (wr.heap.size) o (by first | omega | (simp only [sz_alloc, sz_set, sz_drew, sz_drewN, sz_iterAt, sz_iter] at *; omega) | (simp; done) | (simp; omega) | (simp at *; omega))
            clear hc2 hf2
            rcases (show x.k < 1 ∨ 6 < x.k ∨ x.k = 1 ∨ x.k = 6 ∨ (1 < x.k ∧ x.k < 6) by omega) with hk | hk | hk | hk | hk
            · have k1 : decide (x.k < 1) = true := by simp; omega
              have HB : Hid (R = false) := by rw [← hR]; show uOneB x = _; unfold uOneB; rw [sl, sh, if_neg (by omega), decide_eq_false (by omega)]; rfl
              clear hR hRk sl sh
              clear hk
              have HV : R = false := by rw [HB.out]; first | done | (simp [*]; done) | (simp only [*]; rfl)
              clear HB
              go_wp2_with fail
              all_goals go_ret
              all_goals exact ⟨ret_bool (HF'.out HV).symm, (by repeat' (first | (with_reducible exact Below.refl _ _) | (with_reducible assumption) | (with_reducible refine Below.drew ?_) | (with_reducible refine below_drewN ?_ _) | (with_reducible refine below_iterAt ?_ ?_ _ _) | (with_reducible refine below_iter ?_ ?_ _ _) | (with_reducible refine Below.alloc ?_ ?_ _) | (with_reducible refine Below.setCell ?_ ?_ _) | (with_reducible refine Below.trans ?_ (Below.mono (by assumption) ?_)) | (simp only [sz_alloc, sz_set, sz_drew, sz_drewN, sz_iterAt, sz_iter] at *; omega) | omega | (simp; done) | (simp; omega) | (apply Below.size; assumption) | (simp only [sz_drew, sz_drewN]; apply Below.size; assumption) | (refine Nat.le_trans ?_ (Below.size (by assumption)))))⟩
            · have k1 : decide (x.k < 1) = false := by simp; omega
              have k6 : decide (6 < x.k) = true := by simp; omega
              have HB : Hid (R = false) := by rw [← hR]; show uOneB x = _; unfold uOneB; rw [sl, sh, if_neg (by omega), decide_eq_false (by omega)]; rfl
              clear hR hRk sl sh
              clear hk
              have HV : R = false := by rw [HB.out]; first | done | (simp [*]; done) | (simp only [*]; rfl)
              clear HB
              go_wp2_with fail
              all_goals go_ret
              all_goals exact ⟨ret_bool (HF'.out HV).symm, (by repeat' (first | (with_reducible exact Below.refl _ _) | (with_reducible assumption) | (with_reducible refine Below.drew ?_) | (with_reducible refine below_drewN ?_ _) | (with_reducible refine below_iterAt ?_ ?_ _ _) | (with_reducible refine below_iter ?_ ?_ _ _) | (with_reducible refine Below.alloc ?_ ?_ _) | (with_reducible refine Below.setCell ?_ ?_ _) | (with_reducible refine Below.trans ?_ (Below.mono (by assumption) ?_)) | (simp only [sz_alloc, sz_set, sz_drew, sz_drewN, sz_iterAt, sz_iter] at *; omega) | omega | (simp; done) | (simp; omega) | (apply Below.size; assumption) | (simp only [sz_drew, sz_drewN]; apply Below.size; assumption) | (refine Nat.le_trans ?_ (Below.size (by assumption)))))⟩
            · have kn1 : (x.k != 1) = false := by simp [hk]
              have k1 : decide (x.k < 1) = false := by simp; omega
              have k6 : decide (6 < x.k) = false := by simp; omega
              have ke1 : (x.k == 1) = true := by simp [hk]
              have ke6 : (x.k == 6) = false := by simp; omega
              have HB : Hid (R = (decide (1 ≤ x.k ∧ x.k < 6) && (rankB x.lo || x.k == 1) && eqB x.hi Vl.zero && !x.ol && !x.oh)) := by rw [← hR]; show uOneB x = _; unfold uOneB; rw [sl, sh, if_neg (by omega)]; rfl
              rw [ke1, decide_eq_true (show 1 ≤ x.k ∧ x.k < 6 by omega), Bool.or_true] at HB
              clear hRk
              simp only [Bool.true_and] at HB
              clear hk
              clear hR sl sh
              cases ez : eqB x.hi Vl.zero
              · skip
                have HV : R = false := by rw [HB.out]; first | done | (simp [*]; done) | (simp only [*]; rfl)
                clear HB
                go_wp2_with fail
                all_goals go_ret
                all_goals exact ⟨ret_bool (HF'.out HV).symm, (by repeat' (first | (with_reducible exact Below.refl _ _) | (with_reducible assumption) | (with_reducible refine Below.drew ?_) | (with_reducible refine below_drewN ?_ _) | (with_reducible refine below_iterAt ?_ ?_ _ _) | (with_reducible refine below_iter ?_ ?_ _ _) | (with_reducible refine Below.alloc ?_ ?_ _) | (with_reducible refine Below.setCell ?_ ?_ _) | (with_reducible refine Below.trans ?_ (Below.mono (by assumption) ?_)) | (simp only [sz_alloc, sz_set, sz_drew, sz_drewN, sz_iterAt, sz_iter] at *; omega) | omega | (simp; done) | (simp; omega) | (apply Below.size; assumption) | (simp only [sz_drew, sz_drewN]; apply Below.size; assumption) | (refine Nat.le_trans ?_ (Below.size (by assumption)))))⟩
              · cases eo : x.ol
                · cases ep : x.oh
                  · skip
                    have HV : R = true := by rw [HB.out]; first | done | (simp [*]; done) | (simp only [*]; rfl)
                    clear HB
                    go_wp2_with fail
                    go_roundg (gk - 1)
                    case measure => omega
                    case rel => exact ⟨j + 1, by omega, by omega, by go_num, HT'.out HV, (by repeat' (first | (with_reducible exact Below.refl _ _) | (with_reducible assumption) | (with_reducible refine Below.drew ?_) | (with_reducible refine below_drewN ?_ _) | (with_reducible refine below_iterAt ?_ ?_ _ _) | (with_reducible refine below_iter ?_ ?_ _ _) | (with_reducible refine Below.alloc ?_ ?_ _) | (with_reducible refine Below.setCell ?_ ?_ _) | (with_reducible refine Below.trans ?_ (Below.mono (by assumption) ?_)) | (simp only [sz_alloc, sz_set, sz_drew, sz_drewN, sz_iterAt, sz_iter] at *; omega) | omega | (simp; done) | (simp; omega) | (apply Below.size; assumption) | (simp only [sz_drew, sz_drewN]; apply Below.size; assumption) | (refine Nat.le_trans ?_ (Below.size (by assumption)))))⟩
                  · skip
                    have HV : R = false := by rw [HB.out]; first | done | (simp [*]; done) | (simp only [*]; rfl)
                    clear HB
                    go_wp2_with fail
                    all_goals go_ret
                    all_goals exact ⟨ret_bool (HF'.out HV).symm, (by repeat' (first | (with_reducible exact Below.refl _ _) | (with_reducible assumption) | (with_reducible refine Below.drew ?_) | (with_reducible refine below_drewN ?_ _) | (with_reducible refine below_iterAt ?_ ?_ _ _) | (with_reducible refine below_iter ?_ ?_ _ _) | (with_reducible refine Below.alloc ?_ ?_ _) | (with_reducible refine Below.setCell ?_ ?_ _) | (with_reducible refine Below.trans ?_ (Below.mono (by assumption) ?_)) | (simp only [sz_alloc, sz_set, sz_drew, sz_drewN, sz_iterAt, sz_iter] at *; omega) | omega | (simp; done) | (simp; omega) | (apply Below.size; assumption) | (simp only [sz_drew, sz_drewN]; apply Below.size; assumption) | (refine Nat.le_trans ?_ (Below.size (by assumption)))))⟩
                · skip
                  have HV : R = false := by rw [HB.out]; first | done | (simp [*]; done) | (simp only [*]; rfl)
                  clear HB
                  go_wp2_with fail
                  all_goals go_ret
                  all_goals exact ⟨ret_bool (HF'.out HV).symm, (by repeat' (first | (with_reducible exact Below.refl _ _) | (with_reducible assumption) | (with_reducible refine Below.drew ?_) | (with_reducible refine below_drewN ?_ _) | (with_reducible refine below_iterAt ?_ ?_ _ _) | (with_reducible refine below_iter ?_ ?_ _ _) | (with_reducible refine Below.alloc ?_ ?_ _) | (with_reducible refine Below.setCell ?_ ?_ _) | (with_reducible refine Below.trans ?_ (Below.mono (by assumption) ?_)) | (simp only [sz_alloc, sz_set, sz_drew, sz_drewN, sz_iterAt, sz_iter] at *; omega) | omega | (simp; done) | (simp; omega) | (apply Below.size; assumption) | (simp only [sz_drew, sz_drewN]; apply Below.size; assumption) | (refine Nat.le_trans ?_ (Below.size (by assumption)))))⟩
            · have kn1 : (x.k != 1) = true := by simp; omega
              have k1 : decide (x.k < 1) = false := by simp; omega
              have k6 : decide (6 < x.k) = false := by simp; omega
              have ke1 : (x.k == 1) = false := by simp; omega
              have ke6 : (x.k == 6) = true := by simp [hk]
              have HB : Hid (R = (rankB x.lo && x.hi.k == x.lo.k)) := by rw [← hR]; show uOneB x = _; unfold uOneB; rw [sl, sh, if_pos hk]; rfl
              rw [hRk] at HB
              clear hRk
              clear hk
              clear hR sl sh
              cases ez : (x.hi.k == x.lo.k)
              · have ezn : (x.hi.k != x.lo.k) = true := by unfold bne; rw [ez]; rfl
                have HV : R = false := by rw [HB.out]; first | done | (simp [*]; done) | (simp only [*]; rfl)
                clear HB
                go_wp2_with fail
                all_goals go_ret
                all_goals exact ⟨ret_bool (HF'.out HV).symm, (by repeat' (first | (with_reducible exact Below.refl _ _) | (with_reducible assumption) | (with_reducible refine Below.drew ?_) | (with_reducible refine below_drewN ?_ _) | (with_reducible refine below_iterAt ?_ ?_ _ _) | (with_reducible refine below_iter ?_ ?_ _ _) | (with_reducible refine Below.alloc ?_ ?_ _) | (with_reducible refine Below.setCell ?_ ?_ _) | (with_reducible refine Below.trans ?_ (Below.mono (by assumption) ?_)) | (simp only [sz_alloc, sz_set, sz_drew, sz_drewN, sz_iterAt, sz_iter] at *; omega) | omega | (simp; done) | (simp; omega) | (apply Below.size; assumption) | (simp only [sz_drew, sz_drewN]; apply Below.size; assumption) | (refine Nat.le_trans ?_ (Below.size (by assumption)))))⟩
              · have ezn : (x.hi.k != x.lo.k) = false := by unfold bne; rw [ez]; rfl
                have HV : R = true := by rw [HB.out]; first | done | (simp [*]; done) | (simp only [*]; rfl)
                clear HB
                go_wp2_with fail
                go_roundg (gk - 1)
                case measure => omega
                case rel => exact ⟨j + 1, by omega, by omega, by go_num, HT'.out HV, (by repeat' (first | (with_reducible exact Below.refl _ _) | (with_reducible assumption) | (with_reducible refine Below.drew ?_) | (with_reducible refine below_drewN ?_ _) | (with_reducible refine below_iterAt ?_ ?_ _ _) | (with_reducible refine below_iter ?_ ?_ _ _) | (with_reducible refine Below.alloc ?_ ?_ _) | (with_reducible refine Below.setCell ?_ ?_ _) | (with_reducible refine Below.trans ?_ (Below.mono (by assumption) ?_)) | (simp only [sz_alloc, sz_set, sz_drew, sz_drewN, sz_iterAt, sz_iter] at *; omega) | omega | (simp; done) | (simp; omega) | (apply Below.size; assumption) | (simp only [sz_drew, sz_drewN]; apply Below.size; assumption) | (refine Nat.le_trans ?_ (Below.size (by assumption)))))⟩
            · have kn1 : (x.k != 1) = true := by simp; omega
              have k1 : decide (x.k < 1) = false := by simp; omega
              have k6 : decide (6 < x.k) = false := by simp; omega
              have ke1 : (x.k == 1) = false := by simp; omega
              have ke6 : (x.k == 6) = false := by simp; omega
              have HB : Hid (R = (decide (1 ≤ x.k ∧ x.k < 6) && (rankB x.lo || x.k == 1) && eqB x.hi Vl.zero && !x.ol && !x.oh)) := by rw [← hR]; show uOneB x = _; unfold uOneB; rw [sl, sh, if_neg (by omega)]; rfl
              rw [hRk, ke1, decide_eq_true (show 1 ≤ x.k ∧ x.k < 6 by omega)] at HB
              clear hRk
              simp only [Bool.or_false, Bool.true_and, Bool.false_and] at HB
              clear hk
              clear hR sl sh
              cases ez : eqB x.hi Vl.zero
              · skip
                have HV : R = false := by rw [HB.out]; first | done | (simp [*]; done) | (simp only [*]; rfl)
                clear HB
                go_wp2_with fail
                all_goals go_ret
                all_goals exact ⟨ret_bool (HF'.out HV).symm, (by repeat' (first | (with_reducible exact Below.refl _ _) | (with_reducible assumption) | (with_reducible refine Below.drew ?_) | (with_reducible refine below_drewN ?_ _) | (with_reducible refine below_iterAt ?_ ?_ _ _) | (with_reducible refine below_iter ?_ ?_ _ _) | (with_reducible refine Below.alloc ?_ ?_ _) | (with_reducible refine Below.setCell ?_ ?_ _) | (with_reducible refine Below.trans ?_ (Below.mono (by assumption) ?_)) | (simp only [sz_alloc, sz_set, sz_drew, sz_drewN, sz_iterAt, sz_iter] at *; omega) | omega | (simp; done) | (simp; omega) | (apply Below.size; assumption) | (simp only [sz_drew, sz_drewN]; apply Below.size; assumption) | (refine Nat.le_trans ?_ (Below.size (by assumption)))))⟩
              · cases eo : x.ol
                · cases ep : x.oh
                  · skip
                    have HV : R = true := by rw [HB.out]; first | done | (simp [*]; done) | (simp only [*]; rfl)
                    clear HB
                    go_wp2_with fail
                    go_roundg (gk - 1)
                    case measure => omega
                    case rel => exact ⟨j + 1, by omega, by omega, by go_num, HT'.out HV, (by repeat' (first | (with_reducible exact Below.refl _ _) | (with_reducible assumption) | (with_reducible refine Below.drew ?_) | (with_reducible refine below_drewN ?_ _) | (with_reducible refine below_iterAt ?_ ?_ _ _) | (with_reducible refine below_iter ?_ ?_ _ _) | (with_reducible refine Below.alloc ?_ ?_ _) | (with_reducible refine Below.setCell ?_ ?_ _) | (with_reducible refine Below.trans ?_ (Below.mono (by assumption) ?_)) | (simp only [sz_alloc, sz_set, sz_drew, sz_drewN, sz_iterAt, sz_iter] at *; omega) | omega | (simp; done) | (simp; omega) | (apply Below.size; assumption) | (simp only [sz_drew, sz_drewN]; apply Below.size; assumption) | (refine Nat.le_trans ?_ (Below.size (by assumption)))))⟩
                  · skip
                    have HV : R = false := by rw [HB.out]; first | done | (simp [*]; done) | (simp only [*]; rfl)
                    clear HB
                    go_wp2_with fail
                    all_goals go_ret
                    all_goals exact ⟨ret_bool (HF'.out HV).symm, (by repeat' (first | (with_reducible exact Below.refl _ _) | (with_reducible assumption) | (with_reducible refine Below.drew ?_) | (with_reducible refine below_drewN ?_ _) | (with_reducible refine below_iterAt ?_ ?_ _ _) | (with_reducible refine below_iter ?_ ?_ _ _) | (with_reducible refine Below.alloc ?_ ?_ _) | (with_reducible refine Below.setCell ?_ ?_ _) | (with_reducible refine Below.trans ?_ (Below.mono (by assumption) ?_)) | (simp only [sz_alloc, sz_set, sz_drew, sz_drewN, sz_iterAt, sz_iter] at *; omega) | omega | (simp; done) | (simp; omega) | (apply Below.size; assumption) | (simp only [sz_drew, sz_drewN]; apply Below.size; assumption) | (refine Nat.le_trans ?_ (Below.size (by assumption)))))⟩
                · skip
                  have HV : R = false := by rw [HB.out]; first | done | (simp [*]; done) | (simp only [*]; rfl)
                  clear HB
                  go_wp2_with fail
                  all_goals go_ret
                  all_goals exact ⟨ret_bool (HF'.out HV).symm, (by repeat' (first | (with_reducible exact Below.refl _ _) | (with_reducible assumption) | (with_reducible refine Below.drew ?_) | (with_reducible refine below_drewN ?_ _) | (with_reducible refine below_iterAt ?_ ?_ _ _) | (with_reducible refine below_iter ?_ ?_ _ _) | (with_reducible refine Below.alloc ?_ ?_ _) | (with_reducible refine Below.setCell ?_ ?_ _) | (with_reducible refine Below.trans ?_ (Below.mono (by assumption) ?_)) | (simp only [sz_alloc, sz_set, sz_drew, sz_drewN, sz_iterAt, sz_iter] at *; omega) | omega | (simp; done) | (simp; omega) | (apply Below.size; assumption) | (simp only [sz_drew, sz_drewN]; apply Below.size; assumption) | (refine Nat.le_trans ?_ (Below.size (by assumption)))))⟩
      · have HRK := Lib.hid hRk
        clear hRk
        have HRR := Lib.hid hR
        clear hR
        go_wp2_with fail
        refine (rSound_any x.lo _ hl).mono ?_
        rintro e w1 ⟨rfl, hb1⟩
        obtain ⟨SL, sl⟩ : ∃ SL, sndB x.lo = SL := ⟨_, rfl⟩
        rw [sl]
        cases SL
        · have hR := HRR.out
          have HB : Hid (R = false) := by rw [← hR]; show uOneB x = _; unfold uOneB; rw [sl]; rfl
          clear hR hq sl
          go_wp2_with fail
          all_goals go_ret
          all_goals exact ⟨ret_bool (HF'.out HB.out).symm, (by repeat' (first | (with_reducible exact Below.refl _ _) | (with_reducible assumption) | (with_reducible refine Below.drew ?_) | (with_reducible refine below_drewN ?_ _) | (with_reducible refine below_iterAt ?_ ?_ _ _) | (with_reducible refine below_iter ?_ ?_ _ _) | (with_reducible refine Below.alloc ?_ ?_ _) | (with_reducible refine Below.setCell ?_ ?_ _) | (with_reducible refine Below.trans ?_ (Below.mono (by assumption) ?_)) | (simp only [sz_alloc, sz_set, sz_drew, sz_drewN, sz_iterAt, sz_iter] at *; omega) | omega | (simp; done) | (simp; omega) | (apply Below.size; assumption) | (simp only [sz_drew, sz_drewN]; apply Below.size; assumption) | (refine Nat.le_trans ?_ (Below.size (by assumption)))))⟩
        · have HSL := Lib.hid sl
          clear sl
          obtain ⟨hc1, hf1⟩ := bcell hb1
          have hz1 := hb1.size
          try simp at hz1
          have q1_0 := fun o => hc1 (wr.heap.size) o (by first | omega | (simp only [sz_alloc, sz_set, sz_drew, sz_drewN, sz_iterAt, sz_iter] at *; omega) | (simp; done) | (simp; omega) | (simp at *; omega))
          have l1_0 : wr.heap.size < w1.heap.size := by omega
          have r1_0 := fun o => hf1 (wr.heap.size) o (by first | omega | (simp only [sz_alloc, sz_set, sz_drew, sz_drewN, sz_iterAt, sz_iter] at *; omega) | (simp; done) | (simp; omega) | (simp at *; omega))
          clear hc1 hf1
          go_wp2_with fail
          refine (rSound_any x.hi _ hh).mono ?_
          rintro e w2 ⟨rfl, hb2⟩
          obtain ⟨SH, sh⟩ : ∃ SH, sndB x.hi = SH := ⟨_, rfl⟩
          rw [sh]
          have hR := HRR.out
          have hRk := HRK.out
          have sl := HSL.out
          clear HRR HRK HSL
          cases SH
          · have HB : Hid (R = false) := by rw [← hR]; show uOneB x = _; unfold uOneB; rw [sl, sh]; rfl
            clear hR hRk hq sl sh
            go_wp2_with fail
            all_goals go_ret
            all_goals exact ⟨ret_bool (HF'.out HB.out).symm, (by repeat' (first | (with_reducible exact Below.refl _ _) | (with_reducible assumption) | (with_reducible refine Below.drew ?_) | (with_reducible refine below_drewN ?_ _) | (with_reducible refine below_iterAt ?_ ?_ _ _) | (with_reducible refine below_iter ?_ ?_ _ _) | (with_reducible refine Below.alloc ?_ ?_ _) | (with_reducible refine Below.setCell ?_ ?_ _) | (with_reducible refine Below.trans ?_ (Below.mono (by assumption) ?_)) | (simp only [sz_alloc, sz_set, sz_drew, sz_drewN, sz_iterAt, sz_iter] at *; omega) | omega | (simp; done) | (simp; omega) | (apply Below.size; assumption) | (simp only [sz_drew, sz_drewN]; apply Below.size; assumption) | (refine Nat.le_trans ?_ (Below.size (by assumption)))))⟩
          · skip
            obtain ⟨hc2, hf2⟩ := bcell hb2
            have hz2 := hb2.size
            try simp at hz2
            have q2_0 := fun o => hc2 (wr.heap.size) o (by first | omega | (simp only [sz_alloc, sz_set, sz_drew, sz_drewN, sz_iterAt, sz_iter] at *; omega) | (simp; done) | (simp; omega) | (simp at *; omega))
            have l2_0 : wr.heap.size < w2.heap.size := by omega
            have r2_0 := fun o => hf2 (wr.heap.size) o (by first | omega | (simp only [sz_alloc, sz_set, sz_drew, sz_drewN, sz_iterAt, sz_iter] at *; omega) | (simp; done) | (simp; omega) | (simp at *; omega))
            clear hc2 hf2
            rcases (show x.k < 1 ∨ 6 < x.k ∨ x.k = 1 ∨ x.k = 6 ∨ (1 < x.k ∧ x.k < 6) by omega) with hk | hk | hk | hk | hk
            · have k1 : decide (x.k < 1) = true := by simp; omega
              have HB : Hid (R = false) := by rw [← hR]; show uOneB x = _; unfold uOneB; rw [sl, sh, if_neg (by omega), decide_eq_false (by omega)]; rfl
              clear hR hRk sl sh
              clear hk
              have HV : R = false := by rw [HB.out]; first | done | (simp [*]; done) | (simp only [*]; rfl)
              clear HB
              go_wp2_with fail
              all_goals go_ret
              all_goals exact ⟨ret_bool (HF'.out HV).symm, (by repeat' (first | (with_reducible exact Below.refl _ _) | (with_reducible assumption) | (with_reducible refine Below.drew ?_) | (with_reducible refine below_drewN ?_ _) | (with_reducible refine below_iterAt ?_ ?_ _ _) | (with_reducible refine below_iter ?_ ?_ _ _) | (with_reducible refine Below.alloc ?_ ?_ _) | (with_reducible refine Below.setCell ?_ ?_ _) | (with_reducible refine Below.trans ?_ (Below.mono (by assumption) ?_)) | (simp only [sz_alloc, sz_set, sz_drew, sz_drewN, sz_iterAt, sz_iter] at *; omega) | omega | (simp; done) | (simp; omega) | (apply Below.size; assumption) | (simp only [sz_drew, sz_drewN]; apply Below.size; assumption) | (refine Nat.le_trans ?_ (Below.size (by assumption)))))⟩
            · have k1 : decide (x.k < 1) = false := by simp; omega
              have k6 : decide (6 < x.k) = true := by simp; omega
              have HB : Hid (R = false) := by rw [← hR]; show uOneB x = _; unfold uOneB; rw [sl, sh, if_neg (by omega), decide_eq_false (by omega)]; rfl
              clear hR hRk sl sh
              clear hk
              have HV : R = false := by rw [HB.out]; first | done | (simp [*]; done) | (simp only [*]; rfl)
              clear HB
              go_wp2_with fail
              all_goals go_ret
              all_goals exact ⟨ret_bool (HF'.out HV).symm, (by repeat' (first | (with_reducible exact Below.refl _ _) | (with_reducible assumption) | (with_reducible refine Below.drew ?_) | (with_reducible refine below_drewN ?_ _) | (with_reducible refine below_iterAt ?_ ?_ _ _) | (with_reducible refine below_iter ?_ ?_ _ _) | (with_reducible refine Below.alloc ?_ ?_ _) | (with_reducible refine Below.setCell ?_ ?_ _) | (with_reducible refine Below.trans ?_ (Below.mono (by assumption) ?_)) | (simp only [sz_alloc, sz_set, sz_drew, sz_drewN, sz_iterAt, sz_iter] at *; omega) | omega | (simp; done) | (simp; omega) | (apply Below.size; assumption) | (simp only [sz_drew, sz_drewN]; apply Below.size; assumption) | (refine Nat.le_trans ?_ (Below.size (by assumption)))))⟩
            · have kn1 : (x.k != 1) = false := by simp [hk]
              have k1 : decide (x.k < 1) = false := by simp; omega
              have k6 : decide (6 < x.k) = false := by simp; omega
              have ke1 : (x.k == 1) = true := by simp [hk]
              have ke6 : (x.k == 6) = false := by simp; omega
              have HB : Hid (R = (decide (1 ≤ x.k ∧ x.k < 6) && (rankB x.lo || x.k == 1) && eqB x.hi Vl.zero && !x.ol && !x.oh)) := by rw [← hR]; show uOneB x = _; unfold uOneB; rw [sl, sh, if_neg (by omega)]; rfl
              rw [ke1, decide_eq_true (show 1 ≤ x.k ∧ x.k < 6 by omega), Bool.or_true] at HB
              clear hRk
              simp only [Bool.true_and] at HB
              clear hk
              clear hR sl sh
              cases ez : eqB x.hi Vl.zero
              · skip
                have HV : R = false := by rw [HB.out]; first | done | (simp [*]; done) | (simp only [*]; rfl)
                clear HB
                go_wp2_with fail
                all_goals go_ret
                all_goals exact ⟨ret_bool (HF'.out HV).symm, (by repeat' (first | (with_reducible exact Below.refl _ _) | (with_reducible assumption) | (with_reducible refine Below.drew ?_) | (with_reducible refine below_drewN ?_ _) | (with_reducible refine below_iterAt ?_ ?_ _ _) | (with_reducible refine below_iter ?_ ?_ _ _) | (with_reducible refine Below.alloc ?_ ?_ _) | (with_reducible refine Below.setCell ?_ ?_ _) | (with_reducible refine Below.trans ?_ (Below.mono (by assumption) ?_)) | (simp only [sz_alloc, sz_set, sz_drew, sz_drewN, sz_iterAt, sz_iter] at *; omega) | omega | (simp; done) | (simp; omega) | (apply Below.size; assumption) | (simp only [sz_drew, sz_drewN]; apply Below.size; assumption) | (refine Nat.le_trans ?_ (Below.size (by assumption)))))⟩
              · cases eo : x.ol
                · cases ep : x.oh
                  · skip
                    have HV : R = true := by rw [HB.out]; first | done | (simp [*]; done) | (simp only [*]; rfl)
                    clear HB
                    go_wp2_with fail
                    go_roundg (gk - 1)
                    case measure => omega
                    case rel => exact ⟨j + 1, by omega, by omega, by go_num, HT'.out HV, (by repeat' (first | (with_reducible exact Below.refl _ _) | (with_reducible assumption) | (with_reducible refine Below.drew ?_) | (with_reducible refine below_drewN ?_ _) | (with_reducible refine below_iterAt ?_ ?_ _ _) | (with_reducible refine below_iter ?_ ?_ _ _) | (with_reducible refine Below.alloc ?_ ?_ _) | (with_reducible refine Below.setCell ?_ ?_ _) | (with_reducible refine Below.trans ?_ (Below.mono (by assumption) ?_)) | (simp only [sz_alloc, sz_set, sz_drew, sz_drewN, sz_iterAt, sz_iter] at *; omega) | omega | (simp; done) | (simp; omega) | (apply Below.size; assumption) | (simp only [sz_drew, sz_drewN]; apply Below.size; assumption) | (refine Nat.le_trans ?_ (Below.size (by assumption)))))⟩
                  · skip
                    have HV : R = false := by rw [HB.out]; first | done | (simp [*]; done) | (simp only [*]; rfl)
                    clear HB
                    go_wp2_with fail
                    all_goals go_ret
                    all_goals exact ⟨ret_bool (HF'.out HV).symm, (by repeat' (first | (with_reducible exact Below.refl _ _) | (with_reducible assumption) | (with_reducible refine Below.drew ?_) | (with_reducible refine below_drewN ?_ _) | (with_reducible refine below_iterAt ?_ ?_ _ _) | (with_reducible refine below_iter ?_ ?_ _ _) | (with_reducible refine Below.alloc ?_ ?_ _) | (with_reducible refine Below.setCell ?_ ?_ _) | (with_reducible refine Below.trans ?_ (Below.mono (by assumption) ?_)) | (simp only [sz_alloc, sz_set, sz_drew, sz_drewN, sz_iterAt, sz_iter] at *; omega) | omega | (simp; done) | (simp; omega) | (apply Below.size; assumption) | (simp only [sz_drew, sz_drewN]; apply Below.size; assumption) | (refine Nat.le_trans ?_ (Below.size (by assumption)))))⟩
                · skip
                  have HV : R = false := by rw [HB.out]; first | done | (simp [*]; done) | (simp only [*]; rfl)
                  clear HB
                  go_wp2_with fail
                  all_goals go_ret
                  all_goals exact ⟨ret_bool (HF'.out HV).symm, (by repeat' (first | (with_reducible exact Below.refl _ _) | (with_reducible assumption) | (with_reducible refine Below.drew ?_) | (with_reducible refine below_drewN ?_ _) | (with_reducible refine below_iterAt ?_ ?_ _ _) | (with_reducible refine below_iter ?_ ?_ _ _) | (with_reducible refine Below.alloc ?_ ?_ _) | (with_reducible refine Below.setCell ?_ ?_ _) | (with_reducible refine Below.trans ?_ (Below.mono (by assumption) ?_)) | (simp only [sz_alloc, sz_set, sz_drew, sz_drewN, sz_iterAt, sz_iter] at *; omega) | omega | (simp; done) | (simp; omega) | (apply Below.size; assumption) | (simp only [sz_drew, sz_drewN]; apply Below.size; assumption) | (refine Nat.le_trans ?_ (Below.size (by assumption)))))⟩
            · have kn1 : (x.k != 1) = true := by simp; omega
              have k1 : decide (x.k < 1) = false := by simp; omega
              have k6 : decide (6 < x.k) = false := by simp; omega
              have ke1 : (x.k == 1) = false := by simp; omega
              have ke6 : (x.k == 6) = true := by simp [hk]
              have HB : Hid (R = (rankB x.lo && x.hi.k == x.lo.k)) := by rw [← hR]; show uOneB x = _; unfold uOneB; rw [sl, sh, if_pos hk]; rfl
              rw [hRk] at HB
              clear hRk
              clear hk
              clear hR sl sh
              have HV : R = false := by rw [HB.out]; first | done | (simp [*]; done) | (simp only [*]; rfl)
              clear HB
              go_wp2_with fail
              all_goals go_ret
              all_goals exact ⟨ret_bool (HF'.out HV).symm, (by repeat' (first | (with_reducible exact Below.refl _ _) | (with_reducible assumption) | (with_reducible refine Below.drew ?_) | (with_reducible refine below_drewN ?_ _) | (with_reducible refine below_iterAt ?_ ?_ _ _) | (with_reducible refine below_iter ?_ ?_ _ _) | (with_reducible refine Below.alloc ?_ ?_ _) | (with_reducible refine Below.setCell ?_ ?_ _) | (with_reducible refine Below.trans ?_ (Below.mono (by assumption) ?_)) | (simp only [sz_alloc, sz_set, sz_drew, sz_drewN, sz_iterAt, sz_iter] at *; omega) | omega | (simp; done) | (simp; omega) | (apply Below.size; assumption) | (simp only [sz_drew, sz_drewN]; apply Below.size; assumption) | (refine Nat.le_trans ?_ (Below.size (by assumption)))))⟩
            · have kn1 : (x.k != 1) = true := by simp; omega
              have k1 : decide (x.k < 1) = false := by simp; omega
              have k6 : decide (6 < x.k) = false := by simp; omega
              have ke1 : (x.k == 1) = false := by simp; omega
              have ke6 : (x.k == 6) = false := by simp; omega
              have HB : Hid (R = (decide (1 ≤ x.k ∧ x.k < 6) && (rankB x.lo || x.k == 1) && eqB x.hi Vl.zero && !x.ol && !x.oh)) := by rw [← hR]; show uOneB x = _; unfold uOneB; rw [sl, sh, if_neg (by omega)]; rfl
              rw [hRk, ke1, decide_eq_true (show 1 ≤ x.k ∧ x.k < 6 by omega)] at HB
              clear hRk
              simp only [Bool.or_false, Bool.true_and, Bool.false_and] at HB
              clear hk
              clear hR sl sh
              have HV : R = false := by rw [HB.out]; first | done | (simp [*]; done) | (simp only [*]; rfl)
              clear HB
              go_wp2_with fail
              all_goals go_ret
              all_goals exact ⟨ret_bool (HF'.out HV).symm, (by repeat' (first | (with_reducible exact Below.refl _ _) | (with_reducible assumption) | (with_reducible refine Below.drew ?_) | (with_reducible refine below_drewN ?_ _) | (with_reducible refine below_iterAt ?_ ?_ _ _) | (with_reducible refine below_iter ?_ ?_ _ _) | (with_reducible refine Below.alloc ?_ ?_ _) | (with_reducible refine Below.setCell ?_ ?_ _) | (with_reducible refine Below.trans ?_ (Below.mono (by assumption) ?_)) | (simp only [sz_alloc, sz_set, sz_drew, sz_drewN, sz_iterAt, sz_iter] at *; omega) | omega | (simp; done) | (simp; omega) | (apply Below.size; assumption) | (simp only [sz_drew, sz_drewN]; apply Below.size; assumption) | (refine Nat.le_trans ?_ (Below.size (by assumption)))))⟩
    · have hje : j = c.ts.length := by omega
      subst hje
      have i1 : ¬ ((c.ts.length : Int) < (c.ts.length : Int)) := by omega
      rw [List.take_length] at hno
      go_wp2_with fail
      go_ret
      exact ⟨ret_bool (by rw [HC.out, hno]; rfl), (by repeat' (first | (with_reducible exact Below.refl _ _) | (with_reducible assumption) | (with_reducible refine Below.drew ?_) | (with_reducible refine below_drewN ?_ _) | (with_reducible refine below_iterAt ?_ ?_ _ _) | (with_reducible refine below_iter ?_ ?_ _ _) | (with_reducible refine Below.alloc ?_ ?_ _) | (with_reducible refine Below.setCell ?_ ?_ _) | (with_reducible refine Below.trans ?_ (Below.mono (by assumption) ?_)) | (simp only [sz_alloc, sz_set, sz_drew, sz_drewN, sz_iterAt, sz_iter] at *; omega) | omega | (simp; done) | (simp; omega) | (apply Below.size; assumption) | (simp only [sz_drew, sz_drewN]; apply Below.size; assumption) | (refine Nat.le_trans ?_ (Below.size (by assumption)))))⟩

set_option maxHeartbeats 800000 in
theorem rUSound_any (c : Cel) (A : Option Addr) (cap : Nat) (w : World) (hr : RdL w 13 A (c.ts.map Tst.cells)) (hw : ∀ t ∈ c.ts, t.wf) (hn : c.ts.length ≤ 9223372036854775807) :
    Calls Tryd.prog 15 #[.agg #[.bool c.any, .bool c.neg, .slice A c.ts.length cap]] w fun e w' =>
      e = .returned (.bool (uSndB c)) ∧ Below w.heap.size w w' := by
  obtain ⟨B, hB⟩ : ∃ B, uSndB c = B := ⟨_, rfl⟩
  rw [hB]
  cases ca : c.any
  · have HB : Hid (B = (decide (1 ≤ c.ts.length ∧ c.ts.length ≤ 8) && !c.ts.any (fun t => !uOneB t))) := by rw [← hB]; unfold uSndB; rw [if_neg (by rw [ca]; simp)]; exact rfl
    clear hB
    by_cases h1 : 1 ≤ c.ts.length
    · by_cases h8 : c.ts.length ≤ 8
      · have := rUSound_loop c A cap w hr hw ca h1 h8 B (by show B = _; rw [HB.out]; simp [h1, h8])
        rw [ca] at this
        exact this
      · have HC : Hid (B = false) := by show B = _; rw [HB.out]; simp [h8]
        clear HB
        have e1 : decide ((c.ts.length : Int) < 1) = false := by simp; omega
        have e8 : decide ((8 : Int) < (c.ts.length : Int)) = true := by simp; omega
        go_enter Tryd.func15, Tryd.ntmps15
        go_wp2_with fail
        all_goals go_ret
        all_goals exact ⟨ret_bool (by first | (rw [HC.out]; done) | (rw [HC.out]; simp [*]; done) | (rw [HC.out]; simp; omega) | (rw [HC.out]; simp [*]; omega) | (rw [HC.out]; simp only [List.isEmpty_iff, List.isEmpty_eq_false_iff] at *; simp [*]; done) | (rw [HC.out]; simp only [List.isEmpty_iff, List.isEmpty_eq_false_iff] at *; simp [*]; omega) | (rw [HC.out, Bool.eq_iff_iff]; simp only [List.isEmpty_iff, List.isEmpty_eq_false_iff] at *; simp [*]; done) | (exfalso; omega)), (by repeat' (first | (with_reducible exact Below.refl _ _) | (with_reducible assumption) | (with_reducible refine Below.drew ?_) | (with_reducible refine below_drewN ?_ _) | (with_reducible refine below_iterAt ?_ ?_ _ _) | (with_reducible refine below_iter ?_ ?_ _ _) | (with_reducible refine Below.alloc ?_ ?_ _) | (with_reducible refine Below.setCell ?_ ?_ _) | (with_reducible refine Below.trans ?_ (Below.mono (by assumption) ?_)) | (simp only [sz_alloc, sz_set, sz_drew, sz_drewN, sz_iterAt, sz_iter] at *; omega) | omega | (simp; done) | (simp; omega) | (apply Below.size; assumption) | (simp only [sz_drew, sz_drewN]; apply Below.size; assumption) | (refine Nat.le_trans ?_ (Below.size (by assumption)))))⟩
    · have HC : Hid (B = false) := by show B = _; rw [HB.out]; simp [h1]
      clear HB
      have e1 : decide ((c.ts.length : Int) < 1) = true := by simp; omega
      go_enter Tryd.func15, Tryd.ntmps15
      go_wp2_with fail
      all_goals go_ret
      all_goals exact ⟨ret_bool (by first | (rw [HC.out]; done) | (rw [HC.out]; simp [*]; done) | (rw [HC.out]; simp; omega) | (rw [HC.out]; simp [*]; omega) | (rw [HC.out]; simp only [List.isEmpty_iff, List.isEmpty_eq_false_iff] at *; simp [*]; done) | (rw [HC.out]; simp only [List.isEmpty_iff, List.isEmpty_eq_false_iff] at *; simp [*]; omega) | (rw [HC.out, Bool.eq_iff_iff]; simp only [List.isEmpty_iff, List.isEmpty_eq_false_iff] at *; simp [*]; done) | (exfalso; omega)), (by repeat' (first | (with_reducible exact Below.refl _ _) | (with_reducible assumption) | (with_reducible refine Below.drew ?_) | (with_reducible refine below_drewN ?_ _) | (with_reducible refine below_iterAt ?_ ?_ _ _) | (with_reducible refine below_iter ?_ ?_ _ _) | (with_reducible refine Below.alloc ?_ ?_ _) | (with_reducible refine Below.setCell ?_ ?_ _) | (with_reducible refine Below.trans ?_ (Below.mono (by assumption) ?_)) | (simp only [sz_alloc, sz_set, sz_drew, sz_drewN, sz_iterAt, sz_iter] at *; omega) | omega | (simp; done) | (simp; omega) | (apply Below.size; assumption) | (simp only [sz_drew, sz_drewN]; apply Below.size; assumption) | (refine Nat.le_trans ?_ (Below.size (by assumption)))))⟩
  · have HB : Hid (B = (!c.neg && decide (c.ts.length = 0))) := by rw [← hB]; unfold uSndB; rw [if_pos ca]; exact rfl
    clear hB
    by_cases h0 : c.ts.length = 0
    · have e0 : ((c.ts.length : Int) == 0) = true := by rw [h0]; rfl
      have HC : Hid (B = !c.neg) := by show B = _; rw [HB.out]; simp [h0]
      clear HB
      cases cn : c.neg
      all_goals
        rw [cn] at HC
        go_enter Tryd.func15, Tryd.ntmps15
        go_wp2_with fail
        all_goals go_ret
        all_goals exact ⟨ret_bool (by first | (rw [HC.out]; done) | (rw [HC.out]; simp [*]; done) | (rw [HC.out]; simp; omega) | (rw [HC.out]; simp [*]; omega) | (rw [HC.out]; simp only [List.isEmpty_iff, List.isEmpty_eq_false_iff] at *; simp [*]; done) | (rw [HC.out]; simp only [List.isEmpty_iff, List.isEmpty_eq_false_iff] at *; simp [*]; omega) | (rw [HC.out, Bool.eq_iff_iff]; simp only [List.isEmpty_iff, List.isEmpty_eq_false_iff] at *; simp [*]; done) | (exfalso; omega)), (by repeat' (first | (with_reducible exact Below.refl _ _) | (with_reducible assumption) | (with_reducible refine Below.drew ?_) | (with_reducible refine below_drewN ?_ _) | (with_reducible refine below_iterAt ?_ ?_ _ _) | (with_reducible refine below_iter ?_ ?_ _ _) | (with_reducible refine Below.alloc ?_ ?_ _) | (with_reducible refine Below.setCell ?_ ?_ _) | (with_reducible refine Below.trans ?_ (Below.mono (by assumption) ?_)) | (simp only [sz_alloc, sz_set, sz_drew, sz_drewN, sz_iterAt, sz_iter] at *; omega) | omega | (simp; done) | (simp; omega) | (apply Below.size; assumption) | (simp only [sz_drew, sz_drewN]; apply Below.size; assumption) | (refine Nat.le_trans ?_ (Below.size (by assumption)))))⟩
    · have e0 : ((c.ts.length : Int) == 0) = false := by rw [beq_eq_false_iff_ne]; omega
      have HC : Hid (B = false) := by show B = _; rw [HB.out]; simp [h0]
      clear HB
      cases cn : c.neg
      all_goals
        go_enter Tryd.func15, Tryd.ntmps15
        go_wp2_with fail
        all_goals go_ret
        all_goals exact ⟨ret_bool (by first | (rw [HC.out]; done) | (rw [HC.out]; simp [*]; done) | (rw [HC.out]; simp; omega) | (rw [HC.out]; simp [*]; omega) | (rw [HC.out]; simp only [List.isEmpty_iff, List.isEmpty_eq_false_iff] at *; simp [*]; done) | (rw [HC.out]; simp only [List.isEmpty_iff, List.isEmpty_eq_false_iff] at *; simp [*]; omega) | (rw [HC.out, Bool.eq_iff_iff]; simp only [List.isEmpty_iff, List.isEmpty_eq_false_iff] at *; simp [*]; done) | (exfalso; omega)), (by repeat' (first | (with_reducible exact Below.refl _ _) | (with_reducible assumption) | (with_reducible refine Below.drew ?_) | (with_reducible refine below_drewN ?_ _) | (with_reducible refine below_iterAt ?_ ?_ _ _) | (with_reducible refine below_iter ?_ ?_ _ _) | (with_reducible refine Below.alloc ?_ ?_ _) | (with_reducible refine Below.setCell ?_ ?_ _) | (with_reducible refine Below.trans ?_ (Below.mono (by assumption) ?_)) | (simp only [sz_alloc, sz_set, sz_drew, sz_drewN, sz_iterAt, sz_iter] at *; omega) | omega | (simp; done) | (simp; omega) | (apply Below.size; assumption) | (simp only [sz_drew, sz_drewN]; apply Below.size; assumption) | (refine Nat.le_trans ?_ (Below.size (by assumption)))))⟩

set_option maxHeartbeats 800000 in
theorem may_any (c : Cel) (v : Vl) (A : Option Addr) (cap : Nat) (w : World) (hr : RdL w 13 A (c.ts.map Tst.cells)) (hw : ∀ t ∈ c.ts, t.wf) (hv : v.wf) (hn : c.ts.length ≤ 9223372036854775807) :
    Calls Tryd.prog 9 #[.agg #[.bool c.any, .bool c.neg, .slice A c.ts.length cap], .agg #[.int .i64 v.k, .int .i64 v.n, .int .i64 v.s, .string v.t, .int .i64 v.i]] w fun e w' =>
      e = .returned (.bool (uSndB c && sndB v)) ∧ Below w.heap.size w w' := by
  obtain ⟨B, hB⟩ : ∃ B, (uSndB c && sndB v) = B := ⟨_, rfl⟩
  rw [hB]
  cases su : uSndB c <;> cases sv : sndB v
  all_goals
    rw [su, sv] at hB
    have HB := Lib.hid hB.symm
    clear hB
    go_enter Tryd.func9, Tryd.ntmps9
    go_wp2_with fail
    refine (rUSound_any c A cap _ (hr.below (by repeat' (first | (with_reducible exact Below.refl _ _) | (with_reducible assumption) | (with_reducible refine Below.drew ?_) | (with_reducible refine below_drewN ?_ _) | (with_reducible refine below_iterAt ?_ ?_ _ _) | (with_reducible refine below_iter ?_ ?_ _ _) | (with_reducible refine Below.alloc ?_ ?_ _) | (with_reducible refine Below.setCell ?_ ?_ _) | (with_reducible refine Below.trans ?_ (Below.mono (by assumption) ?_)) | (simp only [sz_alloc, sz_set, sz_drew, sz_drewN, sz_iterAt, sz_iter] at *; omega) | omega | (simp; done) | (simp; omega) | (apply Below.size; assumption) | (simp only [sz_drew, sz_drewN]; apply Below.size; assumption) | (refine Nat.le_trans ?_ (Below.size (by assumption)))))) hw hn).mono ?_
    rintro e w1 ⟨rfl, hb1⟩
    rw [su]
    clear su
    obtain ⟨hc1, hf1⟩ := bcell hb1
    have hz1 := hb1.size
    try simp at hz1
    have q1_0 := fun o => hc1 (w.heap.size) o (by first | omega | (simp only [sz_alloc, sz_set, sz_drew, sz_drewN, sz_iterAt, sz_iter] at *; omega) | (simp; done) | (simp; omega) | (simp at *; omega))
    have l1_0 : w.heap.size < w1.heap.size := by omega
    have r1_0 := fun o => hf1 (w.heap.size) o (by first | omega | (simp only [sz_alloc, sz_set, sz_drew, sz_drewN, sz_iterAt, sz_iter] at *; omega) | (simp; done) | (simp; omega) | (simp at *; omega))
    have q1_1 := fun o => hc1 (w.heap.size + 1) o (by first | omega | (simp only [sz_alloc, sz_set, sz_drew, sz_drewN, sz_iterAt, sz_iter] at *; omega) | (simp; done) | (simp; omega) | (simp at *; omega))
    have l1_1 : w.heap.size + 1 < w1.heap.size := by omega
    have r1_1 := fun o => hf1 (w.heap.size + 1) o (by first | omega | (simp only [sz_alloc, sz_set, sz_drew, sz_drewN, sz_iterAt, sz_iter] at *; omega) | (simp; done) | (simp; omega) | (simp at *; omega))
    clear hc1 hf1
    go_wp2_with fail
    all_goals try (refine (rSound_any v _ hv).mono ?_; rintro e w2 ⟨rfl, hb2⟩; rw [sv]; clear sv; go_wp2_with fail)
    all_goals go_ret
    all_goals exact ⟨ret_bool (by first | (rw [HB.out]; done) | (rw [HB.out]; simp [*]; done) | (rw [HB.out]; simp; omega) | (rw [HB.out]; simp [*]; omega) | (rw [HB.out]; simp only [List.isEmpty_iff, List.isEmpty_eq_false_iff] at *; simp [*]; done) | (rw [HB.out]; simp only [List.isEmpty_iff, List.isEmpty_eq_false_iff] at *; simp [*]; omega) | (rw [HB.out, Bool.eq_iff_iff]; simp only [List.isEmpty_iff, List.isEmpty_eq_false_iff] at *; simp [*]; done) | (exfalso; omega)), (by repeat' (first | (with_reducible exact Below.refl _ _) | (with_reducible assumption) | (with_reducible refine Below.drew ?_) | (with_reducible refine below_drewN ?_ _) | (with_reducible refine below_iterAt ?_ ?_ _ _) | (with_reducible refine below_iter ?_ ?_ _ _) | (with_reducible refine Below.alloc ?_ ?_ _) | (with_reducible refine Below.setCell ?_ ?_ _) | (with_reducible refine Below.trans ?_ (Below.mono (by assumption) ?_)) | (simp only [sz_alloc, sz_set, sz_drew, sz_drewN, sz_iterAt, sz_iter] at *; omega) | omega | (simp; done) | (simp; omega) | (apply Below.size; assumption) | (simp only [sz_drew, sz_drewN]; apply Below.size; assumption) | (refine Nat.le_trans ?_ (Below.size (by assumption)))))⟩
end Go.Proofs.YtogegempbjpdiaaDoor
