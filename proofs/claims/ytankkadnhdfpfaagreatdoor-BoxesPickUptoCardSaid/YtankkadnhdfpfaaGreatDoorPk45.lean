import Derived.Test.YtankkadnhdfpfaaGreatDoorPk12
/- soffitref09.Sound and soffitref12.May, walked. -/
set_option linter.unusedSimpArgs false
set_option linter.unusedVariables false
namespace Go.Proofs.YtankkadnhdfpfaaGreatDoor
open Go.RowKit

theorem neV_run (a b : Vl) (w : World) : (binOp .neq 30 (.agg #[.int .i64 a.k, .int .i64 a.n, .int .i64 a.s, .string a.t, .int .i64 a.i]) (.agg #[.int .i64 b.k, .int .i64 b.n, .int .i64 b.s, .string b.t, .int .i64 b.i])).run Tryz.prog w =
    .ok (.bool (!eqB a b)) w := by
  obtain ⟨k, n, s, t, i⟩ := a
  obtain ⟨k', n', s', t', i'⟩ := b
  unfold eqB
  go_simp
  repeat' split
  all_goals simp_all

theorem any_bad {ts : List Tst} {x : Tst} (hm : x ∈ ts) (hf : uOneB x = false) : ts.any (fun t => !uOneB t) = true := by
  rw [List.any_eq_true]; exact ⟨x, hm, by simp [hf]⟩

set_option maxRecDepth 100000 in
set_option maxHeartbeats 12800000 in
theorem rUSound_loop (c : Cel) (A : Option Addr) (cap : Nat) (w : World) (hr : RdL w 13 A (c.ts.map Tst.cells)) (hw : ∀ t ∈ c.ts, t.wf) (ca : c.any = false) (h1 : 1 ≤ c.ts.length) (h8 : c.ts.length ≤ 8) (B : Bool) (HC : Hid (B = !c.ts.any (fun t => !uOneB t))) :
    Calls Tryz.prog 39 #[.agg #[.bool c.any, .bool c.neg, .slice A c.ts.length cap]] w fun e w' =>
      e = .returned (.bool B) ∧ Below w.heap.size w w' := by
  rw [ca]
  have e1 : decide ((c.ts.length : Int) < 1) = false := by simp; omega
  have e8 : decide ((8 : Int) < (c.ts.length : Int)) = false := by simp; omega
  go_enter Tryz.func39, Tryz.ntmps39
  go_wp2_with fail
  generalize hEW0 : w.alloc _ = W0
  have hbW0 : Below w.heap.size w W0 := (by rw [← hEW0]; exact bel)
  have lW0_0 : w.heap.size < W0.heap.size := lsz hEW0
  have qW0_0 : ∀ o, W0.cell? ⟨w.heap.size, o, none⟩ = _ := fun o => congrArg (fun W : World => W.cell? ⟨w.heap.size, o, none⟩) hEW0.symm
  have rW0_0 : ∀ o, W0.frozen? ⟨w.heap.size, o, none⟩ = _ := fun o => congrArg (fun W : World => W.frozen? ⟨w.heap.size, o, none⟩) hEW0.symm
  clear hEW0
  have hr2 := hr.below hbW0
  clear hr e1 e8
  go_loopg [3] c.ts.length (fun k iv wr => ∃ j : Nat, j ≤ c.ts.length ∧ c.ts.length - j ≤ k ∧ iv = .int .i64 j ∧ (c.ts.take j).any (fun t => !uOneB t) = false ∧ Below W0.heap.size W0 wr)
  case atStart => exact ⟨0, by omega, by omega, rfl, rfl, Below.refl _ _⟩
  case round =>
    obtain ⟨j, hj, hjk, rfl, hno, hbel⟩ := hrel
    have hsz := hbel.size
    have qr_0 := fun o => (hbel.cell (p := ⟨w.heap.size, o, none⟩) lW0_0).trans (qW0_0 o)
    have lr_0 : w.heap.size < wr.heap.size := by omega
    by_cases hlt : j < c.ts.length
    · obtain ⟨b, off, rfl, hx⟩ := (hr2.below hbel).at_ hlt
      have hmem : c.ts[j]'hlt ∈ c.ts := List.getElem_mem hlt
      have hsuc := any_take_succ (p := fun t => !uOneB t) hlt
      generalize hX : c.ts[j]'hlt = x at *
      have hxw := hw x hmem
      have hl := hxw.lo
      have hh := hxw.hi
      have g0 : wr.cell? ⟨b, off + j * 13, none⟩ = some (.int .i64 x.k) := hx.get 0 rfl
      have g1 : wr.cell? ⟨b, off + j * 13 + 1, none⟩ = some (.int .i64 x.lo.k) := hx.get 1 rfl
      have g2 : wr.cell? ⟨b, off + j * 13 + 2, none⟩ = some (.int .i64 x.lo.n) := hx.get 2 rfl
      have g3 : wr.cell? ⟨b, off + j * 13 + 3, none⟩ = some (.int .i64 x.lo.s) := hx.get 3 rfl
      have g4 : wr.cell? ⟨b, off + j * 13 + 4, none⟩ = some (.string x.lo.t) := hx.get 4 rfl
      have g5 : wr.cell? ⟨b, off + j * 13 + 5, none⟩ = some (.int .i64 x.lo.i) := hx.get 5 rfl
      have g6 : wr.cell? ⟨b, off + j * 13 + 6, none⟩ = some (.int .i64 x.hi.k) := hx.get 6 rfl
      have g7 : wr.cell? ⟨b, off + j * 13 + 7, none⟩ = some (.int .i64 x.hi.n) := hx.get 7 rfl
      have g8 : wr.cell? ⟨b, off + j * 13 + 8, none⟩ = some (.int .i64 x.hi.s) := hx.get 8 rfl
      have g9 : wr.cell? ⟨b, off + j * 13 + 9, none⟩ = some (.string x.hi.t) := hx.get 9 rfl
      have g10 : wr.cell? ⟨b, off + j * 13 + 10, none⟩ = some (.int .i64 x.hi.i) := hx.get 10 rfl
      have g11 : wr.cell? ⟨b, off + j * 13 + 11, none⟩ = some (.bool x.ol) := hx.get 11 rfl
      have g12 : wr.cell? ⟨b, off + j * 13 + 12, none⟩ = some (.bool x.oh) := hx.get 12 rfl
      have hbl : b < wr.heap.size := cell_lt g0
      have HF : uOneB x = false → B = false := fun hf => by rw [HC.out, any_bad hmem hf]; rfl
      have HT : uOneB x = true → (c.ts.take (j + 1)).any (fun t => !uOneB t) = false := fun hf => by rw [hsuc, hno, hf]; rfl
      have HF' := Lib.hid HF
      have HT' := Lib.hid HT
      clear hx hX hmem hsuc HF HT hno hxw
      have i0 : (0 : Int) ≤ (j : Int) := by omega
      have i1 : (j : Int) < (c.ts.length : Int) := by omega
      have hq : ∀ W : World, (binOp .neq 30 (.agg #[.int .i64 x.hi.k, .int .i64 x.hi.n, .int .i64 x.hi.s, .string x.hi.t, .int .i64 x.hi.i]) (.agg #[.int .i64 0, .int .i64 0, .int .i64 0, .string ⟨#[]⟩, .int .i64 0])).run Tryz.prog W = .ok (.bool (!eqB x.hi Vl.zero)) W := fun W => neV_run x.hi Vl.zero W
      obtain ⟨R, hR⟩ : ∃ R, uOneB x = R := ⟨_, rfl⟩
      rw [hR] at HF' HT'
      have three : ((x.lo.k == 1) = true ∧ rankB x.lo = true) ∨ ((x.lo.k == 1) = false ∧ (x.lo.k == 4) = true ∧ rankB x.lo = true) ∨ ((x.lo.k == 1) = false ∧ (x.lo.k == 4) = false ∧ rankB x.lo = false) := by
        unfold rankB; cases (x.lo.k == 1) <;> cases (x.lo.k == 4) <;> simp
      rcases three with ⟨r1, hRk⟩ | ⟨r1, r4, hRk⟩ | ⟨r1, r4, hRk⟩
      · have HRK := Lib.hid hRk
        clear hRk
        have HRR := Lib.hid hR
        clear hR
        go_wp2_with fail
        refine (rSound_any x.lo _ hl).mono ?_
        rintro e w1 ⟨rfl, hb1⟩
        obtain ⟨SL, sl⟩ : ∃ SL, sndB x.lo = SL := ⟨_, rfl⟩
        rw [sl]
        cases SL
        · have hR := HRR.out
          have HB : Hid (R = false) := by rw [← hR]; show uOneB x = _; unfold uOneB; rw [sl]; rfl
          clear hR hq sl
          go_wp2_with fail
          all_goals go_ret
          all_goals exact ⟨ret_bool (HF'.out HB.out).symm, bel⟩
        · have HSL := Lib.hid sl
          clear sl
          have hz1 := hb1.size
          try simp at hz1
          obtain ⟨q1_0, l1_0, r1_0⟩ := aft hb1 (wr.heap.size)
          go_wp2_with fail
          refine (rSound_any x.hi _ hh).mono ?_
          rintro e w2 ⟨rfl, hb2⟩
          obtain ⟨SH, sh⟩ : ∃ SH, sndB x.hi = SH := ⟨_, rfl⟩
          rw [sh]
          have hR := HRR.out
          have hRk := HRK.out
          have sl := HSL.out
          clear HRR HRK HSL
          cases SH
          · have HB : Hid (R = false) := by rw [← hR]; show uOneB x = _; unfold uOneB; rw [sl, sh]; rfl
            clear hR hRk hq sl sh
            go_wp2_with fail
            all_goals go_ret
            all_goals exact ⟨ret_bool (HF'.out HB.out).symm, bel⟩
          · skip
            have hz2 := hb2.size
            try simp at hz2
            obtain ⟨q2_0, l2_0, r2_0⟩ := aft hb2 (wr.heap.size)
            rcases (show x.k < 1 ∨ 6 < x.k ∨ x.k = 1 ∨ x.k = 6 ∨ (1 < x.k ∧ x.k < 6) by omega) with hk | hk | hk | hk | hk
            · have k1 : decide (x.k < 1) = true := by simp; omega
              have HB : Hid (R = false) := by rw [← hR]; show uOneB x = _; unfold uOneB; rw [sl, sh, if_neg (by omega), decide_eq_false (by omega)]; rfl
              clear hR hRk sl sh
              clear hk
              have HV : R = false := by rw [HB.out]; first | done | (simp [*]; done) | (simp only [*]; rfl)
              clear HB
              go_wp2_with fail
              all_goals go_ret
              all_goals exact ⟨ret_bool (HF'.out HV).symm, bel⟩
            · have k1 : decide (x.k < 1) = false := by simp; omega
              have k6 : decide (6 < x.k) = true := by simp; omega
              have HB : Hid (R = false) := by rw [← hR]; show uOneB x = _; unfold uOneB; rw [sl, sh, if_neg (by omega), decide_eq_false (by omega)]; rfl
              clear hR hRk sl sh
              clear hk
              have HV : R = false := by rw [HB.out]; first | done | (simp [*]; done) | (simp only [*]; rfl)
              clear HB
              go_wp2_with fail
              all_goals go_ret
              all_goals exact ⟨ret_bool (HF'.out HV).symm, bel⟩
            · have kn1 : (x.k != 1) = false := by simp [hk]
              have k1 : decide (x.k < 1) = false := by simp; omega
              have k6 : decide (6 < x.k) = false := by simp; omega
              have ke1 : (x.k == 1) = true := by simp [hk]
              have ke6 : (x.k == 6) = false := by simp; omega
              have HB : Hid (R = (decide (1 ≤ x.k ∧ x.k < 6) && (rankB x.lo || x.k == 1) && eqB x.hi Vl.zero && !x.ol && !x.oh)) := by rw [← hR]; show uOneB x = _; unfold uOneB; rw [sl, sh, if_neg (by omega)]; rfl
              rw [ke1, decide_eq_true (show 1 ≤ x.k ∧ x.k < 6 by omega), Bool.or_true] at HB
              clear hRk
              simp only [Bool.true_and] at HB
              clear hk
              clear hR sl sh
              cases ez : eqB x.hi Vl.zero
              · skip
                have HV : R = false := by rw [HB.out]; first | done | (simp [*]; done) | (simp only [*]; rfl)
                clear HB
                go_wp2_with fail
                all_goals go_ret
                all_goals exact ⟨ret_bool (HF'.out HV).symm, bel⟩
              · cases eo : x.ol
                · cases ep : x.oh
                  · skip
                    have HV : R = true := by rw [HB.out]; first | done | (simp [*]; done) | (simp only [*]; rfl)
                    clear HB
                    go_wp2_with fail
                    go_roundg (gk - 1)
                    case measure => omega
                    case rel => exact ⟨j + 1, by omega, by omega, by go_num, HT'.out HV, bel⟩
                  · skip
                    have HV : R = false := by rw [HB.out]; first | done | (simp [*]; done) | (simp only [*]; rfl)
                    clear HB
                    go_wp2_with fail
                    all_goals go_ret
                    all_goals exact ⟨ret_bool (HF'.out HV).symm, bel⟩
                · skip
                  have HV : R = false := by rw [HB.out]; first | done | (simp [*]; done) | (simp only [*]; rfl)
                  clear HB
                  go_wp2_with fail
                  all_goals go_ret
                  all_goals exact ⟨ret_bool (HF'.out HV).symm, bel⟩
            · have kn1 : (x.k != 1) = true := by simp; omega
              have k1 : decide (x.k < 1) = false := by simp; omega
              have k6 : decide (6 < x.k) = false := by simp; omega
              have ke1 : (x.k == 1) = false := by simp; omega
              have ke6 : (x.k == 6) = true := by simp [hk]
              have HB : Hid (R = (rankB x.lo && x.hi.k == x.lo.k)) := by rw [← hR]; show uOneB x = _; unfold uOneB; rw [sl, sh, if_pos hk]; rfl
              rw [hRk] at HB
              clear hRk
              clear hk
              clear hR sl sh
              cases ez : (x.hi.k == x.lo.k)
              · have ezn : (x.hi.k != x.lo.k) = true := by unfold bne; rw [ez]; rfl
                have HV : R = false := by rw [HB.out]; first | done | (simp [*]; done) | (simp only [*]; rfl)
                clear HB
                go_wp2_with fail
                all_goals go_ret
                all_goals exact ⟨ret_bool (HF'.out HV).symm, bel⟩
              · have ezn : (x.hi.k != x.lo.k) = false := by unfold bne; rw [ez]; rfl
                have HV : R = true := by rw [HB.out]; first | done | (simp [*]; done) | (simp only [*]; rfl)
                clear HB
                go_wp2_with fail
                go_roundg (gk - 1)
                case measure => omega
                case rel => exact ⟨j + 1, by omega, by omega, by go_num, HT'.out HV, bel⟩
            · have kn1 : (x.k != 1) = true := by simp; omega
              have k1 : decide (x.k < 1) = false := by simp; omega
              have k6 : decide (6 < x.k) = false := by simp; omega
              have ke1 : (x.k == 1) = false := by simp; omega
              have ke6 : (x.k == 6) = false := by simp; omega
              have HB : Hid (R = (decide (1 ≤ x.k ∧ x.k < 6) && (rankB x.lo || x.k == 1) && eqB x.hi Vl.zero && !x.ol && !x.oh)) := by rw [← hR]; show uOneB x = _; unfold uOneB; rw [sl, sh, if_neg (by omega)]; rfl
              rw [hRk, ke1, decide_eq_true (show 1 ≤ x.k ∧ x.k < 6 by omega)] at HB
              clear hRk
              simp only [Bool.or_false, Bool.true_and, Bool.false_and] at HB
              clear hk
              clear hR sl sh
              cases ez : eqB x.hi Vl.zero
              · skip
                have HV : R = false := by rw [HB.out]; first | done | (simp [*]; done) | (simp only [*]; rfl)
                clear HB
                go_wp2_with fail
                all_goals go_ret
                all_goals exact ⟨ret_bool (HF'.out HV).symm, bel⟩
              · cases eo : x.ol
                · cases ep : x.oh
                  · skip
                    have HV : R = true := by rw [HB.out]; first | done | (simp [*]; done) | (simp only [*]; rfl)
                    clear HB
                    go_wp2_with fail
                    go_roundg (gk - 1)
                    case measure => omega
                    case rel => exact ⟨j + 1, by omega, by omega, by go_num, HT'.out HV, bel⟩
                  · skip
                    have HV : R = false := by rw [HB.out]; first | done | (simp [*]; done) | (simp only [*]; rfl)
                    clear HB
                    go_wp2_with fail
                    all_goals go_ret
                    all_goals exact ⟨ret_bool (HF'.out HV).symm, bel⟩
                · skip
                  have HV : R = false := by rw [HB.out]; first | done | (simp [*]; done) | (simp only [*]; rfl)
                  clear HB
                  go_wp2_with fail
                  all_goals go_ret
                  all_goals exact ⟨ret_bool (HF'.out HV).symm, bel⟩
      · have HRK := Lib.hid hRk
        clear hRk
        have HRR := Lib.hid hR
        clear hR
        go_wp2_with fail
        refine (rSound_any x.lo _ hl).mono ?_
        rintro e w1 ⟨rfl, hb1⟩
        obtain ⟨SL, sl⟩ : ∃ SL, sndB x.lo = SL := ⟨_, rfl⟩
        rw [sl]
        cases SL
        · have hR := HRR.out
          have HB : Hid (R = false) := by rw [← hR]; show uOneB x = _; unfold uOneB; rw [sl]; rfl
          clear hR hq sl
          go_wp2_with fail
          all_goals go_ret
          all_goals exact ⟨ret_bool (HF'.out HB.out).symm, bel⟩
        · have HSL := Lib.hid sl
          clear sl
          have hz1 := hb1.size
          try simp at hz1
          obtain ⟨q1_0, l1_0, r1_0⟩ := aft hb1 (wr.heap.size)
          go_wp2_with fail
          refine (rSound_any x.hi _ hh).mono ?_
          rintro e w2 ⟨rfl, hb2⟩
          obtain ⟨SH, sh⟩ : ∃ SH, sndB x.hi = SH := ⟨_, rfl⟩
          rw [sh]
          have hR := HRR.out
          have hRk := HRK.out
          have sl := HSL.out
          clear HRR HRK HSL
          cases SH
          · have HB : Hid (R = false) := by rw [← hR]; show uOneB x = _; unfold uOneB; rw [sl, sh]; rfl
            clear hR hRk hq sl sh
            go_wp2_with fail
            all_goals go_ret
            all_goals exact ⟨ret_bool (HF'.out HB.out).symm, bel⟩
          · skip
            have hz2 := hb2.size
            try simp at hz2
            obtain ⟨q2_0, l2_0, r2_0⟩ := aft hb2 (wr.heap.size)
            rcases (show x.k < 1 ∨ 6 < x.k ∨ x.k = 1 ∨ x.k = 6 ∨ (1 < x.k ∧ x.k < 6) by omega) with hk | hk | hk | hk | hk
            · have k1 : decide (x.k < 1) = true := by simp; omega
              have HB : Hid (R = false) := by rw [← hR]; show uOneB x = _; unfold uOneB; rw [sl, sh, if_neg (by omega), decide_eq_false (by omega)]; rfl
              clear hR hRk sl sh
              clear hk
              have HV : R = false := by rw [HB.out]; first | done | (simp [*]; done) | (simp only [*]; rfl)
              clear HB
              go_wp2_with fail
              all_goals go_ret
              all_goals exact ⟨ret_bool (HF'.out HV).symm, bel⟩
            · have k1 : decide (x.k < 1) = false := by simp; omega
              have k6 : decide (6 < x.k) = true := by simp; omega
              have HB : Hid (R = false) := by rw [← hR]; show uOneB x = _; unfold uOneB; rw [sl, sh, if_neg (by omega), decide_eq_false (by omega)]; rfl
              clear hR hRk sl sh
              clear hk
              have HV : R = false := by rw [HB.out]; first | done | (simp [*]; done) | (simp only [*]; rfl)
              clear HB
              go_wp2_with fail
              all_goals go_ret
              all_goals exact ⟨ret_bool (HF'.out HV).symm, bel⟩
            · have kn1 : (x.k != 1) = false := by simp [hk]
              have k1 : decide (x.k < 1) = false := by simp; omega
              have k6 : decide (6 < x.k) = false := by simp; omega
              have ke1 : (x.k == 1) = true := by simp [hk]
              have ke6 : (x.k == 6) = false := by simp; omega
              have HB : Hid (R = (decide (1 ≤ x.k ∧ x.k < 6) && (rankB x.lo || x.k == 1) && eqB x.hi Vl.zero && !x.ol && !x.oh)) := by rw [← hR]; show uOneB x = _; unfold uOneB; rw [sl, sh, if_neg (by omega)]; rfl
              rw [ke1, decide_eq_true (show 1 ≤ x.k ∧ x.k < 6 by omega), Bool.or_true] at HB
              clear hRk
              simp only [Bool.true_and] at HB
              clear hk
              clear hR sl sh
              cases ez : eqB x.hi Vl.zero
              · skip
                have HV : R = false := by rw [HB.out]; first | done | (simp [*]; done) | (simp only [*]; rfl)
                clear HB
                go_wp2_with fail
                all_goals go_ret
                all_goals exact ⟨ret_bool (HF'.out HV).symm, bel⟩
              · cases eo : x.ol
                · cases ep : x.oh
                  · skip
                    have HV : R = true := by rw [HB.out]; first | done | (simp [*]; done) | (simp only [*]; rfl)
                    clear HB
                    go_wp2_with fail
                    go_roundg (gk - 1)
                    case measure => omega
                    case rel => exact ⟨j + 1, by omega, by omega, by go_num, HT'.out HV, bel⟩
                  · skip
                    have HV : R = false := by rw [HB.out]; first | done | (simp [*]; done) | (simp only [*]; rfl)
                    clear HB
                    go_wp2_with fail
                    all_goals go_ret
                    all_goals exact ⟨ret_bool (HF'.out HV).symm, bel⟩
                · skip
                  have HV : R = false := by rw [HB.out]; first | done | (simp [*]; done) | (simp only [*]; rfl)
                  clear HB
                  go_wp2_with fail
                  all_goals go_ret
                  all_goals exact ⟨ret_bool (HF'.out HV).symm, bel⟩
            · have kn1 : (x.k != 1) = true := by simp; omega
              have k1 : decide (x.k < 1) = false := by simp; omega
              have k6 : decide (6 < x.k) = false := by simp; omega
              have ke1 : (x.k == 1) = false := by simp; omega
              have ke6 : (x.k == 6) = true := by simp [hk]
              have HB : Hid (R = (rankB x.lo && x.hi.k == x.lo.k)) := by rw [← hR]; show uOneB x = _; unfold uOneB; rw [sl, sh, if_pos hk]; rfl
              rw [hRk] at HB
              clear hRk
              clear hk
              clear hR sl sh
              cases ez : (x.hi.k == x.lo.k)
              · have ezn : (x.hi.k != x.lo.k) = true := by unfold bne; rw [ez]; rfl
                have HV : R = false := by rw [HB.out]; first | done | (simp [*]; done) | (simp only [*]; rfl)
                clear HB
                go_wp2_with fail
                all_goals go_ret
                all_goals exact ⟨ret_bool (HF'.out HV).symm, bel⟩
              · have ezn : (x.hi.k != x.lo.k) = false := by unfold bne; rw [ez]; rfl
                have HV : R = true := by rw [HB.out]; first | done | (simp [*]; done) | (simp only [*]; rfl)
                clear HB
                go_wp2_with fail
                go_roundg (gk - 1)
                case measure => omega
                case rel => exact ⟨j + 1, by omega, by omega, by go_num, HT'.out HV, bel⟩
            · have kn1 : (x.k != 1) = true := by simp; omega
              have k1 : decide (x.k < 1) = false := by simp; omega
              have k6 : decide (6 < x.k) = false := by simp; omega
              have ke1 : (x.k == 1) = false := by simp; omega
              have ke6 : (x.k == 6) = false := by simp; omega
              have HB : Hid (R = (decide (1 ≤ x.k ∧ x.k < 6) && (rankB x.lo || x.k == 1) && eqB x.hi Vl.zero && !x.ol && !x.oh)) := by rw [← hR]; show uOneB x = _; unfold uOneB; rw [sl, sh, if_neg (by omega)]; rfl
              rw [hRk, ke1, decide_eq_true (show 1 ≤ x.k ∧ x.k < 6 by omega)] at HB
              clear hRk
              simp only [Bool.or_false, Bool.true_and, Bool.false_and] at HB
              clear hk
              clear hR sl sh
              cases ez : eqB x.hi Vl.zero
              · skip
                have HV : R = false := by rw [HB.out]; first | done | (simp [*]; done) | (simp only [*]; rfl)
                clear HB
                go_wp2_with fail
                all_goals go_ret
                all_goals exact ⟨ret_bool (HF'.out HV).symm, bel⟩
              · cases eo : x.ol
                · cases ep : x.oh
                  · skip
                    have HV : R = true := by rw [HB.out]; first | done | (simp [*]; done) | (simp only [*]; rfl)
                    clear HB
                    go_wp2_with fail
                    go_roundg (gk - 1)
                    case measure => omega
                    case rel => exact ⟨j + 1, by omega, by omega, by go_num, HT'.out HV, bel⟩
                  · skip
                    have HV : R = false := by rw [HB.out]; first | done | (simp [*]; done) | (simp only [*]; rfl)
                    clear HB
                    go_wp2_with fail
                    all_goals go_ret
                    all_goals exact ⟨ret_bool (HF'.out HV).symm, bel⟩
                · skip
                  have HV : R = false := by rw [HB.out]; first | done | (simp [*]; done) | (simp only [*]; rfl)
                  clear HB
                  go_wp2_with fail
                  all_goals go_ret
                  all_goals exact ⟨ret_bool (HF'.out HV).symm, bel⟩
      · have HRK := Lib.hid hRk
        clear hRk
        have HRR := Lib.hid hR
        clear hR
        go_wp2_with fail
        refine (rSound_any x.lo _ hl).mono ?_
        rintro e w1 ⟨rfl, hb1⟩
        obtain ⟨SL, sl⟩ : ∃ SL, sndB x.lo = SL := ⟨_, rfl⟩
        rw [sl]
        cases SL
        · have hR := HRR.out
          have HB : Hid (R = false) := by rw [← hR]; show uOneB x = _; unfold uOneB; rw [sl]; rfl
          clear hR hq sl
          go_wp2_with fail
          all_goals go_ret
          all_goals exact ⟨ret_bool (HF'.out HB.out).symm, bel⟩
        · have HSL := Lib.hid sl
          clear sl
          have hz1 := hb1.size
          try simp at hz1
          obtain ⟨q1_0, l1_0, r1_0⟩ := aft hb1 (wr.heap.size)
          go_wp2_with fail
          refine (rSound_any x.hi _ hh).mono ?_
          rintro e w2 ⟨rfl, hb2⟩
          obtain ⟨SH, sh⟩ : ∃ SH, sndB x.hi = SH := ⟨_, rfl⟩
          rw [sh]
          have hR := HRR.out
          have hRk := HRK.out
          have sl := HSL.out
          clear HRR HRK HSL
          cases SH
          · have HB : Hid (R = false) := by rw [← hR]; show uOneB x = _; unfold uOneB; rw [sl, sh]; rfl
            clear hR hRk hq sl sh
            go_wp2_with fail
            all_goals go_ret
            all_goals exact ⟨ret_bool (HF'.out HB.out).symm, bel⟩
          · skip
            have hz2 := hb2.size
            try simp at hz2
            obtain ⟨q2_0, l2_0, r2_0⟩ := aft hb2 (wr.heap.size)
            rcases (show x.k < 1 ∨ 6 < x.k ∨ x.k = 1 ∨ x.k = 6 ∨ (1 < x.k ∧ x.k < 6) by omega) with hk | hk | hk | hk | hk
            · have k1 : decide (x.k < 1) = true := by simp; omega
              have HB : Hid (R = false) := by rw [← hR]; show uOneB x = _; unfold uOneB; rw [sl, sh, if_neg (by omega), decide_eq_false (by omega)]; rfl
              clear hR hRk sl sh
              clear hk
              have HV : R = false := by rw [HB.out]; first | done | (simp [*]; done) | (simp only [*]; rfl)
              clear HB
              go_wp2_with fail
              all_goals go_ret
              all_goals exact ⟨ret_bool (HF'.out HV).symm, bel⟩
            · have k1 : decide (x.k < 1) = false := by simp; omega
              have k6 : decide (6 < x.k) = true := by simp; omega
              have HB : Hid (R = false) := by rw [← hR]; show uOneB x = _; unfold uOneB; rw [sl, sh, if_neg (by omega), decide_eq_false (by omega)]; rfl
              clear hR hRk sl sh
              clear hk
              have HV : R = false := by rw [HB.out]; first | done | (simp [*]; done) | (simp only [*]; rfl)
              clear HB
              go_wp2_with fail
              all_goals go_ret
              all_goals exact ⟨ret_bool (HF'.out HV).symm, bel⟩
            · have kn1 : (x.k != 1) = false := by simp [hk]
              have k1 : decide (x.k < 1) = false := by simp; omega
              have k6 : decide (6 < x.k) = false := by simp; omega
              have ke1 : (x.k == 1) = true := by simp [hk]
              have ke6 : (x.k == 6) = false := by simp; omega
              have HB : Hid (R = (decide (1 ≤ x.k ∧ x.k < 6) && (rankB x.lo || x.k == 1) && eqB x.hi Vl.zero && !x.ol && !x.oh)) := by rw [← hR]; show uOneB x = _; unfold uOneB; rw [sl, sh, if_neg (by omega)]; rfl
              rw [ke1, decide_eq_true (show 1 ≤ x.k ∧ x.k < 6 by omega), Bool.or_true] at HB
              clear hRk
              simp only [Bool.true_and] at HB
              clear hk
              clear hR sl sh
              cases ez : eqB x.hi Vl.zero
              · skip
                have HV : R = false := by rw [HB.out]; first | done | (simp [*]; done) | (simp only [*]; rfl)
                clear HB
                go_wp2_with fail
                all_goals go_ret
                all_goals exact ⟨ret_bool (HF'.out HV).symm, bel⟩
              · cases eo : x.ol
                · cases ep : x.oh
                  · skip
                    have HV : R = true := by rw [HB.out]; first | done | (simp [*]; done) | (simp only [*]; rfl)
                    clear HB
                    go_wp2_with fail
                    go_roundg (gk - 1)
                    case measure => omega
                    case rel => exact ⟨j + 1, by omega, by omega, by go_num, HT'.out HV, bel⟩
                  · skip
                    have HV : R = false := by rw [HB.out]; first | done | (simp [*]; done) | (simp only [*]; rfl)
                    clear HB
                    go_wp2_with fail
                    all_goals go_ret
                    all_goals exact ⟨ret_bool (HF'.out HV).symm, bel⟩
                · skip
                  have HV : R = false := by rw [HB.out]; first | done | (simp [*]; done) | (simp only [*]; rfl)
                  clear HB
                  go_wp2_with fail
                  all_goals go_ret
                  all_goals exact ⟨ret_bool (HF'.out HV).symm, bel⟩
            · have kn1 : (x.k != 1) = true := by simp; omega
              have k1 : decide (x.k < 1) = false := by simp; omega
              have k6 : decide (6 < x.k) = false := by simp; omega
              have ke1 : (x.k == 1) = false := by simp; omega
              have ke6 : (x.k == 6) = true := by simp [hk]
              have HB : Hid (R = (rankB x.lo && x.hi.k == x.lo.k)) := by rw [← hR]; show uOneB x = _; unfold uOneB; rw [sl, sh, if_pos hk]; rfl
              rw [hRk] at HB
              clear hRk
              clear hk
              clear hR sl sh
              have HV : R = false := by rw [HB.out]; first | done | (simp [*]; done) | (simp only [*]; rfl)
              clear HB
              go_wp2_with fail
              all_goals go_ret
              all_goals exact ⟨ret_bool (HF'.out HV).symm, bel⟩
            · have kn1 : (x.k != 1) = true := by simp; omega
              have k1 : decide (x.k < 1) = false := by simp; omega
              have k6 : decide (6 < x.k) = false := by simp; omega
              have ke1 : (x.k == 1) = false := by simp; omega
              have ke6 : (x.k == 6) = false := by simp; omega
              have HB : Hid (R = (decide (1 ≤ x.k ∧ x.k < 6) && (rankB x.lo || x.k == 1) && eqB x.hi Vl.zero && !x.ol && !x.oh)) := by rw [← hR]; show uOneB x = _; unfold uOneB; rw [sl, sh, if_neg (by omega)]; rfl
              rw [hRk, ke1, decide_eq_true (show 1 ≤ x.k ∧ x.k < 6 by omega)] at HB
              clear hRk
              simp only [Bool.or_false, Bool.true_and, Bool.false_and] at HB
              clear hk
              clear hR sl sh
              have HV : R = false := by rw [HB.out]; first | done | (simp [*]; done) | (simp only [*]; rfl)
              clear HB
              go_wp2_with fail
              all_goals go_ret
              all_goals exact ⟨ret_bool (HF'.out HV).symm, bel⟩
    · have hje : j = c.ts.length := by omega
      subst hje
      have i1 : ¬ ((c.ts.length : Int) < (c.ts.length : Int)) := by omega
      rw [List.take_length] at hno
      go_wp2_with fail
      go_ret
      exact ⟨ret_bool (by rw [HC.out, hno]; rfl), bel⟩

set_option maxHeartbeats 800000 in
theorem rUSound_any (c : Cel) (A : Option Addr) (cap : Nat) (w : World) (hr : RdL w 13 A (c.ts.map Tst.cells)) (hw : ∀ t ∈ c.ts, t.wf) (hn : c.ts.length ≤ 9223372036854775807) :
    Calls Tryz.prog 39 #[.agg #[.bool c.any, .bool c.neg, .slice A c.ts.length cap]] w fun e w' =>
      e = .returned (.bool (uSndB c)) ∧ Below w.heap.size w w' := by
  obtain ⟨B, hB⟩ : ∃ B, uSndB c = B := ⟨_, rfl⟩
  rw [hB]
  cases ca : c.any
  · have HB : Hid (B = (decide (1 ≤ c.ts.length ∧ c.ts.length ≤ 8) && !c.ts.any (fun t => !uOneB t))) := by rw [← hB]; unfold uSndB; rw [if_neg (by rw [ca]; simp)]; exact rfl
    clear hB
    by_cases h1 : 1 ≤ c.ts.length
    · by_cases h8 : c.ts.length ≤ 8
      · have := rUSound_loop c A cap w hr hw ca h1 h8 B (by show B = _; rw [HB.out]; simp [h1, h8])
        rw [ca] at this
        exact this
      · have HC : Hid (B = false) := by show B = _; rw [HB.out]; simp [h8]
        clear HB
        have e1 : decide ((c.ts.length : Int) < 1) = false := by simp; omega
        have e8 : decide ((8 : Int) < (c.ts.length : Int)) = true := by simp; omega
        go_enter Tryz.func39, Tryz.ntmps39
        go_wp2_with fail
        all_goals go_ret
        all_goals exact ⟨ret_bool (by first | (rw [HC.out]; done) | (rw [HC.out]; simp [*]; done) | (rw [HC.out]; simp; omega) | (rw [HC.out]; simp [*]; omega) | (rw [HC.out]; simp only [List.isEmpty_iff, List.isEmpty_eq_false_iff] at *; simp [*]; done) | (rw [HC.out]; simp only [List.isEmpty_iff, List.isEmpty_eq_false_iff] at *; simp [*]; omega) | (rw [HC.out, Bool.eq_iff_iff]; simp only [List.isEmpty_iff, List.isEmpty_eq_false_iff] at *; simp [*]; done) | (exfalso; omega)), bel⟩
    · have HC : Hid (B = false) := by show B = _; rw [HB.out]; simp [h1]
      clear HB
      have e1 : decide ((c.ts.length : Int) < 1) = true := by simp; omega
      go_enter Tryz.func39, Tryz.ntmps39
      go_wp2_with fail
      all_goals go_ret
      all_goals exact ⟨ret_bool (by first | (rw [HC.out]; done) | (rw [HC.out]; simp [*]; done) | (rw [HC.out]; simp; omega) | (rw [HC.out]; simp [*]; omega) | (rw [HC.out]; simp only [List.isEmpty_iff, List.isEmpty_eq_false_iff] at *; simp [*]; done) | (rw [HC.out]; simp only [List.isEmpty_iff, List.isEmpty_eq_false_iff] at *; simp [*]; omega) | (rw [HC.out, Bool.eq_iff_iff]; simp only [List.isEmpty_iff, List.isEmpty_eq_false_iff] at *; simp [*]; done) | (exfalso; omega)), bel⟩
  · have HB : Hid (B = (!c.neg && decide (c.ts.length = 0))) := by rw [← hB]; unfold uSndB; rw [if_pos ca]; exact rfl
    clear hB
    by_cases h0 : c.ts.length = 0
    · have e0 : ((c.ts.length : Int) == 0) = true := by rw [h0]; rfl
      have HC : Hid (B = !c.neg) := by show B = _; rw [HB.out]; simp [h0]
      clear HB
      cases cn : c.neg
      all_goals
        rw [cn] at HC
        go_enter Tryz.func39, Tryz.ntmps39
        go_wp2_with fail
        all_goals go_ret
        all_goals exact ⟨ret_bool (by first | (rw [HC.out]; done) | (rw [HC.out]; simp [*]; done) | (rw [HC.out]; simp; omega) | (rw [HC.out]; simp [*]; omega) | (rw [HC.out]; simp only [List.isEmpty_iff, List.isEmpty_eq_false_iff] at *; simp [*]; done) | (rw [HC.out]; simp only [List.isEmpty_iff, List.isEmpty_eq_false_iff] at *; simp [*]; omega) | (rw [HC.out, Bool.eq_iff_iff]; simp only [List.isEmpty_iff, List.isEmpty_eq_false_iff] at *; simp [*]; done) | (exfalso; omega)), bel⟩
    · have e0 : ((c.ts.length : Int) == 0) = false := by rw [beq_eq_false_iff_ne]; omega
      have HC : Hid (B = false) := by show B = _; rw [HB.out]; simp [h0]
      clear HB
      cases cn : c.neg
      all_goals
        go_enter Tryz.func39, Tryz.ntmps39
        go_wp2_with fail
        all_goals go_ret
        all_goals exact ⟨ret_bool (by first | (rw [HC.out]; done) | (rw [HC.out]; simp [*]; done) | (rw [HC.out]; simp; omega) | (rw [HC.out]; simp [*]; omega) | (rw [HC.out]; simp only [List.isEmpty_iff, List.isEmpty_eq_false_iff] at *; simp [*]; done) | (rw [HC.out]; simp only [List.isEmpty_iff, List.isEmpty_eq_false_iff] at *; simp [*]; omega) | (rw [HC.out, Bool.eq_iff_iff]; simp only [List.isEmpty_iff, List.isEmpty_eq_false_iff] at *; simp [*]; done) | (exfalso; omega)), bel⟩

end Go.Proofs.YtankkadnhdfpfaaGreatDoor
