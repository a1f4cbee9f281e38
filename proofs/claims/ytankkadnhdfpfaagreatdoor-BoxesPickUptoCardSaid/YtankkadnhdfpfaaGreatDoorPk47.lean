import Derived.Test.YtankkadnhdfpfaaGreatDoorPk30
import Derived.Test.YtankkadnhdfpfaaGreatDoorPk43
/- soffitlaw16.sound, has: walked. -/
set_option linter.unusedSimpArgs false
set_option linter.unusedVariables false
namespace Go.Proofs.YtankkadnhdfpfaaGreatDoor
open Go.RowKit Sp Wd

set_option maxRecDepth 100000 in
set_option maxHeartbeats 6400000 in
theorem sound16_any (ts : List TyArg) (A : Option Addr) (c : Nat) (w : World) (hT : TysAt w A ts) :
    Calls Tryz.prog 24 #[.slice A ts.length c] w fun e w' => e = .returned (.bool (allSnd ts)) ∧ Below w.heap.size w w' := by
  obtain ⟨R, hR⟩ : ∃ R, allSnd ts = R := ⟨_, rfl⟩
  rw [hR]
  have HR := Lib.hid hR
  have HT := Lib.hid hT
  obtain ⟨n, hn⟩ : ∃ n, ts.length = n := ⟨_, rfl⟩
  have HN := Lib.hid hn
  have hn63 : n ≤ 9223372036854775807 := by rw [← hn]; exact hT.n
  rw [hn]
  clear hR hT hn
  go_enter Tryz.func24, Tryz.ntmps24
  go_wp2_with fail
  go_loopg [3] n (fun k iv wr => ∃ i : Nat, i ≤ n ∧ n - i ≤ k ∧ iv = .int .i64 i ∧ Hid (allSnd (ts.drop i) = R) ∧ Below w.heap.size w wr)
  case atStart => exact ⟨0, by omega, by omega, rfl, HR, Below.refl _ _⟩
  case round =>
    obtain ⟨i, hi, hik, rfl, HD, hbel⟩ := hrel
    by_cases hlt : i < n
    · have i1 : (i : Int) < (n : Int) := by omega
      have i3 : (0 : Int) ≤ (i : Int) := by omega
      have hil : i < ts.length := by rw [HN.out]; omega
      have hd := (allSnd_drop hil).symm.trans HD.out
      obtain ⟨b, off, hAe, hx⟩ := (HT.out.rd.below hbel).at_ hil
      have hty := (HT.out.ty _ (List.getElem_mem hil)).below hbel
      have hnn := HN.out
      generalize ts[i]'hil = x at *
      subst hAe
      have HTY := Lib.hid hty
      have HDD := Lib.hid hd
      have x0 : wr.cell? ⟨b, off + i * 5, none⟩ = some (.int .i64 x.t.k) := hx.get 0 rfl
      have x1 : wr.cell? ⟨b, off + i * 5 + 1, none⟩ = some (.int .i64 x.t.sc) := hx.get 1 rfl
      have x2 : wr.cell? ⟨b, off + i * 5 + 2, none⟩ = some (.bool x.t.c.any) := hx.get 2 rfl
      have x3 : wr.cell? ⟨b, off + i * 5 + 3, none⟩ = some (.bool x.t.c.neg) := hx.get 3 rfl
      have x4 : wr.cell? ⟨b, off + i * 5 + 4, none⟩ = some (.slice x.T x.t.c.ts.length x.ct) := hx.get 4 rfl
      clear hx hil hnn hty hd HD
      go_wp2_with fail
      refine (rSetSound_any x.t x.T x.ct _ (HTY.out.below bel)).mono ?_
      rintro e w1 ⟨rfl, hb1⟩
      have hB1 : Below w.heap.size w w1 := bel
      have HDD2 := HDD.out
      clear hb1 x0 x1 x2 x3 x4
      cases hs : tySnd x.t
      · rw [hs] at HDD2
        have HF : Hid (R = false) := Lib.hid HDD2.symm
        clear hs HDD2 HDD
        go_wp2_with fail
        go_ret
        exact ⟨ret_bool HF.out.symm, hB1⟩
      · rw [hs, Bool.true_and] at HDD2
        have HF := Lib.hid HDD2
        clear hs HDD2 HDD
        go_wp2_with fail
        go_roundg (n - (i + 1))
        case measure => omega
        case rel => exact ⟨i + 1, by omega, Nat.le_refl _, by go_num, HF, hB1⟩
    · have i1 : ¬ (i : Int) < (n : Int) := by omega
      have HF : Hid (R = true) := Lib.hid (HD.out.symm.trans (allSnd_end (k := i) (by rw [HN.out]; omega)))
      go_wp2_with fail
      go_ret
      exact ⟨ret_bool HF.out.symm, hbel⟩
set_option maxRecDepth 100000 in
set_option maxHeartbeats 6400000 in
theorem has16_any (ts : List TyArg) (bs : List BxArg) (vs : List Vl) (T B V : Option Addr) (ct cb cv : Nat) (w : World) (hT : TysAt w T ts) (hB : BoxesAt w B bs) (hV : ValsAt w V vs) (hl : ∀ b ∈ bs, ∀ x ∈ b.l, x.s.sp.length ≤ 9223372036854775807 ∧ x.s.ws.length ≤ 9223372036854775807) :
    Calls Tryz.prog 23 #[.slice T ts.length ct, .slice B bs.length cb, .slice V vs.length cv] w fun e w' => e = .returned (.bool (anyBox ts bs vs)) ∧ Below w.heap.size w w' := by
  obtain ⟨R, hR⟩ : ∃ R, anyBox ts bs vs = R := ⟨_, rfl⟩
  rw [hR]
  have HR := Lib.hid hR
  have HT := Lib.hid hT
  have HB := Lib.hid hB
  have HV := Lib.hid hV
  have HL := Lib.hid hl
  obtain ⟨n, hn⟩ : ∃ n, ts.length = n := ⟨_, rfl⟩
  have HN := Lib.hid hn
  obtain ⟨m, hm⟩ : ∃ m, bs.length = m := ⟨_, rfl⟩
  have HM := Lib.hid hm
  obtain ⟨q, hq⟩ : ∃ q, vs.length = q := ⟨_, rfl⟩
  have HQ := Lib.hid hq
  have hn63 : n ≤ 9223372036854775807 := by rw [← hn]; exact hT.n
  have hm63 : m ≤ 9223372036854775807 := by rw [← hm]; exact hB.n
  rw [hn, hm, hq]
  clear hR hT hB hV hl hn hm hq
  go_enter Tryz.func23, Tryz.ntmps23
  go_wp2_with fail
  go_loopg [7] m (fun k iv wr => ∃ i : Nat, i ≤ m ∧ m - i ≤ k ∧ iv = .int .i64 i ∧ Hid (anyBox ts (bs.drop i) vs = R) ∧ Below w.heap.size w wr)
  case atStart => exact ⟨0, by omega, by omega, rfl, HR, Below.refl _ _⟩
  case round =>
    obtain ⟨i, hi, hik, rfl, HD, hbel⟩ := hrel
    by_cases hlt : i < m
    · have i1 : (i : Int) < (m : Int) := by omega
      have i3 : (0 : Int) ≤ (i : Int) := by omega
      have hil : i < bs.length := by rw [HM.out]; omega
      have hd := (anyBox_drop (ts := ts) (vs := vs) hil).symm.trans HD.out
      obtain ⟨b, off, hAe, hx⟩ := (HB.out.rd.below hbel).at_ hil
      have hbx := (HB.out.bx _ (List.getElem_mem hil)).below hbel
      have hbl := HL.out _ (List.getElem_mem hil)
      have hmm := HM.out
      generalize bs[i]'hil = y at *
      subst hAe
      have HY := Lib.hid hbx
      have HYL := Lib.hid hbl
      have HDD := Lib.hid hd
      have hx0 : wr.cell? ⟨b, off + i * 1, none⟩ = some (.slice y.A y.l.length y.c) := hx.get 0 rfl
      rw [Nat.mul_one] at hx0
      obtain ⟨p, hp⟩ : ∃ p, y.l.length = p := ⟨_, rfl⟩
      have HP := Lib.hid hp
      rw [hp] at hx0
      obtain ⟨F, hF⟩ : ∃ F, hasAll ts y.l vs = F := ⟨_, rfl⟩
      have HF := Lib.hid hF
      have ha : ∃ a : Bool, a = decide (p = n ∧ q = n) := ⟨_, rfl⟩
      clear hx hil hmm hbx hbl hd HD hp hF
      have four : (p = n ∧ q = n) ∨ (p = n ∧ q ≠ n) ∨ p ≠ n := by omega
      obtain ⟨a, ha⟩ := ha
      have HA := Lib.hid ha
      have INV : Hid ((a && hasAll (ts.drop 0) (y.l.drop 0) (vs.drop 0)) = F) := Lib.hid (by
        rw [HA.out, ← HF.out]
        by_cases h : p = n ∧ q = n
        · rw [decide_eq_true h]; rfl
        · rw [decide_eq_false h, Bool.false_and]; exact (hasAll_ne (by rw [HP.out, HN.out, HQ.out]; exact h)).symm)
      have HBEL := Lib.hid hbel
      clear hbel
      rcases four with ⟨h1, h2⟩ | ⟨h1, h2⟩ | h1
      · have e1 : ((p : Int) == (n : Int)) = true := by simp; omega
        have e2 : ((q : Int) == (n : Int)) = true := by simp; omega
        have haT : a = true := by rw [HA.out]; simp; omega
        rw [haT] at INV
        have HG : Hid (p = n ∧ q = n) := Lib.hid ⟨h1, h2⟩
        clear haT HA ha h1 h2
        go_wp2_with fail
        go_loopg [8, 9] n (fun g av kv wq => ∃ (k : Nat) (a : Bool), kv = .int .i64 k ∧ av = .bool a ∧ k ≤ n ∧ n - k ≤ g ∧ Hid ((a && hasAll (ts.drop k) (y.l.drop k) (vs.drop k)) = F) ∧ Hid (a = true → p = n ∧ q = n) ∧ Below wr.heap.size wr wq)
        case atStart => exact ⟨0, _, rfl, rfl, by omega, by omega, INV, Lib.hid (fun _ => HG.out), Below.refl _ _⟩
        case round =>
          clear INV
          obtain ⟨k, a, rfl, rfl, hk, hkg, INV, INV2, hbel2⟩ := hrel
          have hbel3 := HBEL.out.trans (hbel2.mono HBEL.out.size)
          cases a
          · have HFF : Hid (hasAll ts y.l vs = false) := Lib.hid (HF.out.trans INV.out.symm)
            have HD2 : Hid (anyBox ts (bs.drop (i + 1)) vs = R) := Lib.hid (by have := HDD.out; rw [HFF.out, Bool.false_or] at this; exact this)
            clear INV INV2
            go_wp2_with fail
            go_roundg (m - (i + 1))
            case measure => omega
            case rel => exact ⟨i + 1, by omega, Nat.le_refl _, by go_num, HD2, hbel3⟩
          · have HG2 := Lib.hid (INV2.out rfl)
            clear INV2
            obtain ⟨g1, g2⟩ := HG2.out
            by_cases hkn : k < n
            · have j1 : (k : Int) < (n : Int) := by omega
              have j3 : (0 : Int) ≤ (k : Int) := by omega
              have j4 : (k : Int) < (p : Int) := by omega
              have j5 : (k : Int) < (q : Int) := by omega
              have hk1 : k < ts.length := by rw [HN.out]; omega
              have hk2 : k < y.l.length := by rw [HP.out]; omega
              have hk3 : k < vs.length := by rw [HQ.out]; omega
              have hinv := INV.out
              rw [Bool.true_and, hasAll_drop hk1 hk2 hk3] at hinv
              obtain ⟨b1, o1, hA1, hx1⟩ := (HT.out.rd.below hbel3).at_ hk1
              obtain ⟨b2, o2, hA2, hx2⟩ := (HY.out.rd.below hbel2).at_ hk2
              obtain ⟨b3, o3, hA3, hx3⟩ := (HV.out.rd.below hbel3).at_ hk3
              have ty1 := (HT.out.ty _ (List.getElem_mem hk1)).below hbel3
              have st2 := (HY.out.st _ (List.getElem_mem hk2)).below hbel2
              have l2 := HYL.out _ (List.getElem_mem hk2)
              have wf3 := HV.out.wf _ (List.getElem_mem hk3)
              have hnn := HN.out
              have hpp := HP.out
              have hqq := HQ.out
              generalize ts[k]'hk1 = x1 at *
              generalize y.l[k]'hk2 = x2 at *
              generalize vs[k]'hk3 = x3 at *
              have HINV := Lib.hid hinv
              have HCALL : Hid (∀ W, Below wr.heap.size wr W → Calls Tryz.prog 30 #[.agg #[.int .i64 x1.t.k, .int .i64 x1.t.sc, .bool x1.t.c.any, .bool x1.t.c.neg, .slice x1.T x1.t.c.ts.length x1.ct], .agg #[.int .i64 x2.s.k, .slice x2.A x2.s.sp.length x2.ca, .bool x2.s.al, .slice x2.B x2.s.ws.length x2.cb, .int .i64 x2.s.b, .bool x2.s.nul], .agg #[.int .i64 x3.k, .int .i64 x3.n, .int .i64 x3.s, .string x3.t, .int .i64 x3.i]] W fun e w' => e = .returned (.bool (hasSt x1.t x2.s x3)) ∧ Below W.heap.size W w') := Lib.hid (fun W hW => rHas_any x1.t x2.s x3 x1.T x2.A x2.B x1.ct x2.ca x2.cb W (ty1.below hW) (st2.below hW) wf3 l2.1 l2.2)
              have hz0 := cell_below hbel2 hx0
              rw [hA2] at hz0
              subst hA1
              subst hA3
              have w0 := AtB.cell hz0
              have u0 := AtB.cell (show wr.cell? ⟨b1, o1 + k * 5, none⟩ = some (.int .i64 x1.t.k) from hx1.get 0 rfl)
              have u1 := AtB.cell (show wr.cell? ⟨b1, o1 + k * 5 + 1, none⟩ = some (.int .i64 x1.t.sc) from hx1.get 1 rfl)
              have u2 := AtB.cell (show wr.cell? ⟨b1, o1 + k * 5 + 2, none⟩ = some (.bool x1.t.c.any) from hx1.get 2 rfl)
              have u3 := AtB.cell (show wr.cell? ⟨b1, o1 + k * 5 + 3, none⟩ = some (.bool x1.t.c.neg) from hx1.get 3 rfl)
              have u4 := AtB.cell (show wr.cell? ⟨b1, o1 + k * 5 + 4, none⟩ = some (.slice x1.T x1.t.c.ts.length x1.ct) from hx1.get 4 rfl)
              have s0 := AtB.cell (show wr.cell? ⟨b2, o2 + k * 6, none⟩ = some (.int .i64 x2.s.k) from hx2.get 0 rfl)
              have s1 := AtB.cell (show wr.cell? ⟨b2, o2 + k * 6 + 1, none⟩ = some (.slice x2.A x2.s.sp.length x2.ca) from hx2.get 1 rfl)
              have s2 := AtB.cell (show wr.cell? ⟨b2, o2 + k * 6 + 2, none⟩ = some (.bool x2.s.al) from hx2.get 2 rfl)
              have s3 := AtB.cell (show wr.cell? ⟨b2, o2 + k * 6 + 3, none⟩ = some (.slice x2.B x2.s.ws.length x2.cb) from hx2.get 3 rfl)
              have s4 := AtB.cell (show wr.cell? ⟨b2, o2 + k * 6 + 4, none⟩ = some (.int .i64 x2.s.b) from hx2.get 4 rfl)
              have s5 := AtB.cell (show wr.cell? ⟨b2, o2 + k * 6 + 5, none⟩ = some (.bool x2.s.nul) from hx2.get 5 rfl)
              have z0 := AtB.cell (show wr.cell? ⟨b3, o3 + k * 5, none⟩ = some (.int .i64 x3.k) from hx3.get 0 rfl)
              have z1 := AtB.cell (show wr.cell? ⟨b3, o3 + k * 5 + 1, none⟩ = some (.int .i64 x3.n) from hx3.get 1 rfl)
              have z2 := AtB.cell (show wr.cell? ⟨b3, o3 + k * 5 + 2, none⟩ = some (.int .i64 x3.s) from hx3.get 2 rfl)
              have z3 := AtB.cell (show wr.cell? ⟨b3, o3 + k * 5 + 3, none⟩ = some (.string x3.t) from hx3.get 3 rfl)
              have z4 := AtB.cell (show wr.cell? ⟨b3, o3 + k * 5 + 4, none⟩ = some (.int .i64 x3.i) from hx3.get 4 rfl)
              have HB2 := Lib.hid hbel2
              generalize hasSt x1.t x2.s x3 = Hb at *
              clear hx1 hx2 hx3 ty1 st2 l2 wf3 hnn hpp hqq hinv INV hA2 hz0 g1 g2 hbel2 hbel3 hk1 hk2 hk3
              go_wp2_with fail
              refine wp_region_quiet_at (by kernel_rfl) (by kernel_rfl) ?_
              repeat (go_big_quiet_step ((go_at_call 30; with_reducible exact AtB.quiet _ (fun W hW => HCALL.out W hW))))
              refine wpQuiet_nil ?_
              intro _ hw'
              obtain ⟨qq, hw''⟩ := hw'
              subst hw''
              have hb14 := HB2.out.trans (qq.hb.mono HB2.out.size)
              generalize qq.w = W14 at *
              clear w0 u0 u1 u2 u3 u4 s0 s1 s2 s3 s4 s5 z0 z1 z2 z3 z4
              go_wp2_with fail
              go_roundg (n - (k + 1))
              case measure => omega
              case rel => exact ⟨k + 1, Hb, by go_num, rfl, by omega, Nat.le_refl _, HINV, Lib.hid (fun _ => HG2.out), hb14⟩
            · have j1 : ¬ (k : Int) < (n : Int) := by omega
              have HFF : Hid (hasAll ts y.l vs = true) := Lib.hid (HF.out.trans (INV.out.symm.trans (by rw [Bool.true_and]; exact hasAll_end (k := k) (by rw [HN.out]; omega) (by rw [HP.out]; omega) (by rw [HQ.out]; omega))))
              have HR2 : Hid (R = true) := Lib.hid (by have := HDD.out; rw [HFF.out, Bool.true_or] at this; exact this.symm)
              clear INV g1 g2
              go_wp2_with fail
              go_ret
              exact ⟨ret_bool HR2.out.symm, hbel3⟩
      · have e1 : ((p : Int) == (n : Int)) = true := by simp; omega
        have e2 : ((q : Int) == (n : Int)) = false := by simp; omega
        have haT : a = false := by rw [HA.out]; simp; omega
        rw [haT] at INV
        clear haT HA ha h1 h2
        go_wp2_with fail
        go_loopg [8, 9] n (fun g av kv wq => kv = .int .i64 0 ∧ av = .bool false ∧ Below wr.heap.size wr wq)
        case atStart => exact ⟨rfl, rfl, Below.refl _ _⟩
        case round =>
          obtain ⟨rfl, rfl, hbel2⟩ := hrel
          have hbel3 := HBEL.out.trans (hbel2.mono HBEL.out.size)
          have HFF : Hid (hasAll ts y.l vs = false) := Lib.hid (HF.out.trans INV.out.symm)
          have HD2 : Hid (anyBox ts (bs.drop (i + 1)) vs = R) := Lib.hid (by have := HDD.out; rw [HFF.out, Bool.false_or] at this; exact this)
          clear INV
          go_wp2_with fail
          go_roundg (m - (i + 1))
          case measure => omega
          case rel => exact ⟨i + 1, by omega, Nat.le_refl _, by go_num, HD2, hbel3⟩
      · have e1 : ((p : Int) == (n : Int)) = false := by simp; omega
        have haT : a = false := by rw [HA.out]; simp; omega
        rw [haT] at INV
        clear haT HA ha h1
        go_wp2_with fail
        go_loopg [8, 9] n (fun g av kv wq => kv = .int .i64 0 ∧ av = .bool false ∧ Below wr.heap.size wr wq)
        case atStart => exact ⟨rfl, rfl, Below.refl _ _⟩
        case round =>
          obtain ⟨rfl, rfl, hbel2⟩ := hrel
          have hbel3 := HBEL.out.trans (hbel2.mono HBEL.out.size)
          have HFF : Hid (hasAll ts y.l vs = false) := Lib.hid (HF.out.trans INV.out.symm)
          have HD2 : Hid (anyBox ts (bs.drop (i + 1)) vs = R) := Lib.hid (by have := HDD.out; rw [HFF.out, Bool.false_or] at this; exact this)
          clear INV
          go_wp2_with fail
          go_roundg (m - (i + 1))
          case measure => omega
          case rel => exact ⟨i + 1, by omega, Nat.le_refl _, by go_num, HD2, hbel3⟩
    · have i1 : ¬ (i : Int) < (m : Int) := by omega
      have HF : Hid (R = false) := Lib.hid (HD.out.symm.trans (anyBox_end (k := i) (by rw [HM.out]; omega)))
      go_wp2_with fail
      go_ret
      exact ⟨ret_bool HF.out.symm, hbel⟩
end Go.Proofs.YtankkadnhdfpfaaGreatDoor
