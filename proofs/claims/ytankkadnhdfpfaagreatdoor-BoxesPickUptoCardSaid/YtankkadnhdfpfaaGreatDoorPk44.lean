import Derived.Test.YtankkadnhdfpfaaGreatDoorPk37
import Derived.Test.YtankkadnhdfpfaaGreatDoorPk43
import Derived.Test.YtankkadnhdfpfaaGreatDoorPk42
import Derived.Test.YtankkadnhdfpfaaGreatDoorPk41
/- soffit/boxes.Has: walked. -/
set_option linter.unusedSimpArgs false
set_option linter.unusedVariables false
namespace Go.Proofs.YtankkadnhdfpfaaGreatDoor
open Go.RowKit Go.Lib Sp Wd

set_option maxRecDepth 100000 in
set_option maxHeartbeats 800000 in
theorem bl2Index (g : Nat) (q q' : Addr) (p : BxArg → Bool) (xs : List BxArg) (A : Option Addr) (c : Nat) (w : World) (hr : RdL w 1 A (xs.map BxArg.cells)) (hn : xs.length ≤ 9223372036854775807)
    (hg : blGives g #[.pointer (some q), .pointer (some q')] p xs w) (he : ∀ args W, (callFunc g args).run Tryz.prog W = .ok (.enter g args) W) :
    Calls Tryz.prog 101 #[.slice A xs.length c, .func (.func g) #[] #[.pointer (some q), .pointer (some q')]] w fun e w' => e = .returned (.int .i64 (idxF p xs 0)) ∧ Below w.heap.size w w' := by
  go_enter Tryz.func101, Tryz.ntmps101
  go_wp2_with fail
  go_loopg [8] xs.length (fun k i wr => ∃ j : Nat, j ≤ xs.length ∧ xs.length - j ≤ k ∧ Hid (idxF p xs 0 = idxF p (xs.drop j) j) ∧ i = .int .i64 j ∧ Below w.heap.size w wr)
  case atStart => exact ⟨0, by omega, by omega, rfl, rfl, Below.refl _ _⟩
  case round =>
    obtain ⟨j, hj, hjk, hi, rfl, hbel⟩ := hrel
    by_cases hlt : j < xs.length
    · obtain ⟨b, off, rfl, hx⟩ := (hr.below hbel).at_ hlt
      have hmem : xs[j]'hlt ∈ xs := List.getElem_mem hlt
      have hyes := fun h => idxF_drop_yes (p := p) hlt h
      have hno := fun h => idxF_drop_no (p := p) hlt h
      generalize hX : xs[j]'hlt = x at *
      have hgx := hg x hmem
      have g0 : wr.cell? ⟨b, off + j, none⟩ = some (.slice x.A x.l.length x.c) := by have := hx.get 0 rfl; simpa using this
      have HG := Lib.hid hgx
      have HYES := Lib.hid hyes
      have HNO := Lib.hid hno
      have hsz := hbel.size
      clear hgx hyes hno hX hmem hx
      cases hp : p x
      · have HN := Lib.hid (HNO.out hp)
        go_wp2_with fail
        refine (HG.out _ bel).mono ?_
        rintro e w1 ⟨rfl, hb1⟩
        rw [hp]
        clear hp
        go_wp2_with fail
        go_roundg (gk - 1)
        case measure => omega
        case rel => exact ⟨j + 1, by omega, by omega, hi.out.trans HN.out, by go_num, bel⟩
      · have HY := Lib.hid (HYES.out hp)
        go_wp2_with fail
        refine (HG.out _ bel).mono ?_
        rintro e w1 ⟨rfl, hb1⟩
        rw [hp]
        clear hp
        go_wp2_with fail
        go_ret
        exact ⟨ret_int (by rw [hi.out, HY.out]), bel⟩
    · have HE := Lib.hid (idxF_drop_end (p := p) hlt)
      go_wp2_with fail
      go_ret
      exact ⟨ret_int (by rw [hi.out, HE.out]), hbel⟩

set_option maxHeartbeats 400000 in
theorem bl2Contains (g : Nat) (q q' : Addr) (p : BxArg → Bool) (xs : List BxArg) (A : Option Addr) (c : Nat) (w : World) (hr : RdL w 1 A (xs.map BxArg.cells)) (hn : xs.length ≤ 9223372036854775807)
    (hg : blGives g #[.pointer (some q), .pointer (some q')] p xs w) (he : ∀ args W, (callFunc g args).run Tryz.prog W = .ok (.enter g args) W) :
    Calls Tryz.prog 60 #[.slice A xs.length c, .func (.func g) #[] #[.pointer (some q), .pointer (some q')]] w fun e w' => e = .returned (.bool (xs.any p)) ∧ Below w.heap.size w w' := by
  have HA := Lib.hid (idxF_any p xs 0)
  go_enter Tryz.func60, Tryz.ntmps60
  go_wp2_with fail
  refine (bl2Index g q q' p xs A c _ hr hn hg he).mono ?_
  rintro e w1 ⟨rfl, hb1⟩
  generalize idxF p xs 0 = r at *
  go_wp2_with fail
  go_ret
  exact ⟨ret_bool HA.out, hb1⟩

set_option maxRecDepth 100000 in
set_option maxHeartbeats 6400000 in
theorem hasBx1_any (ts : List TyArg) (l : List StArg) (A : Option Addr) (c : Nat) (vs : List Vl) (q1 q2 : Nat) (T V : Option Addr) (ct cv : Nat) (w : World) (hT : TysAt w T ts) (hB : BoxAt w A l) (hV : ValsAt w V vs) (h1 : w.cell? ⟨q1, 0, none⟩ = some (.slice T ts.length ct)) (h2 : w.cell? ⟨q2, 0, none⟩ = some (.slice V vs.length cv)) (hlen : vs.length = ts.length) (hl : ∀ s ∈ l, s.s.sp.length ≤ 9223372036854775807 ∧ s.s.ws.length ≤ 9223372036854775807) (hE : Env w) :
    Calls Tryz.prog 61 #[.slice A l.length c, .pointer (some ⟨q1, 0, none⟩), .pointer (some ⟨q2, 0, none⟩)] w fun e w' => e = .returned (.bool (hasAll ts l vs)) ∧ Below w.heap.size w w' := by
  obtain ⟨R, hR⟩ : ∃ R, hasAll ts l vs = R := ⟨_, rfl⟩
  rw [hR]
  have HT := Lib.hid hT
  have HB := Lib.hid hB
  have HV := Lib.hid hV
  have HL := Lib.hid hl
  have HE := Lib.hid hE
  obtain ⟨n, hn⟩ : ∃ n, ts.length = n := ⟨_, rfl⟩
  have HN := Lib.hid hn
  obtain ⟨p, hp⟩ : ∃ p, l.length = p := ⟨_, rfl⟩
  have HP := Lib.hid hp
  have hq : vs.length = n := hlen.trans hn
  have HQ := Lib.hid hq
  have n63 : n ≤ 9223372036854775807 := by rw [← hn]; exact hT.n
  have p63 : p ≤ 9223372036854775807 := by rw [← hp]; exact hB.n
  rw [hn] at h1
  rw [hq] at h2
  rw [hp]
  by_cases hpn : p = n
  · have e1 : ((p : Int) != (n : Int)) = false := by simp [hpn]
    have HPN := Lib.hid hpn
    have HR : Hid (hasAll (ts.drop 0) (l.drop 0) (vs.drop 0) = R) := Lib.hid hR
    clear hR hT hB hV hl hE hn hp hq hlen hpn
    go_enter Tryz.func61, Tryz.ntmps61
    go_wp2_with fail
    go_loopg [14] n (fun k iv wr => ∃ i : Nat, i ≤ n ∧ n - i ≤ k ∧ iv = .int .i64 i ∧ Hid (hasAll (ts.drop i) (l.drop i) (vs.drop i) = R) ∧ Below w.heap.size w wr)
    case atStart => exact ⟨0, by omega, by omega, rfl, HR, Below.refl _ _⟩
    case round =>
      obtain ⟨i, hi, hik, rfl, HD, hbel⟩ := hrel
      by_cases hlt : i < n
      · have i1 : (i : Int) < (n : Int) := by omega
        have i2 : (i : Int) < (p : Int) := by have := HPN.out; omega
        have i3 : (0 : Int) ≤ (i : Int) := by omega
        have hk1 : i < ts.length := by rw [HN.out]; omega
        have hk2 : i < l.length := by rw [HP.out]; have := HPN.out; omega
        have hk3 : i < vs.length := by rw [HQ.out]; omega
        have hd := (hasAll_drop hk1 hk2 hk3).symm.trans HD.out
        obtain ⟨b1, o1, hA1, hx1⟩ := (HT.out.rd.below hbel).at_ hk1
        obtain ⟨b2, o2, hA2, hx2⟩ := (HB.out.rd.below hbel).at_ hk2
        obtain ⟨b3, o3, hA3, hx3⟩ := (HV.out.rd.below hbel).at_ hk3
        have ty1 := (HT.out.ty _ (List.getElem_mem hk1)).below hbel
        have st2 := (HB.out.st _ (List.getElem_mem hk2)).below hbel
        have l2 := HL.out _ (List.getElem_mem hk2)
        have wf3 := HV.out.wf _ (List.getElem_mem hk3)
        have hnn := HN.out
        have hpp := HP.out
        have hqq := HQ.out
        generalize ts[i]'hk1 = y1 at *
        generalize l[i]'hk2 = y2 at *
        generalize vs[i]'hk3 = y3 at *
        have HDD := Lib.hid hd
        subst hA1
        subst hA2
        subst hA3
        have s0 := (show wr.cell? ⟨b2, o2 + i * 6, none⟩ = some (.int .i64 y2.s.k) from hx2.get 0 rfl)
        have s1 := (show wr.cell? ⟨b2, o2 + i * 6 + 1, none⟩ = some (.slice y2.A y2.s.sp.length y2.ca) from hx2.get 1 rfl)
        have s2 := (show wr.cell? ⟨b2, o2 + i * 6 + 2, none⟩ = some (.bool y2.s.al) from hx2.get 2 rfl)
        have s3 := (show wr.cell? ⟨b2, o2 + i * 6 + 3, none⟩ = some (.slice y2.B y2.s.ws.length y2.cb) from hx2.get 3 rfl)
        have s4 := (show wr.cell? ⟨b2, o2 + i * 6 + 4, none⟩ = some (.int .i64 y2.s.b) from hx2.get 4 rfl)
        have s5 := (show wr.cell? ⟨b2, o2 + i * 6 + 5, none⟩ = some (.bool y2.s.nul) from hx2.get 5 rfl)
        have h1' := cell_below hbel h1
        have h2' := cell_below hbel h2
        have lz1 := cell_lt h1'
        have lz2 := cell_lt h2'
        have hsz := hbel.size
        have HPN2 := HPN
        clear hnn hpp hqq hd HD hk1 hk2 hk3
        go_upto_region 6 with fail
        generalize hXW : World.alloc wr _ = W1
        have hbW : Below wr.heap.size wr W1 := (by rw [← hXW]; exact Below.alloc (Below.refl _ _) (Nat.le_refl _) _)
        have KS : BoxIs W1 wr.heap.size #[.int .i64 y2.s.k, .slice y2.A y2.s.sp.length y2.ca, .bool y2.s.al, .slice y2.B y2.s.ws.length y2.cb, .int .i64 y2.s.b, .bool y2.s.nul] := (by rw [← hXW]; exact BoxIs.new (t := 36) rfl)
        obtain ⟨g, hg⟩ : ∃ g, wr.heap.size = g := ⟨_, rfl⟩
        rw [hg] at KS
        rw [hg]
        have hB1 : Below w.heap.size w W1 := hbel.trans (hbW.mono hbel.size)
        have hx1 := hx1.below hbW
        have hx3 := hx3.below hbW
        have HCALL : Hid (∀ W, Below W1.heap.size W1 W → Calls Tryz.prog 18 #[.agg #[.int .i64 y1.t.k, .int .i64 y1.t.sc, .bool y1.t.c.any, .bool y1.t.c.neg, .slice y1.T y1.t.c.ts.length y1.ct], .agg #[.int .i64 y2.s.k, .slice y2.A y2.s.sp.length y2.ca, .bool y2.s.al, .slice y2.B y2.s.ws.length y2.cb, .int .i64 y2.s.b, .bool y2.s.nul], .agg #[.int .i64 y3.k, .int .i64 y3.n, .int .i64 y3.s, .string y3.t, .int .i64 y3.i]] W fun e w' => e = .returned (.bool (hasSt y1.t y2.s y3)) ∧ Below W.heap.size W w') := Lib.hid (fun W hW => setHas_any y1.t y2.s y3 y1.T y2.A y2.B y1.ct y2.ca y2.cb W ((ty1.below hbW).below hW) ((st2.below hbW).below hW) wf3 l2.1 l2.2 ((HE.out.below hB1).below hW))
        have z1 := AtB.cell (cell_below hbW h1')
        have z2 := AtB.cell (cell_below hbW h2')
        have u0 := AtB.cell (show W1.cell? ⟨b1, o1 + i * 5, none⟩ = some (.int .i64 y1.t.k) from hx1.get 0 rfl)
        have u1 := AtB.cell (show W1.cell? ⟨b1, o1 + i * 5 + 1, none⟩ = some (.int .i64 y1.t.sc) from hx1.get 1 rfl)
        have u2 := AtB.cell (show W1.cell? ⟨b1, o1 + i * 5 + 2, none⟩ = some (.bool y1.t.c.any) from hx1.get 2 rfl)
        have u3 := AtB.cell (show W1.cell? ⟨b1, o1 + i * 5 + 3, none⟩ = some (.bool y1.t.c.neg) from hx1.get 3 rfl)
        have u4 := AtB.cell (show W1.cell? ⟨b1, o1 + i * 5 + 4, none⟩ = some (.slice y1.T y1.t.c.ts.length y1.ct) from hx1.get 4 rfl)
        have v0 := AtB.cell (show W1.cell? ⟨b3, o3 + i * 5, none⟩ = some (.int .i64 y3.k) from hx3.get 0 rfl)
        have v1 := AtB.cell (show W1.cell? ⟨b3, o3 + i * 5 + 1, none⟩ = some (.int .i64 y3.n) from hx3.get 1 rfl)
        have v2 := AtB.cell (show W1.cell? ⟨b3, o3 + i * 5 + 2, none⟩ = some (.int .i64 y3.s) from hx3.get 2 rfl)
        have v3 := AtB.cell (show W1.cell? ⟨b3, o3 + i * 5 + 3, none⟩ = some (.string y3.t) from hx3.get 3 rfl)
        have v4 := AtB.cell (show W1.cell? ⟨b3, o3 + i * 5 + 4, none⟩ = some (.int .i64 y3.i) from hx3.get 4 rfl)
        have r0 := AtB.cell (show W1.cell? ⟨g, 0, none⟩ = some (.int .i64 y2.s.k) from KS.c 0)
        have r1 := AtB.cell (show W1.cell? ⟨g, 1, none⟩ = some (.slice y2.A y2.s.sp.length y2.ca) from KS.c 1)
        have r2 := AtB.cell (show W1.cell? ⟨g, 2, none⟩ = some (.bool y2.s.al) from KS.c 2)
        have r3 := AtB.cell (show W1.cell? ⟨g, 3, none⟩ = some (.slice y2.B y2.s.ws.length y2.cb) from KS.c 3)
        have r4 := AtB.cell (show W1.cell? ⟨g, 4, none⟩ = some (.int .i64 y2.s.b) from KS.c 4)
        have r5 := AtB.cell (show W1.cell? ⟨g, 5, none⟩ = some (.bool y2.s.nul) from KS.c 5)
        have HB1 := Lib.hid hB1
        obtain ⟨Hb, hHb⟩ : ∃ Hb, hasSt y1.t y2.s y3 = Hb := ⟨_, rfl⟩
        rw [hHb] at HDD HCALL
        clear hXW hbW KS hg hbel hB1 hx1 hx2 hx3 ty1 st2 l2 wf3 hHb s0 s1 s2 s3 s4 s5 h1' h2' lz1 lz2 hsz
        refine wp_region_quiet_at (by kernel_rfl) (by kernel_rfl) ?_
        repeat (go_big_quiet_step ((go_at_call 18; with_reducible exact AtB.quiet _ (fun W hW => HCALL.out W hW))))
        refine wpQuiet_nil ?_
        intro _ hw'
        obtain ⟨qq, hw''⟩ := hw'
        subst hw''
        have hb14 := HB1.out.trans (qq.hb.mono HB1.out.size)
        generalize qq.w = W14 at *
        clear z1 z2 u0 u1 u2 u3 u4 v0 v1 v2 v3 v4 r0 r1 r2 r3 r4 r5
        cases Hb
        · have HF : Hid (R = false) := Lib.hid HDD.out.symm
          go_wp2_with fail
          go_ret
          exact ⟨ret_bool HF.out.symm, hb14⟩
        · have HF : Hid (hasAll (ts.drop (i + 1)) (l.drop (i + 1)) (vs.drop (i + 1)) = R) := Lib.hid (by have := HDD.out; rw [Bool.true_and] at this; exact this)
          go_wp2_with fail
          go_roundg (n - (i + 1))
          case measure => omega
          case rel => exact ⟨i + 1, by omega, Nat.le_refl _, by go_num, HF, hb14⟩
      · have i2 : ¬ (i : Int) < (p : Int) := by have := HPN.out; omega
        have HF : Hid (R = true) := Lib.hid (HD.out.symm.trans (hasAll_end (by rw [HN.out]; omega) (by rw [HP.out]; have := HPN.out; omega) (by rw [HQ.out]; omega)))
        go_wp2_with fail
        go_ret
        exact ⟨ret_bool HF.out.symm, hbel⟩
  · have e1 : ((p : Int) != (n : Int)) = true := by simp; omega
    have HF : Hid (R = false) := Lib.hid (hR.symm.trans (hasAll_ne (by omega)))
    clear hR hT hB hV hl hE hn hp hq hlen hpn
    go_enter Tryz.func61, Tryz.ntmps61
    go_wp2_with fail
    go_ret
    exact ⟨ret_bool HF.out.symm, Below.refl _ _⟩
set_option maxRecDepth 100000 in
set_option maxHeartbeats 6400000 in
theorem bxHas_any (ts : List TyArg) (bs : List BxArg) (vs : List Vl) (T B V : Option Addr) (ct cb cv : Nat) (w : World) (hT : TysAt w T ts) (hB : BoxesAt w B bs) (hV : ValsAt w V vs) (hl : ∀ b ∈ bs, ∀ x ∈ b.l, x.s.sp.length ≤ 9223372036854775807 ∧ x.s.ws.length ≤ 9223372036854775807) (hE : Env w) :
    Calls Tryz.prog 21 #[.slice T ts.length ct, .slice B bs.length cb, .slice V vs.length cv] w fun e w' => e = .returned (.bool (anyBox ts bs vs)) ∧ Below w.heap.size w w' := by
  obtain ⟨R, hR⟩ : ∃ R, anyBox ts bs vs = R := ⟨_, rfl⟩
  rw [hR]
  obtain ⟨n, hn⟩ : ∃ n, ts.length = n := ⟨_, rfl⟩
  obtain ⟨m, hm⟩ : ∃ m, bs.length = m := ⟨_, rfl⟩
  obtain ⟨q, hq⟩ : ∃ q, vs.length = q := ⟨_, rfl⟩
  have hrest : q = n → ∀ (W : World) (q1 q2 : Nat), Below w.heap.size w W → W.cell? ⟨q1, 0, none⟩ = some (.slice T n ct) → W.cell? ⟨q2, 0, none⟩ = some (.slice V q cv) → Calls Tryz.prog 60 #[.slice B m cb, .func (.func 61) #[] #[.pointer (some ⟨q1, 0, none⟩), .pointer (some ⟨q2, 0, none⟩)]] W fun e w' => e = .returned (.bool R) ∧ Below W.heap.size W w' := fun he W q1 q2 hW c1 c2 => by
    rw [← hm, ← hR]
    have hBW := hB.below hW
    exact bl2Contains 61 ⟨q1, 0, none⟩ ⟨q2, 0, none⟩ (fun b => hasAll ts b.l vs) bs B cb W hBW.rd hB.n (fun b hb W' hW' => by
      have hW2 : Below w.heap.size w W' := hW.trans (hW'.mono hW.size)
      exact hasBx1_any ts b.l b.A b.c vs q1 q2 T V ct cv W' (hT.below hW2) ((hB.bx b hb).below hW2) (hV.below hW2) (by rw [hn]; exact cell_below hW' c1) (by rw [hq]; exact cell_below hW' c2) (by omega) (hl b hb) (hE.below hW2)) (enters_of Tryz.func61 (by kernel_rfl) rfl)
  have HREST := Lib.hid hrest
  have HNO : Hid (q ≠ n → R = false) := Lib.hid (fun h => by
    rw [← hR]
    unfold anyBox
    rw [List.any_eq_false]
    intro b _
    rw [hasAll_ne (by omega)]; simp)
  have n63 : n ≤ 9223372036854775807 := by rw [← hn]; exact hT.n
  have q63 : q ≤ 9223372036854775807 := by rw [← hq]; exact hV.n
  rw [hn, hm, hq]
  clear hR hT hB hV hl hE hrest hn hm hq
  go_enter Tryz.func21, Tryz.ntmps21
  by_cases hqn : q = n
  · have e1 : ((q : Int) != (n : Int)) = false := by simp [hqn]
    have HC := Lib.hid (HREST.out hqn)
    clear hqn
    go_upto_region 1 with fail
    generalize hXW : World.alloc (World.alloc w _) _ = W1
    have hbW : Below w.heap.size w W1 := (by rw [← hXW]; exact bel)
    have K1 : BoxIs W1 w.heap.size #[.slice T n ct] := (by rw [← hXW]; exact (BoxIs.new (t := 47) rfl).alloc _)
    have K2 : BoxIs W1 (w.heap.size + 1) #[.slice V q cv] := (by rw [← hXW]; exact BoxIs.new (t := 50) (by simp))
    have c1 := K1.c
    have c2 := K2.c
    have l1 := K1.lt
    have l2 := K2.lt
    clear hXW
    go_wp2_with fail
    refine (HC.out W1 _ _ hbW (K1.c 0) (K2.c 0)).mono ?_
    rintro e w1 ⟨rfl, hb1⟩
    have hbf : Below w.heap.size w w1 := hbW.trans (hb1.mono hbW.size)
    go_wp2_with fail
    go_ret
    exact ⟨rfl, hbf⟩
  · have e1 : ((q : Int) != (n : Int)) = true := by simp; omega
    have HF := Lib.hid (HNO.out hqn)
    clear hqn
    go_wp2_with fail
    go_ret
    exact ⟨ret_bool HF.out.symm, bel⟩
end Go.Proofs.YtankkadnhdfpfaaGreatDoor

/- soffitlaw16.awake: walked; few. -/
set_option linter.unusedSimpArgs false
set_option linter.unusedVariables false
namespace Go.Proofs.YtankkadnhdfpfaaGreatDoor
open Go.RowKit Sp Wd

theorem flat_get {α : Type} {f : α → List Value} {sz : Nat} (hs : ∀ x, (f x).length = sz) : ∀ (xs : List α) (j i : Nat) (x : α), xs[j]? = some x → i < sz → (xs.flatMap f)[j * sz + i]? = (f x)[i]?
  | [], j, i, x, h, _ => by simp at h
  | y :: r, 0, i, x, h, hi => by
    obtain rfl : y = x := by simpa using h
    rw [List.flatMap_cons, Nat.zero_mul, Nat.zero_add, List.getElem?_append_left (by rw [hs]; exact hi)]
  | y :: r, j + 1, i, x, h, hi => by
    have h' : r[j]? = some x := by simpa using h
    rw [List.flatMap_cons, List.getElem?_append_right (by rw [hs, Nat.succ_mul]; omega), hs, show (j + 1) * sz + i - sz = j * sz + i by rw [Nat.succ_mul]; omega]
    exact flat_get hs r j i x h' hi
theorem rd_lit {α : Type} {w : World} {g sz : Nat} {f : α → List Value} (xs : List α) (hs : ∀ x, (f x).length = sz) (h : BoxIs w g (xs.flatMap f).toArray) : RdL w sz (some ⟨g, 0, none⟩) (xs.map f) := by
  intro j c hj
  rw [List.getElem?_map, Option.map_eq_some_iff] at hj
  obtain ⟨x, hx, rfl⟩ := hj
  refine ⟨g, 0, rfl, fun i u hu => ?_⟩
  have hi : i < sz := by have := (List.getElem?_eq_some_iff.1 hu).1; rw [hs] at this; exact this
  rw [h.c, List.getElem?_toArray, show 0 + j * sz + i = j * sz + i by omega, flat_get hs xs j i x hx hi]
  exact hu

def boT : Ty := ⟨3, 0, ⟨true, false, []⟩⟩
def boA : TyArg := ⟨boT, none, 0⟩
def boS (n : Int) : St := ⟨3, [], false, [], n, false⟩
def boV (i : Int) : Vl := ⟨3, 0, 0, ⟨#[]⟩, i⟩
theorem boT_snd : tySnd boT = true := by decide +kernel
theorem bo_all : allSnd [boA, boA] = true := by decide +kernel
theorem boF : (fullG boT).f = true ∧ (fullG boT).t = true ∧ (fullG boT).nul = true ∧ (fullG boT).k = 3 := by decide +kernel
theorem boV_in (i : Int) (h : i = 0 ∨ i = 1) : inTy boT (boV i) = true := by rcases h with rfl | rfl <;> decide +kernel
theorem boZ_in : inTy boT Vl.zero = true := by decide +kernel
theorem boS_ok (n : Int) (N : Nat) : StOk N (boS n) := ⟨by simp [boS], by simp [boS], by simp [boS], by simp [boS]⟩
theorem boS_at (w : World) (n : Int) : StAt w (boS n) none none := ⟨RdL.nil_ _ _ _, RdL.nil_ _ _ _⟩
theorem boT_at (w : World) : TyAt w boT none := ⟨RdL.nil_ _ _ _, by simp [boT], by simp [boT]⟩
theorem boV_wf (i : Int) (h : i = 0 ∨ i = 1) : (boV i).wf := by
  rcases h with rfl | rfl <;> exact ⟨⟨by decide, by decide⟩, ⟨by decide, by decide⟩, ⟨by decide, by decide⟩, ⟨by decide, by decide⟩, Nat.zero_le _⟩
theorem full_two {l : List StArg} (h : FullOf [boA, boA] l) : ∃ f0 f1 : StArg, l = [f0, f1] ∧ Is (fullG boT) f0.s ∧ Is (fullG boT) f1.s := by
  have hl := fullOf_len h
  match l, hl with
  | [f0, f1], _ => exact ⟨f0, f1, rfl, h.1.1, h.2.1.1⟩
theorem with_0 {l : List StArg} {n : Int} (h : WithOf [boA, boA] 0 (boS n) l) : ∃ x0 x1 : StArg, l = [x0, x1] ∧ Is ((fullG boT).meet (boS n).sg) x0.s ∧ Is (fullG boT) x1.s := by
  obtain ⟨k, l0, x, h1, hk, -, hf, rfl, hx⟩ := h.at_
  obtain ⟨f0, f1, rfl, i0, i1⟩ := full_two hf
  obtain rfl : k = 0 := by omega
  exact ⟨x, f1, rfl, hx, i1⟩
theorem with_1 {l : List StArg} {n : Int} (h : WithOf [boA, boA] 1 (boS n) l) : ∃ x0 x1 : StArg, l = [x0, x1] ∧ Is (fullG boT) x0.s ∧ Is ((fullG boT).meet (boS n).sg) x1.s := by
  obtain ⟨k, l0, x, h1, hk, -, hf, rfl, hx⟩ := h.at_
  obtain ⟨f0, f1, rfl, i0, i1⟩ := full_two hf
  obtain rfl : k = 1 := by omega
  exact ⟨f0, x, rfl, i0, hx⟩
theorem bo_ok (n : Int) : WithOk [boA, boA] 0 (boS n) ∧ WithOk [boA, boA] 1 (boS n) := ⟨⟨0, rfl, by simp, rfl⟩, ⟨1, rfl, by simp, rfl⟩⟩
theorem bo_kinds {l : List StArg} {x0 x1 : StArg} (h : l = [x0, x1]) {g0 g1 : Sg} (h0 : Is g0 x0.s) (h1 : Is g1 x1.s) (k0 : g0.k = 3) (k1 : g1.k = 3) : kindsOf l = [3, 3] ∧ l.any badK = false := by
  subst h
  have e0 : x0.s.k = 3 := h0.k.trans k0
  have e1 : x1.s.k = 3 := h1.k.trans k1
  refine ⟨by unfold kindsOf; simp [e0, e1], ?_⟩
  simp [badK, e0, e1]
theorem bo_meet {la lb : List StArg} {A B : Option Addr} {ca cb : Nat} (ha : WithOf [boA, boA] 0 (boS 2) la) (hb : WithOf [boA, boA] 1 (boS 1) lb) :
    alikeB [⟨la, A, ca⟩, ⟨lb, B, cb⟩] = true ∧ (∀ R : List BxArg, keysOf R = bagOf [] (allM [keyOf la] [keyOf lb]) → MetOk la lb → R.length = 1 ∧ anyBox [boA, boA] R [boV 1, boV 0] = true ∧ anyBox [boA, boA] R [Vl.zero, boV 0] = false) := by
  obtain ⟨x0, x1, e1, i0, i1⟩ := with_0 ha
  obtain ⟨y0, y1, e2, j0, j1⟩ := with_1 hb
  obtain ⟨bf, bt, bn, bk⟩ := boF
  have hk4 : 1 ≤ (fullG boT).k ∧ (fullG boT).k ≤ 4 := by rw [bk]; decide
  have kx := bo_kinds e1 i0 i1 bk bk
  have ky := bo_kinds e2 j0 j1 bk bk
  refine ⟨?_, fun R hR hm => ?_⟩
  · show (!([⟨la, A, ca⟩, ⟨lb, B, cb⟩] : List BxArg).any (notLike (kindsOf la))) = true
    unfold notLike
    simp only [List.any_cons, List.any_nil, kx.1, ky.1, kx.2, ky.2]
    rfl
  · obtain ⟨h12, L, hl, hj⟩ := hm
    have hkey := meetK_eq h12 hl hj
    subst e1 e2
    match L, hl with
    | [z0, z1], _ =>
      have m0 : MeetIs 1048600 1048600 x0 y0 z0 := hj 0 (by simp) (by simp) (by simp)
      have m1 : MeetIs 1048600 1048600 x1 y1 z1 := hj 1 (by simp) (by simp) (by simp)
      have ex0 : x0.s.sg = (fullG boT).meet (boS 2).sg := i0.sg_eq hk4
      have ey0 : y0.s.sg = fullG boT := j0.sg_eq hk4
      have ex1 : x1.s.sg = fullG boT := i1.sg_eq hk4
      have ey1 : y1.s.sg = (fullG boT).meet (boS 1).sg := j1.sg_eq hk4
      have q0 := m0.is
      have q1 := m1.is
      rw [ex0, ey0] at q0
      rw [ex1, ey1] at q1
      have s0 : z0.s.sg = ((fullG boT).meet (boS 2).sg).meet (fullG boT) := q0.sg_eq hk4
      have s1 : z1.s.sg = (fullG boT).meet ((fullG boT).meet (boS 1).sg) := q1.sg_eq hk4
      have c0 : z0.s.k = 3 := q0.k.trans bk
      have c1 : z1.s.k = 3 := q1.k.trans bk
      have f0 : z0.s.sg.f = false ∧ z0.s.sg.t = true ∧ z0.s.sg.nul = false := by
        rw [s0]
        refine ⟨?_, ?_, ?_⟩
        · show (((fullG boT).f && (boS 2).sg.f) && (fullG boT).f) = false
          rw [bf]; decide
        · show (((fullG boT).t && (boS 2).sg.t) && (fullG boT).t) = true
          rw [bt]; decide
        · show (((fullG boT).nul && (boS 2).sg.nul) && (fullG boT).nul) = false
          rw [bn]; decide
      have f1 : z1.s.sg.f = true := by
        rw [s1]
        show ((fullG boT).f && ((fullG boT).f && (boS 1).sg.f)) = true
        rw [bf]; decide
      have n0 : emptyB z0.s = false := by
        cases e : emptyB z0.s
        · rfl
        · unfold emptyB at e
          rw [@decide_eq_true_iff _ (Classical.propDecidable _)] at e
          obtain ⟨r, ir, -, he⟩ := e
          have := (empty_no2 ir (by show 1 ≤ z0.s.k ∧ z0.s.k ≤ 4; omega) he).2.2.2.2
          rw [f0.2.1] at this; cases this
      have n1 : emptyB z1.s = false := by
        cases e : emptyB z1.s
        · rfl
        · unfold emptyB at e
          rw [@decide_eq_true_iff _ (Classical.propDecidable _)] at e
          obtain ⟨r, ir, -, he⟩ := e
          have := (empty_no2 ir (by show 1 ≤ z1.s.k ∧ z1.s.k ≤ 4; omega) he).2.2.2.1
          rw [f1] at this; cases this
      have hall : allM [keyOf [x0, x1]] [keyOf [y0, y1]] = [keyOf [z0, z1]] := by rw [hkey]; rfl
      have hbag : bagOf [] [keyOf [z0, z1]] = [keyOf [z0, z1]] := by
        rw [bagOf_cons, bagOf_nil, bagAdd_more]
        · rfl
        · rintro (h | h)
          · have : (emptyB z0.s || (emptyB z1.s || false)) = true := h
            rw [n0, n1] at this; cases this
          · cases h
      rw [hall, hbag] at hR
      refine ⟨by have := congrArg List.length hR; rw [keys_len] at this; exact this, ?_, ?_⟩
      · rw [anyBox_key, hR]
        show ((hasSt boT z0.s (boV 1) && (hasSt boT z1.s (boV 0) && true)) || false) = true
        have h0 : hasSt boT z0.s (boV 1) = true := by
          unfold hasSt
          rw [boV_in 1 (.inr rfl), c0]
          unfold hasV
          rw [f0.1, f0.2.1]; rfl
        have h1 : hasSt boT z1.s (boV 0) = true := by
          unfold hasSt
          rw [boV_in 0 (.inl rfl), c1]
          unfold hasV
          rw [f1]
          cases z1.s.sg.t <;> rfl
        rw [h0, h1]; rfl
      · rw [anyBox_key, hR]
        show ((hasSt boT z0.s Vl.zero && (hasSt boT z1.s (boV 0) && true)) || false) = false
        have h0 : hasSt boT z0.s Vl.zero = false := by
          unfold hasSt
          rw [boZ_in, c0]
          unfold hasV
          rw [if_pos (show Vl.zero.k = 0 from rfl), f0.2.2]; rfl
        rw [h0]; rfl
set_option maxRecDepth 100000 in
set_option maxHeartbeats 6400000 in
theorem awake16_any (w : World) (hE : Env w) :
    Calls Tryz.prog 25 #[] w fun e w' => e = .returned (.bool true) ∧ Below w.heap.size w w' := by
  have HE := Lib.hid hE
  clear hE
  go_enter Tryz.func25, Tryz.ntmps25
  go_wp2_with fail
  generalize hX1 : World.alloc w _ = W1
  have hb1 : Below w.heap.size w W1 := (by rw [← hX1]; exact Below.alloc (Below.refl _ _) (Nat.le_refl _) _)
  have KT : BoxIs W1 w.heap.size (([boA, boA].flatMap TyArg.cells).toArray) := (by rw [← hX1]; exact BoxIs.new (t := 26) rfl)
  obtain ⟨T, hT⟩ : ∃ T, w.heap.size = T := ⟨_, rfl⟩
  rw [hT] at KT
  rw [hT]
  have hTA : TysAt W1 (some ⟨T, 0, none⟩) [boA, boA] := ⟨rd_lit _ (fun x => rfl) KT, fun x hx => by
    have : x = boA := by simpa using hx
    rw [this]; exact boT_at _, by simp⟩
  clear hX1 hT KT
  refine (bxWith_any [boA, boA] 0 (boS 2) 0 (some ⟨T, 0, none⟩) none none 2 0 0 W1 hTA (by simp) (boS_at _ _) (boS_ok _ _) (by omega) (HE.out.below hb1)).mono ?_
  rintro e w2 ⟨la, A, ca, m, rfl, hres, hb2⟩
  obtain ⟨rfl, ha, hwa⟩ : m = 0 ∧ BoxAt w2 A la ∧ WithOf [boA, boA] 0 (boS 2) la := by
    rcases hres with ⟨h1, -, h2, h3⟩ | ⟨-, h, -⟩ | ⟨-, -, h, -⟩
    · exact ⟨h1, h2, h3⟩
    · rw [bo_all] at h; cases h
    · exact absurd (bo_ok 2).1 h
  clear hres
  have hB2 : Below w.heap.size w w2 := hb1.trans (hb2.mono hb1.size)
  have hTA2 := hTA.below hb2
  clear hTA hb1 hb2
  go_wp2_with fail
  refine (bxWith_any [boA, boA] 1 (boS 1) 0 (some ⟨T, 0, none⟩) none none 2 0 0 w2 hTA2 (by simp) (boS_at _ _) (boS_ok _ _) (by omega) (HE.out.below hB2)).mono ?_
  rintro e w3 ⟨lb, B, cb, m, rfl, hres, hb3⟩
  obtain ⟨rfl, hb, hwb⟩ : m = 0 ∧ BoxAt w3 B lb ∧ WithOf [boA, boA] 1 (boS 1) lb := by
    rcases hres with ⟨h1, -, h2, h3⟩ | ⟨-, h, -⟩ | ⟨-, -, h, -⟩
    · exact ⟨h1, h2, h3⟩
    · rw [bo_all] at h; cases h
    · exact absurd (bo_ok 1).2 h
  clear hres
  have hB3 : Below w.heap.size w w3 := hB2.trans (hb3.mono hB2.size)
  have ha3 := ha.below hb3
  have hTA3 := hTA2.below hb3
  clear ha hTA2 hb3 hB2
  go_wp2_with fail
  generalize hX4 : World.alloc (World.alloc w3 _) _ = W4
  have hb4 : Below w3.heap.size w3 W4 := (by rw [← hX4]; exact bel)
  have KA : BoxIs W4 w3.heap.size (([⟨la, A, ca⟩] : List BxArg).flatMap BxArg.cells).toArray := (by rw [← hX4]; exact (BoxIs.new (t := 48) rfl).alloc _)
  have KB : BoxIs W4 (w3.heap.size + 1) (([⟨lb, B, cb⟩] : List BxArg).flatMap BxArg.cells).toArray := (by rw [← hX4]; exact BoxIs.new (t := 48) (by simp))
  have hB4 : Below w.heap.size w W4 := hB3.trans (hb4.mono hB3.size)
  have hBA : BoxesAt W4 (some ⟨w3.heap.size, 0, none⟩) [⟨la, A, ca⟩] := ⟨rd_lit _ (fun x => rfl) KA, fun x hx => by
    rw [List.mem_singleton.1 hx]; exact ha3.below hb4, by simp⟩
  have hBB : BoxesAt W4 (some ⟨w3.heap.size + 1, 0, none⟩) [⟨lb, B, cb⟩] := ⟨rd_lit _ (fun x => rfl) KB, fun x hx => by
    rw [List.mem_singleton.1 hx]; exact hb.below hb4, by simp⟩
  have hTA4 := hTA3.below hb4
  have hlen : ∀ x ∈ ([⟨la, A, ca⟩] : List BxArg) ++ [⟨lb, B, cb⟩], x.l.length ≤ 1048576 := fun x hx => by
    rcases List.mem_append.1 hx with h | h <;> rw [List.mem_singleton.1 h]
    · obtain ⟨x0, x1, e, -⟩ := with_0 hwa; rw [e]; simp
    · obtain ⟨x0, x1, e, -⟩ := with_1 hwb; rw [e]; simp
  have hok : ∀ x ∈ ([⟨la, A, ca⟩] : List BxArg) ++ [⟨lb, B, cb⟩], ∀ s ∈ x.l, StOk 1048600 s.s := fun x hx s hs => by
    rcases List.mem_append.1 hx with h | h <;> rw [List.mem_singleton.1 h] at hs
    · obtain ⟨N, h1, h2⟩ := hwa.ok s hs; exact h2.mono h1
    · obtain ⟨N, h1, h2⟩ := hwb.ok s hs; exact h2.mono h1
  have HPL := Lib.hid (bo_meet (A := A) (B := B) (ca := ca) (cb := cb) hwa hwb)
  have hM := bxMeet_any [⟨la, A, ca⟩] [⟨lb, B, cb⟩] (-1) (some ⟨w3.heap.size, 0, none⟩) (some ⟨w3.heap.size + 1, 0, none⟩) 1 1 W4 hBA hBB (by simp) (by simp) hlen hok (HE.out.below hB4)
  clear hX4 KA KB hBA hBB hlen hok ha3 hb hwa hwb hTA3 hb4 hB3
  refine hM.mono ?_
  rintro e w5 ⟨R, C, c, m, rfl, hres, hb5⟩
  clear hM
  obtain ⟨rfl, hR, h1, h2, h3, hg⟩ : m = 0 ∧ BoxesAt w5 C R ∧ R.length = 1 ∧ anyBox [boA, boA] R [boV 1, boV 0] = true ∧ anyBox [boA, boA] R [Vl.zero, boV 0] = false ∧ ∀ x ∈ R, GoodBx x := by
    obtain ⟨hal, hpl⟩ := HPL.out
    rcases hres with ⟨e1, -, e2, e3, -, e5, e6⟩ | ⟨-, h, -⟩ | ⟨-, -, -, h⟩
    · obtain ⟨q1, q2, q3⟩ := hpl R e3 (e6 ⟨la, A, ca⟩ (by simp) ⟨lb, B, cb⟩ (by simp))
      exact ⟨e1, e2, q1, q2, q3, e5⟩
    · rw [show ([⟨la, A, ca⟩] : List BxArg) ++ [⟨lb, B, cb⟩] = [⟨la, A, ca⟩, ⟨lb, B, cb⟩] from rfl, hal] at h
      cases h
    · have h4 := (bagOf_len (allM (keysOf [⟨la, A, ca⟩]) (keysOf [⟨lb, B, cb⟩])) []).2
      have h5 : (allM (keysOf [⟨la, A, ca⟩]) (keysOf [⟨lb, B, cb⟩])).length = 1 := rfl
      rw [h5, List.length_nil] at h4
      have h6 : budM (-1) = 4096 := rfl
      rw [h6] at h
      omega
  have HRR := Lib.hid hR
  have hTA5 := hTA4.below hb5
  have hB5 : Below w.heap.size w w5 := hB4.trans (hb5.mono hB4.size)
  have hhas := fun (vs : List Vl) (V : Option Addr) (cv : Nat) (W : World) (hW : Below w5.heap.size w5 W) (hV : ValsAt W V vs) => bxHas_any [boA, boA] R vs (some ⟨T, 0, none⟩) C V 2 c cv W (hTA5.below hW) (hR.below hW) hV (fun b hb x hx => by
    have := ((hg b hb).2 x hx).1
    have q1 := this.ls
    have q2 := this.lw
    exact ⟨by omega, by omega⟩) (HE.out.below (hB5.trans (hW.mono hB5.size)))
  rw [h1] at hhas ⊢
  have HH := Lib.hid hhas
  have H2 := Lib.hid h2
  have H3 := Lib.hid h3
  clear hres HPL hR hhas h1 h2 h3 hg hTA4 hTA5 hB4 hb5
  go_wp2_with fail
  generalize hX6 : World.alloc w5 _ = W6
  have hb6 : Below w5.heap.size w5 W6 := (by rw [← hX6]; exact Below.alloc (Below.refl _ _) (Nat.le_refl _) _)
  have hV6 : ValsAt W6 (some ⟨w5.heap.size, 0, none⟩) [boV 1, boV 0] := ⟨rd_lit _ (fun x => rfl) (by rw [← hX6]; exact BoxIs.new (t := 30) rfl), fun x hx => by
    have h : x = boV 1 ∨ x = boV 0 := by simpa using hx
    rcases h with h | h <;> rw [h]
    · exact boV_wf 1 (.inr rfl)
    · exact boV_wf 0 (.inl rfl), by simp⟩
  clear hX6
  refine (HH.out [boV 1, boV 0] _ 2 W6 hb6 hV6).mono ?_
  rintro e w7 ⟨rfl, hb7⟩
  rw [H2.out]
  have hB7 : Below w5.heap.size w5 w7 := hb6.trans (hb7.mono hb6.size)
  clear hb6 hV6 hb7
  go_wp2_with fail
  generalize hX8 : World.alloc w7 _ = W8
  have hb8 : Below w7.heap.size w7 W8 := (by rw [← hX8]; exact Below.alloc (Below.refl _ _) (Nat.le_refl _) _)
  have hV8 : ValsAt W8 (some ⟨w7.heap.size, 0, none⟩) [Vl.zero, boV 0] := ⟨rd_lit _ (fun x => rfl) (by rw [← hX8]; exact BoxIs.new (t := 30) rfl), fun x hx => by
    have h : x = Vl.zero ∨ x = boV 0 := by simpa using hx
    rcases h with h | h <;> rw [h]
    · exact zero_wf
    · exact boV_wf 0 (.inl rfl), by simp⟩
  clear hX8
  have hB8 : Below w5.heap.size w5 W8 := hB7.trans (hb8.mono hB7.size)
  refine (HH.out [Vl.zero, boV 0] _ 2 W8 hB8 hV8).mono ?_
  rintro e w9 ⟨rfl, hb9⟩
  rw [H3.out]
  have hB9 : Below w.heap.size w w9 := hB5.trans ((hB8.trans (hb9.mono hB8.size)).mono hB5.size)
  clear hb8 hV8 hb9 hB8 hB7
  go_wp2_with fail
  go_ret
  exact ⟨rfl, hB9⟩
end Go.Proofs.YtankkadnhdfpfaaGreatDoor
