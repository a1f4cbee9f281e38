import Derived.Test.YtankkadnhdfpfaaGreatDoorPk33
import Derived.Test.YtankkadnhdfpfaaGreatDoorPk41
import Derived.Test.YtankkadnhdfpfaaGreatDoorPk43
/- soffitlaw15.SetsSplit: walked. -/
set_option linter.unusedSimpArgs false
set_option linter.unusedVariables false
namespace Go.Proofs.YtankkadnhdfpfaaGreatDoor
open Go.RowKit Sp Wd

theorem less_none (g f : Sg) : (g.meet (f.meet (lessG g))).nul = false ∧ (∀ n, (g.meet (f.meet (lessG g))).P n = false) ∧ (∀ x, (g.meet (f.meet (lessG g))).Q x = false) ∧ (g.meet (f.meet (lessG g))).f = false ∧ (g.meet (f.meet (lessG g))).t = false := by
  refine ⟨?_, fun n => ?_, fun x => ?_, ?_, ?_⟩
  · show (g.nul && (f.nul && !g.nul)) = false
    cases g.nul <;> simp
  · show (g.P n && (f.P n && ((allG g.k).P n && !g.P n))) = false
    cases g.P n <;> simp
  · show (g.Q x && (f.Q x && ((allG g.k).Q x && !g.Q x))) = false
    cases g.Q x <;> simp
  · show (g.f && (f.f && ((allG g.k).f && !g.f))) = false
    cases g.f <;> simp
  · show (g.t && (f.t && ((allG g.k).t && !g.t))) = false
    cases g.t <;> simp
theorem split_empty {f : Sg} {r r2 r3 r4 : St} (hk : 1 ≤ f.k ∧ f.k ≤ 4) (hr : r.k = f.k) (i2 : Is (f.meet (lessG r.sg)) r2) (al2 : r2.al = true → (r.k == 2 && r.al) = false) (i3 : Is (r.sg.meet r2.sg) r3) (al3 : r3.al = true → r.al = true ∧ r2.al = true) (i4 : Is r3.sg r4) (al4 : r4.al = (r3.k == 2 && r3.al)) : emptyG r4 = true := by
  have hrk : r.sg.k = f.k := hr
  rw [i3.sg_eq (by show 1 ≤ r.sg.k ∧ r.sg.k ≤ 4; omega), i2.sg_eq (by show 1 ≤ f.k ∧ f.k ≤ 4; omega)] at i4
  obtain ⟨h1, h2, h3, h4, h5⟩ := less_none r.sg f
  refine empty_none i4 h1 h2 h3 h4 h5 (fun h => ?_)
  have hk2 : r.k = 2 := h
  rw [Bool.eq_false_iff]
  intro h6
  rw [al4, Bool.and_eq_true] at h6
  obtain ⟨h7, h8⟩ := al3 h6.2
  have h9 := al2 h8
  rw [h7, hk2] at h9
  cases h9
set_option maxRecDepth 100000 in
set_option maxHeartbeats 6400000 in
theorem lawSplit_no (t : Ty) (c : Cel) (v : Vl) (T A : Option Addr) (ct ca : Nat) (w : World) (hno : (tySnd t && uSndB c) = false) (hT : TyAt w t T) (hA : RdL w 13 A (c.ts.map Tst.cells)) (hw : ∀ x ∈ c.ts, x.wf) (hn : c.ts.length ≤ 9223372036854775807) (hv : v.wf) (hE : EnvP w) :
    Calls Tryz.prog 3 #[.agg #[.int .i64 t.k, .int .i64 t.sc, .bool t.c.any, .bool t.c.neg, .slice T t.c.ts.length ct], .agg #[.bool c.any, .bool c.neg, .slice A c.ts.length ca], .agg #[.int .i64 v.k, .int .i64 v.n, .int .i64 v.s, .string v.t, .int .i64 v.i]] w fun e w' => e = .returned (.bool true) ∧ Below w.heap.size w w' := by
  have HT := Lib.hid hT
  have HA := Lib.hid hA
  have HW := Lib.hid hw
  have HN := Lib.hid hn
  have HV := Lib.hid hv
  have HE := Lib.hid hE
  clear hT hA hw hn hv hE
  go_enter Tryz.func3, Tryz.ntmps3
  go_wp2_with fail
  generalize hW0 : ((w.alloc _).alloc _).alloc _ = W0
  have hb0 : Below w.heap.size w W0 := (by rw [← hW0]; exact bel)
  have K0 : BoxIs W0 w.heap.size #[.int .i64 t.k, .int .i64 t.sc, .bool t.c.any, .bool t.c.neg, .slice T t.c.ts.length ct] := (by rw [← hW0]; exact ((BoxIs.new (t := 26) rfl).alloc _).alloc _)
  have K1 : BoxIs W0 (w.heap.size + 1) #[.bool c.any, .bool c.neg, .slice A c.ts.length ca] := (by rw [← hW0]; exact (BoxIs.new (t := 24) (by simp)).alloc _)
  have K2 : BoxIs W0 (w.heap.size + 2) #[.int .i64 v.k, .int .i64 v.n, .int .i64 v.s, .string v.t, .int .i64 v.i] := (by rw [← hW0]; exact BoxIs.new (t := 30) (by simp))
  have hT0 := HT.out.below hb0
  have hA0 := HA.out.below hb0
  have hE0 := HE.out.below hb0
  clear hW0
  refine (setOf_no t c T A ct ca _ hno hT0 hA0 HW.out HN.out hE0.env).mono ?_
  rintro e w1 ⟨rfl, hb1⟩
  have K0 := K0.below hb1
  have K1 := K1.below hb1
  have K2 := K2.below hb1
  have c0 := K0.c
  have l0 := K0.lt
  have c1 := K1.c
  have l1 := K1.lt
  have c2 := K2.c
  have l2 := K2.lt
  have hB1 : Below w.heap.size w w1 := hb0.trans (hb1.mono hb0.size)
  clear hb0 hb1
  go_wp2_with fail
  generalize hXW1 : World.alloc w1 _ = W1
  have hbW1 : Below w1.heap.size w1 W1 := (by rw [← hXW1]; exact Below.alloc (Below.refl _ _) (Nat.le_refl _) _)
  have KA : BoxIs W1 w1.heap.size #[.int .i64 0, .slice none 0 0, .bool false, .slice none 0 0, .int .i64 0, .bool false] := (by rw [← hXW1]; exact BoxIs.new (t := 36) rfl)
  obtain ⟨bA, hqA⟩ : ∃ bA, w1.heap.size = bA := ⟨_, rfl⟩
  rw [hqA] at KA
  rw [hqA]
  clear hXW1 hqA
  have K0 := K0.below hbW1
  have K1 := K1.below hbW1
  have K2 := K2.below hbW1
  have hB2 : Below w.heap.size w W1 := hB1.trans (hbW1.mono hB1.size)
  clear c0 l0 c1 l1 c2 l2
  have HO : Hid (∃ n : Int, n ≠ 0 ∧ Calls Tryz.prog 14 #[.agg #[.int .i64 t.k, .int .i64 t.sc, .bool t.c.any, .bool t.c.neg, .slice T t.c.ts.length ct], .agg #[.int .i64 0, .slice none 0 0, .bool false, .slice none 0 0, .int .i64 0, .bool false]] W1 fun e w' => e = .returned (.tuple #[.agg #[.int .i64 0, .slice none 0 0, .bool false, .slice none 0 0, .int .i64 0, .bool false], .int .i64 n]) ∧ Below W1.heap.size W1 w') := Lib.hid (by
    cases hTy : tySnd t
    · exact ⟨2, by decide, setOther_no t ⟨0, [], false, [], 0, false⟩ T none none ct 0 0 W1 hTy (HT.out.below hB2) (HE.out.env.below hB2)⟩
    · exact ⟨1, by decide, setOther_arg t ⟨0, [], false, [], 0, false⟩ T none none ct 0 0 W1 hTy (by have := (ty_of hTy).1; show (0 : Int) ≠ t.k; omega) (HT.out.below hB2) (HE.out.env.below hB2)⟩)
  obtain ⟨n, hn0, hO⟩ := HO.out
  clear HO hn0
  refine hO.mono ?_
  rintro e w2 ⟨rfl, hb2⟩
  clear hO
  have K0 := K0.below hb2
  have K1 := K1.below hb2
  have K2 := K2.below hb2
  have KA := KA.below hb2
  have c0 := K0.c
  have l0 := K0.lt
  have c1 := K1.c
  have l1 := K1.lt
  have c2 := K2.c
  have l2 := K2.lt
  have cA := KA.c
  have lA := KA.lt
  have hB3 : Below w.heap.size w w2 := hB2.trans (hb2.mono hB2.size)
  clear hB1 hb2 hbW1 hB2
  go_wp2_with fail
  generalize hXW2 : World.alloc w2 _ = W2
  have hbW2 : Below w2.heap.size w2 W2 := (by rw [← hXW2]; exact Below.alloc (Below.refl _ _) (Nat.le_refl _) _)
  have KB : BoxIs W2 w2.heap.size #[.int .i64 0, .slice none 0 0, .bool false, .slice none 0 0, .int .i64 0, .bool false] := (by rw [← hXW2]; exact BoxIs.new (t := 36) rfl)
  obtain ⟨bB, hqB⟩ : ∃ bB, w2.heap.size = bB := ⟨_, rfl⟩
  rw [hqB] at KB
  rw [hqB]
  clear hXW2 hqB
  have hB4 : Below w.heap.size w W2 := hB3.trans (hbW2.mono hB3.size)
  refine (awake15_any _ (HE.out.below hB4)).mono ?_
  rintro e w3 ⟨rfl, hb3⟩
  clear c0 l0 c1 l1 c2 l2 cA lA
  have hB5 : Below w.heap.size w w3 := hB4.trans (hb3.mono hB4.size)
  clear hB3 hB4 hb3 hbW2 KB K0 K1 K2 KA
  go_wp2_with fail
  refine (awake15_any _ (HE.out.below hB5)).mono ?_
  rintro e w4 ⟨rfl, hb4⟩
  go_wp2_with fail
  go_ret
  exact ⟨rfl, bel⟩
set_option maxRecDepth 100000 in
set_option maxHeartbeats 6400000 in
theorem lawSplit_yes (t : Ty) (c : Cel) (v : Vl) (T A : Option Addr) (ct ca : Nat) (w : World) (hTy : tySnd t = true) (hu : uSndB c = true) (hT : TyAt w t T) (hA : RdL w 13 A (c.ts.map Tst.cells)) (hw : ∀ x ∈ c.ts, x.wf) (hn : c.ts.length ≤ 9223372036854775807) (hv : v.wf) (hE : EnvP w) :
    Calls Tryz.prog 3 #[.agg #[.int .i64 t.k, .int .i64 t.sc, .bool t.c.any, .bool t.c.neg, .slice T t.c.ts.length ct], .agg #[.bool c.any, .bool c.neg, .slice A c.ts.length ca], .agg #[.int .i64 v.k, .int .i64 v.n, .int .i64 v.s, .string v.t, .int .i64 v.i]] w fun e w' => e = .returned (.bool true) ∧ Below w.heap.size w w' := by
  obtain ⟨hKd, hSc, -, -⟩ := ty_of hTy
  have HT := Lib.hid hT
  have HA := Lib.hid hA
  have HW := Lib.hid hw
  have HN := Lib.hid hn
  have HV := Lib.hid hv
  have HE := Lib.hid hE
  clear hT hA hw hn hv hE
  go_enter Tryz.func3, Tryz.ntmps3
  go_wp2_with fail
  generalize hW0 : ((w.alloc _).alloc _).alloc _ = W0
  have hb0 : Below w.heap.size w W0 := (by rw [← hW0]; exact bel)
  have K0 : BoxIs W0 w.heap.size #[.int .i64 t.k, .int .i64 t.sc, .bool t.c.any, .bool t.c.neg, .slice T t.c.ts.length ct] := (by rw [← hW0]; exact ((BoxIs.new (t := 26) rfl).alloc _).alloc _)
  have K1 : BoxIs W0 (w.heap.size + 1) #[.bool c.any, .bool c.neg, .slice A c.ts.length ca] := (by rw [← hW0]; exact (BoxIs.new (t := 24) (by simp)).alloc _)
  have K2 : BoxIs W0 (w.heap.size + 2) #[.int .i64 v.k, .int .i64 v.n, .int .i64 v.s, .string v.t, .int .i64 v.i] := (by rw [← hW0]; exact BoxIs.new (t := 30) (by simp))
  have hT0 := HT.out.below hb0
  have hA0 := HA.out.below hb0
  have hE0 := HE.out.below hb0
  clear hW0
  refine (setOf_any t c T A ct ca _ hTy hu hT0 hA0 HW.out HN.out hE0.env).mono ?_
  rintro e w1 ⟨r, X, Y, cx, cy, rfl, hR, ir, okr, hb1⟩
  have K0 := K0.below hb1
  have K1 := K1.below hb1
  have K2 := K2.below hb1
  have c0 := K0.c
  have l0 := K0.lt
  have c1 := K1.c
  have l1 := K1.lt
  have c2 := K2.c
  have l2 := K2.lt
  have hB1 : Below w.heap.size w w1 := hb0.trans (hb1.mono hb0.size)
  have hrk : r.k = t.k := ir.k.trans (fullG_k t)
  have HRK := Lib.hid hrk
  clear hb0 hb1 hrk hT0 hA0 hE0
  go_wp2_with fail
  generalize hXW1 : World.alloc w1 _ = W1
  have hbW1 : Below w1.heap.size w1 W1 := (by rw [← hXW1]; exact Below.alloc (Below.refl _ _) (Nat.le_refl _) _)
  have KA : BoxIs W1 w1.heap.size #[.int .i64 r.k, .slice X r.sp.length cx, .bool r.al, .slice Y r.ws.length cy, .int .i64 r.b, .bool r.nul] := (by rw [← hXW1]; exact BoxIs.new (t := 36) rfl)
  obtain ⟨bA, hqA⟩ : ∃ bA, w1.heap.size = bA := ⟨_, rfl⟩
  rw [hqA] at KA
  rw [hqA]
  clear hXW1 hqA
  have K0 := K0.below hbW1
  have K1 := K1.below hbW1
  have K2 := K2.below hbW1
  have hB2 : Below w.heap.size w W1 := hB1.trans (hbW1.mono hB1.size)
  have hR1 := hR.below hbW1
  clear c0 l0 c1 l1 c2 l2
  refine (setOther_any t r 18 T X Y ct cx cy _ hTy HRK.out (HT.out.below hB2) hR1 okr (by omega) (HE.out.env.below hB2)).mono ?_
  rintro e w2 ⟨r2, X2, Y2, cx2, cy2, rfl, hR2, i2, ok2, al2, hb2⟩
  have AL2 := Lib.hid al2
  have hR1 := hR1.below hb2
  have K0 := K0.below hb2
  have K1 := K1.below hb2
  have K2 := K2.below hb2
  have KA := KA.below hb2
  have c0 := K0.c
  have l0 := K0.lt
  have c1 := K1.c
  have l1 := K1.lt
  have c2 := K2.c
  have l2 := K2.lt
  have cA := KA.c
  have lA := KA.lt
  have hB3 : Below w.heap.size w w2 := hB2.trans (hb2.mono hB2.size)
  have HRK2 : Hid (r2.k = t.k) := Lib.hid (i2.k.trans (fullG_k t))
  clear hB1 hb2 hbW1 hB2 al2 hR
  go_wp2_with fail
  generalize hXW2 : World.alloc w2 _ = W2
  have hbW2 : Below w2.heap.size w2 W2 := (by rw [← hXW2]; exact Below.alloc (Below.refl _ _) (Nat.le_refl _) _)
  have KB : BoxIs W2 w2.heap.size #[.int .i64 r2.k, .slice X2 r2.sp.length cx2, .bool r2.al, .slice Y2 r2.ws.length cy2, .int .i64 r2.b, .bool r2.nul] := (by rw [← hXW2]; exact BoxIs.new (t := 36) rfl)
  obtain ⟨bB, hqB⟩ : ∃ bB, w2.heap.size = bB := ⟨_, rfl⟩
  rw [hqB] at KB
  rw [hqB]
  clear hXW2 hqB
  have K0 := K0.below hbW2
  have K1 := K1.below hbW2
  have K2 := K2.below hbW2
  have KA := KA.below hbW2
  have hB4 : Below w.heap.size w W2 := hB3.trans (hbW2.mono hB3.size)
  have hR1 := hR1.below hbW2
  have hR2 := hR2.below hbW2
  refine (awake15_any _ (HE.out.below hB4)).mono ?_
  rintro e w3 ⟨rfl, hb3⟩
  clear c0 l0 c1 l1 c2 l2 cA lA
  have K0 := K0.below hb3
  have K1 := K1.below hb3
  have K2 := K2.below hb3
  have KA := KA.below hb3
  have KB := KB.below hb3
  have c0 := K0.c
  have l0 := K0.lt
  have c1 := K1.c
  have l1 := K1.lt
  have c2 := K2.c
  have l2 := K2.lt
  have cA := KA.c
  have lA := KA.lt
  have cB := KB.c
  have lB := KB.lt
  have hB5 : Below w.heap.size w w3 := hB4.trans (hb3.mono hB4.size)
  have hR1 := hR1.below hb3
  have hR2 := hR2.below hb3
  clear hB3 hB4 hb3 hbW2
  go_wp2_with fail
  refine (setMeet2_any r r2 18 (9 + (18 + 1)) X Y X2 Y2 cx cy cx2 cy2 _ (HRK.out.trans HRK2.out.symm) (by have := HRK.out; omega) hR1 hR2 okr ok2 (by omega) (by omega) (by omega) (HE.out.env.below hB5)).mono ?_
  rintro e w4 ⟨r3, X3, Y3, cx3, cy3, rfl, hR3, i3, ok3, al3, hb4⟩
  have AL3 := Lib.hid al3
  clear c0 l0 c1 l1 c2 l2 cA lA cB lB
  have K0 := K0.below hb4
  have K1 := K1.below hb4
  have K2 := K2.below hb4
  have KA := KA.below hb4
  have KB := KB.below hb4
  have c0 := K0.c
  have l0 := K0.lt
  have c1 := K1.c
  have l1 := K1.lt
  have c2 := K2.c
  have l2 := K2.lt
  have cA := KA.c
  have lA := KA.lt
  have cB := KB.c
  have lB := KB.lt
  have hB6 : Below w.heap.size w w4 := hB5.trans (hb4.mono hB5.size)
  have hR1 := hR1.below hb4
  have hR2 := hR2.below hb4
  clear hB5 hb4 al3
  go_wp2_with fail
  generalize hXW4 : World.alloc w4 _ = W4
  have hbW4 : Below w4.heap.size w4 W4 := (by rw [← hXW4]; exact Below.alloc (Below.refl _ _) (Nat.le_refl _) _)
  have KC : BoxIs W4 w4.heap.size #[.int .i64 r3.k, .slice X3 r3.sp.length cx3, .bool r3.al, .slice Y3 r3.ws.length cy3, .int .i64 r3.b, .bool r3.nul] := (by rw [← hXW4]; exact BoxIs.new (t := 36) rfl)
  obtain ⟨bC, hqC⟩ : ∃ bC, w4.heap.size = bC := ⟨_, rfl⟩
  rw [hqC] at KC
  rw [hqC]
  clear hXW4 hqC
  have K0 := K0.below hbW4
  have K1 := K1.below hbW4
  have K2 := K2.below hbW4
  have KA := KA.below hbW4
  have KB := KB.below hbW4
  have hB7 : Below w.heap.size w W4 := hB6.trans (hbW4.mono hB6.size)
  have hR1 := hR1.below hbW4
  have hR2 := hR2.below hbW4
  have hR3 := hR3.below hbW4
  clear c0 l0 c1 l1 c2 l2 cA lA cB lB
  have HEM : Hid (∀ W, Below W4.heap.size W4 W → Calls Tryz.prog 17 #[.agg #[.int .i64 r3.k, .slice X3 r3.sp.length cx3, .bool r3.al, .slice Y3 r3.ws.length cy3, .int .i64 r3.b, .bool r3.nul]] W fun e w' => e = .returned (.bool true) ∧ Below W.heap.size W w') := Lib.hid (fun W hW => by
    refine (setEmpty_any r3 (18 + (9 + (18 + 1))) X3 Y3 cx3 cy3 W (hR3.below hW) ok3 (by omega) (HE.out.env.below (hB7.trans (hW.mono hB7.size)))).mono ?_
    rintro e w' ⟨r4, rfl, i4, al4, hb⟩
    exact ⟨ret_bool (split_empty (by rw [fullG_k]; exact hKd) (HRK.out.trans (fullG_k t).symm) i2 AL2.out i3 AL3.out i4 al4), hb⟩)
  have HHA : Hid (∀ W, Below W4.heap.size W4 W → Calls Tryz.prog 18 #[.agg #[.int .i64 t.k, .int .i64 t.sc, .bool t.c.any, .bool t.c.neg, .slice T t.c.ts.length ct], .agg #[.int .i64 r.k, .slice X r.sp.length cx, .bool r.al, .slice Y r.ws.length cy, .int .i64 r.b, .bool r.nul], .agg #[.int .i64 v.k, .int .i64 v.n, .int .i64 v.s, .string v.t, .int .i64 v.i]] W fun e w' => e = .returned (.bool (hasSt t r v)) ∧ Below W.heap.size W w') := Lib.hid (fun W hW =>
    setHas_any t r v T X Y ct cx cy W (HT.out.below (hB7.trans (hW.mono hB7.size))) (hR1.below hW) HV.out (by have := okr.ls; omega) (by have := okr.lw; omega) (HE.out.env.below (hB7.trans (hW.mono hB7.size))))
  have HHB : Hid (∀ W, Below W4.heap.size W4 W → Calls Tryz.prog 18 #[.agg #[.int .i64 t.k, .int .i64 t.sc, .bool t.c.any, .bool t.c.neg, .slice T t.c.ts.length ct], .agg #[.int .i64 r2.k, .slice X2 r2.sp.length cx2, .bool r2.al, .slice Y2 r2.ws.length cy2, .int .i64 r2.b, .bool r2.nul], .agg #[.int .i64 v.k, .int .i64 v.n, .int .i64 v.s, .string v.t, .int .i64 v.i]] W fun e w' => e = .returned (.bool (inTy t v && !hasSt t r v)) ∧ Below W.heap.size W w') := Lib.hid (fun W hW => by
    rw [← has_other hTy HRK.out i2]
    exact setHas_any t r2 v T X2 Y2 ct cx2 cy2 W (HT.out.below (hB7.trans (hW.mono hB7.size))) (hR2.below hW) HV.out (by have := ok2.ls; omega) (by have := ok2.lw; omega) (HE.out.env.below (hB7.trans (hW.mono hB7.size))))
  have HIN : Hid (∀ W, Below W4.heap.size W4 W → Calls Tryz.prog 19 #[.agg #[.int .i64 t.k, .int .i64 t.sc, .bool t.c.any, .bool t.c.neg, .slice T t.c.ts.length ct], .agg #[.int .i64 v.k, .int .i64 v.n, .int .i64 v.s, .string v.t, .int .i64 v.i]] W fun e w' => e = .returned (.bool (inTy t v)) ∧ Below W.heap.size W w') := Lib.hid (fun W hW =>
    setIn_any t v T ct W (HT.out.below (hB7.trans (hW.mono hB7.size))) HV.out (HE.out.env.below (hB7.trans (hW.mono hB7.size))))
  have c0 := fun (p : AtB W4) => (K0.below p.hb).c
  have c2 := fun (p : AtB W4) => (K2.below p.hb).c
  have cA := fun (p : AtB W4) => (KA.below p.hb).c
  have cB := fun (p : AtB W4) => (KB.below p.hb).c
  have cC := fun (p : AtB W4) => (KC.below p.hb).c
  have hno : inTy t v = false → hasSt t r v = false := has_no
  generalize inTy t v = I at *
  generalize hasSt t r v = H at *
  clear hB6 hbW4 hR1 hR2 hR3 i2 i3 ok2 ok3 okr ir AL2 AL3 K0 K1 K2 KA KB KC
  cases I
  · rw [hno rfl] at HHA HHB
    clear hno
    refine wp_region_quiet_at (by kernel_rfl) (by kernel_rfl) ?_
    repeat (go_big_quiet_step ((first
          | (go_at_call 17; with_reducible exact AtB.quiet _ (fun W hW => HEM.out W hW))
          | (go_at_call 18; with_reducible exact AtB.quiet _ (fun W hW => HHA.out W hW))
          | (go_at_call 18; with_reducible exact AtB.quiet _ (fun W hW => HHB.out W hW))
          | (go_at_call 19; with_reducible exact AtB.quiet _ (fun W hW => HIN.out W hW)))))
    refine wpQuiet_nil ?_
    intro _ hw'
    obtain ⟨pq, hw''⟩ := hw'
    subst hw''
    have hbq := hB7.trans (pq.hb.mono hB7.size)
    go_wp2_with fail
    go_ret
    exact ⟨rfl, hbq⟩
  · clear hno
    cases H
    all_goals
      refine wp_region_quiet_at (by kernel_rfl) (by kernel_rfl) ?_
      repeat (go_big_quiet_step ((first
          | (go_at_call 17; with_reducible exact AtB.quiet _ (fun W hW => HEM.out W hW))
          | (go_at_call 18; with_reducible exact AtB.quiet _ (fun W hW => HHA.out W hW))
          | (go_at_call 18; with_reducible exact AtB.quiet _ (fun W hW => HHB.out W hW))
          | (go_at_call 19; with_reducible exact AtB.quiet _ (fun W hW => HIN.out W hW)))))
      refine wpQuiet_nil ?_
      intro _ hw'
      obtain ⟨pq, hw''⟩ := hw'
      subst hw''
      have hbq := hB7.trans (pq.hb.mono hB7.size)
      go_wp2_with fail
      go_ret
      exact ⟨rfl, hbq⟩
theorem lawSplit_any (t : Ty) (c : Cel) (v : Vl) (T A : Option Addr) (ct ca : Nat) (w : World) (hT : TyAt w t T) (hA : RdL w 13 A (c.ts.map Tst.cells)) (hw : ∀ x ∈ c.ts, x.wf) (hn : c.ts.length ≤ 9223372036854775807) (hv : v.wf) (hE : EnvP w) :
    Calls Tryz.prog 3 #[.agg #[.int .i64 t.k, .int .i64 t.sc, .bool t.c.any, .bool t.c.neg, .slice T t.c.ts.length ct], .agg #[.bool c.any, .bool c.neg, .slice A c.ts.length ca], .agg #[.int .i64 v.k, .int .i64 v.n, .int .i64 v.s, .string v.t, .int .i64 v.i]] w fun e w' => e = .returned (.bool true) ∧ Below w.heap.size w w' := by
  cases h : (tySnd t && uSndB c)
  · exact lawSplit_no t c v T A ct ca w h hT hA hw hn hv hE
  · rw [Bool.and_eq_true] at h
    exact lawSplit_yes t c v T A ct ca w h.1 h.2 hT hA hw hn hv hE
end Go.Proofs.YtankkadnhdfpfaaGreatDoor
