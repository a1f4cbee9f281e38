import Derived.Test.YtankkadnhdfpfaaGreatDoorPk33
import Derived.Test.YtankkadnhdfpfaaGreatDoorPk45
import Derived.Test.YtankkadnhdfpfaaGreatDoorPk41
import Derived.Test.YtankkadnhdfpfaaGreatDoorPk46
import Derived.Test.YtankkadnhdfpfaaGreatDoorPk47
/- soffitlaw15.SetsOne: walked. -/
set_option linter.unusedSimpArgs false
set_option linter.unusedVariables false
namespace Go.Proofs.YtankkadnhdfpfaaGreatDoor
open Go.RowKit Sp Wd

theorem has_one {t : Ty} {v u : Vl} {r : St} (hin : inTy t v = true) (ir : Is (testG t (isT v)) r) : hasSt t r u = eqB u v := by
  have kd := (ty_of (in_fit hin).1).1
  cases hi : inTy t u
  · rw [has_no hi]
    cases he : eqB u v
    · rfl
    · rw [(eqB_iff _ _).1 he, hin] at hi; cases hi
  · rw [has_in hi (ir.k.trans (testG_k _ _)), ir.sg_eq (by rw [testG_k]; exact kd), one_has hin hi]
theorem empty_no {g : Sg} {s : St} (is : Is g s) (hk : 1 ≤ g.k ∧ g.k ≤ 4) (he : emptyG s = true) : g.nul = false ∧ noneV g := by
  unfold emptyG at he
  rw [Bool.and_eq_true, Bool.not_eq_true', is.nul] at he
  obtain ⟨h1, h2⟩ := he
  obtain ⟨d1, d2, d3⟩ := is.cut
  have e := is.k
  refine ⟨h1, ?_⟩
  by_cases h : s.k = 2
  · rw [if_pos h, Bool.and_eq_true, Bool.not_eq_true', List.isEmpty_iff] at h2
    have f3 := d3 (by omega)
    refine ⟨d1 (by unfold numK; simp; omega), fun x => ?_, f3.1, f3.2⟩
    rw [← is.ws, h2.1, h2.2]; exact inW_false x
  · rw [if_neg h, Bool.and_eq_true, List.isEmpty_iff, beq_iff_eq] at h2
    have hb := h2.2
    rw [is.b] at hb
    refine ⟨fun n => by rw [← is.sp, h2.1]; rfl, d2 (by omega), ?_⟩
    cases hf : g.f <;> cases ht : g.t <;> rw [hf, ht] at hb <;> first | exact ⟨rfl, rfl⟩ | (simp [bN] at hb)
theorem one_full {t : Ty} {v : Vl} {r r4 : St} (hin : inTy t v = true) (ir : Is (testG t (isT v)) r) (i4 : Is r.sg r4) : emptyG r4 = false := by
  have kd := (ty_of (in_fit hin).1).1
  cases he : emptyG r4
  · rfl
  · rw [ir.sg_eq (by rw [testG_k]; exact kd)] at i4
    obtain ⟨h1, h2⟩ := empty_no i4 (by rw [testG_k]; exact kd) he
    have h3 : hasV t.sc (testG t (isT v)) v = true := (one_has hin hin).trans ((eqB_iff _ _).2 rfl)
    by_cases h0 : v.k = 0
    · unfold hasV at h3; rw [if_pos h0, h1] at h3; cases h3
    · rw [none_has h2 t.sc h0] at h3; cases h3
set_option maxRecDepth 100000 in
set_option maxHeartbeats 6400000 in
theorem lawOne_no (t : Ty) (v u : Vl) (T : Option Addr) (ct : Nat) (w : World) (hTy : tySnd t = false) (hT : TyAt w t T) (hv : v.wf) (hu : u.wf) (hE : EnvP w) :
    Calls Tryz.prog 10 #[.agg #[.int .i64 t.k, .int .i64 t.sc, .bool t.c.any, .bool t.c.neg, .slice T t.c.ts.length ct], .agg #[.int .i64 v.k, .int .i64 v.n, .int .i64 v.s, .string v.t, .int .i64 v.i], .agg #[.int .i64 u.k, .int .i64 u.n, .int .i64 u.s, .string u.t, .int .i64 u.i]] w fun e w' => e = .returned (.bool true) ∧ Below w.heap.size w w' := by
  have HT := Lib.hid hT
  have HV := Lib.hid hv
  have HU := Lib.hid hu
  have HE := Lib.hid hE
  clear hT hv hu hE
  go_enter Tryz.func10, Tryz.ntmps10
  go_wp2_with fail
  generalize hW0 : ((w.alloc _).alloc _).alloc _ = W0
  have hb0 : Below w.heap.size w W0 := (by rw [← hW0]; exact bel)
  have K0 : BoxIs W0 w.heap.size #[.int .i64 t.k, .int .i64 t.sc, .bool t.c.any, .bool t.c.neg, .slice T t.c.ts.length ct] := (by rw [← hW0]; exact ((BoxIs.new (t := 26) rfl).alloc _).alloc _)
  have K1 : BoxIs W0 (w.heap.size + 1) #[.int .i64 v.k, .int .i64 v.n, .int .i64 v.s, .string v.t, .int .i64 v.i] := (by rw [← hW0]; exact (BoxIs.new (t := 30) (by simp)).alloc _)
  have K2 : BoxIs W0 (w.heap.size + 2) #[.int .i64 u.k, .int .i64 u.n, .int .i64 u.s, .string u.t, .int .i64 u.i] := (by rw [← hW0]; exact BoxIs.new (t := 30) (by simp))
  have hT0 := HT.out.below hb0
  have hE0 := HE.out.below hb0
  clear hW0
  refine (setOne_no t v T ct _ hTy hT0 HV.out hE0.env).mono ?_
  rintro e w1 ⟨rfl, hb1⟩
  have K0 := K0.below hb1
  have K1 := K1.below hb1
  have K2 := K2.below hb1
  have c0 := K0.c
  have l0 := K0.lt
  have c1 := K1.c
  have l1 := K1.lt
  have c2 := K2.c
  have l2 := K2.lt
  have hB1 : Below w.heap.size w w1 := hb0.trans (hb1.mono hb0.size)
  clear hb0 hb1 hT0 hE0
  go_wp2_with fail
  generalize hXW1 : World.alloc w1 _ = W1
  have hbW1 : Below w1.heap.size w1 W1 := (by rw [← hXW1]; exact Below.alloc (Below.refl _ _) (Nat.le_refl _) _)
  have KA : BoxIs W1 w1.heap.size #[.int .i64 0, .slice none 0 0, .bool false, .slice none 0 0, .int .i64 0, .bool false] := (by rw [← hXW1]; exact BoxIs.new (t := 36) rfl)
  obtain ⟨bA, hqA⟩ : ∃ bA, w1.heap.size = bA := ⟨_, rfl⟩
  rw [hqA] at KA
  rw [hqA]
  clear hXW1 hqA
  have K0 := K0.below hbW1
  have K1 := K1.below hbW1
  have K2 := K2.below hbW1
  have hB2 : Below w.heap.size w W1 := hB1.trans (hbW1.mono hB1.size)
  clear hB1 hbW1
  clear c0 l0 c1 l1 c2 l2
  refine (rSetSound_any t T ct _ (HT.out.below hB2)).mono ?_
  rintro e w2 ⟨rfl, hb2⟩
  rw [hTy]
  have K0 := K0.below hb2
  have K1 := K1.below hb2
  have K2 := K2.below hb2
  have KA := KA.below hb2
  have c0 := K0.c
  have l0 := K0.lt
  have c1 := K1.c
  have l1 := K1.lt
  have c2 := K2.c
  have l2 := K2.lt
  have cA := KA.c
  have lA := KA.lt
  have hB3 : Below w.heap.size w w2 := hB2.trans (hb2.mono hB2.size)
  clear hb2 hB2
  go_wp2_with fail
  refine (awake15_any _ (HE.out.below hB3)).mono ?_
  rintro e w4 ⟨rfl, hb4⟩
  clear c0 l0 c1 l1 c2 l2 cA lA
  have KA := KA.below hb4
  have cA := KA.c
  have lA := KA.lt
  have hB4 : Below w.heap.size w w4 := hB3.trans (hb4.mono hB3.size)
  clear hb4 hB3 K0 K1 K2
  go_wp2_with fail
  refine (rZero_any _).mono ?_
  rintro e w5 ⟨rfl, hb5⟩
  go_wp2_with fail
  go_ret
  exact ⟨rfl, bel⟩
set_option maxRecDepth 100000 in
set_option maxHeartbeats 6400000 in
theorem lawOne_out (t : Ty) (v u : Vl) (T : Option Addr) (ct : Nat) (w : World) (hTy : tySnd t = true) (hin : inTy t v = false) (hT : TyAt w t T) (hv : v.wf) (hu : u.wf) (hE : EnvP w) :
    Calls Tryz.prog 10 #[.agg #[.int .i64 t.k, .int .i64 t.sc, .bool t.c.any, .bool t.c.neg, .slice T t.c.ts.length ct], .agg #[.int .i64 v.k, .int .i64 v.n, .int .i64 v.s, .string v.t, .int .i64 v.i], .agg #[.int .i64 u.k, .int .i64 u.n, .int .i64 u.s, .string u.t, .int .i64 u.i]] w fun e w' => e = .returned (.bool true) ∧ Below w.heap.size w w' := by
  have HT := Lib.hid hT
  have HV := Lib.hid hv
  have HU := Lib.hid hu
  have HE := Lib.hid hE
  clear hT hv hu hE
  go_enter Tryz.func10, Tryz.ntmps10
  go_wp2_with fail
  generalize hW0 : ((w.alloc _).alloc _).alloc _ = W0
  have hb0 : Below w.heap.size w W0 := (by rw [← hW0]; exact bel)
  have K0 : BoxIs W0 w.heap.size #[.int .i64 t.k, .int .i64 t.sc, .bool t.c.any, .bool t.c.neg, .slice T t.c.ts.length ct] := (by rw [← hW0]; exact ((BoxIs.new (t := 26) rfl).alloc _).alloc _)
  have K1 : BoxIs W0 (w.heap.size + 1) #[.int .i64 v.k, .int .i64 v.n, .int .i64 v.s, .string v.t, .int .i64 v.i] := (by rw [← hW0]; exact (BoxIs.new (t := 30) (by simp)).alloc _)
  have K2 : BoxIs W0 (w.heap.size + 2) #[.int .i64 u.k, .int .i64 u.n, .int .i64 u.s, .string u.t, .int .i64 u.i] := (by rw [← hW0]; exact BoxIs.new (t := 30) (by simp))
  have hT0 := HT.out.below hb0
  have hE0 := HE.out.below hb0
  clear hW0
  refine (setOne_out t v T ct _ hTy hin hT0 HV.out hE0.env).mono ?_
  rintro e w1 ⟨rfl, hb1⟩
  have K0 := K0.below hb1
  have K1 := K1.below hb1
  have K2 := K2.below hb1
  have c0 := K0.c
  have l0 := K0.lt
  have c1 := K1.c
  have l1 := K1.lt
  have c2 := K2.c
  have l2 := K2.lt
  have hB1 : Below w.heap.size w w1 := hb0.trans (hb1.mono hb0.size)
  clear hb0 hb1 hT0 hE0
  go_wp2_with fail
  generalize hXW1 : World.alloc w1 _ = W1
  have hbW1 : Below w1.heap.size w1 W1 := (by rw [← hXW1]; exact Below.alloc (Below.refl _ _) (Nat.le_refl _) _)
  have KA : BoxIs W1 w1.heap.size #[.int .i64 0, .slice none 0 0, .bool false, .slice none 0 0, .int .i64 0, .bool false] := (by rw [← hXW1]; exact BoxIs.new (t := 36) rfl)
  obtain ⟨bA, hqA⟩ : ∃ bA, w1.heap.size = bA := ⟨_, rfl⟩
  rw [hqA] at KA
  rw [hqA]
  clear hXW1 hqA
  have K0 := K0.below hbW1
  have K1 := K1.below hbW1
  have K2 := K2.below hbW1
  have hB2 : Below w.heap.size w W1 := hB1.trans (hbW1.mono hB1.size)
  clear hB1 hbW1
  clear c0 l0 c1 l1 c2 l2
  refine (rSetSound_any t T ct _ (HT.out.below hB2)).mono ?_
  rintro e w2 ⟨rfl, hb2⟩
  rw [hTy]
  have K0 := K0.below hb2
  have K1 := K1.below hb2
  have K2 := K2.below hb2
  have KA := KA.below hb2
  have c0 := K0.c
  have l0 := K0.lt
  have c1 := K1.c
  have l1 := K1.lt
  have c2 := K2.c
  have l2 := K2.lt
  have cA := KA.c
  have lA := KA.lt
  have hB3 : Below w.heap.size w w2 := hB2.trans (hb2.mono hB2.size)
  clear hb2 hB2
  go_wp2_with fail
  refine (rIn_any t v T ct _ (HT.out.below hB3) HV.out).mono ?_
  rintro e w3 ⟨rfl, hb3⟩
  rw [hin]
  clear c0 l0 c1 l1 c2 l2 cA lA
  have K0 := K0.below hb3
  have K1 := K1.below hb3
  have K2 := K2.below hb3
  have KA := KA.below hb3
  have c0 := K0.c
  have l0 := K0.lt
  have c1 := K1.c
  have l1 := K1.lt
  have c2 := K2.c
  have l2 := K2.lt
  have cA := KA.c
  have lA := KA.lt
  have hB5 : Below w.heap.size w w3 := hB3.trans (hb3.mono hB3.size)
  clear hb3 hB3
  have hB3 := hB5
  clear hB5
  go_wp2_with fail
  refine (awake15_any _ (HE.out.below hB3)).mono ?_
  rintro e w4 ⟨rfl, hb4⟩
  clear c0 l0 c1 l1 c2 l2 cA lA
  have KA := KA.below hb4
  have cA := KA.c
  have lA := KA.lt
  have hB4 : Below w.heap.size w w4 := hB3.trans (hb4.mono hB3.size)
  clear hb4 hB3 K0 K1 K2
  go_wp2_with fail
  refine (rZero_any _).mono ?_
  rintro e w5 ⟨rfl, hb5⟩
  go_wp2_with fail
  go_ret
  exact ⟨rfl, bel⟩
set_option maxRecDepth 100000 in
set_option maxHeartbeats 6400000 in
theorem lawOne_good (t : Ty) (v u : Vl) (T : Option Addr) (ct : Nat) (w : World) (hTy : tySnd t = true) (hin : inTy t v = true) (hT : TyAt w t T) (hv : v.wf) (hu : u.wf) (hE : EnvP w) :
    Calls Tryz.prog 10 #[.agg #[.int .i64 t.k, .int .i64 t.sc, .bool t.c.any, .bool t.c.neg, .slice T t.c.ts.length ct], .agg #[.int .i64 v.k, .int .i64 v.n, .int .i64 v.s, .string v.t, .int .i64 v.i], .agg #[.int .i64 u.k, .int .i64 u.n, .int .i64 u.s, .string u.t, .int .i64 u.i]] w fun e w' => e = .returned (.bool true) ∧ Below w.heap.size w w' := by
  obtain ⟨hKd, hSc, -, -⟩ := ty_of hTy
  have HT := Lib.hid hT
  have HV := Lib.hid hv
  have HU := Lib.hid hu
  have HE := Lib.hid hE
  clear hT hv hu hE
  go_enter Tryz.func10, Tryz.ntmps10
  go_wp2_with fail
  generalize hW0 : ((w.alloc _).alloc _).alloc _ = W0
  have hb0 : Below w.heap.size w W0 := (by rw [← hW0]; exact bel)
  have K0 : BoxIs W0 w.heap.size #[.int .i64 t.k, .int .i64 t.sc, .bool t.c.any, .bool t.c.neg, .slice T t.c.ts.length ct] := (by rw [← hW0]; exact ((BoxIs.new (t := 26) rfl).alloc _).alloc _)
  have K1 : BoxIs W0 (w.heap.size + 1) #[.int .i64 v.k, .int .i64 v.n, .int .i64 v.s, .string v.t, .int .i64 v.i] := (by rw [← hW0]; exact (BoxIs.new (t := 30) (by simp)).alloc _)
  have K2 : BoxIs W0 (w.heap.size + 2) #[.int .i64 u.k, .int .i64 u.n, .int .i64 u.s, .string u.t, .int .i64 u.i] := (by rw [← hW0]; exact BoxIs.new (t := 30) (by simp))
  have hT0 := HT.out.below hb0
  have hE0 := HE.out.below hb0
  clear hW0
  refine (setOne_any t v T ct _ hTy hin hT0 HV.out hE0.env).mono ?_
  rintro e w1 ⟨r, X, Y, cx, cy, rfl, hR, ir, okr, hb1⟩
  have K0 := K0.below hb1
  have K1 := K1.below hb1
  have K2 := K2.below hb1
  have c0 := K0.c
  have l0 := K0.lt
  have c1 := K1.c
  have l1 := K1.lt
  have c2 := K2.c
  have l2 := K2.lt
  have hB1 : Below w.heap.size w w1 := hb0.trans (hb1.mono hb0.size)
  clear hb0 hb1 hT0 hE0
  go_wp2_with fail
  generalize hXW1 : World.alloc w1 _ = W1
  have hbW1 : Below w1.heap.size w1 W1 := (by rw [← hXW1]; exact Below.alloc (Below.refl _ _) (Nat.le_refl _) _)
  have KA : BoxIs W1 w1.heap.size #[.int .i64 r.k, .slice X r.sp.length cx, .bool r.al, .slice Y r.ws.length cy, .int .i64 r.b, .bool r.nul] := (by rw [← hXW1]; exact BoxIs.new (t := 36) rfl)
  obtain ⟨bA, hqA⟩ : ∃ bA, w1.heap.size = bA := ⟨_, rfl⟩
  rw [hqA] at KA
  rw [hqA]
  clear hXW1 hqA
  have K0 := K0.below hbW1
  have K1 := K1.below hbW1
  have K2 := K2.below hbW1
  have hB2 : Below w.heap.size w W1 := hB1.trans (hbW1.mono hB1.size)
  have hR := hR.below hbW1
  clear hB1 hbW1
  clear c0 l0 c1 l1 c2 l2
  refine (rSetSound_any t T ct _ (HT.out.below hB2)).mono ?_
  rintro e w2 ⟨rfl, hb2⟩
  rw [hTy]
  have K0 := K0.below hb2
  have K1 := K1.below hb2
  have K2 := K2.below hb2
  have KA := KA.below hb2
  have c0 := K0.c
  have l0 := K0.lt
  have c1 := K1.c
  have l1 := K1.lt
  have c2 := K2.c
  have l2 := K2.lt
  have cA := KA.c
  have lA := KA.lt
  have hB3 : Below w.heap.size w w2 := hB2.trans (hb2.mono hB2.size)
  have hR := hR.below hb2
  clear hb2 hB2
  go_wp2_with fail
  refine (rIn_any t v T ct _ (HT.out.below hB3) HV.out).mono ?_
  rintro e w3 ⟨rfl, hb3⟩
  rw [hin]
  clear c0 l0 c1 l1 c2 l2 cA lA
  have K0 := K0.below hb3
  have K1 := K1.below hb3
  have K2 := K2.below hb3
  have KA := KA.below hb3
  have c0 := K0.c
  have l0 := K0.lt
  have c1 := K1.c
  have l1 := K1.lt
  have c2 := K2.c
  have l2 := K2.lt
  have cA := KA.c
  have lA := KA.lt
  have hB4 : Below w.heap.size w w3 := hB3.trans (hb3.mono hB3.size)
  have hR := hR.below hb3
  clear hb3 hB3
  go_wp2_with fail
  refine (pick_any' t r 1 T X Y ct cx cy _ hTy (ir.k.trans (testG_k _ _)) (HT.out.below hB4) hR okr (by omega) (HE.out.below hB4)).mono ?_
  rintro e w4 ⟨x, n, rfl, hpk, hb4⟩
  obtain ⟨rfl, rfl⟩ := pick_one hin ir hpk
  clear hpk
  clear c0 l0 c1 l1 c2 l2 cA lA
  have K0 := K0.below hb4
  have K1 := K1.below hb4
  have K2 := K2.below hb4
  have KA := KA.below hb4
  have c0 := K0.c
  have l0 := K0.lt
  have c1 := K1.c
  have l1 := K1.lt
  have c2 := K2.c
  have l2 := K2.lt
  have cA := KA.c
  have lA := KA.lt
  have hB5 : Below w.heap.size w w4 := hB4.trans (hb4.mono hB4.size)
  have hR := hR.below hb4
  clear hb4 hB4
  go_wp2_with fail
  generalize hXW4 : World.alloc w4 _ = W4
  have hbW4 : Below w4.heap.size w4 W4 := (by rw [← hXW4]; exact Below.alloc (Below.refl _ _) (Nat.le_refl _) _)
  have KB : BoxIs W4 w4.heap.size #[.int .i64 x.k, .int .i64 x.n, .int .i64 x.s, .string x.t, .int .i64 x.i] := (by rw [← hXW4]; exact BoxIs.new (t := 30) rfl)
  obtain ⟨bB, hqB⟩ : ∃ bB, w4.heap.size = bB := ⟨_, rfl⟩
  rw [hqB] at KB
  rw [hqB]
  clear hXW4 hqB
  have K0 := K0.below hbW4
  have K1 := K1.below hbW4
  have K2 := K2.below hbW4
  have KA := KA.below hbW4
  have hB6 : Below w.heap.size w W4 := hB5.trans (hbW4.mono hB5.size)
  have hR := hR.below hbW4
  clear c0 l0 c1 l1 c2 l2 cA lA
  have HAW : Hid (∀ W, Below W4.heap.size W4 W → Calls Tryz.prog 15 #[] W fun e w' => e = .returned (.bool true) ∧ Below W.heap.size W w') := Lib.hid (fun W hW => awake15_any W (HE.out.below (hB6.trans (hW.mono hB6.size))))
  have HTD : Hid (∀ W, Below W4.heap.size W4 W → Calls Tryz.prog 40 #[.agg #[.int .i64 r.k, .slice X r.sp.length cx, .bool r.al, .slice Y r.ws.length cy, .int .i64 r.b, .bool r.nul]] W fun e w' => e = .returned (.bool true) ∧ Below W.heap.size W w') := Lib.hid (fun W hW => rTidy_any r _ 1 X Y cx cy W (hR.below hW) ir (by rw [testG_k]; exact hKd) okr (by omega))
  have HHV : Hid (∀ W, Below W4.heap.size W4 W → Calls Tryz.prog 30 #[.agg #[.int .i64 t.k, .int .i64 t.sc, .bool t.c.any, .bool t.c.neg, .slice T t.c.ts.length ct], .agg #[.int .i64 r.k, .slice X r.sp.length cx, .bool r.al, .slice Y r.ws.length cy, .int .i64 r.b, .bool r.nul], .agg #[.int .i64 x.k, .int .i64 x.n, .int .i64 x.s, .string x.t, .int .i64 x.i]] W fun e w' => e = .returned (.bool true) ∧ Below W.heap.size W w') := Lib.hid (fun W hW => by
    have h := rHas_any t r x T X Y ct cx cy W (HT.out.below (hB6.trans (hW.mono hB6.size))) (hR.below hW) HV.out (by have := okr.ls; omega) (by have := okr.lw; omega)
    rw [has_one hin ir, (eqB_iff x x).2 rfl] at h
    exact h)
  have HHU : Hid (∀ W, Below W4.heap.size W4 W → Calls Tryz.prog 30 #[.agg #[.int .i64 t.k, .int .i64 t.sc, .bool t.c.any, .bool t.c.neg, .slice T t.c.ts.length ct], .agg #[.int .i64 r.k, .slice X r.sp.length cx, .bool r.al, .slice Y r.ws.length cy, .int .i64 r.b, .bool r.nul], .agg #[.int .i64 u.k, .int .i64 u.n, .int .i64 u.s, .string u.t, .int .i64 u.i]] W fun e w' => e = .returned (.bool (eqB u x)) ∧ Below W.heap.size W w') := Lib.hid (fun W hW => by
    have h := rHas_any t r u T X Y ct cx cy W (HT.out.below (hB6.trans (hW.mono hB6.size))) (hR.below hW) HU.out (by have := okr.ls; omega) (by have := okr.lw; omega)
    rw [has_one hin ir] at h
    exact h)
  have HEM : Hid (∀ W, Below W4.heap.size W4 W → Calls Tryz.prog 17 #[.agg #[.int .i64 r.k, .slice X r.sp.length cx, .bool r.al, .slice Y r.ws.length cy, .int .i64 r.b, .bool r.nul]] W fun e w' => e = .returned (.bool false) ∧ Below W.heap.size W w') := Lib.hid (fun W hW => by
    refine (setEmpty_any r 1 X Y cx cy W (hR.below hW) okr (by omega) (HE.out.env.below (hB6.trans (hW.mono hB6.size)))).mono ?_
    rintro e w' ⟨r4, rfl, i4, al4, hb⟩
    exact ⟨ret_bool (one_full hin ir i4), hb⟩)
  have q1 : ∀ W : World, (binOp .eql 30 (.agg #[.int .i64 x.k, .int .i64 x.n, .int .i64 x.s, .string x.t, .int .i64 x.i]) (.agg #[.int .i64 x.k, .int .i64 x.n, .int .i64 x.s, .string x.t, .int .i64 x.i])).run Tryz.prog W = .ok (.bool true) W := fun W => (eqV_run x x W).trans (by rw [(eqB_iff x x).2 rfl])
  have q2 : ∀ W : World, (binOp .eql 30 (.agg #[.int .i64 u.k, .int .i64 u.n, .int .i64 u.s, .string u.t, .int .i64 u.i]) (.agg #[.int .i64 x.k, .int .i64 x.n, .int .i64 x.s, .string x.t, .int .i64 x.i])).run Tryz.prog W = .ok (.bool (eqB u x)) W := fun W => eqV_run u x W
  generalize eqB u x = EQ at *
  have c0 := fun (p : AtB W4) => (K0.below p.hb).c
  have c1 := fun (p : AtB W4) => (K1.below p.hb).c
  have c2 := fun (p : AtB W4) => (K2.below p.hb).c
  have cA := fun (p : AtB W4) => (KA.below p.hb).c
  have cB := fun (p : AtB W4) => (KB.below p.hb).c
  clear hB5 hbW4 hR okr ir K0 K1 K2 KA KB
  refine wp_region_quiet_at (by kernel_rfl) (by kernel_rfl) ?_
  repeat (go_big_quiet_step ((first
        | (go_at_call 15; with_reducible exact AtB.quiet _ (fun W hW => HAW.out W hW))
        | (go_at_call 40; with_reducible exact AtB.quiet _ (fun W hW => HTD.out W hW))
        | (go_at_call 30; with_reducible exact AtB.quiet _ (fun W hW => HHV.out W hW))
        | (go_at_call 30; with_reducible exact AtB.quiet _ (fun W hW => HHU.out W hW))
        | (go_at_call 17; with_reducible exact AtB.quiet _ (fun W hW => HEM.out W hW)))))
  refine wpQuiet_nil ?_
  intro _ hw'
  obtain ⟨pq, hw''⟩ := hw'
  subst hw''
  have hbq := hB6.trans (pq.hb.mono hB6.size)
  go_wp2_with fail
  go_ret
  exact ⟨ret_bool (by first | rfl | simp), hbq⟩
theorem lawOne_any (t : Ty) (v u : Vl) (T : Option Addr) (ct : Nat) (w : World) (hT : TyAt w t T) (hv : v.wf) (hu : u.wf) (hE : EnvP w) :
    Calls Tryz.prog 10 #[.agg #[.int .i64 t.k, .int .i64 t.sc, .bool t.c.any, .bool t.c.neg, .slice T t.c.ts.length ct], .agg #[.int .i64 v.k, .int .i64 v.n, .int .i64 v.s, .string v.t, .int .i64 v.i], .agg #[.int .i64 u.k, .int .i64 u.n, .int .i64 u.s, .string u.t, .int .i64 u.i]] w fun e w' => e = .returned (.bool true) ∧ Below w.heap.size w w' := by
  cases h : tySnd t
  · exact lawOne_no t v u T ct w h hT hv hu hE
  · cases h2 : inTy t v
    · exact lawOne_out t v u T ct w h h2 hT hv hu hE
    · exact lawOne_good t v u T ct w h h2 hT hv hu hE
end Go.Proofs.YtankkadnhdfpfaaGreatDoor
