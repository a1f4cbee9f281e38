import Derived.Test.YtankkadnhdfpfaaGreatDoorPk33
import Derived.Test.YtankkadnhdfpfaaGreatDoorPk49
import Derived.Test.YtankkadnhdfpfaaGreatDoorPk46
import Derived.Test.YtankkadnhdfpfaaGreatDoorPk47
import Derived.Test.YtankkadnhdfpfaaGreatDoorPk53
/- soffitlaw15.SetsOf: walked. -/
set_option linter.unusedSimpArgs false
set_option linter.unusedVariables false
namespace Go.Proofs.YtankkadnhdfpfaaGreatDoor
open Go.RowKit Sp Wd

theorem flat_len : ∀ l : List Vl, (l.flatMap Vl.cells5).length = l.length * 5
  | [] => rfl
  | x :: r => by rw [List.flatMap_cons, List.length_append, flat_len r, List.length_cons, Nat.succ_mul]; show 5 + _ = _; omega
theorem rd_none {w : World} {sz : Nat} {A : Option Addr} {l : List Vl} (h : RdL w sz A (l.map Vl.cells5)) (hA : A = none) : l.length = 0 := by
  cases l with
  | nil => rfl
  | cons x r =>
    obtain ⟨b, off, e, -⟩ := h 0 x.cells5 rfl
    rw [hA] at e; cases e
theorem rd_news {w : World} {A : Option Addr} {l : List Vl} (h : RdL w 5 A (l.map Vl.cells5)) : ∀ ad, A = some ad → ∀ j u, (l.flatMap Vl.cells5)[j]? = some u → w.cell? (ad.add j) = some u := by
  intro ad hA j u hu
  subst hA
  rw [List.flatMap_def] at hu
  exact rd_flat h (by intro c hc; obtain ⟨x, _, rfl⟩ := List.mem_map.1 hc; rfl) (by omega) j u hu
set_option maxRecDepth 100000 in
set_option maxHeartbeats 12800000 in
theorem lawOf_no1 (t : Ty) (c : Cel) (v : Vl) (T A : Option Addr) (ct ca : Nat) (w : World) (hTy : tySnd t = false) (hT : TyAt w t T) (hA : RdL w 13 A (c.ts.map Tst.cells)) (hw : ∀ x ∈ c.ts, x.wf) (hn : c.ts.length ≤ 9223372036854775807) (hv : v.wf) (hE : EnvP w) :
    Calls Tryz.prog 9 #[.agg #[.int .i64 t.k, .int .i64 t.sc, .bool t.c.any, .bool t.c.neg, .slice T t.c.ts.length ct], .agg #[.bool c.any, .bool c.neg, .slice A c.ts.length ca], .agg #[.int .i64 v.k, .int .i64 v.n, .int .i64 v.s, .string v.t, .int .i64 v.i]] w fun e w' => e = .returned (.bool true) ∧ Below w.heap.size w w' := by
  have hno : (tySnd t && uSndB c) = false := by rw [hTy]; rfl
  have HT := Lib.hid hT
  have HA := Lib.hid hA
  have HW := Lib.hid hw
  have HN := Lib.hid hn
  have HV := Lib.hid hv
  have HE := Lib.hid hE
  clear hT hA hw hn hv hE
  go_enter Tryz.func9, Tryz.ntmps9
  go_wp2_with fail
  generalize hW0 : ((w.alloc _).alloc _).alloc _ = W0
  have hb0 : Below w.heap.size w W0 := (by rw [← hW0]; exact bel)
  have K0 : BoxIs W0 w.heap.size #[.int .i64 t.k, .int .i64 t.sc, .bool t.c.any, .bool t.c.neg, .slice T t.c.ts.length ct] := (by rw [← hW0]; exact ((BoxIs.new (t := 26) rfl).alloc _).alloc _)
  have K1 : BoxIs W0 (w.heap.size + 1) #[.bool c.any, .bool c.neg, .slice A c.ts.length ca] := (by rw [← hW0]; exact (BoxIs.new (t := 24) (by simp)).alloc _)
  have K2 : BoxIs W0 (w.heap.size + 2) #[.int .i64 v.k, .int .i64 v.n, .int .i64 v.s, .string v.t, .int .i64 v.i] := (by rw [← hW0]; exact BoxIs.new (t := 30) (by simp))
  have hT0 := HT.out.below hb0
  have hA0 := HA.out.below hb0
  have hE0 := HE.out.below hb0
  clear hW0
  refine (setOf_no t c T A ct ca _ hno hT0 hA0 HW.out HN.out hE0.env).mono ?_
  rintro e w1 ⟨rfl, hb1⟩
  have K0 := K0.below hb1
  have K1 := K1.below hb1
  have K2 := K2.below hb1
  have c0 := K0.c
  have l0 := K0.lt
  have c1 := K1.c
  have l1 := K1.lt
  have c2 := K2.c
  have l2 := K2.lt
  have hB1 : Below w.heap.size w w1 := hb0.trans (hb1.mono hb0.size)
  clear hb0 hb1 hT0 hA0 hE0
  go_wp2_with fail
  generalize hXW1 : World.alloc w1 _ = W1
  have hbW1 : Below w1.heap.size w1 W1 := (by rw [← hXW1]; exact Below.alloc (Below.refl _ _) (Nat.le_refl _) _)
  have KA : BoxIs W1 w1.heap.size #[.int .i64 0, .slice none 0 0, .bool false, .slice none 0 0, .int .i64 0, .bool false] := (by rw [← hXW1]; exact BoxIs.new (t := 36) rfl)
  obtain ⟨bA, hqA⟩ : ∃ bA, w1.heap.size = bA := ⟨_, rfl⟩
  rw [hqA] at KA
  rw [hqA]
  clear hXW1 hqA
  have K0 := K0.below hbW1
  have K1 := K1.below hbW1
  have K2 := K2.below hbW1
  have hB2 : Below w.heap.size w W1 := hB1.trans (hbW1.mono hB1.size)
  clear hB1 hbW1
  clear c0 l0 c1 l1 c2 l2
  refine (setFull_no t T ct _ hTy (HT.out.below hB2) (HE.out.env.below hB2)).mono ?_
  rintro e w2 ⟨rfl, hb2⟩
  have K0 := K0.below hb2
  have K1 := K1.below hb2
  have K2 := K2.below hb2
  have KA := KA.below hb2
  have c0 := K0.c
  have l0 := K0.lt
  have c1 := K1.c
  have l1 := K1.lt
  have c2 := K2.c
  have l2 := K2.lt
  have cA := KA.c
  have lA := KA.lt
  have hB3 : Below w.heap.size w w2 := hB2.trans (hb2.mono hB2.size)
  clear hb2 hB2
  go_wp2_with fail
  generalize hXW2 : World.alloc w2 _ = W2
  have hbW2 : Below w2.heap.size w2 W2 := (by rw [← hXW2]; exact Below.alloc (Below.refl _ _) (Nat.le_refl _) _)
  have KB : BoxIs W2 w2.heap.size #[.int .i64 0, .slice none 0 0, .bool false, .slice none 0 0, .int .i64 0, .bool false] := (by rw [← hXW2]; exact BoxIs.new (t := 36) rfl)
  obtain ⟨bB, hqB⟩ : ∃ bB, w2.heap.size = bB := ⟨_, rfl⟩
  rw [hqB] at KB
  rw [hqB]
  clear hXW2 hqB
  have K0 := K0.below hbW2
  have K1 := K1.below hbW2
  have K2 := K2.below hbW2
  have KA := KA.below hbW2
  have hB4 : Below w.heap.size w W2 := hB3.trans (hbW2.mono hB3.size)
  clear c0 l0 c1 l1 c2 l2 cA lA
  refine (rSetSound_any t T ct _ (HT.out.below hB4)).mono ?_
  rintro e w3 ⟨rfl, hb3⟩
  rw [hTy]
  have K0 := K0.below hb3
  have K1 := K1.below hb3
  have K2 := K2.below hb3
  have KA := KA.below hb3
  have KB := KB.below hb3
  have c0 := K0.c
  have l0 := K0.lt
  have c1 := K1.c
  have l1 := K1.lt
  have c2 := K2.c
  have l2 := K2.lt
  have cA := KA.c
  have lA := KA.lt
  have cB := KB.c
  have lB := KB.lt
  have hB5 : Below w.heap.size w w3 := hB4.trans (hb3.mono hB4.size)
  clear hb3 hB4 hB3 hbW2
  go_wp2_with fail
  refine (awake15_any _ (HE.out.below hB5)).mono ?_
  rintro e w4 ⟨rfl, hb4⟩
  clear c0 l0 c1 l1 c2 l2 cA lA cB lB
  have KA := KA.below hb4
  have KB := KB.below hb4
  have cA := KA.c
  have lA := KA.lt
  have cB := KB.c
  have lB := KB.lt
  have hB6 : Below w.heap.size w w4 := hB5.trans (hb4.mono hB5.size)
  clear hb4 hB5 K0 K1 K2
  go_wp2_with fail
  refine (rZero_any _).mono ?_
  rintro e w5 ⟨rfl, hb5⟩
  clear cA lA cB lB
  have KA := KA.below hb5
  have KB := KB.below hb5
  have cA := KA.c
  have lA := KA.lt
  have cB := KB.c
  have lB := KB.lt
  have hB7 : Below w.heap.size w w5 := hB6.trans (hb5.mono hB6.size)
  clear hb5 hB6
  go_wp2_with fail
  refine (rZero_any _).mono ?_
  rintro e w6 ⟨rfl, hb6⟩
  go_wp2_with fail
  go_ret
  exact ⟨rfl, bel⟩
set_option maxRecDepth 100000 in
set_option maxHeartbeats 12800000 in
theorem lawOf_no2 (t : Ty) (c : Cel) (v : Vl) (T A : Option Addr) (ct ca : Nat) (w : World) (hTy : tySnd t = true) (hu : uSndB c = false) (hT : TyAt w t T) (hA : RdL w 13 A (c.ts.map Tst.cells)) (hw : ∀ x ∈ c.ts, x.wf) (hn : c.ts.length ≤ 9223372036854775807) (hv : v.wf) (hE : EnvP w) :
    Calls Tryz.prog 9 #[.agg #[.int .i64 t.k, .int .i64 t.sc, .bool t.c.any, .bool t.c.neg, .slice T t.c.ts.length ct], .agg #[.bool c.any, .bool c.neg, .slice A c.ts.length ca], .agg #[.int .i64 v.k, .int .i64 v.n, .int .i64 v.s, .string v.t, .int .i64 v.i]] w fun e w' => e = .returned (.bool true) ∧ Below w.heap.size w w' := by
  have hno : (tySnd t && uSndB c) = false := by rw [hu]; simp
  have HT := Lib.hid hT
  have HA := Lib.hid hA
  have HW := Lib.hid hw
  have HN := Lib.hid hn
  have HV := Lib.hid hv
  have HE := Lib.hid hE
  clear hT hA hw hn hv hE
  go_enter Tryz.func9, Tryz.ntmps9
  go_wp2_with fail
  generalize hW0 : ((w.alloc _).alloc _).alloc _ = W0
  have hb0 : Below w.heap.size w W0 := (by rw [← hW0]; exact bel)
  have K0 : BoxIs W0 w.heap.size #[.int .i64 t.k, .int .i64 t.sc, .bool t.c.any, .bool t.c.neg, .slice T t.c.ts.length ct] := (by rw [← hW0]; exact ((BoxIs.new (t := 26) rfl).alloc _).alloc _)
  have K1 : BoxIs W0 (w.heap.size + 1) #[.bool c.any, .bool c.neg, .slice A c.ts.length ca] := (by rw [← hW0]; exact (BoxIs.new (t := 24) (by simp)).alloc _)
  have K2 : BoxIs W0 (w.heap.size + 2) #[.int .i64 v.k, .int .i64 v.n, .int .i64 v.s, .string v.t, .int .i64 v.i] := (by rw [← hW0]; exact BoxIs.new (t := 30) (by simp))
  have hT0 := HT.out.below hb0
  have hA0 := HA.out.below hb0
  have hE0 := HE.out.below hb0
  clear hW0
  refine (setOf_no t c T A ct ca _ hno hT0 hA0 HW.out HN.out hE0.env).mono ?_
  rintro e w1 ⟨rfl, hb1⟩
  have K0 := K0.below hb1
  have K1 := K1.below hb1
  have K2 := K2.below hb1
  have c0 := K0.c
  have l0 := K0.lt
  have c1 := K1.c
  have l1 := K1.lt
  have c2 := K2.c
  have l2 := K2.lt
  have hB1 : Below w.heap.size w w1 := hb0.trans (hb1.mono hb0.size)
  clear hb0 hb1 hT0 hA0 hE0
  go_wp2_with fail
  generalize hXW1 : World.alloc w1 _ = W1
  have hbW1 : Below w1.heap.size w1 W1 := (by rw [← hXW1]; exact Below.alloc (Below.refl _ _) (Nat.le_refl _) _)
  have KA : BoxIs W1 w1.heap.size #[.int .i64 0, .slice none 0 0, .bool false, .slice none 0 0, .int .i64 0, .bool false] := (by rw [← hXW1]; exact BoxIs.new (t := 36) rfl)
  obtain ⟨bA, hqA⟩ : ∃ bA, w1.heap.size = bA := ⟨_, rfl⟩
  rw [hqA] at KA
  rw [hqA]
  clear hXW1 hqA
  have K0 := K0.below hbW1
  have K1 := K1.below hbW1
  have K2 := K2.below hbW1
  have hB2 : Below w.heap.size w W1 := hB1.trans (hbW1.mono hB1.size)
  clear hB1 hbW1
  clear c0 l0 c1 l1 c2 l2
  refine (setFull_any t T ct _ hTy (HT.out.below hB2) (HE.out.env.below hB2)).mono ?_
  rintro e w2 ⟨r2, X2, Y2, cx2, cy2, rfl, hR2, i2, ok2, hb2⟩
  have K0 := K0.below hb2
  have K1 := K1.below hb2
  have K2 := K2.below hb2
  have KA := KA.below hb2
  have c0 := K0.c
  have l0 := K0.lt
  have c1 := K1.c
  have l1 := K1.lt
  have c2 := K2.c
  have l2 := K2.lt
  have cA := KA.c
  have lA := KA.lt
  have hB3 : Below w.heap.size w w2 := hB2.trans (hb2.mono hB2.size)
  clear hb2 hB2 hR2 i2 ok2
  go_wp2_with fail
  generalize hXW2 : World.alloc w2 _ = W2
  have hbW2 : Below w2.heap.size w2 W2 := (by rw [← hXW2]; exact Below.alloc (Below.refl _ _) (Nat.le_refl _) _)
  have KB : BoxIs W2 w2.heap.size #[.int .i64 r2.k, .slice X2 r2.sp.length cx2, .bool r2.al, .slice Y2 r2.ws.length cy2, .int .i64 r2.b, .bool r2.nul] := (by rw [← hXW2]; exact BoxIs.new (t := 36) rfl)
  obtain ⟨bB, hqB⟩ : ∃ bB, w2.heap.size = bB := ⟨_, rfl⟩
  rw [hqB] at KB
  rw [hqB]
  clear hXW2 hqB
  have K0 := K0.below hbW2
  have K1 := K1.below hbW2
  have K2 := K2.below hbW2
  have KA := KA.below hbW2
  have hB4 : Below w.heap.size w W2 := hB3.trans (hbW2.mono hB3.size)
  clear c0 l0 c1 l1 c2 l2 cA lA
  refine (rSetSound_any t T ct _ (HT.out.below hB4)).mono ?_
  rintro e w3 ⟨rfl, hb3⟩
  rw [hTy]
  have K0 := K0.below hb3
  have K1 := K1.below hb3
  have K2 := K2.below hb3
  have KA := KA.below hb3
  have c0 := K0.c
  have l0 := K0.lt
  have c1 := K1.c
  have l1 := K1.lt
  have c2 := K2.c
  have l2 := K2.lt
  have cA := KA.c
  have lA := KA.lt
  have hB5 : Below w.heap.size w w3 := hB4.trans (hb3.mono hB4.size)
  clear hb3 hB4 hB3 hbW2 KB
  go_wp2_with fail
  refine (rUSound_any c A ca _ (HA.out.below hB5) HW.out HN.out).mono ?_
  rintro e w4 ⟨rfl, hb4⟩
  rw [hu]
  clear c0 l0 c1 l1 c2 l2 cA lA
  have KA := KA.below hb4
  have cA := KA.c
  have lA := KA.lt
  have hB6 : Below w.heap.size w w4 := hB5.trans (hb4.mono hB5.size)
  clear hb4 hB5 K0 K1 K2
  go_wp2_with fail
  refine (awake15_any _ (HE.out.below hB6)).mono ?_
  rintro e w5 ⟨rfl, hb5⟩
  clear cA lA
  have KA := KA.below hb5
  have cA := KA.c
  have lA := KA.lt
  have hB7 : Below w.heap.size w w5 := hB6.trans (hb5.mono hB6.size)
  clear hb5 hB6
  go_wp2_with fail
  refine (rZero_any _).mono ?_
  rintro e w6 ⟨rfl, hb6⟩
  go_wp2_with fail
  go_ret
  exact ⟨rfl, bel⟩
set_option maxRecDepth 100000 in
set_option maxHeartbeats 12800000 in
theorem lawOf_yes (t : Ty) (c : Cel) (v : Vl) (T A : Option Addr) (ct ca : Nat) (w : World) (hTy : tySnd t = true) (hu : uSndB c = true) (hT : TyAt w t T) (hA : RdL w 13 A (c.ts.map Tst.cells)) (hw : ∀ x ∈ c.ts, x.wf) (hn : c.ts.length ≤ 9223372036854775807) (hv : v.wf) (hE : EnvP w) :
    Calls Tryz.prog 9 #[.agg #[.int .i64 t.k, .int .i64 t.sc, .bool t.c.any, .bool t.c.neg, .slice T t.c.ts.length ct], .agg #[.bool c.any, .bool c.neg, .slice A c.ts.length ca], .agg #[.int .i64 v.k, .int .i64 v.n, .int .i64 v.s, .string v.t, .int .i64 v.i]] w fun e w' => e = .returned (.bool true) ∧ Below w.heap.size w w' := by
  obtain ⟨hKd, hSc, -, -⟩ := ty_of hTy
  obtain ⟨i0, hinf, hza, hzb, hzc⟩ := info_parts (show (Tryz.prog.info? 30).map (fun i => (i.zero, i.size, i.bytes)) = some (some (.agg #[.int .i64 0, .int .i64 0, .int .i64 0, .string ⟨#[]⟩, .int .i64 0]), 5, 48) by kernel_rfl)
  have HT := Lib.hid hT
  have HA := Lib.hid hA
  have HW := Lib.hid hw
  have HN := Lib.hid hn
  have HV := Lib.hid hv
  have HE := Lib.hid hE
  clear hT hA hw hn hv hE
  go_enter Tryz.func9, Tryz.ntmps9
  go_wp2_with fail
  generalize hW0 : ((w.alloc _).alloc _).alloc _ = W0
  have hb0 : Below w.heap.size w W0 := (by rw [← hW0]; exact bel)
  have K0 : BoxIs W0 w.heap.size #[.int .i64 t.k, .int .i64 t.sc, .bool t.c.any, .bool t.c.neg, .slice T t.c.ts.length ct] := (by rw [← hW0]; exact ((BoxIs.new (t := 26) rfl).alloc _).alloc _)
  have K1 : BoxIs W0 (w.heap.size + 1) #[.bool c.any, .bool c.neg, .slice A c.ts.length ca] := (by rw [← hW0]; exact (BoxIs.new (t := 24) (by simp)).alloc _)
  have K2 : BoxIs W0 (w.heap.size + 2) #[.int .i64 v.k, .int .i64 v.n, .int .i64 v.s, .string v.t, .int .i64 v.i] := (by rw [← hW0]; exact BoxIs.new (t := 30) (by simp))
  have hT0 := HT.out.below hb0
  have hA0 := HA.out.below hb0
  have hE0 := HE.out.below hb0
  clear hW0
  refine (setOf_any t c T A ct ca _ hTy hu hT0 hA0 HW.out HN.out hE0.env).mono ?_
  rintro e w1 ⟨r, X, Y, cx, cy, rfl, hR1, ir, okr, hb1⟩
  have K0 := K0.below hb1
  have K1 := K1.below hb1
  have K2 := K2.below hb1
  have c0 := K0.c
  have l0 := K0.lt
  have c1 := K1.c
  have l1 := K1.lt
  have c2 := K2.c
  have l2 := K2.lt
  have hB1 : Below w.heap.size w w1 := hb0.trans (hb1.mono hb0.size)
  clear hb0 hb1 hT0 hA0 hE0
  go_wp2_with fail
  generalize hXW1 : World.alloc w1 _ = W1
  have hbW1 : Below w1.heap.size w1 W1 := (by rw [← hXW1]; exact Below.alloc (Below.refl _ _) (Nat.le_refl _) _)
  have KA : BoxIs W1 w1.heap.size #[.int .i64 r.k, .slice X r.sp.length cx, .bool r.al, .slice Y r.ws.length cy, .int .i64 r.b, .bool r.nul] := (by rw [← hXW1]; exact BoxIs.new (t := 36) rfl)
  obtain ⟨bA, hqA⟩ : ∃ bA, w1.heap.size = bA := ⟨_, rfl⟩
  rw [hqA] at KA
  rw [hqA]
  clear hXW1 hqA
  have K0 := K0.below hbW1
  have K1 := K1.below hbW1
  have K2 := K2.below hbW1
  have hB2 : Below w.heap.size w W1 := hB1.trans (hbW1.mono hB1.size)
  have hR1 := hR1.below hbW1
  clear hB1 hbW1
  clear c0 l0 c1 l1 c2 l2
  refine (setFull_any t T ct _ hTy (HT.out.below hB2) (HE.out.env.below hB2)).mono ?_
  rintro e w2 ⟨r2, X2, Y2, cx2, cy2, rfl, hR2, i2, ok2, hb2⟩
  have K0 := K0.below hb2
  have K1 := K1.below hb2
  have K2 := K2.below hb2
  have KA := KA.below hb2
  have c0 := K0.c
  have l0 := K0.lt
  have c1 := K1.c
  have l1 := K1.lt
  have c2 := K2.c
  have l2 := K2.lt
  have cA := KA.c
  have lA := KA.lt
  have hB3 : Below w.heap.size w w2 := hB2.trans (hb2.mono hB2.size)
  have hR1 := hR1.below hb2
  clear hb2 hB2
  go_wp2_with fail
  generalize hXW2 : World.alloc w2 _ = W2
  have hbW2 : Below w2.heap.size w2 W2 := (by rw [← hXW2]; exact Below.alloc (Below.refl _ _) (Nat.le_refl _) _)
  have KB : BoxIs W2 w2.heap.size #[.int .i64 r2.k, .slice X2 r2.sp.length cx2, .bool r2.al, .slice Y2 r2.ws.length cy2, .int .i64 r2.b, .bool r2.nul] := (by rw [← hXW2]; exact BoxIs.new (t := 36) rfl)
  obtain ⟨bB, hqB⟩ : ∃ bB, w2.heap.size = bB := ⟨_, rfl⟩
  rw [hqB] at KB
  rw [hqB]
  clear hXW2 hqB
  have K0 := K0.below hbW2
  have K1 := K1.below hbW2
  have K2 := K2.below hbW2
  have KA := KA.below hbW2
  have hB4 : Below w.heap.size w W2 := hB3.trans (hbW2.mono hB3.size)
  have hR1 := hR1.below hbW2
  have hR2 := hR2.below hbW2
  clear c0 l0 c1 l1 c2 l2 cA lA
  refine (rSetSound_any t T ct _ (HT.out.below hB4)).mono ?_
  rintro e w3 ⟨rfl, hb3⟩
  rw [hTy]
  have K0 := K0.below hb3
  have K1 := K1.below hb3
  have K2 := K2.below hb3
  have KA := KA.below hb3
  have KB := KB.below hb3
  have c0 := K0.c
  have l0 := K0.lt
  have c1 := K1.c
  have l1 := K1.lt
  have c2 := K2.c
  have l2 := K2.lt
  have cA := KA.c
  have lA := KA.lt
  have cB := KB.c
  have lB := KB.lt
  have hB5 : Below w.heap.size w w3 := hB4.trans (hb3.mono hB4.size)
  have hR1 := hR1.below hb3
  have hR2 := hR2.below hb3
  clear hb3 hB4 hB3 hbW2
  go_wp2_with fail
  refine (rUSound_any c A ca _ (HA.out.below hB5) HW.out HN.out).mono ?_
  rintro e w4 ⟨rfl, hb4⟩
  rw [hu]
  clear c0 l0 c1 l1 c2 l2 cA lA cB lB
  have K0 := K0.below hb4
  have K1 := K1.below hb4
  have K2 := K2.below hb4
  have KA := KA.below hb4
  have KB := KB.below hb4
  have c0 := K0.c
  have l0 := K0.lt
  have c1 := K1.c
  have l1 := K1.lt
  have c2 := K2.c
  have l2 := K2.lt
  have cA := KA.c
  have lA := KA.lt
  have cB := KB.c
  have lB := KB.lt
  have hB6 : Below w.heap.size w w4 := hB5.trans (hb4.mono hB5.size)
  have hR1 := hR1.below hb4
  have hR2 := hR2.below hb4
  clear hb4 hB5
  go_wp2_with fail
  refine (awake15_any _ (HE.out.below hB6)).mono ?_
  rintro e w5 ⟨rfl, hb5⟩
  clear c0 l0 c1 l1 c2 l2 cA lA cB lB
  have K0 := K0.below hb5
  have K1 := K1.below hb5
  have K2 := K2.below hb5
  have KA := KA.below hb5
  have KB := KB.below hb5
  have c0 := K0.c
  have l0 := K0.lt
  have c1 := K1.c
  have l1 := K1.lt
  have c2 := K2.c
  have l2 := K2.lt
  have cA := KA.c
  have lA := KA.lt
  have cB := KB.c
  have lB := KB.lt
  have hB7 : Below w.heap.size w w5 := hB6.trans (hb5.mono hB6.size)
  have hR1 := hR1.below hb5
  have hR2 := hR2.below hb5
  have q1 : (r.k != t.k) = false := by rw [ir.k.trans (fullG_k t)]; simp
  have q2 : (r2.k != t.k) = false := by rw [i2.k.trans (fullG_k t)]; simp
  clear hb5 hB6
  go_wp2_with fail
  refine (rTidy_any r _ 18 X Y cx cy _ hR1 ir (by show 1 ≤ (fullG t).k ∧ (fullG t).k ≤ 4; rw [fullG_k]; exact hKd) okr (by omega)).mono ?_
  rintro e w6 ⟨rfl, hb6⟩
  clear c0 l0 c1 l1 c2 l2 cA lA cB lB
  have K0 := K0.below hb6
  have K1 := K1.below hb6
  have K2 := K2.below hb6
  have KA := KA.below hb6
  have KB := KB.below hb6
  have c0 := K0.c
  have l0 := K0.lt
  have c1 := K1.c
  have l1 := K1.lt
  have c2 := K2.c
  have l2 := K2.lt
  have cA := KA.c
  have lA := KA.lt
  have cB := KB.c
  have lB := KB.lt
  have hB8 : Below w.heap.size w w6 := hB7.trans (hb6.mono hB7.size)
  have hR1 := hR1.below hb6
  have hR2 := hR2.below hb6
  clear hb6 hB7
  go_wp2_with fail
  refine (rTidy_any r2 _ 9 X2 Y2 cx2 cy2 _ hR2 i2 (by rw [fullG_k]; exact hKd) ok2 (by omega)).mono ?_
  rintro e W9 ⟨rfl, hb9⟩
  clear c0 l0 c1 l1 c2 l2 cA lA cB lB
  have K0 := K0.below hb9
  have K1 := K1.below hb9
  have K2 := K2.below hb9
  have KA := KA.below hb9
  have KB := KB.below hb9
  have c0 := K0.c
  have l0 := K0.lt
  have c1 := K1.c
  have l1 := K1.lt
  have c2 := K2.c
  have l2 := K2.lt
  have cA := KA.c
  have lA := KA.lt
  have cB := KB.c
  have lB := KB.lt
  have hB9 : Below w.heap.size w W9 := hB8.trans (hb9.mono hB8.size)
  have hR1 := hR1.below hb9
  have hR2 := hR2.below hb9
  clear hb9 hB8 q1 q2
  go_wp2_with fail
  have HKK : ∀ w', Below W9.heap.size W9 w' → (∀ o, w'.cell? ⟨w.heap.size, o, none⟩ = (#[.int .i64 t.k, .int .i64 t.sc, .bool t.c.any, .bool t.c.neg, .slice T t.c.ts.length ct] : Array Value)[o]?) ∧ (∀ o, w'.cell? ⟨w.heap.size + 1, o, none⟩ = (#[.bool c.any, .bool c.neg, .slice A c.ts.length ca] : Array Value)[o]?) ∧ (∀ o, w'.cell? ⟨w.heap.size + 2, o, none⟩ = (#[.int .i64 v.k, .int .i64 v.n, .int .i64 v.s, .string v.t, .int .i64 v.i] : Array Value)[o]?) := fun w' hb => ⟨(K0.below hb).c, (K1.below hb).c, (K2.below hb).c⟩
  refine wp_region_held_drew (S := (fun w' => (∀ o, w'.cell? ⟨w.heap.size, o, none⟩ = (#[.int .i64 t.k, .int .i64 t.sc, .bool t.c.any, .bool t.c.neg, .slice T t.c.ts.length ct] : Array Value)[o]?) ∧ (∀ o, w'.cell? ⟨w.heap.size + 1, o, none⟩ = (#[.bool c.any, .bool c.neg, .slice A c.ts.length ca] : Array Value)[o]?) ∧ (∀ o, w'.cell? ⟨w.heap.size + 2, o, none⟩ = (#[.int .i64 v.k, .int .i64 v.n, .int .i64 v.s, .string v.t, .int .i64 v.i] : Array Value)[o]?))) (by kernel_rfl) (HKK _ (Below.drew (Below.refl _ _))) (fun hHeld => ?_)
  refine tkH 0 ?_
  try simp only [shH]
  refine tkH 1 ?_
  try simp only [shH]
  refine tkH 2 ?_
  try simp only [shH]
  refine tkH 3 ?_
  try simp only [shH]
  refine tkH 5 ?_
  try simp only [shH]
  refine tkH 6 ?_
  try simp only [shH]
  refine tkH 7 ?_
  try simp only [shH]
  refine tkH 8 ?_
  try simp only [shH]
  refine tkH 9 ?_
  try simp only [shH]
  refine rdH [4] ?_
  refine AllReadyH.cons rfl (fun K hK => ?_) AllReadyH.nil
  go_simp
  go_at_call 41
  refine (asks_any t v c.ts T A ct ca _ ((HA.out.below hB9).below bel) HW.out HN.out HV.out hSc).mono ?_
  rintro e z1 ⟨m1, s1, rfl, ho1, hz1⟩
  have hZ1 : Below W9.heap.size W9 z1 := (by first | exact hz1 | exact undrew hz1)
  refine hK.out _ _ ?_ (fun hH2 => ?_)
  · exact HKK _ hZ1
  clear hK K hHeld
  have hHeld := hH2
  clear hH2
  try simp only [shH]
  refine rdH [10] ?_
  refine AllReadyH.cons rfl (fun K hK => ?_) AllReadyH.nil
  go_simp
  go_at_call 41
  refine (asks_any t v t.c.ts T T ct ct _ ((HT.out.below hB9).rd.below hZ1) HT.out.ts HT.out.n HV.out hSc).mono ?_
  rintro e z2 ⟨m2, s2, rfl, ho2, hz2⟩
  have hZ2 : Below W9.heap.size W9 z2 := hZ1.trans (hz2.mono hZ1.size)
  obtain ⟨C2, cc2, rfl, hC2⟩ := Go.Proofs.YtankkadnhdfpfaaGreatDoor.own_rd (css := m2.map Vl.cells5) ho2.own (by rw [List.flatMap_def]) (by intro c hc; obtain ⟨x, _, rfl⟩ := List.mem_map.1 hc; rfl) (by rw [List.length_map])
  refine hK.out _ _ ?_ (fun hH2 => ?_)
  · exact HKK _ hZ2
  clear hK K hHeld
  have hHeld := hH2
  clear hH2
  try simp only [shH]
  refine rdH [11] ?_
  refine AllReadyH.cons rfl (fun K hK => ?_) AllReadyH.nil
  refine step_spread rfl _ _ 50 rfl W9.heap.size 30 i0 (.agg #[.int .i64 0, .int .i64 0, .int .i64 0, .string ⟨#[]⟩, .int .i64 0]) 5 48 Tryz.underlying50 hinf hza hzb hzc rfl (by decide) s1 m1.length _ rfl (own_below ho1.own hz2) C2 m2.length cc2 _ rfl (flat_len m2) (rd_none hC2) (rd_news hC2) (cells_one _) ?c3 ?c4 ?c5 ?_
  case c3 => unfold maxLen; have := ho1.len; have := ho2.len; omega
  case c4 => have := ho1.len; have := ho2.len; omega
  case c5 => exact hZ2.size
  intro v6 w7 hown' hgrow
  have hZ3 : Below W9.heap.size W9 w7 := hZ2.grown hgrow hZ2.size (fun g hg => (ho1.own.lt g hg).1)
  have hLW : ∀ x ∈ m1 ++ m2, x.wf := fun x hx => (List.mem_append.1 hx).elim (ho1.wf x) (ho2.wf x)
  have hLL : (m1 ++ m2).length ≤ 144 := by rw [List.length_append]; have := ho1.len; have := ho2.len; omega
  obtain ⟨L, cl, rfl, hL⟩ := Go.Proofs.YtankkadnhdfpfaaGreatDoor.own_rd (css := (m1 ++ m2).map Vl.cells5) hown' (by rw [← List.flatMap_def, List.flatMap_append]) (by intro c hc; obtain ⟨x, _, rfl⟩ := List.mem_map.1 hc; rfl) (by rw [List.length_map, List.length_append])
  obtain ⟨n, hnn⟩ : ∃ n, m1.length + m2.length = n := ⟨_, rfl⟩
  rw [hnn]
  have hnl : (m1 ++ m2).length = n := by rw [List.length_append]; exact hnn
  generalize m1 ++ m2 = l at *
  refine hK.out _ _ ?_ (fun hH2 => ?_)
  · exact HKK _ hZ3
  clear hK K hHeld
  have hHeld := hH2
  clear hH2
  try simp only [shH]
  refine tkH 12 ?_
  try simp only [shH]
  refine dnH ?_ _
  clear hHeld hown' hgrow ho1 ho2 hz1 hz2 hC2 hZ1 hZ2 hnn HKK
  (try simp only [Exit.then, Exit.inBlock])
  have K0 := K0.below hZ3
  have K1 := K1.below hZ3
  have K2 := K2.below hZ3
  have KA := KA.below hZ3
  have KB := KB.below hZ3
  have hR1 := hR1.below hZ3
  have hR2 := hR2.below hZ3
  have hBw : Below w.heap.size w w7 := hB9.trans (hZ3.mono hB9.size)
  have HL := Lib.hid hL
  have HLW := Lib.hid hLW
  have HNL := Lib.hid hnl
  have hn144 : n ≤ 144 := by rw [← hnl]; exact hLL
  clear hL hLW hnl hLL hZ3 hB9 c0 l0 c1 l1 c2 l2 cA lA cB lB
  go_wp2_with fail
  go_loopg [12] n (fun k iv wr => ∃ i : Nat, i ≤ n ∧ n - i ≤ k ∧ iv = .int .i64 i ∧ Below w7.heap.size w7 wr)
  case atStart => exact ⟨0, by omega, by omega, rfl, Below.refl _ _⟩
  case round =>
    obtain ⟨i, hi, hik, rfl, hbel⟩ := hrel
    have hbr : Below w.heap.size w wr := hBw.trans (hbel.mono hBw.size)
    by_cases hlt : i < n
    · have i1 : (i : Int) < (n : Int) := by omega
      have i3 : (0 : Int) ≤ (i : Int) := by omega
      have hil : i < l.length := by rw [HNL.out]; omega
      obtain ⟨b, off, hAe, hx⟩ := (HL.out.below hbel).at_ hil
      have hxw := HLW.out _ (List.getElem_mem hil)
      have hll := HNL.out
      generalize l[i]'hil = x at *
      have HX := Lib.hid hxw
      subst hAe
      have x0 : wr.cell? ⟨b, off + i * 5, none⟩ = some (.int .i64 x.k) := hx.get 0 rfl
      have x1 : wr.cell? ⟨b, off + i * 5 + 1, none⟩ = some (.int .i64 x.n) := hx.get 1 rfl
      have x2 : wr.cell? ⟨b, off + i * 5 + 2, none⟩ = some (.int .i64 x.s) := hx.get 2 rfl
      have x3 : wr.cell? ⟨b, off + i * 5 + 3, none⟩ = some (.string x.t) := hx.get 3 rfl
      have x4 : wr.cell? ⟨b, off + i * 5 + 4, none⟩ = some (.int .i64 x.i) := hx.get 4 rfl
      clear hx hxw hil hll
      have HRI : Hid (∀ W, Below wr.heap.size wr W → Calls Tryz.prog 29 #[.agg #[.int .i64 t.k, .int .i64 t.sc, .bool t.c.any, .bool t.c.neg, .slice T t.c.ts.length ct], .agg #[.int .i64 x.k, .int .i64 x.n, .int .i64 x.s, .string x.t, .int .i64 x.i]] W fun e w' => e = .returned (.bool (inTy t x)) ∧ Below W.heap.size W w') := Lib.hid (fun W hW => rIn_any t x T ct W (HT.out.below (hbr.trans (hW.mono hbr.size))) HX.out)
      have HHF : Hid (∀ W, Below wr.heap.size wr W → Calls Tryz.prog 30 #[.agg #[.int .i64 t.k, .int .i64 t.sc, .bool t.c.any, .bool t.c.neg, .slice T t.c.ts.length ct], .agg #[.int .i64 r2.k, .slice X2 r2.sp.length cx2, .bool r2.al, .slice Y2 r2.ws.length cy2, .int .i64 r2.b, .bool r2.nul], .agg #[.int .i64 x.k, .int .i64 x.n, .int .i64 x.s, .string x.t, .int .i64 x.i]] W fun e w' => e = .returned (.bool (inTy t x)) ∧ Below W.heap.size W w') := Lib.hid (fun W hW => by
        rw [← has_full i2]
        exact rHas_any t r2 x T X2 Y2 ct cx2 cy2 W (HT.out.below (hbr.trans (hW.mono hbr.size))) (hR2.below (hbel.trans (hW.mono hbel.size))) HX.out (by have := ok2.ls; omega) (by have := ok2.lw; omega))
      have HHS : Hid (∀ W, Below wr.heap.size wr W → Calls Tryz.prog 30 #[.agg #[.int .i64 t.k, .int .i64 t.sc, .bool t.c.any, .bool t.c.neg, .slice T t.c.ts.length ct], .agg #[.int .i64 r.k, .slice X r.sp.length cx, .bool r.al, .slice Y r.ws.length cy, .int .i64 r.b, .bool r.nul], .agg #[.int .i64 x.k, .int .i64 x.n, .int .i64 x.s, .string x.t, .int .i64 x.i]] W fun e w' => e = .returned (.bool (inTy t x && refAllB c x)) ∧ Below W.heap.size W w') := Lib.hid (fun W hW => by
        rw [← has_of hu ir]
        exact rHas_any t r x T X Y ct cx cy W (HT.out.below (hbr.trans (hW.mono hbr.size))) (hR1.below (hbel.trans (hW.mono hbel.size))) HX.out (by have := okr.ls; omega) (by have := okr.lw; omega))
      have HAL : Hid (inTy t x = true → ∀ W, Below wr.heap.size wr W → Calls Tryz.prog 42 #[.agg #[.bool c.any, .bool c.neg, .slice A c.ts.length ca], .agg #[.int .i64 x.k, .int .i64 x.n, .int .i64 x.s, .string x.t, .int .i64 x.i]] W fun e w' => e = .returned (.bool (refAllB c x)) ∧ Below W.heap.size W w') := Lib.hid (fun hin W hW => rAll_any c x A ca W (HA.out.below (hbr.trans (hW.mono hbr.size))) HW.out HX.out HN.out hu (in_fit hin).2.2.2.1)
      generalize inTy t x = I at *
      generalize refAllB c x = L' at *
      have c0 := fun (p : AtB wr) => (K0.below (hbel.trans (p.hb.mono hbel.size))).c
      have c1 := fun (p : AtB wr) => (K1.below (hbel.trans (p.hb.mono hbel.size))).c
      have cA := fun (p : AtB wr) => (KA.below (hbel.trans (p.hb.mono hbel.size))).c
      have cB := fun (p : AtB wr) => (KB.below (hbel.trans (p.hb.mono hbel.size))).c
      have y0 := AtB.cell x0
      have y1 := AtB.cell x1
      have y2 := AtB.cell x2
      have y3 := AtB.cell x3
      have y4 := AtB.cell x4
      have hbelH := Lib.hid hbel
      clear x0 x1 x2 x3 x4 hbel
      cases I
      · have HHS : Hid (∀ W, Below wr.heap.size wr W → Calls Tryz.prog 30 #[.agg #[.int .i64 t.k, .int .i64 t.sc, .bool t.c.any, .bool t.c.neg, .slice T t.c.ts.length ct], .agg #[.int .i64 r.k, .slice X r.sp.length cx, .bool r.al, .slice Y r.ws.length cy, .int .i64 r.b, .bool r.nul], .agg #[.int .i64 x.k, .int .i64 x.n, .int .i64 x.s, .string x.t, .int .i64 x.i]] W fun e w' => e = .returned (.bool false) ∧ Below W.heap.size W w') := HHS
        clear HAL
        go_wp2_with fail
        refine wp_region_quiet_at (by kernel_rfl) (by kernel_rfl) ?_
        repeat (go_big_quiet_step ((go_at_call 29; with_reducible exact AtB.quiet _ (fun W hW => HRI.out W hW))))
        refine wpQuiet_nil ?_
        intro _ hw'
        obtain ⟨pq, hw''⟩ := hw'
        subst hw''
        generalize hW13 : pq.w = W13
        have hb13 : Below wr.heap.size wr W13 := hW13 ▸ pq.hb
        clear hW13
        have d0 := fun (p : AtB W13) => c0 ⟨p.w, hb13.trans (p.hb.mono hb13.size)⟩
        have d1 := fun (p : AtB W13) => c1 ⟨p.w, hb13.trans (p.hb.mono hb13.size)⟩
        have dA := fun (p : AtB W13) => cA ⟨p.w, hb13.trans (p.hb.mono hb13.size)⟩
        have dB := fun (p : AtB W13) => cB ⟨p.w, hb13.trans (p.hb.mono hb13.size)⟩
        have e0 := fun (p : AtB W13) => y0 ⟨p.w, hb13.trans (p.hb.mono hb13.size)⟩
        have e1 := fun (p : AtB W13) => y1 ⟨p.w, hb13.trans (p.hb.mono hb13.size)⟩
        have e2 := fun (p : AtB W13) => y2 ⟨p.w, hb13.trans (p.hb.mono hb13.size)⟩
        have e3 := fun (p : AtB W13) => y3 ⟨p.w, hb13.trans (p.hb.mono hb13.size)⟩
        have e4 := fun (p : AtB W13) => y4 ⟨p.w, hb13.trans (p.hb.mono hb13.size)⟩
        clear c0 c1 cA cB y0 y1 y2 y3 y4
        dsimp only at d0 d1 dA dB e0 e1 e2 e3 e4
        go_wp2_with fail
        refine wp_region_quiet_at (by kernel_rfl) (by kernel_rfl) ?_
        repeat (go_big_quiet_step ((first
          | (go_at_call 30; with_reducible exact AtB.quiet _ (fun W hW => HHF.out W (hb13.trans (hW.mono hb13.size))))
          | (go_at_call 30; with_reducible exact AtB.quiet _ (fun W hW => HHS.out W (hb13.trans (hW.mono hb13.size)))))))
        refine wpQuiet_nil ?_
        intro _ hw'
        obtain ⟨qq, hw''⟩ := hw'
        subst hw''
        generalize hW14 : qq.w = W14
        have hb14 : Below wr.heap.size wr W14 := hb13.trans (Below.mono (hW14 ▸ qq.hb) hb13.size)
        clear hW14 d0 d1 dA dB e0 e1 e2 e3 e4
        have hb15 := hbelH.out.trans (hb14.mono hbelH.out.size)
        go_wp2_with fail
        go_roundg (n - (i + 1))
        case measure => omega
        case rel => exact ⟨i + 1, by omega, Nat.le_refl _, by go_num, hb15⟩
      · have HHS : Hid (∀ W, Below wr.heap.size wr W → Calls Tryz.prog 30 #[.agg #[.int .i64 t.k, .int .i64 t.sc, .bool t.c.any, .bool t.c.neg, .slice T t.c.ts.length ct], .agg #[.int .i64 r.k, .slice X r.sp.length cx, .bool r.al, .slice Y r.ws.length cy, .int .i64 r.b, .bool r.nul], .agg #[.int .i64 x.k, .int .i64 x.n, .int .i64 x.s, .string x.t, .int .i64 x.i]] W fun e w' => e = .returned (.bool L') ∧ Below W.heap.size W w') := HHS
        have HAL2 := Lib.hid (HAL.out rfl)
        clear HAL
        cases L'
        all_goals
          go_wp2_with fail
          refine wp_region_quiet_at (by kernel_rfl) (by kernel_rfl) ?_
          repeat (go_big_quiet_step ((go_at_call 29; with_reducible exact AtB.quiet _ (fun W hW => HRI.out W hW))))
          refine wpQuiet_nil ?_
          intro _ hw'
          obtain ⟨pq, hw''⟩ := hw'
          subst hw''
          generalize hW13 : pq.w = W13
          have hb13 : Below wr.heap.size wr W13 := hW13 ▸ pq.hb
          clear hW13
          have d0 := fun (p : AtB W13) => c0 ⟨p.w, hb13.trans (p.hb.mono hb13.size)⟩
          have d1 := fun (p : AtB W13) => c1 ⟨p.w, hb13.trans (p.hb.mono hb13.size)⟩
          have dA := fun (p : AtB W13) => cA ⟨p.w, hb13.trans (p.hb.mono hb13.size)⟩
          have dB := fun (p : AtB W13) => cB ⟨p.w, hb13.trans (p.hb.mono hb13.size)⟩
          have e0 := fun (p : AtB W13) => y0 ⟨p.w, hb13.trans (p.hb.mono hb13.size)⟩
          have e1 := fun (p : AtB W13) => y1 ⟨p.w, hb13.trans (p.hb.mono hb13.size)⟩
          have e2 := fun (p : AtB W13) => y2 ⟨p.w, hb13.trans (p.hb.mono hb13.size)⟩
          have e3 := fun (p : AtB W13) => y3 ⟨p.w, hb13.trans (p.hb.mono hb13.size)⟩
          have e4 := fun (p : AtB W13) => y4 ⟨p.w, hb13.trans (p.hb.mono hb13.size)⟩
          clear c0 c1 cA cB y0 y1 y2 y3 y4
          dsimp only at d0 d1 dA dB e0 e1 e2 e3 e4
          go_wp2_with fail
          refine wp_region_quiet_at (by kernel_rfl) (by kernel_rfl) ?_
          repeat (go_big_quiet_step ((first
            | (go_at_call 30; with_reducible exact AtB.quiet _ (fun W hW => HHF.out W (hb13.trans (hW.mono hb13.size))))
            | (go_at_call 30; with_reducible exact AtB.quiet _ (fun W hW => HHS.out W (hb13.trans (hW.mono hb13.size))))
            | (go_at_call 42; with_reducible exact AtB.quiet _ (fun W hW => HAL2.out W (hb13.trans (hW.mono hb13.size)))))))
          refine wpQuiet_nil ?_
          intro _ hw'
          obtain ⟨qq, hw''⟩ := hw'
          subst hw''
          generalize hW14 : qq.w = W14
          have hb14 : Below wr.heap.size wr W14 := hb13.trans (Below.mono (hW14 ▸ qq.hb) hb13.size)
          clear hW14 d0 d1 dA dB e0 e1 e2 e3 e4
          have hb15 := hbelH.out.trans (hb14.mono hbelH.out.size)
          go_wp2_with fail
          go_roundg (n - (i + 1))
          case measure => omega
          case rel => exact ⟨i + 1, by omega, Nat.le_refl _, by go_num, hb15⟩
    · have i1 : ¬ (i : Int) < (n : Int) := by omega
      clear hbel
      go_wp2_with fail
      go_ret
      exact ⟨rfl, hbr⟩
theorem lawOf_any (t : Ty) (c : Cel) (v : Vl) (T A : Option Addr) (ct ca : Nat) (w : World) (hT : TyAt w t T) (hA : RdL w 13 A (c.ts.map Tst.cells)) (hw : ∀ x ∈ c.ts, x.wf) (hn : c.ts.length ≤ 9223372036854775807) (hv : v.wf) (hE : EnvP w) :
    Calls Tryz.prog 9 #[.agg #[.int .i64 t.k, .int .i64 t.sc, .bool t.c.any, .bool t.c.neg, .slice T t.c.ts.length ct], .agg #[.bool c.any, .bool c.neg, .slice A c.ts.length ca], .agg #[.int .i64 v.k, .int .i64 v.n, .int .i64 v.s, .string v.t, .int .i64 v.i]] w fun e w' => e = .returned (.bool true) ∧ Below w.heap.size w w' := by
  cases h : tySnd t
  · exact lawOf_no1 t c v T A ct ca w h hT hA hw hn hv hE
  · cases h2 : uSndB c
    · exact lawOf_no2 t c v T A ct ca w h h2 hT hA hw hn hv hE
    · exact lawOf_yes t c v T A ct ca w h h2 hT hA hw hn hv hE
end Go.Proofs.YtankkadnhdfpfaaGreatDoor
