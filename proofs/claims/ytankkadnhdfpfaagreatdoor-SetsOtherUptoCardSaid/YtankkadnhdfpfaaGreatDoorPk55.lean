import Derived.Test.YtankkadnhdfpfaaGreatDoorPk33
import Derived.Test.YtankkadnhdfpfaaGreatDoorPk41
import Derived.Test.YtankkadnhdfpfaaGreatDoorPk46
import Derived.Test.YtankkadnhdfpfaaGreatDoorPk47
import Derived.Test.YtankkadnhdfpfaaGreatDoorPk53
/- soffitlaw15.SetsOther: walked. -/
set_option linter.unusedSimpArgs false
set_option linter.unusedVariables false
namespace Go.Proofs.YtankkadnhdfpfaaGreatDoor
open Go.RowKit Sp Wd

theorem other_none (g f : Sg) : ((f.meet (lessG g)).meet g).nul = false ∧ (∀ n, ((f.meet (lessG g)).meet g).P n = false) ∧ (∀ x, ((f.meet (lessG g)).meet g).Q x = false) ∧ ((f.meet (lessG g)).meet g).f = false ∧ ((f.meet (lessG g)).meet g).t = false := by
  refine ⟨?_, fun n => ?_, fun x => ?_, ?_, ?_⟩
  · show ((f.nul && !g.nul) && g.nul) = false
    cases g.nul <;> simp
  · show ((f.P n && ((allG g.k).P n && !g.P n)) && g.P n) = false
    cases g.P n <;> simp
  · show ((f.Q x && ((allG g.k).Q x && !g.Q x)) && g.Q x) = false
    cases g.Q x <;> simp
  · show ((f.f && ((allG g.k).f && !g.f)) && g.f) = false
    cases g.f <;> simp
  · show ((f.t && ((allG g.k).t && !g.t)) && g.t) = false
    cases g.t <;> simp
theorem other_empty {f : Sg} {s o m r4 : St} (hk : 1 ≤ f.k ∧ f.k ≤ 4) (hs : s.k = f.k) (io : Is (f.meet (lessG s.sg)) o) (alo : o.al = true → (s.k == 2 && s.al) = false) (im : Is (o.sg.meet s.sg) m) (alm : m.al = true → o.al = true ∧ s.al = true) (i4 : Is m.sg r4) (al4 : r4.al = (m.k == 2 && m.al)) : emptyG r4 = true := by
  have hok : o.sg.k = f.k := io.k
  rw [im.sg_eq (by show 1 ≤ o.sg.k ∧ o.sg.k ≤ 4; omega), io.sg_eq (by show 1 ≤ f.k ∧ f.k ≤ 4; omega)] at i4
  obtain ⟨h1, h2, h3, h4, h5⟩ := other_none s.sg f
  refine empty_none i4 h1 h2 h3 h4 h5 (fun h => ?_)
  have hk2 : f.k = 2 := h
  rw [Bool.eq_false_iff]
  intro h6
  rw [al4, Bool.and_eq_true] at h6
  obtain ⟨h7, h8⟩ := alm h6.2
  have h9 := alo h7
  rw [h8, hs, hk2] at h9
  cases h9
set_option maxRecDepth 100000 in
set_option maxHeartbeats 12800000 in
theorem lawOther_no (t : Ty) (s : St) (v : Vl) (N : Nat) (T A B : Option Addr) (ct ca cb : Nat) (w : World) (hTy : tySnd t = false) (hT : TyAt w t T) (hS : StAt w s A B) (os : StOk N s) (hN : N ≤ 1048576) (hv : v.wf) (hE : EnvP w) :
    Calls Tryz.prog 12 #[.agg #[.int .i64 t.k, .int .i64 t.sc, .bool t.c.any, .bool t.c.neg, .slice T t.c.ts.length ct], .agg #[.int .i64 s.k, .slice A s.sp.length ca, .bool s.al, .slice B s.ws.length cb, .int .i64 s.b, .bool s.nul], .agg #[.int .i64 v.k, .int .i64 v.n, .int .i64 v.s, .string v.t, .int .i64 v.i]] w fun e w' => e = .returned (.bool true) ∧ Below w.heap.size w w' := by
  have HT := Lib.hid hT
  have HS := Lib.hid hS
  have HV := Lib.hid hv
  have HE := Lib.hid hE
  clear hT hS hv hE
  go_enter Tryz.func12, Tryz.ntmps12
  go_wp2_with fail
  generalize hW0 : ((w.alloc _).alloc _).alloc _ = W0
  have hb0 : Below w.heap.size w W0 := (by rw [← hW0]; exact bel)
  have K0 : BoxIs W0 w.heap.size #[.int .i64 t.k, .int .i64 t.sc, .bool t.c.any, .bool t.c.neg, .slice T t.c.ts.length ct] := (by rw [← hW0]; exact ((BoxIs.new (t := 26) rfl).alloc _).alloc _)
  have K1 : BoxIs W0 (w.heap.size + 1) #[.int .i64 s.k, .slice A s.sp.length ca, .bool s.al, .slice B s.ws.length cb, .int .i64 s.b, .bool s.nul] := (by rw [← hW0]; exact (BoxIs.new (t := 36) (by simp)).alloc _)
  have K2 : BoxIs W0 (w.heap.size + 2) #[.int .i64 v.k, .int .i64 v.n, .int .i64 v.s, .string v.t, .int .i64 v.i] := (by rw [← hW0]; exact BoxIs.new (t := 30) (by simp))
  have hT0 := HT.out.below hb0
  have hS0 := HS.out.below hb0
  have hE0 := HE.out.below hb0
  clear hW0
  refine (setOther_no t s T A B ct ca cb _ hTy hT0 hE0.env).mono ?_
  rintro e w1 ⟨rfl, hb1⟩
  have K0 := K0.below hb1
  have K1 := K1.below hb1
  have K2 := K2.below hb1
  have c0 := K0.c
  have l0 := K0.lt
  have c1 := K1.c
  have l1 := K1.lt
  have c2 := K2.c
  have l2 := K2.lt
  have hB1 : Below w.heap.size w w1 := hb0.trans (hb1.mono hb0.size)
  clear hb0 hb1 hT0 hS0 hE0
  go_wp2_with fail
  generalize hXW1 : World.alloc w1 _ = W1
  have hbW1 : Below w1.heap.size w1 W1 := (by rw [← hXW1]; exact Below.alloc (Below.refl _ _) (Nat.le_refl _) _)
  have KA : BoxIs W1 w1.heap.size #[.int .i64 0, .slice none 0 0, .bool false, .slice none 0 0, .int .i64 0, .bool false] := (by rw [← hXW1]; exact BoxIs.new (t := 36) rfl)
  obtain ⟨bA, hqA⟩ : ∃ bA, w1.heap.size = bA := ⟨_, rfl⟩
  rw [hqA] at KA
  rw [hqA]
  clear hXW1 hqA
  have K0 := K0.below hbW1
  have K1 := K1.below hbW1
  have K2 := K2.below hbW1
  have hB2 : Below w.heap.size w W1 := hB1.trans (hbW1.mono hB1.size)
  clear hB1 hbW1
  clear c0 l0 c1 l1 c2 l2
  refine (rSetSound_any t T ct _ (HT.out.below hB2)).mono ?_
  rintro e w2 ⟨rfl, hb2⟩
  rw [hTy]
  have K0 := K0.below hb2
  have K1 := K1.below hb2
  have K2 := K2.below hb2
  have KA := KA.below hb2
  have c0 := K0.c
  have l0 := K0.lt
  have c1 := K1.c
  have l1 := K1.lt
  have c2 := K2.c
  have l2 := K2.lt
  have cA := KA.c
  have lA := KA.lt
  have hB3 : Below w.heap.size w w2 := hB2.trans (hb2.mono hB2.size)
  clear hb2 hB2
  go_wp2_with fail
  refine (awake15_any _ (HE.out.below hB3)).mono ?_
  rintro e w4 ⟨rfl, hb4⟩
  clear c0 l0 c1 l1 c2 l2 cA lA
  have KA := KA.below hb4
  have cA := KA.c
  have lA := KA.lt
  have hB4 : Below w.heap.size w w4 := hB3.trans (hb4.mono hB3.size)
  clear hb4 hB3 K0 K1 K2
  go_wp2_with fail
  refine (rZero_any _).mono ?_
  rintro e w5 ⟨rfl, hb5⟩
  go_wp2_with fail
  go_ret
  exact ⟨rfl, bel⟩
set_option maxRecDepth 100000 in
set_option maxHeartbeats 12800000 in
theorem lawOther_arg (t : Ty) (s : St) (v : Vl) (N : Nat) (T A B : Option Addr) (ct ca cb : Nat) (w : World) (hTy : tySnd t = true) (hk : s.k ≠ t.k) (hT : TyAt w t T) (hS : StAt w s A B) (os : StOk N s) (hN : N ≤ 1048576) (hv : v.wf) (hE : EnvP w) :
    Calls Tryz.prog 12 #[.agg #[.int .i64 t.k, .int .i64 t.sc, .bool t.c.any, .bool t.c.neg, .slice T t.c.ts.length ct], .agg #[.int .i64 s.k, .slice A s.sp.length ca, .bool s.al, .slice B s.ws.length cb, .int .i64 s.b, .bool s.nul], .agg #[.int .i64 v.k, .int .i64 v.n, .int .i64 v.s, .string v.t, .int .i64 v.i]] w fun e w' => e = .returned (.bool true) ∧ Below w.heap.size w w' := by
  have HT := Lib.hid hT
  have HS := Lib.hid hS
  have HV := Lib.hid hv
  have HE := Lib.hid hE
  clear hT hS hv hE
  go_enter Tryz.func12, Tryz.ntmps12
  go_wp2_with fail
  generalize hW0 : ((w.alloc _).alloc _).alloc _ = W0
  have hb0 : Below w.heap.size w W0 := (by rw [← hW0]; exact bel)
  have K0 : BoxIs W0 w.heap.size #[.int .i64 t.k, .int .i64 t.sc, .bool t.c.any, .bool t.c.neg, .slice T t.c.ts.length ct] := (by rw [← hW0]; exact ((BoxIs.new (t := 26) rfl).alloc _).alloc _)
  have K1 : BoxIs W0 (w.heap.size + 1) #[.int .i64 s.k, .slice A s.sp.length ca, .bool s.al, .slice B s.ws.length cb, .int .i64 s.b, .bool s.nul] := (by rw [← hW0]; exact (BoxIs.new (t := 36) (by simp)).alloc _)
  have K2 : BoxIs W0 (w.heap.size + 2) #[.int .i64 v.k, .int .i64 v.n, .int .i64 v.s, .string v.t, .int .i64 v.i] := (by rw [← hW0]; exact BoxIs.new (t := 30) (by simp))
  have hT0 := HT.out.below hb0
  have hS0 := HS.out.below hb0
  have hE0 := HE.out.below hb0
  clear hW0
  refine (setOther_arg t s T A B ct ca cb _ hTy hk hT0 hE0.env).mono ?_
  rintro e w1 ⟨rfl, hb1⟩
  have K0 := K0.below hb1
  have K1 := K1.below hb1
  have K2 := K2.below hb1
  have c0 := K0.c
  have l0 := K0.lt
  have c1 := K1.c
  have l1 := K1.lt
  have c2 := K2.c
  have l2 := K2.lt
  have hB1 : Below w.heap.size w w1 := hb0.trans (hb1.mono hb0.size)
  clear hb0 hb1 hT0 hS0 hE0
  go_wp2_with fail
  generalize hXW1 : World.alloc w1 _ = W1
  have hbW1 : Below w1.heap.size w1 W1 := (by rw [← hXW1]; exact Below.alloc (Below.refl _ _) (Nat.le_refl _) _)
  have KA : BoxIs W1 w1.heap.size #[.int .i64 0, .slice none 0 0, .bool false, .slice none 0 0, .int .i64 0, .bool false] := (by rw [← hXW1]; exact BoxIs.new (t := 36) rfl)
  obtain ⟨bA, hqA⟩ : ∃ bA, w1.heap.size = bA := ⟨_, rfl⟩
  rw [hqA] at KA
  rw [hqA]
  clear hXW1 hqA
  have K0 := K0.below hbW1
  have K1 := K1.below hbW1
  have K2 := K2.below hbW1
  have hB2 : Below w.heap.size w W1 := hB1.trans (hbW1.mono hB1.size)
  clear hB1 hbW1
  clear c0 l0 c1 l1 c2 l2
  refine (rSetSound_any t T ct _ (HT.out.below hB2)).mono ?_
  rintro e w2 ⟨rfl, hb2⟩
  rw [hTy]
  have K0 := K0.below hb2
  have K1 := K1.below hb2
  have K2 := K2.below hb2
  have KA := KA.below hb2
  have c0 := K0.c
  have l0 := K0.lt
  have c1 := K1.c
  have l1 := K1.lt
  have c2 := K2.c
  have l2 := K2.lt
  have cA := KA.c
  have lA := KA.lt
  have hB3 : Below w.heap.size w w2 := hB2.trans (hb2.mono hB2.size)
  clear hb2 hB2
  have q1 : (s.k != t.k) = true := by simpa using hk
  go_wp2_with fail
  refine (awake15_any _ (HE.out.below hB3)).mono ?_
  rintro e w4 ⟨rfl, hb4⟩
  clear c0 l0 c1 l1 c2 l2 cA lA
  have KA := KA.below hb4
  have cA := KA.c
  have lA := KA.lt
  have hB4 : Below w.heap.size w w4 := hB3.trans (hb4.mono hB3.size)
  clear hb4 hB3 K0 K1 K2
  go_wp2_with fail
  refine (rZero_any _).mono ?_
  rintro e w5 ⟨rfl, hb5⟩
  go_wp2_with fail
  go_ret
  exact ⟨rfl, bel⟩
set_option maxRecDepth 100000 in
set_option maxHeartbeats 12800000 in
theorem lawOther_yes (t : Ty) (s : St) (v : Vl) (N : Nat) (T A B : Option Addr) (ct ca cb : Nat) (w : World) (hTy : tySnd t = true) (hk : s.k = t.k) (hT : TyAt w t T) (hS : StAt w s A B) (os : StOk N s) (hN : N ≤ 1048576) (hv : v.wf) (hE : EnvP w) :
    Calls Tryz.prog 12 #[.agg #[.int .i64 t.k, .int .i64 t.sc, .bool t.c.any, .bool t.c.neg, .slice T t.c.ts.length ct], .agg #[.int .i64 s.k, .slice A s.sp.length ca, .bool s.al, .slice B s.ws.length cb, .int .i64 s.b, .bool s.nul], .agg #[.int .i64 v.k, .int .i64 v.n, .int .i64 v.s, .string v.t, .int .i64 v.i]] w fun e w' => e = .returned (.bool true) ∧ Below w.heap.size w w' := by
  obtain ⟨hKd, hSc, -, -⟩ := ty_of hTy
  have HKK := Lib.hid hk
  clear hk
  have HT := Lib.hid hT
  have HS := Lib.hid hS
  have HV := Lib.hid hv
  have HE := Lib.hid hE
  clear hT hS hv hE
  go_enter Tryz.func12, Tryz.ntmps12
  go_wp2_with fail
  generalize hW0 : ((w.alloc _).alloc _).alloc _ = W0
  have hb0 : Below w.heap.size w W0 := (by rw [← hW0]; exact bel)
  have K0 : BoxIs W0 w.heap.size #[.int .i64 t.k, .int .i64 t.sc, .bool t.c.any, .bool t.c.neg, .slice T t.c.ts.length ct] := (by rw [← hW0]; exact ((BoxIs.new (t := 26) rfl).alloc _).alloc _)
  have K1 : BoxIs W0 (w.heap.size + 1) #[.int .i64 s.k, .slice A s.sp.length ca, .bool s.al, .slice B s.ws.length cb, .int .i64 s.b, .bool s.nul] := (by rw [← hW0]; exact (BoxIs.new (t := 36) (by simp)).alloc _)
  have K2 : BoxIs W0 (w.heap.size + 2) #[.int .i64 v.k, .int .i64 v.n, .int .i64 v.s, .string v.t, .int .i64 v.i] := (by rw [← hW0]; exact BoxIs.new (t := 30) (by simp))
  have hT0 := HT.out.below hb0
  have hS0 := HS.out.below hb0
  have hE0 := HE.out.below hb0
  clear hW0
  refine (setOther_any t s N T A B ct ca cb _ hTy HKK.out hT0 hS0 os (by omega) hE0.env).mono ?_
  rintro e w1 ⟨r, X, Y, cx, cy, rfl, hR1, ir, okr, al, hb1⟩
  have AL := Lib.hid al
  have K0 := K0.below hb1
  have K1 := K1.below hb1
  have K2 := K2.below hb1
  have c0 := K0.c
  have l0 := K0.lt
  have c1 := K1.c
  have l1 := K1.lt
  have c2 := K2.c
  have l2 := K2.lt
  have hB1 : Below w.heap.size w w1 := hb0.trans (hb1.mono hb0.size)
  clear hb0 hb1 hT0 hS0 hE0 al
  go_wp2_with fail
  generalize hXW1 : World.alloc w1 _ = W1
  have hbW1 : Below w1.heap.size w1 W1 := (by rw [← hXW1]; exact Below.alloc (Below.refl _ _) (Nat.le_refl _) _)
  have KA : BoxIs W1 w1.heap.size #[.int .i64 r.k, .slice X r.sp.length cx, .bool r.al, .slice Y r.ws.length cy, .int .i64 r.b, .bool r.nul] := (by rw [← hXW1]; exact BoxIs.new (t := 36) rfl)
  obtain ⟨bA, hqA⟩ : ∃ bA, w1.heap.size = bA := ⟨_, rfl⟩
  rw [hqA] at KA
  rw [hqA]
  clear hXW1 hqA
  have K0 := K0.below hbW1
  have K1 := K1.below hbW1
  have K2 := K2.below hbW1
  have hB2 : Below w.heap.size w W1 := hB1.trans (hbW1.mono hB1.size)
  have hR1 := hR1.below hbW1
  clear hB1 hbW1
  clear c0 l0 c1 l1 c2 l2
  refine (rSetSound_any t T ct _ (HT.out.below hB2)).mono ?_
  rintro e w2 ⟨rfl, hb2⟩
  rw [hTy]
  have K0 := K0.below hb2
  have K1 := K1.below hb2
  have K2 := K2.below hb2
  have KA := KA.below hb2
  have c0 := K0.c
  have l0 := K0.lt
  have c1 := K1.c
  have l1 := K1.lt
  have c2 := K2.c
  have l2 := K2.lt
  have cA := KA.c
  have lA := KA.lt
  have hB3 : Below w.heap.size w w2 := hB2.trans (hb2.mono hB2.size)
  have hR1 := hR1.below hb2
  clear hb2 hB2
  have q1 : (s.k != t.k) = false := by rw [HKK.out]; simp
  go_wp2_with fail
  refine (awake15_any _ (HE.out.below hB3)).mono ?_
  rintro e w3 ⟨rfl, hb3⟩
  clear c0 l0 c1 l1 c2 l2 cA lA
  have K0 := K0.below hb3
  have K1 := K1.below hb3
  have K2 := K2.below hb3
  have KA := KA.below hb3
  have c0 := K0.c
  have l0 := K0.lt
  have c1 := K1.c
  have l1 := K1.lt
  have c2 := K2.c
  have l2 := K2.lt
  have cA := KA.c
  have lA := KA.lt
  have hB4 : Below w.heap.size w w3 := hB3.trans (hb3.mono hB3.size)
  have hR1 := hR1.below hb3
  clear hb3 hB3 q1
  go_wp2_with fail
  refine (rTidy_any r _ (9 + (N + 1)) X Y cx cy _ hR1 ir (by show 1 ≤ (fullG t).k ∧ (fullG t).k ≤ 4; rw [fullG_k]; exact hKd) okr (by omega)).mono ?_
  rintro e w4 ⟨rfl, hb4⟩
  clear c0 l0 c1 l1 c2 l2 cA lA
  have K0 := K0.below hb4
  have K1 := K1.below hb4
  have K2 := K2.below hb4
  have KA := KA.below hb4
  have c0 := K0.c
  have l0 := K0.lt
  have c1 := K1.c
  have l1 := K1.lt
  have c2 := K2.c
  have l2 := K2.lt
  have cA := KA.c
  have lA := KA.lt
  have hB5 : Below w.heap.size w w4 := hB4.trans (hb4.mono hB4.size)
  have hR1 := hR1.below hb4
  clear hb4 hB4
  go_wp2_with fail
  refine (asks_any t v t.c.ts T T ct ct _ (HT.out.below hB5).rd HT.out.ts HT.out.n HV.out hSc).mono ?_
  rintro e W7 ⟨l, sl, rfl, ho, hb5⟩
  obtain ⟨L, cl, rfl, hL⟩ := Go.Proofs.YtankkadnhdfpfaaGreatDoor.own_rd (css := l.map Vl.cells5) ho.own (by rw [List.flatMap_def]) (by intro c hc; obtain ⟨x, _, rfl⟩ := List.mem_map.1 hc; rfl) (by rw [List.length_map])
  clear c0 l0 c1 l1 c2 l2 cA lA
  have K0 := K0.below hb5
  have K1 := K1.below hb5
  have K2 := K2.below hb5
  have KA := KA.below hb5
  have hBw : Below w.heap.size w W7 := hB5.trans (hb5.mono hB5.size)
  have hR1 := hR1.below hb5
  have HL := Lib.hid hL
  have HLW := Lib.hid ho.wf
  have hn72 := ho.len
  obtain ⟨n, hnn⟩ : ∃ n, l.length = n := ⟨_, rfl⟩
  have HNL := Lib.hid hnn
  rw [hnn] at hn72 ⊢
  clear hL ho hb5 hB5 hnn
  go_wp2_with fail
  go_loopg [10] n (fun k iv wr => ∃ i : Nat, i ≤ n ∧ n - i ≤ k ∧ iv = .int .i64 i ∧ Below W7.heap.size W7 wr)
  case atStart => exact ⟨0, by omega, by omega, rfl, Below.refl _ _⟩
  case round =>
    obtain ⟨i, hi, hik, rfl, hbel⟩ := hrel
    have hbr : Below w.heap.size w wr := hBw.trans (hbel.mono hBw.size)
    by_cases hlt : i < n
    · have i1 : (i : Int) < (n : Int) := by omega
      have i3 : (0 : Int) ≤ (i : Int) := by omega
      have hil : i < l.length := by rw [HNL.out]; omega
      obtain ⟨b, off, hAe, hx⟩ := (HL.out.below hbel).at_ hil
      have hxw := HLW.out _ (List.getElem_mem hil)
      have hll := HNL.out
      generalize l[i]'hil = x at *
      have HX := Lib.hid hxw
      subst hAe
      have x0 : wr.cell? ⟨b, off + i * 5, none⟩ = some (.int .i64 x.k) := hx.get 0 rfl
      have x1 : wr.cell? ⟨b, off + i * 5 + 1, none⟩ = some (.int .i64 x.n) := hx.get 1 rfl
      have x2 : wr.cell? ⟨b, off + i * 5 + 2, none⟩ = some (.int .i64 x.s) := hx.get 2 rfl
      have x3 : wr.cell? ⟨b, off + i * 5 + 3, none⟩ = some (.string x.t) := hx.get 3 rfl
      have x4 : wr.cell? ⟨b, off + i * 5 + 4, none⟩ = some (.int .i64 x.i) := hx.get 4 rfl
      clear hx hxw hil hll
      have HRI : Hid (∀ W, Below wr.heap.size wr W → Calls Tryz.prog 29 #[.agg #[.int .i64 t.k, .int .i64 t.sc, .bool t.c.any, .bool t.c.neg, .slice T t.c.ts.length ct], .agg #[.int .i64 x.k, .int .i64 x.n, .int .i64 x.s, .string x.t, .int .i64 x.i]] W fun e w' => e = .returned (.bool (inTy t x)) ∧ Below W.heap.size W w') := Lib.hid (fun W hW => rIn_any t x T ct W (HT.out.below (hbr.trans (hW.mono hbr.size))) HX.out)
      have HHO : Hid (∀ W, Below wr.heap.size wr W → Calls Tryz.prog 30 #[.agg #[.int .i64 t.k, .int .i64 t.sc, .bool t.c.any, .bool t.c.neg, .slice T t.c.ts.length ct], .agg #[.int .i64 r.k, .slice X r.sp.length cx, .bool r.al, .slice Y r.ws.length cy, .int .i64 r.b, .bool r.nul], .agg #[.int .i64 x.k, .int .i64 x.n, .int .i64 x.s, .string x.t, .int .i64 x.i]] W fun e w' => e = .returned (.bool (inTy t x && !hasSt t s x)) ∧ Below W.heap.size W w') := Lib.hid (fun W hW => by
        rw [← has_other hTy HKK.out ir]
        exact rHas_any t r x T X Y ct cx cy W (HT.out.below (hbr.trans (hW.mono hbr.size))) (hR1.below (hbel.trans (hW.mono hbel.size))) HX.out (by have := okr.ls; omega) (by have := okr.lw; omega))
      have HHS : Hid (∀ W, Below wr.heap.size wr W → Calls Tryz.prog 30 #[.agg #[.int .i64 t.k, .int .i64 t.sc, .bool t.c.any, .bool t.c.neg, .slice T t.c.ts.length ct], .agg #[.int .i64 s.k, .slice A s.sp.length ca, .bool s.al, .slice B s.ws.length cb, .int .i64 s.b, .bool s.nul], .agg #[.int .i64 x.k, .int .i64 x.n, .int .i64 x.s, .string x.t, .int .i64 x.i]] W fun e w' => e = .returned (.bool (hasSt t s x)) ∧ Below W.heap.size W w') := Lib.hid (fun W hW =>
        rHas_any t s x T A B ct ca cb W (HT.out.below (hbr.trans (hW.mono hbr.size))) (HS.out.below (hbr.trans (hW.mono hbr.size))) HX.out (by have := os.ls; omega) (by have := os.lw; omega))
      generalize inTy t x = I at *
      generalize hasSt t s x = H at *
      have c0 := fun (p : AtB wr) => (K0.below (hbel.trans (p.hb.mono hbel.size))).c
      have c1 := fun (p : AtB wr) => (K1.below (hbel.trans (p.hb.mono hbel.size))).c
      have cA := fun (p : AtB wr) => (KA.below (hbel.trans (p.hb.mono hbel.size))).c
      have y0 := AtB.cell x0
      have y1 := AtB.cell x1
      have y2 := AtB.cell x2
      have y3 := AtB.cell x3
      have y4 := AtB.cell x4
      have hbelH := Lib.hid hbel
      clear x0 x1 x2 x3 x4 hbel
      cases I
      · have HHO2 : Hid (∀ W, Below wr.heap.size wr W → Calls Tryz.prog 30 #[.agg #[.int .i64 t.k, .int .i64 t.sc, .bool t.c.any, .bool t.c.neg, .slice T t.c.ts.length ct], .agg #[.int .i64 r.k, .slice X r.sp.length cx, .bool r.al, .slice Y r.ws.length cy, .int .i64 r.b, .bool r.nul], .agg #[.int .i64 x.k, .int .i64 x.n, .int .i64 x.s, .string x.t, .int .i64 x.i]] W fun e w' => e = .returned (.bool false) ∧ Below W.heap.size W w') := HHO
        clear HHO
        go_wp2_with fail
        refine wp_region_quiet_at (by kernel_rfl) (by kernel_rfl) ?_
        repeat (go_big_quiet_step ((first
          | (go_at_call 29; with_reducible exact AtB.quiet _ (fun W hW => HRI.out W hW))
          | (go_at_call 30; with_reducible exact AtB.quiet _ (fun W hW => HHO2.out W hW))
          | (go_at_call 30; with_reducible exact AtB.quiet _ (fun W hW => HHS.out W hW)))))
        refine wpQuiet_nil ?_
        intro _ hw'
        obtain ⟨qq, hw''⟩ := hw'
        subst hw''
        generalize hW14 : qq.w = W14
        have hb14 : Below wr.heap.size wr W14 := hW14 ▸ qq.hb
        clear hW14 c0 c1 cA y0 y1 y2 y3 y4
        have hb15 := hbelH.out.trans (hb14.mono hbelH.out.size)
        go_wp2_with fail
        go_roundg (n - (i + 1))
        case measure => omega
        case rel => exact ⟨i + 1, by omega, Nat.le_refl _, by go_num, hb15⟩
      · have HHO2 : Hid (∀ W, Below wr.heap.size wr W → Calls Tryz.prog 30 #[.agg #[.int .i64 t.k, .int .i64 t.sc, .bool t.c.any, .bool t.c.neg, .slice T t.c.ts.length ct], .agg #[.int .i64 r.k, .slice X r.sp.length cx, .bool r.al, .slice Y r.ws.length cy, .int .i64 r.b, .bool r.nul], .agg #[.int .i64 x.k, .int .i64 x.n, .int .i64 x.s, .string x.t, .int .i64 x.i]] W fun e w' => e = .returned (.bool (!H)) ∧ Below W.heap.size W w') := HHO
        clear HHO
        cases H
        all_goals
          go_wp2_with fail
          refine wp_region_quiet_at (by kernel_rfl) (by kernel_rfl) ?_
          repeat (go_big_quiet_step ((first
            | (go_at_call 29; with_reducible exact AtB.quiet _ (fun W hW => HRI.out W hW))
            | (go_at_call 30; with_reducible exact AtB.quiet _ (fun W hW => HHO2.out W hW))
            | (go_at_call 30; with_reducible exact AtB.quiet _ (fun W hW => HHS.out W hW)))))
          refine wpQuiet_nil ?_
          intro _ hw'
          obtain ⟨qq, hw''⟩ := hw'
          subst hw''
          generalize hW14 : qq.w = W14
          have hb14 : Below wr.heap.size wr W14 := hW14 ▸ qq.hb
          clear hW14 c0 c1 cA y0 y1 y2 y3 y4
          have hb15 := hbelH.out.trans (hb14.mono hbelH.out.size)
          go_wp2_with fail
          go_roundg (n - (i + 1))
          case measure => omega
          case rel => exact ⟨i + 1, by omega, Nat.le_refl _, by go_num, hb15⟩
    · have i1 : ¬ (i : Int) < (n : Int) := by omega
      have hR1 := hR1.below hbel
      have hbl := Lib.hid hbel
      have K1 := K1.below hbel
      have KA := KA.below hbel
      have c1 := K1.c
      have l1 := K1.lt
      have cA := KA.c
      have lA := KA.lt
      clear hbel
      go_wp2_with fail
      refine (setMeet2_any r s (9 + (N + 1)) N X Y A B cx cy ca cb _ ((ir.k.trans (fullG_k t)).trans HKK.out.symm) (by have := ir.k.trans (fullG_k t); omega) hR1 (HS.out.below hbr) okr os (by omega) (by omega) (Nat.le_trans (Nat.mul_le_mul (show 9 + (N + 1) ≤ 1048586 by omega) hN) (by decide)) (HE.out.env.below hbr)).mono ?_
      rintro e w8 ⟨r3, X3, Y3, cx3, cy3, rfl, hR3, i3, ok3, al3, hb8⟩
      have AL3 := Lib.hid al3
      clear c1 l1 cA lA
      have hB8 : Below w.heap.size w w8 := hbr.trans (hb8.mono hbr.size)
      clear hb8 al3 hbr
      go_wp2_with fail
      generalize hXW8 : World.alloc w8 _ = W8
      have hbW8 : Below w8.heap.size w8 W8 := (by rw [← hXW8]; exact Below.alloc (Below.refl _ _) (Nat.le_refl _) _)
      have KC : BoxIs W8 w8.heap.size #[.int .i64 r3.k, .slice X3 r3.sp.length cx3, .bool r3.al, .slice Y3 r3.ws.length cy3, .int .i64 r3.b, .bool r3.nul] := (by rw [← hXW8]; exact BoxIs.new (t := 36) rfl)
      obtain ⟨bC, hqC⟩ : ∃ bC, w8.heap.size = bC := ⟨_, rfl⟩
      rw [hqC] at KC
      rw [hqC]
      clear hXW8 hqC
      have hB9 : Below w.heap.size w W8 := hB8.trans (hbW8.mono hB8.size)
      have hR3 := hR3.below hbW8
      refine (setEmpty_any r3 ((9 + (N + 1)) + N) X3 Y3 cx3 cy3 _ hR3 ok3 (by omega) (HE.out.env.below hB9)).mono ?_
      rintro e w9 ⟨r4, rfl, i4, al4, hb9⟩
      rw [other_empty (by rw [fullG_k]; exact hKd) (HKK.out.trans (fullG_k t).symm) ir AL.out i3 AL3.out i4 al4]
      go_wp2_with fail
      go_ret
      exact ⟨rfl, hB9.trans (hb9.mono hB9.size)⟩
theorem lawOther_any (t : Ty) (s : St) (v : Vl) (N : Nat) (T A B : Option Addr) (ct ca cb : Nat) (w : World) (hT : TyAt w t T) (hS : StAt w s A B) (os : StOk N s) (hN : N ≤ 1048576) (hv : v.wf) (hE : EnvP w) :
    Calls Tryz.prog 12 #[.agg #[.int .i64 t.k, .int .i64 t.sc, .bool t.c.any, .bool t.c.neg, .slice T t.c.ts.length ct], .agg #[.int .i64 s.k, .slice A s.sp.length ca, .bool s.al, .slice B s.ws.length cb, .int .i64 s.b, .bool s.nul], .agg #[.int .i64 v.k, .int .i64 v.n, .int .i64 v.s, .string v.t, .int .i64 v.i]] w fun e w' => e = .returned (.bool true) ∧ Below w.heap.size w w' := by
  cases h : tySnd t
  · exact lawOther_no t s v N T A B ct ca cb w h hT hS os hN hv hE
  · by_cases h2 : s.k = t.k
    · exact lawOther_yes t s v N T A B ct ca cb w h h2 hT hS os hN hv hE
    · exact lawOther_arg t s v N T A B ct ca cb w h h2 hT hS os hN hv hE
end Go.Proofs.YtankkadnhdfpfaaGreatDoor
