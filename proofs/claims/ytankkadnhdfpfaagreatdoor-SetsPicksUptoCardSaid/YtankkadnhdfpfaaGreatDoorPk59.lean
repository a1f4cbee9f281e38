import Derived.Test.YtankkadnhdfpfaaGreatDoorPk33
import Derived.Test.YtankkadnhdfpfaaGreatDoorPk49
import Derived.Test.YtankkadnhdfpfaaGreatDoorPk41
import Derived.Test.YtankkadnhdfpfaaGreatDoorPk46
import Derived.Test.YtankkadnhdfpfaaGreatDoorPk57
import Derived.Test.YtankkadnhdfpfaaGreatDoorPk58
/- soffitlaw15.SetsPicks: walked. -/
set_option linter.unusedSimpArgs false
set_option linter.unusedVariables false
namespace Go.Proofs.YtankkadnhdfpfaaGreatDoor
open Go.RowKit Sp Wd

set_option maxRecDepth 100000 in
set_option maxHeartbeats 12800000 in
theorem pick_no (t : Ty) (s : St) (T A B : Option Addr) (ct ca cb : Nat) (w : World) (hTy : tySnd t = false) (hT : TyAt w t T) (hE : Env w) :
    Calls Tryz.prog 26 #[.agg #[.int .i64 t.k, .int .i64 t.sc, .bool t.c.any, .bool t.c.neg, .slice T t.c.ts.length ct], .agg #[.int .i64 s.k, .slice A s.sp.length ca, .bool s.al, .slice B s.ws.length cb, .int .i64 s.b, .bool s.nul]] w fun e w' => e = .returned (.tuple #[.agg #[.int .i64 0, .int .i64 0, .int .i64 0, .string ⟨#[]⟩, .int .i64 0], .int .i64 2]) ∧ Below w.heap.size w w' := by
  have HT := Lib.hid hT
  have HE := Lib.hid hE
  clear hT hE
  go_enter Tryz.func26, Tryz.ntmps26
  go_wp2_with fail
  have K2 : BoxIs (((w.alloc (.cells #[.int .i64 t.k, .int .i64 t.sc, .bool t.c.any, .bool t.c.neg, .slice T t.c.ts.length ct] 26)).alloc (.cells #[.int .i64 s.k, .slice A s.sp.length ca, .bool s.al, .slice B s.ws.length cb, .int .i64 s.b, .bool s.nul] 36)).alloc (.cells #[.int .i64 0, .int .i64 0, .int .i64 0, .string ⟨#[]⟩, .int .i64 0] 30)) (w.heap.size + 2) #[.int .i64 0, .int .i64 0, .int .i64 0, .string ⟨#[]⟩, .int .i64 0] := BoxIs.new (by simp)
  refine (setSound_any t T ct _ (HT.out.below bel) (HE.out.below bel)).mono ?_
  rintro e w1 ⟨rfl, hb1⟩
  rw [hTy]
  have K2 := K2.below hb1
  have z1 := K2.c
  have f1 := K2.f
  have l1 := K2.lt
  go_wp2_with fail
  refine bodyPost_ret (v := .tuple #[.agg #[.int .i64 0, .int .i64 0, .int .i64 0, .string ⟨#[]⟩, .int .i64 0], .int .i64 2]) (by simp [results, Tryz.results26, go_sem, *]) rfl ⟨rfl, bel⟩
set_option maxRecDepth 100000 in
set_option maxHeartbeats 12800000 in
theorem pick_arg (t : Ty) (s : St) (T A B : Option Addr) (ct ca cb : Nat) (w : World) (hTy : tySnd t = true) (hk : s.k ≠ t.k) (hT : TyAt w t T) (hE : Env w) :
    Calls Tryz.prog 26 #[.agg #[.int .i64 t.k, .int .i64 t.sc, .bool t.c.any, .bool t.c.neg, .slice T t.c.ts.length ct], .agg #[.int .i64 s.k, .slice A s.sp.length ca, .bool s.al, .slice B s.ws.length cb, .int .i64 s.b, .bool s.nul]] w fun e w' => e = .returned (.tuple #[.agg #[.int .i64 0, .int .i64 0, .int .i64 0, .string ⟨#[]⟩, .int .i64 0], .int .i64 1]) ∧ Below w.heap.size w w' := by
  have HT := Lib.hid hT
  have HE := Lib.hid hE
  have e1 : (s.k != t.k) = true := by simpa using hk
  clear hT hE hk
  go_enter Tryz.func26, Tryz.ntmps26
  go_wp2_with fail
  have K0 : BoxIs (((w.alloc (.cells #[.int .i64 t.k, .int .i64 t.sc, .bool t.c.any, .bool t.c.neg, .slice T t.c.ts.length ct] 26)).alloc (.cells #[.int .i64 s.k, .slice A s.sp.length ca, .bool s.al, .slice B s.ws.length cb, .int .i64 s.b, .bool s.nul] 36)).alloc (.cells #[.int .i64 0, .int .i64 0, .int .i64 0, .string ⟨#[]⟩, .int .i64 0] 30)) w.heap.size #[.int .i64 t.k, .int .i64 t.sc, .bool t.c.any, .bool t.c.neg, .slice T t.c.ts.length ct] := ((BoxIs.new rfl).alloc _).alloc _
  have K1 : BoxIs (((w.alloc (.cells #[.int .i64 t.k, .int .i64 t.sc, .bool t.c.any, .bool t.c.neg, .slice T t.c.ts.length ct] 26)).alloc (.cells #[.int .i64 s.k, .slice A s.sp.length ca, .bool s.al, .slice B s.ws.length cb, .int .i64 s.b, .bool s.nul] 36)).alloc (.cells #[.int .i64 0, .int .i64 0, .int .i64 0, .string ⟨#[]⟩, .int .i64 0] 30)) (w.heap.size + 1) #[.int .i64 s.k, .slice A s.sp.length ca, .bool s.al, .slice B s.ws.length cb, .int .i64 s.b, .bool s.nul] := (BoxIs.new (by simp)).alloc _
  have K2 : BoxIs (((w.alloc (.cells #[.int .i64 t.k, .int .i64 t.sc, .bool t.c.any, .bool t.c.neg, .slice T t.c.ts.length ct] 26)).alloc (.cells #[.int .i64 s.k, .slice A s.sp.length ca, .bool s.al, .slice B s.ws.length cb, .int .i64 s.b, .bool s.nul] 36)).alloc (.cells #[.int .i64 0, .int .i64 0, .int .i64 0, .string ⟨#[]⟩, .int .i64 0] 30)) (w.heap.size + 2) #[.int .i64 0, .int .i64 0, .int .i64 0, .string ⟨#[]⟩, .int .i64 0] := BoxIs.new (by simp)
  refine (setSound_any t T ct _ (HT.out.below bel) (HE.out.below bel)).mono ?_
  rintro e w1 ⟨rfl, hb1⟩
  rw [hTy]
  have K0 := (K0.below hb1)
  have K1 := (K1.below hb1)
  have K2 := K2.below hb1
  have z0 := K0.c
  have z1 := K1.c
  have z2 := K2.c
  have f2 := K2.f
  have l0 := K0.lt
  have l1 := K1.lt
  have l2 := K2.lt
  have hbw : Below w.heap.size w w1 := bel
  clear hb1
  go_wp2_with fail
  refine bodyPost_ret (v := .tuple #[.agg #[.int .i64 0, .int .i64 0, .int .i64 0, .string ⟨#[]⟩, .int .i64 0], .int .i64 1]) (by simp [results, Tryz.results26, go_sem, *]) rfl ⟨rfl, bel⟩
theorem empty_no2 {g : Sg} {s : St} (is : Is g s) (hk : 1 ≤ g.k ∧ g.k ≤ 4) (he : emptyG s = true) : g.nul = false ∧ noneV g := by
  unfold emptyG at he
  rw [Bool.and_eq_true, Bool.not_eq_true', is.nul] at he
  obtain ⟨h1, h2⟩ := he
  obtain ⟨d1, d2, d3⟩ := is.cut
  have e := is.k
  refine ⟨h1, ?_⟩
  by_cases h : s.k = 2
  · rw [if_pos h, Bool.and_eq_true, Bool.not_eq_true', List.isEmpty_iff] at h2
    have f3 := d3 (by omega)
    refine ⟨d1 (by unfold numK; simp; omega), fun x => ?_, f3.1, f3.2⟩
    rw [← is.ws, h2.1, h2.2]; exact inW_false x
  · rw [if_neg h, Bool.and_eq_true, List.isEmpty_iff, beq_iff_eq] at h2
    have hb := h2.2
    rw [is.b] at hb
    refine ⟨fun n => by rw [← is.sp, h2.1]; rfl, d2 (by omega), ?_⟩
    cases hf : g.f <;> cases ht : g.t <;> rw [hf, ht] at hb <;> first | exact ⟨rfl, rfl⟩ | (simp [bN] at hb)
/-- nothing but null, or nothing: what Empty says of the set that was met -/
theorem none_empty {g : Sg} {m r4 : St} {N : Nat} (hk : 1 ≤ g.k ∧ g.k ≤ 4) (im : Is g m) (om : StOk N m) (hN : N ≤ 10000000000000000) (hno : noneV g) (hn : g.nul = false) (i4 : Is m.sg r4) (al4 : r4.al = (m.k == 2 && m.al)) : emptyG r4 = true := by
  rw [im.sg_eq hk] at i4
  refine empty_none i4 hn hno.1 hno.2.1 hno.2.2.1 hno.2.2.2 (fun _ => ?_)
  rw [al4, none_al im hno.2.1 (Nat.le_trans om.lw hN)]; simp
theorem some_empty {g : Sg} {m r4 : St} (hk : 1 ≤ g.k ∧ g.k ≤ 4) (im : Is g m) (h : g.nul = true ∨ ¬ noneV g) (i4 : Is m.sg r4) : emptyG r4 = false := by
  cases he : emptyG r4
  · rfl
  · rw [im.sg_eq hk] at i4
    obtain ⟨h1, h2⟩ := empty_no2 i4 hk he
    rcases h with h | h
    · rw [h] at h1; cases h1
    · exact absurd h2 h
theorem best_some {t : Ty} {g : Sg} {v : Vl} (hb : BestV t g v) : ¬ noneV g := by
  intro hno
  rcases hb with ⟨-, n, ⟨hm, -⟩, -⟩ | ⟨-, n, ⟨hm, -⟩, -⟩ | ⟨-, s, hm, -⟩ | ⟨-, ⟨hm, -⟩ | ⟨-, hm, -⟩⟩
  · rw [hno.1] at hm; cases hm
  · rw [hno.1] at hm; cases hm
  · rw [hno.2.1] at hm; cases hm
  · rw [hno.2.2.1] at hm; cases hm
  · rw [hno.2.2.2] at hm; cases hm
/-- the set that was met, without null -/
def noNul (m : St) : St := ⟨m.k, m.sp, m.al, m.ws, m.b, false⟩
theorem noNul_empty {g : Sg} {m r5 : St} {N : Nat} (hk : 1 ≤ g.k ∧ g.k ≤ 4) (im : Is g m) (om : StOk N m) (hN : N ≤ 10000000000000000) (hno : noneV g) (i5 : Is (noNul m).sg r5) (al5 : r5.al = (m.k == 2 && m.al)) : emptyG r5 = true := by
  have im2 : Is { g with nul := false } (noNul m) := ⟨im.k, im.wf, im.ord, im.sp, im.rise, im.txt, im.ws, im.b, rfl, im.c1, im.c2, im.c3⟩
  have om2 : StOk N (noNul m) := ⟨om.wf, om.tx, om.ls, om.lw⟩
  exact none_empty (g := { g with nul := false }) hk im2 om2 hN hno rfl i5 al5
theorem span_in {g : Sg} {m : St} (im : Is g m) {x : Sp} (hx : x ∈ m.sp) (c : Int) : x.1 ≤ x.2 ∧ g.P x.1 = true ∧ g.P x.2 = true ∧ g.P (clampS x c) = true := by
  obtain ⟨i, hi, rfl⟩ := List.getElem_of_mem hx
  have h1 := (ordL_get m.sp im.ord i hi).1
  have key : ∀ k, hasS (m.sp[i]'hi) k = true → g.P k = true := fun k hk => by rw [← im.sp]; exact List.any_eq_true.2 ⟨_, List.getElem_mem hi, hk⟩
  exact ⟨h1, key _ (hasS_iff.2 ⟨Int.le_refl _, h1⟩), key _ (hasS_iff.2 ⟨h1, Int.le_refl _⟩), key _ (clamp_has h1 c)⟩
theorem near_all {t : Ty} {h : Sg} {v : Vl} {m : St} (ht : tySnd t = true) (hb : BestV t ((fullG t).meet h) v) (im : Is ((fullG t).meet h) m) (hv : v.wf) (T A B : Option Addr) (ct ca cb : Nat) (w : World) (hS : StAt w m A B) (hl : m.sp.length ≤ 9223372036854775807) :
    Calls Tryz.prog 44 #[.agg #[.int .i64 t.k, .int .i64 t.sc, .bool t.c.any, .bool t.c.neg, .slice T t.c.ts.length ct], .agg #[.int .i64 m.k, .slice A m.sp.length ca, .bool m.al, .slice B m.ws.length cb, .int .i64 m.b, .bool m.nul], .agg #[.int .i64 v.k, .int .i64 v.n, .int .i64 v.s, .string v.t, .int .i64 v.i]] w fun e w' => e = .returned (.bool true) ∧ Below w.heap.size w w' := by
  obtain ⟨kd, scb, -, hu⟩ := ty_of ht
  have hP1 : ∀ n, ((fullG t).meet h).P n = true → extP t.k n = true := fun n hP => by
    have h2 : ((fullG t).P n && h.P n) = true := hP
    rw [Bool.and_eq_true] at h2
    exact fullG_ext t n h2.1
  have hsp : ∀ c n, (∀ k, ((fullG t).meet h).P k = true → farI n c < farI k c ∨ (farI n c = farI k c ∧ n ≤ k)) → ∀ x ∈ m.sp, x.1 ≤ x.2 ∧ Bd12 x.1 ∧ Bd12 x.2 ∧ NoBet c n (clampS x c) := fun c n hn x hx => by
    obtain ⟨h1, h2, h3, h4⟩ := span_in im hx c
    have h5 := hn _ h4
    exact ⟨h1, ext_bd (hP1 _ h2), ext_bd (hP1 _ h3), by unfold NoBet; omega⟩
  rcases hb with ⟨hk, n, ⟨hP, hn⟩, rfl⟩ | ⟨hk, n, ⟨hP, hn⟩, rfl⟩ | ⟨hk, s, hQ, rfl⟩ | ⟨hk, hb⟩
  · have hbd := ext_bd (hP1 n hP)
    obtain ⟨m1, m2, m3⟩ := mk_all (show decIn n t.sc = true from decide_eq_true ⟨scb.1, scb.2, hbd.1, hbd.2⟩)
    refine nearest_n t m _ n T A B ct ca cb w hk hS hl hv ?_ hbd (hsp 0 n hn)
    unfold unitsR
    rw [if_pos rfl, if_pos ⟨scb, m1⟩]; exact m2
  · refine nearest_d t m _ n T A B ct ca cb w hk hS hl hv ?_ (ext_bd (hP1 n hP)) (hsp 730119 n hn)
    unfold unitsR
    rw [if_neg (by show (4 : Int) ≠ 1; decide)]
  · exact nearest_t t m _ T A B ct ca cb w hk
  · refine nearest_b t m _ T A B ct ca cb w hk ?_
    rcases hb with ⟨hf, rfl⟩ | ⟨hf, htt, rfl⟩
    · exact .inl rfl
    · refine .inr ⟨by show (1 : Int) ≠ 0; decide, ?_⟩
      rw [im.b, hf, htt]; rfl
theorem best_wf {t : Ty} {h : Sg} {v : Vl} (ht : tySnd t = true) (hb : BestV t ((fullG t).meet h) v) : v.wf := by
  have hi := (best_in ht hb).1
  obtain ⟨a1, a2, a3, a4, -⟩ := in_fit hi
  have h0 : I64 0 := ⟨by decide, by decide⟩
  have five : v.k = 0 ∨ v.k = 1 ∨ v.k = 2 ∨ v.k = 3 ∨ v.k = 4 := by have := (ty_of a1).1; omega
  have hk : I64 v.k := ⟨by omega, by omega⟩
  have hnil : v.t.toList = [] → v.t.size ≤ 9223372036854775807 := fun e => by
    rw [ByteArray.toList_eq] at e
    have : v.t.size = v.t.data.toList.length := Array.length_toList.symm
    rw [this, e]; decide
  rcases five with h | h | h | h | h
  · rw [sndZero a4 h]; exact ⟨h0, h0, h0, h0, Nat.zero_le _⟩
  · obtain ⟨b1, b2, b3⟩ := sndOne a4 h
    obtain ⟨d1, d2, d3, d4, -⟩ := decSnd_of b3
    exact ⟨hk, ⟨by omega, by omega⟩, ⟨by omega, by omega⟩, ⟨by omega, by omega⟩, hnil b1⟩
  · obtain ⟨b1, b2, b3, b4, -⟩ := sndTwo a4 h
    exact ⟨hk, ⟨by omega, by omega⟩, ⟨by omega, by omega⟩, ⟨by omega, by omega⟩, by omega⟩
  · obtain ⟨b1, b2, b3, b4⟩ := sndThree a4 h
    exact ⟨hk, ⟨by omega, by omega⟩, ⟨by omega, by omega⟩, ⟨by omega, by omega⟩, hnil b3⟩
  · obtain ⟨b1, b2, b3⟩ := sndFour a4 h
    obtain ⟨c1, c2⟩ := sndFourI a4 h
    exact ⟨hk, ⟨by omega, by omega⟩, ⟨by omega, by omega⟩, ⟨by omega, by omega⟩, hnil b3⟩
set_option maxRecDepth 100000 in
set_option maxHeartbeats 12800000 in
theorem lawPicks_no (t : Ty) (s : St) (N : Nat) (T A B : Option Addr) (ct ca cb : Nat) (w : World) (hTy : tySnd t = false) (hT : TyAt w t T) (hS : StAt w s A B) (os : StOk N s) (hN : N ≤ 1048576) (hE : EnvP w) :
    Calls Tryz.prog 11 #[.agg #[.int .i64 t.k, .int .i64 t.sc, .bool t.c.any, .bool t.c.neg, .slice T t.c.ts.length ct], .agg #[.int .i64 s.k, .slice A s.sp.length ca, .bool s.al, .slice B s.ws.length cb, .int .i64 s.b, .bool s.nul]] w fun e w' => e = .returned (.bool true) ∧ Below w.heap.size w w' := by
  have HT := Lib.hid hT
  have HS := Lib.hid hS
  have HE := Lib.hid hE
  clear hT hS hE
  go_enter Tryz.func11, Tryz.ntmps11
  go_wp2_with fail
  generalize hW0 : (w.alloc _).alloc _ = W0
  have hb0 : Below w.heap.size w W0 := (by rw [← hW0]; exact bel)
  have K0 : BoxIs W0 w.heap.size #[.int .i64 t.k, .int .i64 t.sc, .bool t.c.any, .bool t.c.neg, .slice T t.c.ts.length ct] := (by rw [← hW0]; exact (BoxIs.new (t := 26) rfl).alloc _)
  have K1 : BoxIs W0 (w.heap.size + 1) #[.int .i64 s.k, .slice A s.sp.length ca, .bool s.al, .slice B s.ws.length cb, .int .i64 s.b, .bool s.nul] := (by rw [← hW0]; exact BoxIs.new (t := 36) (by simp))
  have hT0 := HT.out.below hb0
  have hS0 := HS.out.below hb0
  have hE0 := HE.out.below hb0
  clear hW0
  refine (pick_no t s T A B ct ca cb _ hTy hT0 hE0.env).mono ?_
  rintro e w1 ⟨rfl, hb1⟩
  have K0 := K0.below hb1
  have K1 := K1.below hb1
  have c0 := K0.c
  have l0 := K0.lt
  have c1 := K1.c
  have l1 := K1.lt
  have hB1 : Below w.heap.size w w1 := hb0.trans (hb1.mono hb0.size)
  clear hb0 hb1 hT0 hS0 hE0
  go_wp2_with fail
  generalize hXW1 : World.alloc w1 _ = W1
  have hbW1 : Below w1.heap.size w1 W1 := (by rw [← hXW1]; exact Below.alloc (Below.refl _ _) (Nat.le_refl _) _)
  have KA : BoxIs W1 w1.heap.size #[.int .i64 0, .int .i64 0, .int .i64 0, .string ⟨#[]⟩, .int .i64 0] := (by rw [← hXW1]; exact BoxIs.new (t := 30) rfl)
  obtain ⟨bA, hqA⟩ : ∃ bA, w1.heap.size = bA := ⟨_, rfl⟩
  rw [hqA] at KA
  rw [hqA]
  clear hXW1 hqA
  have K0 := K0.below hbW1
  have K1 := K1.below hbW1
  have hB2 : Below w.heap.size w W1 := hB1.trans (hbW1.mono hB1.size)
  clear hB1 hbW1
  clear c0 l0 c1 l1
  refine (rSetSound_any t T ct _ (HT.out.below hB2)).mono ?_
  rintro e w2 ⟨rfl, hb2⟩
  rw [hTy]
  have K0 := K0.below hb2
  have K1 := K1.below hb2
  have KA := KA.below hb2
  have c0 := K0.c
  have l0 := K0.lt
  have c1 := K1.c
  have l1 := K1.lt
  have cA := KA.c
  have lA := KA.lt
  have hB3 : Below w.heap.size w w2 := hB2.trans (hb2.mono hB2.size)
  clear hb2 hB2
  go_wp2_with fail
  refine (awake15_any _ (HE.out.below hB3)).mono ?_
  rintro e w4 ⟨rfl, hb4⟩
  clear c0 l0 c1 l1 cA lA
  have hB4 : Below w.heap.size w w4 := hB3.trans (hb4.mono hB3.size)
  clear hb4 hB3 K0 K1 KA
  go_wp2_with fail
  go_ret
  exact ⟨rfl, bel⟩
set_option maxRecDepth 100000 in
set_option maxHeartbeats 12800000 in
theorem lawPicks_arg (t : Ty) (s : St) (N : Nat) (T A B : Option Addr) (ct ca cb : Nat) (w : World) (hTy : tySnd t = true) (hk : s.k ≠ t.k) (hT : TyAt w t T) (hS : StAt w s A B) (os : StOk N s) (hN : N ≤ 1048576) (hE : EnvP w) :
    Calls Tryz.prog 11 #[.agg #[.int .i64 t.k, .int .i64 t.sc, .bool t.c.any, .bool t.c.neg, .slice T t.c.ts.length ct], .agg #[.int .i64 s.k, .slice A s.sp.length ca, .bool s.al, .slice B s.ws.length cb, .int .i64 s.b, .bool s.nul]] w fun e w' => e = .returned (.bool true) ∧ Below w.heap.size w w' := by
  have HT := Lib.hid hT
  have HS := Lib.hid hS
  have HE := Lib.hid hE
  clear hT hS hE
  go_enter Tryz.func11, Tryz.ntmps11
  go_wp2_with fail
  generalize hW0 : (w.alloc _).alloc _ = W0
  have hb0 : Below w.heap.size w W0 := (by rw [← hW0]; exact bel)
  have K0 : BoxIs W0 w.heap.size #[.int .i64 t.k, .int .i64 t.sc, .bool t.c.any, .bool t.c.neg, .slice T t.c.ts.length ct] := (by rw [← hW0]; exact (BoxIs.new (t := 26) rfl).alloc _)
  have K1 : BoxIs W0 (w.heap.size + 1) #[.int .i64 s.k, .slice A s.sp.length ca, .bool s.al, .slice B s.ws.length cb, .int .i64 s.b, .bool s.nul] := (by rw [← hW0]; exact BoxIs.new (t := 36) (by simp))
  have hT0 := HT.out.below hb0
  have hS0 := HS.out.below hb0
  have hE0 := HE.out.below hb0
  clear hW0
  refine (pick_arg t s T A B ct ca cb _ hTy hk hT0 hE0.env).mono ?_
  rintro e w1 ⟨rfl, hb1⟩
  have K0 := K0.below hb1
  have K1 := K1.below hb1
  have c0 := K0.c
  have l0 := K0.lt
  have c1 := K1.c
  have l1 := K1.lt
  have hB1 : Below w.heap.size w w1 := hb0.trans (hb1.mono hb0.size)
  clear hb0 hb1 hT0 hS0 hE0
  go_wp2_with fail
  generalize hXW1 : World.alloc w1 _ = W1
  have hbW1 : Below w1.heap.size w1 W1 := (by rw [← hXW1]; exact Below.alloc (Below.refl _ _) (Nat.le_refl _) _)
  have KA : BoxIs W1 w1.heap.size #[.int .i64 0, .int .i64 0, .int .i64 0, .string ⟨#[]⟩, .int .i64 0] := (by rw [← hXW1]; exact BoxIs.new (t := 30) rfl)
  obtain ⟨bA, hqA⟩ : ∃ bA, w1.heap.size = bA := ⟨_, rfl⟩
  rw [hqA] at KA
  rw [hqA]
  clear hXW1 hqA
  have K0 := K0.below hbW1
  have K1 := K1.below hbW1
  have hB2 : Below w.heap.size w W1 := hB1.trans (hbW1.mono hB1.size)
  clear hB1 hbW1
  clear c0 l0 c1 l1
  refine (rSetSound_any t T ct _ (HT.out.below hB2)).mono ?_
  rintro e w2 ⟨rfl, hb2⟩
  rw [hTy]
  have K0 := K0.below hb2
  have K1 := K1.below hb2
  have KA := KA.below hb2
  have c0 := K0.c
  have l0 := K0.lt
  have c1 := K1.c
  have l1 := K1.lt
  have cA := KA.c
  have lA := KA.lt
  have hB3 : Below w.heap.size w w2 := hB2.trans (hb2.mono hB2.size)
  clear hb2 hB2
  have q1 : (s.k != t.k) = true := by simpa using hk
  go_wp2_with fail
  refine (awake15_any _ (HE.out.below hB3)).mono ?_
  rintro e w4 ⟨rfl, hb4⟩
  clear c0 l0 c1 l1 cA lA
  have hB4 : Below w.heap.size w w4 := hB3.trans (hb4.mono hB3.size)
  clear hb4 hB3 K0 K1 KA
  go_wp2_with fail
  go_ret
  exact ⟨rfl, bel⟩
set_option maxRecDepth 100000 in
set_option maxHeartbeats 12800000 in
theorem lawPicks_yes (t : Ty) (s : St) (N : Nat) (T A B : Option Addr) (ct ca cb : Nat) (w : World) (hTy : tySnd t = true) (hk : s.k = t.k) (hT : TyAt w t T) (hS : StAt w s A B) (os : StOk N s) (hN : N ≤ 1048576) (hE : EnvP w) :
    Calls Tryz.prog 11 #[.agg #[.int .i64 t.k, .int .i64 t.sc, .bool t.c.any, .bool t.c.neg, .slice T t.c.ts.length ct], .agg #[.int .i64 s.k, .slice A s.sp.length ca, .bool s.al, .slice B s.ws.length cb, .int .i64 s.b, .bool s.nul]] w fun e w' => e = .returned (.bool true) ∧ Below w.heap.size w w' := by
  obtain ⟨hKd, hSc, -, -⟩ := ty_of hTy
  have HKK := Lib.hid hk
  have hGk : 1 ≤ ((fullG t).meet s.sg).k ∧ ((fullG t).meet s.sg).k ≤ 4 := by show 1 ≤ (fullG t).k ∧ (fullG t).k ≤ 4; rw [fullG_k]; exact hKd
  have HGK := Lib.hid hGk
  clear hk hGk
  have HT := Lib.hid hT
  have HS := Lib.hid hS
  have HE := Lib.hid hE
  clear hT hS hE
  go_enter Tryz.func11, Tryz.ntmps11
  go_wp2_with fail
  generalize hW0 : (w.alloc _).alloc _ = W0
  have hb0 : Below w.heap.size w W0 := (by rw [← hW0]; exact bel)
  have K0 : BoxIs W0 w.heap.size #[.int .i64 t.k, .int .i64 t.sc, .bool t.c.any, .bool t.c.neg, .slice T t.c.ts.length ct] := (by rw [← hW0]; exact (BoxIs.new (t := 26) rfl).alloc _)
  have K1 : BoxIs W0 (w.heap.size + 1) #[.int .i64 s.k, .slice A s.sp.length ca, .bool s.al, .slice B s.ws.length cb, .int .i64 s.b, .bool s.nul] := (by rw [← hW0]; exact BoxIs.new (t := 36) (by simp))
  have hT0 := HT.out.below hb0
  have hS0 := HS.out.below hb0
  have hE0 := HE.out.below hb0
  clear hW0
  refine (pick_any' t s N T A B ct ca cb _ hTy HKK.out hT0 hS0 os (by omega) hE0).mono ?_
  rintro e w1 ⟨v, n, rfl, hpk, hb1⟩
  have HPK := Lib.hid hpk
  have K0 := K0.below hb1
  have K1 := K1.below hb1
  have c0 := K0.c
  have l0 := K0.lt
  have c1 := K1.c
  have l1 := K1.lt
  have hB1 : Below w.heap.size w w1 := hb0.trans (hb1.mono hb0.size)
  clear hb0 hb1 hT0 hS0 hE0 hpk
  go_wp2_with fail
  generalize hXW1 : World.alloc w1 _ = W1
  have hbW1 : Below w1.heap.size w1 W1 := (by rw [← hXW1]; exact Below.alloc (Below.refl _ _) (Nat.le_refl _) _)
  have KA : BoxIs W1 w1.heap.size #[.int .i64 v.k, .int .i64 v.n, .int .i64 v.s, .string v.t, .int .i64 v.i] := (by rw [← hXW1]; exact BoxIs.new (t := 30) rfl)
  obtain ⟨bA, hqA⟩ : ∃ bA, w1.heap.size = bA := ⟨_, rfl⟩
  rw [hqA] at KA
  rw [hqA]
  clear hXW1 hqA
  have K0 := K0.below hbW1
  have K1 := K1.below hbW1
  have hB2 : Below w.heap.size w W1 := hB1.trans (hbW1.mono hB1.size)
  clear hB1 hbW1
  clear c0 l0 c1 l1
  refine (rSetSound_any t T ct _ (HT.out.below hB2)).mono ?_
  rintro e w2 ⟨rfl, hb2⟩
  rw [hTy]
  have K0 := K0.below hb2
  have K1 := K1.below hb2
  have KA := KA.below hb2
  have c0 := K0.c
  have l0 := K0.lt
  have c1 := K1.c
  have l1 := K1.lt
  have cA := KA.c
  have lA := KA.lt
  have hB3 : Below w.heap.size w w2 := hB2.trans (hb2.mono hB2.size)
  clear hb2 hB2
  have q1 : (s.k != t.k) = false := by rw [HKK.out]; simp
  go_wp2_with fail
  refine (setFull_any t T ct _ hTy (HT.out.below hB3) (HE.out.env.below hB3)).mono ?_
  rintro e w3 ⟨r2, X2, Y2, cx2, cy2, rfl, hR2, i2, ok2, hb3⟩
  clear q1
  clear c0 l0 c1 l1 cA lA
  have K0 := K0.below hb3
  have K1 := K1.below hb3
  have KA := KA.below hb3
  have c0 := K0.c
  have l0 := K0.lt
  have c1 := K1.c
  have l1 := K1.lt
  have cA := KA.c
  have lA := KA.lt
  have hB4 : Below w.heap.size w w3 := hB3.trans (hb3.mono hB3.size)
  clear hb3 hB3
  go_wp2_with fail
  generalize hXW3 : World.alloc w3 _ = W3
  have hbW3 : Below w3.heap.size w3 W3 := (by rw [← hXW3]; exact Below.alloc (Below.refl _ _) (Nat.le_refl _) _)
  have KB : BoxIs W3 w3.heap.size #[.int .i64 r2.k, .slice X2 r2.sp.length cx2, .bool r2.al, .slice Y2 r2.ws.length cy2, .int .i64 r2.b, .bool r2.nul] := (by rw [← hXW3]; exact BoxIs.new (t := 36) rfl)
  obtain ⟨bB, hqB⟩ : ∃ bB, w3.heap.size = bB := ⟨_, rfl⟩
  rw [hqB] at KB
  rw [hqB]
  clear hXW3 hqB
  have K0 := K0.below hbW3
  have K1 := K1.below hbW3
  have KA := KA.below hbW3
  have hB5 : Below w.heap.size w W3 := hB4.trans (hbW3.mono hB4.size)
  have hR2 := hR2.below hbW3
  clear hB4 hbW3
  clear c0 l0 c1 l1 cA lA
  refine (setMeet2_any r2 s 9 N X2 Y2 A B cx2 cy2 ca cb _ ((i2.k.trans (fullG_k t)).trans HKK.out.symm) (by have := i2.k.trans (fullG_k t); omega) hR2 (HS.out.below hB5) ok2 os (by omega) (by omega) (by omega) (HE.out.env.below hB5)).mono ?_
  rintro e w4 ⟨r3, X3, Y3, cx3, cy3, rfl, hR3, i3, ok3, al3, hb4⟩
  rw [i2.sg_eq (by rw [fullG_k]; exact hKd)] at i3
  have K0 := K0.below hb4
  have K1 := K1.below hb4
  have KA := KA.below hb4
  have KB := KB.below hb4
  have c0 := K0.c
  have l0 := K0.lt
  have c1 := K1.c
  have l1 := K1.lt
  have cA := KA.c
  have lA := KA.lt
  have cB := KB.c
  have lB := KB.lt
  have hB6 : Below w.heap.size w w4 := hB5.trans (hb4.mono hB5.size)
  clear hb4 hB5 al3 hR2 i2 ok2
  go_wp2_with fail
  generalize hXW4 : World.alloc w4 _ = W4
  have hbW4 : Below w4.heap.size w4 W4 := (by rw [← hXW4]; exact Below.alloc (Below.refl _ _) (Nat.le_refl _) _)
  have KC : BoxIs W4 w4.heap.size #[.int .i64 r3.k, .slice X3 r3.sp.length cx3, .bool r3.al, .slice Y3 r3.ws.length cy3, .int .i64 r3.b, .bool r3.nul] := (by rw [← hXW4]; exact BoxIs.new (t := 36) rfl)
  obtain ⟨bC, hqC⟩ : ∃ bC, w4.heap.size = bC := ⟨_, rfl⟩
  rw [hqC] at KC
  rw [hqC]
  have HBC : Hid (w.heap.size + 2 ≤ bC) := Lib.hid (by rw [← hqC]; exact l1)
  clear hXW4 hqC
  have K0 := K0.below hbW4
  have K1 := K1.below hbW4
  have KA := KA.below hbW4
  have KB := KB.below hbW4
  have hB7 : Below w.heap.size w W4 := hB6.trans (hbW4.mono hB6.size)
  have hR3 := hR3.below hbW4
  clear hB6 hbW4
  clear c0 l0 c1 l1 cA lA cB lB
  refine (awake15_any _ (HE.out.below hB7)).mono ?_
  rintro e w5 ⟨rfl, hb5⟩
  have K0 := K0.below hb5
  have K1 := K1.below hb5
  have KA := KA.below hb5
  have KC := KC.below hb5
  have c0 := K0.c
  have l0 := K0.lt
  have c1 := K1.c
  have l1 := K1.lt
  have cA := KA.c
  have lA := KA.lt
  have cC := KC.c
  have lC := KC.lt
  have hB8 : Below w.heap.size w w5 := hB7.trans (hb5.mono hB7.size)
  have hR3 := hR3.below hb5
  clear hb5 hB7 KB
  rcases HPK.out with ⟨rfl, hbest⟩ | ⟨rfl, hz, hnul, hno⟩ | ⟨rfl, hz, hnul, hno⟩
  · have hbin := best_in hTy hbest
    have hvk : (v.k == 0) = false := by rw [hbin.2.2]; simp; omega
    have HBEST := Lib.hid hbest
    have HBIN := Lib.hid hbin
    clear hbest hbin HPK
    go_wp2_with fail
    refine (setEmpty_any r3 (9 + N) X3 Y3 cx3 cy3 _ hR3 ok3 (by omega) (HE.out.env.below hB8)).mono ?_
    rintro e w6 ⟨r4, rfl, i4, al4, hb6⟩
    rw [some_empty HGK.out i3 (.inr (best_some HBEST.out)) i4]
    clear c0 l0 c1 l1 cA lA cC lC
    have K0 := K0.below hb6
    have K1 := K1.below hb6
    have KA := KA.below hb6
    have KC := KC.below hb6
    have c0 := K0.c
    have l0 := K0.lt
    have c1 := K1.c
    have l1 := K1.lt
    have cA := KA.c
    have lA := KA.lt
    have cC := KC.c
    have lC := KC.lt
    have hB9 : Below w.heap.size w w6 := hB8.trans (hb6.mono hB8.size)
    have hR3 := hR3.below hb6
    clear hb6 hB8 i4 al4
    go_wp2_with fail
    have hH := rHas_any t s v T A B ct ca cb w6 (HT.out.below hB9) (HS.out.below hB9) (best_wf hTy HBEST.out) (by have := os.ls; omega) (by have := os.lw; omega)
    rw [has_in HBIN.out.1 HKK.out, HBIN.out.2.1] at hH
    refine hH.mono ?_
    rintro e w7 ⟨rfl, hb7⟩
    clear hH
    clear c0 l0 c1 l1 cA lA cC lC
    have K0 := K0.below hb7
    have K1 := K1.below hb7
    have KA := KA.below hb7
    have KC := KC.below hb7
    have c0 := K0.c
    have l0 := K0.lt
    have c1 := K1.c
    have l1 := K1.lt
    have cA := KA.c
    have lA := KA.lt
    have cC := KC.c
    have lC := KC.lt
    have hB10 : Below w.heap.size w w7 := hB9.trans (hb7.mono hB9.size)
    have hR3 := hR3.below hb7
    clear hb7 hB9
    go_wp2_with fail
    refine (near_all hTy HBEST.out i3 (best_wf hTy HBEST.out) T X3 Y3 ct cx3 cy3 _ hR3 (by have := ok3.ls; omega)).mono ?_
    rintro e w8 ⟨rfl, hb8⟩
    go_wp2_with fail
    go_ret
    exact ⟨rfl, hB10.trans (hb8.mono hB10.size)⟩
  · have hsn : s.nul = true := by
      have h1 : ((fullG t).nul && (decide (1 ≤ s.k ∧ s.k ≤ 4) && s.nul)) = true := hnul
      rw [Bool.and_eq_true, Bool.and_eq_true] at h1
      exact h1.2.2
    rw [hsn] at c1
    have HNUL := Lib.hid hnul
    have HNO := Lib.hid hno
    have hvk : (v.k == 0) = true := by rw [hz]; rfl
    clear hnul hno HPK hsn hz
    go_wp2_with fail
    refine (setEmpty_any r3 (9 + N) X3 Y3 cx3 cy3 _ hR3 ok3 (by omega) (HE.out.env.below hB8)).mono ?_
    rintro e w6 ⟨r4, rfl, i4, al4, hb6⟩
    rw [some_empty HGK.out i3 (.inl HNUL.out) i4]
    have c1 := fun o => (hb6.cell (p := ⟨w.heap.size + 1, o, none⟩) l1).trans (c1 o)
    have l1 := Nat.lt_of_lt_of_le l1 hb6.size
    clear c0 l0 cA lA cC lC
    have K0 := K0.below hb6
    have KA := KA.below hb6
    have KC := KC.below hb6
    have c0 := K0.c
    have l0 := K0.lt
    have cA := KA.c
    have lA := KA.lt
    have cC := KC.c
    have lC := KC.lt
    have fC := KC.f
    have hB9 : Below w.heap.size w w6 := hB8.trans (hb6.mono hB8.size)
    have hR3 := hR3.below hb6
    have hbC : w.heap.size + 2 ≤ bC := HBC.out
    clear hb6 hB8 i4 al4 K1
    go_upto_region 14 with fail
    generalize hX6 : World.setCell w6 _ _ = W6
    have hb6 : Below w.heap.size w W6 := (by rw [← hX6]; exact bel)
    have KC2 : BoxIs W6 bC #[.int .i64 r3.k, .slice X3 r3.sp.length cx3, .bool r3.al, .slice Y3 r3.ws.length cy3, .int .i64 r3.b, .bool false] := by rw [← hX6]; exact KC.set 5 _
    have hR4 : StAt W6 r3 X3 Y3 := by rw [← hX6]; exact hR3.free KC (setLike _ _ _ _ _ _ _ _ _ _) (fun k hk => heap_setCell_other _ _ _ _ hk)
    have d1 : ∀ o, W6.cell? ⟨w.heap.size + 1, o, none⟩ = w6.cell? ⟨w.heap.size + 1, o, none⟩ := fun o => by
      rw [← hX6]; exact World.cell?_of_block (a := ⟨w.heap.size + 1, o, none⟩) (heap_setCell_other _ _ _ _ (by show w.heap.size + 1 ≠ bC; omega))
    have e1 := fun o => (d1 o).trans (c1 o)
    have m1 : w.heap.size + 1 < W6.heap.size := by rw [← hX6, sz_set]; exact l1
    clear hX6 d1 c1 l1 cC lC fC c0 l0 cA lA
    have cC := KC2.c
    have lC := KC2.lt
    go_wp2_with fail
    refine (setEmpty_any (noNul r3) (9 + N) X3 Y3 cx3 cy3 _ ⟨hR4.sp, hR4.ws⟩ ⟨ok3.wf, ok3.tx, ok3.ls, ok3.lw⟩ (by omega) (HE.out.env.below hb6)).mono ?_
    rintro e w7 ⟨r5, rfl, i5, al5, hb7⟩
    rw [noNul_empty HGK.out i3 ok3 (by omega) HNO.out i5 al5]
    go_wp2_with fail
    go_ret
    exact ⟨rfl, hb6.trans (hb7.mono hb6.size)⟩
  · have q0 : ∀ W : World, (binOp .eql 30 (.agg #[.int .i64 v.k, .int .i64 v.n, .int .i64 v.s, .string v.t, .int .i64 v.i]) (.agg #[.int .i64 0, .int .i64 0, .int .i64 0, .string ⟨#[]⟩, .int .i64 0])).run Tryz.prog W = .ok (.bool true) W := fun W => (eqV_run v Vl.zero W).trans (by rw [(eqB_iff v Vl.zero).2 hz])
    have HNUL := Lib.hid hnul
    have HNO := Lib.hid hno
    clear hnul hno HPK hz
    go_wp2_with fail
    refine (setEmpty_any r3 (9 + N) X3 Y3 cx3 cy3 _ hR3 ok3 (by omega) (HE.out.env.below hB8)).mono ?_
    rintro e w6 ⟨r4, rfl, i4, al4, hb6⟩
    rw [none_empty HGK.out i3 ok3 (by omega) HNO.out HNUL.out i4 al4]
    clear c0 l0 c1 l1 cA lA cC lC
    have KA := KA.below hb6
    have cA := KA.c
    have lA := KA.lt
    have hB9 : Below w.heap.size w w6 := hB8.trans (hb6.mono hB8.size)
    clear hb6 hB8 i4 al4
    go_wp2_with fail
    go_ret
    exact ⟨rfl, hB9⟩
theorem lawPicks_any (t : Ty) (s : St) (N : Nat) (T A B : Option Addr) (ct ca cb : Nat) (w : World) (hT : TyAt w t T) (hS : StAt w s A B) (os : StOk N s) (hN : N ≤ 1048576) (hE : EnvP w) :
    Calls Tryz.prog 11 #[.agg #[.int .i64 t.k, .int .i64 t.sc, .bool t.c.any, .bool t.c.neg, .slice T t.c.ts.length ct], .agg #[.int .i64 s.k, .slice A s.sp.length ca, .bool s.al, .slice B s.ws.length cb, .int .i64 s.b, .bool s.nul]] w fun e w' => e = .returned (.bool true) ∧ Below w.heap.size w w' := by
  cases h : tySnd t
  · exact lawPicks_no t s N T A B ct ca cb w h hT hS os hN hE
  · by_cases h2 : s.k = t.k
    · exact lawPicks_yes t s N T A B ct ca cb w h h2 hT hS os hN hE
    · exact lawPicks_arg t s N T A B ct ca cb w h h2 hT hS os hN hE
end Go.Proofs.YtankkadnhdfpfaaGreatDoor
