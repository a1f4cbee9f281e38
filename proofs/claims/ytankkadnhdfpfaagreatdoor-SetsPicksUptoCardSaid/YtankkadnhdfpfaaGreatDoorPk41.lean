import Derived.Test.YtankkadnhdfpfaaGreatDoorPk32
import Derived.Test.YtankkadnhdfpfaaGreatDoorPk42
import Derived.Test.YtankkadnhdfpfaaGreatDoorPk31
/- soffit/sets.kind, Meet: walked. -/
set_option linter.unusedSimpArgs false
set_option linter.unusedVariables false
namespace Go.Proofs.YtankkadnhdfpfaaGreatDoor
open Go.RowKit Sp Wd

set_option maxHeartbeats 400000 in
theorem kind_any (n : Int) (w : World) : Calls Tryz.prog 51 #[.int .i64 n] w fun e w' => e = .returned (.bool (decide (1 ≤ n ∧ n ≤ 4))) ∧ Below w.heap.size w w' := by
  by_cases h1 : 1 ≤ n
  · by_cases h2 : n ≤ 4
    · rw [decide_eq_true ⟨h1, h2⟩]
      go_enter Tryz.func51, Tryz.ntmps51
      go_wp2_with fail
      go_ret
      exact ⟨ret_bool (by simp [h2]), bel⟩
    · rw [decide_eq_false (by omega)]
      go_enter Tryz.func51, Tryz.ntmps51
      go_wp2_with fail
      go_ret
      exact ⟨ret_bool (by simp [h2]), bel⟩
  · rw [decide_eq_false (by omega)]
    go_enter Tryz.func51, Tryz.ntmps51
    go_wp2_with fail
    go_ret
    exact ⟨rfl, bel⟩
set_option maxRecDepth 100000 in
set_option maxHeartbeats 3200000 in
theorem setMeet2_no (a b : St) (A B C D : Option Addr) (ca cb cc cd : Nat) (w : World) (h : (a.k == b.k && decide (1 ≤ a.k ∧ a.k ≤ 4)) = false) :
    Calls Tryz.prog 16 #[.agg #[.int .i64 a.k, .slice A a.sp.length ca, .bool a.al, .slice B a.ws.length cb, .int .i64 a.b, .bool a.nul], .agg #[.int .i64 b.k, .slice C b.sp.length cc, .bool b.al, .slice D b.ws.length cd, .int .i64 b.b, .bool b.nul]] w fun e w' => e = .returned (.tuple #[.agg #[.int .i64 0, .slice none 0 0, .bool false, .slice none 0 0, .int .i64 0, .bool false], .int .i64 1]) ∧ Below w.heap.size w w' := by
  by_cases hk : a.k = b.k
  · have hd : decide (1 ≤ a.k ∧ a.k ≤ 4) = false := by rw [hk] at h ⊢; simpa using h
    have e1 : (a.k != b.k) = false := by simp [hk]
    clear h hk
    go_enter Tryz.func16, Tryz.ntmps16
    go_wp2_with fail
    have K2 : BoxIs (((w.alloc (.cells #[.int .i64 a.k, .slice A a.sp.length ca, .bool a.al, .slice B a.ws.length cb, .int .i64 a.b, .bool a.nul] 36)).alloc (.cells #[.int .i64 b.k, .slice C b.sp.length cc, .bool b.al, .slice D b.ws.length cd, .int .i64 b.b, .bool b.nul] 36)).alloc (.cells #[.int .i64 0, .slice none 0 0, .bool false, .slice none 0 0, .int .i64 0, .bool false] 36)) (w.heap.size + 2) #[.int .i64 0, .slice none 0 0, .bool false, .slice none 0 0, .int .i64 0, .bool false] := BoxIs.new (by simp)
    refine (kind_any a.k _).mono ?_
    rintro e w1 ⟨rfl, hb1⟩
    rw [hd]
    have K2 := K2.below hb1
    have z1 := K2.c
    have f1 := K2.f
    have l1 := K2.lt
    have hbw : Below w.heap.size w w1 := bel
    clear hb1
    go_wp2_with fail
    refine bodyPost_ret (v := .tuple #[.agg #[.int .i64 0, .slice none 0 0, .bool false, .slice none 0 0, .int .i64 0, .bool false], .int .i64 1]) (by simp [results, Tryz.results16, go_sem, *]) rfl ⟨rfl, bel⟩
  · have e1 : (a.k != b.k) = true := by simpa using hk
    clear h hk
    go_enter Tryz.func16, Tryz.ntmps16
    go_wp2_with fail
    refine bodyPost_ret (v := .tuple #[.agg #[.int .i64 0, .slice none 0 0, .bool false, .slice none 0 0, .int .i64 0, .bool false], .int .i64 1]) (by simp [results, Tryz.results16, go_sem, *]) rfl ⟨rfl, bel⟩
set_option maxRecDepth 100000 in
set_option maxHeartbeats 6400000 in
theorem setMeet2_any (a b : St) (N M : Nat) (A B C D : Option Addr) (ca cb cc cd : Nat) (w : World) (hk : a.k = b.k) (hKd : 1 ≤ a.k ∧ a.k ≤ 4) (hA : StAt w a A B) (hB : StAt w b C D) (oa : StOk N a) (ob : StOk M b) (hN : N ≤ 4000000000000) (hM : M ≤ 4000000000000) (hNM : N * M ≤ 8000000000000) (hE : Env w) :
    Calls Tryz.prog 16 #[.agg #[.int .i64 a.k, .slice A a.sp.length ca, .bool a.al, .slice B a.ws.length cb, .int .i64 a.b, .bool a.nul], .agg #[.int .i64 b.k, .slice C b.sp.length cc, .bool b.al, .slice D b.ws.length cd, .int .i64 b.b, .bool b.nul]] w fun e w' => ∃ (r : St) (X Y : Option Addr) (cx cy : Nat), e = .returned (.tuple #[.agg #[.int .i64 r.k, .slice X r.sp.length cx, .bool r.al, .slice Y r.ws.length cy, .int .i64 r.b, .bool r.nul], .int .i64 0]) ∧ StAt w' r X Y ∧ Is (a.sg.meet b.sg) r ∧ StOk (N + M) r ∧ (r.al = true → a.al = true ∧ b.al = true) ∧ Below w.heap.size w w' := by
  have hkk : a.sg.k = b.sg.k := hk
  have hd : decide (1 ≤ a.k ∧ a.k ≤ 4) = true := decide_eq_true hKd
  have e1 : (a.k != b.k) = false := by simp [hk]
  have HK0 := Lib.hid hk
  have HA := Lib.hid hA
  have HB := Lib.hid hB
  have HE := Lib.hid hE
  clear hA hB hE hk
  go_enter Tryz.func16, Tryz.ntmps16
  go_wp2_with fail
  have K0 : BoxIs (((w.alloc (.cells #[.int .i64 a.k, .slice A a.sp.length ca, .bool a.al, .slice B a.ws.length cb, .int .i64 a.b, .bool a.nul] 36)).alloc (.cells #[.int .i64 b.k, .slice C b.sp.length cc, .bool b.al, .slice D b.ws.length cd, .int .i64 b.b, .bool b.nul] 36)).alloc (.cells #[.int .i64 0, .slice none 0 0, .bool false, .slice none 0 0, .int .i64 0, .bool false] 36)) w.heap.size #[.int .i64 a.k, .slice A a.sp.length ca, .bool a.al, .slice B a.ws.length cb, .int .i64 a.b, .bool a.nul] := ((BoxIs.new rfl).alloc _).alloc _
  have K1 : BoxIs (((w.alloc (.cells #[.int .i64 a.k, .slice A a.sp.length ca, .bool a.al, .slice B a.ws.length cb, .int .i64 a.b, .bool a.nul] 36)).alloc (.cells #[.int .i64 b.k, .slice C b.sp.length cc, .bool b.al, .slice D b.ws.length cd, .int .i64 b.b, .bool b.nul] 36)).alloc (.cells #[.int .i64 0, .slice none 0 0, .bool false, .slice none 0 0, .int .i64 0, .bool false] 36)) (w.heap.size + 1) #[.int .i64 b.k, .slice C b.sp.length cc, .bool b.al, .slice D b.ws.length cd, .int .i64 b.b, .bool b.nul] := (BoxIs.new (by simp)).alloc _
  have K2 : BoxIs (((w.alloc (.cells #[.int .i64 a.k, .slice A a.sp.length ca, .bool a.al, .slice B a.ws.length cb, .int .i64 a.b, .bool a.nul] 36)).alloc (.cells #[.int .i64 b.k, .slice C b.sp.length cc, .bool b.al, .slice D b.ws.length cd, .int .i64 b.b, .bool b.nul] 36)).alloc (.cells #[.int .i64 0, .slice none 0 0, .bool false, .slice none 0 0, .int .i64 0, .bool false] 36)) (w.heap.size + 2) #[.int .i64 0, .slice none 0 0, .bool false, .slice none 0 0, .int .i64 0, .bool false] := BoxIs.new (by simp)
  refine (kind_any a.k _).mono ?_
  rintro e W0 ⟨rfl, hb1⟩
  rw [hd]
  have K0 := K0.below hb1
  have K1 := K1.below hb1
  have K2 := K2.below hb1
  have hbw0 : Below w.heap.size w W0 := bel
  have HS0 : Hid (w.heap.size + 3 ≤ W0.heap.size) := Lib.hid (by have := K2.lt; omega)
  clear hb1
  go_wp2_with fail
  have hA0 := HA.out.below hbw0
  have hB0' := HB.out.below hbw0
  have hE0' := HE.out.below hbw0
  have HK : ∀ w', Below (w.heap.size + 2) W0 w' → Below (w.heap.size + 2) W0 w' ∧ (∀ o, w'.cell? ⟨w.heap.size, o, none⟩ = (#[.int .i64 a.k, .slice A a.sp.length ca, .bool a.al, .slice B a.ws.length cb, .int .i64 a.b, .bool a.nul] : Array Value)[o]?) ∧ (∀ o, w'.cell? ⟨w.heap.size + 1, o, none⟩ = (#[.int .i64 b.k, .slice C b.sp.length cc, .bool b.al, .slice D b.ws.length cd, .int .i64 b.b, .bool b.nul] : Array Value)[o]?) := fun w' hb => ⟨hb, (K0.low hb (by omega)).c, (K1.low hb (by omega)).c⟩
  refine wp_region_held_drew (S := (fun w' => Below (w.heap.size + 2) W0 w' ∧ (∀ o, w'.cell? ⟨w.heap.size, o, none⟩ = (#[.int .i64 a.k, .slice A a.sp.length ca, .bool a.al, .slice B a.ws.length cb, .int .i64 a.b, .bool a.nul] : Array Value)[o]?) ∧ (∀ o, w'.cell? ⟨w.heap.size + 1, o, none⟩ = (#[.int .i64 b.k, .slice C b.sp.length cc, .bool b.al, .slice D b.ws.length cd, .int .i64 b.b, .bool b.nul] : Array Value)[o]?))) (by kernel_rfl) (HK _ (Below.drew (Below.refl _ _))) (fun hHeld => ?_)
  refine tkH 0 ?_
  try simp only [shH]
  refine tkH 2 ?_
  try simp only [shH]
  refine rdH [1] ?_
  refine AllReadyH.cons rfl (fun K hK => ?_) AllReadyH.nil
  go_simp
  go_at_call 46
  refine (tidy_any a N A B ca cb _ (hA0.below bel) oa (by omega) (hE0'.below bel)).mono ?_
  rintro e w1 ⟨r1, X1, Y1, cx1, cy1, rfl, hR1, i1, ok1, al1, hb1⟩
  have AL1 := Lib.hid al1
  clear al1
  have hB1 : Below W0.heap.size W0 w1 := (by first | exact hb1 | exact undrew hb1)
  refine hK.out _ _ ?_ (fun hH2 => ?_)
  · exact HK _ (Below.mono hB1 (by have := HS0.out; omega))
  clear hK K hHeld
  have hHeld := hH2
  clear hH2
  try simp only [shH]
  refine rdH [3] ?_
  refine AllReadyH.cons rfl (fun K hK => ?_) AllReadyH.nil
  go_simp
  go_at_call 46
  refine (tidy_any b M C D cc cd _ (hB0'.below hB1) ob (by omega) (hE0'.below hB1)).mono ?_
  rintro e w2 ⟨r2, X2, Y2, cx2, cy2, rfl, hR2, i2, ok2, al2, hb2⟩
  have AL2 := Lib.hid al2
  clear al2
  have hB2 : Below W0.heap.size W0 w2 := hB1.trans (hb2.mono hB1.size)
  refine hK.out _ _ ?_ (fun hH2 => ?_)
  · exact HK _ (Below.mono hB2 (by have := HS0.out; omega))
  clear hK K hHeld
  have hHeld := hH2
  clear hH2
  try simp only [shH]
  refine rdH [4] ?_
  refine AllReadyH.cons rfl (fun K hK => ?_) AllReadyH.nil
  go_simp
  go_at_call 47
  refine (setMeet_any r1 r2 a.sg b.sg N M X1 Y1 X2 Y2 cx1 cy1 cx2 cy2 _ (hR1.below hb2) hR2 i1 i2 hkk ok1 ok2 (by omega) (by omega) hNM (hE0'.below hB2)).mono ?_
  rintro e w3 ⟨r3, X3, Y3, cx3, cy3, rfl, hR3, i3, ok3, al3, hb3⟩
  have AL3 := Lib.hid al3
  clear al3
  have hB3 : Below W0.heap.size W0 w3 := hB2.trans (hb3.mono hB2.size)
  refine hK.out _ _ ?_ (fun hH2 => ?_)
  · exact HK _ (Below.mono hB3 (by have := HS0.out; omega))
  clear hK K hHeld
  have hHeld := hH2
  clear hH2
  try simp only [shH]
  refine rdH [5] ?_
  refine AllReadyH.cons rfl (fun K hK => ?_) AllReadyH.nil
  go_simp
  go_at_call 46
  refine (tidy_any r3 (N + M) X3 Y3 cx3 cy3 _ hR3 ok3 (by omega) (hE0'.below hB3)).mono ?_
  rintro e w4 ⟨r, X, Y, cx, cy, rfl, hR, ir, okr, alr, hb4⟩
  have ALR := Lib.hid alr
  clear alr
  have hB4 : Below W0.heap.size W0 w4 := hB3.trans (hb4.mono hB3.size)
  have hB5 := hB4.mono (show w.heap.size + 2 ≤ W0.heap.size by have := HS0.out; omega)
  have K24 := K2.below hB4
  have c4 := K24.c
  have f4 := K24.f
  have l4 := K24.lt
  refine hK.out _ _ ?_ (fun hH2 => ?_)
  · exact HK _ (Below.mono hB4 (by have := HS0.out; omega))
  clear hK K hHeld
  have hHeld := hH2
  clear hH2
  try simp only [shH]
  refine rdH [6] ?_
  refine AllReadyH.cons rfl (fun K hK => ?_) AllReadyH.nil
  go_simp
  refine hK.out _ _ ?_ (fun hH2 => ?_)
  · exact HK _ bel
  clear hK K hHeld
  have hHeld := hH2
  clear hH2
  try simp only [shH]
  refine tkH 7 ?_
  try simp only [shH]
  refine dnH ?_ _
  clear hHeld
  (try simp only [Exit.then, Exit.inBlock])
  have hbw4 : Below w.heap.size w w4 := hbw0.trans (hB4.mono hbw0.size)
  rw [i3.sg_eq (by show 1 ≤ a.k ∧ a.k ≤ 4; exact hKd)] at ir
  have HAL : Hid (r.al = true → a.al = true ∧ b.al = true) := Lib.hid (fun h => by
    rw [ALR.out, Bool.and_eq_true, AL3.out, Bool.and_eq_true, AL1.out, AL2.out, Bool.and_eq_true, Bool.and_eq_true] at h
    exact ⟨h.2.1.2, h.2.2.2⟩)
  clear hB1 hB2 hB3 hB4 hB5 hb2 hb3 hb4 HK K0 K1 hA0 hB0' hE0' hR1 hR2 hR3 i1 i2 i3 ok1 ok2 ok3 AL1 AL2 AL3 ALR
  go_wp2_with fail
  refine bodyPost_ret (v := .tuple #[.agg #[.int .i64 r.k, .slice X r.sp.length cx, .bool r.al, .slice Y r.ws.length cy, .int .i64 r.b, .bool r.nul], .int .i64 0]) (by simp [results, Tryz.results16, go_sem, *]) rfl ⟨r, X, Y, cx, cy, rfl, hR.free K24 (setLike _ _ _ _ _ _ _ _ _ _) six_other, ir, okr, HAL.out, bel⟩
end Go.Proofs.YtankkadnhdfpfaaGreatDoor

/- soffit/sets.Other: walked. -/
set_option linter.unusedSimpArgs false
set_option linter.unusedVariables false
namespace Go.Proofs.YtankkadnhdfpfaaGreatDoor
open Go.RowKit Sp Wd

set_option maxRecDepth 100000 in
set_option maxHeartbeats 3200000 in
theorem setOther_no (t : Ty) (s : St) (T A B : Option Addr) (ct ca cb : Nat) (w : World) (hTy : tySnd t = false) (hT : TyAt w t T) (hE : Env w) :
    Calls Tryz.prog 14 #[.agg #[.int .i64 t.k, .int .i64 t.sc, .bool t.c.any, .bool t.c.neg, .slice T t.c.ts.length ct], .agg #[.int .i64 s.k, .slice A s.sp.length ca, .bool s.al, .slice B s.ws.length cb, .int .i64 s.b, .bool s.nul]] w fun e w' => e = .returned (.tuple #[.agg #[.int .i64 0, .slice none 0 0, .bool false, .slice none 0 0, .int .i64 0, .bool false], .int .i64 2]) ∧ Below w.heap.size w w' := by
  have HT := Lib.hid hT
  have HE := Lib.hid hE
  clear hT hE
  go_enter Tryz.func14, Tryz.ntmps14
  go_wp2_with fail
  have K2 : BoxIs (((w.alloc (.cells #[.int .i64 t.k, .int .i64 t.sc, .bool t.c.any, .bool t.c.neg, .slice T t.c.ts.length ct] 26)).alloc (.cells #[.int .i64 s.k, .slice A s.sp.length ca, .bool s.al, .slice B s.ws.length cb, .int .i64 s.b, .bool s.nul] 36)).alloc (.cells #[.int .i64 0, .slice none 0 0, .bool false, .slice none 0 0, .int .i64 0, .bool false] 36)) (w.heap.size + 2) #[.int .i64 0, .slice none 0 0, .bool false, .slice none 0 0, .int .i64 0, .bool false] := BoxIs.new (by simp)
  refine (setSound_any t T ct _ (HT.out.below bel) (HE.out.below bel)).mono ?_
  rintro e w1 ⟨rfl, hb1⟩
  rw [hTy]
  have K2 := K2.below hb1
  have z1 := K2.c
  have f1 := K2.f
  have l1 := K2.lt
  go_wp2_with fail
  refine bodyPost_ret (v := .tuple #[.agg #[.int .i64 0, .slice none 0 0, .bool false, .slice none 0 0, .int .i64 0, .bool false], .int .i64 2]) (by simp [results, Tryz.results14, go_sem, *]) rfl ⟨rfl, bel⟩
set_option maxRecDepth 100000 in
set_option maxHeartbeats 3200000 in
theorem setOther_arg (t : Ty) (s : St) (T A B : Option Addr) (ct ca cb : Nat) (w : World) (hTy : tySnd t = true) (hk : s.k ≠ t.k) (hT : TyAt w t T) (hE : Env w) :
    Calls Tryz.prog 14 #[.agg #[.int .i64 t.k, .int .i64 t.sc, .bool t.c.any, .bool t.c.neg, .slice T t.c.ts.length ct], .agg #[.int .i64 s.k, .slice A s.sp.length ca, .bool s.al, .slice B s.ws.length cb, .int .i64 s.b, .bool s.nul]] w fun e w' => e = .returned (.tuple #[.agg #[.int .i64 0, .slice none 0 0, .bool false, .slice none 0 0, .int .i64 0, .bool false], .int .i64 1]) ∧ Below w.heap.size w w' := by
  have HT := Lib.hid hT
  have HE := Lib.hid hE
  have e1 : (s.k != t.k) = true := by simpa using hk
  clear hT hE hk
  go_enter Tryz.func14, Tryz.ntmps14
  go_wp2_with fail
  have K0 : BoxIs (((w.alloc (.cells #[.int .i64 t.k, .int .i64 t.sc, .bool t.c.any, .bool t.c.neg, .slice T t.c.ts.length ct] 26)).alloc (.cells #[.int .i64 s.k, .slice A s.sp.length ca, .bool s.al, .slice B s.ws.length cb, .int .i64 s.b, .bool s.nul] 36)).alloc (.cells #[.int .i64 0, .slice none 0 0, .bool false, .slice none 0 0, .int .i64 0, .bool false] 36)) w.heap.size #[.int .i64 t.k, .int .i64 t.sc, .bool t.c.any, .bool t.c.neg, .slice T t.c.ts.length ct] := ((BoxIs.new rfl).alloc _).alloc _
  have K1 : BoxIs (((w.alloc (.cells #[.int .i64 t.k, .int .i64 t.sc, .bool t.c.any, .bool t.c.neg, .slice T t.c.ts.length ct] 26)).alloc (.cells #[.int .i64 s.k, .slice A s.sp.length ca, .bool s.al, .slice B s.ws.length cb, .int .i64 s.b, .bool s.nul] 36)).alloc (.cells #[.int .i64 0, .slice none 0 0, .bool false, .slice none 0 0, .int .i64 0, .bool false] 36)) (w.heap.size + 1) #[.int .i64 s.k, .slice A s.sp.length ca, .bool s.al, .slice B s.ws.length cb, .int .i64 s.b, .bool s.nul] := (BoxIs.new (by simp)).alloc _
  have K2 : BoxIs (((w.alloc (.cells #[.int .i64 t.k, .int .i64 t.sc, .bool t.c.any, .bool t.c.neg, .slice T t.c.ts.length ct] 26)).alloc (.cells #[.int .i64 s.k, .slice A s.sp.length ca, .bool s.al, .slice B s.ws.length cb, .int .i64 s.b, .bool s.nul] 36)).alloc (.cells #[.int .i64 0, .slice none 0 0, .bool false, .slice none 0 0, .int .i64 0, .bool false] 36)) (w.heap.size + 2) #[.int .i64 0, .slice none 0 0, .bool false, .slice none 0 0, .int .i64 0, .bool false] := BoxIs.new (by simp)
  refine (setSound_any t T ct _ (HT.out.below bel) (HE.out.below bel)).mono ?_
  rintro e w1 ⟨rfl, hb1⟩
  rw [hTy]
  have K0 := (K0.below hb1)
  have K1 := (K1.below hb1)
  have K2 := K2.below hb1
  have z0 := K0.c
  have z1 := K1.c
  have z2 := K2.c
  have f2 := K2.f
  have l0 := K0.lt
  have l1 := K1.lt
  have l2 := K2.lt
  have hbw : Below w.heap.size w w1 := bel
  clear hb1
  go_wp2_with fail
  refine bodyPost_ret (v := .tuple #[.agg #[.int .i64 0, .slice none 0 0, .bool false, .slice none 0 0, .int .i64 0, .bool false], .int .i64 1]) (by simp [results, Tryz.results14, go_sem, *]) rfl ⟨rfl, bel⟩
set_option maxRecDepth 100000 in
set_option maxHeartbeats 6400000 in
theorem setOther_any (t : Ty) (s : St) (N : Nat) (T A B : Option Addr) (ct ca cb : Nat) (w : World) (hTy : tySnd t = true) (hk : s.k = t.k) (hT : TyAt w t T) (hS : StAt w s A B) (os : StOk N s) (hN : N ≤ 400000000000) (hE : Env w) :
    Calls Tryz.prog 14 #[.agg #[.int .i64 t.k, .int .i64 t.sc, .bool t.c.any, .bool t.c.neg, .slice T t.c.ts.length ct], .agg #[.int .i64 s.k, .slice A s.sp.length ca, .bool s.al, .slice B s.ws.length cb, .int .i64 s.b, .bool s.nul]] w fun e w' => ∃ (r : St) (X Y : Option Addr) (cx cy : Nat), e = .returned (.tuple #[.agg #[.int .i64 r.k, .slice X r.sp.length cx, .bool r.al, .slice Y r.ws.length cy, .int .i64 r.b, .bool r.nul], .int .i64 0]) ∧ StAt w' r X Y ∧ Is ((fullG t).meet (lessG s.sg)) r ∧ StOk (9 + (N + 1)) r ∧ (r.al = true → (s.k == 2 && s.al) = false) ∧ Below w.heap.size w w' := by
  obtain ⟨hKd, hSc, -, -⟩ := ty_of hTy
  have hsk : s.sg.k = t.k := hk
  have e1 : (s.k != t.k) = false := by simp [hk]
  have HK0 := Lib.hid hk
  have HT := Lib.hid hT
  have HA := Lib.hid hS
  have HE := Lib.hid hE
  clear hT hS hE hk
  go_enter Tryz.func14, Tryz.ntmps14
  go_wp2_with fail
  have K0 : BoxIs (((w.alloc (.cells #[.int .i64 t.k, .int .i64 t.sc, .bool t.c.any, .bool t.c.neg, .slice T t.c.ts.length ct] 26)).alloc (.cells #[.int .i64 s.k, .slice A s.sp.length ca, .bool s.al, .slice B s.ws.length cb, .int .i64 s.b, .bool s.nul] 36)).alloc (.cells #[.int .i64 0, .slice none 0 0, .bool false, .slice none 0 0, .int .i64 0, .bool false] 36)) w.heap.size #[.int .i64 t.k, .int .i64 t.sc, .bool t.c.any, .bool t.c.neg, .slice T t.c.ts.length ct] := ((BoxIs.new rfl).alloc _).alloc _
  have K1 : BoxIs (((w.alloc (.cells #[.int .i64 t.k, .int .i64 t.sc, .bool t.c.any, .bool t.c.neg, .slice T t.c.ts.length ct] 26)).alloc (.cells #[.int .i64 s.k, .slice A s.sp.length ca, .bool s.al, .slice B s.ws.length cb, .int .i64 s.b, .bool s.nul] 36)).alloc (.cells #[.int .i64 0, .slice none 0 0, .bool false, .slice none 0 0, .int .i64 0, .bool false] 36)) (w.heap.size + 1) #[.int .i64 s.k, .slice A s.sp.length ca, .bool s.al, .slice B s.ws.length cb, .int .i64 s.b, .bool s.nul] := (BoxIs.new (by simp)).alloc _
  have K2 : BoxIs (((w.alloc (.cells #[.int .i64 t.k, .int .i64 t.sc, .bool t.c.any, .bool t.c.neg, .slice T t.c.ts.length ct] 26)).alloc (.cells #[.int .i64 s.k, .slice A s.sp.length ca, .bool s.al, .slice B s.ws.length cb, .int .i64 s.b, .bool s.nul] 36)).alloc (.cells #[.int .i64 0, .slice none 0 0, .bool false, .slice none 0 0, .int .i64 0, .bool false] 36)) (w.heap.size + 2) #[.int .i64 0, .slice none 0 0, .bool false, .slice none 0 0, .int .i64 0, .bool false] := BoxIs.new (by simp)
  refine (setSound_any t T ct _ (HT.out.below bel) (HE.out.below bel)).mono ?_
  rintro e W0 ⟨rfl, hb1⟩
  rw [hTy]
  have K0 := K0.below hb1
  have K1 := K1.below hb1
  have K2 := K2.below hb1
  have hbw0 : Below w.heap.size w W0 := bel
  have HS0 : Hid (w.heap.size + 3 ≤ W0.heap.size) := Lib.hid (by have := K2.lt; omega)
  have k0 := K0.c
  have l0 := K0.lt
  have k1 := K1.c
  have l1 := K1.lt
  clear hb1
  go_wp2_with fail
  have hT0 := HT.out.below hbw0
  have hS0 := HA.out.below hbw0
  have hE0' := HE.out.below hbw0
  have HK : ∀ w', Below (w.heap.size + 2) W0 w' → Below (w.heap.size + 2) W0 w' ∧ (∀ o, w'.cell? ⟨w.heap.size, o, none⟩ = (#[.int .i64 t.k, .int .i64 t.sc, .bool t.c.any, .bool t.c.neg, .slice T t.c.ts.length ct] : Array Value)[o]?) ∧ (∀ o, w'.cell? ⟨w.heap.size + 1, o, none⟩ = (#[.int .i64 s.k, .slice A s.sp.length ca, .bool s.al, .slice B s.ws.length cb, .int .i64 s.b, .bool s.nul] : Array Value)[o]?) := fun w' hb => ⟨hb, (K0.low hb (by omega)).c, (K1.low hb (by omega)).c⟩
  refine wp_region_held_drew (S := (fun w' => Below (w.heap.size + 2) W0 w' ∧ (∀ o, w'.cell? ⟨w.heap.size, o, none⟩ = (#[.int .i64 t.k, .int .i64 t.sc, .bool t.c.any, .bool t.c.neg, .slice T t.c.ts.length ct] : Array Value)[o]?) ∧ (∀ o, w'.cell? ⟨w.heap.size + 1, o, none⟩ = (#[.int .i64 s.k, .slice A s.sp.length ca, .bool s.al, .slice B s.ws.length cb, .int .i64 s.b, .bool s.nul] : Array Value)[o]?))) (by kernel_rfl) (HK _ (Below.drew (Below.refl _ _))) (fun hHeld => ?_)
  refine tkH 0 ?_
  try simp only [shH]
  refine tkH 2 ?_
  try simp only [shH]
  refine tkH 3 ?_
  try simp only [shH]
  refine rdH [1] ?_
  refine AllReadyH.cons rfl (fun K hK => ?_) AllReadyH.nil
  go_simp
  go_at_call 48
  refine (full_any t T ct _ hTy (hT0.below bel) (hE0'.below bel)).mono ?_
  rintro e w1 ⟨r1, X1, Y1, cx1, cy1, rfl, hR1, i1, ok1, hb1⟩
  have hB1 : Below W0.heap.size W0 w1 := (by first | exact hb1 | exact undrew hb1)
  refine hK.out _ _ ?_ (fun hH2 => ?_)
  · exact HK _ (Below.mono hB1 (by have := HS0.out; omega))
  clear hK K hHeld
  have hHeld := hH2
  clear hH2
  try simp only [shH]
  refine rdH [4] ?_
  refine AllReadyH.cons rfl (fun K hK => ?_) AllReadyH.nil
  go_simp
  go_at_call 46
  refine (tidy_any s N A B ca cb _ (hS0.below hB1) os (by omega) (hE0'.below hB1)).mono ?_
  rintro e w2 ⟨r2, X2, Y2, cx2, cy2, rfl, hR2, i2, ok2, al2, hb2⟩
  have AL2 := Lib.hid al2
  clear al2
  have hB2 : Below W0.heap.size W0 w2 := hB1.trans (hb2.mono hB1.size)
  refine hK.out _ _ ?_ (fun hH2 => ?_)
  · exact HK _ (Below.mono hB2 (by have := HS0.out; omega))
  clear hK K hHeld
  have hHeld := hH2
  clear hH2
  try simp only [shH]
  refine rdH [5] ?_
  refine AllReadyH.cons rfl (fun K hK => ?_) AllReadyH.nil
  go_simp
  go_at_call 50
  refine (setLess_any t r2 s.sg N T X2 Y2 ct cx2 cy2 _ hR2 i2 hsk hKd ok2 (by omega) (hE0'.below hB2)).mono ?_
  rintro e w3 ⟨r3, X3, Y3, cx3, cy3, rfl, hR3, i3, ok3, al3, hb3⟩
  have AL3 := Lib.hid al3
  clear al3
  have hB3 : Below W0.heap.size W0 w3 := hB2.trans (hb3.mono hB2.size)
  refine hK.out _ _ ?_ (fun hH2 => ?_)
  · exact HK _ (Below.mono hB3 (by have := HS0.out; omega))
  clear hK K hHeld
  have hHeld := hH2
  clear hH2
  try simp only [shH]
  refine rdH [6] ?_
  refine AllReadyH.cons rfl (fun K hK => ?_) AllReadyH.nil
  go_simp
  go_at_call 47
  refine (setMeet_any r1 r3 (fullG t) (lessG s.sg) 9 (N + 1) X1 Y1 X3 Y3 cx1 cy1 cx3 cy3 _ (hR1.below (hb2.trans (hb3.mono hb2.size))) hR3 i1 i3 ((fullG_k t).trans hsk.symm) ok1 ok3 (by omega) (by omega) (by omega) (hE0'.below hB3)).mono ?_
  rintro e w4 ⟨r4, X4, Y4, cx4, cy4, rfl, hR4, i4, ok4, al4, hb4⟩
  have AL4 := Lib.hid al4
  clear al4
  have hB4 : Below W0.heap.size W0 w4 := hB3.trans (hb4.mono hB3.size)
  refine hK.out _ _ ?_ (fun hH2 => ?_)
  · exact HK _ (Below.mono hB4 (by have := HS0.out; omega))
  clear hK K hHeld
  have hHeld := hH2
  clear hH2
  try simp only [shH]
  refine rdH [7] ?_
  refine AllReadyH.cons rfl (fun K hK => ?_) AllReadyH.nil
  go_simp
  go_at_call 46
  refine (tidy_any r4 (9 + (N + 1)) X4 Y4 cx4 cy4 _ hR4 ok4 (by omega) (hE0'.below hB4)).mono ?_
  rintro e w5 ⟨r, X, Y, cx, cy, rfl, hR, ir, okr, alr, hb5⟩
  have ALR := Lib.hid alr
  clear alr
  have hB5 : Below W0.heap.size W0 w5 := hB4.trans (hb5.mono hB4.size)
  have hB6 := hB5.mono (show w.heap.size + 2 ≤ W0.heap.size by have := HS0.out; omega)
  have K25 := K2.below hB5
  have c5 := K25.c
  have f5 := K25.f
  have l5 := K25.lt
  refine hK.out _ _ ?_ (fun hH2 => ?_)
  · exact HK _ (Below.mono hB5 (by have := HS0.out; omega))
  clear hK K hHeld
  have hHeld := hH2
  clear hH2
  try simp only [shH]
  refine rdH [8] ?_
  refine AllReadyH.cons rfl (fun K hK => ?_) AllReadyH.nil
  go_simp
  refine hK.out _ _ ?_ (fun hH2 => ?_)
  · exact HK _ bel
  clear hK K hHeld
  have hHeld := hH2
  clear hH2
  try simp only [shH]
  refine tkH 9 ?_
  try simp only [shH]
  refine dnH ?_ _
  clear hHeld
  (try simp only [Exit.then, Exit.inBlock])
  have hbw5 : Below w.heap.size w w5 := hbw0.trans (hB5.mono hbw0.size)
  rw [i4.sg_eq (by show 1 ≤ (fullG t).k ∧ (fullG t).k ≤ 4; rw [fullG_k]; exact hKd)] at ir
  have HAL : Hid (r.al = true → (s.k == 2 && s.al) = false) := Lib.hid (fun h => by
    rw [ALR.out, Bool.and_eq_true, AL4.out, Bool.and_eq_true, AL3.out, Bool.and_eq_true, AL2.out, Bool.not_eq_true'] at h
    exact h.2.2.2)
  clear hB1 hB2 hB3 hB4 hB5 hB6 hb2 hb3 hb4 hb5 HK K0 K1 hT0 hS0 hE0' hR1 hR2 hR3 hR4 i1 i2 i3 i4 ok1 ok2 ok3 ok4 AL2 AL3 AL4 ALR k0 l0 k1 l1
  go_wp2_with fail
  refine bodyPost_ret (v := .tuple #[.agg #[.int .i64 r.k, .slice X r.sp.length cx, .bool r.al, .slice Y r.ws.length cy, .int .i64 r.b, .bool r.nul], .int .i64 0]) (by simp [results, Tryz.results14, go_sem, *]) rfl ⟨r, X, Y, cx, cy, rfl, hR.free K25 (setLike _ _ _ _ _ _ _ _ _ _) six_other, ir, okr, HAL.out, bel⟩
end Go.Proofs.YtankkadnhdfpfaaGreatDoor

/- soffit/sets.Empty: walked. -/
set_option linter.unusedSimpArgs false
set_option linter.unusedVariables false
namespace Go.Proofs.YtankkadnhdfpfaaGreatDoor
open Go.RowKit Sp Wd

set_option maxRecDepth 100000 in
set_option maxHeartbeats 3200000 in
theorem setEmpty_any (s : St) (N : Nat) (A B : Option Addr) (ca cb : Nat) (w : World) (hS : StAt w s A B) (hO : StOk N s) (hN : N ≤ 8000000000000) (hE : Env w) :
    Calls Tryz.prog 17 #[.agg #[.int .i64 s.k, .slice A s.sp.length ca, .bool s.al, .slice B s.ws.length cb, .int .i64 s.b, .bool s.nul]] w fun e w' => ∃ r : St, e = .returned (.bool (emptyG r)) ∧ Is s.sg r ∧ r.al = (s.k == 2 && s.al) ∧ Below w.heap.size w w' := by
  have HS := Lib.hid hS
  have HE := Lib.hid hE
  clear hS hE
  go_enter Tryz.func17, Tryz.ntmps17
  go_wp2_with fail
  have K0 : BoxIs (w.alloc (.cells #[.int .i64 s.k, .slice A s.sp.length ca, .bool s.al, .slice B s.ws.length cb, .int .i64 s.b, .bool s.nul] 36)) w.heap.size #[.int .i64 s.k, .slice A s.sp.length ca, .bool s.al, .slice B s.ws.length cb, .int .i64 s.b, .bool s.nul] := BoxIs.new rfl
  refine (tidy_any s N A B ca cb _ (HS.out.below bel) hO hN (HE.out.below bel)).mono ?_
  rintro e w1 ⟨r, X, Y, cx, cy, rfl, hR, ir, okr, alr, hb1⟩
  have K0 := K0.below hb1
  have z1 := K0.c
  have f1 := K0.f
  have l1 := K0.lt
  have hbw : Below w.heap.size w w1 := bel
  clear hb1
  have ALR := Lib.hid alr
  have IR := Lib.hid ir
  clear alr ir
  go_upto_region 2 with fail
  generalize hW2 : (((((w1.setCell _ _).setCell _ _).setCell _ _).setCell _ _).setCell _ _).setCell _ _ = W2
  have K2 : BoxIs W2 w.heap.size #[.int .i64 r.k, .slice X r.sp.length cx, .bool r.al, .slice Y r.ws.length cy, .int .i64 r.b, .bool r.nul] := by rw [← hW2]; exact (((((K0.set 0 _).set 1 _).set 2 _).set 3 _).set 4 _).set 5 _
  have hR2 : StAt W2 r X Y := by rw [← hW2]; exact hR.free K0 (setLike _ _ _ _ _ _ _ _ _ _) six_other
  have hb2 : Below w.heap.size w W2 := by rw [← hW2]; exact bel
  clear hW2 z1 f1 l1 hbw hR K0
  have z2 := K2.c
  have l2 := K2.lt
  have f2 := K2.f
  have hE2 := HE.out.below hb2
  have ok2 : r.ws.length * 16 ≤ 140737488355328 := by have := okr.lw; omega
  have HOK := Lib.hid okr.tx
  clear okr hO
  cases hn : r.nul
  · rw [hn] at z2
    by_cases hk : r.k = 2
    · have e2 : (r.k == 2) = true := by simp [hk]
      have HB : Hid (emptyG r = emptyW r.al r.ws) := by
        show _ = _
        unfold emptyG emptyW
        rw [hn, if_pos hk, norm_id IR.out.rise IR.out.txt]; rfl
      clear hn hk
      go_wp2_with fail
      refine (empty_any r.al Y r.ws cy _ (hE2.below bel) (hR2.ws.below bel) HOK.out ok2).mono ?_
      rintro e w3 ⟨rfl, hb3⟩
      rw [← HB.out]
      go_wp2_with fail
      go_ret
      exact ⟨r, rfl, IR.out, ALR.out, bel⟩
    · have e2 : (r.k == 2) = false := by simp [hk]
      by_cases hl : r.sp = []
      · have e3 : r.sp.length = 0 := by rw [hl]; rfl
        rw [e3] at z2
        by_cases hb : r.b = 0
        · have HB : Hid (emptyG r = true) := by show _ = _; unfold emptyG; rw [hn, if_neg hk, hl, hb]; rfl
          rw [hb] at z2
          clear hn hk hl hb e3
          go_wp2_with fail
          go_ret
          exact ⟨r, ret_bool (by rw [HB.out]), IR.out, ALR.out, bel⟩
        · have HB : Hid (emptyG r = false) := by show _ = _; unfold emptyG; rw [hn, if_neg hk, hl, show (r.b == 0) = false by simp [hb]]; rfl
          have e4 : (r.b == 0) = false := by simp [hb]
          clear hn hk hl hb e3
          go_wp2_with fail
          go_ret
          exact ⟨r, ret_bool HB.out.symm, IR.out, ALR.out, bel⟩
      · have HB : Hid (emptyG r = false) := by
          show _ = _; unfold emptyG; rw [hn, if_neg hk, show r.sp.isEmpty = false by cases h : r.sp; exact absurd h hl; rfl]; rfl
        obtain ⟨m, hm⟩ : ∃ m, r.sp.length = m + 1 := ⟨r.sp.length - 1, by have := List.length_pos_iff.2 hl; omega⟩
        have e3 : (((m + 1 : Nat) : Int) == 0) = false := by simp; omega
        rw [hm] at z2
        clear hn hk hl hm
        go_wp2_with fail
        go_ret
        exact ⟨r, ret_bool HB.out.symm, IR.out, ALR.out, bel⟩
  · rw [hn] at z2
    have HB : Hid (emptyG r = false) := by show _ = _; unfold emptyG; rw [hn]; rfl
    clear hn
    go_wp2_with fail
    go_ret
    exact ⟨r, ret_bool HB.out.symm, IR.out, ALR.out, bel⟩
end Go.Proofs.YtankkadnhdfpfaaGreatDoor
