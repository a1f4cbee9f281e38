import Derived.Test.YtankkadnhdfpfaaGreatDoorPk32
/- soffit/sets.Full: walked. -/
set_option linter.unusedSimpArgs false
set_option linter.unusedVariables false
namespace Go.Proofs.YtankkadnhdfpfaaGreatDoor
open Go.RowKit Sp Wd

set_option maxRecDepth 100000 in
set_option maxHeartbeats 3200000 in
theorem setFull_no (t : Ty) (T : Option Addr) (ct : Nat) (w : World) (ht : tySnd t = false) (hT : TyAt w t T) (hE : Env w) :
    Calls Tryz.prog 37 #[.agg #[.int .i64 t.k, .int .i64 t.sc, .bool t.c.any, .bool t.c.neg, .slice T t.c.ts.length ct]] w fun e w' => e = .returned (.tuple #[.agg #[.int .i64 0, .slice none 0 0, .bool false, .slice none 0 0, .int .i64 0, .bool false], .int .i64 2]) ∧ Below w.heap.size w w' := by
  go_enter Tryz.func37, Tryz.ntmps37
  go_wp2_with fail
  have K1 : BoxIs ((w.alloc (.cells #[.int .i64 t.k, .int .i64 t.sc, .bool t.c.any, .bool t.c.neg, .slice T t.c.ts.length ct] 26)).alloc (.cells #[.int .i64 0, .slice none 0 0, .bool false, .slice none 0 0, .int .i64 0, .bool false] 36)) (w.heap.size + 1) #[.int .i64 0, .slice none 0 0, .bool false, .slice none 0 0, .int .i64 0, .bool false] := BoxIs.new (by simp)
  refine (setSound_any t T ct _ (hT.below bel) (hE.below bel)).mono ?_
  rintro e w1 ⟨rfl, hb1⟩
  rw [ht]
  have K1 := K1.below hb1
  have z1 := K1.c
  have f1 := K1.f
  have l1 := K1.lt
  go_wp2_with fail
  refine bodyPost_ret (v := .tuple #[.agg #[.int .i64 0, .slice none 0 0, .bool false, .slice none 0 0, .int .i64 0, .bool false], .int .i64 2]) (by simp [results, Tryz.results37, go_sem, *]) rfl ⟨rfl, bel⟩
set_option maxRecDepth 100000 in
set_option maxHeartbeats 3200000 in
theorem setFull_any (t : Ty) (T : Option Addr) (ct : Nat) (w : World) (ht : tySnd t = true) (hT : TyAt w t T) (hE : Env w) :
    Calls Tryz.prog 37 #[.agg #[.int .i64 t.k, .int .i64 t.sc, .bool t.c.any, .bool t.c.neg, .slice T t.c.ts.length ct]] w fun e w' => ∃ (r : St) (X Y : Option Addr) (cx cy : Nat), e = .returned (.tuple #[.agg #[.int .i64 r.k, .slice X r.sp.length cx, .bool r.al, .slice Y r.ws.length cy, .int .i64 r.b, .bool r.nul], .int .i64 0]) ∧ StAt w' r X Y ∧ Is (fullG t) r ∧ StOk 9 r ∧ Below w.heap.size w w' := by
  obtain ⟨h1, h2, -, h4⟩ := ty_of ht
  go_enter Tryz.func37, Tryz.ntmps37
  go_wp2_with fail
  have K0 : BoxIs ((w.alloc (.cells #[.int .i64 t.k, .int .i64 t.sc, .bool t.c.any, .bool t.c.neg, .slice T t.c.ts.length ct] 26)).alloc (.cells #[.int .i64 0, .slice none 0 0, .bool false, .slice none 0 0, .int .i64 0, .bool false] 36)) w.heap.size #[.int .i64 t.k, .int .i64 t.sc, .bool t.c.any, .bool t.c.neg, .slice T t.c.ts.length ct] := (BoxIs.new rfl).alloc _
  have K1 : BoxIs ((w.alloc (.cells #[.int .i64 t.k, .int .i64 t.sc, .bool t.c.any, .bool t.c.neg, .slice T t.c.ts.length ct] 26)).alloc (.cells #[.int .i64 0, .slice none 0 0, .bool false, .slice none 0 0, .int .i64 0, .bool false] 36)) (w.heap.size + 1) #[.int .i64 0, .slice none 0 0, .bool false, .slice none 0 0, .int .i64 0, .bool false] := BoxIs.new (by simp)
  refine (setSound_any t T ct _ (hT.below bel) (hE.below bel)).mono ?_
  rintro e w1 ⟨rfl, hb1⟩
  rw [ht]
  have K0 := (K0.below hb1).c
  have K1 := K1.below hb1
  have l1 := K1.lt
  have hbw1 : Below w.heap.size w w1 := bel
  have l0 : w.heap.size < w1.heap.size := by omega
  clear hb1
  go_wp2_with fail
  refine (full_any t T ct _ ht (hT.below bel) (hE.below bel)).mono ?_
  rintro e w2 ⟨r, X, Y, cx, cy, rfl, hR, ir, okr, hb2⟩
  have K1 := K1.below hb2
  have hbw2 : Below w.heap.size w w2 := hbw1.trans (hb2.mono hbw1.size)
  clear hb2 hbw1 K0 l0 l1
  go_wp2_with fail
  refine (tidy_any r 9 X Y cx cy _ hR okr (by omega) (hE.below hbw2)).mono ?_
  rintro e w3 ⟨r3, X3, Y3, cx3, cy3, rfl, hR3, ir3, ok3, al3, hb3⟩
  rw [ir.sg_eq (by rw [fullG_k]; exact h1)] at ir3
  have K1 := K1.below hb3
  have z1 := K1.c
  have f1 := K1.f
  have l1 := K1.lt
  have hbw3 : Below w.heap.size w w3 := hbw2.trans (hb3.mono hbw2.size)
  clear hb3 hbw2 al3
  go_wp2_with fail
  refine bodyPost_ret (v := .tuple #[.agg #[.int .i64 r3.k, .slice X3 r3.sp.length cx3, .bool r3.al, .slice Y3 r3.ws.length cy3, .int .i64 r3.b, .bool r3.nul], .int .i64 0]) (by simp [results, Tryz.results37, go_sem, *]) rfl ⟨r3, X3, Y3, cx3, cy3, rfl, hR3.free K1 (setLike _ _ _ _ _ _ _ _ _ _) six_other, ir3, ok3, bel⟩
end Go.Proofs.YtankkadnhdfpfaaGreatDoor
