import Derived.Test.YtankkadnhdfpfaaGreatDoorPk33
import Derived.Test.YtankkadnhdfpfaaGreatDoorPk36
/- soffitlaw15.SetsTypes: walked. -/
set_option linter.unusedSimpArgs false
set_option linter.unusedVariables false
namespace Go.Proofs.YtankkadnhdfpfaaGreatDoor
open Go.RowKit Sp Wd

set_option maxRecDepth 100000 in
set_option maxHeartbeats 6400000 in
theorem lawTypes_any (t : Ty) (v : Vl) (T : Option Addr) (ct : Nat) (w : World) (hT : TyAt w t T) (hv : v.wf) (hE : EnvP w) :
    Calls Tryz.prog 8 #[.agg #[.int .i64 t.k, .int .i64 t.sc, .bool t.c.any, .bool t.c.neg, .slice T t.c.ts.length ct], .agg #[.int .i64 v.k, .int .i64 v.n, .int .i64 v.s, .string v.t, .int .i64 v.i]] w fun e w' => e = .returned (.bool true) ∧ Below w.heap.size w w' := by
  go_enter Tryz.func8, Tryz.ntmps8
  go_wp2_with fail
  generalize hW0 : (w.alloc _).alloc _ = W0
  have hb0 : Below w.heap.size w W0 := (by rw [← hW0]; exact bel)
  have K0 : BoxIs W0 w.heap.size #[.int .i64 t.k, .int .i64 t.sc, .bool t.c.any, .bool t.c.neg, .slice T t.c.ts.length ct] := (by rw [← hW0]; exact (BoxIs.new (t := 26) rfl).alloc _)
  have K1 : BoxIs W0 (w.heap.size + 1) #[.int .i64 v.k, .int .i64 v.n, .int .i64 v.s, .string v.t, .int .i64 v.i] := (by rw [← hW0]; exact BoxIs.new (t := 30) (by simp))
  have hT0 := hT.below hb0
  have hE0 := hE.below hb0
  clear hW0 hT hE
  have HK : ∀ w', Below W0.heap.size W0 w' → Below W0.heap.size W0 w' ∧ (∀ o, w'.cell? ⟨w.heap.size, o, none⟩ = (#[.int .i64 t.k, .int .i64 t.sc, .bool t.c.any, .bool t.c.neg, .slice T t.c.ts.length ct] : Array Value)[o]?) ∧ (∀ o, w'.cell? ⟨w.heap.size + 1, o, none⟩ = (#[.int .i64 v.k, .int .i64 v.n, .int .i64 v.s, .string v.t, .int .i64 v.i] : Array Value)[o]?) := fun w' hb => ⟨hb, (K0.below hb).c, (K1.below hb).c⟩
  refine wp_region_held_drew (S := (fun w' => Below W0.heap.size W0 w' ∧ (∀ o, w'.cell? ⟨w.heap.size, o, none⟩ = (#[.int .i64 t.k, .int .i64 t.sc, .bool t.c.any, .bool t.c.neg, .slice T t.c.ts.length ct] : Array Value)[o]?) ∧ (∀ o, w'.cell? ⟨w.heap.size + 1, o, none⟩ = (#[.int .i64 v.k, .int .i64 v.n, .int .i64 v.s, .string v.t, .int .i64 v.i] : Array Value)[o]?))) (by kernel_rfl) (HK _ (Below.drew (Below.refl _ _))) (fun hHeld => ?_)
  refine rdH [0] ?_
  refine AllReadyH.cons rfl (fun K hK => ?_) AllReadyH.nil
  go_simp
  refine (awake15_any _ (hE0.below bel)).mono ?_
  rintro e w1 ⟨rfl, hb1⟩
  have hB1 : Below W0.heap.size W0 w1 := (by first | exact hb1 | exact undrew hb1)
  refine hK.out _ _ ?_ (fun hH2 => ?_)
  · exact HK _ hB1
  clear hK K hHeld
  have hHeld := hH2
  clear hH2
  try simp only [shH]
  refine tkH 1 ?_
  try simp only [shH]
  refine tkH 2 ?_
  try simp only [shH]
  refine tkH 4 ?_
  try simp only [shH]
  refine rdH [3] ?_
  refine AllReadyH.cons rfl (fun K hK => ?_) AllReadyH.nil
  go_simp
  refine (setSound_any t T ct _ (hT0.below hB1) (hE0.env.below hB1)).mono ?_
  rintro e w2 ⟨rfl, hb2⟩
  have hB2 : Below W0.heap.size W0 w2 := hB1.trans (hb2.mono hB1.size)
  refine hK.out _ _ ?_ (fun hH2 => ?_)
  · exact HK _ hB2
  clear hK K hHeld
  have hHeld := hH2
  clear hH2
  try simp only [shH]
  refine rdH [5] ?_
  refine AllReadyH.cons rfl (fun K hK => ?_) AllReadyH.nil
  go_simp
  refine (rSetSound_any t T ct _ (hT0.below hB2)).mono ?_
  rintro e w3 ⟨rfl, hb3⟩
  have hB3 : Below W0.heap.size W0 w3 := hB2.trans (hb3.mono hB2.size)
  refine hK.out _ _ ?_ (fun hH2 => ?_)
  · exact HK _ hB3
  clear hK K hHeld
  have hHeld := hH2
  clear hH2
  try simp only [shH]
  refine tkH 6 ?_
  try simp only [shH]
  refine tkH 7 ?_
  try simp only [shH]
  refine tkH 8 ?_
  try simp only [shH]
  refine tkH 9 ?_
  try simp only [shH]
  refine tkH 10 ?_
  try simp only [shH]
  refine tkH 12 ?_
  try simp only [shH]
  refine tkH 13 ?_
  try simp only [shH]
  refine rdH [11] ?_
  refine AllReadyH.cons rfl (fun K hK => ?_) AllReadyH.nil
  go_simp
  refine (setIn_any t v T ct _ (hT0.below hB3) hv (hE0.env.below hB3)).mono ?_
  rintro e w4 ⟨rfl, hb4⟩
  have hB4 : Below W0.heap.size W0 w4 := hB3.trans (hb4.mono hB3.size)
  refine hK.out _ _ ?_ (fun hH2 => ?_)
  · exact HK _ hB4
  clear hK K hHeld
  have hHeld := hH2
  clear hH2
  try simp only [shH]
  refine rdH [14] ?_
  refine AllReadyH.cons rfl (fun K hK => ?_) AllReadyH.nil
  go_simp
  refine (rIn_any t v T ct _ (hT0.below hB4) hv).mono ?_
  rintro e w5 ⟨rfl, hb5⟩
  have hB5 : Below W0.heap.size W0 w5 := hB4.trans (hb5.mono hB4.size)
  refine hK.out _ _ ?_ (fun hH2 => ?_)
  · exact HK _ hB5
  clear hK K hHeld
  have hHeld := hH2
  clear hH2
  try simp only [shH]
  refine tkH 15 ?_
  try simp only [shH]
  refine tkH 16 ?_
  try simp only [shH]
  refine tkH 17 ?_
  try simp only [shH]
  refine dnH ?_ _
  clear hHeld
  (try simp only [Exit.then, Exit.inBlock])
  have hbw5 : Below w.heap.size w w5 := hb0.trans (hB5.mono hb0.size)
  go_wp2_with fail
  go_ret
  exact ⟨ret_bool (by simp), hbw5⟩
end Go.Proofs.YtankkadnhdfpfaaGreatDoor
