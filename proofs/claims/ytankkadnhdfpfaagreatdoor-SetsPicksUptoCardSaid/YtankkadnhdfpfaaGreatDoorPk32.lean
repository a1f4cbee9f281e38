import Derived.Test.YtankkadnhdfpfaaGreatDoorPk31
import Derived.Test.YtankkadnhdfpfaaGreatDoorPk17
import Derived.Test.YtankkadnhdfpfaaGreatDoorPk24
/- soffit/sets.holds: walked. -/
set_option linter.unusedSimpArgs false
set_option linter.unusedVariables false
namespace Go.Proofs.YtankkadnhdfpfaaGreatDoor
open Go.RowKit Sp Wd

set_option maxRecDepth 100000 in
set_option maxHeartbeats 12800000 in
theorem setHolds_any (t : Ty) (c : Cel) (T A : Option Addr) (ct ca : Nat) (w : World) (ht : 1 ≤ t.k ∧ t.k ≤ 4) (hs : 0 ≤ t.sc ∧ t.sc ≤ 6) (hu : uSndB c = true) (hA : RdL w 13 A (c.ts.map Tst.cells)) (hw : ∀ x ∈ c.ts, x.wf) (hE : Env w) :
    Calls Tryz.prog 49 #[.agg #[.int .i64 t.k, .int .i64 t.sc, .bool t.c.any, .bool t.c.neg, .slice T t.c.ts.length ct], .agg #[.bool c.any, .bool c.neg, .slice A c.ts.length ca]] w fun e w' => ∃ (r : St) (X Y : Option Addr) (cx cy : Nat), e = .returned (.agg #[.int .i64 r.k, .slice X r.sp.length cx, .bool r.al, .slice Y r.ws.length cy, .int .i64 r.b, .bool r.nul]) ∧ StAt w' r X Y ∧ Is (holdsG t c) r ∧ StOk 9 r ∧ Below w.heap.size w w' := by
  obtain ⟨h8, hu1⟩ := uSnd_le hu
  cases ha : c.any
  rotate_left
  · have HG : Hid (holdsG t c = allG t.k) := Lib.hid (by unfold holdsG; rw [if_pos ha])
    clear ha hu h8 hu1 hs hA hw
    go_enter Tryz.func49, Tryz.ntmps49
    go_wp2_with fail
    have K2 : BoxIs (((w.alloc (.cells #[.int .i64 t.k, .int .i64 t.sc, .bool t.c.any, .bool t.c.neg, .slice T t.c.ts.length ct] 26)).alloc (.cells #[.bool true, .bool c.neg, .slice A c.ts.length ca] 24)).alloc (.cells #[.int .i64 0, .slice none 0 0, .bool false, .slice none 0 0, .int .i64 0, .bool false] 36)) (w.heap.size + 2) #[.int .i64 0, .slice none 0 0, .bool false, .slice none 0 0, .int .i64 0, .bool false] := BoxIs.new (by simp)
    refine (setAll_any t T ct _ ht (hE.below bel)).mono ?_
    rintro e w1 ⟨r, X, Y, cx, cy, rfl, hR, ir, okr, hal, hb1⟩
    have K2 := K2.below hb1
    have z2 := K2.c
    have f2 := K2.f
    have l2 := K2.lt
    clear hal
    go_wp2_with fail
    refine bodyPost_ret (v := .agg #[.int .i64 r.k, .slice X r.sp.length cx, .bool r.al, .slice Y r.ws.length cy, .int .i64 r.b, .bool r.nul]) (by simp [results, Tryz.results49, go_sem, *]) rfl ⟨r, X, Y, cx, cy, rfl, hR.free K2 (setLike _ _ _ _ _ _ _ _ _ _) six_other, by rw [HG.out]; exact ir, okr.mono (by omega), bel⟩
  have HT := Lib.hid ht
  have HTK := Lib.hid ht
  have HSC := Lib.hid hs
  have HU := Lib.hid hu1
  have HW := Lib.hid hw
  have HA := Lib.hid hA
  have HE := Lib.hid hE
  have HG : Hid (holdsG t c = if c.neg = true then lessG (joinsG t c.ts (noneG t.k)) else joinsG t c.ts (noneG t.k)) := Lib.hid (by unfold holdsG; rw [ha]; rfl)
  clear ht hs hu hu1 hw hA hE ha
  go_enter Tryz.func49, Tryz.ntmps49
  go_wp2_with fail
  generalize hE0 : ((w.alloc _).alloc _).alloc _ = w0
  have hb0 : Below w.heap.size w w0 := (by rw [← hE0]; exact bel)
  have K0 : BoxIs w0 w.heap.size #[.int .i64 t.k, .int .i64 t.sc, .bool t.c.any, .bool t.c.neg, .slice T t.c.ts.length ct] := (by rw [← hE0]; exact ((BoxIs.new (t := 26) rfl).alloc _).alloc _)
  have K1 : BoxIs w0 (w.heap.size + 1) #[.bool false, .bool c.neg, .slice A c.ts.length ca] := (by rw [← hE0]; exact (BoxIs.new (t := 24) (by simp)).alloc _)
  have K2 : BoxIs w0 (w.heap.size + 2) #[.int .i64 0, .slice none 0 0, .bool false, .slice none 0 0, .int .i64 0, .bool false] := (by rw [← hE0]; exact BoxIs.new (t := 36) (by simp))
  have hs0 : w0.heap.size = w.heap.size + 3 := (by rw [← hE0]; simp)
  have HS0 := Lib.hid hs0
  clear hE0 hs0
  refine (tidy_any ⟨t.k, [], false, [], 0, false⟩ 0 none none 0 0 w0 ⟨RdL.nil_ _ _ _, RdL.nil_ _ _ _⟩ ⟨by simp, by simp, by simp, by simp⟩ (by omega) (HE.out.below hb0)).mono ?_
  rintro e w1 ⟨r0, X0, Y0, cx0, cy0, rfl, hR0, ir0, ok0, hal, hb1⟩
  rw [(none_is t.k).sg_eq HT.out] at ir0
  clear hal
  have K0 := K0.below hb1
  have K1 := K1.below hb1
  have K2 := K2.below hb1
  have k0 := K0.c
  have k1 := K1.c
  have l0 := K0.lt
  have l1 := K1.lt
  go_wp2_with fail
  generalize hW0 : w1.alloc _ = W0
  have K3 : BoxIs W0 w1.heap.size #[.int .i64 r0.k, .slice X0 r0.sp.length cx0, .bool r0.al, .slice Y0 r0.ws.length cy0, .int .i64 r0.b, .bool r0.nul] := (by rw [← hW0]; exact BoxIs.new (t := 36) rfl)
  have hSt0 : StAt W0 r0 X0 Y0 := (by rw [← hW0]; exact hR0.alloc _)
  have hB0 : Below w1.heap.size w1 W0 := (by rw [← hW0]; exact Below.alloc (Below.refl _ _) (Nat.le_refl _) _)
  have K0 := K0.below hB0
  have K1 := K1.below hB0
  have K2 := K2.below hB0
  have h3 : w.heap.size + 3 ≤ w1.heap.size := by rw [← HS0.out]; exact hb1.size
  have hbw : Below w.heap.size w W0 := hb0.trans ((hb1.trans (hB0.mono hb1.size)).mono (by have := HS0.out; omega))
  obtain ⟨bo, hbo⟩ : ∃ bo, w1.heap.size = bo := ⟨_, rfl⟩
  rw [hbo] at K3 h3
  rw [hbo]
  have H3 := Lib.hid h3
  clear hW0 hB0 hb0 hb1 hbo hR0 HS0 k0 k1 l0 l1 h3
  go_loopg [19] c.ts.length (fun k iv wr => ∃ (j : Nat) (r : St) (X Y : Option Addr) (cx cy : Nat), j ≤ c.ts.length ∧ c.ts.length - j ≤ k ∧ iv = .int .i64 j ∧ BoxIs wr bo #[.int .i64 r.k, .slice X r.sp.length cx, .bool r.al, .slice Y r.ws.length cy, .int .i64 r.b, .bool r.nul] ∧ StAt wr r X Y ∧ Is (joinsG t (c.ts.take j) (noneG t.k)) r ∧ StOk j r ∧ Below bo W0 wr)
  case atStart => exact ⟨0, r0, X0, Y0, cx0, cy0, by omega, by omega, rfl, K3, hSt0, ir0, ok0, Below.refl _ _⟩
  case round =>
    obtain ⟨j, r, X, Y, cx, cy, hj, hjk, rfl, KO, hSt, ir, okr, hbel⟩ := hrel
    clear K3 hSt0 ir0 ok0
    have h3 := H3.out
    have hbwr : Below w.heap.size w wr := hbw.trans (hbel.mono (by omega))
    have KT := K0.low hbel (by omega)
    have KC := K1.low hbel (by omega)
    have KR := K2.low hbel (by omega)
    have kt := KT.c
    have lt := KT.lt
    have kc := KC.c
    have lc := KC.lt
    have ko := KO.c
    have lo := KO.lt
    by_cases hlt : j < c.ts.length
    · obtain ⟨b, off, hAe, hx⟩ := (HA.out.below hbwr).at_ hlt
      subst hAe
      have hux := HU.out _ (List.getElem_mem hlt)
      have hxw := HW.out _ (List.getElem_mem hlt)
      have hjt := joinsG_take t hlt (noneG t.k)
      generalize c.ts[j]'hlt = x at *
      have g0 : wr.cell? ⟨b, off + j * 13, none⟩ = some (.int .i64 x.k) := hx.get 0 rfl
      have g1 : wr.cell? ⟨b, off + j * 13 + 1, none⟩ = some (.int .i64 x.lo.k) := hx.get 1 rfl
      have g2 : wr.cell? ⟨b, off + j * 13 + 2, none⟩ = some (.int .i64 x.lo.n) := hx.get 2 rfl
      have g3 : wr.cell? ⟨b, off + j * 13 + 3, none⟩ = some (.int .i64 x.lo.s) := hx.get 3 rfl
      have g4 : wr.cell? ⟨b, off + j * 13 + 4, none⟩ = some (.string x.lo.t) := hx.get 4 rfl
      have g5 : wr.cell? ⟨b, off + j * 13 + 5, none⟩ = some (.int .i64 x.lo.i) := hx.get 5 rfl
      have g6 : wr.cell? ⟨b, off + j * 13 + 6, none⟩ = some (.int .i64 x.hi.k) := hx.get 6 rfl
      have g7 : wr.cell? ⟨b, off + j * 13 + 7, none⟩ = some (.int .i64 x.hi.n) := hx.get 7 rfl
      have g8 : wr.cell? ⟨b, off + j * 13 + 8, none⟩ = some (.int .i64 x.hi.s) := hx.get 8 rfl
      have g9 : wr.cell? ⟨b, off + j * 13 + 9, none⟩ = some (.string x.hi.t) := hx.get 9 rfl
      have g10 : wr.cell? ⟨b, off + j * 13 + 10, none⟩ = some (.int .i64 x.hi.i) := hx.get 10 rfl
      have g11 : wr.cell? ⟨b, off + j * 13 + 11, none⟩ = some (.bool x.ol) := hx.get 11 rfl
      have g12 : wr.cell? ⟨b, off + j * 13 + 12, none⟩ = some (.bool x.oh) := hx.get 12 rfl
      have i1 : (j : Int) < (c.ts.length : Int) := by omega
      have i2 : (0 : Int) ≤ (j : Int) := by omega
      have HJT := Lib.hid hjt
      clear hx hjt
      go_wp2_with fail
      generalize hWx : wr.alloc _ = Wx
      have KX : BoxIs Wx wr.heap.size #[.int .i64 x.k, .int .i64 x.lo.k, .int .i64 x.lo.n, .int .i64 x.lo.s, .string x.lo.t, .int .i64 x.lo.i, .int .i64 x.hi.k, .int .i64 x.hi.n, .int .i64 x.hi.s, .string x.hi.t, .int .i64 x.hi.i, .bool x.ol, .bool x.oh] := (by rw [← hWx]; exact BoxIs.new (t := 84) rfl)
      have hBx : Below wr.heap.size wr Wx := (by rw [← hWx]; exact Below.alloc (Below.refl _ _) (Nat.le_refl _) _)
      have KTx := KT.below hBx
      have KOx := KO.below hBx
      have hStx := hSt.below hBx
      have hbx0 : bo < wr.heap.size := KO.lt
      have hBw : Below w.heap.size w Wx := hbwr.trans (hBx.mono hbwr.size)
      have HEX := HE.out.below hBw
      have hbelx : Below bo W0 Wx := hbel.trans (hBx.mono (by omega))
      obtain ⟨bx, hbx⟩ : ∃ bx, wr.heap.size = bx := ⟨_, rfl⟩
      rw [hbx] at KX hbx0
      rw [hbx]
      have kox := KOx.c
      have HB0 := Lib.hid hbx0
      have HJL := Lib.hid h8
      clear hWx hBx hbx KT KC KO KR kt kc ko hbwr hbel lo lc lt g0 g1 g2 g3 g4 g5 g6 g7 g8 g9 g10 g11 g12 h3
      have HK : ∀ w', Below Wx.heap.size Wx w' → Below bo Wx w' ∧ (∀ o, w'.cell? ⟨w.heap.size, o, none⟩ = (#[.int .i64 t.k, .int .i64 t.sc, .bool t.c.any, .bool t.c.neg, .slice T t.c.ts.length ct] : Array Value)[o]?) ∧ (∀ o, w'.cell? ⟨bx, o, none⟩ = (#[.int .i64 x.k, .int .i64 x.lo.k, .int .i64 x.lo.n, .int .i64 x.lo.s, .string x.lo.t, .int .i64 x.lo.i, .int .i64 x.hi.k, .int .i64 x.hi.n, .int .i64 x.hi.s, .string x.hi.t, .int .i64 x.hi.i, .bool x.ol, .bool x.oh] : Array Value)[o]?) := fun w' hb => ⟨hb.mono (Nat.le_of_lt KOx.lt), (KTx.below hb).c, (KX.below hb).c⟩
      have TAIL : ∀ (s : St) (X2 Y2 : Option Addr) (cx2 cy2 : Nat) (w2 : World), Below Wx.heap.size Wx w2 → StAt w2 s X2 Y2 → Is (testG t x) s → StOk 1 s → (?G : St → Option Addr → Option Addr → Nat → Nat → World → Prop) s X2 Y2 cx2 cy2 w2 := ?tail
      refine wp_region_held_drew (S := (fun w' => Below bo Wx w' ∧ (∀ o, w'.cell? ⟨w.heap.size, o, none⟩ = (#[.int .i64 t.k, .int .i64 t.sc, .bool t.c.any, .bool t.c.neg, .slice T t.c.ts.length ct] : Array Value)[o]?) ∧ (∀ o, w'.cell? ⟨bx, o, none⟩ = (#[.int .i64 x.k, .int .i64 x.lo.k, .int .i64 x.lo.n, .int .i64 x.lo.s, .string x.lo.t, .int .i64 x.lo.i, .int .i64 x.hi.k, .int .i64 x.hi.n, .int .i64 x.hi.s, .string x.hi.t, .int .i64 x.hi.i, .bool x.ol, .bool x.oh] : Array Value)[o]?))) (by kernel_rfl) (HK _ bel) (fun hHeld => ?_)
      refine tkH 1 ?_
      try simp only [shH]
      refine tkH 2 ?_
      try simp only [shH]
      refine rdH [0, 3] ?_
      refine AllReadyH.cons rfl (fun K hK => ?_) ?_
      · go_simp
        refine hK.out _ _ ?_ (fun hH2 => ?_)
        · exact HK _ bel
        clear hK K hHeld
        have hHeld := hH2
        clear hH2
        try simp only [shH]
        refine rdH [3] ?_
        refine AllReadyH.cons rfl (fun K hK => ?_) AllReadyH.nil
        go_simp
        go_at_call 80
        refine (setTest_any t x T ct _ HTK.out HSC.out hux hxw (HEX.below bel)).mono ?_
        rintro e w2 ⟨s, X2, Y2, cx2, cy2, rfl, hS2, is2, ok2, hb2⟩
        have hB2 : Below Wx.heap.size Wx w2 := (by first | exact hb2 | exact undrew hb2)
        have KO2 := (KOx.below hB2).c
        refine hK.out _ _ ?_ (fun hH2 => ?_)
        · exact HK _ bel
        clear hK K hHeld
        have hHeld := hH2
        clear hH2
        try simp only [shH]
        exact TAIL s X2 Y2 cx2 cy2 w2 hB2 hS2 is2 ok2
      refine AllReadyH.cons rfl (fun K hK => ?_) AllReadyH.nil
      go_simp
      go_at_call 80
      refine (setTest_any t x T ct _ HTK.out HSC.out hux hxw (HEX.below bel)).mono ?_
      rintro e w2 ⟨s, X2, Y2, cx2, cy2, rfl, hS2, is2, ok2, hb2⟩
      have hB2 : Below Wx.heap.size Wx w2 := (by first | exact hb2 | exact undrew hb2)
      have KO2 := (KOx.below hB2).c
      refine hK.out _ _ ?_ (fun hH2 => ?_)
      · exact HK _ bel
      clear hK K hHeld
      have hHeld := hH2
      clear hH2
      try simp only [shH]
      refine rdH [0] ?_
      refine AllReadyH.cons rfl (fun K hK => ?_) AllReadyH.nil
      go_simp
      refine hK.out _ _ ?_ (fun hH2 => ?_)
      · exact HK _ bel
      clear hK K hHeld
      have hHeld := hH2
      clear hH2
      try simp only [shH]
      exact TAIL s X2 Y2 cx2 cy2 w2 hB2 hS2 is2 ok2
      case tail =>
        intro s X2 Y2 cx2 cy2 w2 hB2 hS2 is2 ok2
        have hHeld := HK w2 hB2
        refine rdH [4] ?_
        refine AllReadyH.cons rfl (fun K hK => ?_) AllReadyH.nil
        go_simp
        go_at_call 89
        refine (setJoin_any r s (joinsG t (c.ts.take j) (noneG t.k)) (testG t x) j 1 X Y X2 Y2 cx cy cx2 cy2 _ (hStx.below bel) (hS2.below bel) ir is2 (by rw [joinsG_k, testG_k]; rfl) okr ok2 (by omega) (by omega) (HEX.below bel)).mono ?_
        rintro e w3 ⟨r3, X3, Y3, cx3, cy3, rfl, hS3, is3, ok3, hb3⟩
        have hB3 : Below Wx.heap.size Wx w3 := hB2.trans ((by first | exact hb3 | exact undrew hb3 : Below w2.heap.size w2 w3).mono hB2.size)
        have hB4 := hB3.mono (Nat.le_of_lt KOx.lt)
        have KO3 := KOx.below hB3
        have c3 := KO3.c
        have f3 := KO3.f
        refine hK.out _ _ ?_ (fun hH2 => ?_)
        · exact HK _ hB3
        clear hK K hHeld
        have hHeld := hH2
        clear hH2
        try simp only [shH]
        refine rdH [5] ?_
        refine AllReadyH.cons rfl (fun K hK => ?_) AllReadyH.nil
        go_simp
        refine hK.out _ _ ?_ (fun hH2 => ?_)
        · exact ⟨bel, (fun o => (six_cell (by have := H3.out; omega) o).trans ((KTx.below hB3).c o)), (fun o => (six_cell (by have := HB0.out; omega) o).trans ((KX.below hB3).c o))⟩
        clear hK K hHeld
        have hHeld := hH2
        clear hH2
        try simp only [shH]
        refine dnH ?_ _
        clear hHeld
        (try simp only [Exit.then, Exit.inBlock])
        generalize hWz : (((((w3.setCell _ _).setCell _ _).setCell _ _).setCell _ _).setCell _ _).setCell _ _ = Wz
        have KZ : BoxIs Wz bo #[.int .i64 r3.k, .slice X3 r3.sp.length cx3, .bool r3.al, .slice Y3 r3.ws.length cy3, .int .i64 r3.b, .bool r3.nul] := by rw [← hWz]; exact (((((KO3.set 0 _).set 1 _).set 2 _).set 3 _).set 4 _).set 5 _
        have hSz : StAt Wz r3 X3 Y3 := by rw [← hWz]; exact hS3.free KO3 (setLike _ _ _ _ _ _ _ _ _ _) six_other
        have hBz : Below bo W0 Wz := hbelx.trans (by rw [← hWz]; exact bel)
        have HZ := Lib.hid (And.intro KZ (And.intro hSz hBz))
        have HI3 := Lib.hid (And.intro is3 ok3)
        clear hWz KZ hSz hBz KO3 hB2 hB3 hB4 hb3 hS2 is2 ok2 hS3 is3 ok3 HK KTx KOx KX hbelx hBw HEX hStx kox c3 f3
        go_wp2_with fail
        go_roundg (gk - 1)
        case measure => omega
        case rel => exact ⟨j + 1, r3, X3, Y3, cx3, cy3, by omega, by omega, by go_num, HZ.out.1, HZ.out.2.1, by rw [HJT.out]; exact HI3.out.1, HI3.out.2, HZ.out.2.2⟩
    · have hje : j = c.ts.length := by omega
      subst hje
      have i2 : ¬ ((c.ts.length : Int) < (c.ts.length : Int)) := by omega
      rw [List.take_length] at ir
      have KR1 : BoxIs wr (w.heap.size + 1 + 1) #[.int .i64 0, .slice none 0 0, .bool false, .slice none 0 0, .int .i64 0, .bool false] := KR
      have hfree := hSt.free (W := (((((wr.setCell ⟨w.heap.size + 1 + 1, 0, none⟩ (.int .i64 r.k)).setCell ⟨w.heap.size + 1 + 1, 1, none⟩ (.slice X r.sp.length cx)).setCell ⟨w.heap.size + 1 + 1, 2, none⟩ (.bool r.al)).setCell ⟨w.heap.size + 1 + 1, 3, none⟩ (.slice Y r.ws.length cy)).setCell ⟨w.heap.size + 1 + 1, 4, none⟩ (.int .i64 r.b)).setCell ⟨w.heap.size + 1 + 1, 5, none⟩ (.bool r.nul)) KR1 (setLike _ _ _ _ _ _ _ _ _ _) six_other
      have kr := KR.c
      have fr := KR.f
      have lr := KR.lt
      have fo := KO.f
      cases hneg : c.neg
      · have HII : Hid (Is (holdsG t c) r) := Lib.hid (by rw [HG.out, hneg]; exact ir)
        rw [hneg] at kc
        clear hneg
        go_wp2_with fail
        refine bodyPost_ret (v := .agg #[.int .i64 r.k, .slice X r.sp.length cx, .bool r.al, .slice Y r.ws.length cy, .int .i64 r.b, .bool r.nul]) (by simp [results, Tryz.results49, go_sem, *]) rfl ⟨r, X, Y, ⟨cx, cy, rfl⟩, hfree, HII.out, okr.mono (by omega), bel⟩
      · have HGN : Hid (holdsG t c = lessG (joinsG t c.ts (noneG t.k))) := Lib.hid (by rw [HG.out, hneg]; rfl)
        rw [hneg] at kc
        clear hneg
        go_wp2_with fail
        refine (setLess_any t r (joinsG t c.ts (noneG t.k)) c.ts.length T X Y ct cx cy _ hSt ir (by rw [joinsG_k]; rfl) HT.out okr (by omega) (HE.out.below hbwr)).mono ?_
        rintro e w2 ⟨r2, X2, Y2, cx2, cy2, rfl, hR2, ir2, ok2, hal, hb2⟩
        have KR2 : BoxIs w2 (w.heap.size + 1 + 1) #[.int .i64 0, .slice none 0 0, .bool false, .slice none 0 0, .int .i64 0, .bool false] := KR.below hb2
        have z2 := KR2.c
        have z3 := KR2.f
        have z4 := KR2.lt
        have hbw2 : Below w.heap.size w w2 := hbwr.trans (hb2.mono hbwr.size)
        clear hal hb2 kt kc ko kr fr fo KT KC KO KR
        go_wp2_with fail
        refine bodyPost_ret (v := .agg #[.int .i64 r2.k, .slice X2 r2.sp.length cx2, .bool r2.al, .slice Y2 r2.ws.length cy2, .int .i64 r2.b, .bool r2.nul]) (by simp [results, Tryz.results49, go_sem, *]) rfl ⟨r2, X2, Y2, cx2, cy2, rfl, hR2.free KR2 (setLike _ _ _ _ _ _ _ _ _ _) six_other, by rw [HGN.out]; exact ir2, ok2.mono (by omega), bel⟩
end Go.Proofs.YtankkadnhdfpfaaGreatDoor

/- soffit/sets.full: walked. -/
set_option linter.unusedSimpArgs false
set_option linter.unusedVariables false
namespace Go.Proofs.YtankkadnhdfpfaaGreatDoor
open Go.RowKit Sp Wd

theorem full_is {t : Ty} {r : St} (h : Is (holdsG t t.c) r) : Is (fullG t) ⟨r.k, r.sp, r.al, r.ws, r.b, true⟩ :=
  ⟨h.k, h.wf, h.ord, h.sp, h.rise, h.txt, h.ws, h.b, rfl, h.c1, h.c2, h.c3⟩
set_option maxRecDepth 100000 in
set_option maxHeartbeats 3200000 in
theorem full_any (t : Ty) (T : Option Addr) (ct : Nat) (w : World) (ht : tySnd t = true) (hT : TyAt w t T) (hE : Env w) :
    Calls Tryz.prog 48 #[.agg #[.int .i64 t.k, .int .i64 t.sc, .bool t.c.any, .bool t.c.neg, .slice T t.c.ts.length ct]] w fun e w' => ∃ (r : St) (X Y : Option Addr) (cx cy : Nat), e = .returned (.agg #[.int .i64 r.k, .slice X r.sp.length cx, .bool r.al, .slice Y r.ws.length cy, .int .i64 r.b, .bool r.nul]) ∧ StAt w' r X Y ∧ Is (fullG t) r ∧ StOk 9 r ∧ Below w.heap.size w w' := by
  obtain ⟨h1, h2, -, h4⟩ := ty_of ht
  go_enter Tryz.func48, Tryz.ntmps48
  go_wp2_with fail
  have K1 : BoxIs ((w.alloc (.cells #[.int .i64 t.k, .int .i64 t.sc, .bool t.c.any, .bool t.c.neg, .slice T t.c.ts.length ct] 26)).alloc (.cells #[.int .i64 0, .slice none 0 0, .bool false, .slice none 0 0, .int .i64 0, .bool false] 36)) (w.heap.size + 1) #[.int .i64 0, .slice none 0 0, .bool false, .slice none 0 0, .int .i64 0, .bool false] := BoxIs.new (by simp)
  refine (setHolds_any t t.c T T ct ct _ h1 h2 h4 (hT.rd.below bel) hT.ts (hE.below bel)).mono ?_
  rintro e w1 ⟨r, X, Y, cx, cy, rfl, hR, ir, okr, hb1⟩
  have K1 := K1.below hb1
  have z1 := K1.c
  have f1 := K1.f
  have l1 := K1.lt
  have hf := full_is ir
  have hbw : Below w.heap.size w w1 := bel
  clear hb1
  go_upto_region 2 with fail
  generalize hW2 : w1.alloc _ = W2
  have hbr : Below w1.heap.size w1 W2 := (by rw [← hW2]; exact Below.alloc (Below.refl _ _) (Nat.le_refl _) _)
  have hbox : BoxIs W2 w1.heap.size #[.int .i64 r.k, .slice X r.sp.length cx, .bool r.al, .slice Y r.ws.length cy, .int .i64 r.b, .bool r.nul] := (by rw [← hW2]; exact BoxIs.new (t := 36) rfl)
  have K2 := K1.below hbr
  have hR2 := hR.below hbr
  have hbw2 : Below w.heap.size w W2 := hbw.trans (hbr.mono hbw.size)
  obtain ⟨bs, hbs⟩ : ∃ bs, w1.heap.size = bs := ⟨_, rfl⟩
  rw [hbs] at hbox l1
  rw [hbs]
  have n2 := hbox.c
  have nf2 := hbox.f
  have z2 := K2.c
  have f2 := K2.f
  have l2 := K2.lt
  have hne : ¬ (bs = w.heap.size + 1) := by omega
  clear hW2 hbr hbs K1 z1 f1 hbw
  go_wp2_with fail
  have hR3 := hR2.free (W := W2.setCell ⟨bs, 5, none⟩ (.bool true)) hbox (setLike _ _ _ _ _ _ _ _ _ _) (fun k hk => heap_setCell_other _ _ _ _ hk)
  have K3 := K2.set' (c := bs) (by omega) 5 (.bool true)
  have hbw3 : Below w.heap.size w (W2.setCell ⟨bs, 5, none⟩ (.bool true)) := bel
  have z3 := K3.c
  have f3 := K3.f
  have l3 := K3.lt
  generalize W2.setCell ⟨bs, 5, none⟩ (.bool true) = W3 at *
  clear n2 nf2 z2 f2 l2 hR2 hbw2 K2 hbox
  refine bodyPost_ret (v := .agg #[.int .i64 r.k, .slice X r.sp.length cx, .bool r.al, .slice Y r.ws.length cy, .int .i64 r.b, .bool true]) (by simp [results, Tryz.results48, go_sem, *]) rfl ⟨⟨r.k, r.sp, r.al, r.ws, r.b, true⟩, X, Y, cx, cy, rfl, ?_, hf, ⟨okr.wf, okr.tx, okr.ls, okr.lw⟩, bel⟩
  have hq := hR3.free K3 (setLike _ _ _ _ _ _ _ _ _ _) (six_other (v0 := .int .i64 r.k) (v1 := .slice X r.sp.length cx) (v2 := .bool r.al) (v3 := .slice Y r.ws.length cy) (v4 := .int .i64 r.b) (v5 := .bool true))
  exact ⟨hq.sp, hq.ws⟩
end Go.Proofs.YtankkadnhdfpfaaGreatDoor

/- One of a set's values: plain. -/
set_option linter.unusedSimpArgs false
set_option linter.unusedVariables false
namespace Go.Proofs.YtankkadnhdfpfaaGreatDoor
open Go.RowKit Sp Wd

theorem joinsG_ext (t : Ty) : ∀ (l : List Tst) (g : Sg), (∀ n, g.P n = true → extP t.k n = true) → ∀ n, (joinsG t l g).P n = true → extP t.k n = true
  | [], _, h => h
  | x :: r, g, h => by
    refine joinsG_ext t r (g.join (testG t x)) (fun n hn => ?_)
    have hn' : (g.P n || (testG t x).P n) = true := hn
    rw [Bool.or_eq_true] at hn'
    rcases hn' with h1 | h1
    · exact h n h1
    · unfold testG at h1
      split at h1
      · cases h1
      · split at h1
        · have h2 : (numK t.k && (extP t.k n && hasS (betwLo t x, betwHi t x) n)) = true := h1
          rw [Bool.and_eq_true, Bool.and_eq_true] at h2
          exact h2.2.1
        · cases h1
theorem fullG_ext (t : Ty) (n : Int) (h : (fullG t).P n = true) : extP t.k n = true := by
  have h' : (holdsG t t.c).P n = true := h
  unfold holdsG at h'
  split at h'
  · have h2 : (numK t.k && extP t.k n) = true := h'
    rw [Bool.and_eq_true] at h2; exact h2.2
  · split at h'
    · have h2 : ((allG (joinsG t t.c.ts (noneG t.k)).k).P n && _) = true := h'
      rw [Bool.and_eq_true] at h2
      have h3 : (numK (joinsG t t.c.ts (noneG t.k)).k && extP (joinsG t t.c.ts (noneG t.k)).k n) = true := h2.1
      rw [Bool.and_eq_true, joinsG_k] at h3
      exact h3.2
    · exact joinsG_ext t t.c.ts (noneG t.k) (fun n hn => by cases hn) n h'
theorem ext_bd {k n : Int} (h : extP k n = true) : -999999999999 ≤ n ∧ n ≤ 999999999999 := by
  unfold extP at h
  rw [Bool.and_eq_true, decide_eq_true_eq, decide_eq_true_eq] at h
  have : -999999999999 ≤ lowK k ∧ topK k ≤ 999999999999 := by unfold lowK topK; constructor <;> split <;> omega
  omega
/-- there is nothing but null -/
def noneV (g : Sg) : Prop := (∀ n, g.P n = false) ∧ (∀ x, g.Q x = false) ∧ g.f = false ∧ g.t = false
/-- the value that is picked of a meaning -/
def BestV (t : Ty) (g : Sg) (v : Vl) : Prop :=
  (t.k = 1 ∧ ∃ n, (g.P n = true ∧ ∀ k, g.P k = true → farI n 0 < farI k 0 ∨ (farI n 0 = farI k 0 ∧ n ≤ k)) ∧ v = ⟨1, mkN n t.sc, mkS n t.sc, ⟨#[]⟩, 0⟩) ∨
  (t.k = 4 ∧ ∃ n, (g.P n = true ∧ ∀ k, g.P k = true → farI n 730119 < farI k 730119 ∨ (farI n 730119 = farI k 730119 ∧ n ≤ k)) ∧ v = ⟨4, 0, 0, ⟨#[]⟩, n⟩) ∨
  (t.k = 2 ∧ ∃ s, g.Q s = true ∧ v = ⟨2, 0, 0, bs s, 0⟩) ∨
  (t.k = 3 ∧ ((g.f = true ∧ v = ⟨3, 0, 0, ⟨#[]⟩, 0⟩) ∨ (g.f = false ∧ g.t = true ∧ v = ⟨3, 0, 0, ⟨#[]⟩, 1⟩)))
def PickOf (t : Ty) (g : Sg) (v : Vl) (e : Int) : Prop :=
  (e = 0 ∧ BestV t g v) ∨ (e = 0 ∧ v = Vl.zero ∧ g.nul = true ∧ noneV g) ∨ (e = 16 ∧ v = Vl.zero ∧ g.nul = false ∧ noneV g)
theorem pick_none {t : Ty} {g : Sg} (h : noneV g) : (g.nul = true → PickOf t g Vl.zero 0) ∧ (g.nul = false → PickOf t g Vl.zero 16) :=
  ⟨fun h1 => .inr (.inl ⟨rfl, rfl, h1, h⟩), fun h1 => .inr (.inr ⟨rfl, rfl, h1, h⟩)⟩
theorem near_best {g : Sg} {r : St} (ir : Is g r) {n q : Int} (h : NearOf r.sp q n) : g.P n = true ∧ ∀ k, g.P k = true → farI n q < farI k q ∨ (farI n q = farI k q ∧ n ≤ k) :=
  ⟨by rw [← ir.sp]; exact h.1, fun k hk => h.2 k (by rw [ir.sp]; exact hk)⟩
theorem none_num {g : Sg} {r : St} (ir : Is g r) (hk : numK g.k = true) (h : ∀ n, inS r.sp n = false) : noneV g := by
  have h14 : g.k = 1 ∨ g.k = 4 := by simpa [numK] using hk
  obtain ⟨c1, c2, c3⟩ := ir.cut
  exact ⟨fun n => by rw [← ir.sp]; exact h n, c2 (by omega), (c3 (by omega)).1, (c3 (by omega)).2⟩
theorem txt_pick {g : Sg} {r : St} (ir : Is g r) (hk : g.k = 2) {u : Tx} {n : Int} (h : PickIs r.al (norm r.ws) u n) : (n = 0 ∧ g.Q u = true) ∨ (n = 16 ∧ noneV g) := by
  obtain ⟨c1, c2, c3⟩ := ir.cut
  rcases h with ⟨ha, hn, hp⟩ | ⟨ha, ⟨hm, -, hn⟩ | ⟨hn, q, hm⟩⟩
  · left
    refine ⟨hn, ?_⟩
    rw [← ir.ws, ← inW_norm, ha]
    unfold inW
    rw [hp.1, hp.2.1]; rfl
  · right
    refine ⟨hn, c1 (by rw [hk]; rfl), fun x => ?_, (c3 (by omega)).1, (c3 (by omega)).2⟩
    rw [← ir.ws, ← inW_norm, ha, hm]
    exact inW_false x
  · left
    refine ⟨hn, ?_⟩
    have hmem : u ∈ norm r.ws := by rw [hm]; simp
    rw [← ir.ws, ← inW_norm, ha]
    unfold inW
    rw [(mem_norm.1 hmem).2, List.contains_iff_mem.2 hmem]; rfl
end Go.Proofs.YtankkadnhdfpfaaGreatDoor

/- soffit/sets.Pick: walked. -/
set_option linter.unusedSimpArgs false
set_option linter.unusedVariables false
namespace Go.Proofs.YtankkadnhdfpfaaGreatDoor
open Go.RowKit Sp Wd

set_option maxRecDepth 100000 in
set_option maxHeartbeats 6400000 in
theorem pick_any' (t : Ty) (s : St) (N : Nat) (T A B : Option Addr) (ct ca cb : Nat) (w : World) (hTy : tySnd t = true) (hk : s.k = t.k) (hT : TyAt w t T) (hS : StAt w s A B) (os : StOk N s) (hN : N ≤ 400000000000) (hE : EnvP w) :
    Calls Tryz.prog 26 #[.agg #[.int .i64 t.k, .int .i64 t.sc, .bool t.c.any, .bool t.c.neg, .slice T t.c.ts.length ct], .agg #[.int .i64 s.k, .slice A s.sp.length ca, .bool s.al, .slice B s.ws.length cb, .int .i64 s.b, .bool s.nul]] w fun e w' => ∃ (v : Vl) (n : Int), e = .returned (.tuple #[.agg #[.int .i64 v.k, .int .i64 v.n, .int .i64 v.s, .string v.t, .int .i64 v.i], .int .i64 n]) ∧ PickOf t ((fullG t).meet s.sg) v n ∧ Below w.heap.size w w' := by
  obtain ⟨hKd, hSc, hKS, -⟩ := ty_of hTy
  have hN9 : 9 * N ≤ 8000000000000 := by omega
  have hsk : s.sg.k = t.k := hk
  have e1 : (s.k != t.k) = false := by simp [hk]
  have HKK := Lib.hid hk
  have HT := Lib.hid hT
  have HS := Lib.hid hS
  have HE := Lib.hid hE
  clear hT hS hE hk
  go_enter Tryz.func26, Tryz.ntmps26
  go_wp2_with fail
  have K0 : BoxIs (((w.alloc (.cells #[.int .i64 t.k, .int .i64 t.sc, .bool t.c.any, .bool t.c.neg, .slice T t.c.ts.length ct] 26)).alloc (.cells #[.int .i64 s.k, .slice A s.sp.length ca, .bool s.al, .slice B s.ws.length cb, .int .i64 s.b, .bool s.nul] 36)).alloc (.cells #[.int .i64 0, .int .i64 0, .int .i64 0, .string ⟨#[]⟩, .int .i64 0] 30)) w.heap.size #[.int .i64 t.k, .int .i64 t.sc, .bool t.c.any, .bool t.c.neg, .slice T t.c.ts.length ct] := ((BoxIs.new rfl).alloc _).alloc _
  have K1 : BoxIs (((w.alloc (.cells #[.int .i64 t.k, .int .i64 t.sc, .bool t.c.any, .bool t.c.neg, .slice T t.c.ts.length ct] 26)).alloc (.cells #[.int .i64 s.k, .slice A s.sp.length ca, .bool s.al, .slice B s.ws.length cb, .int .i64 s.b, .bool s.nul] 36)).alloc (.cells #[.int .i64 0, .int .i64 0, .int .i64 0, .string ⟨#[]⟩, .int .i64 0] 30)) (w.heap.size + 1) #[.int .i64 s.k, .slice A s.sp.length ca, .bool s.al, .slice B s.ws.length cb, .int .i64 s.b, .bool s.nul] := (BoxIs.new (by simp)).alloc _
  have K2 : BoxIs (((w.alloc (.cells #[.int .i64 t.k, .int .i64 t.sc, .bool t.c.any, .bool t.c.neg, .slice T t.c.ts.length ct] 26)).alloc (.cells #[.int .i64 s.k, .slice A s.sp.length ca, .bool s.al, .slice B s.ws.length cb, .int .i64 s.b, .bool s.nul] 36)).alloc (.cells #[.int .i64 0, .int .i64 0, .int .i64 0, .string ⟨#[]⟩, .int .i64 0] 30)) (w.heap.size + 2) #[.int .i64 0, .int .i64 0, .int .i64 0, .string ⟨#[]⟩, .int .i64 0] := BoxIs.new (by simp)
  refine (setSound_any t T ct _ (HT.out.below bel) (HE.out.env.below bel)).mono ?_
  rintro e W0 ⟨rfl, hb1⟩
  rw [hTy]
  have K0 := K0.below hb1
  have K1 := K1.below hb1
  have K2 := K2.below hb1
  have hbw0 : Below w.heap.size w W0 := bel
  have HS0 : Hid (w.heap.size + 3 ≤ W0.heap.size) := Lib.hid (by have := K2.lt; omega)
  have k0 := K0.c
  have l0 := K0.lt
  have k1 := K1.c
  have l1 := K1.lt
  clear hb1
  go_wp2_with fail
  have hT0 := HT.out.below hbw0
  have hS0 := HS.out.below hbw0
  have hE0' := HE.out.env.below hbw0
  have HK : ∀ w', Below (w.heap.size + 1) W0 w' → Below (w.heap.size + 1) W0 w' ∧ (∀ o, w'.cell? ⟨w.heap.size, o, none⟩ = (#[.int .i64 t.k, .int .i64 t.sc, .bool t.c.any, .bool t.c.neg, .slice T t.c.ts.length ct] : Array Value)[o]?) := fun w' hb => ⟨hb, (K0.low hb (by omega)).c⟩
  have TAIL : ∀ (r1 : St) (X1 Y1 : Option Addr) (cx1 cy1 : Nat) (w1 : World), Below W0.heap.size W0 w1 → StAt w1 r1 X1 Y1 → Is (fullG t) r1 → StOk 9 r1 → (?G : St → Option Addr → Option Addr → Nat → Nat → World → Prop) r1 X1 Y1 cx1 cy1 w1 := ?tail
  refine wp_region_held_drew (S := (fun w' => Below (w.heap.size + 1) W0 w' ∧ (∀ o, w'.cell? ⟨w.heap.size, o, none⟩ = (#[.int .i64 t.k, .int .i64 t.sc, .bool t.c.any, .bool t.c.neg, .slice T t.c.ts.length ct] : Array Value)[o]?))) (by kernel_rfl) (HK _ (Below.drew (Below.refl _ _))) (fun hHeld => ?_)
  refine tkH 0 ?_
  try simp only [shH]
  refine rdH [1, 2] ?_
  refine AllReadyH.cons rfl (fun K hK => ?_) ?_
  · go_simp
    go_at_call 48
    refine (full_any t T ct _ hTy (hT0.below bel) (hE0'.below bel)).mono ?_
    rintro e w1 ⟨r1, X1, Y1, cx1, cy1, rfl, hR1, i1, ok1, hb1⟩
    have hB1 : Below W0.heap.size W0 w1 := (by first | exact hb1 | exact undrew hb1)
    have k1s := (K1.below hB1).c
    refine hK.out _ _ ?_ (fun hH2 => ?_)
    · exact HK _ (Below.mono hB1 (by have := HS0.out; omega))
    clear hK K hHeld
    have hHeld := hH2
    clear hH2
    try simp only [shH]
    refine rdH [2] ?_
    refine AllReadyH.cons rfl (fun K hK => ?_) AllReadyH.nil
    go_simp
    refine hK.out _ _ ?_ (fun hH2 => ?_)
    · exact HK _ (Below.mono hB1 (by have := HS0.out; omega))
    clear hK K hHeld
    have hHeld := hH2
    clear hH2
    try simp only [shH]
    exact TAIL r1 X1 Y1 cx1 cy1 w1 hB1 hR1 i1 ok1
  refine AllReadyH.cons rfl (fun K hK => ?_) AllReadyH.nil
  go_simp
  refine hK.out _ _ ?_ (fun hH2 => ?_)
  · exact HK _ (Below.drew (Below.refl _ _))
  clear hK K hHeld
  have hHeld := hH2
  clear hH2
  try simp only [shH]
  refine rdH [1] ?_
  refine AllReadyH.cons rfl (fun K hK => ?_) AllReadyH.nil
  go_simp
  go_at_call 48
  refine (full_any t T ct _ hTy (hT0.below bel) (hE0'.below bel)).mono ?_
  rintro e w1 ⟨r1, X1, Y1, cx1, cy1, rfl, hR1, i1, ok1, hb1⟩
  have hB1 : Below W0.heap.size W0 w1 := (by first | exact hb1 | exact undrew hb1)
  have k1s := (K1.below hB1).c
  refine hK.out _ _ ?_ (fun hH2 => ?_)
  · exact HK _ (Below.mono hB1 (by have := HS0.out; omega))
  clear hK K hHeld
  have hHeld := hH2
  clear hH2
  try simp only [shH]
  exact TAIL r1 X1 Y1 cx1 cy1 w1 hB1 hR1 i1 ok1
  case tail =>
    intro r1 X1 Y1 cx1 cy1 w1 hB1 hR1 i1 ok1
    have hHeld := HK w1 (Below.mono hB1 (by have := HS0.out; omega))
    refine rdH [3] ?_
    refine AllReadyH.cons rfl (fun K hK => ?_) AllReadyH.nil
    go_simp
    go_at_call 46
    refine (tidy_any s N A B ca cb _ (hS0.below hB1) os (by omega) (hE0'.below hB1)).mono ?_
    rintro e w2 ⟨r2, X2, Y2, cx2, cy2, rfl, hR2, i2, ok2, al2, hb2⟩
    clear al2
    have hB2 : Below W0.heap.size W0 w2 := hB1.trans (hb2.mono hB1.size)
    refine hK.out _ _ ?_ (fun hH2 => ?_)
    · exact HK _ (Below.mono hB2 (by have := HS0.out; omega))
    clear hK K hHeld
    have hHeld := hH2
    clear hH2
    try simp only [shH]
    refine rdH [4] ?_
    refine AllReadyH.cons rfl (fun K hK => ?_) AllReadyH.nil
    go_simp
    go_at_call 47
    refine (setMeet_any r1 r2 (fullG t) s.sg 9 N X1 Y1 X2 Y2 cx1 cy1 cx2 cy2 _ (hR1.below hb2) hR2 i1 i2 ((fullG_k t).trans hsk.symm) ok1 ok2 (by omega) (by omega) hN9 (hE0'.below hB2)).mono ?_
    rintro e w3 ⟨r, X, Y, cx, cy, rfl, hR, ir, okr, al3, hb3⟩
    clear al3
    have hB3 : Below W0.heap.size W0 w3 := hB2.trans (hb3.mono hB2.size)
    have K13 := K1.below hB3
    have c3 := K13.c
    have f3 := K13.f
    have l3 := K13.lt
    have hB4 := hB3.mono (show w.heap.size + 1 ≤ W0.heap.size by have := HS0.out; omega)
    refine hK.out _ _ ?_ (fun hH2 => ?_)
    · exact HK _ hB4
    clear hK K hHeld
    have hHeld := hH2
    clear hH2
    try simp only [shH]
    refine rdH [5] ?_
    refine AllReadyH.cons rfl (fun K hK => ?_) AllReadyH.nil
    go_simp
    refine hK.out _ _ ?_ (fun hH2 => ?_)
    · exact HK _ bel
    clear hK K hHeld
    have hHeld := hH2
    clear hH2
    try simp only [shH]
    refine dnH ?_ _
    clear hHeld
    (try simp only [Exit.then, Exit.inBlock])
    generalize hWz : (((((w3.setCell _ _).setCell _ _).setCell _ _).setCell _ _).setCell _ _).setCell _ _ = Wz
    have KS : BoxIs Wz (w.heap.size + 1) #[.int .i64 r.k, .slice X r.sp.length cx, .bool r.al, .slice Y r.ws.length cy, .int .i64 r.b, .bool r.nul] := by rw [← hWz]; exact (((((K13.set 0 _).set 1 _).set 2 _).set 3 _).set 4 _).set 5 _
    have hSz : StAt Wz r X Y := by rw [← hWz]; exact hR.free K13 (setLike _ _ _ _ _ _ _ _ _ _) six_other
    have hBz : Below (w.heap.size + 1) W0 Wz := by rw [← hWz]; exact bel
    have KT := K0.low hBz (by omega)
    have hs2 : Wz.heap[w.heap.size + 2]? = W0.heap[w.heap.size + 2]? := by rw [← hWz, six_other _ (by omega)]; exact hB3.block _ K2.lt
    have KR : BoxIs Wz (w.heap.size + 2) #[.int .i64 0, .int .i64 0, .int .i64 0, .string ⟨#[]⟩, .int .i64 0] := by obtain ⟨q, hq⟩ := K2; exact ⟨q, hs2.trans hq⟩
    have hbz : Below w.heap.size w Wz := hbw0.trans (hBz.mono (by omega))
    have hEz := HE.out.below hbz
    clear hWz hB1 hB2 hB3 hB4 hb2 hb3 HK K0 K1 K2 K13 c3 f3 l3 hT0 hS0 hE0' hR1 hR2 hR i1 i2 ok1 ok2 hBz hs2 k0 l0 k1 l1
    have hgk : ((fullG t).meet s.sg).k = t.k := fullG_k t
    have hext : ∀ n, ((fullG t).meet s.sg).P n = true → -999999999999 ≤ n ∧ n ≤ 999999999999 := fun n hn => ext_bd (fullG_ext t n (by have h : ((fullG t).P n && s.sg.P n) = true := hn; rw [Bool.and_eq_true] at h; exact h.1))
    obtain ⟨g, hg⟩ : ∃ g, (fullG t).meet s.sg = g := ⟨_, rfl⟩
    rw [hg] at ir hgk hext
    have HG := Lib.hid hg
    clear hg
    have kt := KT.c
    have ltz := KT.lt
    have hvr := KR.lt
    go_upto_region 7 with fail
    generalize hW1 : Wz.alloc _ = W1
    have hB1 : Below Wz.heap.size Wz W1 := (by rw [← hW1]; exact Below.alloc (Below.refl _ _) (Nat.le_refl _) _)
    have KV : BoxIs W1 Wz.heap.size #[.int .i64 t.k, .int .i64 0, .int .i64 0, .string ⟨#[]⟩, .int .i64 0] := (by rw [← hW1]; exact BoxIs.new (t := 30) rfl)
    have KT := KT.below hB1
    have KS := KS.below hB1
    have KR := KR.below hB1
    have hS1 := hSz.below hB1
    have hE1 := hEz.below hB1
    have hbw1 : Below w.heap.size w W1 := hbz.trans (hB1.mono hbz.size)
    obtain ⟨bv, hbv⟩ : ∃ bv, Wz.heap.size = bv := ⟨_, rfl⟩
    rw [hbv] at KV hvr
    rw [hbv]
    have hne : ¬ (bv = w.heap.size + 2) := by omega
    have hne1 : ¬ (bv = w.heap.size + 1) := by omega
    clear hW1 hB1 hbv hSz hbz hEz kt ltz
    have ct := KT.c
    have cs := KS.c
    have cr := KR.c
    have cv := KV.c
    have fr := KR.f
    have fv := KV.f
    have lt := KT.lt
    have ls := KS.lt
    have lr := KR.lt
    have lv := KV.lt
    have four : t.k = 1 ∨ t.k = 4 ∨ t.k = 2 ∨ t.k = 3 := by omega
    rcases four with h | h | h | h
    · have q1 : (t.k == 1) = true := by simp [h]
      have HH := Lib.hid h
      clear h
      go_wp2_with fail
      refine (Sp.near0_any r.sp 0 ⟨by omega, by omega⟩ X cx _ (hS1.sp.below bel) okr.wf (by have := okr.ls; omega)).mono ?_
      rintro e w3 ⟨m, rfl, hn1, hn2, hb3⟩
      have KT3 := KT.below hb3
      have KS3 := KS.below hb3
      have KR3 := KR.below hb3
      have KV3 := KV.below hb3
      have ct3 := KT3.c
      have cs3 := KS3.c
      have cr3 := KR3.c
      have cv3 := KV3.c
      have fr3 := KR3.f
      have fv3 := KV3.f
      have lt3 := KT3.lt
      have ls3 := KS3.lt
      have lr3 := KR3.lt
      have lv3 := KV3.lt
      have hbw3 : Below w.heap.size w w3 := hbw1.trans (hb3.mono hbw1.size)
      clear hb3 ct cs cr cv fr fv lt ls lr lv KT KS KR KV
      rcases m with _ | n
      · have hno := none_num ir (by rw [hgk, HH.out]; rfl) (hn2 rfl)
        have hd0 : decIn 0 t.sc = true := decide_eq_true ⟨hSc.1, hSc.2, by omega, by omega⟩
        go_wp2_with fail
        refine (make_any 0 t.sc _ (by omega) (by omega) (by omega) (by omega)).mono ?_
        rintro e w4 ⟨rfl, hb4⟩
        rw [makeRes_yes hd0]
        clear hd0 hn1 hn2 ct3 cs3 cr3 cv3 fr3 fv3 lt3 ls3 lr3 lv3
        have KT4 := KT3.below hb4
        have KS4 := KS3.below hb4
        have KR4 := KR3.below hb4
        have KV4 := KV3.below hb4
        have ct4 := KT4.c
        have cs4 := KS4.c
        have cr4 := KR4.c
        have cv4 := KV4.c
        have fr4 := KR4.f
        have fv4 := KV4.f
        have lt4 := KT4.lt
        have ls4 := KS4.lt
        have lr4 := KR4.lt
        have lv4 := KV4.lt
        have hbw4 : Below w.heap.size w w4 := hbw3.trans (hb4.mono hbw3.size)
        clear hb4 hbw3
        cases hnul : r.nul
        · rw [hnul] at cs4
          go_wp2_with fail
          refine bodyPost_ret (v := .tuple #[.agg #[.int .i64 0, .int .i64 0, .int .i64 0, .string ⟨#[]⟩, .int .i64 0], .int .i64 16]) (by simp [results, Tryz.results26, go_sem, *]) rfl ⟨Vl.zero, 16, rfl, by rw [HG.out]; exact (pick_none hno).2 (by rw [← ir.nul]; exact hnul), bel⟩
        · rw [hnul] at cs4
          go_wp2_with fail
          refine bodyPost_ret (v := .tuple #[.agg #[.int .i64 0, .int .i64 0, .int .i64 0, .string ⟨#[]⟩, .int .i64 0], .int .i64 0]) (by simp [results, Tryz.results26, go_sem, *]) rfl ⟨Vl.zero, 0, rfl, by rw [HG.out]; exact (pick_none hno).1 (by rw [← ir.nul]; exact hnul), bel⟩
      · have hbest := near_best ir (hn1 n rfl)
        have hbd := hext n hbest.1
        have hd0 : decIn n t.sc = true := decide_eq_true ⟨hSc.1, hSc.2, hbd.1, hbd.2⟩
        have HPK : Hid (PickOf t g ⟨t.k, mkN n t.sc, mkS n t.sc, ⟨#[]⟩, 0⟩ 0) := Lib.hid (.inl ⟨rfl, .inl ⟨HH.out, n, hbest, by rw [HH.out]⟩⟩)
        clear hbest
        go_wp2_with fail
        refine (make_any n t.sc _ (by omega) (by omega) (by omega) (by omega)).mono ?_
        rintro e w4 ⟨rfl, hb4⟩
        rw [makeRes_yes hd0]
        clear hd0 hn1 hn2 ct3 cs3 cr3 cv3 fr3 fv3 lt3 ls3 lr3 lv3 hbd
        generalize mkN n t.sc = dn at *
        generalize mkS n t.sc = ds at *
        have KT4 := KT3.below hb4
        have KS4 := KS3.below hb4
        have KR4 := KR3.below hb4
        have KV4 := KV3.below hb4
        have ct4 := KT4.c
        have cs4 := KS4.c
        have cr4 := KR4.c
        have cv4 := KV4.c
        have fr4 := KR4.f
        have fv4 := KV4.f
        have lt4 := KT4.lt
        have ls4 := KS4.lt
        have lr4 := KR4.lt
        have lv4 := KV4.lt
        have hbw4 : Below w.heap.size w w4 := hbw3.trans (hb4.mono hbw3.size)
        clear hb4 hbw3
        go_wp2_with fail
        refine bodyPost_ret (v := .tuple #[.agg #[.int .i64 t.k, .int .i64 dn, .int .i64 ds, .string ⟨#[]⟩, .int .i64 0], .int .i64 0]) (by simp [results, Tryz.results26, go_sem, *]) rfl ⟨⟨t.k, dn, ds, ⟨#[]⟩, 0⟩, 0, rfl, by rw [HG.out]; exact HPK.out, bel⟩
    · have q1 : (t.k == 1) = false := by simp [h]
      have q4 : (t.k == 4) = true := by simp [h]
      have HH := Lib.hid h
      clear h
      go_wp2_with fail
      refine (Sp.near0_any r.sp 730119 ⟨by omega, by omega⟩ X cx _ (hS1.sp.below bel) okr.wf (by have := okr.ls; omega)).mono ?_
      rintro e w3 ⟨m, rfl, hn1, hn2, hb3⟩
      have KT3 := KT.below hb3
      have KS3 := KS.below hb3
      have KR3 := KR.below hb3
      have KV3 := KV.below hb3
      have ct3 := KT3.c
      have cs3 := KS3.c
      have cr3 := KR3.c
      have cv3 := KV3.c
      have fr3 := KR3.f
      have fv3 := KV3.f
      have lt3 := KT3.lt
      have ls3 := KS3.lt
      have lr3 := KR3.lt
      have lv3 := KV3.lt
      have hbw3 : Below w.heap.size w w3 := hbw1.trans (hb3.mono hbw1.size)
      clear hb3 ct cs cr cv fr fv lt ls lr lv KT KS KR KV
      rcases m with _ | n
      · have hno := none_num ir (by rw [hgk, HH.out]; rfl) (hn2 rfl)
        clear hn1 hn2
        cases hnul : r.nul
        · rw [hnul] at cs3
          go_wp2_with fail
          refine bodyPost_ret (v := .tuple #[.agg #[.int .i64 0, .int .i64 0, .int .i64 0, .string ⟨#[]⟩, .int .i64 0], .int .i64 16]) (by simp [results, Tryz.results26, go_sem, *]) rfl ⟨Vl.zero, 16, rfl, by rw [HG.out]; exact (pick_none hno).2 (by rw [← ir.nul]; exact hnul), bel⟩
        · rw [hnul] at cs3
          go_wp2_with fail
          refine bodyPost_ret (v := .tuple #[.agg #[.int .i64 0, .int .i64 0, .int .i64 0, .string ⟨#[]⟩, .int .i64 0], .int .i64 0]) (by simp [results, Tryz.results26, go_sem, *]) rfl ⟨Vl.zero, 0, rfl, by rw [HG.out]; exact (pick_none hno).1 (by rw [← ir.nul]; exact hnul), bel⟩
      · have HPK : Hid (PickOf t g ⟨t.k, 0, 0, ⟨#[]⟩, n⟩ 0) := Lib.hid (.inl ⟨rfl, .inr (.inl ⟨HH.out, n, near_best ir (hn1 n rfl), by rw [HH.out]⟩)⟩)
        clear hn1 hn2
        go_wp2_with fail
        refine bodyPost_ret (v := .tuple #[.agg #[.int .i64 t.k, .int .i64 0, .int .i64 0, .string ⟨#[]⟩, .int .i64 n], .int .i64 0]) (by simp [results, Tryz.results26, go_sem, *]) rfl ⟨⟨t.k, 0, 0, ⟨#[]⟩, n⟩, 0, rfl, by rw [HG.out]; exact HPK.out, bel⟩
    · have q1 : (t.k == 1) = false := by simp [h]
      have q4 : (t.k == 4) = false := by simp [h]
      have q2 : (t.k == 2) = true := by simp [h]
      have HH := Lib.hid h
      clear h
      go_wp2_with fail
      refine (Wd.pick_any r.al Y r.ws cy _ (hE1.below bel) (hS1.ws.below bel) okr.tx (by have := okr.lw; omega)).mono ?_
      rintro e w3 ⟨u, n, rfl, hpk, hb3⟩
      have KT3 := KT.below hb3
      have KS3 := KS.below hb3
      have KR3 := KR.below hb3
      have KV3 := KV.below hb3
      have ct3 := KT3.c
      have cs3 := KS3.c
      have cr3 := KR3.c
      have cv3 := KV3.c
      have fr3 := KR3.f
      have fv3 := KV3.f
      have lt3 := KT3.lt
      have ls3 := KS3.lt
      have lr3 := KR3.lt
      have lv3 := KV3.lt
      have hbw3 : Below w.heap.size w w3 := hbw1.trans (hb3.mono hbw1.size)
      clear hb3 ct cs cr cv fr fv lt ls lr lv KT KS KR KV
      rcases txt_pick ir (by rw [hgk]; exact HH.out) hpk with ⟨rfl, hq⟩ | ⟨rfl, hno⟩
      · have HPK : Hid (PickOf t g ⟨t.k, 0, 0, bs u, 0⟩ 0) := Lib.hid (.inl ⟨rfl, .inr (.inr (.inl ⟨HH.out, u, hq, by rw [HH.out]⟩))⟩)
        have hes : encStr u = .string (bs u) := rfl
        rw [hes]
        generalize bs u = bu at *
        clear hpk hq hes
        go_wp2_with fail
        refine bodyPost_ret (v := .tuple #[.agg #[.int .i64 t.k, .int .i64 0, .int .i64 0, .string bu, .int .i64 0], .int .i64 0]) (by simp [results, Tryz.results26, go_sem, *]) rfl ⟨⟨t.k, 0, 0, bu, 0⟩, 0, rfl, by rw [HG.out]; exact HPK.out, bel⟩
      · have hes : encStr u = .string (bs u) := rfl
        rw [hes]
        generalize bs u = bu at *
        clear hpk hes
        cases hnul : r.nul
        · rw [hnul] at cs3
          go_wp2_with fail
          refine bodyPost_ret (v := .tuple #[.agg #[.int .i64 0, .int .i64 0, .int .i64 0, .string ⟨#[]⟩, .int .i64 0], .int .i64 16]) (by simp [results, Tryz.results26, go_sem, *]) rfl ⟨Vl.zero, 16, rfl, by rw [HG.out]; exact (pick_none hno).2 (by rw [← ir.nul]; exact hnul), bel⟩
        · rw [hnul] at cs3
          go_wp2_with fail
          refine bodyPost_ret (v := .tuple #[.agg #[.int .i64 0, .int .i64 0, .int .i64 0, .string ⟨#[]⟩, .int .i64 0], .int .i64 0]) (by simp [results, Tryz.results26, go_sem, *]) rfl ⟨Vl.zero, 0, rfl, by rw [HG.out]; exact (pick_none hno).1 (by rw [← ir.nul]; exact hnul), bel⟩
    · have q1 : (t.k == 1) = false := by simp [h]
      have q4 : (t.k == 4) = false := by simp [h]
      have q2 : (t.k == 2) = false := by simp [h]
      have hrb := ir.b
      have HH := Lib.hid h
      clear h
      cases hgf : g.f <;> cases hgt : g.t
      · rw [hgf, hgt] at hrb
        have hrb : r.b = 0 := hrb
        rw [hrb] at cs
        have hno : noneV g := ⟨ir.cut.1 (by rw [hgk, HH.out]; rfl), ir.cut.2.1 (by rw [hgk, HH.out]; omega), hgf, hgt⟩
        clear hrb hgf hgt
        cases hnul : r.nul
        · rw [hnul] at cs
          go_wp2_with fail
          refine bodyPost_ret (v := .tuple #[.agg #[.int .i64 0, .int .i64 0, .int .i64 0, .string ⟨#[]⟩, .int .i64 0], .int .i64 16]) (by simp [results, Tryz.results26, go_sem, *]) rfl ⟨Vl.zero, 16, rfl, by rw [HG.out]; exact (pick_none hno).2 (by rw [← ir.nul]; exact hnul), bel⟩
        · rw [hnul] at cs
          go_wp2_with fail
          refine bodyPost_ret (v := .tuple #[.agg #[.int .i64 0, .int .i64 0, .int .i64 0, .string ⟨#[]⟩, .int .i64 0], .int .i64 0]) (by simp [results, Tryz.results26, go_sem, *]) rfl ⟨Vl.zero, 0, rfl, by rw [HG.out]; exact (pick_none hno).1 (by rw [← ir.nul]; exact hnul), bel⟩
      · rw [hgf, hgt] at hrb
        have hrb : r.b = 2 := hrb
        rw [hrb] at cs
        have HPK : Hid (PickOf t g ⟨t.k, 0, 0, ⟨#[]⟩, 1⟩ 0) := Lib.hid (.inl ⟨rfl, .inr (.inr (.inr ⟨HH.out, .inr ⟨hgf, hgt, by rw [HH.out]⟩⟩))⟩)
        clear hrb hgf hgt
        go_wp2_with fail
        refine bodyPost_ret (v := .tuple #[.agg #[.int .i64 t.k, .int .i64 0, .int .i64 0, .string ⟨#[]⟩, .int .i64 1], .int .i64 0]) (by simp [results, Tryz.results26, go_sem, *]) rfl ⟨⟨t.k, 0, 0, ⟨#[]⟩, 1⟩, 0, rfl, by rw [HG.out]; exact HPK.out, bel⟩
      all_goals
        have HPK : Hid (PickOf t g ⟨t.k, 0, 0, ⟨#[]⟩, 0⟩ 0) := Lib.hid (.inl ⟨rfl, .inr (.inr (.inr ⟨HH.out, .inl ⟨hgf, by rw [HH.out]⟩⟩))⟩)
        rw [hgf, hgt] at hrb
        have hrb' : r.b = 1 ∨ r.b = 3 := by first | exact .inl hrb | exact .inr hrb
        clear hrb hgf hgt
        rcases hrb' with hrb | hrb
        all_goals
          rw [hrb] at cs
          clear hrb
          go_wp2_with fail
          refine bodyPost_ret (v := .tuple #[.agg #[.int .i64 t.k, .int .i64 0, .int .i64 0, .string ⟨#[]⟩, .int .i64 0], .int .i64 0]) (by simp [results, Tryz.results26, go_sem, *]) rfl ⟨⟨t.k, 0, 0, ⟨#[]⟩, 0⟩, 0, rfl, by rw [HG.out]; exact HPK.out, bel⟩
end Go.Proofs.YtankkadnhdfpfaaGreatDoor

/- soffit/sets.Of: walked. -/
set_option linter.unusedSimpArgs false
set_option linter.unusedVariables false
namespace Go.Proofs.YtankkadnhdfpfaaGreatDoor
open Go.RowKit Sp Wd

set_option maxRecDepth 100000 in
set_option maxHeartbeats 3200000 in
theorem setOf_no (t : Ty) (c : Cel) (T A : Option Addr) (ct ca : Nat) (w : World) (ht : (tySnd t && uSndB c) = false) (hT : TyAt w t T) (hA : RdL w 13 A (c.ts.map Tst.cells)) (hw : ∀ x ∈ c.ts, x.wf) (hn : c.ts.length ≤ 9223372036854775807) (hE : Env w) :
    Calls Tryz.prog 13 #[.agg #[.int .i64 t.k, .int .i64 t.sc, .bool t.c.any, .bool t.c.neg, .slice T t.c.ts.length ct], .agg #[.bool c.any, .bool c.neg, .slice A c.ts.length ca]] w fun e w' => e = .returned (.tuple #[.agg #[.int .i64 0, .slice none 0 0, .bool false, .slice none 0 0, .int .i64 0, .bool false], .int .i64 2]) ∧ Below w.heap.size w w' := by
  have HT := Lib.hid hT
  have HA := Lib.hid hA
  have HW := Lib.hid hw
  have HE := Lib.hid hE
  have HN := Lib.hid hn
  clear hT hA hw hE hn
  cases h1 : tySnd t
  · clear ht
    go_enter Tryz.func13, Tryz.ntmps13
    go_wp2_with fail
    have K2 : BoxIs (((w.alloc (.cells #[.int .i64 t.k, .int .i64 t.sc, .bool t.c.any, .bool t.c.neg, .slice T t.c.ts.length ct] 26)).alloc (.cells #[.bool c.any, .bool c.neg, .slice A c.ts.length ca] 24)).alloc (.cells #[.int .i64 0, .slice none 0 0, .bool false, .slice none 0 0, .int .i64 0, .bool false] 36)) (w.heap.size + 2) #[.int .i64 0, .slice none 0 0, .bool false, .slice none 0 0, .int .i64 0, .bool false] := BoxIs.new (by simp)
    refine (setSound_any t T ct _ (HT.out.below bel) (HE.out.below bel)).mono ?_
    rintro e w1 ⟨rfl, hb1⟩
    rw [h1]
    have K2 := K2.below hb1
    have z1 := K2.c
    have f1 := K2.f
    have l1 := K2.lt
    go_wp2_with fail
    refine bodyPost_ret (v := .tuple #[.agg #[.int .i64 0, .slice none 0 0, .bool false, .slice none 0 0, .int .i64 0, .bool false], .int .i64 2]) (by simp [results, Tryz.results13, go_sem, *]) rfl ⟨rfl, bel⟩
  · rw [h1, Bool.true_and] at ht
    go_enter Tryz.func13, Tryz.ntmps13
    go_wp2_with fail
    have K1 : BoxIs (((w.alloc (.cells #[.int .i64 t.k, .int .i64 t.sc, .bool t.c.any, .bool t.c.neg, .slice T t.c.ts.length ct] 26)).alloc (.cells #[.bool c.any, .bool c.neg, .slice A c.ts.length ca] 24)).alloc (.cells #[.int .i64 0, .slice none 0 0, .bool false, .slice none 0 0, .int .i64 0, .bool false] 36)) (w.heap.size + 1) #[.bool c.any, .bool c.neg, .slice A c.ts.length ca] := (BoxIs.new (by simp)).alloc _
    have K2 : BoxIs (((w.alloc (.cells #[.int .i64 t.k, .int .i64 t.sc, .bool t.c.any, .bool t.c.neg, .slice T t.c.ts.length ct] 26)).alloc (.cells #[.bool c.any, .bool c.neg, .slice A c.ts.length ca] 24)).alloc (.cells #[.int .i64 0, .slice none 0 0, .bool false, .slice none 0 0, .int .i64 0, .bool false] 36)) (w.heap.size + 2) #[.int .i64 0, .slice none 0 0, .bool false, .slice none 0 0, .int .i64 0, .bool false] := BoxIs.new (by simp)
    refine (setSound_any t T ct _ (HT.out.below bel) (HE.out.below bel)).mono ?_
    rintro e w1 ⟨rfl, hb1⟩
    rw [h1]
    have kc := (K1.below hb1).c
    have lc := (K1.below hb1).lt
    have K2 := K2.below hb1
    have hbw : Below w.heap.size w w1 := bel
    clear hb1 h1 K1
    go_wp2_with fail
    refine (uSound_any c A ca _ (HA.out.below bel) HW.out HN.out (HE.out.below bel)).mono ?_
    rintro e w2 ⟨rfl, hb2⟩
    rw [ht]
    have K2 := K2.below hb2
    have z1 := K2.c
    have f1 := K2.f
    have l1 := K2.lt
    have hbw2 : Below w.heap.size w w2 := hbw.trans (hb2.mono hbw.size)
    clear hb2 hbw
    go_wp2_with fail
    refine bodyPost_ret (v := .tuple #[.agg #[.int .i64 0, .slice none 0 0, .bool false, .slice none 0 0, .int .i64 0, .bool false], .int .i64 2]) (by simp [results, Tryz.results13, go_sem, *]) rfl ⟨rfl, bel⟩
set_option maxRecDepth 100000 in
set_option maxHeartbeats 6400000 in
theorem setOf_any (t : Ty) (c : Cel) (T A : Option Addr) (ct ca : Nat) (w : World) (hTy : tySnd t = true) (hu : uSndB c = true) (hT : TyAt w t T) (hA : RdL w 13 A (c.ts.map Tst.cells)) (hw : ∀ x ∈ c.ts, x.wf) (hn : c.ts.length ≤ 9223372036854775807) (hE : Env w) :
    Calls Tryz.prog 13 #[.agg #[.int .i64 t.k, .int .i64 t.sc, .bool t.c.any, .bool t.c.neg, .slice T t.c.ts.length ct], .agg #[.bool c.any, .bool c.neg, .slice A c.ts.length ca]] w fun e w' => ∃ (r : St) (X Y : Option Addr) (cx cy : Nat), e = .returned (.tuple #[.agg #[.int .i64 r.k, .slice X r.sp.length cx, .bool r.al, .slice Y r.ws.length cy, .int .i64 r.b, .bool r.nul], .int .i64 0]) ∧ StAt w' r X Y ∧ Is ((fullG t).meet (holdsG t c)) r ∧ StOk 18 r ∧ Below w.heap.size w w' := by
  obtain ⟨hKd, hSc, -, -⟩ := ty_of hTy
  have HT := Lib.hid hT
  have HA := Lib.hid hA
  have HE := Lib.hid hE
  have HN := Lib.hid hn
  clear hT hA hE hn
  go_enter Tryz.func13, Tryz.ntmps13
  go_wp2_with fail
  have K0 : BoxIs (((w.alloc (.cells #[.int .i64 t.k, .int .i64 t.sc, .bool t.c.any, .bool t.c.neg, .slice T t.c.ts.length ct] 26)).alloc (.cells #[.bool c.any, .bool c.neg, .slice A c.ts.length ca] 24)).alloc (.cells #[.int .i64 0, .slice none 0 0, .bool false, .slice none 0 0, .int .i64 0, .bool false] 36)) w.heap.size #[.int .i64 t.k, .int .i64 t.sc, .bool t.c.any, .bool t.c.neg, .slice T t.c.ts.length ct] := ((BoxIs.new rfl).alloc _).alloc _
  have K1 : BoxIs (((w.alloc (.cells #[.int .i64 t.k, .int .i64 t.sc, .bool t.c.any, .bool t.c.neg, .slice T t.c.ts.length ct] 26)).alloc (.cells #[.bool c.any, .bool c.neg, .slice A c.ts.length ca] 24)).alloc (.cells #[.int .i64 0, .slice none 0 0, .bool false, .slice none 0 0, .int .i64 0, .bool false] 36)) (w.heap.size + 1) #[.bool c.any, .bool c.neg, .slice A c.ts.length ca] := (BoxIs.new (by simp)).alloc _
  have K2 : BoxIs (((w.alloc (.cells #[.int .i64 t.k, .int .i64 t.sc, .bool t.c.any, .bool t.c.neg, .slice T t.c.ts.length ct] 26)).alloc (.cells #[.bool c.any, .bool c.neg, .slice A c.ts.length ca] 24)).alloc (.cells #[.int .i64 0, .slice none 0 0, .bool false, .slice none 0 0, .int .i64 0, .bool false] 36)) (w.heap.size + 2) #[.int .i64 0, .slice none 0 0, .bool false, .slice none 0 0, .int .i64 0, .bool false] := BoxIs.new (by simp)
  refine (setSound_any t T ct _ (HT.out.below bel) (HE.out.below bel)).mono ?_
  rintro e w1 ⟨rfl, hb1⟩
  rw [hTy]
  have K0 := K0.below hb1
  have K1 := K1.below hb1
  have K2 := K2.below hb1
  have kc := K1.c
  have lc := K1.lt
  have hbw : Below w.heap.size w w1 := bel
  clear hb1
  go_wp2_with fail
  refine (uSound_any c A ca _ (HA.out.below bel) hw HN.out (HE.out.below bel)).mono ?_
  rintro e W0 ⟨rfl, hb2⟩
  rw [hu]
  have K0 := K0.below hb2
  have K1 := K1.below hb2
  have K2 := K2.below hb2
  have hbw0 : Below w.heap.size w W0 := hbw.trans (hb2.mono hbw.size)
  have HS0 : Hid (w.heap.size + 3 ≤ W0.heap.size) := Lib.hid (by have := K2.lt; omega)
  clear hb2 hbw kc lc
  go_wp2_with fail
  have hT0 := HT.out.below hbw0
  have hA0 := HA.out.below hbw0
  have hE0' := HE.out.below hbw0
  have HK : ∀ w', Below (w.heap.size + 2) W0 w' → Below (w.heap.size + 2) W0 w' ∧ (∀ o, w'.cell? ⟨w.heap.size, o, none⟩ = (#[.int .i64 t.k, .int .i64 t.sc, .bool t.c.any, .bool t.c.neg, .slice T t.c.ts.length ct] : Array Value)[o]?) ∧ (∀ o, w'.cell? ⟨w.heap.size + 1, o, none⟩ = (#[.bool c.any, .bool c.neg, .slice A c.ts.length ca] : Array Value)[o]?) := fun w' hb => ⟨hb, (K0.low hb (by omega)).c, (K1.low hb (by omega)).c⟩
  refine wp_region_held_drew (S := (fun w' => Below (w.heap.size + 2) W0 w' ∧ (∀ o, w'.cell? ⟨w.heap.size, o, none⟩ = (#[.int .i64 t.k, .int .i64 t.sc, .bool t.c.any, .bool t.c.neg, .slice T t.c.ts.length ct] : Array Value)[o]?) ∧ (∀ o, w'.cell? ⟨w.heap.size + 1, o, none⟩ = (#[.bool c.any, .bool c.neg, .slice A c.ts.length ca] : Array Value)[o]?))) (by kernel_rfl) (HK _ (Below.drew (Below.refl _ _))) (fun hHeld => ?_)
  refine tkH 0 ?_
  try simp only [shH]
  refine tkH 2 ?_
  try simp only [shH]
  refine tkH 3 ?_
  try simp only [shH]
  refine rdH [1] ?_
  refine AllReadyH.cons rfl (fun K hK => ?_) AllReadyH.nil
  go_simp
  go_at_call 48
  refine (full_any t T ct _ hTy (hT0.below bel) (hE0'.below bel)).mono ?_
  rintro e w1 ⟨r1, X1, Y1, cx1, cy1, rfl, hR1, i1, ok1, hb1⟩
  have hB1 : Below W0.heap.size W0 w1 := (by first | exact hb1 | exact undrew hb1)
  refine hK.out _ _ ?_ (fun hH2 => ?_)
  · exact HK _ (Below.mono hB1 (by have := HS0.out; omega))
  clear hK K hHeld
  have hHeld := hH2
  clear hH2
  try simp only [shH]
  refine rdH [4] ?_
  refine AllReadyH.cons rfl (fun K hK => ?_) AllReadyH.nil
  go_simp
  go_at_call 49
  refine (setHolds_any t c T A ct ca _ hKd hSc hu ((hA0.below hB1).below bel) hw (hE0'.below (hB1.trans (Below.mono bel hB1.size)))).mono ?_
  rintro e w2 ⟨r2, X2, Y2, cx2, cy2, rfl, hR2, i2, ok2, hb2⟩
  have hB2 : Below W0.heap.size W0 w2 := hB1.trans (hb2.mono hB1.size)
  refine hK.out _ _ ?_ (fun hH2 => ?_)
  · exact HK _ (Below.mono hB2 (by have := HS0.out; omega))
  clear hK K hHeld
  have hHeld := hH2
  clear hH2
  try simp only [shH]
  refine rdH [5] ?_
  refine AllReadyH.cons rfl (fun K hK => ?_) AllReadyH.nil
  go_simp
  go_at_call 47
  refine (setMeet_any r1 r2 (fullG t) (holdsG t c) 9 9 X1 Y1 X2 Y2 cx1 cy1 cx2 cy2 _ (hR1.below hb2) hR2 i1 i2 ((fullG_k t).trans (holdsG_k t c).symm) ok1 ok2 (by omega) (by omega) (by omega) (hE0'.below hB2)).mono ?_
  rintro e w3 ⟨r3, X3, Y3, cx3, cy3, rfl, hR3, i3, ok3, al3, hb3⟩
  have hB3 : Below W0.heap.size W0 w3 := hB2.trans (hb3.mono hB2.size)
  clear al3
  refine hK.out _ _ ?_ (fun hH2 => ?_)
  · exact HK _ (Below.mono hB3 (by have := HS0.out; omega))
  clear hK K hHeld
  have hHeld := hH2
  clear hH2
  try simp only [shH]
  refine rdH [6] ?_
  refine AllReadyH.cons rfl (fun K hK => ?_) AllReadyH.nil
  go_simp
  go_at_call 46
  refine (tidy_any r3 (9 + 9) X3 Y3 cx3 cy3 _ hR3 ok3 (by omega) (hE0'.below hB3)).mono ?_
  rintro e w4 ⟨r, X, Y, cx, cy, rfl, hR, ir, okr, alr, hb4⟩
  have hB4 : Below W0.heap.size W0 w4 := hB3.trans (hb4.mono hB3.size)
  have hB5 := hB4.mono (show w.heap.size + 2 ≤ W0.heap.size by have := HS0.out; omega)
  have K24 := K2.below hB4
  clear alr
  have c4 := K24.c
  have f4 := K24.f
  have l4 := K24.lt
  refine hK.out _ _ ?_ (fun hH2 => ?_)
  · exact HK _ (Below.mono hB4 (by have := HS0.out; omega))
  clear hK K hHeld
  have hHeld := hH2
  clear hH2
  try simp only [shH]
  refine rdH [7] ?_
  refine AllReadyH.cons rfl (fun K hK => ?_) AllReadyH.nil
  go_simp
  refine hK.out _ _ ?_ (fun hH2 => ?_)
  · exact HK _ bel
  clear hK K hHeld
  have hHeld := hH2
  clear hH2
  try simp only [shH]
  refine tkH 8 ?_
  try simp only [shH]
  refine dnH ?_ _
  clear hHeld
  (try simp only [Exit.then, Exit.inBlock])
  have hbw4 : Below w.heap.size w w4 := hbw0.trans (hB4.mono hbw0.size)
  rw [i3.sg_eq (by show 1 ≤ (fullG t).k ∧ (fullG t).k ≤ 4; rw [fullG_k]; exact hKd)] at ir
  clear hB1 hB2 hB3 hB4 hB5 hb1 hb2 hb3 hb4 HK K0 K1 hT0 hA0 hE0' hR1 hR2 hR3 i1 i2 i3 ok1 ok2 ok3
  go_wp2_with fail
  refine bodyPost_ret (v := .tuple #[.agg #[.int .i64 r.k, .slice X r.sp.length cx, .bool r.al, .slice Y r.ws.length cy, .int .i64 r.b, .bool r.nul], .int .i64 0]) (by simp [results, Tryz.results13, go_sem, *]) rfl ⟨r, X, Y, cx, cy, rfl, hR.free K24 (setLike _ _ _ _ _ _ _ _ _ _) six_other, ir, okr, bel⟩
end Go.Proofs.YtankkadnhdfpfaaGreatDoor
