import Derived.Test.YtankkadnhdfpfaaGreatDoorPk34
/- soffit/sets.tidy, once more: the lists that it gives lie in memory of the call's own. -/
set_option linter.unusedSimpArgs false
set_option linter.unusedVariables false
namespace Go.Proofs.YtankkadnhdfpfaaGreatDoor
open Go.RowKit Sp Wd

def FrSt (b : Nat) (r : St) (C D : Option Addr) : Prop := (∀ p, C = some p → r.sp = [] ∨ b ≤ p.block) ∧ (∀ p, D = some p → r.ws = [] ∨ b ≤ p.block)
theorem FrSt.mono {a b : Nat} {r : St} {C D : Option Addr} (h : FrSt b r C D) (ha : a ≤ b) : FrSt a r C D := ⟨fun p hp => (h.1 p hp).imp id (fun h => Nat.le_trans ha h), fun p hp => (h.2 p hp).imp id (fun h => Nat.le_trans ha h)⟩
theorem rd_grown {α : Type} {w w' : World} {sz : Nat} {A : Option Addr} {f : α → List Value} {l : List α} {k : Option Nat} (h : RdL w sz A (l.map f)) (hf : ∀ x, 0 < (f x).length) (hg : w.grownBy w' k) (hA : ∀ p, A = some p → l = [] ∨ k ≠ some p.block) : RdL w' sz A (l.map f) := by
  cases l with
  | nil => exact RdL.nil_ _ _ _
  | cons x r =>
    refine h.of_block (fun p hp => ?_)
    rcases hA p hp with h1 | h1
    · cases h1
    · obtain ⟨b, off, e, hx⟩ := h 0 (f x) rfl
      have hb : p.block = b := by rw [hp] at e; cases e; rfl
      have h2 := hx.get 0 (v := (f x)[0]'(hf x)) (List.getElem?_eq_getElem (hf x))
      have h3 := cell_lt h2
      exact hg.block _ (by rw [hb]; exact h3) (fun e => h1 e.symm)
theorem StAt.grown {w w' : World} {r : St} {X Y : Option Addr} {k : Option Nat} (h : StAt w r X Y) (hg : w.grownBy w' k) (hX : ∀ p, X = some p → r.sp = [] ∨ k ≠ some p.block) (hY : ∀ p, Y = some p → r.ws = [] ∨ k ≠ some p.block) : StAt w' r X Y :=
  ⟨rd_grown h.sp (fun x => by simp [spC]) hg hX, rd_grown h.ws (fun x => by simp [tC]) hg hY⟩
set_option maxRecDepth 100000 in
set_option maxHeartbeats 3200000 in
theorem tidyF_any (s : St) (N : Nat) (A B : Option Addr) (ca cb : Nat) (w : World) (hS : StAt w s A B) (hO : StOk N s) (hN : N ≤ 8000000000000) (hE : Env w) :
    Calls Tryz.prog 46 #[.agg #[.int .i64 s.k, .slice A s.sp.length ca, .bool s.al, .slice B s.ws.length cb, .int .i64 s.b, .bool s.nul]] w fun e w' => ∃ (r : St) (C D : Option Addr) (cc cd : Nat), e = .returned (.agg #[.int .i64 r.k, .slice C r.sp.length cc, .bool r.al, .slice D r.ws.length cd, .int .i64 r.b, .bool r.nul]) ∧ StAt w' r C D ∧ Is s.sg r ∧ StOk N r ∧ r.al = (s.k == 2 && s.al) ∧ FrSt w.heap.size r C D ∧ Below w.heap.size w w' := by
  have HS := Lib.hid hS
  have HO := Lib.hid hO
  clear hS hO
  have five : s.k = 1 ∨ s.k = 4 ∨ s.k = 2 ∨ s.k = 3 ∨ ¬ (1 ≤ s.k ∧ s.k ≤ 4) := by omega
  rcases five with hk | hk | hk | hk | hk
  · have HAL : Hid (false = (s.k == 2 && s.al)) := Lib.hid (by rw [show (s.k == 2) = false by simp; omega]; rfl)
    have HK : Hid (numK s.k = true) := by show _ = _; rw [hk]; rfl
    have e1 : (s.k == 1) = true := by simp [hk]
    clear hk
    go_enter Tryz.func46, Tryz.ntmps46
    go_wp2_with fail
    refine (Sp.join_any s.sp A ca _ (HS.out.sp.below bel) HO.out.wf (by have := HO.out.ls; omega)).mono ?_
    rintro e w1 ⟨R, C, cc, rfl, hR, hJ, hcc, hlow, hb1⟩
    have hz1 := hb1.size
    try simp at hz1
    obtain ⟨q1_0, l1_0, r1_0⟩ := aft hb1 (w.heap.size)
    obtain ⟨q1_1, l1_1, r1_1⟩ := aft hb1 (w.heap.size + 1)
    obtain ⟨q1_2, l1_2, r1_2⟩ := aft hb1 (w.heap.size + 2)
    have HI := Lib.hid (tidy_num (s := s) HK.out hJ)
    have HR := Lib.hid hR
    have HJ := Lib.hid hJ
    have HLOW : Hid (∀ p, C = some p → w.heap.size + 2 < p.block) := Lib.hid (fun p hp => by have := (hlow p hp).1; simp at this; omega)
    clear hR hJ hlow
    go_wp2_with fail
    refine bodyPost_ret (v := .agg #[.int .i64 s.k, .slice C R.length cc, .bool false, .slice none 0 0, .int .i64 0, .bool s.nul]) (by simp [results, Tryz.results46, go_sem, *]) rfl ⟨_, C, none, cc, 0, rfl, ⟨?_, RdL.nil_ _ _ _⟩, HI.out, HI.out.ok (Nat.le_trans HJ.out.len HO.out.ls) (by simp), HAL.out, ⟨fun p hp => .inr (by have := HLOW.out p hp; omega), fun p hp => (by cases hp)⟩, bel⟩
    repeat (refine rd_set ?_ (fun p hp => by have := HLOW.out p hp; omega) _ _)
    exact HR.out
  · have HAL : Hid (false = (s.k == 2 && s.al)) := Lib.hid (by rw [show (s.k == 2) = false by simp; omega]; rfl)
    have HK : Hid (numK s.k = true) := by show _ = _; rw [hk]; rfl
    have e1 : (s.k == 1) = false := by simp [hk]
    have e4 : (s.k == 4) = true := by simp [hk]
    clear hk
    go_enter Tryz.func46, Tryz.ntmps46
    go_wp2_with fail
    refine (Sp.join_any s.sp A ca _ (HS.out.sp.below bel) HO.out.wf (by have := HO.out.ls; omega)).mono ?_
    rintro e w1 ⟨R, C, cc, rfl, hR, hJ, hcc, hlow, hb1⟩
    have hz1 := hb1.size
    try simp at hz1
    obtain ⟨q1_0, l1_0, r1_0⟩ := aft hb1 (w.heap.size)
    obtain ⟨q1_1, l1_1, r1_1⟩ := aft hb1 (w.heap.size + 1)
    obtain ⟨q1_2, l1_2, r1_2⟩ := aft hb1 (w.heap.size + 2)
    have HI := Lib.hid (tidy_num (s := s) HK.out hJ)
    have HR := Lib.hid hR
    have HJ := Lib.hid hJ
    have HLOW : Hid (∀ p, C = some p → w.heap.size + 2 < p.block) := Lib.hid (fun p hp => by have := (hlow p hp).1; simp at this; omega)
    clear hR hJ hlow
    go_wp2_with fail
    refine bodyPost_ret (v := .agg #[.int .i64 s.k, .slice C R.length cc, .bool false, .slice none 0 0, .int .i64 0, .bool s.nul]) (by simp [results, Tryz.results46, go_sem, *]) rfl ⟨_, C, none, cc, 0, rfl, ⟨?_, RdL.nil_ _ _ _⟩, HI.out, HI.out.ok (Nat.le_trans HJ.out.len HO.out.ls) (by simp), HAL.out, ⟨fun p hp => .inr (by have := HLOW.out p hp; omega), fun p hp => (by cases hp)⟩, bel⟩
    repeat (refine rd_set ?_ (fun p hp => by have := HLOW.out p hp; omega) _ _)
    exact HR.out
  · have HAL : Hid (s.al = (s.k == 2 && s.al)) := Lib.hid (by rw [show (s.k == 2) = true by simp; omega]; rfl)
    have HK := Lib.hid hk
    have e1 : (s.k == 1) = false := by simp [hk]
    have e4 : (s.k == 4) = false := by simp [hk]
    have e2 : (s.k == 2) = true := by simp [hk]
    clear hk
    go_enter Tryz.func46, Tryz.ntmps46
    go_wp2_with fail
    refine (Wd.make_any s.al B s.ws cb _ (hE.below bel) (HS.out.ws.below bel) HO.out.tx (by have := HO.out.lw; omega)).mono ?_
    rintro e w1 ⟨D, rfl, hR, hb1⟩
    have hz1 := hb1.size
    try simp at hz1
    obtain ⟨q1_0, l1_0, r1_0⟩ := aft hb1 (w.heap.size)
    obtain ⟨q1_1, l1_1, r1_1⟩ := aft hb1 (w.heap.size + 1)
    obtain ⟨q1_2, l1_2, r1_2⟩ := aft hb1 (w.heap.size + 2)
    have HI := Lib.hid (tidy_text (s := s) HK.out)
    have HR := Lib.hid hR
    have HL := Lib.hid (norm_length s.ws)
    have HFR : Hid (norm s.ws ≠ [] → ∀ p, D = some p → w.heap.size ≤ p.block) := Lib.hid (fun h p hp => by have := ownT_low hR h p hp; simp at this; omega)
    clear hR
    generalize norm s.ws = R at *
    go_wp2_with fail
    refine bodyPost_ret (v := .agg #[.int .i64 s.k, .slice none 0 0, .bool s.al, .slice D R.length R.length, .int .i64 0, .bool s.nul]) (by simp [results, Tryz.results46, go_sem, *]) rfl ⟨_, none, D, 0, R.length, rfl, ⟨RdL.nil_ _ _ _, Wd.OwnT.rd (base := w.heap.size + 3) ?_⟩, HI.out, HI.out.ok (by simp) (Nat.le_trans HL.out HO.out.lw), HAL.out, ⟨fun p hp => (by cases hp), fun p hp => (Classical.em (R = [])).imp id (fun h => HFR.out h p hp)⟩, bel⟩
    repeat (refine ownT_set ?_ (by omega) _ _)
    exact Wd.OwnT.base HR.out (by simp)
  · have HAL : Hid (false = (s.k == 2 && s.al)) := Lib.hid (by rw [show (s.k == 2) = false by simp; omega]; rfl)
    have HK := Lib.hid hk
    have e1 : (s.k == 1) = false := by simp [hk]
    have e4 : (s.k == 4) = false := by simp [hk]
    have e2 : (s.k == 2) = false := by simp [hk]
    have e3 : (s.k == 3) = true := by simp [hk]
    have ea := and3 s.b
    clear hk
    go_enter Tryz.func46, Tryz.ntmps46
    go_wp2_with fail
    have HI := Lib.hid (tidy_bool (s := s) HK.out)
    refine bodyPost_ret (v := .agg #[.int .i64 s.k, .slice none 0 0, .bool false, .slice none 0 0, .int .i64 (s.b % 4), .bool s.nul]) (by simp [results, Tryz.results46, go_sem, *]) rfl ⟨_, none, none, 0, 0, rfl, ⟨RdL.nil_ _ _ _, RdL.nil_ _ _ _⟩, HI.out, HI.out.ok (by simp) (by simp), HAL.out, ⟨fun p hp => (by cases hp), fun p hp => (by cases hp)⟩, bel⟩
  · have HAL : Hid (false = (s.k == 2 && s.al)) := Lib.hid (by rw [show (s.k == 2) = false by simp; omega]; rfl)
    have HI := Lib.hid (tidy_none (s := s) hk)
    have e1 : (s.k == 1) = false := by simp; omega
    have e4 : (s.k == 4) = false := by simp; omega
    have e2 : (s.k == 2) = false := by simp; omega
    have e3 : (s.k == 3) = false := by simp; omega
    clear hk
    go_enter Tryz.func46, Tryz.ntmps46
    go_wp2_with fail
    refine bodyPost_ret (v := .agg #[.int .i64 s.k, .slice none 0 0, .bool false, .slice none 0 0, .int .i64 0, .bool false]) (by simp [results, Tryz.results46, go_sem, *]) rfl ⟨_, none, none, 0, 0, rfl, ⟨RdL.nil_ _ _ _, RdL.nil_ _ _ _⟩, HI.out, HI.out.ok (by simp) (by simp), HAL.out, ⟨fun p hp => (by cases hp), fun p hp => (by cases hp)⟩, bel⟩
end Go.Proofs.YtankkadnhdfpfaaGreatDoor

/- soffit/sets.holds: walked. -/
set_option linter.unusedSimpArgs false
set_option linter.unusedVariables false
namespace Go.Proofs.YtankkadnhdfpfaaGreatDoor
open Go.RowKit Sp Wd

set_option maxRecDepth 100000 in
set_option maxHeartbeats 12800000 in
theorem setHolds_any (t : Ty) (c : Cel) (T A : Option Addr) (ct ca : Nat) (w : World) (ht : 1 ≤ t.k ∧ t.k ≤ 4) (hs : 0 ≤ t.sc ∧ t.sc ≤ 6) (hu : uSndB c = true) (hA : RdL w 13 A (c.ts.map Tst.cells)) (hw : ∀ x ∈ c.ts, x.wf) (hE : Env w) :
    Calls Tryz.prog 49 #[.agg #[.int .i64 t.k, .int .i64 t.sc, .bool t.c.any, .bool t.c.neg, .slice T t.c.ts.length ct], .agg #[.bool c.any, .bool c.neg, .slice A c.ts.length ca]] w fun e w' => ∃ (r : St) (X Y : Option Addr) (cx cy : Nat), e = .returned (.agg #[.int .i64 r.k, .slice X r.sp.length cx, .bool r.al, .slice Y r.ws.length cy, .int .i64 r.b, .bool r.nul]) ∧ StAt w' r X Y ∧ Is (holdsG t c) r ∧ StOk 9 r ∧ Below w.heap.size w w' := by
  obtain ⟨h8, hu1⟩ := uSnd_le hu
  cases ha : c.any
  rotate_left
  · have HG : Hid (holdsG t c = allG t.k) := Lib.hid (by unfold holdsG; rw [if_pos ha])
    clear ha hu h8 hu1 hs hA hw
    go_enter Tryz.func49, Tryz.ntmps49
    go_wp2_with fail
    have K2 : BoxIs (((w.alloc (.cells #[.int .i64 t.k, .int .i64 t.sc, .bool t.c.any, .bool t.c.neg, .slice T t.c.ts.length ct] 26)).alloc (.cells #[.bool true, .bool c.neg, .slice A c.ts.length ca] 24)).alloc (.cells #[.int .i64 0, .slice none 0 0, .bool false, .slice none 0 0, .int .i64 0, .bool false] 36)) (w.heap.size + 2) #[.int .i64 0, .slice none 0 0, .bool false, .slice none 0 0, .int .i64 0, .bool false] := BoxIs.new (by simp)
    refine (setAll_any t T ct _ ht (hE.below bel)).mono ?_
    rintro e w1 ⟨r, X, Y, cx, cy, rfl, hR, ir, okr, hal, hb1⟩
    have K2 := K2.below hb1
    have z2 := K2.c
    have f2 := K2.f
    have l2 := K2.lt
    clear hal
    go_wp2_with fail
    refine bodyPost_ret (v := .agg #[.int .i64 r.k, .slice X r.sp.length cx, .bool r.al, .slice Y r.ws.length cy, .int .i64 r.b, .bool r.nul]) (by simp [results, Tryz.results49, go_sem, *]) rfl ⟨r, X, Y, cx, cy, rfl, hR.free K2 (setLike _ _ _ _ _ _ _ _ _ _) six_other, by rw [HG.out]; exact ir, okr.mono (by omega), bel⟩
  have HT := Lib.hid ht
  have HTK := Lib.hid ht
  have HSC := Lib.hid hs
  have HU := Lib.hid hu1
  have HW := Lib.hid hw
  have HA := Lib.hid hA
  have HE := Lib.hid hE
  have HG : Hid (holdsG t c = if c.neg = true then lessG (joinsG t c.ts (noneG t.k)) else joinsG t c.ts (noneG t.k)) := Lib.hid (by unfold holdsG; rw [ha]; rfl)
  clear ht hs hu hu1 hw hA hE ha
  go_enter Tryz.func49, Tryz.ntmps49
  go_wp2_with fail
  generalize hE0 : ((w.alloc _).alloc _).alloc _ = w0
  have hb0 : Below w.heap.size w w0 := (by rw [← hE0]; exact bel)
  have K0 : BoxIs w0 w.heap.size #[.int .i64 t.k, .int .i64 t.sc, .bool t.c.any, .bool t.c.neg, .slice T t.c.ts.length ct] := (by rw [← hE0]; exact ((BoxIs.new (t := 26) rfl).alloc _).alloc _)
  have K1 : BoxIs w0 (w.heap.size + 1) #[.bool false, .bool c.neg, .slice A c.ts.length ca] := (by rw [← hE0]; exact (BoxIs.new (t := 24) (by simp)).alloc _)
  have K2 : BoxIs w0 (w.heap.size + 2) #[.int .i64 0, .slice none 0 0, .bool false, .slice none 0 0, .int .i64 0, .bool false] := (by rw [← hE0]; exact BoxIs.new (t := 36) (by simp))
  have hs0 : w0.heap.size = w.heap.size + 3 := (by rw [← hE0]; simp)
  have HS0 := Lib.hid hs0
  clear hE0 hs0
  refine (tidy_any ⟨t.k, [], false, [], 0, false⟩ 0 none none 0 0 w0 ⟨RdL.nil_ _ _ _, RdL.nil_ _ _ _⟩ ⟨by simp, by simp, by simp, by simp⟩ (by omega) (HE.out.below hb0)).mono ?_
  rintro e w1 ⟨r0, X0, Y0, cx0, cy0, rfl, hR0, ir0, ok0, hal, hb1⟩
  rw [(none_is t.k).sg_eq HT.out] at ir0
  clear hal
  have K0 := K0.below hb1
  have K1 := K1.below hb1
  have K2 := K2.below hb1
  have k0 := K0.c
  have k1 := K1.c
  have l0 := K0.lt
  have l1 := K1.lt
  go_wp2_with fail
  generalize hW0 : w1.alloc _ = W0
  have K3 : BoxIs W0 w1.heap.size #[.int .i64 r0.k, .slice X0 r0.sp.length cx0, .bool r0.al, .slice Y0 r0.ws.length cy0, .int .i64 r0.b, .bool r0.nul] := (by rw [← hW0]; exact BoxIs.new (t := 36) rfl)
  have hSt0 : StAt W0 r0 X0 Y0 := (by rw [← hW0]; exact hR0.alloc _)
  have hB0 : Below w1.heap.size w1 W0 := (by rw [← hW0]; exact Below.alloc (Below.refl _ _) (Nat.le_refl _) _)
  have K0 := K0.below hB0
  have K1 := K1.below hB0
  have K2 := K2.below hB0
  have h3 : w.heap.size + 3 ≤ w1.heap.size := by rw [← HS0.out]; exact hb1.size
  have hbw : Below w.heap.size w W0 := hb0.trans ((hb1.trans (hB0.mono hb1.size)).mono (by have := HS0.out; omega))
  obtain ⟨bo, hbo⟩ : ∃ bo, w1.heap.size = bo := ⟨_, rfl⟩
  rw [hbo] at K3 h3
  rw [hbo]
  have H3 := Lib.hid h3
  clear hW0 hB0 hb0 hb1 hbo hR0 HS0 k0 k1 l0 l1 h3
  go_loopg [19] c.ts.length (fun k iv wr => ∃ (j : Nat) (r : St) (X Y : Option Addr) (cx cy : Nat), j ≤ c.ts.length ∧ c.ts.length - j ≤ k ∧ iv = .int .i64 j ∧ BoxIs wr bo #[.int .i64 r.k, .slice X r.sp.length cx, .bool r.al, .slice Y r.ws.length cy, .int .i64 r.b, .bool r.nul] ∧ StAt wr r X Y ∧ Is (joinsG t (c.ts.take j) (noneG t.k)) r ∧ StOk j r ∧ Below bo W0 wr)
  case atStart => exact ⟨0, r0, X0, Y0, cx0, cy0, by omega, by omega, rfl, K3, hSt0, ir0, ok0, Below.refl _ _⟩
  case round =>
    obtain ⟨j, r, X, Y, cx, cy, hj, hjk, rfl, KO, hSt, ir, okr, hbel⟩ := hrel
    clear K3 hSt0 ir0 ok0
    have h3 := H3.out
    have hbwr : Below w.heap.size w wr := hbw.trans (hbel.mono (by omega))
    have KT := K0.low hbel (by omega)
    have KC := K1.low hbel (by omega)
    have KR := K2.low hbel (by omega)
    have kt := KT.c
    have lt := KT.lt
    have kc := KC.c
    have lc := KC.lt
    have ko := KO.c
    have lo := KO.lt
    by_cases hlt : j < c.ts.length
    · obtain ⟨b, off, hAe, hx⟩ := (HA.out.below hbwr).at_ hlt
      subst hAe
      have hux := HU.out _ (List.getElem_mem hlt)
      have hxw := HW.out _ (List.getElem_mem hlt)
      have hjt := joinsG_take t hlt (noneG t.k)
      generalize c.ts[j]'hlt = x at *
      have g0 : wr.cell? ⟨b, off + j * 13, none⟩ = some (.int .i64 x.k) := hx.get 0 rfl
      have g1 : wr.cell? ⟨b, off + j * 13 + 1, none⟩ = some (.int .i64 x.lo.k) := hx.get 1 rfl
      have g2 : wr.cell? ⟨b, off + j * 13 + 2, none⟩ = some (.int .i64 x.lo.n) := hx.get 2 rfl
      have g3 : wr.cell? ⟨b, off + j * 13 + 3, none⟩ = some (.int .i64 x.lo.s) := hx.get 3 rfl
      have g4 : wr.cell? ⟨b, off + j * 13 + 4, none⟩ = some (.string x.lo.t) := hx.get 4 rfl
      have g5 : wr.cell? ⟨b, off + j * 13 + 5, none⟩ = some (.int .i64 x.lo.i) := hx.get 5 rfl
      have g6 : wr.cell? ⟨b, off + j * 13 + 6, none⟩ = some (.int .i64 x.hi.k) := hx.get 6 rfl
      have g7 : wr.cell? ⟨b, off + j * 13 + 7, none⟩ = some (.int .i64 x.hi.n) := hx.get 7 rfl
      have g8 : wr.cell? ⟨b, off + j * 13 + 8, none⟩ = some (.int .i64 x.hi.s) := hx.get 8 rfl
      have g9 : wr.cell? ⟨b, off + j * 13 + 9, none⟩ = some (.string x.hi.t) := hx.get 9 rfl
      have g10 : wr.cell? ⟨b, off + j * 13 + 10, none⟩ = some (.int .i64 x.hi.i) := hx.get 10 rfl
      have g11 : wr.cell? ⟨b, off + j * 13 + 11, none⟩ = some (.bool x.ol) := hx.get 11 rfl
      have g12 : wr.cell? ⟨b, off + j * 13 + 12, none⟩ = some (.bool x.oh) := hx.get 12 rfl
      have i1 : (j : Int) < (c.ts.length : Int) := by omega
      have i2 : (0 : Int) ≤ (j : Int) := by omega
      have HJT := Lib.hid hjt
      clear hx hjt
      go_wp2_with fail
      generalize hWx : wr.alloc _ = Wx
      have KX : BoxIs Wx wr.heap.size #[.int .i64 x.k, .int .i64 x.lo.k, .int .i64 x.lo.n, .int .i64 x.lo.s, .string x.lo.t, .int .i64 x.lo.i, .int .i64 x.hi.k, .int .i64 x.hi.n, .int .i64 x.hi.s, .string x.hi.t, .int .i64 x.hi.i, .bool x.ol, .bool x.oh] := (by rw [← hWx]; exact BoxIs.new (t := 84) rfl)
      have hBx : Below wr.heap.size wr Wx := (by rw [← hWx]; exact Below.alloc (Below.refl _ _) (Nat.le_refl _) _)
      have KTx := KT.below hBx
      have KOx := KO.below hBx
      have hStx := hSt.below hBx
      have hbx0 : bo < wr.heap.size := KO.lt
      have hBw : Below w.heap.size w Wx := hbwr.trans (hBx.mono hbwr.size)
      have HEX := HE.out.below hBw
      have hbelx : Below bo W0 Wx := hbel.trans (hBx.mono (by omega))
      obtain ⟨bx, hbx⟩ : ∃ bx, wr.heap.size = bx := ⟨_, rfl⟩
      rw [hbx] at KX hbx0
      rw [hbx]
      have kox := KOx.c
      have HB0 := Lib.hid hbx0
      have HJL := Lib.hid h8
      clear hWx hBx hbx KT KC KO KR kt kc ko hbwr hbel lo lc lt g0 g1 g2 g3 g4 g5 g6 g7 g8 g9 g10 g11 g12 h3
      have HK : ∀ w', Below Wx.heap.size Wx w' → Below bo Wx w' ∧ (∀ o, w'.cell? ⟨w.heap.size, o, none⟩ = (#[.int .i64 t.k, .int .i64 t.sc, .bool t.c.any, .bool t.c.neg, .slice T t.c.ts.length ct] : Array Value)[o]?) ∧ (∀ o, w'.cell? ⟨bx, o, none⟩ = (#[.int .i64 x.k, .int .i64 x.lo.k, .int .i64 x.lo.n, .int .i64 x.lo.s, .string x.lo.t, .int .i64 x.lo.i, .int .i64 x.hi.k, .int .i64 x.hi.n, .int .i64 x.hi.s, .string x.hi.t, .int .i64 x.hi.i, .bool x.ol, .bool x.oh] : Array Value)[o]?) := fun w' hb => ⟨hb.mono (Nat.le_of_lt KOx.lt), (KTx.below hb).c, (KX.below hb).c⟩
      have TAIL : ∀ (s : St) (X2 Y2 : Option Addr) (cx2 cy2 : Nat) (w2 : World), Below Wx.heap.size Wx w2 → StAt w2 s X2 Y2 → Is (testG t x) s → StOk 1 s → (?G : St → Option Addr → Option Addr → Nat → Nat → World → Prop) s X2 Y2 cx2 cy2 w2 := ?tail
      refine wp_region_held_drew (S := (fun w' => Below bo Wx w' ∧ (∀ o, w'.cell? ⟨w.heap.size, o, none⟩ = (#[.int .i64 t.k, .int .i64 t.sc, .bool t.c.any, .bool t.c.neg, .slice T t.c.ts.length ct] : Array Value)[o]?) ∧ (∀ o, w'.cell? ⟨bx, o, none⟩ = (#[.int .i64 x.k, .int .i64 x.lo.k, .int .i64 x.lo.n, .int .i64 x.lo.s, .string x.lo.t, .int .i64 x.lo.i, .int .i64 x.hi.k, .int .i64 x.hi.n, .int .i64 x.hi.s, .string x.hi.t, .int .i64 x.hi.i, .bool x.ol, .bool x.oh] : Array Value)[o]?))) (by kernel_rfl) (HK _ bel) (fun hHeld => ?_)
      refine tkH 1 ?_
      try simp only [shH]
      refine tkH 2 ?_
      try simp only [shH]
      refine rdH [0, 3] ?_
      refine AllReadyH.cons rfl (fun K hK => ?_) ?_
      · go_simp
        refine hK.out _ _ ?_ (fun hH2 => ?_)
        · exact HK _ bel
        clear hK K hHeld
        have hHeld := hH2
        clear hH2
        try simp only [shH]
        refine rdH [3] ?_
        refine AllReadyH.cons rfl (fun K hK => ?_) AllReadyH.nil
        go_simp
        go_at_call 80
        refine (setTest_any t x T ct _ HTK.out HSC.out hux hxw (HEX.below bel)).mono ?_
        rintro e w2 ⟨s, X2, Y2, cx2, cy2, rfl, hS2, is2, ok2, hb2⟩
        have hB2 : Below Wx.heap.size Wx w2 := (by first | exact hb2 | exact undrew hb2)
        have KO2 := (KOx.below hB2).c
        refine hK.out _ _ ?_ (fun hH2 => ?_)
        · exact HK _ bel
        clear hK K hHeld
        have hHeld := hH2
        clear hH2
        try simp only [shH]
        exact TAIL s X2 Y2 cx2 cy2 w2 hB2 hS2 is2 ok2
      refine AllReadyH.cons rfl (fun K hK => ?_) AllReadyH.nil
      go_simp
      go_at_call 80
      refine (setTest_any t x T ct _ HTK.out HSC.out hux hxw (HEX.below bel)).mono ?_
      rintro e w2 ⟨s, X2, Y2, cx2, cy2, rfl, hS2, is2, ok2, hb2⟩
      have hB2 : Below Wx.heap.size Wx w2 := (by first | exact hb2 | exact undrew hb2)
      have KO2 := (KOx.below hB2).c
      refine hK.out _ _ ?_ (fun hH2 => ?_)
      · exact HK _ bel
      clear hK K hHeld
      have hHeld := hH2
      clear hH2
      try simp only [shH]
      refine rdH [0] ?_
      refine AllReadyH.cons rfl (fun K hK => ?_) AllReadyH.nil
      go_simp
      refine hK.out _ _ ?_ (fun hH2 => ?_)
      · exact HK _ bel
      clear hK K hHeld
      have hHeld := hH2
      clear hH2
      try simp only [shH]
      exact TAIL s X2 Y2 cx2 cy2 w2 hB2 hS2 is2 ok2
      case tail =>
        intro s X2 Y2 cx2 cy2 w2 hB2 hS2 is2 ok2
        have hHeld := HK w2 hB2
        refine rdH [4] ?_
        refine AllReadyH.cons rfl (fun K hK => ?_) AllReadyH.nil
        go_simp
        go_at_call 89
        refine (setJoin_any r s (joinsG t (c.ts.take j) (noneG t.k)) (testG t x) j 1 X Y X2 Y2 cx cy cx2 cy2 _ (hStx.below bel) (hS2.below bel) ir is2 (by rw [joinsG_k, testG_k]; rfl) okr ok2 (by omega) (by omega) (HEX.below bel)).mono ?_
        rintro e w3 ⟨r3, X3, Y3, cx3, cy3, rfl, hS3, is3, ok3, hb3⟩
        have hB3 : Below Wx.heap.size Wx w3 := hB2.trans ((by first | exact hb3 | exact undrew hb3 : Below w2.heap.size w2 w3).mono hB2.size)
        have hB4 := hB3.mono (Nat.le_of_lt KOx.lt)
        have KO3 := KOx.below hB3
        have c3 := KO3.c
        have f3 := KO3.f
        refine hK.out _ _ ?_ (fun hH2 => ?_)
        · exact HK _ hB3
        clear hK K hHeld
        have hHeld := hH2
        clear hH2
        try simp only [shH]
        refine rdH [5] ?_
        refine AllReadyH.cons rfl (fun K hK => ?_) AllReadyH.nil
        go_simp
        refine hK.out _ _ ?_ (fun hH2 => ?_)
        · exact ⟨bel, (fun o => (six_cell (by have := H3.out; omega) o).trans ((KTx.below hB3).c o)), (fun o => (six_cell (by have := HB0.out; omega) o).trans ((KX.below hB3).c o))⟩
        clear hK K hHeld
        have hHeld := hH2
        clear hH2
        try simp only [shH]
        refine dnH ?_ _
        clear hHeld
        (try simp only [Exit.then, Exit.inBlock])
        generalize hWz : (((((w3.setCell _ _).setCell _ _).setCell _ _).setCell _ _).setCell _ _).setCell _ _ = Wz
        have KZ : BoxIs Wz bo #[.int .i64 r3.k, .slice X3 r3.sp.length cx3, .bool r3.al, .slice Y3 r3.ws.length cy3, .int .i64 r3.b, .bool r3.nul] := by rw [← hWz]; exact (((((KO3.set 0 _).set 1 _).set 2 _).set 3 _).set 4 _).set 5 _
        have hSz : StAt Wz r3 X3 Y3 := by rw [← hWz]; exact hS3.free KO3 (setLike _ _ _ _ _ _ _ _ _ _) six_other
        have hBz : Below bo W0 Wz := hbelx.trans (by rw [← hWz]; exact bel)
        have HZ := Lib.hid (And.intro KZ (And.intro hSz hBz))
        have HI3 := Lib.hid (And.intro is3 ok3)
        clear hWz KZ hSz hBz KO3 hB2 hB3 hB4 hb3 hS2 is2 ok2 hS3 is3 ok3 HK KTx KOx KX hbelx hBw HEX hStx kox c3 f3
        go_wp2_with fail
        go_roundg (gk - 1)
        case measure => omega
        case rel => exact ⟨j + 1, r3, X3, Y3, cx3, cy3, by omega, by omega, by go_num, HZ.out.1, HZ.out.2.1, by rw [HJT.out]; exact HI3.out.1, HI3.out.2, HZ.out.2.2⟩
    · have hje : j = c.ts.length := by omega
      subst hje
      have i2 : ¬ ((c.ts.length : Int) < (c.ts.length : Int)) := by omega
      rw [List.take_length] at ir
      have KR1 : BoxIs wr (w.heap.size + 1 + 1) #[.int .i64 0, .slice none 0 0, .bool false, .slice none 0 0, .int .i64 0, .bool false] := KR
      have hfree := hSt.free (W := (((((wr.setCell ⟨w.heap.size + 1 + 1, 0, none⟩ (.int .i64 r.k)).setCell ⟨w.heap.size + 1 + 1, 1, none⟩ (.slice X r.sp.length cx)).setCell ⟨w.heap.size + 1 + 1, 2, none⟩ (.bool r.al)).setCell ⟨w.heap.size + 1 + 1, 3, none⟩ (.slice Y r.ws.length cy)).setCell ⟨w.heap.size + 1 + 1, 4, none⟩ (.int .i64 r.b)).setCell ⟨w.heap.size + 1 + 1, 5, none⟩ (.bool r.nul)) KR1 (setLike _ _ _ _ _ _ _ _ _ _) six_other
      have kr := KR.c
      have fr := KR.f
      have lr := KR.lt
      have fo := KO.f
      cases hneg : c.neg
      · have HII : Hid (Is (holdsG t c) r) := Lib.hid (by rw [HG.out, hneg]; exact ir)
        rw [hneg] at kc
        clear hneg
        go_wp2_with fail
        refine bodyPost_ret (v := .agg #[.int .i64 r.k, .slice X r.sp.length cx, .bool r.al, .slice Y r.ws.length cy, .int .i64 r.b, .bool r.nul]) (by simp [results, Tryz.results49, go_sem, *]) rfl ⟨r, X, Y, ⟨cx, cy, rfl⟩, hfree, HII.out, okr.mono (by omega), bel⟩
      · have HGN : Hid (holdsG t c = lessG (joinsG t c.ts (noneG t.k))) := Lib.hid (by rw [HG.out, hneg]; rfl)
        rw [hneg] at kc
        clear hneg
        go_wp2_with fail
        refine (setLess_any t r (joinsG t c.ts (noneG t.k)) c.ts.length T X Y ct cx cy _ hSt ir (by rw [joinsG_k]; rfl) HT.out okr (by omega) (HE.out.below hbwr)).mono ?_
        rintro e w2 ⟨r2, X2, Y2, cx2, cy2, rfl, hR2, ir2, ok2, hal, hb2⟩
        have KR2 : BoxIs w2 (w.heap.size + 1 + 1) #[.int .i64 0, .slice none 0 0, .bool false, .slice none 0 0, .int .i64 0, .bool false] := KR.below hb2
        have z2 := KR2.c
        have z3 := KR2.f
        have z4 := KR2.lt
        have hbw2 : Below w.heap.size w w2 := hbwr.trans (hb2.mono hbwr.size)
        clear hal hb2 kt kc ko kr fr fo KT KC KO KR
        go_wp2_with fail
        refine bodyPost_ret (v := .agg #[.int .i64 r2.k, .slice X2 r2.sp.length cx2, .bool r2.al, .slice Y2 r2.ws.length cy2, .int .i64 r2.b, .bool r2.nul]) (by simp [results, Tryz.results49, go_sem, *]) rfl ⟨r2, X2, Y2, cx2, cy2, rfl, hR2.free KR2 (setLike _ _ _ _ _ _ _ _ _ _) six_other, by rw [HGN.out]; exact ir2, ok2.mono (by omega), bel⟩
end Go.Proofs.YtankkadnhdfpfaaGreatDoor

/- soffit/sets.full: walked. -/
set_option linter.unusedSimpArgs false
set_option linter.unusedVariables false
namespace Go.Proofs.YtankkadnhdfpfaaGreatDoor
open Go.RowKit Sp Wd

theorem full_is {t : Ty} {r : St} (h : Is (holdsG t t.c) r) : Is (fullG t) ⟨r.k, r.sp, r.al, r.ws, r.b, true⟩ :=
  ⟨h.k, h.wf, h.ord, h.sp, h.rise, h.txt, h.ws, h.b, rfl, h.c1, h.c2, h.c3⟩
set_option maxRecDepth 100000 in
set_option maxHeartbeats 3200000 in
theorem full_any (t : Ty) (T : Option Addr) (ct : Nat) (w : World) (ht : tySnd t = true) (hT : TyAt w t T) (hE : Env w) :
    Calls Tryz.prog 48 #[.agg #[.int .i64 t.k, .int .i64 t.sc, .bool t.c.any, .bool t.c.neg, .slice T t.c.ts.length ct]] w fun e w' => ∃ (r : St) (X Y : Option Addr) (cx cy : Nat), e = .returned (.agg #[.int .i64 r.k, .slice X r.sp.length cx, .bool r.al, .slice Y r.ws.length cy, .int .i64 r.b, .bool r.nul]) ∧ StAt w' r X Y ∧ Is (fullG t) r ∧ StOk 9 r ∧ Below w.heap.size w w' := by
  obtain ⟨h1, h2, -, h4⟩ := ty_of ht
  go_enter Tryz.func48, Tryz.ntmps48
  go_wp2_with fail
  have K1 : BoxIs ((w.alloc (.cells #[.int .i64 t.k, .int .i64 t.sc, .bool t.c.any, .bool t.c.neg, .slice T t.c.ts.length ct] 26)).alloc (.cells #[.int .i64 0, .slice none 0 0, .bool false, .slice none 0 0, .int .i64 0, .bool false] 36)) (w.heap.size + 1) #[.int .i64 0, .slice none 0 0, .bool false, .slice none 0 0, .int .i64 0, .bool false] := BoxIs.new (by simp)
  refine (setHolds_any t t.c T T ct ct _ h1 h2 h4 (hT.rd.below bel) hT.ts (hE.below bel)).mono ?_
  rintro e w1 ⟨r, X, Y, cx, cy, rfl, hR, ir, okr, hb1⟩
  have K1 := K1.below hb1
  have z1 := K1.c
  have f1 := K1.f
  have l1 := K1.lt
  have hf := full_is ir
  have hbw : Below w.heap.size w w1 := bel
  clear hb1
  go_upto_region 2 with fail
  generalize hW2 : w1.alloc _ = W2
  have hbr : Below w1.heap.size w1 W2 := (by rw [← hW2]; exact Below.alloc (Below.refl _ _) (Nat.le_refl _) _)
  have hbox : BoxIs W2 w1.heap.size #[.int .i64 r.k, .slice X r.sp.length cx, .bool r.al, .slice Y r.ws.length cy, .int .i64 r.b, .bool r.nul] := (by rw [← hW2]; exact BoxIs.new (t := 36) rfl)
  have K2 := K1.below hbr
  have hR2 := hR.below hbr
  have hbw2 : Below w.heap.size w W2 := hbw.trans (hbr.mono hbw.size)
  obtain ⟨bs, hbs⟩ : ∃ bs, w1.heap.size = bs := ⟨_, rfl⟩
  rw [hbs] at hbox l1
  rw [hbs]
  have n2 := hbox.c
  have nf2 := hbox.f
  have z2 := K2.c
  have f2 := K2.f
  have l2 := K2.lt
  have hne : ¬ (bs = w.heap.size + 1) := by omega
  clear hW2 hbr hbs K1 z1 f1 hbw
  go_wp2_with fail
  have hR3 := hR2.free (W := W2.setCell ⟨bs, 5, none⟩ (.bool true)) hbox (setLike _ _ _ _ _ _ _ _ _ _) (fun k hk => heap_setCell_other _ _ _ _ hk)
  have K3 := K2.set' (c := bs) (by omega) 5 (.bool true)
  have hbw3 : Below w.heap.size w (W2.setCell ⟨bs, 5, none⟩ (.bool true)) := bel
  have z3 := K3.c
  have f3 := K3.f
  have l3 := K3.lt
  generalize W2.setCell ⟨bs, 5, none⟩ (.bool true) = W3 at *
  clear n2 nf2 z2 f2 l2 hR2 hbw2 K2 hbox
  refine bodyPost_ret (v := .agg #[.int .i64 r.k, .slice X r.sp.length cx, .bool r.al, .slice Y r.ws.length cy, .int .i64 r.b, .bool true]) (by simp [results, Tryz.results48, go_sem, *]) rfl ⟨⟨r.k, r.sp, r.al, r.ws, r.b, true⟩, X, Y, cx, cy, rfl, ?_, hf, ⟨okr.wf, okr.tx, okr.ls, okr.lw⟩, bel⟩
  have hq := hR3.free K3 (setLike _ _ _ _ _ _ _ _ _ _) (six_other (v0 := .int .i64 r.k) (v1 := .slice X r.sp.length cx) (v2 := .bool r.al) (v3 := .slice Y r.ws.length cy) (v4 := .int .i64 r.b) (v5 := .bool true))
  exact ⟨hq.sp, hq.ws⟩
end Go.Proofs.YtankkadnhdfpfaaGreatDoor

/- soffit/sets.Full: walked. -/
set_option linter.unusedSimpArgs false
set_option linter.unusedVariables false
namespace Go.Proofs.YtankkadnhdfpfaaGreatDoor
open Go.RowKit Sp Wd

set_option maxRecDepth 100000 in
set_option maxHeartbeats 3200000 in
theorem setFull_no (t : Ty) (T : Option Addr) (ct : Nat) (w : World) (ht : tySnd t = false) (hT : TyAt w t T) (hE : Env w) :
    Calls Tryz.prog 37 #[.agg #[.int .i64 t.k, .int .i64 t.sc, .bool t.c.any, .bool t.c.neg, .slice T t.c.ts.length ct]] w fun e w' => e = .returned (.tuple #[.agg #[.int .i64 0, .slice none 0 0, .bool false, .slice none 0 0, .int .i64 0, .bool false], .int .i64 2]) ∧ Below w.heap.size w w' := by
  go_enter Tryz.func37, Tryz.ntmps37
  go_wp2_with fail
  have K1 : BoxIs ((w.alloc (.cells #[.int .i64 t.k, .int .i64 t.sc, .bool t.c.any, .bool t.c.neg, .slice T t.c.ts.length ct] 26)).alloc (.cells #[.int .i64 0, .slice none 0 0, .bool false, .slice none 0 0, .int .i64 0, .bool false] 36)) (w.heap.size + 1) #[.int .i64 0, .slice none 0 0, .bool false, .slice none 0 0, .int .i64 0, .bool false] := BoxIs.new (by simp)
  refine (setSound_any t T ct _ (hT.below bel) (hE.below bel)).mono ?_
  rintro e w1 ⟨rfl, hb1⟩
  rw [ht]
  have K1 := K1.below hb1
  have z1 := K1.c
  have f1 := K1.f
  have l1 := K1.lt
  go_wp2_with fail
  refine bodyPost_ret (v := .tuple #[.agg #[.int .i64 0, .slice none 0 0, .bool false, .slice none 0 0, .int .i64 0, .bool false], .int .i64 2]) (by simp [results, Tryz.results37, go_sem, *]) rfl ⟨rfl, bel⟩
set_option maxRecDepth 100000 in
set_option maxHeartbeats 3200000 in
theorem setFull_any (t : Ty) (T : Option Addr) (ct : Nat) (w : World) (ht : tySnd t = true) (hT : TyAt w t T) (hE : Env w) :
    Calls Tryz.prog 37 #[.agg #[.int .i64 t.k, .int .i64 t.sc, .bool t.c.any, .bool t.c.neg, .slice T t.c.ts.length ct]] w fun e w' => ∃ (r : St) (X Y : Option Addr) (cx cy : Nat), e = .returned (.tuple #[.agg #[.int .i64 r.k, .slice X r.sp.length cx, .bool r.al, .slice Y r.ws.length cy, .int .i64 r.b, .bool r.nul], .int .i64 0]) ∧ StAt w' r X Y ∧ Is (fullG t) r ∧ StOk 9 r ∧ Below w.heap.size w w' := by
  obtain ⟨h1, h2, -, h4⟩ := ty_of ht
  go_enter Tryz.func37, Tryz.ntmps37
  go_wp2_with fail
  have K0 : BoxIs ((w.alloc (.cells #[.int .i64 t.k, .int .i64 t.sc, .bool t.c.any, .bool t.c.neg, .slice T t.c.ts.length ct] 26)).alloc (.cells #[.int .i64 0, .slice none 0 0, .bool false, .slice none 0 0, .int .i64 0, .bool false] 36)) w.heap.size #[.int .i64 t.k, .int .i64 t.sc, .bool t.c.any, .bool t.c.neg, .slice T t.c.ts.length ct] := (BoxIs.new rfl).alloc _
  have K1 : BoxIs ((w.alloc (.cells #[.int .i64 t.k, .int .i64 t.sc, .bool t.c.any, .bool t.c.neg, .slice T t.c.ts.length ct] 26)).alloc (.cells #[.int .i64 0, .slice none 0 0, .bool false, .slice none 0 0, .int .i64 0, .bool false] 36)) (w.heap.size + 1) #[.int .i64 0, .slice none 0 0, .bool false, .slice none 0 0, .int .i64 0, .bool false] := BoxIs.new (by simp)
  refine (setSound_any t T ct _ (hT.below bel) (hE.below bel)).mono ?_
  rintro e w1 ⟨rfl, hb1⟩
  rw [ht]
  have K0 := (K0.below hb1).c
  have K1 := K1.below hb1
  have l1 := K1.lt
  have hbw1 : Below w.heap.size w w1 := bel
  have l0 : w.heap.size < w1.heap.size := by omega
  clear hb1
  go_wp2_with fail
  refine (full_any t T ct _ ht (hT.below bel) (hE.below bel)).mono ?_
  rintro e w2 ⟨r, X, Y, cx, cy, rfl, hR, ir, okr, hb2⟩
  have K1 := K1.below hb2
  have hbw2 : Below w.heap.size w w2 := hbw1.trans (hb2.mono hbw1.size)
  clear hb2 hbw1 K0 l0 l1
  go_wp2_with fail
  refine (tidy_any r 9 X Y cx cy _ hR okr (by omega) (hE.below hbw2)).mono ?_
  rintro e w3 ⟨r3, X3, Y3, cx3, cy3, rfl, hR3, ir3, ok3, al3, hb3⟩
  rw [ir.sg_eq (by rw [fullG_k]; exact h1)] at ir3
  have K1 := K1.below hb3
  have z1 := K1.c
  have f1 := K1.f
  have l1 := K1.lt
  have hbw3 : Below w.heap.size w w3 := hbw2.trans (hb3.mono hbw2.size)
  clear hb3 hbw2 al3
  go_wp2_with fail
  refine bodyPost_ret (v := .tuple #[.agg #[.int .i64 r3.k, .slice X3 r3.sp.length cx3, .bool r3.al, .slice Y3 r3.ws.length cy3, .int .i64 r3.b, .bool r3.nul], .int .i64 0]) (by simp [results, Tryz.results37, go_sem, *]) rfl ⟨r3, X3, Y3, cx3, cy3, rfl, hR3.free K1 (setLike _ _ _ _ _ _ _ _ _ _) six_other, ir3, ok3, bel⟩
end Go.Proofs.YtankkadnhdfpfaaGreatDoor

/- soffit/sets.Full, once more: the lists that it gives lie in memory of the call's own. -/
set_option linter.unusedSimpArgs false
set_option linter.unusedVariables false
namespace Go.Proofs.YtankkadnhdfpfaaGreatDoor
open Go.RowKit Sp Wd

set_option maxRecDepth 100000 in
set_option maxHeartbeats 3200000 in
theorem fullF_any (t : Ty) (T : Option Addr) (ct : Nat) (w : World) (ht : tySnd t = true) (hT : TyAt w t T) (hE : Env w) :
    Calls Tryz.prog 37 #[.agg #[.int .i64 t.k, .int .i64 t.sc, .bool t.c.any, .bool t.c.neg, .slice T t.c.ts.length ct]] w fun e w' => ∃ (r : St) (X Y : Option Addr) (cx cy : Nat), e = .returned (.tuple #[.agg #[.int .i64 r.k, .slice X r.sp.length cx, .bool r.al, .slice Y r.ws.length cy, .int .i64 r.b, .bool r.nul], .int .i64 0]) ∧ StAt w' r X Y ∧ Is (fullG t) r ∧ StOk 9 r ∧ FrSt w.heap.size r X Y ∧ Below w.heap.size w w' := by
  obtain ⟨h1, h2, -, h4⟩ := ty_of ht
  go_enter Tryz.func37, Tryz.ntmps37
  go_wp2_with fail
  have K0 : BoxIs ((w.alloc (.cells #[.int .i64 t.k, .int .i64 t.sc, .bool t.c.any, .bool t.c.neg, .slice T t.c.ts.length ct] 26)).alloc (.cells #[.int .i64 0, .slice none 0 0, .bool false, .slice none 0 0, .int .i64 0, .bool false] 36)) w.heap.size #[.int .i64 t.k, .int .i64 t.sc, .bool t.c.any, .bool t.c.neg, .slice T t.c.ts.length ct] := (BoxIs.new rfl).alloc _
  have K1 : BoxIs ((w.alloc (.cells #[.int .i64 t.k, .int .i64 t.sc, .bool t.c.any, .bool t.c.neg, .slice T t.c.ts.length ct] 26)).alloc (.cells #[.int .i64 0, .slice none 0 0, .bool false, .slice none 0 0, .int .i64 0, .bool false] 36)) (w.heap.size + 1) #[.int .i64 0, .slice none 0 0, .bool false, .slice none 0 0, .int .i64 0, .bool false] := BoxIs.new (by simp)
  refine (setSound_any t T ct _ (hT.below bel) (hE.below bel)).mono ?_
  rintro e w1 ⟨rfl, hb1⟩
  rw [ht]
  have K0 := (K0.below hb1).c
  have K1 := K1.below hb1
  have l1 := K1.lt
  have hbw1 : Below w.heap.size w w1 := bel
  have l0 : w.heap.size < w1.heap.size := by omega
  clear hb1
  go_wp2_with fail
  refine (full_any t T ct _ ht (hT.below bel) (hE.below bel)).mono ?_
  rintro e w2 ⟨r, X, Y, cx, cy, rfl, hR, ir, okr, hb2⟩
  have K1 := K1.below hb2
  have hbw2 : Below w.heap.size w w2 := hbw1.trans (hb2.mono hbw1.size)
  clear hb2 hbw1 K0 l0 l1
  go_wp2_with fail
  refine (tidyF_any r 9 X Y cx cy _ hR okr (by omega) (hE.below hbw2)).mono ?_
  rintro e w3 ⟨r3, X3, Y3, cx3, cy3, rfl, hR3, ir3, ok3, al3, fr3, hb3⟩
  rw [ir.sg_eq (by rw [fullG_k]; exact h1)] at ir3
  have K1 := K1.below hb3
  have z1 := K1.c
  have f1 := K1.f
  have l1 := K1.lt
  have hbw3 : Below w.heap.size w w3 := hbw2.trans (hb3.mono hbw2.size)
  have FR3 := Lib.hid (fr3.mono hbw2.size)
  clear hb3 hbw2 al3 fr3
  go_wp2_with fail
  refine bodyPost_ret (v := .tuple #[.agg #[.int .i64 r3.k, .slice X3 r3.sp.length cx3, .bool r3.al, .slice Y3 r3.ws.length cy3, .int .i64 r3.b, .bool r3.nul], .int .i64 0]) (by simp [results, Tryz.results37, go_sem, *]) rfl ⟨r3, X3, Y3, cx3, cy3, rfl, hR3.free K1 (setLike _ _ _ _ _ _ _ _ _ _) six_other, ir3, ok3, FR3.out, bel⟩
end Go.Proofs.YtankkadnhdfpfaaGreatDoor

/- soffit/sets.kind, Meet: walked. -/
set_option linter.unusedSimpArgs false
set_option linter.unusedVariables false
namespace Go.Proofs.YtankkadnhdfpfaaGreatDoor
open Go.RowKit Sp Wd

set_option maxHeartbeats 400000 in
theorem kind_any (n : Int) (w : World) : Calls Tryz.prog 51 #[.int .i64 n] w fun e w' => e = .returned (.bool (decide (1 ≤ n ∧ n ≤ 4))) ∧ Below w.heap.size w w' := by
  by_cases h1 : 1 ≤ n
  · by_cases h2 : n ≤ 4
    · rw [decide_eq_true ⟨h1, h2⟩]
      go_enter Tryz.func51, Tryz.ntmps51
      go_wp2_with fail
      go_ret
      exact ⟨ret_bool (by simp [h2]), bel⟩
    · rw [decide_eq_false (by omega)]
      go_enter Tryz.func51, Tryz.ntmps51
      go_wp2_with fail
      go_ret
      exact ⟨ret_bool (by simp [h2]), bel⟩
  · rw [decide_eq_false (by omega)]
    go_enter Tryz.func51, Tryz.ntmps51
    go_wp2_with fail
    go_ret
    exact ⟨rfl, bel⟩
set_option maxRecDepth 100000 in
set_option maxHeartbeats 3200000 in
theorem setMeet2_no (a b : St) (A B C D : Option Addr) (ca cb cc cd : Nat) (w : World) (h : (a.k == b.k && decide (1 ≤ a.k ∧ a.k ≤ 4)) = false) :
    Calls Tryz.prog 16 #[.agg #[.int .i64 a.k, .slice A a.sp.length ca, .bool a.al, .slice B a.ws.length cb, .int .i64 a.b, .bool a.nul], .agg #[.int .i64 b.k, .slice C b.sp.length cc, .bool b.al, .slice D b.ws.length cd, .int .i64 b.b, .bool b.nul]] w fun e w' => e = .returned (.tuple #[.agg #[.int .i64 0, .slice none 0 0, .bool false, .slice none 0 0, .int .i64 0, .bool false], .int .i64 1]) ∧ Below w.heap.size w w' := by
  by_cases hk : a.k = b.k
  · have hd : decide (1 ≤ a.k ∧ a.k ≤ 4) = false := by rw [hk] at h ⊢; simpa using h
    have e1 : (a.k != b.k) = false := by simp [hk]
    clear h hk
    go_enter Tryz.func16, Tryz.ntmps16
    go_wp2_with fail
    have K2 : BoxIs (((w.alloc (.cells #[.int .i64 a.k, .slice A a.sp.length ca, .bool a.al, .slice B a.ws.length cb, .int .i64 a.b, .bool a.nul] 36)).alloc (.cells #[.int .i64 b.k, .slice C b.sp.length cc, .bool b.al, .slice D b.ws.length cd, .int .i64 b.b, .bool b.nul] 36)).alloc (.cells #[.int .i64 0, .slice none 0 0, .bool false, .slice none 0 0, .int .i64 0, .bool false] 36)) (w.heap.size + 2) #[.int .i64 0, .slice none 0 0, .bool false, .slice none 0 0, .int .i64 0, .bool false] := BoxIs.new (by simp)
    refine (kind_any a.k _).mono ?_
    rintro e w1 ⟨rfl, hb1⟩
    rw [hd]
    have K2 := K2.below hb1
    have z1 := K2.c
    have f1 := K2.f
    have l1 := K2.lt
    have hbw : Below w.heap.size w w1 := bel
    clear hb1
    go_wp2_with fail
    refine bodyPost_ret (v := .tuple #[.agg #[.int .i64 0, .slice none 0 0, .bool false, .slice none 0 0, .int .i64 0, .bool false], .int .i64 1]) (by simp [results, Tryz.results16, go_sem, *]) rfl ⟨rfl, bel⟩
  · have e1 : (a.k != b.k) = true := by simpa using hk
    clear h hk
    go_enter Tryz.func16, Tryz.ntmps16
    go_wp2_with fail
    refine bodyPost_ret (v := .tuple #[.agg #[.int .i64 0, .slice none 0 0, .bool false, .slice none 0 0, .int .i64 0, .bool false], .int .i64 1]) (by simp [results, Tryz.results16, go_sem, *]) rfl ⟨rfl, bel⟩
set_option maxRecDepth 100000 in
set_option maxHeartbeats 6400000 in
theorem setMeet2_any (a b : St) (N M : Nat) (A B C D : Option Addr) (ca cb cc cd : Nat) (w : World) (hk : a.k = b.k) (hKd : 1 ≤ a.k ∧ a.k ≤ 4) (hA : StAt w a A B) (hB : StAt w b C D) (oa : StOk N a) (ob : StOk M b) (hN : N ≤ 4000000000000) (hM : M ≤ 4000000000000) (hNM : N * M ≤ 8000000000000) (hE : Env w) :
    Calls Tryz.prog 16 #[.agg #[.int .i64 a.k, .slice A a.sp.length ca, .bool a.al, .slice B a.ws.length cb, .int .i64 a.b, .bool a.nul], .agg #[.int .i64 b.k, .slice C b.sp.length cc, .bool b.al, .slice D b.ws.length cd, .int .i64 b.b, .bool b.nul]] w fun e w' => ∃ (r : St) (X Y : Option Addr) (cx cy : Nat), e = .returned (.tuple #[.agg #[.int .i64 r.k, .slice X r.sp.length cx, .bool r.al, .slice Y r.ws.length cy, .int .i64 r.b, .bool r.nul], .int .i64 0]) ∧ StAt w' r X Y ∧ Is (a.sg.meet b.sg) r ∧ StOk (N + M) r ∧ (r.al = true → a.al = true ∧ b.al = true) ∧ Below w.heap.size w w' := by
  have hkk : a.sg.k = b.sg.k := hk
  have hd : decide (1 ≤ a.k ∧ a.k ≤ 4) = true := decide_eq_true hKd
  have e1 : (a.k != b.k) = false := by simp [hk]
  have HK0 := Lib.hid hk
  have HA := Lib.hid hA
  have HB := Lib.hid hB
  have HE := Lib.hid hE
  clear hA hB hE hk
  go_enter Tryz.func16, Tryz.ntmps16
  go_wp2_with fail
  have K0 : BoxIs (((w.alloc (.cells #[.int .i64 a.k, .slice A a.sp.length ca, .bool a.al, .slice B a.ws.length cb, .int .i64 a.b, .bool a.nul] 36)).alloc (.cells #[.int .i64 b.k, .slice C b.sp.length cc, .bool b.al, .slice D b.ws.length cd, .int .i64 b.b, .bool b.nul] 36)).alloc (.cells #[.int .i64 0, .slice none 0 0, .bool false, .slice none 0 0, .int .i64 0, .bool false] 36)) w.heap.size #[.int .i64 a.k, .slice A a.sp.length ca, .bool a.al, .slice B a.ws.length cb, .int .i64 a.b, .bool a.nul] := ((BoxIs.new rfl).alloc _).alloc _
  have K1 : BoxIs (((w.alloc (.cells #[.int .i64 a.k, .slice A a.sp.length ca, .bool a.al, .slice B a.ws.length cb, .int .i64 a.b, .bool a.nul] 36)).alloc (.cells #[.int .i64 b.k, .slice C b.sp.length cc, .bool b.al, .slice D b.ws.length cd, .int .i64 b.b, .bool b.nul] 36)).alloc (.cells #[.int .i64 0, .slice none 0 0, .bool false, .slice none 0 0, .int .i64 0, .bool false] 36)) (w.heap.size + 1) #[.int .i64 b.k, .slice C b.sp.length cc, .bool b.al, .slice D b.ws.length cd, .int .i64 b.b, .bool b.nul] := (BoxIs.new (by simp)).alloc _
  have K2 : BoxIs (((w.alloc (.cells #[.int .i64 a.k, .slice A a.sp.length ca, .bool a.al, .slice B a.ws.length cb, .int .i64 a.b, .bool a.nul] 36)).alloc (.cells #[.int .i64 b.k, .slice C b.sp.length cc, .bool b.al, .slice D b.ws.length cd, .int .i64 b.b, .bool b.nul] 36)).alloc (.cells #[.int .i64 0, .slice none 0 0, .bool false, .slice none 0 0, .int .i64 0, .bool false] 36)) (w.heap.size + 2) #[.int .i64 0, .slice none 0 0, .bool false, .slice none 0 0, .int .i64 0, .bool false] := BoxIs.new (by simp)
  refine (kind_any a.k _).mono ?_
  rintro e W0 ⟨rfl, hb1⟩
  rw [hd]
  have K0 := K0.below hb1
  have K1 := K1.below hb1
  have K2 := K2.below hb1
  have hbw0 : Below w.heap.size w W0 := bel
  have HS0 : Hid (w.heap.size + 3 ≤ W0.heap.size) := Lib.hid (by have := K2.lt; omega)
  clear hb1
  go_wp2_with fail
  have hA0 := HA.out.below hbw0
  have hB0' := HB.out.below hbw0
  have hE0' := HE.out.below hbw0
  have HK : ∀ w', Below (w.heap.size + 2) W0 w' → Below (w.heap.size + 2) W0 w' ∧ (∀ o, w'.cell? ⟨w.heap.size, o, none⟩ = (#[.int .i64 a.k, .slice A a.sp.length ca, .bool a.al, .slice B a.ws.length cb, .int .i64 a.b, .bool a.nul] : Array Value)[o]?) ∧ (∀ o, w'.cell? ⟨w.heap.size + 1, o, none⟩ = (#[.int .i64 b.k, .slice C b.sp.length cc, .bool b.al, .slice D b.ws.length cd, .int .i64 b.b, .bool b.nul] : Array Value)[o]?) := fun w' hb => ⟨hb, (K0.low hb (by omega)).c, (K1.low hb (by omega)).c⟩
  refine wp_region_held_drew (S := (fun w' => Below (w.heap.size + 2) W0 w' ∧ (∀ o, w'.cell? ⟨w.heap.size, o, none⟩ = (#[.int .i64 a.k, .slice A a.sp.length ca, .bool a.al, .slice B a.ws.length cb, .int .i64 a.b, .bool a.nul] : Array Value)[o]?) ∧ (∀ o, w'.cell? ⟨w.heap.size + 1, o, none⟩ = (#[.int .i64 b.k, .slice C b.sp.length cc, .bool b.al, .slice D b.ws.length cd, .int .i64 b.b, .bool b.nul] : Array Value)[o]?))) (by kernel_rfl) (HK _ (Below.drew (Below.refl _ _))) (fun hHeld => ?_)
  refine tkH 0 ?_
  try simp only [shH]
  refine tkH 2 ?_
  try simp only [shH]
  refine rdH [1] ?_
  refine AllReadyH.cons rfl (fun K hK => ?_) AllReadyH.nil
  go_simp
  go_at_call 46
  refine (tidy_any a N A B ca cb _ (hA0.below bel) oa (by omega) (hE0'.below bel)).mono ?_
  rintro e w1 ⟨r1, X1, Y1, cx1, cy1, rfl, hR1, i1, ok1, al1, hb1⟩
  have AL1 := Lib.hid al1
  clear al1
  have hB1 : Below W0.heap.size W0 w1 := (by first | exact hb1 | exact undrew hb1)
  refine hK.out _ _ ?_ (fun hH2 => ?_)
  · exact HK _ (Below.mono hB1 (by have := HS0.out; omega))
  clear hK K hHeld
  have hHeld := hH2
  clear hH2
  try simp only [shH]
  refine rdH [3] ?_
  refine AllReadyH.cons rfl (fun K hK => ?_) AllReadyH.nil
  go_simp
  go_at_call 46
  refine (tidy_any b M C D cc cd _ (hB0'.below hB1) ob (by omega) (hE0'.below hB1)).mono ?_
  rintro e w2 ⟨r2, X2, Y2, cx2, cy2, rfl, hR2, i2, ok2, al2, hb2⟩
  have AL2 := Lib.hid al2
  clear al2
  have hB2 : Below W0.heap.size W0 w2 := hB1.trans (hb2.mono hB1.size)
  refine hK.out _ _ ?_ (fun hH2 => ?_)
  · exact HK _ (Below.mono hB2 (by have := HS0.out; omega))
  clear hK K hHeld
  have hHeld := hH2
  clear hH2
  try simp only [shH]
  refine rdH [4] ?_
  refine AllReadyH.cons rfl (fun K hK => ?_) AllReadyH.nil
  go_simp
  go_at_call 47
  refine (setMeet_any r1 r2 a.sg b.sg N M X1 Y1 X2 Y2 cx1 cy1 cx2 cy2 _ (hR1.below hb2) hR2 i1 i2 hkk ok1 ok2 (by omega) (by omega) hNM (hE0'.below hB2)).mono ?_
  rintro e w3 ⟨r3, X3, Y3, cx3, cy3, rfl, hR3, i3, ok3, al3, hb3⟩
  have AL3 := Lib.hid al3
  clear al3
  have hB3 : Below W0.heap.size W0 w3 := hB2.trans (hb3.mono hB2.size)
  refine hK.out _ _ ?_ (fun hH2 => ?_)
  · exact HK _ (Below.mono hB3 (by have := HS0.out; omega))
  clear hK K hHeld
  have hHeld := hH2
  clear hH2
  try simp only [shH]
  refine rdH [5] ?_
  refine AllReadyH.cons rfl (fun K hK => ?_) AllReadyH.nil
  go_simp
  go_at_call 46
  refine (tidy_any r3 (N + M) X3 Y3 cx3 cy3 _ hR3 ok3 (by omega) (hE0'.below hB3)).mono ?_
  rintro e w4 ⟨r, X, Y, cx, cy, rfl, hR, ir, okr, alr, hb4⟩
  have ALR := Lib.hid alr
  clear alr
  have hB4 : Below W0.heap.size W0 w4 := hB3.trans (hb4.mono hB3.size)
  have hB5 := hB4.mono (show w.heap.size + 2 ≤ W0.heap.size by have := HS0.out; omega)
  have K24 := K2.below hB4
  have c4 := K24.c
  have f4 := K24.f
  have l4 := K24.lt
  refine hK.out _ _ ?_ (fun hH2 => ?_)
  · exact HK _ (Below.mono hB4 (by have := HS0.out; omega))
  clear hK K hHeld
  have hHeld := hH2
  clear hH2
  try simp only [shH]
  refine rdH [6] ?_
  refine AllReadyH.cons rfl (fun K hK => ?_) AllReadyH.nil
  go_simp
  refine hK.out _ _ ?_ (fun hH2 => ?_)
  · exact HK _ bel
  clear hK K hHeld
  have hHeld := hH2
  clear hH2
  try simp only [shH]
  refine tkH 7 ?_
  try simp only [shH]
  refine dnH ?_ _
  clear hHeld
  (try simp only [Exit.then, Exit.inBlock])
  have hbw4 : Below w.heap.size w w4 := hbw0.trans (hB4.mono hbw0.size)
  rw [i3.sg_eq (by show 1 ≤ a.k ∧ a.k ≤ 4; exact hKd)] at ir
  have HAL : Hid (r.al = true → a.al = true ∧ b.al = true) := Lib.hid (fun h => by
    rw [ALR.out, Bool.and_eq_true, AL3.out, Bool.and_eq_true, AL1.out, AL2.out, Bool.and_eq_true, Bool.and_eq_true] at h
    exact ⟨h.2.1.2, h.2.2.2⟩)
  clear hB1 hB2 hB3 hB4 hB5 hb2 hb3 hb4 HK K0 K1 hA0 hB0' hE0' hR1 hR2 hR3 i1 i2 i3 ok1 ok2 ok3 AL1 AL2 AL3 ALR
  go_wp2_with fail
  refine bodyPost_ret (v := .tuple #[.agg #[.int .i64 r.k, .slice X r.sp.length cx, .bool r.al, .slice Y r.ws.length cy, .int .i64 r.b, .bool r.nul], .int .i64 0]) (by simp [results, Tryz.results16, go_sem, *]) rfl ⟨r, X, Y, cx, cy, rfl, hR.free K24 (setLike _ _ _ _ _ _ _ _ _ _) six_other, ir, okr, HAL.out, bel⟩
end Go.Proofs.YtankkadnhdfpfaaGreatDoor

/- soffit/sets.Meet, once more: the lists that it gives lie in memory of the call's own. -/
set_option linter.unusedSimpArgs false
set_option linter.unusedVariables false
namespace Go.Proofs.YtankkadnhdfpfaaGreatDoor
open Go.RowKit Sp Wd

set_option maxRecDepth 100000 in
set_option maxHeartbeats 6400000 in
theorem meetF_any (a b : St) (N M : Nat) (A B C D : Option Addr) (ca cb cc cd : Nat) (w : World) (hk : a.k = b.k) (hKd : 1 ≤ a.k ∧ a.k ≤ 4) (hA : StAt w a A B) (hB : StAt w b C D) (oa : StOk N a) (ob : StOk M b) (hN : N ≤ 4000000000000) (hM : M ≤ 4000000000000) (hNM : N * M ≤ 8000000000000) (hE : Env w) :
    Calls Tryz.prog 16 #[.agg #[.int .i64 a.k, .slice A a.sp.length ca, .bool a.al, .slice B a.ws.length cb, .int .i64 a.b, .bool a.nul], .agg #[.int .i64 b.k, .slice C b.sp.length cc, .bool b.al, .slice D b.ws.length cd, .int .i64 b.b, .bool b.nul]] w fun e w' => ∃ (r : St) (X Y : Option Addr) (cx cy : Nat), e = .returned (.tuple #[.agg #[.int .i64 r.k, .slice X r.sp.length cx, .bool r.al, .slice Y r.ws.length cy, .int .i64 r.b, .bool r.nul], .int .i64 0]) ∧ StAt w' r X Y ∧ Is (a.sg.meet b.sg) r ∧ StOk (N + M) r ∧ r.al = ((a.k == 2 && a.al) && (b.k == 2 && b.al)) ∧ FrSt w.heap.size r X Y ∧ Below w.heap.size w w' := by
  have hkk : a.sg.k = b.sg.k := hk
  have hd : decide (1 ≤ a.k ∧ a.k ≤ 4) = true := decide_eq_true hKd
  have e1 : (a.k != b.k) = false := by simp [hk]
  have HK0 := Lib.hid hk
  have HA := Lib.hid hA
  have HB := Lib.hid hB
  have HE := Lib.hid hE
  clear hA hB hE hk
  go_enter Tryz.func16, Tryz.ntmps16
  go_wp2_with fail
  have K0 : BoxIs (((w.alloc (.cells #[.int .i64 a.k, .slice A a.sp.length ca, .bool a.al, .slice B a.ws.length cb, .int .i64 a.b, .bool a.nul] 36)).alloc (.cells #[.int .i64 b.k, .slice C b.sp.length cc, .bool b.al, .slice D b.ws.length cd, .int .i64 b.b, .bool b.nul] 36)).alloc (.cells #[.int .i64 0, .slice none 0 0, .bool false, .slice none 0 0, .int .i64 0, .bool false] 36)) w.heap.size #[.int .i64 a.k, .slice A a.sp.length ca, .bool a.al, .slice B a.ws.length cb, .int .i64 a.b, .bool a.nul] := ((BoxIs.new rfl).alloc _).alloc _
  have K1 : BoxIs (((w.alloc (.cells #[.int .i64 a.k, .slice A a.sp.length ca, .bool a.al, .slice B a.ws.length cb, .int .i64 a.b, .bool a.nul] 36)).alloc (.cells #[.int .i64 b.k, .slice C b.sp.length cc, .bool b.al, .slice D b.ws.length cd, .int .i64 b.b, .bool b.nul] 36)).alloc (.cells #[.int .i64 0, .slice none 0 0, .bool false, .slice none 0 0, .int .i64 0, .bool false] 36)) (w.heap.size + 1) #[.int .i64 b.k, .slice C b.sp.length cc, .bool b.al, .slice D b.ws.length cd, .int .i64 b.b, .bool b.nul] := (BoxIs.new (by simp)).alloc _
  have K2 : BoxIs (((w.alloc (.cells #[.int .i64 a.k, .slice A a.sp.length ca, .bool a.al, .slice B a.ws.length cb, .int .i64 a.b, .bool a.nul] 36)).alloc (.cells #[.int .i64 b.k, .slice C b.sp.length cc, .bool b.al, .slice D b.ws.length cd, .int .i64 b.b, .bool b.nul] 36)).alloc (.cells #[.int .i64 0, .slice none 0 0, .bool false, .slice none 0 0, .int .i64 0, .bool false] 36)) (w.heap.size + 2) #[.int .i64 0, .slice none 0 0, .bool false, .slice none 0 0, .int .i64 0, .bool false] := BoxIs.new (by simp)
  refine (kind_any a.k _).mono ?_
  rintro e W0 ⟨rfl, hb1⟩
  rw [hd]
  have K0 := K0.below hb1
  have K1 := K1.below hb1
  have K2 := K2.below hb1
  have hbw0 : Below w.heap.size w W0 := bel
  have HS0 : Hid (w.heap.size + 3 ≤ W0.heap.size) := Lib.hid (by have := K2.lt; omega)
  clear hb1
  go_wp2_with fail
  have hA0 := HA.out.below hbw0
  have hB0' := HB.out.below hbw0
  have hE0' := HE.out.below hbw0
  have HK : ∀ w', Below (w.heap.size + 2) W0 w' → Below (w.heap.size + 2) W0 w' ∧ (∀ o, w'.cell? ⟨w.heap.size, o, none⟩ = (#[.int .i64 a.k, .slice A a.sp.length ca, .bool a.al, .slice B a.ws.length cb, .int .i64 a.b, .bool a.nul] : Array Value)[o]?) ∧ (∀ o, w'.cell? ⟨w.heap.size + 1, o, none⟩ = (#[.int .i64 b.k, .slice C b.sp.length cc, .bool b.al, .slice D b.ws.length cd, .int .i64 b.b, .bool b.nul] : Array Value)[o]?) := fun w' hb => ⟨hb, (K0.low hb (by omega)).c, (K1.low hb (by omega)).c⟩
  refine wp_region_held_drew (S := (fun w' => Below (w.heap.size + 2) W0 w' ∧ (∀ o, w'.cell? ⟨w.heap.size, o, none⟩ = (#[.int .i64 a.k, .slice A a.sp.length ca, .bool a.al, .slice B a.ws.length cb, .int .i64 a.b, .bool a.nul] : Array Value)[o]?) ∧ (∀ o, w'.cell? ⟨w.heap.size + 1, o, none⟩ = (#[.int .i64 b.k, .slice C b.sp.length cc, .bool b.al, .slice D b.ws.length cd, .int .i64 b.b, .bool b.nul] : Array Value)[o]?))) (by kernel_rfl) (HK _ (Below.drew (Below.refl _ _))) (fun hHeld => ?_)
  refine tkH 0 ?_
  try simp only [shH]
  refine tkH 2 ?_
  try simp only [shH]
  refine rdH [1] ?_
  refine AllReadyH.cons rfl (fun K hK => ?_) AllReadyH.nil
  go_simp
  go_at_call 46
  refine (tidy_any a N A B ca cb _ (hA0.below bel) oa (by omega) (hE0'.below bel)).mono ?_
  rintro e w1 ⟨r1, X1, Y1, cx1, cy1, rfl, hR1, i1, ok1, al1, hb1⟩
  have AL1 := Lib.hid al1
  clear al1
  have hB1 : Below W0.heap.size W0 w1 := (by first | exact hb1 | exact undrew hb1)
  refine hK.out _ _ ?_ (fun hH2 => ?_)
  · exact HK _ (Below.mono hB1 (by have := HS0.out; omega))
  clear hK K hHeld
  have hHeld := hH2
  clear hH2
  try simp only [shH]
  refine rdH [3] ?_
  refine AllReadyH.cons rfl (fun K hK => ?_) AllReadyH.nil
  go_simp
  go_at_call 46
  refine (tidy_any b M C D cc cd _ (hB0'.below hB1) ob (by omega) (hE0'.below hB1)).mono ?_
  rintro e w2 ⟨r2, X2, Y2, cx2, cy2, rfl, hR2, i2, ok2, al2, hb2⟩
  have AL2 := Lib.hid al2
  clear al2
  have hB2 : Below W0.heap.size W0 w2 := hB1.trans (hb2.mono hB1.size)
  refine hK.out _ _ ?_ (fun hH2 => ?_)
  · exact HK _ (Below.mono hB2 (by have := HS0.out; omega))
  clear hK K hHeld
  have hHeld := hH2
  clear hH2
  try simp only [shH]
  refine rdH [4] ?_
  refine AllReadyH.cons rfl (fun K hK => ?_) AllReadyH.nil
  go_simp
  go_at_call 47
  refine (setMeet_any r1 r2 a.sg b.sg N M X1 Y1 X2 Y2 cx1 cy1 cx2 cy2 _ (hR1.below hb2) hR2 i1 i2 hkk ok1 ok2 (by omega) (by omega) hNM (hE0'.below hB2)).mono ?_
  rintro e w3 ⟨r3, X3, Y3, cx3, cy3, rfl, hR3, i3, ok3, al3, hb3⟩
  have AL3 := Lib.hid al3
  clear al3
  have hB3 : Below W0.heap.size W0 w3 := hB2.trans (hb3.mono hB2.size)
  refine hK.out _ _ ?_ (fun hH2 => ?_)
  · exact HK _ (Below.mono hB3 (by have := HS0.out; omega))
  clear hK K hHeld
  have hHeld := hH2
  clear hH2
  try simp only [shH]
  refine rdH [5] ?_
  refine AllReadyH.cons rfl (fun K hK => ?_) AllReadyH.nil
  go_simp
  go_at_call 46
  refine (tidyF_any r3 (N + M) X3 Y3 cx3 cy3 _ hR3 ok3 (by omega) (hE0'.below hB3)).mono ?_
  rintro e w4 ⟨r, X, Y, cx, cy, rfl, hR, ir, okr, alr, fr4, hb4⟩
  have ALR := Lib.hid alr
  clear alr
  have hB4 : Below W0.heap.size W0 w4 := hB3.trans (hb4.mono hB3.size)
  have hB5 := hB4.mono (show w.heap.size + 2 ≤ W0.heap.size by have := HS0.out; omega)
  have K24 := K2.below hB4
  have c4 := K24.c
  have f4 := K24.f
  have l4 := K24.lt
  refine hK.out _ _ ?_ (fun hH2 => ?_)
  · exact HK _ (Below.mono hB4 (by have := HS0.out; omega))
  clear hK K hHeld
  have hHeld := hH2
  clear hH2
  try simp only [shH]
  refine rdH [6] ?_
  refine AllReadyH.cons rfl (fun K hK => ?_) AllReadyH.nil
  go_simp
  refine hK.out _ _ ?_ (fun hH2 => ?_)
  · exact HK _ bel
  clear hK K hHeld
  have hHeld := hH2
  clear hH2
  try simp only [shH]
  refine tkH 7 ?_
  try simp only [shH]
  refine dnH ?_ _
  clear hHeld
  (try simp only [Exit.then, Exit.inBlock])
  have hbw4 : Below w.heap.size w w4 := hbw0.trans (hB4.mono hbw0.size)
  rw [i3.sg_eq (by show 1 ≤ a.k ∧ a.k ≤ 4; exact hKd)] at ir
  have FR4 := Lib.hid (fr4.mono (Nat.le_trans hbw0.size hB3.size))
  have HAL : Hid (r.al = ((a.k == 2 && a.al) && (b.k == 2 && b.al))) := Lib.hid (by
    have e3 : r3.k = a.k := i3.k
    rw [ALR.out, AL3.out, AL1.out, AL2.out, e3, HK0.out]
    cases (b.k == 2) <;> cases a.al <;> cases b.al <;> rfl)
  clear fr4
  clear hB1 hB2 hB3 hB4 hB5 hb2 hb3 hb4 HK K0 K1 hA0 hB0' hE0' hR1 hR2 hR3 i1 i2 i3 ok1 ok2 ok3 AL1 AL2 AL3 ALR
  go_wp2_with fail
  refine bodyPost_ret (v := .tuple #[.agg #[.int .i64 r.k, .slice X r.sp.length cx, .bool r.al, .slice Y r.ws.length cy, .int .i64 r.b, .bool r.nul], .int .i64 0]) (by simp [results, Tryz.results16, go_sem, *]) rfl ⟨r, X, Y, cx, cy, rfl, hR.free K24 (setLike _ _ _ _ _ _ _ _ _ _) six_other, ir, okr, HAL.out, FR4.out, bel⟩
end Go.Proofs.YtankkadnhdfpfaaGreatDoor
