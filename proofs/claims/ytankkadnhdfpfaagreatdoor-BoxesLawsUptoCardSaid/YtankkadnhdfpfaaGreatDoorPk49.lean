import Derived.Test.YtankkadnhdfpfaaGreatDoorPk41
/- soffit/boxes.Join: walked. -/
set_option linter.unusedSimpArgs false
set_option linter.unusedVariables false
namespace Go.Proofs.YtankkadnhdfpfaaGreatDoor
open Go.RowKit Sp Wd

/-- each box met with itself -/
noncomputable def selfM (xs : List (List St)) : List (List St) := xs.map fun x => meetK x x
set_option maxRecDepth 100000 in
set_option maxHeartbeats 6400000 in
theorem bxJoin_any (xa xb : List BxArg) (n : Int) (A D : Option Addr) (ca cb : Nat) (w : World) (hA : BoxesAt w A xa) (hB : BoxesAt w D xb) (h1 : xa.length ≤ 12) (h2 : xb.length ≤ 12) (ho : ∀ x ∈ xa ++ xb, x.l.length ≤ 1048576) (hO : ∀ x ∈ xa ++ xb, ∀ s ∈ x.l, StOk 1048600 s.s) (hE : Env w) :
    Calls Tryz.prog 31 #[.slice A xa.length ca, .slice D xb.length cb, .int .i64 n] w fun e w' => ∃ (R : List BxArg) (C : Option Addr) (c : Nat) (m : Int), e = .returned (.tuple #[.slice C R.length c, .int .i64 m]) ∧ BagRes w' (budB n && alikeB (xa ++ xb)) (budM n) (selfM (keysOf (xa ++ xb))) (∀ x ∈ xa ++ xb, MetOk x.l x.l) R C m ∧ Below w.heap.size w w' := by
  have HA := Lib.hid hA
  have HB := Lib.hid hB
  have HO20 := Lib.hid ho
  have HOK := Lib.hid hO
  have HE := Lib.hid hE
  have HN1 := Lib.hid h1
  have HN2 := Lib.hid h2
  obtain ⟨p, hp⟩ : ∃ p, xa.length = p := ⟨_, rfl⟩
  obtain ⟨q, hq⟩ : ∃ q, xb.length = q := ⟨_, rfl⟩
  have HP := Lib.hid hp
  have HQ := Lib.hid hq
  have p12 : p ≤ 12 := by omega
  have q12 : q ≤ 12 := by omega
  have HML := Lib.hid (bud_le n)
  have HMP := Lib.hid (fun h => bud_pos (n := n) h)
  rw [hp, hq]
  obtain ⟨OK, hOK⟩ : ∃ OK, (budB n && alikeB (xa ++ xb)) = OK := ⟨_, rfl⟩
  rw [hOK]
  have HOKE := Lib.hid hOK
  have HAL := fun (W : World) (B : Nat) p0 p1 h1 h2 => Lib.hid (alike_any xa xb B A D ca cb W p0 p1 h1 h2 ho (by omega))
  rw [hp, hq] at HAL
  obtain ⟨ALL, hALL⟩ : ∃ ALL, selfM (keysOf (xa ++ xb)) = ALL := ⟨_, rfl⟩
  have HALL := Lib.hid hALL
  rw [hALL]
  obtain ⟨MT, hMT⟩ : ∃ MT : Prop, (∀ x ∈ xa ++ xb, MetOk x.l x.l) = MT := ⟨_, rfl⟩
  have HMTE := Lib.hid hMT
  rw [hMT]
  clear hMT
  have HBUD := budget_any n
  generalize budM n = M at *
  have h4 := HML.out
  clear hA hB ho hO hE h1 h2 hp hq hOK hALL
  go_enter Tryz.func31, Tryz.ntmps31
  go_wp2_with fail
  refine (HBUD _).mono ?_
  rintro e w1 ⟨rfl, hb1⟩
  clear HBUD
  cases hbud : budB n
  · have HF : Hid (OK = false) := Lib.hid (by rw [← HOKE.out, hbud]; rfl)
    clear hbud
    go_wp2_with fail
    refine bodyPost_ret (v := .tuple #[.slice none 0 0, .int .i64 1]) (by simp [results, Tryz.results31, go_sem, *]) rfl ⟨[], none, 0, 1, rfl, .inr (.inl ⟨rfl, HF.out, rfl⟩), hb1⟩
  have HMN := Lib.hid (HMP.out hbud)
  have HBD := Lib.hid hbud
  clear hbud HMP
  go_wp2_with fail
  generalize hX1 : World.alloc w1 _ = W1
  have hbW1 : Below w1.heap.size w1 W1 := (by rw [← hX1]; exact Below.alloc (Below.refl _ _) (Nat.le_refl _) _)
  have KX : BoxIs W1 w1.heap.size #[.slice A p ca, .slice D q cb] := (by rw [← hX1]; exact BoxIs.new (t := 49) rfl)
  have hB1 : Below w.heap.size w W1 := hb1.trans (hbW1.mono hb1.size)
  clear hX1
  refine (HAL W1 w1.heap.size (KX.c 0) (KX.c 1) (HA.out.below hB1) (HB.out.below hB1)).out.mono ?_
  rintro e w2 ⟨rfl, hb2⟩
  have hB2 : Below w.heap.size w w2 := hB1.trans (hb2.mono hB1.size)
  clear HAL KX hbW1 hb1 hb2 hB1
  cases hal : alikeB (xa ++ xb)
  · have HF : Hid (OK = false) := Lib.hid (by rw [← HOKE.out, hal, HBD.out]; rfl)
    clear hal
    go_wp2_with fail
    refine bodyPost_ret (v := .tuple #[.slice none 0 0, .int .i64 1]) (by simp [results, Tryz.results31, go_sem, *]) rfl ⟨[], none, 0, 1, rfl, .inr (.inl ⟨rfl, HF.out, rfl⟩), hB2⟩
  have HT : Hid (OK = true) := Lib.hid (by rw [← HOKE.out, hal, HBD.out]; rfl)
  have HLIKE : Hid (∀ x y : BxArg, x ∈ xa ++ xb → y ∈ xa ++ xb → kindsOf x.l = kindsOf y.l ∧ ∀ s ∈ x.l, 1 ≤ s.s.k ∧ s.s.k ≤ 4) := Lib.hid (fun x y hx hy => alike_all hal hx hy)
  clear hal HOKE HBD
  go_upto_region 5 with fail
  generalize hX3 : World.alloc w2 _ = W3
  have hb3 : Below w.heap.size w W3 := (by rw [← hX3]; exact bel)
  have KB : BoxIs W3 w2.heap.size #[.slice none 0 0, .int .i64 M] := (by rw [← hX3]; exact BoxIs.new (t := 110) rfl)
  obtain ⟨bg, hbg⟩ : ∃ bg, w2.heap.size = bg := ⟨_, rfl⟩
  have hwb : w.heap.size ≤ bg := by have := hB2.size; omega
  rw [hbg] at KB
  rw [hbg]
  have HBG0 : Hid (BagIs W3 bg (bg + 1) (.slice none 0 0) [] M) := Lib.hid ⟨KB, World.ownsRow_nil _ _ _ _, by omega, by simp, by simp⟩
  have hs3 : bg + 1 ≤ W3.heap.size := KB.lt
  clear hX3 hbg hB2 KB
  go_wp2_with fail
  generalize hX4 : World.alloc W3 _ = W4
  have hbW4 : Below W3.heap.size W3 W4 := (by rw [← hX4]; exact Below.alloc (Below.refl _ _) (Nat.le_refl _) _)
  have KX : BoxIs W4 W3.heap.size #[.slice A p ca, .slice D q cb] := (by rw [← hX4]; exact BoxIs.new (t := 49) rfl)
  have hB4 : Below w.heap.size w W4 := hb3.trans (hbW4.mono hb3.size)
  have hcc := Lib.hid (concatL W3.heap.size A D xa xb ca cb W4 (by rw [HP.out]; exact KX.c 0) (by rw [HQ.out]; exact KX.c 1) (HA.out.rd.below hB4) (HB.out.rd.below hB4) (by rw [HP.out, HQ.out]; omega))
  clear hX4
  refine hcc.out.mono ?_
  rintro e w6 ⟨A', c', rfl, hr, hfr, hb6⟩
  have hbx : Below W3.heap.size W3 w6 := hbW4.trans (hb6.mono hbW4.size)
  obtain ⟨bs, hbs⟩ : ∃ bs, w6.heap.size = bs := ⟨_, rfl⟩
  have HBG6 : Hid (BagIs w6 bg bs (.slice none 0 0) [] M) := Lib.hid ⟨(HBG0.out.below hbx).box, World.ownsRow_nil _ _ _ _, by have := hbx.size; omega, by simp, by simp⟩
  have hs6 : bs ≤ w6.heap.size := by omega
  have HFR : Hid (∀ p, A' = some p → p.block ≠ bg) := Lib.hid (fun p hp e => by have h1 := hfr p hp; have h2 := hbW4.size; omega)
  have HBS := Lib.hid hbs
  have hbl6 : Below w.heap.size w w6 := hB4.trans (hb6.mono hB4.size)
  obtain ⟨r, hrl⟩ : ∃ r, (xa ++ xb).length = r := ⟨_, rfl⟩
  have HRL := Lib.hid hrl
  have HR := Lib.hid hr
  have HBX := Lib.hid (fun (x : BxArg) (hx : x ∈ xa ++ xb) => (List.mem_append.1 hx).elim (HA.out.bx x) (HB.out.bx x))
  have r24 : r ≤ 24 := by rw [← hrl, List.length_append, HP.out, HQ.out]; omega
  rw [hrl]
  have HKEP : Hid (∀ b, b < bs → b ≠ bg → w6.heap[b]? = w6.heap[b]?) := Lib.hid (fun _ _ _ => rfl)
  clear hcc KX hbW4 hB4 hb6 hb3 hs3 HBG0 hr hrl hbx hbs hfr
  generalize xa ++ xb = xs at *
  have HB6 := Lib.hid hbl6
  go_wp2_with fail
  go_loopg [34] r (fun k iv wr => ∃ (L : List BxArg) (v : Value) (i : Nat), i ≤ r ∧ r - i ≤ k ∧ iv = .int .i64 i ∧ Hid (BagIs wr bg bs v L M) ∧ Hid (∀ y ∈ L, GoodBx y) ∧ Hid ((L.length : Int) ≤ M) ∧ Hid (bagOf [] ALL = bagOf (keysOf L) (selfM ((keysOf xs).drop i))) ∧ Hid (∀ j', j' < i → ∀ x', xs[j']? = some x' → MetOk x'.l x'.l) ∧ bs ≤ wr.heap.size ∧ Below w.heap.size w wr ∧ Hid (∀ b, b < bs → b ≠ bg → wr.heap[b]? = w6.heap[b]?))
  case atStart => exact ⟨[], _, 0, by omega, by omega, rfl, HBG6, Lib.hid (by simp), HMN, Lib.hid (by rw [List.drop_zero, HALL.out]; rfl), Lib.hid (fun j' h => absurd h (by omega)), hs6, hbl6, Lib.hid (fun _ _ _ => rfl)⟩
  case round =>
    clear HBG6 hs6 hbl6 HMN HKEP
    obtain ⟨L, v, i, hi, hik, rfl, HBG, HGOOD, HLM, HREST, HMET, hs3, hbel, HKEP⟩ := hrel
    by_cases hlti : i < r
    · have i5 : (i : Int) < (r : Int) := by omega
      have i6 : (0 : Int) ≤ (i : Int) := by omega
      have hil : i < xs.length := by rw [HRL.out]; exact hlti
      have hdr := keys_drop hil
      have hym := List.getElem_mem hil
      have hYa := HBX.out _ hym
      have hye := List.getElem?_eq_getElem hil
      have hqq := HRL.out
      obtain ⟨b2, o2, hA2, hx2⟩ := HR.out.at_ hil
      have hne := HFR.out _ hA2
      generalize xs[i]'hil = x at *
      subst hA2
      have y0 := hx2.get 0 (v := .slice x.A x.l.length x.c) rfl
      have hlt2 := cell_lt y0
      have y0 := (World.cell?_of_block (a := ⟨b2, o2 + i * 1 + 0, none⟩) (HKEP.out b2 (by rw [← HBS.out]; exact hlt2) hne)).trans y0
      have y0 : wr.cell? ⟨b2, o2 + i, none⟩ = some (.slice x.A x.l.length x.c) := by simpa using y0
      have HYM := Lib.hid hym
      have HYE := Lib.hid hye
      have HDR := Lib.hid hdr
      have hXa := hYa
      clear hdr hym hqq hx2 hil hye hne hlt2
      have HXA := Lib.hid hXa
      have HYA := Lib.hid hYa
      clear hXa hYa
      obtain ⟨hln, hkq⟩ := kinds_get (HLIKE.out _ _ HYM.out HYM.out).1
      have hk4 := (HLIKE.out _ _ HYM.out HYM.out).2
      have HL12 := Lib.hid hln
      have HK4 := Lib.hid hk4
      have HKQ := Lib.hid hkq
      have hx20 := HO20.out _ HYM.out
      have HOX := Lib.hid (HOK.out _ HYM.out)
      have HOY := Lib.hid (HOK.out _ HYM.out)
      clear hln hkq hk4
      go_wp2_with fail
      refine (both_any x.l x.l 1048600 1048600 x.A x.A x.c x.c _ (HXA.out.below hbel) (HYA.out.below hbel) rfl hx20 (fun j h1 h2 => ⟨rfl, HK4.out _ (List.getElem_mem h1)⟩) HOX.out HOY.out (by omega) (by omega) (by omega) (HE.out.below hbel)).mono ?_
      rintro e w4 ⟨Lm, G, rfl, hG, hll, hrd, hst, hmi, hb4⟩
      have hbl4 : Below w.heap.size w w4 := hbel.trans (hb4.mono hbel.size)
      have HKEP4 : Hid (∀ b, b < bs → w4.heap[b]? = wr.heap[b]?) := Lib.hid (fun b h1 => hb4.block b (by omega))
      have HBG4 := Lib.hid (HBG.out.below hb4)
      have hGB : bg < G := by have := HBG.out.box.lt; omega
      have HGD : Hid (GoodBx ⟨Lm, some ⟨G, 0, none⟩, Lm.length⟩) := Lib.hid (good_both hll rfl hx20 HK4.out hmi)
      have HKY : Hid (keyOf Lm = meetK (keyOf x.l) (keyOf x.l)) := Lib.hid (meetK_eq rfl hll hmi)
      have HMT : Hid (MetOk x.l x.l) := Lib.hid ⟨rfl, Lm, hll, hmi⟩
      have HAT : Hid (BoxAt w4 (some ⟨G, 0, none⟩) Lm) := Lib.hid ⟨hrd, fun s hs => (hst s hs).1, by omega⟩
      have HFA : Hid (BoxFar (some bg) ⟨Lm, some ⟨G, 0, none⟩, Lm.length⟩ ∧ BoxFar v.ownBlock ⟨Lm, some ⟨G, 0, none⟩, Lm.length⟩) := Lib.hid ⟨far_both hGB (fun s hs => (hst s hs).2), far_own HBG.out.own hG (fun s hs => (hst s hs).2)⟩
      have hs4 : bs ≤ w4.heap.size := Nat.le_trans hs3 hb4.size
      clear hll hrd hst hmi hb4 hG hGB HBG hx20 hbel hs3 HXA HYA HL12 HK4 HKQ HOX HOY
      go_wp2_with fail
      refine (put_any bg bs v L M ⟨Lm, some ⟨G, 0, none⟩, Lm.length⟩ 2097200 _ HBG4.out hs4 HAT.out HFA.out (fun s hs => (HGD.out.2 s hs).1) (fun y hy s hs => ((HGOOD.out y hy).2 s hs).1) (by omega) (by have := HLM.out; have := HML.out; omega) HLM.out (HE.out.below hbl4)).mono ?_
      rintro e w5 ⟨v', L', rfl, hbag, hkeys, hmem, hfar, hb5⟩
      have hbl5 : Below w.heap.size w w5 := hbl4.trans (hb5.mono hwb)
      have hs5 : bs ≤ w5.heap.size := Nat.le_trans hs4 hb5.size
      have HKEP5 : Hid (∀ b, b < bs → b ≠ bg → w5.heap[b]? = w6.heap[b]?) := Lib.hid (fun b h1 h2 => ((hfar b h1 h2).trans (HKEP4.out b h1)).trans (HKEP.out b h1 h2))
      have HBG5 := Lib.hid hbag
      have HGOOD5 : Hid (∀ y ∈ L', GoodBx y) := Lib.hid (fun y hy => (hmem y hy).elim (HGOOD.out y) (fun e => by rw [e]; exact HGD.out))
      have HMET5 : Hid (∀ j', j' < (i + 1) → ∀ x', xs[j']? = some x' → MetOk x'.l x'.l) := Lib.hid (fun i' h y' hy' => by
          by_cases hi' : i' = i
          · subst hi'
            rw [HYE.out] at hy'
            cases hy'
            exact HMT.out
          · exact HMET.out i' (by omega) y' hy')
      have HREST5 : Hid (bagOf [] ALL = bagOf (keysOf L') (selfM ((keysOf xs).drop (i + 1)))) := Lib.hid (by rw [hkeys, HREST.out]; show _ = bagOf (bagAdd (keysOf L) (keyOf Lm)) _; rw [HKY.out]; rw [HDR.out]; rfl)
      obtain ⟨E, hE⟩ : ∃ E, decide ((L'.length : Int) ≤ M) = E := ⟨_, rfl⟩
      rw [hE]
      have HEE := Lib.hid hE
      clear hfar hE hbag hkeys hmem hb5 hbl4 hs4 HBG4 HGD HKY HAT HFA HREST HGOOD HLM HMET HMT
      cases E
      · have HMANY : Hid (M < ((bagOf [] ALL).length : Int)) := Lib.hid (by
          rw [HREST5.out]
          have h1 := (bagOf_len (selfM ((keysOf xs).drop (i + 1))) (keysOf L')).1
          rw [keys_len] at h1
          have h2 := of_decide_eq_false HEE.out
          omega)
        go_wp2_with fail
        refine bodyPost_ret (v := .tuple #[.slice none 0 0, .int .i64 15]) (by simp [results, Tryz.results31, go_sem, *]) rfl ⟨[], none, 0, 15, rfl, .inr (.inr ⟨rfl, HT.out, rfl, HMANY.out⟩), hbl5⟩
      have HLM5 := Lib.hid (of_decide_eq_true HEE.out)
      clear HEE
      go_wp2_with fail
      go_roundg (r - (i + 1))
      case measure => omega
      case rel => exact ⟨L', v', i + 1, by omega, Nat.le_refl _, by go_num, HBG5, HGOOD5, HLM5, HREST5, HMET5, hs5, hbl5, HKEP5⟩
    · have i1 : ¬ (i : Int) < (r : Int) := by omega
      have hfin : bagOf [] ALL = keysOf L := HREST.out.trans (by rw [keys_end (by rw [HRL.out]; exact hlti)]; rfl)
      have HFIN := Lib.hid hfin
      have HMTP : Hid (∀ x ∈ xs, MetOk x.l x.l) := Lib.hid (fun x hx => by
        obtain ⟨j1, hj1, rfl⟩ := List.getElem_of_mem hx
        exact HMET.out j1 (by have := HRL.out; omega) _ (List.getElem?_eq_getElem hj1))
      obtain ⟨C, c, rfl, hrd⟩ := HBG.out.val
      have HRD := Lib.hid hrd
      have kb := HBG.out.box.c
      have lb := HBG.out.box.lt
      clear hrd hfin
      go_wp2_with fail
      refine bodyPost_ret (v := .tuple #[.slice C L.length c, .int .i64 0]) (by simp [results, Tryz.results31, go_sem, *]) rfl ⟨L, C, c, 0, rfl, .inl ⟨rfl, HT.out, ⟨HRD.out, HBG.out.bx, by have := HLM.out; have := HML.out; omega⟩, HFIN.out.symm, HLM.out, HGOOD.out, by rw [← HMTE.out]; exact HMTP.out⟩, hbel⟩
end Go.Proofs.YtankkadnhdfpfaaGreatDoor

/- What Meet and Join give has: plain. -/
set_option linter.unusedSimpArgs false
set_option linter.unusedVariables false
namespace Go.Proofs.YtankkadnhdfpfaaGreatDoor
open Go.RowKit Sp Wd

theorem metOk_key {x y : List StArg} (h : MetOk x y) (hk : ∀ j (h1 : j < x.length) (h2 : j < y.length), (x[j]'h1).s.k = (y[j]'h2).s.k ∧ (1 ≤ (x[j]'h1).s.k ∧ (x[j]'h1).s.k ≤ 4)) (ts : List TyArg) (vs : List Vl) : kindK (meetK (keyOf x) (keyOf y)) ∧ hasK ts (meetK (keyOf x) (keyOf y)) vs = (hasAll ts x vs && hasAll ts y vs) := by
  obtain ⟨h12, L, hl, hm⟩ := h
  rw [← meetK_eq h12 hl hm, ← hasAll_key, meetAll_has ts vs h12 hl hk hm]
  refine ⟨fun s hs => ?_, rfl⟩
  unfold keyOf at hs
  obtain ⟨z, hz, rfl⟩ := List.mem_map.1 hs
  obtain ⟨j, hj, rfl⟩ := List.getElem_of_mem hz
  have h3 : (L[j]'hj).s.k = (x[j]'(by omega)).s.k := (hm j (by omega) (by omega) hj).is.k
  rw [h3]
  exact (hk j (by omega) (by omega)).2
theorem join_has {l : List BxArg} (hm : ∀ x ∈ l, MetOk x.l x.l) (h4 : ∀ x ∈ l, ∀ s ∈ x.l, 1 ≤ s.s.k ∧ s.s.k ≤ 4) (ts : List TyArg) (vs : List Vl) : (bagOf [] (selfM (keysOf l))).any (fun k => hasK ts k vs) = anyBox ts l vs := by
  have key : ∀ x ∈ l, kindK (meetK (keyOf x.l) (keyOf x.l)) ∧ hasK ts (meetK (keyOf x.l) (keyOf x.l)) vs = hasAll ts x.l vs := fun x hx => by
    have := metOk_key (hm x hx) (fun j h1 h2 => ⟨rfl, h4 x hx _ (List.getElem_mem h1)⟩) ts vs
    rw [Bool.and_self] at this
    exact this
  rw [bagOf_has]
  · unfold selfM keysOf anyBox
    rw [List.map_map, List.any_map, Bool.eq_iff_iff, List.any_eq_true, List.any_eq_true]
    constructor
    · rintro ⟨x, hx, h⟩
      exact ⟨x, hx, by rw [← (key x hx).2]; exact h⟩
    · rintro ⟨x, hx, h⟩
      exact ⟨x, hx, by show hasK ts (meetK (keyOf x.l) (keyOf x.l)) vs = true; rw [(key x hx).2]; exact h⟩
  · intro k hk
    unfold selfM keysOf at hk
    rw [List.map_map] at hk
    obtain ⟨x, hx, rfl⟩ := List.mem_map.1 hk
    exact (key x hx).1
theorem self_len (l : List BxArg) : (selfM (keysOf l)).length = l.length := by unfold selfM keysOf; rw [List.length_map, List.length_map]
theorem any_app (ts : List TyArg) (a b : List BxArg) (vs : List Vl) : anyBox ts (a ++ b) vs = (anyBox ts a vs || anyBox ts b vs) := by unfold anyBox; rw [List.any_append]
/-- none of a bag's boxes is empty -/
theorem bag_full {R : List BxArg} {all : List (List St)} (h : keysOf R = bagOf [] all) : ∀ x ∈ R, emptyK (keyOf x.l) = false := fun x hx => by
  have h1 : keyOf x.l ∈ keysOf R := List.mem_map.2 ⟨x, hx, rfl⟩
  rw [h, bagOf_mem] at h1
  rcases h1 with h1 | h1
  · cases h1
  · exact h1.2
theorem good_bd {R : List BxArg} (h : ∀ x ∈ R, GoodBx x) : ∀ b ∈ R, ∀ x ∈ b.l, x.s.sp.length ≤ 9223372036854775807 ∧ x.s.ws.length ≤ 9223372036854775807 := fun b hb x hx => by
  have h1 := ((h b hb).2 x hx).1
  have h2 := h1.ls
  have h3 := h1.lw
  exact ⟨by omega, by omega⟩
theorem bag_len {R : List BxArg} {all : List (List St)} (h : keysOf R = bagOf [] all) : R.length = (bagOf [] all).length := by rw [← h, keys_len]
end Go.Proofs.YtankkadnhdfpfaaGreatDoor

/- The order of two lists of boxes does not matter: plain. -/
set_option linter.unusedSimpArgs false
set_option linter.unusedVariables false
namespace Go.Proofs.YtankkadnhdfpfaaGreatDoor
open Go.RowKit Sp Wd

theorem alike_iff (l : List BxArg) : alikeB l = true ↔ ∀ x ∈ l, ∀ y ∈ l, kindsOf x.l = kindsOf y.l ∧ ∀ s ∈ x.l, 1 ≤ s.s.k ∧ s.s.k ≤ 4 := by
  constructor
  · exact fun h x hx y hy => alike_all h hx hy
  · intro h
    cases l with
    | nil => rfl
    | cons z r =>
      show (!((z :: r).any (notLike (kindsOf z.l)))) = true
      rw [Bool.not_eq_true', List.any_eq_false]
      intro x hx
      obtain ⟨h1, h2⟩ := h x hx z (by simp)
      unfold notLike
      have hb : x.l.any badK = false := by
        rw [List.any_eq_false]
        intro s hs
        unfold badK
        rw [decide_eq_true (h2 s hs)]; simp
      rw [h1, hb]; simp
theorem alike_mem {a b : List BxArg} (h : ∀ x, x ∈ a → x ∈ b) (hb : alikeB b = true) : alikeB a = true := (alike_iff a).2 (fun x hx y hy => (alike_iff b).1 hb x (h x hx) y (h y hy))
theorem alike_comm (a b : List BxArg) : alikeB (a ++ b) = alikeB (b ++ a) := by
  rw [Bool.eq_iff_iff]
  exact ⟨alike_mem (fun x hx => by rw [List.mem_append] at hx ⊢; exact hx.symm), alike_mem (fun x hx => by rw [List.mem_append] at hx ⊢; exact hx.symm)⟩
theorem meet_comm {g h : Sg} (hk : g.k = h.k) : g.meet h = h.meet g := by
  unfold Sg.meet
  rw [hk, Bool.and_comm g.f, Bool.and_comm g.t, Bool.and_comm g.nul]
  congr 1
  · funext n; exact Bool.and_comm _ _
  · funext x; exact Bool.and_comm _ _
theorem meetS_comm {a b : St} (hk : a.k = b.k) : meetS a b = meetS b a := by
  unfold meetS
  have h : (fun r => Is (a.sg.meet b.sg) r ∧ r.al = ((a.k == 2 && a.al) && (b.k == 2 && b.al))) = (fun r => Is (b.sg.meet a.sg) r ∧ r.al = ((b.k == 2 && b.al) && (a.k == 2 && a.al))) := by
    funext r
    rw [meet_comm (g := a.sg) (h := b.sg) hk, Bool.and_comm (a.k == 2 && a.al)]
  rw [h]
theorem meetK_comm : ∀ {a b : List St}, a.map (·.k) = b.map (·.k) → meetK a b = meetK b a
  | [], [], _ => rfl
  | x :: a, y :: b, h => by
    rw [List.map_cons, List.map_cons, List.cons.injEq] at h
    show meetS x y :: meetK a b = meetS y x :: meetK b a
    rw [meetS_comm h.1, meetK_comm h.2]
  | [], _ :: _, h => by simp at h
  | _ :: _, [], h => by simp at h
theorem key_kinds (l : List StArg) : (keyOf l).map (·.k) = kindsOf l := by unfold keyOf kindsOf; rw [List.map_map]; rfl
theorem allM_mem {a b : List BxArg} {k : List St} : k ∈ allM (keysOf a) (keysOf b) ↔ ∃ x ∈ a, ∃ y ∈ b, k = meetK (keyOf x.l) (keyOf y.l) := by
  unfold allM rowM keysOf
  rw [List.mem_flatMap]
  constructor
  · rintro ⟨u, hu, hk⟩
    obtain ⟨x, hx, rfl⟩ := List.mem_map.1 hu
    obtain ⟨v, hv, rfl⟩ := List.mem_map.1 hk
    obtain ⟨y, hy, rfl⟩ := List.mem_map.1 hv
    exact ⟨x, hx, y, hy, rfl⟩
  · rintro ⟨x, hx, y, hy, rfl⟩
    exact ⟨_, List.mem_map.2 ⟨x, hx, rfl⟩, List.mem_map.2 ⟨_, List.mem_map.2 ⟨y, hy, rfl⟩, rfl⟩⟩
theorem allM_comm {a b : List BxArg} (h : alikeB (a ++ b) = true) (k : List St) : k ∈ allM (keysOf a) (keysOf b) ↔ k ∈ allM (keysOf b) (keysOf a) := by
  have key : ∀ x ∈ a, ∀ y ∈ b, meetK (keyOf x.l) (keyOf y.l) = meetK (keyOf y.l) (keyOf x.l) := fun x hx y hy =>
    meetK_comm (by rw [key_kinds, key_kinds]; exact (alike_all h (List.mem_append_left _ hx) (List.mem_append_right _ hy)).1)
  rw [allM_mem, allM_mem]
  constructor
  · rintro ⟨x, hx, y, hy, rfl⟩; exact ⟨y, hy, x, hx, key x hx y hy⟩
  · rintro ⟨y, hy, x, hx, rfl⟩; exact ⟨x, hx, y, hy, (key x hx y hy).symm⟩
theorem selfM_comm (a b : List BxArg) (k : List St) : k ∈ selfM (keysOf (a ++ b)) ↔ k ∈ selfM (keysOf (b ++ a)) := by
  unfold selfM keysOf
  rw [List.map_append, List.map_append, List.map_append, List.map_append, List.mem_append, List.mem_append]
  exact Or.comm
theorem allM_len (a b : List BxArg) (ha : a.length ≤ 12) (hb : b.length ≤ 12) : ((bagOf [] (allM (keysOf a) (keysOf b))).length : Int) ≤ 144 := by
  have h1 := (bagOf_len (allM (keysOf a) (keysOf b)) []).2
  have h2 : (allM (keysOf a) (keysOf b)).length = a.length * b.length := by
    unfold allM
    rw [List.length_flatMap]
    have : ((keysOf a).map fun x => (rowM x (keysOf b)).length) = (keysOf a).map fun _ => b.length := by
      apply List.map_congr_left
      intro x _
      unfold rowM; rw [List.length_map, keys_len]
    rw [this, List.map_const', List.sum_replicate_nat, keys_len]
  rw [h2, List.length_nil] at h1
  have := Nat.mul_le_mul ha hb
  omega
theorem bag_same {X Y : List BxArg} {a b : List (List St)} (hX : keysOf X = bagOf [] a) (hY : keysOf Y = bagOf [] b) (h : ∀ k, k ∈ a ↔ k ∈ b) (ts : List TyArg) (vs : List Vl) : X.length = Y.length ∧ anyBox ts X vs = anyBox ts Y vs := by
  obtain ⟨h1, h2⟩ := bagOf_same h
  refine ⟨by rw [bag_len hX, bag_len hY, h1], ?_⟩
  rw [anyBox_key, anyBox_key, hX, hY]
  exact any_same _ h2
/-- what Meet and Join give where they may give all -/
theorem res_all {w' : World} {ok : Bool} {all : List (List St)} {mt : Prop} {R : List BxArg} {C : Option Addr} {m : Int} (h : BagRes w' ok (budM (-1)) all mt R C m) (hok : ok = true) (hl : ((bagOf [] all).length : Int) ≤ 144) : m = 0 ∧ BoxesAt w' C R ∧ keysOf R = bagOf [] all ∧ (∀ x ∈ R, GoodBx x) ∧ mt := by
  rcases h with ⟨h1, -, h2, h3, -, h4, h5⟩ | ⟨-, h, -⟩ | ⟨-, -, -, h⟩
  · exact ⟨h1, h2, h3, h4, h5⟩
  · rw [hok] at h; cases h
  · have : budM (-1) = 4096 := rfl
    rw [this] at h; omega
theorem res_no {w' : World} {ok : Bool} {M : Int} {all : List (List St)} {mt : Prop} {R : List BxArg} {C : Option Addr} {m : Int} (h : BagRes w' ok M all mt R C m) (hok : ok = false) : m = 1 ∧ R = [] := by
  rcases h with ⟨-, h, -⟩ | ⟨h1, -, h2⟩ | ⟨-, h, -⟩
  · rw [hok] at h; cases h
  · exact ⟨h1, h2⟩
  · rw [hok] at h; cases h
theorem self_bd (l : List BxArg) (h : l.length ≤ 24) : ((bagOf [] (selfM (keysOf l))).length : Int) ≤ 144 := by
  have h1 := (bagOf_len (selfM (keysOf l)) []).2
  rw [self_len, List.length_nil] at h1
  omega
end Go.Proofs.YtankkadnhdfpfaaGreatDoor
