import Derived.Test.YtankkadnhdfpfaaGreatDoorPk41
import Derived.Test.YtankkadnhdfpfaaGreatDoorPk30
import Derived.Test.YtankkadnhdfpfaaGreatDoorPk01
import Derived.Test.YtankkadnhdfpfaaGreatDoorPk32
import Derived.Test.YtankkadnhdfpfaaGreatDoorPk42
import Derived.Test.YtankkadnhdfpfaaGreatDoorPk44
import Derived.Test.YtankkadnhdfpfaaGreatDoorPk47
import Derived.Test.YtankkadnhdfpfaaGreatDoorPk50
/- soffit/boxes.Join: walked. -/
set_option linter.unusedSimpArgs false
set_option linter.unusedVariables false
namespace Go.Proofs.YtankkadnhdfpfaaGreatDoor
open Go.RowKit Sp Wd

/-- each box met with itself -/
noncomputable def selfM (xs : List (List St)) : List (List St) := xs.map fun x => meetK x x
set_option maxRecDepth 100000 in
set_option maxHeartbeats 6400000 in
theorem bxJoin_any (xa xb : List BxArg) (n : Int) (A D : Option Addr) (ca cb : Nat) (w : World) (hA : BoxesAt w A xa) (hB : BoxesAt w D xb) (h1 : xa.length ≤ 12) (h2 : xb.length ≤ 12) (ho : ∀ x ∈ xa ++ xb, x.l.length ≤ 1048576) (hO : ∀ x ∈ xa ++ xb, ∀ s ∈ x.l, StOk 1048600 s.s) (hE : Env w) :
    Calls Tryz.prog 31 #[.slice A xa.length ca, .slice D xb.length cb, .int .i64 n] w fun e w' => ∃ (R : List BxArg) (C : Option Addr) (c : Nat) (m : Int), e = .returned (.tuple #[.slice C R.length c, .int .i64 m]) ∧ BagRes w' (budB n && alikeB (xa ++ xb)) (budM n) (selfM (keysOf (xa ++ xb))) (∀ x ∈ xa ++ xb, MetOk x.l x.l) R C m ∧ Below w.heap.size w w' := by
  have HA := Lib.hid hA
  have HB := Lib.hid hB
  have HO20 := Lib.hid ho
  have HOK := Lib.hid hO
  have HE := Lib.hid hE
  have HN1 := Lib.hid h1
  have HN2 := Lib.hid h2
  obtain ⟨p, hp⟩ : ∃ p, xa.length = p := ⟨_, rfl⟩
  obtain ⟨q, hq⟩ : ∃ q, xb.length = q := ⟨_, rfl⟩
  have HP := Lib.hid hp
  have HQ := Lib.hid hq
  have p12 : p ≤ 12 := by omega
  have q12 : q ≤ 12 := by omega
  have HML := Lib.hid (bud_le n)
  have HMP := Lib.hid (fun h => bud_pos (n := n) h)
  rw [hp, hq]
  obtain ⟨OK, hOK⟩ : ∃ OK, (budB n && alikeB (xa ++ xb)) = OK := ⟨_, rfl⟩
  rw [hOK]
  have HOKE := Lib.hid hOK
  have HAL := fun (W : World) (B : Nat) p0 p1 h1 h2 => Lib.hid (alike_any xa xb B A D ca cb W p0 p1 h1 h2 ho (by omega))
  rw [hp, hq] at HAL
  obtain ⟨ALL, hALL⟩ : ∃ ALL, selfM (keysOf (xa ++ xb)) = ALL := ⟨_, rfl⟩
  have HALL := Lib.hid hALL
  rw [hALL]
  obtain ⟨MT, hMT⟩ : ∃ MT : Prop, (∀ x ∈ xa ++ xb, MetOk x.l x.l) = MT := ⟨_, rfl⟩
  have HMTE := Lib.hid hMT
  rw [hMT]
  clear hMT
  have HBUD := budget_any n
  generalize budM n = M at *
  have h4 := HML.out
  clear hA hB ho hO hE h1 h2 hp hq hOK hALL
  go_enter Tryz.func31, Tryz.ntmps31
  go_wp2_with fail
  refine (HBUD _).mono ?_
  rintro e w1 ⟨rfl, hb1⟩
  clear HBUD
  cases hbud : budB n
  · have HF : Hid (OK = false) := Lib.hid (by rw [← HOKE.out, hbud]; rfl)
    clear hbud
    go_wp2_with fail
    refine bodyPost_ret (v := .tuple #[.slice none 0 0, .int .i64 1]) (by simp [results, Tryz.results31, go_sem, *]) rfl ⟨[], none, 0, 1, rfl, .inr (.inl ⟨rfl, HF.out, rfl⟩), hb1⟩
  have HMN := Lib.hid (HMP.out hbud)
  have HBD := Lib.hid hbud
  clear hbud HMP
  go_wp2_with fail
  generalize hX1 : World.alloc w1 _ = W1
  have hbW1 : Below w1.heap.size w1 W1 := (by rw [← hX1]; exact Below.alloc (Below.refl _ _) (Nat.le_refl _) _)
  have KX : BoxIs W1 w1.heap.size #[.slice A p ca, .slice D q cb] := (by rw [← hX1]; exact BoxIs.new (t := 49) rfl)
  have hB1 : Below w.heap.size w W1 := hb1.trans (hbW1.mono hb1.size)
  clear hX1
  refine (HAL W1 w1.heap.size (KX.c 0) (KX.c 1) (HA.out.below hB1) (HB.out.below hB1)).out.mono ?_
  rintro e w2 ⟨rfl, hb2⟩
  have hB2 : Below w.heap.size w w2 := hB1.trans (hb2.mono hB1.size)
  clear HAL KX hbW1 hb1 hb2 hB1
  cases hal : alikeB (xa ++ xb)
  · have HF : Hid (OK = false) := Lib.hid (by rw [← HOKE.out, hal, HBD.out]; rfl)
    clear hal
    go_wp2_with fail
    refine bodyPost_ret (v := .tuple #[.slice none 0 0, .int .i64 1]) (by simp [results, Tryz.results31, go_sem, *]) rfl ⟨[], none, 0, 1, rfl, .inr (.inl ⟨rfl, HF.out, rfl⟩), hB2⟩
  have HT : Hid (OK = true) := Lib.hid (by rw [← HOKE.out, hal, HBD.out]; rfl)
  have HLIKE : Hid (∀ x y : BxArg, x ∈ xa ++ xb → y ∈ xa ++ xb → kindsOf x.l = kindsOf y.l ∧ ∀ s ∈ x.l, 1 ≤ s.s.k ∧ s.s.k ≤ 4) := Lib.hid (fun x y hx hy => alike_all hal hx hy)
  clear hal HOKE HBD
  go_upto_region 5 with fail
  generalize hX3 : World.alloc w2 _ = W3
  have hb3 : Below w.heap.size w W3 := (by rw [← hX3]; exact bel)
  have KB : BoxIs W3 w2.heap.size #[.slice none 0 0, .int .i64 M] := (by rw [← hX3]; exact BoxIs.new (t := 110) rfl)
  obtain ⟨bg, hbg⟩ : ∃ bg, w2.heap.size = bg := ⟨_, rfl⟩
  have hwb : w.heap.size ≤ bg := by have := hB2.size; omega
  rw [hbg] at KB
  rw [hbg]
  have HBG0 : Hid (BagIs W3 bg (bg + 1) (.slice none 0 0) [] M) := Lib.hid ⟨KB, World.ownsRow_nil _ _ _ _, by omega, by simp, by simp⟩
  have hs3 : bg + 1 ≤ W3.heap.size := KB.lt
  clear hX3 hbg hB2 KB
  go_wp2_with fail
  generalize hX4 : World.alloc W3 _ = W4
  have hbW4 : Below W3.heap.size W3 W4 := (by rw [← hX4]; exact Below.alloc (Below.refl _ _) (Nat.le_refl _) _)
  have KX : BoxIs W4 W3.heap.size #[.slice A p ca, .slice D q cb] := (by rw [← hX4]; exact BoxIs.new (t := 49) rfl)
  have hB4 : Below w.heap.size w W4 := hb3.trans (hbW4.mono hb3.size)
  have hcc := Lib.hid (concatL W3.heap.size A D xa xb ca cb W4 (by rw [HP.out]; exact KX.c 0) (by rw [HQ.out]; exact KX.c 1) (HA.out.rd.below hB4) (HB.out.rd.below hB4) (by rw [HP.out, HQ.out]; omega))
  clear hX4
  refine hcc.out.mono ?_
  rintro e w6 ⟨A', c', rfl, hr, hfr, hb6⟩
  have hbx : Below W3.heap.size W3 w6 := hbW4.trans (hb6.mono hbW4.size)
  obtain ⟨bs, hbs⟩ : ∃ bs, w6.heap.size = bs := ⟨_, rfl⟩
  have HBG6 : Hid (BagIs w6 bg bs (.slice none 0 0) [] M) := Lib.hid ⟨(HBG0.out.below hbx).box, World.ownsRow_nil _ _ _ _, by have := hbx.size; omega, by simp, by simp⟩
  have hs6 : bs ≤ w6.heap.size := by omega
  have HFR : Hid (∀ p, A' = some p → p.block ≠ bg) := Lib.hid (fun p hp e => by have h1 := hfr p hp; have h2 := hbW4.size; omega)
  have HBS := Lib.hid hbs
  have hbl6 : Below w.heap.size w w6 := hB4.trans (hb6.mono hB4.size)
  obtain ⟨r, hrl⟩ : ∃ r, (xa ++ xb).length = r := ⟨_, rfl⟩
  have HRL := Lib.hid hrl
  have HR := Lib.hid hr
  have HBX := Lib.hid (fun (x : BxArg) (hx : x ∈ xa ++ xb) => (List.mem_append.1 hx).elim (HA.out.bx x) (HB.out.bx x))
  have r24 : r ≤ 24 := by rw [← hrl, List.length_append, HP.out, HQ.out]; omega
  rw [hrl]
  have HKEP : Hid (∀ b, b < bs → b ≠ bg → w6.heap[b]? = w6.heap[b]?) := Lib.hid (fun _ _ _ => rfl)
  clear hcc KX hbW4 hB4 hb6 hb3 hs3 HBG0 hr hrl hbx hbs hfr
  generalize xa ++ xb = xs at *
  have HB6 := Lib.hid hbl6
  go_wp2_with fail
  go_loopg [34] r (fun k iv wr => ∃ (L : List BxArg) (v : Value) (i : Nat), i ≤ r ∧ r - i ≤ k ∧ iv = .int .i64 i ∧ Hid (BagIs wr bg bs v L M) ∧ Hid (∀ y ∈ L, GoodBx y) ∧ Hid ((L.length : Int) ≤ M) ∧ Hid (bagOf [] ALL = bagOf (keysOf L) (selfM ((keysOf xs).drop i))) ∧ Hid (∀ j', j' < i → ∀ x', xs[j']? = some x' → MetOk x'.l x'.l) ∧ bs ≤ wr.heap.size ∧ Below w.heap.size w wr ∧ Hid (∀ b, b < bs → b ≠ bg → wr.heap[b]? = w6.heap[b]?))
  case atStart => exact ⟨[], _, 0, by omega, by omega, rfl, HBG6, Lib.hid (by simp), HMN, Lib.hid (by rw [List.drop_zero, HALL.out]; rfl), Lib.hid (fun j' h => absurd h (by omega)), hs6, hbl6, Lib.hid (fun _ _ _ => rfl)⟩
  case round =>
    clear HBG6 hs6 hbl6 HMN HKEP
    obtain ⟨L, v, i, hi, hik, rfl, HBG, HGOOD, HLM, HREST, HMET, hs3, hbel, HKEP⟩ := hrel
    by_cases hlti : i < r
    · have i5 : (i : Int) < (r : Int) := by omega
      have i6 : (0 : Int) ≤ (i : Int) := by omega
      have hil : i < xs.length := by rw [HRL.out]; exact hlti
      have hdr := keys_drop hil
      have hym := List.getElem_mem hil
      have hYa := HBX.out _ hym
      have hye := List.getElem?_eq_getElem hil
      have hqq := HRL.out
      obtain ⟨b2, o2, hA2, hx2⟩ := HR.out.at_ hil
      have hne := HFR.out _ hA2
      generalize xs[i]'hil = x at *
      subst hA2
      have y0 := hx2.get 0 (v := .slice x.A x.l.length x.c) rfl
      have hlt2 := cell_lt y0
      have y0 := (World.cell?_of_block (a := ⟨b2, o2 + i * 1 + 0, none⟩) (HKEP.out b2 (by rw [← HBS.out]; exact hlt2) hne)).trans y0
      have y0 : wr.cell? ⟨b2, o2 + i, none⟩ = some (.slice x.A x.l.length x.c) := by simpa using y0
      have HYM := Lib.hid hym
      have HYE := Lib.hid hye
      have HDR := Lib.hid hdr
      have hXa := hYa
      clear hdr hym hqq hx2 hil hye hne hlt2
      have HXA := Lib.hid hXa
      have HYA := Lib.hid hYa
      clear hXa hYa
      obtain ⟨hln, hkq⟩ := kinds_get (HLIKE.out _ _ HYM.out HYM.out).1
      have hk4 := (HLIKE.out _ _ HYM.out HYM.out).2
      have HL12 := Lib.hid hln
      have HK4 := Lib.hid hk4
      have HKQ := Lib.hid hkq
      have hx20 := HO20.out _ HYM.out
      have HOX := Lib.hid (HOK.out _ HYM.out)
      have HOY := Lib.hid (HOK.out _ HYM.out)
      clear hln hkq hk4
      go_wp2_with fail
      refine (both_any x.l x.l 1048600 1048600 x.A x.A x.c x.c _ (HXA.out.below hbel) (HYA.out.below hbel) rfl hx20 (fun j h1 h2 => ⟨rfl, HK4.out _ (List.getElem_mem h1)⟩) HOX.out HOY.out (by omega) (by omega) (by omega) (HE.out.below hbel)).mono ?_
      rintro e w4 ⟨Lm, G, rfl, hG, hll, hrd, hst, hmi, hb4⟩
      have hbl4 : Below w.heap.size w w4 := hbel.trans (hb4.mono hbel.size)
      have HKEP4 : Hid (∀ b, b < bs → w4.heap[b]? = wr.heap[b]?) := Lib.hid (fun b h1 => hb4.block b (by omega))
      have HBG4 := Lib.hid (HBG.out.below hb4)
      have hGB : bg < G := by have := HBG.out.box.lt; omega
      have HGD : Hid (GoodBx ⟨Lm, some ⟨G, 0, none⟩, Lm.length⟩) := Lib.hid (good_both hll rfl hx20 HK4.out hmi)
      have HKY : Hid (keyOf Lm = meetK (keyOf x.l) (keyOf x.l)) := Lib.hid (meetK_eq rfl hll hmi)
      have HMT : Hid (MetOk x.l x.l) := Lib.hid ⟨rfl, Lm, hll, hmi⟩
      have HAT : Hid (BoxAt w4 (some ⟨G, 0, none⟩) Lm) := Lib.hid ⟨hrd, fun s hs => (hst s hs).1, by omega⟩
      have HFA : Hid (BoxFar (some bg) ⟨Lm, some ⟨G, 0, none⟩, Lm.length⟩ ∧ BoxFar v.ownBlock ⟨Lm, some ⟨G, 0, none⟩, Lm.length⟩) := Lib.hid ⟨far_both hGB (fun s hs => (hst s hs).2), far_own HBG.out.own hG (fun s hs => (hst s hs).2)⟩
      have hs4 : bs ≤ w4.heap.size := Nat.le_trans hs3 hb4.size
      clear hll hrd hst hmi hb4 hG hGB HBG hx20 hbel hs3 HXA HYA HL12 HK4 HKQ HOX HOY
      go_wp2_with fail
      refine (put_any bg bs v L M ⟨Lm, some ⟨G, 0, none⟩, Lm.length⟩ 2097200 _ HBG4.out hs4 HAT.out HFA.out (fun s hs => (HGD.out.2 s hs).1) (fun y hy s hs => ((HGOOD.out y hy).2 s hs).1) (by omega) (by have := HLM.out; have := HML.out; omega) HLM.out (HE.out.below hbl4)).mono ?_
      rintro e w5 ⟨v', L', rfl, hbag, hkeys, hmem, hfar, hb5⟩
      have hbl5 : Below w.heap.size w w5 := hbl4.trans (hb5.mono hwb)
      have hs5 : bs ≤ w5.heap.size := Nat.le_trans hs4 hb5.size
      have HKEP5 : Hid (∀ b, b < bs → b ≠ bg → w5.heap[b]? = w6.heap[b]?) := Lib.hid (fun b h1 h2 => ((hfar b h1 h2).trans (HKEP4.out b h1)).trans (HKEP.out b h1 h2))
      have HBG5 := Lib.hid hbag
      have HGOOD5 : Hid (∀ y ∈ L', GoodBx y) := Lib.hid (fun y hy => (hmem y hy).elim (HGOOD.out y) (fun e => by rw [e]; exact HGD.out))
      have HMET5 : Hid (∀ j', j' < (i + 1) → ∀ x', xs[j']? = some x' → MetOk x'.l x'.l) := Lib.hid (fun i' h y' hy' => by
          by_cases hi' : i' = i
          · subst hi'
            rw [HYE.out] at hy'
            cases hy'
            exact HMT.out
          · exact HMET.out i' (by omega) y' hy')
      have HREST5 : Hid (bagOf [] ALL = bagOf (keysOf L') (selfM ((keysOf xs).drop (i + 1)))) := Lib.hid (by rw [hkeys, HREST.out]; show _ = bagOf (bagAdd (keysOf L) (keyOf Lm)) _; rw [HKY.out]; rw [HDR.out]; rfl)
      obtain ⟨E, hE⟩ : ∃ E, decide ((L'.length : Int) ≤ M) = E := ⟨_, rfl⟩
      rw [hE]
      have HEE := Lib.hid hE
      clear hfar hE hbag hkeys hmem hb5 hbl4 hs4 HBG4 HGD HKY HAT HFA HREST HGOOD HLM HMET HMT
      cases E
      · have HMANY : Hid (M < ((bagOf [] ALL).length : Int)) := Lib.hid (by
          rw [HREST5.out]
          have h1 := (bagOf_len (selfM ((keysOf xs).drop (i + 1))) (keysOf L')).1
          rw [keys_len] at h1
          have h2 := of_decide_eq_false HEE.out
          omega)
        go_wp2_with fail
        refine bodyPost_ret (v := .tuple #[.slice none 0 0, .int .i64 15]) (by simp [results, Tryz.results31, go_sem, *]) rfl ⟨[], none, 0, 15, rfl, .inr (.inr ⟨rfl, HT.out, rfl, HMANY.out⟩), hbl5⟩
      have HLM5 := Lib.hid (of_decide_eq_true HEE.out)
      clear HEE
      go_wp2_with fail
      go_roundg (r - (i + 1))
      case measure => omega
      case rel => exact ⟨L', v', i + 1, by omega, Nat.le_refl _, by go_num, HBG5, HGOOD5, HLM5, HREST5, HMET5, hs5, hbl5, HKEP5⟩
    · have i1 : ¬ (i : Int) < (r : Int) := by omega
      have hfin : bagOf [] ALL = keysOf L := HREST.out.trans (by rw [keys_end (by rw [HRL.out]; exact hlti)]; rfl)
      have HFIN := Lib.hid hfin
      have HMTP : Hid (∀ x ∈ xs, MetOk x.l x.l) := Lib.hid (fun x hx => by
        obtain ⟨j1, hj1, rfl⟩ := List.getElem_of_mem hx
        exact HMET.out j1 (by have := HRL.out; omega) _ (List.getElem?_eq_getElem hj1))
      obtain ⟨C, c, rfl, hrd⟩ := HBG.out.val
      have HRD := Lib.hid hrd
      have kb := HBG.out.box.c
      have lb := HBG.out.box.lt
      clear hrd hfin
      go_wp2_with fail
      refine bodyPost_ret (v := .tuple #[.slice C L.length c, .int .i64 0]) (by simp [results, Tryz.results31, go_sem, *]) rfl ⟨L, C, c, 0, rfl, .inl ⟨rfl, HT.out, ⟨HRD.out, HBG.out.bx, by have := HLM.out; have := HML.out; omega⟩, HFIN.out.symm, HLM.out, HGOOD.out, by rw [← HMTE.out]; exact HMTP.out⟩, hbel⟩
end Go.Proofs.YtankkadnhdfpfaaGreatDoor

/- What Meet and Join give has: plain. -/
set_option linter.unusedSimpArgs false
set_option linter.unusedVariables false
namespace Go.Proofs.YtankkadnhdfpfaaGreatDoor
open Go.RowKit Sp Wd

theorem metOk_key {x y : List StArg} (h : MetOk x y) (hk : ∀ j (h1 : j < x.length) (h2 : j < y.length), (x[j]'h1).s.k = (y[j]'h2).s.k ∧ (1 ≤ (x[j]'h1).s.k ∧ (x[j]'h1).s.k ≤ 4)) (ts : List TyArg) (vs : List Vl) : kindK (meetK (keyOf x) (keyOf y)) ∧ hasK ts (meetK (keyOf x) (keyOf y)) vs = (hasAll ts x vs && hasAll ts y vs) := by
  obtain ⟨h12, L, hl, hm⟩ := h
  rw [← meetK_eq h12 hl hm, ← hasAll_key, meetAll_has ts vs h12 hl hk hm]
  refine ⟨fun s hs => ?_, rfl⟩
  unfold keyOf at hs
  obtain ⟨z, hz, rfl⟩ := List.mem_map.1 hs
  obtain ⟨j, hj, rfl⟩ := List.getElem_of_mem hz
  have h3 : (L[j]'hj).s.k = (x[j]'(by omega)).s.k := (hm j (by omega) (by omega) hj).is.k
  rw [h3]
  exact (hk j (by omega) (by omega)).2
theorem join_has {l : List BxArg} (hm : ∀ x ∈ l, MetOk x.l x.l) (h4 : ∀ x ∈ l, ∀ s ∈ x.l, 1 ≤ s.s.k ∧ s.s.k ≤ 4) (ts : List TyArg) (vs : List Vl) : (bagOf [] (selfM (keysOf l))).any (fun k => hasK ts k vs) = anyBox ts l vs := by
  have key : ∀ x ∈ l, kindK (meetK (keyOf x.l) (keyOf x.l)) ∧ hasK ts (meetK (keyOf x.l) (keyOf x.l)) vs = hasAll ts x.l vs := fun x hx => by
    have := metOk_key (hm x hx) (fun j h1 h2 => ⟨rfl, h4 x hx _ (List.getElem_mem h1)⟩) ts vs
    rw [Bool.and_self] at this
    exact this
  rw [bagOf_has]
  · unfold selfM keysOf anyBox
    rw [List.map_map, List.any_map, Bool.eq_iff_iff, List.any_eq_true, List.any_eq_true]
    constructor
    · rintro ⟨x, hx, h⟩
      exact ⟨x, hx, by rw [← (key x hx).2]; exact h⟩
    · rintro ⟨x, hx, h⟩
      exact ⟨x, hx, by show hasK ts (meetK (keyOf x.l) (keyOf x.l)) vs = true; rw [(key x hx).2]; exact h⟩
  · intro k hk
    unfold selfM keysOf at hk
    rw [List.map_map] at hk
    obtain ⟨x, hx, rfl⟩ := List.mem_map.1 hk
    exact (key x hx).1
theorem self_len (l : List BxArg) : (selfM (keysOf l)).length = l.length := by unfold selfM keysOf; rw [List.length_map, List.length_map]
theorem any_app (ts : List TyArg) (a b : List BxArg) (vs : List Vl) : anyBox ts (a ++ b) vs = (anyBox ts a vs || anyBox ts b vs) := by unfold anyBox; rw [List.any_append]
/-- none of a bag's boxes is empty -/
theorem bag_full {R : List BxArg} {all : List (List St)} (h : keysOf R = bagOf [] all) : ∀ x ∈ R, emptyK (keyOf x.l) = false := fun x hx => by
  have h1 : keyOf x.l ∈ keysOf R := List.mem_map.2 ⟨x, hx, rfl⟩
  rw [h, bagOf_mem] at h1
  rcases h1 with h1 | h1
  · cases h1
  · exact h1.2
theorem good_bd {R : List BxArg} (h : ∀ x ∈ R, GoodBx x) : ∀ b ∈ R, ∀ x ∈ b.l, x.s.sp.length ≤ 9223372036854775807 ∧ x.s.ws.length ≤ 9223372036854775807 := fun b hb x hx => by
  have h1 := ((h b hb).2 x hx).1
  have h2 := h1.ls
  have h3 := h1.lw
  exact ⟨by omega, by omega⟩
theorem bag_len {R : List BxArg} {all : List (List St)} (h : keysOf R = bagOf [] all) : R.length = (bagOf [] all).length := by rw [← h, keys_len]
end Go.Proofs.YtankkadnhdfpfaaGreatDoor

/- soffitlaw16.few: walked. -/
set_option linter.unusedSimpArgs false
set_option linter.unusedVariables false
namespace Go.Proofs.YtankkadnhdfpfaaGreatDoor
open Go.RowKit Sp Wd

theorem BoxesAt.take_ {w : World} {A : Option Addr} {l : List BxArg} (h : BoxesAt w A l) (n : Nat) : BoxesAt w A (l.take n) :=
  ⟨h.rd.takeA n, fun x hx => h.bx x (List.mem_of_mem_take hx), by have := h.n; rw [List.length_take]; omega⟩
set_option maxHeartbeats 800000 in
theorem few_any (bs : List BxArg) (B : Option Addr) (cb : Nat) (w : World) (hB : BoxesAt w B bs) (hc : bs.length ≤ cb) :
    Calls Tryz.prog 22 #[.slice B bs.length cb] w fun e w' => e = .returned (.slice B (bs.take 12).length cb) ∧ Below w.heap.size w w' := by
  obtain ⟨m, hm⟩ : ∃ m, bs.length = m := ⟨_, rfl⟩
  have HM := Lib.hid hm
  have m63 : m ≤ 9223372036854775807 := by rw [← hm]; exact hB.n
  rw [hm] at hc ⊢
  by_cases h12 : 12 < m
  · have hlt : (bs.take 12).length = 12 := by rw [List.length_take, HM.out]; omega
    rw [hlt]
    obtain ⟨b0, o0, hB0, -⟩ := hB.rd.at_ (show 0 < bs.length by omega)
    have i1 : (12 : Int) < (m : Int) := by omega
    have i2 : (12 : Int) ≤ (cb : Int) := by omega
    subst hB0
    clear hm hB h12 hlt
    go_enter Tryz.func22, Tryz.ntmps22
    go_wp2_with fail
    go_ret
    exact ⟨rfl, bel⟩
  · have hlt : (bs.take 12).length = m := by rw [List.length_take, HM.out]; omega
    rw [hlt]
    have i1 : ¬ (12 : Int) < (m : Int) := by omega
    clear hm hB h12 hlt hc
    go_enter Tryz.func22, Tryz.ntmps22
    go_wp2_with fail
    go_ret
    exact ⟨rfl, bel⟩
end Go.Proofs.YtankkadnhdfpfaaGreatDoor

/- soffitlaw16.alike: walked. -/
set_option linter.unusedSimpArgs false
set_option linter.unusedVariables false
namespace Go.Proofs.YtankkadnhdfpfaaGreatDoor
open Go.RowKit Go.Lib Sp Wd

theorem alike_bad {l : List BxArg} {y : BxArg} (hy : l[0]? = some y) {x : BxArg} (hx : x ∈ l) (h : notLike (kindsOf y.l) x = true) : alikeB l = false := by
  cases l with
  | nil => cases hx
  | cons z r =>
    obtain rfl : z = y := by simpa using hy
    show (!((z :: r).any (notLike (kindsOf z.l)))) = false
    rw [Bool.not_eq_false', List.any_eq_true]
    exact ⟨x, hx, h⟩
theorem alike_good {l : List BxArg} (h : ∀ y, l[0]? = some y → ∀ x ∈ l, notLike (kindsOf y.l) x = false) : alikeB l = true := by
  cases l with
  | nil => rfl
  | cons z r =>
    show (!((z :: r).any (notLike (kindsOf z.l)))) = true
    rw [Bool.not_eq_true', List.any_eq_false]
    intro x hx
    rw [h z rfl x hx]; simp
theorem notLike_len {x y : BxArg} (h : x.l.length ≠ y.l.length) : notLike (kindsOf y.l) x = true := by
  unfold notLike
  have h1 : (kindsOf x.l == kindsOf y.l) = false := by
    rw [beq_eq_false_iff_ne]
    intro e
    have := congrArg List.length e
    unfold kindsOf at this
    rw [List.length_map, List.length_map] at this
    exact h this
  rw [h1]; rfl
theorem notLike_at {x y : BxArg} {k : Nat} (h1 : k < x.l.length) (h2 : k < y.l.length) (h : (x.l[k]'h1).s.k ≠ (y.l[k]'h2).s.k ∨ (x.l[k]'h1).s.k < 1 ∨ 4 < (x.l[k]'h1).s.k) : notLike (kindsOf y.l) x = true := by
  unfold notLike
  rw [Bool.or_eq_true]
  by_cases he : kindsOf x.l = kindsOf y.l
  · right
    rw [List.any_eq_true]
    refine ⟨_, List.getElem_mem h1, ?_⟩
    unfold badK
    rw [Bool.not_eq_true', decide_eq_false_iff_not]
    rcases h with h | h | h
    · exact absurd ((kinds_get he).2 k h1 h2) h
    · omega
    · omega
  · left
    simpa using he
theorem like_all {x y : BxArg} (hl : x.l.length = y.l.length) (h : ∀ k (h1 : k < x.l.length) (h2 : k < y.l.length), (x.l[k]'h1).s.k = (y.l[k]'h2).s.k ∧ 1 ≤ (x.l[k]'h1).s.k ∧ (x.l[k]'h1).s.k ≤ 4) : notLike (kindsOf y.l) x = false := by
  unfold notLike
  have he : kindsOf x.l = kindsOf y.l := by
    unfold kindsOf
    refine List.ext_getElem (by rw [List.length_map, List.length_map]; exact hl) (fun j a b => ?_)
    rw [List.getElem_map, List.getElem_map]
    exact (h j (by simpa using a) (by simpa using b)).1
  rw [he]
  have hb : x.l.any badK = false := by
    rw [List.any_eq_false]
    intro s hs
    obtain ⟨j, hj, rfl⟩ := List.getElem_of_mem hs
    have := (h j hj (by omega)).2
    unfold badK
    rw [decide_eq_true this]; simp
  rw [hb]; simp
set_option maxRecDepth 100000 in
set_option maxHeartbeats 12800000 in
theorem alike16_any (xa xb : List BxArg) (A D : Option Addr) (ca cb : Nat) (w : World) (hA : BoxesAt w A xa) (hB : BoxesAt w D xb) (h1 : xa.length ≤ 12) (h2 : xb.length ≤ 12) :
    Calls Tryz.prog 32 #[.slice A xa.length ca, .slice D xb.length cb] w fun e w' => e = .returned (.bool (alikeB (xa ++ xb))) ∧ Below w.heap.size w w' := by
  obtain ⟨i0, hinf, hza, hzb, hzc⟩ := infoBl
  obtain ⟨R, hR⟩ : ∃ R, alikeB (xa ++ xb) = R := ⟨_, rfl⟩
  rw [hR]
  have HR := Lib.hid hR
  have HRA := Lib.hid hA.rd
  have HRB := Lib.hid hB.rd
  have HAN : Hid (A = none → xa.length = 0) := Lib.hid (fun h => by
    rcases Nat.eq_zero_or_pos xa.length with h0 | h0
    · exact h0
    · obtain ⟨b, o, e, -⟩ := hA.rd.at_ h0; rw [h] at e; cases e)
  have HDN : Hid (D = none → xb.length = 0) := Lib.hid (fun h => by
    rcases Nat.eq_zero_or_pos xb.length with h0 | h0
    · exact h0
    · obtain ⟨b, o, e, -⟩ := hB.rd.at_ h0; rw [h] at e; cases e)
  have HBX := Lib.hid (fun (x : BxArg) (hx : x ∈ xa ++ xb) => (List.mem_append.1 hx).elim (hA.bx x) (hB.bx x))
  obtain ⟨p, hp⟩ : ∃ p, xa.length = p := ⟨_, rfl⟩
  obtain ⟨q, hq⟩ : ∃ q, xb.length = q := ⟨_, rfl⟩
  have HP := Lib.hid hp
  have HQ := Lib.hid hq
  rw [hp] at h1
  rw [hq] at h2
  rw [hp, hq]
  clear hR hA hB hp hq
  go_enter Tryz.func32, Tryz.ntmps32
  go_upto_region 1 with fail
  have own0 : (w.alloc (.cells #[] 48)).ownsRow w.heap.size 48 1 (.slice (some ⟨w.heap.size, 0, none⟩) 0 0) 0 [] := ⟨rfl, .inr ⟨w.heap.size, 0, #[], rfl, Nat.le_refl _, (MapKept.heap_alloc w _).1, Nat.zero_le _, Nat.zero_le _, rfl, rfl⟩⟩
  have HO0 := Lib.hid own0
  clear own0
  go_wp2_with (first
    | (at_builtin; refine wpList_spread _ rfl _ _ 49 rfl w.heap.size 48 i0 (.slice none 0 0) 1 24 Tryz.underlying49 hinf hza hzb hzc rfl (by decide) _ 0 _ rfl HO0.out A p ca (xa.flatMap BxArg.cells) rfl (by rw [← HP.out]; exact flat_lenL xa) (by rw [← HP.out]; exact HAN.out) (fun ad hA j u hu => rd_flat (by rw [← hA]; exact HRA.out.below (Below.alloc (Below.refl _ _) (Nat.le_refl _) _)) (bxC_len xa) (by decide) j u (by rw [← List.flatMap_def]; exact hu)) (flat_oneL xa) (by unfold maxLen; omega) (by omega) (by simp) ?_)
    | fail)
  intro v5 w5 hown5 hgrow5
  have hb5 : Below w.heap.size w w5 := ((Below.refl _ _).alloc (Nat.le_refl _) _).grown hgrow5 (by simp) (fun g hg => (HO0.out.lt g hg).1)
  have HO5 := Lib.hid hown5
  clear hown5 hgrow5 HO0
  go_wp2_with (first
    | (at_builtin; refine wpList_spread _ rfl _ _ 49 rfl w.heap.size 48 i0 (.slice none 0 0) 1 24 Tryz.underlying49 hinf hza hzb hzc rfl (by decide) _ _ _ rfl HO5.out D q cb (xb.flatMap BxArg.cells) rfl (by rw [← HQ.out]; exact flat_lenL xb) (by rw [← HQ.out]; exact HDN.out) (fun ad hA j u hu => rd_flat (by rw [← hA]; exact HRB.out.below hb5) (bxC_len xb) (by decide) j u (by rw [← List.flatMap_def]; exact hu)) (flat_oneL xb) (by unfold maxLen; omega) (by omega) (by have := hb5.size; omega) ?_)
    | fail)
  intro v6 w6 hown6 hgrow6
  have hb6 : Below w.heap.size w w6 := hb5.grown hgrow6 (by have := hb5.size; omega) (fun g hg => (HO5.out.lt g hg).1)
  obtain ⟨L, hL⟩ : ∃ L, xa ++ xb = L := ⟨_, rfl⟩
  obtain ⟨C, c, rfl, hrd⟩ := Go.Proofs.YtankkadnhdfpfaaGreatDoor.own_rd (css := L.map BxArg.cells) hown6 (by rw [← hL, List.map_append, List.flatten_append, List.flatMap_def, List.flatMap_def]) (bxC_len _) (by rw [← hL, List.length_map, List.length_append, HP.out, HQ.out])
  have HRD := Lib.hid hrd
  obtain ⟨n, hn⟩ : ∃ n, p + q = n := ⟨_, rfl⟩
  have HN : Hid (L.length = n) := Lib.hid (by rw [← hL, List.length_append, HP.out, HQ.out]; exact hn)
  have n24 : n ≤ 24 := by omega
  rw [hL] at HR HBX
  rw [hn]
  have HBX6 := Lib.hid (fun (x : BxArg) (hx : x ∈ L) => (HBX.out x hx).below hb6)
  clear hown6 hgrow6 HO5 hb5 hrd hn hL HAN HDN HRA HRB HBX HP HQ h1 h2
  go_wp2_with fail
  go_loopg [6] n (fun k iv wr => ∃ i : Nat, i ≤ n ∧ n - i ≤ k ∧ iv = .int .i64 i ∧ Hid (∀ y, L[0]? = some y → ∀ j (hj : j < i) (h : j < L.length), notLike (kindsOf y.l) (L[j]'h) = false) ∧ Below w6.heap.size w6 wr)
  case atStart => exact ⟨0, by omega, by omega, rfl, Lib.hid (fun y _ j hj => absurd hj (by omega)), Below.refl _ _⟩
  case round =>
    obtain ⟨i, hi, hik, rfl, HINV, hbel⟩ := hrel
    by_cases hlt : i < n
    · have i1 : (i : Int) < (n : Int) := by omega
      have i3 : (0 : Int) ≤ (i : Int) := by omega
      have i4 : (0 : Int) < (n : Int) := by omega
      have hil : i < L.length := by rw [HN.out]; exact hlt
      have h0l : 0 < L.length := by omega
      obtain ⟨b, off, hAe, hx⟩ := (HRD.out.below hbel).at_ hil
      obtain ⟨b', off', hAe', hy⟩ := (HRD.out.below hbel).at_ h0l
      have hbx := (HBX6.out _ (List.getElem_mem hil)).below hbel
      have hby := (HBX6.out _ (List.getElem_mem h0l)).below hbel
      have hxe := List.getElem?_eq_getElem hil
      have hye := List.getElem?_eq_getElem h0l
      have hxm := List.getElem_mem hil
      obtain ⟨x, hxx⟩ : ∃ x, L[i]'hil = x := ⟨_, rfl⟩
      obtain ⟨y, hyy⟩ : ∃ y, L[0]'h0l = y := ⟨_, rfl⟩
      rw [hxx] at hx hbx hxe hxm
      rw [hyy] at hy hby hye
      have HYE := Lib.hid hye
      have HXE := Lib.hid hxe
      have HXM := Lib.hid hxm
      have HX := Lib.hid hbx
      have HY := Lib.hid hby
      subst hAe
      cases hAe'
      have x0 : wr.cell? ⟨b, off + i, none⟩ = some (.slice x.A x.l.length x.c) := by have := hx.get 0 (v := .slice x.A x.l.length x.c) rfl; simpa using this
      have y0 : wr.cell? ⟨b, off, none⟩ = some (.slice y.A y.l.length y.c) := by have := hy.get 0 (v := .slice y.A y.l.length y.c) rfl; simpa using this
      obtain ⟨px, hpx⟩ : ∃ px, x.l.length = px := ⟨_, rfl⟩
      obtain ⟨py, hpy⟩ : ∃ py, y.l.length = py := ⟨_, rfl⟩
      have HPX := Lib.hid hpx
      have HPY := Lib.hid hpy
      have px63 : px ≤ 9223372036854775807 := by rw [← hpx]; exact hbx.n
      rw [hpx] at x0
      rw [hpy] at y0
      have u0 := AtB.cell x0
      have v0 := AtB.cell y0
      have HBL := Lib.hid hbel
      clear hx hy hbx hby hxe hye hxm hxx hyy hpx hpy hil h0l hbel
      by_cases hpp : px = py
      · have e1 : ((px : Int) != (py : Int)) = false := by simp [hpp]
        have HPP := Lib.hid hpp
        clear hpp
        go_wp2_with fail
        refine wp_region_quiet_at (by kernel_rfl) (by kernel_rfl) ?_
        repeat (go_big_quiet_step (fail))
        refine wpQuiet_nil ?_
        intro _ hw'
        obtain ⟨qq, hw2⟩ := hw'
        subst hw2
        have qb := qq.hb
        have hbq := HBL.out.trans (qq.hb.mono HBL.out.size)
        generalize qq.w = W14 at *
        have x1 := cell_below qb x0
        have y1 := cell_below qb y0
        have HX1 := Lib.hid (HX.out.below qb)
        have HY1 := Lib.hid (HY.out.below qb)
        have hB1 := hbq
        clear qb hbq u0 v0 x0 y0 HX HY HBL e1
        go_wp2_with fail
        go_loopg [7] px (fun k kv wr => ∃ j : Nat, j ≤ px ∧ px - j ≤ k ∧ kv = .int .i64 j ∧ Hid (∀ t (ht : t < j) (h1 : t < x.l.length) (h2 : t < y.l.length), (x.l[t]'h1).s.k = (y.l[t]'h2).s.k ∧ 1 ≤ (x.l[t]'h1).s.k ∧ (x.l[t]'h1).s.k ≤ 4) ∧ Below W14.heap.size W14 wr)
        case atStart => exact ⟨0, by omega, by omega, rfl, Lib.hid (fun t ht => absurd ht (by omega)), Below.refl _ _⟩
        case round =>
          obtain ⟨j, hj, hjk, rfl, HIN2, hbj⟩ := hrel
          have x2 := cell_below hbj x1
          have y2 := cell_below hbj y1
          by_cases hltj : j < px
          · have i5 : (j : Int) < (px : Int) := by omega
            have i6 : (0 : Int) ≤ (j : Int) := by omega
            have i7 : (j : Int) < (py : Int) := by have := HPP.out; omega
            have h1 : j < x.l.length := by rw [HPX.out]; exact hltj
            have h2 : j < y.l.length := by rw [HPY.out]; have := HPP.out; omega
            obtain ⟨b2, o2, hA2, hs⟩ := (HX1.out.rd.below hbj).at_ h1
            obtain ⟨b3, o3, hA3, ht⟩ := (HY1.out.rd.below hbj).at_ h2
            rw [hA2] at x2
            rw [hA3] at y2
            have s0 := hs.get 0 (v := .int .i64 (x.l[j]'h1).s.k) rfl
            have t0 := ht.get 0 (v := .int .i64 (y.l[j]'h2).s.k) rfl
            have HBAD := Lib.hid (fun h => notLike_at h1 h2 h)
            obtain ⟨sk, hsk⟩ : ∃ sk, (x.l[j]'h1).s.k = sk := ⟨_, rfl⟩
            obtain ⟨tk, htk⟩ : ∃ tk, (y.l[j]'h2).s.k = tk := ⟨_, rfl⟩
            have HSK : Hid (∃ (g1 : j < x.l.length) (g2 : j < y.l.length), (x.l[j]'g1).s.k = sk ∧ (y.l[j]'g2).s.k = tk) := Lib.hid ⟨h1, h2, hsk, htk⟩
            rw [hsk] at s0 HBAD
            rw [htk] at t0 HBAD
            have u0 := AtB.cell x2
            have v0 := AtB.cell y2
            have u1 := AtB.cell (show wr.cell? ⟨b2, o2 + j * 6, none⟩ = some (.int .i64 sk) from s0)
            have v1 := AtB.cell (show wr.cell? ⟨b3, o3 + j * 6, none⟩ = some (.int .i64 tk) from t0)
            have HBL := Lib.hid (hB1.trans (hbj.mono hB1.size))
            have HBJ := Lib.hid hbj
            clear hs ht hsk htk hA2 hA3 h1 h2 hbj s0 t0
            by_cases c1 : sk = tk
            · have e1 : (sk != tk) = false := by simp [c1]
              by_cases c2 : sk < 1
              · have HBD := Lib.hid (HBAD.out (.inr (.inl c2)))
                have e2 : decide (sk < 1) = true := decide_eq_true c2
                clear c1
                go_wp2_with fail
                refine wp_region_quiet_at (by kernel_rfl) (by kernel_rfl) ?_
                repeat (go_big_quiet_step (fail))
                refine wpQuiet_nil ?_
                intro _ hw'
                obtain ⟨qq, hw2⟩ := hw'
                subst hw2
                have qb := qq.hb
                have hbq := HBL.out.trans (qq.hb.mono HBL.out.size)
                generalize qq.w = W14 at *
                have HF : Hid (R = false) := Lib.hid (HR.out.symm.trans (alike_bad HYE.out HXM.out HBD.out))
                have hbn := hb6.trans (hbq.mono hb6.size)
                go_wp2_with fail
                go_ret
                exact ⟨ret_bool HF.out.symm, hbn⟩
              · by_cases c3 : 4 < sk
                · have HBD := Lib.hid (HBAD.out (.inr (.inr c3)))
                  have e2 : decide (sk < 1) = false := decide_eq_false c2
                  have e3 : decide (4 < sk) = true := decide_eq_true c3
                  clear c1 c2
                  go_wp2_with fail
                  refine wp_region_quiet_at (by kernel_rfl) (by kernel_rfl) ?_
                  repeat (go_big_quiet_step (fail))
                  refine wpQuiet_nil ?_
                  intro _ hw'
                  obtain ⟨qq, hw2⟩ := hw'
                  subst hw2
                  have qb := qq.hb
                  have hbq := HBL.out.trans (qq.hb.mono HBL.out.size)
                  generalize qq.w = W14 at *
                  have HF : Hid (R = false) := Lib.hid (HR.out.symm.trans (alike_bad HYE.out HXM.out HBD.out))
                  have hbn := hb6.trans (hbq.mono hb6.size)
                  go_wp2_with fail
                  go_ret
                  exact ⟨ret_bool HF.out.symm, hbn⟩
                · have e2 : decide (sk < 1) = false := decide_eq_false c2
                  have e3 : decide (4 < sk) = false := decide_eq_false c3
                  have HIN3 : Hid (∀ t (ht : t < j + 1) (h1 : t < x.l.length) (h2 : t < y.l.length), (x.l[t]'h1).s.k = (y.l[t]'h2).s.k ∧ 1 ≤ (x.l[t]'h1).s.k ∧ (x.l[t]'h1).s.k ≤ 4) := Lib.hid (fun t ht h1 h2 => by
                    by_cases htj : t = j
                    · subst htj
                      obtain ⟨g1, g2, q1, q2⟩ := HSK.out
                      rw [q1, q2]; exact ⟨c1, by omega, by omega⟩
                    · exact HIN2.out t (by omega) h1 h2)
                  clear c1 c2 c3 HIN2
                  go_wp2_with fail
                  refine wp_region_quiet_at (by kernel_rfl) (by kernel_rfl) ?_
                  repeat (go_big_quiet_step (fail))
                  refine wpQuiet_nil ?_
                  intro _ hw'
                  obtain ⟨qq, hw2⟩ := hw'
                  subst hw2
                  have qb := qq.hb
                  have hbq := HBL.out.trans (qq.hb.mono HBL.out.size)
                  generalize qq.w = W14 at *
                  have hbn := HBJ.out.trans (qb.mono HBJ.out.size)
                  clear qb hbq u0 v0 u1 v1 e1 e2 e3
                  go_wp2_with fail
                  go_roundg (px - (j + 1))
                  case measure => omega
                  case rel => exact ⟨j + 1, by omega, Nat.le_refl _, by go_num, HIN3, hbn⟩
            · have HBD := Lib.hid (HBAD.out (.inl c1))
              have e1 : (sk != tk) = true := by simp [c1]
              clear c1
              go_wp2_with fail
              refine wp_region_quiet_at (by kernel_rfl) (by kernel_rfl) ?_
              repeat (go_big_quiet_step (fail))
              refine wpQuiet_nil ?_
              intro _ hw'
              obtain ⟨qq, hw2⟩ := hw'
              subst hw2
              have qb := qq.hb
              have hbq := HBL.out.trans (qq.hb.mono HBL.out.size)
              generalize qq.w = W14 at *
              have HF : Hid (R = false) := Lib.hid (HR.out.symm.trans (alike_bad HYE.out HXM.out HBD.out))
              have hbn := hb6.trans (hbq.mono hb6.size)
              go_wp2_with fail
              go_ret
              exact ⟨ret_bool HF.out.symm, hbn⟩
          · have i5 : ¬ (j : Int) < (px : Int) := by omega
            have HNX : Hid (∀ y', L[0]? = some y' → ∀ t (ht : t < i + 1) (h : t < L.length), notLike (kindsOf y'.l) (L[t]'h) = false) := Lib.hid (fun y' hy' t ht h => by
              rw [HYE.out] at hy'
              cases hy'
              by_cases hti : t = i
              · subst hti
                have := HXE.out
                rw [List.getElem?_eq_getElem h] at this
                rw [Option.some.inj this]
                exact like_all (by rw [HPX.out, HPY.out]; exact HPP.out) (fun k a b => HIN2.out k (by have := HPX.out; omega) a b)
              · exact HINV.out y HYE.out t (by omega) h)
            have hbn := hB1.trans (hbj.mono hB1.size)
            clear hbj HIN2
            go_wp2_with fail
            go_roundg (n - (i + 1))
            case measure => omega
            case rel => exact ⟨i + 1, by omega, Nat.le_refl _, by go_num, HNX, hbn⟩
      · have HBD : Hid (notLike (kindsOf y.l) x = true) := Lib.hid (notLike_len (by rw [HPX.out, HPY.out]; exact hpp))
        have e1 : ((px : Int) != (py : Int)) = true := by simp; omega
        clear hpp
        go_wp2_with fail
        refine wp_region_quiet_at (by kernel_rfl) (by kernel_rfl) ?_
        repeat (go_big_quiet_step (fail))
        refine wpQuiet_nil ?_
        intro _ hw'
        obtain ⟨qq, hw2⟩ := hw'
        subst hw2
        have qb := qq.hb
        have hbq := HBL.out.trans (qq.hb.mono HBL.out.size)
        generalize qq.w = W14 at *
        have hbn := hb6.trans (hbq.mono hb6.size)
        have HF : Hid (R = false) := Lib.hid (HR.out.symm.trans (alike_bad HYE.out HXM.out HBD.out))
        go_wp2_with fail
        go_ret
        exact ⟨ret_bool HF.out.symm, hbn⟩
    · have i1 : ¬ (i : Int) < (n : Int) := by omega
      have HF : Hid (R = true) := Lib.hid (HR.out.symm.trans (alike_good (fun y hy x hx => by
        obtain ⟨j, hj, rfl⟩ := List.getElem_of_mem hx
        exact HINV.out y hy j (by have := HN.out; omega) hj)))
      have hbn := hb6.trans (hbel.mono hb6.size)
      go_wp2_with fail
      go_ret
      exact ⟨ret_bool HF.out.symm, hbn⟩
end Go.Proofs.YtankkadnhdfpfaaGreatDoor

/- soffitlaw16.BoxesJoin: walked. -/
set_option linter.unusedSimpArgs false
set_option linter.unusedVariables false
namespace Go.Proofs.YtankkadnhdfpfaaGreatDoor
open Go.RowKit Go.Lib Sp Wd

set_option maxRecDepth 100000 in
set_option maxHeartbeats 12800000 in
theorem lawJoin_any (xa xb : List BxArg) (n : Int) (ts : List TyArg) (vs : List Vl) (A D T V : Option Addr) (ca cb ct cv : Nat) (w : World) (hA : BoxesAt w A xa) (hB : BoxesAt w D xb) (hca : xa.length ≤ ca) (hcb : xb.length ≤ cb) (oa : BoxesOk 1048576 xa) (ob : BoxesOk 1048576 xb) (hT : TysAt w T ts) (hV : ValsAt w V vs) (hE : Env w) :
    Calls Tryz.prog 6 #[.slice A xa.length ca, .slice D xb.length cb, .int .i64 n, .slice T ts.length ct, .slice V vs.length cv] w fun e w' => e = .returned (.bool true) ∧ Below w.heap.size w w' := by
  have hlen : ∀ x ∈ xa.take 12 ++ xb.take 12, x.l.length ≤ 1048576 := fun x hx => by
    rcases List.mem_append.1 hx with h | h
    · exact (oa.2 x (List.mem_of_mem_take h)).1
    · exact (ob.2 x (List.mem_of_mem_take h)).1
  have hok : ∀ x ∈ xa.take 12 ++ xb.take 12, ∀ s ∈ x.l, StOk 1048600 s.s := fun x hx s hs => by
    rcases List.mem_append.1 hx with h | h
    · exact ((oa.2 x (List.mem_of_mem_take h)).2 s hs).mono (by omega)
    · exact ((ob.2 x (List.mem_of_mem_take h)).2 s hs).mono (by omega)
  have l1 : (xa.take 12).length ≤ 12 := by rw [List.length_take]; omega
  have l2 : (xb.take 12).length ≤ 12 := by rw [List.length_take]; omega
  have hbd : ∀ x ∈ xa.take 12 ++ xb.take 12, ∀ s ∈ x.l, s.s.sp.length ≤ 9223372036854775807 ∧ s.s.ws.length ≤ 9223372036854775807 := fun x hx s hs => by
    have h1 := hok x hx s hs
    have h2 := h1.ls
    have h3 := h1.lw
    exact ⟨by omega, by omega⟩
  have HFA := Lib.hid (fun (W : World) (hW : Below w.heap.size w W) => few_any xa A ca W (hA.below hW) hca)
  have HFB := Lib.hid (fun (W : World) (hW : Below w.heap.size w W) => few_any xb D cb W (hB.below hW) hcb)
  have HJ := Lib.hid (fun (n : Int) (W : World) (hW : Below w.heap.size w W) => bxJoin_any (xa.take 12) (xb.take 12) n A D ca cb W ((hA.take_ 12).below hW) ((hB.take_ 12).below hW) l1 l2 hlen hok (hE.below hW))
  have HAK := Lib.hid (fun (W : World) (hW : Below w.heap.size w W) => alike16_any (xa.take 12) (xb.take 12) A D ca cb W ((hA.take_ 12).below hW) ((hB.take_ 12).below hW) l1 l2)
  have HHA := Lib.hid (fun (W : World) (hW : Below w.heap.size w W) => has16_any ts (xa.take 12) vs T A V ct ca cv W (hT.below hW) ((hA.take_ 12).below hW) (hV.below hW) (fun b hb => hbd b (List.mem_append_left _ hb)))
  have HHB := Lib.hid (fun (W : World) (hW : Below w.heap.size w W) => has16_any ts (xb.take 12) vs T D V ct cb cv W (hT.below hW) ((hB.take_ 12).below hW) (hV.below hW) (fun b hb => hbd b (List.mem_append_right _ hb)))
  have HHR := Lib.hid (fun (W : World) (hW : Below w.heap.size w W) (R : List BxArg) (C : Option Addr) (c : Nat) (hR : BoxesAt W C R) (hG : ∀ x ∈ R, GoodBx x) => has16_any ts R vs T C V ct c cv W (hT.below hW) hR (hV.below hW) (good_bd hG))
  have hlike : alikeB (xa.take 12 ++ xb.take 12) = true → ∀ x ∈ xa.take 12 ++ xb.take 12, ∀ s ∈ x.l, 1 ≤ s.s.k ∧ s.s.k ≤ 4 := fun h x hx => (alike_all h hx hx).2
  have happ := any_app ts (xa.take 12) (xb.take 12) vs
  obtain ⟨L, hL⟩ : ∃ L, xa.take 12 ++ xb.take 12 = L := ⟨_, rfl⟩
  have hll : L.length ≤ 24 := by rw [← hL, List.length_append]; omega
  obtain ⟨AL, hAL⟩ : ∃ AL, alikeB L = AL := ⟨_, rfl⟩
  obtain ⟨a, ha⟩ : ∃ a, anyBox ts (xa.take 12) vs = a := ⟨_, rfl⟩
  obtain ⟨b, hb⟩ : ∃ b, anyBox ts (xb.take 12) vs = b := ⟨_, rfl⟩
  rw [hL] at HJ HAK hlike happ
  rw [hAL] at HJ HAK hlike
  rw [ha] at HHA happ
  rw [hb] at HHB happ
  obtain ⟨pa, hpa⟩ : ∃ pa, (xa.take 12).length = pa := ⟨_, rfl⟩
  obtain ⟨pb, hpb⟩ : ∃ pb, (xb.take 12).length = pb := ⟨_, rfl⟩
  obtain ⟨qa, hqa⟩ : ∃ qa, xa.length = qa := ⟨_, rfl⟩
  obtain ⟨qb, hqb⟩ : ∃ qb, xb.length = qb := ⟨_, rfl⟩
  obtain ⟨nt, hnt⟩ : ∃ nt, ts.length = nt := ⟨_, rfl⟩
  obtain ⟨nv, hnv⟩ : ∃ nv, vs.length = nv := ⟨_, rfl⟩
  rw [hpa, hqa] at HFA
  rw [hpb, hqb] at HFB
  rw [hpa, hpb] at HJ HAK
  rw [hpa, hnt, hnv] at HHA
  rw [hpb, hnt, hnv] at HHB
  rw [hnt, hnv] at HHR
  rw [hqa, hqb, hnt, hnv]
  have HE := Lib.hid hE
  have HLIKE := Lib.hid hlike
  have HAPP := Lib.hid happ
  have HLL := Lib.hid hll
  clear hA hB hca hcb oa ob hT hV hE hlen hok l1 l2 hbd hlike happ hL hll hAL ha hb hpa hpb hqa hqb hnt hnv
  go_enter Tryz.func6, Tryz.ntmps6
  go_wp2_with fail
  refine (HFA.out w (Below.refl _ _)).mono ?_
  rintro e w1 ⟨rfl, hB1⟩
  go_wp2_with fail
  refine (HFB.out w1 hB1).mono ?_
  rintro e w2 ⟨rfl, hb2⟩
  have hB2 := hB1.trans (hb2.mono hB1.size)
  clear hb2 hB1 HFA HFB
  go_wp2_with fail
  refine (HJ.out n w2 hB2).mono ?_
  rintro e w3 ⟨R, C, c, m1, rfl, hres, hb3⟩
  have hB3 := hB2.trans (hb3.mono hB2.size)
  have HRES := Lib.hid hres
  obtain ⟨r, hr⟩ : ∃ r, R.length = r := ⟨_, rfl⟩
  have HR := Lib.hid hr
  rw [hr]
  clear hres hb3 hB2 hr
  by_cases hn1 : n < -1
  · obtain ⟨rfl, hr0⟩ : m1 = 1 ∧ R = [] := by
      have hbf : budB n = false := decide_eq_false (by omega)
      rcases HRES.out with ⟨-, h, -⟩ | ⟨h1, -, h2⟩ | ⟨-, h, -⟩
      · rw [hbf] at h; cases h
      · exact ⟨h1, h2⟩
      · rw [hbf] at h; cases h
    have hr1 : 0 = r := by rw [← HR.out, hr0]; rfl
    subst hr1
    clear hr0 HRES
    go_wp2_with fail
    refine (awake16_any _ (HE.out.below hB3)).mono ?_
    rintro e z9 ⟨rfl, hb9⟩
    go_wp2_with fail
    go_ret
    exact ⟨rfl, hB3.trans (hb9.mono hB3.size)⟩
  have hbt : budB n = true := decide_eq_true (by omega)
  have HBT := Lib.hid hbt
  clear hbt
  go_wp2_with fail
  refine (HAK.out w3 hB3).mono ?_
  rintro e w4 ⟨rfl, hb4⟩
  have hB4 := hB3.trans (hb4.mono hB3.size)
  cases AL
  · obtain ⟨rfl, hr0⟩ : m1 = 1 ∧ R = [] := by
      rcases HRES.out with ⟨-, h, -⟩ | ⟨h1, -, h2⟩ | ⟨-, h, -⟩
      · simp at h
      · exact ⟨h1, h2⟩
      · simp at h
    have hr1 : 0 = r := by rw [← HR.out, hr0]; rfl
    subst hr1
    clear hr0 HRES hb4
    go_wp2_with fail
    refine (awake16_any _ (HE.out.below hB4)).mono ?_
    rintro e z9 ⟨rfl, hb9⟩
    go_wp2_with fail
    go_ret
    exact ⟨rfl, hB4.trans (hb9.mono hB4.size)⟩
  rcases HRES.out with ⟨rfl, -, hRA, hRK, hRM, hRG, hMT⟩ | ⟨-, h, -⟩ | ⟨rfl, -, hr0, hmany⟩
  · have HRA := Lib.hid (hRA.below hb4)
    have HRG := Lib.hid hRG
    have HRK := Lib.hid hRK
    have hval : anyBox ts R vs = (a || b) := by
      rw [anyBox_key, hRK, join_has hMT (HLIKE.out rfl), HAPP.out]
    have HVAL := Lib.hid hval
    have hmax : n < 0 ∨ (0 ≤ n ∧ (r : Int) ≤ n) := by
      rcases Int.lt_or_le n 0 with h | h
      · exact .inl h
      · refine .inr ⟨h, ?_⟩
        rw [HR.out] at hRM
        unfold budM at hRM
        split at hRM <;> omega
    clear hRA hRK hRM hRG hMT hval hb4 HRES HJ HAK HLIKE HAPP
    go_wp2_with fail
    refine (awake16_any _ (HE.out.below hB4)).mono ?_
    rintro e w5 ⟨rfl, hb5⟩
    have hB5 := hB4.trans (hb5.mono hB4.size)
    have HRA5 := Lib.hid (HRA.out.below hb5)
    have HCL := Lib.hid (clean_yes R C c w5 HRA5.out HRG.out (bag_full HRK.out) (HE.out.below hB5))
    rw [HR.out] at HCL
    clear hb5 hB4 HRA
    rcases hmax with hn0 | ⟨hn0, hrn⟩
    · have i9 : ¬ (0 : Int) ≤ n := by omega
      go_wp2_with fail
      refine HCL.out.mono ?_
      rintro e w6 ⟨rfl, hb6⟩
      have hB6 := hB5.trans (hb6.mono hB5.size)
      have HRA6 := Lib.hid (HRA5.out.below hb6)
      clear hb6 HCL hB5 HRA5
      go_wp2_with fail
      have hfin := HHR.out w6 hB6 R C c HRA6.out HRG.out
      rw [HR.out, HVAL.out] at hfin
      refine hfin.mono ?_
      rintro e w7 ⟨rfl, hb7⟩
      have hB7 := hB6.trans (hb7.mono hB6.size)
      clear hfin hb7 hB6
      go_wp2_with fail
      refine (HHA.out w7 hB7).mono ?_
      rintro e w8 ⟨rfl, hb8⟩
      have hB8 := hB7.trans (hb8.mono hB7.size)
      clear hb8 hB7
      cases a
      · go_wp2_with fail
        refine (HHB.out w8 hB8).mono ?_
        rintro e w9 ⟨rfl, hb9⟩
        have hB9 := hB8.trans (hb9.mono hB8.size)
        clear hb9 hB8
        go_wp2_with fail
        go_ret
        exact ⟨ret_bool (by cases b <;> rfl), hB9⟩
      · go_wp2_with fail
        go_ret
        exact ⟨ret_bool (by cases b <;> rfl), hB8⟩
    · have i9 : ¬ n < (r : Int) := by omega
      go_wp2_with fail
      refine HCL.out.mono ?_
      rintro e w6 ⟨rfl, hb6⟩
      have hB6 := hB5.trans (hb6.mono hB5.size)
      have HRA6 := Lib.hid (HRA5.out.below hb6)
      clear hb6 HCL hB5 HRA5
      go_wp2_with fail
      have hfin := HHR.out w6 hB6 R C c HRA6.out HRG.out
      rw [HR.out, HVAL.out] at hfin
      refine hfin.mono ?_
      rintro e w7 ⟨rfl, hb7⟩
      have hB7 := hB6.trans (hb7.mono hB6.size)
      clear hfin hb7 hB6
      go_wp2_with fail
      refine (HHA.out w7 hB7).mono ?_
      rintro e w8 ⟨rfl, hb8⟩
      have hB8 := hB7.trans (hb8.mono hB7.size)
      clear hb8 hB7
      cases a
      · go_wp2_with fail
        refine (HHB.out w8 hB8).mono ?_
        rintro e w9 ⟨rfl, hb9⟩
        have hB9 := hB8.trans (hb9.mono hB8.size)
        clear hb9 hB8
        go_wp2_with fail
        go_ret
        exact ⟨ret_bool (by cases b <;> rfl), hB9⟩
      · go_wp2_with fail
        go_ret
        exact ⟨ret_bool (by cases b <;> rfl), hB8⟩
  · simp [HBT.out] at h
  · subst hr0
    have hr1 : 0 = r := by rw [← HR.out]; rfl
    subst hr1
    have hbl : ((bagOf [] (selfM (keysOf L))).length : Int) ≤ 24 := by
      have h1 := (bagOf_len (selfM (keysOf L)) []).2
      rw [self_len, List.length_nil] at h1
      have := HLL.out
      omega
    have hn0 : 0 ≤ n ∧ budM n = n := by
      unfold budM at hmany ⊢
      split at hmany
      · omega
      · rename_i h
        rw [if_neg h]; omega
    have HMANY : Hid (n < ((bagOf [] (selfM (keysOf L))).length : Int)) := Lib.hid (by rw [← hn0.2]; exact hmany)
    have HBL := Lib.hid hbl
    have i9 : 0 ≤ n := hn0.1
    clear hmany hbl hn0 HRES hb4
    go_wp2_with fail
    refine (HJ.out (-1) w4 hB4).mono ?_
    rintro e w5 ⟨R2, C2, c2, m2, rfl, hres2, hb5⟩
    obtain ⟨rfl, hr2⟩ : m2 = 0 ∧ n < (R2.length : Int) := by
      rcases hres2 with ⟨h1, -, -, h2, -⟩ | ⟨-, h, -⟩ | ⟨-, -, -, h⟩
      · exact ⟨h1, by rw [bag_len h2]; exact HMANY.out⟩
      · simp [budB] at h
      · have : budM (-1) = 4096 := rfl
        rw [this] at h
        have := HBL.out
        omega
    have hB5 := hB4.trans (hb5.mono hB4.size)
    generalize R2.length = r2 at *
    clear hres2 hb5 hB4
    go_wp2_with fail
    refine (awake16_any _ (HE.out.below hB5)).mono ?_
    rintro e z9 ⟨rfl, hb9⟩
    go_wp2_with fail
    go_ret
    exact ⟨rfl, hB5.trans (hb9.mono hB5.size)⟩
end Go.Proofs.YtankkadnhdfpfaaGreatDoor
