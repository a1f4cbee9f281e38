import Derived.Test.YtankkadnhdfpfaaGreatDoorPk40
import Derived.Test.YtankkadnhdfpfaaGreatDoorPk39
/- soffit/boxes.Meet: walked. -/
set_option linter.unusedSimpArgs false
set_option linter.unusedVariables false
namespace Go.Proofs.YtankkadnhdfpfaaGreatDoor
open Go.RowKit Sp Wd

theorem alike_all {l : List BxArg} (h : alikeB l = true) {x y : BxArg} (hx : x ∈ l) (hy : y ∈ l) : kindsOf x.l = kindsOf y.l ∧ ∀ s ∈ x.l, 1 ≤ s.s.k ∧ s.s.k ≤ 4 := by
  cases l with
  | nil => cases hx
  | cons z r =>
    have h' : (!((z :: r).any (notLike (kindsOf z.l)))) = true := h
    rw [Bool.not_eq_true', List.any_eq_false] at h'
    have key : ∀ u ∈ z :: r, kindsOf u.l = kindsOf z.l ∧ ∀ s ∈ u.l, 1 ≤ s.s.k ∧ s.s.k ≤ 4 := fun u hu => by
      have h1 := h' u hu
      unfold notLike at h1
      rw [Bool.or_eq_true, not_or, Bool.not_eq_true', Bool.not_eq_false, beq_iff_eq, Bool.not_eq_true, List.any_eq_false] at h1
      refine ⟨h1.1, fun s hs => ?_⟩
      have h2 := h1.2 s hs
      unfold badK at h2
      rw [Bool.not_eq_true', Bool.not_eq_false, decide_eq_true_eq] at h2
      exact h2
    exact ⟨(key x hx).1.trans (key y hy).1.symm, (key x hx).2⟩
theorem kinds_get {xs ys : List StArg} (h : kindsOf xs = kindsOf ys) : xs.length = ys.length ∧ ∀ j (h1 : j < xs.length) (h2 : j < ys.length), (xs[j]'h1).s.k = (ys[j]'h2).s.k := by
  have hl : xs.length = ys.length := by have := congrArg List.length h; simpa [kindsOf] using this
  refine ⟨hl, fun j h1 h2 => ?_⟩
  have h3 : (kindsOf xs)[j]? = (kindsOf ys)[j]? := by rw [h]
  unfold kindsOf at h3
  rw [List.getElem?_map, List.getElem?_map, List.getElem?_eq_getElem h1, List.getElem?_eq_getElem h2] at h3
  simpa using h3
def GoodBx (y : BxArg) : Prop := y.l.length ≤ 1048576 ∧ ∀ s ∈ y.l, StOk 2097200 s.s ∧ (1 ≤ s.s.k ∧ s.s.k ≤ 4) ∧ ∃ g, Is g s.s
theorem far_both {b G n : Nat} {L : List StArg} (hb : b < G) (h : ∀ x ∈ L, (∀ p, x.A = some p → x.s.sp = [] ∨ G < p.block) ∧ (∀ p, x.B = some p → x.s.ws = [] ∨ G < p.block)) : BoxFar (some b) ⟨L, some ⟨G, 0, none⟩, n⟩ :=
  ⟨fun p hp => .inr (fun e => by cases hp; injection e with e; have e' : b = G := e; omega), fun s hs => ⟨fun p hp => ((h s hs).1 p hp).imp id (fun h1 e => by injection e with e; omega), fun p hp => ((h s hs).2 p hp).imp id (fun h1 e => by injection e with e; omega)⟩⟩
theorem far_own {w : World} {base G n : Nat} {e : TypeId} {sz m : Nat} {v : Value} {xs : List Value} {L : List StArg} (ho : w.ownsRow base e sz v m xs) (hG : w.heap.size ≤ G) (h : ∀ x ∈ L, (∀ p, x.A = some p → x.s.sp = [] ∨ G < p.block) ∧ (∀ p, x.B = some p → x.s.ws = [] ∨ G < p.block)) : BoxFar v.ownBlock ⟨L, some ⟨G, 0, none⟩, n⟩ := by
  cases hv : v.ownBlock with
  | none => exact BoxFar.none _
  | some b => exact far_both (by have := (ho.lt b hv).2; omega) h
theorem good_both {xs ys L : List StArg} {G n : Nat} (hl : L.length = xs.length) (h12 : xs.length = ys.length) (h20 : xs.length ≤ 1048576) (h4 : ∀ s ∈ xs, 1 ≤ s.s.k ∧ s.s.k ≤ 4) (hm : ∀ j (h1 : j < xs.length) (h2 : j < ys.length) (h3 : j < L.length), MeetIs 1048600 1048600 (xs[j]'h1) (ys[j]'h2) (L[j]'h3)) : GoodBx ⟨L, some ⟨G, 0, none⟩, n⟩ := by
  refine ⟨by show L.length ≤ _; omega, fun s hs => ?_⟩
  obtain ⟨j, hj0, rfl⟩ := List.getElem_of_mem hs
  have hj : j < L.length := hj0
  have hm' := hm j (by omega) (by omega) hj
  refine ⟨hm'.ok, ?_, _, hm'.is⟩
  have e : (L[j]'hj).s.k = (xs[j]'(by omega)).s.k := hm'.is.k
  rw [e]
  exact h4 _ (List.getElem_mem _)
noncomputable def rowM (x : List St) (ys : List (List St)) : List (List St) := ys.map (meetK x)
noncomputable def allM (xs ys : List (List St)) : List (List St) := xs.flatMap fun x => rowM x ys
theorem keys_drop {l : List BxArg} {j : Nat} (h : j < l.length) : (keysOf l).drop j = keyOf (l[j]'h).l :: (keysOf l).drop (j + 1) := by
  unfold keysOf
  rw [List.drop_eq_getElem_cons (by rw [List.length_map]; exact h), List.getElem_map]
theorem keys_end {l : List BxArg} {j : Nat} (h : ¬ j < l.length) : (keysOf l).drop j = [] := List.drop_eq_nil_of_le (by unfold keysOf; rw [List.length_map]; omega)
theorem keys_len (l : List BxArg) : (keysOf l).length = l.length := by unfold keysOf; rw [List.length_map]
def MetOk (xs ys : List StArg) : Prop := xs.length = ys.length ∧ ∃ L : List StArg, L.length = xs.length ∧ ∀ j (h1 : j < xs.length) (h2 : j < ys.length) (h3 : j < L.length), MeetIs 1048600 1048600 (xs[j]'h1) (ys[j]'h2) (L[j]'h3)
def BagRes (w' : World) (ok : Bool) (M : Int) (all : List (List St)) (mt : Prop) (R : List BxArg) (C : Option Addr) (m : Int) : Prop :=
  (m = 0 ∧ ok = true ∧ BoxesAt w' C R ∧ keysOf R = bagOf [] all ∧ (R.length : Int) ≤ M ∧ (∀ x ∈ R, GoodBx x) ∧ mt) ∨ (m = 1 ∧ ok = false ∧ R = []) ∨ (m = 15 ∧ ok = true ∧ R = [] ∧ M < ((bagOf [] all).length : Int))
theorem bud_le (n : Int) : budM n ≤ 4096 := by unfold budM; split <;> omega
theorem bud_pos {n : Int} (h : budB n = true) : 0 ≤ budM n := by
  have h' := of_decide_eq_true h
  unfold budM
  split <;> omega
set_option maxRecDepth 100000 in
set_option maxHeartbeats 6400000 in
theorem bxMeet_any (xa xb : List BxArg) (n : Int) (A D : Option Addr) (ca cb : Nat) (w : World) (hA : BoxesAt w A xa) (hB : BoxesAt w D xb) (h1 : xa.length ≤ 12) (h2 : xb.length ≤ 12) (ho : ∀ x ∈ xa ++ xb, x.l.length ≤ 1048576) (hO : ∀ x ∈ xa ++ xb, ∀ s ∈ x.l, StOk 1048600 s.s) (hE : Env w) :
    Calls Tryz.prog 34 #[.slice A xa.length ca, .slice D xb.length cb, .int .i64 n] w fun e w' => ∃ (R : List BxArg) (C : Option Addr) (c : Nat) (m : Int), e = .returned (.tuple #[.slice C R.length c, .int .i64 m]) ∧ BagRes w' (budB n && alikeB (xa ++ xb)) (budM n) (allM (keysOf xa) (keysOf xb)) (∀ x ∈ xa, ∀ y ∈ xb, MetOk x.l y.l) R C m ∧ Below w.heap.size w w' := by
  have HA := Lib.hid hA
  have HB := Lib.hid hB
  have HO20 := Lib.hid ho
  have HOK := Lib.hid hO
  have HE := Lib.hid hE
  have HN1 := Lib.hid h1
  have HN2 := Lib.hid h2
  obtain ⟨p, hp⟩ : ∃ p, xa.length = p := ⟨_, rfl⟩
  obtain ⟨q, hq⟩ : ∃ q, xb.length = q := ⟨_, rfl⟩
  have HP := Lib.hid hp
  have HQ := Lib.hid hq
  have p12 : p ≤ 12 := by omega
  have q12 : q ≤ 12 := by omega
  have HML := Lib.hid (bud_le n)
  have HMP := Lib.hid (fun h => bud_pos (n := n) h)
  rw [hp, hq]
  obtain ⟨OK, hOK⟩ : ∃ OK, (budB n && alikeB (xa ++ xb)) = OK := ⟨_, rfl⟩
  rw [hOK]
  have HOKE := Lib.hid hOK
  have HAL := fun (W : World) (B : Nat) p0 p1 h1 h2 => Lib.hid (alike_any xa xb B A D ca cb W p0 p1 h1 h2 ho (by omega))
  rw [hp, hq] at HAL
  obtain ⟨ALL, hALL⟩ : ∃ ALL, allM (keysOf xa) (keysOf xb) = ALL := ⟨_, rfl⟩
  have HALL := Lib.hid hALL
  rw [hALL]
  obtain ⟨MT, hMT⟩ : ∃ MT : Prop, (∀ x ∈ xa, ∀ y ∈ xb, MetOk x.l y.l) = MT := ⟨_, rfl⟩
  have HMTE := Lib.hid hMT
  rw [hMT]
  clear hMT
  have HBUD := budget_any n
  generalize budM n = M at *
  have h4 := HML.out
  clear hA hB ho hO hE h1 h2 hp hq hOK hALL
  go_enter Tryz.func34, Tryz.ntmps34
  go_wp2_with fail
  refine (HBUD _).mono ?_
  rintro e w1 ⟨rfl, hb1⟩
  clear HBUD
  cases hbud : budB n
  · have HF : Hid (OK = false) := Lib.hid (by rw [← HOKE.out, hbud]; rfl)
    clear hbud
    go_wp2_with fail
    refine bodyPost_ret (v := .tuple #[.slice none 0 0, .int .i64 1]) (by simp [results, Tryz.results34, go_sem, *]) rfl ⟨[], none, 0, 1, rfl, .inr (.inl ⟨rfl, HF.out, rfl⟩), hb1⟩
  have HMN := Lib.hid (HMP.out hbud)
  have HBD := Lib.hid hbud
  clear hbud HMP
  go_wp2_with fail
  generalize hX1 : World.alloc w1 _ = W1
  have hbW1 : Below w1.heap.size w1 W1 := (by rw [← hX1]; exact Below.alloc (Below.refl _ _) (Nat.le_refl _) _)
  have KX : BoxIs W1 w1.heap.size #[.slice A p ca, .slice D q cb] := (by rw [← hX1]; exact BoxIs.new (t := 49) rfl)
  have hB1 : Below w.heap.size w W1 := hb1.trans (hbW1.mono hb1.size)
  clear hX1
  refine (HAL W1 w1.heap.size (KX.c 0) (KX.c 1) (HA.out.below hB1) (HB.out.below hB1)).out.mono ?_
  rintro e w2 ⟨rfl, hb2⟩
  have hB2 : Below w.heap.size w w2 := hB1.trans (hb2.mono hB1.size)
  clear HAL KX hbW1 hb1 hb2 hB1
  cases hal : alikeB (xa ++ xb)
  · have HF : Hid (OK = false) := Lib.hid (by rw [← HOKE.out, hal, HBD.out]; rfl)
    clear hal
    go_wp2_with fail
    refine bodyPost_ret (v := .tuple #[.slice none 0 0, .int .i64 1]) (by simp [results, Tryz.results34, go_sem, *]) rfl ⟨[], none, 0, 1, rfl, .inr (.inl ⟨rfl, HF.out, rfl⟩), hB2⟩
  have HT : Hid (OK = true) := Lib.hid (by rw [← HOKE.out, hal, HBD.out]; rfl)
  have HLIKE : Hid (∀ x y : BxArg, x ∈ xa ++ xb → y ∈ xa ++ xb → kindsOf x.l = kindsOf y.l ∧ ∀ s ∈ x.l, 1 ≤ s.s.k ∧ s.s.k ≤ 4) := Lib.hid (fun x y hx hy => alike_all hal hx hy)
  clear hal HOKE HBD
  go_upto_region 5 with fail
  generalize hX3 : World.alloc w2 _ = W3
  have hb3 : Below w.heap.size w W3 := (by rw [← hX3]; exact bel)
  have KB : BoxIs W3 w2.heap.size #[.slice none 0 0, .int .i64 M] := (by rw [← hX3]; exact BoxIs.new (t := 110) rfl)
  obtain ⟨bg, hbg⟩ : ∃ bg, w2.heap.size = bg := ⟨_, rfl⟩
  have hwb : w.heap.size ≤ bg := by have := hB2.size; omega
  rw [hbg] at KB
  rw [hbg]
  have HBG0 : Hid (BagIs W3 bg (bg + 1) (.slice none 0 0) [] M) := Lib.hid ⟨KB, World.ownsRow_nil _ _ _ _, by omega, by simp, by simp⟩
  have hs3 : bg + 1 ≤ W3.heap.size := KB.lt
  clear hX3 hbg hB2 KB
  go_wp2_with fail
  obtain ⟨bs, hbs⟩ : ∃ bs, bg + 1 = bs := ⟨_, rfl⟩
  rw [hbs] at HBG0 hs3
  clear hbs
  go_loopg [33] p (fun k iv wr => ∃ (L : List BxArg) (v : Value) (j : Nat), j ≤ p ∧ p - j ≤ k ∧ iv = .int .i64 j ∧ Hid (BagIs wr bg bs v L M) ∧ Hid (∀ y ∈ L, GoodBx y) ∧ Hid ((L.length : Int) ≤ M) ∧ Hid (bagOf [] ALL = bagOf (keysOf L) (allM ((keysOf xa).drop j) (keysOf xb))) ∧ Hid (∀ j', j' < j → ∀ x', xa[j']? = some x' → ∀ i', i' < q → ∀ y', xb[i']? = some y' → MetOk x'.l y'.l) ∧ bs ≤ wr.heap.size ∧ Below w.heap.size w wr)
  case atStart => exact ⟨[], _, 0, by omega, by omega, rfl, HBG0, Lib.hid (by simp), HMN, Lib.hid (by rw [List.drop_zero, HALL.out]; rfl), Lib.hid (fun j' h => absurd h (by omega)), hs3, hb3⟩
  case round =>
    clear HBG0 hs3 hb3 HMN
    obtain ⟨L, v, j, hj, hjk, rfl, HBG, HGOOD, HLM, HREST, HMET, hs3, hbel⟩ := hrel
    by_cases hlt : j < p
    · have i1 : (j : Int) < (p : Int) := by omega
      have i3 : (0 : Int) ≤ (j : Int) := by omega
      have hjl : j < xa.length := by rw [HP.out]; exact hlt
      have hdr := keys_drop hjl
      have hxm := List.getElem_mem hjl
      have hXa := HA.out.bx _ hxm
      have hxe := List.getElem?_eq_getElem hjl
      have hpp := HP.out
      obtain ⟨b1, o1, hA1, hx1⟩ := HA.out.rd.at_ hjl
      generalize xa[j]'hjl = x at *
      subst hA1
      have x0 := cell_below hbel (hx1.get 0 (v := .slice x.A x.l.length x.c) rfl)
      have x0 : wr.cell? ⟨b1, o1 + j, none⟩ = some (.slice x.A x.l.length x.c) := by simpa using x0
      have HXM := Lib.hid hxm
      have HXE := Lib.hid hxe
      have HMETJ := HMET
      have HXA0 := Lib.hid hXa
      have HREST1 : Hid (bagOf [] ALL = bagOf (keysOf L) (rowM (keyOf x.l) ((keysOf xb).drop 0) ++ allM ((keysOf xa).drop (j + 1)) (keysOf xb))) := Lib.hid (by rw [HREST.out, hdr, List.drop_zero]; rfl)
      have hb0 := hbel
      clear hdr hxm hXa hpp hx1 hjl hxe HREST HMET
      go_wp2_with fail
      go_loopg [39] q (fun k iv wr => ∃ (L : List BxArg) (v : Value) (i : Nat), i ≤ q ∧ q - i ≤ k ∧ iv = .int .i64 i ∧ Hid (BagIs wr bg bs v L M) ∧ Hid (∀ y ∈ L, GoodBx y) ∧ Hid ((L.length : Int) ≤ M) ∧ Hid (bagOf [] ALL = bagOf (keysOf L) (rowM (keyOf x.l) ((keysOf xb).drop i) ++ allM ((keysOf xa).drop (j + 1)) (keysOf xb))) ∧ Hid (∀ i', i' < i → ∀ y', xb[i']? = some y' → MetOk x.l y'.l) ∧ bs ≤ wr.heap.size ∧ Below w.heap.size w wr)
      case atStart => exact ⟨L, v, 0, by omega, by omega, rfl, HBG, HGOOD, HLM, HREST1, Lib.hid (fun i' h => absurd h (by omega)), hs3, hbel⟩
      case round =>
        clear HBG HGOOD HLM HREST1 hs3 hbel x0
        obtain ⟨L, v, i, hi, hik, rfl, HBG, HGOOD, HLM, HREST, HMET, hs3, hbel⟩ := hrel
        by_cases hlti : i < q
        · have i5 : (i : Int) < (q : Int) := by omega
          have i6 : (0 : Int) ≤ (i : Int) := by omega
          have hil : i < xb.length := by rw [HQ.out]; exact hlti
          have hdr := keys_drop hil
          have hym := List.getElem_mem hil
          have hYa := HB.out.bx _ hym
          have hye := List.getElem?_eq_getElem hil
          have hqq := HQ.out
          obtain ⟨b2, o2, hA2, hx2⟩ := HB.out.rd.at_ hil
          generalize xb[i]'hil = y at *
          subst hA2
          have y0 := cell_below hbel (hx2.get 0 (v := .slice y.A y.l.length y.c) rfl)
          have y0 : wr.cell? ⟨b2, o2 + i, none⟩ = some (.slice y.A y.l.length y.c) := by simpa using y0
          have HYM := Lib.hid hym
          have HYE := Lib.hid hye
          have HDR := Lib.hid hdr
          have hXa := HXA0.out
          clear hdr hym hqq hx2 hil hye
          have HXA := Lib.hid hXa
          have HYA := Lib.hid hYa
          clear hXa hYa
          obtain ⟨hln, hkq⟩ := kinds_get (HLIKE.out _ _ (List.mem_append_left xb HXM.out) (List.mem_append_right xa HYM.out)).1
          have hk4 := (HLIKE.out _ _ (List.mem_append_left xb HXM.out) (List.mem_append_right xa HYM.out)).2
          have HL12 := Lib.hid hln
          have HK4 := Lib.hid hk4
          have HKQ := Lib.hid hkq
          have hx20 := HO20.out _ (List.mem_append_left xb HXM.out)
          have HOX := Lib.hid (HOK.out _ (List.mem_append_left xb HXM.out))
          have HOY := Lib.hid (HOK.out _ (List.mem_append_right xa HYM.out))
          clear hln hkq hk4
          go_wp2_with fail
          refine (both_any x.l y.l 1048600 1048600 x.A y.A x.c y.c _ (HXA.out.below hbel) (HYA.out.below hbel) HL12.out hx20 (fun j h1 h2 => ⟨HKQ.out j h1 h2, HK4.out _ (List.getElem_mem h1)⟩) HOX.out HOY.out (by omega) (by omega) (by omega) (HE.out.below hbel)).mono ?_
          rintro e w4 ⟨Lm, G, rfl, hG, hll, hrd, hst, hmi, hb4⟩
          have hbl4 : Below w.heap.size w w4 := hbel.trans (hb4.mono hbel.size)
          have HBG4 := Lib.hid (HBG.out.below hb4)
          have hGB : bg < G := by have := HBG.out.box.lt; omega
          have HGD : Hid (GoodBx ⟨Lm, some ⟨G, 0, none⟩, Lm.length⟩) := Lib.hid (good_both hll HL12.out hx20 HK4.out hmi)
          have HKY : Hid (keyOf Lm = meetK (keyOf x.l) (keyOf y.l)) := Lib.hid (meetK_eq HL12.out hll hmi)
          have HMT : Hid (MetOk x.l y.l) := Lib.hid ⟨HL12.out, Lm, hll, hmi⟩
          have HAT : Hid (BoxAt w4 (some ⟨G, 0, none⟩) Lm) := Lib.hid ⟨hrd, fun s hs => (hst s hs).1, by omega⟩
          have HFA : Hid (BoxFar (some bg) ⟨Lm, some ⟨G, 0, none⟩, Lm.length⟩ ∧ BoxFar v.ownBlock ⟨Lm, some ⟨G, 0, none⟩, Lm.length⟩) := Lib.hid ⟨far_both hGB (fun s hs => (hst s hs).2), far_own HBG.out.own hG (fun s hs => (hst s hs).2)⟩
          have hs4 : bs ≤ w4.heap.size := Nat.le_trans hs3 hb4.size
          clear hll hrd hst hmi hb4 hG hGB HBG hx20 hbel hs3 HXA HYA HL12 HK4 HKQ HOX HOY
          go_wp2_with fail
          refine (put_any bg bs v L M ⟨Lm, some ⟨G, 0, none⟩, Lm.length⟩ 2097200 _ HBG4.out hs4 HAT.out HFA.out (fun s hs => (HGD.out.2 s hs).1) (fun y hy s hs => ((HGOOD.out y hy).2 s hs).1) (by omega) (by have := HLM.out; have := HML.out; omega) HLM.out (HE.out.below hbl4)).mono ?_
          rintro e w5 ⟨v', L', rfl, hbag, hkeys, hmem, hfar, hb5⟩
          have hbl5 : Below w.heap.size w w5 := hbl4.trans (hb5.mono hwb)
          have hs5 : bs ≤ w5.heap.size := Nat.le_trans hs4 hb5.size
          have HBG5 := Lib.hid hbag
          have HGOOD5 : Hid (∀ y ∈ L', GoodBx y) := Lib.hid (fun y hy => (hmem y hy).elim (HGOOD.out y) (fun e => by rw [e]; exact HGD.out))
          have HMET5 : Hid (∀ i', i' < (i + 1) → ∀ y', xb[i']? = some y' → MetOk x.l y'.l) := Lib.hid (fun i' h y' hy' => by
              by_cases hi' : i' = i
              · subst hi'
                rw [HYE.out] at hy'
                cases hy'
                exact HMT.out
              · exact HMET.out i' (by omega) y' hy')
          have HREST5 : Hid (bagOf [] ALL = bagOf (keysOf L') (rowM (keyOf x.l) ((keysOf xb).drop (i + 1)) ++ allM ((keysOf xa).drop (j + 1)) (keysOf xb))) := Lib.hid (by rw [hkeys, HREST.out]; show _ = bagOf (bagAdd (keysOf L) (keyOf Lm)) _; rw [HKY.out]; rw [HDR.out]; rfl)
          obtain ⟨E, hE⟩ : ∃ E, decide ((L'.length : Int) ≤ M) = E := ⟨_, rfl⟩
          rw [hE]
          have HEE := Lib.hid hE
          clear hfar hE hbag hkeys hmem hb5 hbl4 hs4 HBG4 HGD HKY HAT HFA HREST HGOOD HLM HMET HMT
          cases E
          · have HMANY : Hid (M < ((bagOf [] ALL).length : Int)) := Lib.hid (by
              rw [HREST5.out]
              have h1 := (bagOf_len (rowM (keyOf x.l) ((keysOf xb).drop (i + 1)) ++ allM ((keysOf xa).drop (j + 1)) (keysOf xb)) (keysOf L')).1
              rw [keys_len] at h1
              have h2 := of_decide_eq_false HEE.out
              omega)
            go_wp2_with fail
            refine bodyPost_ret (v := .tuple #[.slice none 0 0, .int .i64 15]) (by simp [results, Tryz.results34, go_sem, *]) rfl ⟨[], none, 0, 15, rfl, .inr (.inr ⟨rfl, HT.out, rfl, HMANY.out⟩), hbl5⟩
          have HLM5 := Lib.hid (of_decide_eq_true HEE.out)
          clear HEE
          go_wp2_with fail
          go_roundg (q - (i + 1))
          case measure => omega
          case rel => exact ⟨L', v', i + 1, by omega, Nat.le_refl _, by go_num, HBG5, HGOOD5, HLM5, HREST5, HMET5, hs5, hbl5⟩
        · have i5 : ¬ (i : Int) < (q : Int) := by omega
          have HREST2 : Hid (bagOf [] ALL = bagOf (keysOf L) (allM ((keysOf xa).drop (j + 1)) (keysOf xb))) := Lib.hid (by rw [HREST.out, keys_end (by rw [HQ.out]; exact hlti)]; rfl)
          have HMET2 : Hid (∀ j', j' < (j + 1) → ∀ x', xa[j']? = some x' → ∀ i', i' < q → ∀ y', xb[i']? = some y' → MetOk x'.l y'.l) := Lib.hid (fun j' h x' hx' i' h' y' hy' => by
            by_cases hj' : j' = j
            · subst hj'
              rw [HXE.out] at hx'
              cases hx'
              exact HMET.out i' (by omega) y' hy'
            · exact HMETJ.out j' (by omega) x' hx' i' h' y' hy')
          clear HREST HMET HMETJ
          go_wp2_with fail
          go_roundg (p - (j + 1))
          case measure => omega
          case rel => exact ⟨L, v, j + 1, by omega, Nat.le_refl _, by go_num, HBG, HGOOD, HLM, HREST2, HMET2, hs3, hbel⟩
    · have i1 : ¬ (j : Int) < (p : Int) := by omega
      have hfin : bagOf [] ALL = keysOf L := HREST.out.trans (by rw [keys_end (by rw [HP.out]; exact hlt)]; rfl)
      have HFIN := Lib.hid hfin
      have HMTP : Hid (∀ x ∈ xa, ∀ y ∈ xb, MetOk x.l y.l) := Lib.hid (fun x hx y hy => by
        obtain ⟨j1, hj1, rfl⟩ := List.getElem_of_mem hx
        obtain ⟨i1, hi1, rfl⟩ := List.getElem_of_mem hy
        exact HMET.out j1 (by have := HP.out; omega) _ (List.getElem?_eq_getElem hj1) i1 (by have := HQ.out; omega) _ (List.getElem?_eq_getElem hi1))
      obtain ⟨C, c, rfl, hrd⟩ := HBG.out.val
      have HRD := Lib.hid hrd
      have kb := HBG.out.box.c
      have lb := HBG.out.box.lt
      clear hrd hfin
      go_wp2_with fail
      refine bodyPost_ret (v := .tuple #[.slice C L.length c, .int .i64 0]) (by simp [results, Tryz.results34, go_sem, *]) rfl ⟨L, C, c, 0, rfl, .inl ⟨rfl, HT.out, ⟨HRD.out, HBG.out.bx, by have := HLM.out; have := HML.out; omega⟩, HFIN.out.symm, HLM.out, HGOOD.out, by rw [← HMTE.out]; exact HMTP.out⟩, hbel⟩
end Go.Proofs.YtankkadnhdfpfaaGreatDoor
