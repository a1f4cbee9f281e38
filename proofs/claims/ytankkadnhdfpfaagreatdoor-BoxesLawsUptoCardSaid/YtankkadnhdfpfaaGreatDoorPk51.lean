import Derived.Test.YtankkadnhdfpfaaGreatDoorPk49
import Derived.Test.YtankkadnhdfpfaaGreatDoorPk44
import Derived.Test.YtankkadnhdfpfaaGreatDoorPk50
/- soffitlaw16.BoxesLaws: walked. -/
set_option linter.unusedSimpArgs false
set_option linter.unusedVariables false
namespace Go.Proofs.YtankkadnhdfpfaaGreatDoor
open Go.RowKit Go.Lib Sp Wd

theorem boxes_nil (w : World) : BoxesAt w none [] := ⟨RdL.nil_ _ _ _, by simp, by simp⟩
set_option maxRecDepth 100000 in
set_option maxHeartbeats 12800000 in
theorem lawLaws_any (xa xb : List BxArg) (ts : List TyArg) (vs : List Vl) (A D T V : Option Addr) (ca cb ct cv : Nat) (w : World) (hA : BoxesAt w A xa) (hB : BoxesAt w D xb) (hca : xa.length ≤ ca) (hcb : xb.length ≤ cb) (oa : BoxesOk 1048576 xa) (ob : BoxesOk 1048576 xb) (hT : TysAt w T ts) (hV : ValsAt w V vs) (hE : Env w) :
    Calls Tryz.prog 7 #[.slice A xa.length ca, .slice D xb.length cb, .slice T ts.length ct, .slice V vs.length cv] w fun e w' => e = .returned (.bool true) ∧ Below w.heap.size w w' := by
  have hl1 : ∀ x ∈ xa.take 12, x.l.length ≤ 1048576 := fun x hx => (oa.2 x (List.mem_of_mem_take hx)).1
  have hl2 : ∀ x ∈ xb.take 12, x.l.length ≤ 1048576 := fun x hx => (ob.2 x (List.mem_of_mem_take hx)).1
  have hk1 : ∀ x ∈ xa.take 12, ∀ s ∈ x.l, StOk 1048600 s.s := fun x hx s hs => ((oa.2 x (List.mem_of_mem_take hx)).2 s hs).mono (by omega)
  have hk2 : ∀ x ∈ xb.take 12, ∀ s ∈ x.l, StOk 1048600 s.s := fun x hx s hs => ((ob.2 x (List.mem_of_mem_take hx)).2 s hs).mono (by omega)
  have l1 : (xa.take 12).length ≤ 12 := by rw [List.length_take]; omega
  have l2 : (xb.take 12).length ≤ 12 := by rw [List.length_take]; omega
  have hbd : ∀ x ∈ xa.take 12, ∀ s ∈ x.l, s.s.sp.length ≤ 9223372036854775807 ∧ s.s.ws.length ≤ 9223372036854775807 := fun x hx s hs => by
    have h1 := hk1 x hx s hs
    have h2 := h1.ls
    have h3 := h1.lw
    exact ⟨by omega, by omega⟩
  have HFA := Lib.hid (fun (W : World) (hW : Below w.heap.size w W) => few_any xa A ca W (hA.below hW) hca)
  have HFB := Lib.hid (fun (W : World) (hW : Below w.heap.size w W) => few_any xb D cb W (hB.below hW) hcb)
  have hA12 := hA.take_ 12
  have hB12 := hB.take_ 12
  obtain ⟨ya, hya⟩ : ∃ ya, xa.take 12 = ya := ⟨_, rfl⟩
  obtain ⟨yb, hyb⟩ : ∃ yb, xb.take 12 = yb := ⟨_, rfl⟩
  rw [hya] at hl1 hk1 l1 hbd hA12 HFA
  rw [hyb] at hl2 hk2 l2 hB12 HFB
  have ap : ∀ {P : BxArg → Prop} {a b : List BxArg}, (∀ x ∈ a, P x) → (∀ x ∈ b, P x) → ∀ x ∈ a ++ b, P x := fun h1 h2 x hx => (List.mem_append.1 hx).elim (h1 x) (h2 x)
  have HM1 := Lib.hid (fun (W : World) (hW : Below w.heap.size w W) => bxMeet_any ya yb (-1) A D ca cb W (hA12.below hW) (hB12.below hW) l1 l2 (ap hl1 hl2) (ap hk1 hk2) (hE.below hW))
  have HM2 := Lib.hid (fun (W : World) (hW : Below w.heap.size w W) => bxMeet_any yb ya (-1) D A cb ca W (hB12.below hW) (hA12.below hW) l2 l1 (ap hl2 hl1) (ap hk2 hk1) (hE.below hW))
  have HJ1 := Lib.hid (fun (W : World) (hW : Below w.heap.size w W) => bxJoin_any ya yb (-1) A D ca cb W (hA12.below hW) (hB12.below hW) l1 l2 (ap hl1 hl2) (ap hk1 hk2) (hE.below hW))
  have HJ2 := Lib.hid (fun (W : World) (hW : Below w.heap.size w W) => bxJoin_any yb ya (-1) D A cb ca W (hB12.below hW) (hA12.below hW) l2 l1 (ap hl2 hl1) (ap hk2 hk1) (hE.below hW))
  have HM3 := Lib.hid (fun (W : World) (hW : Below w.heap.size w W) => bxMeet_any ya [] (-1) A none ca 0 W (hA12.below hW) (boxes_nil W) l1 (by simp) (ap hl1 (by simp)) (ap hk1 (by simp)) (hE.below hW))
  have HJ3 := Lib.hid (fun (W : World) (hW : Below w.heap.size w W) => bxJoin_any ya [] (-1) A none ca 0 W (hA12.below hW) (boxes_nil W) l1 (by simp) (ap hl1 (by simp)) (ap hk1 (by simp)) (hE.below hW))
  have HHR := Lib.hid (fun (W : World) (hW : Below w.heap.size w W) (R : List BxArg) (C : Option Addr) (c : Nat) (hR : BoxesAt W C R) (hG : ∀ x ∈ R, GoodBx x) => bxHas_any ts R vs T C V ct c cv W (hT.below hW) hR (hV.below hW) (good_bd hG) (hE.below hW))
  have HHA := Lib.hid (fun (W : World) (hW : Below w.heap.size w W) => bxHas_any ts ya vs T A V ct ca cv W (hT.below hW) (hA12.below hW) (hV.below hW) hbd (hE.below hW))
  have HL1 := Lib.hid l1
  have HL2 := Lib.hid l2
  obtain ⟨pa, hpa⟩ : ∃ pa, ya.length = pa := ⟨_, rfl⟩
  obtain ⟨pb, hpb⟩ : ∃ pb, yb.length = pb := ⟨_, rfl⟩
  obtain ⟨qa, hqa⟩ : ∃ qa, xa.length = qa := ⟨_, rfl⟩
  obtain ⟨qb, hqb⟩ : ∃ qb, xb.length = qb := ⟨_, rfl⟩
  obtain ⟨nt, hnt⟩ : ∃ nt, ts.length = nt := ⟨_, rfl⟩
  obtain ⟨nv, hnv⟩ : ∃ nv, vs.length = nv := ⟨_, rfl⟩
  rw [hpa, hqa] at HFA
  rw [hpb, hqb] at HFB
  rw [hpa, hpb] at HM1 HM2 HJ1 HJ2
  rw [hpa] at HM3 HJ3
  rw [hnt, hnv] at HHR
  rw [hpa, hnt, hnv] at HHA
  rw [hqa, hqb, hnt, hnv]
  have HE := Lib.hid hE
  clear hA hB hca hcb oa ob hT hV hE hl1 hl2 hk1 hk2 l1 l2 hbd hA12 hB12 hya hyb ap hpa hpb hqa hqb hnt hnv
  go_enter Tryz.func7, Tryz.ntmps7
  go_wp2_with fail
  refine (HFA.out w (Below.refl _ _)).mono ?_
  rintro e w1 ⟨rfl, hB1⟩
  go_wp2_with fail
  refine (HFB.out w1 hB1).mono ?_
  rintro e w2 ⟨rfl, hb2⟩
  have hB2 := hB1.trans (hb2.mono hB1.size)
  clear hb2 hB1 HFA HFB
  go_wp2_with fail
  refine (HM1.out w2 hB2).mono ?_
  rintro e w3 ⟨X, CX, cx, m1, rfl, hres1, hb3⟩
  have hB3 := hB2.trans (hb3.mono hB2.size)
  have HR1 := Lib.hid hres1
  obtain ⟨rx, hrx⟩ : ∃ rx, X.length = rx := ⟨_, rfl⟩
  have HRX := Lib.hid hrx
  rw [hrx]
  clear hres1 hb3 hB2 hrx
  go_wp2_with fail
  refine (HM2.out w3 hB3).mono ?_
  rintro e w4 ⟨Y, CY, cy, m2, rfl, hres2, hb4⟩
  have hB4 := hB3.trans (hb4.mono hB3.size)
  have HR2 := Lib.hid hres2
  obtain ⟨ry, hry⟩ : ∃ ry, Y.length = ry := ⟨_, rfl⟩
  have HRY := Lib.hid hry
  rw [hry]
  have HB34 := Lib.hid hb4
  clear hres2 hb4 hB3 hry
  cases hal : alikeB (ya ++ yb)
  · obtain ⟨rfl, -⟩ := res_no HR1.out (by rw [hal]; rfl)
    obtain ⟨rfl, -⟩ := res_no HR2.out (by rw [← alike_comm, hal]; rfl)
    clear hal
    go_wp2_with fail
    refine (awake16_any _ (HE.out.below hB4)).mono ?_
    rintro e w5 ⟨rfl, hb5⟩
    have hB5 := hB4.trans (hb5.mono hB4.size)
    clear hb5 hB4
    go_wp2_with fail
    refine (awake16_any _ (HE.out.below hB5)).mono ?_
    rintro e z9 ⟨rfl, hb9⟩
    go_wp2_with fail
    go_ret
    exact ⟨rfl, hB5.trans (hb9.mono hB5.size)⟩
  have HAL := Lib.hid hal
  clear hal
  obtain ⟨rfl, hX, kX, gX, -⟩ := res_all HR1.out (by rw [HAL.out]; rfl) (allM_len ya yb HL1.out HL2.out)
  obtain ⟨rfl, hY, kY, gY, -⟩ := res_all HR2.out (by rw [← alike_comm, HAL.out]; rfl) (allM_len yb ya HL2.out HL1.out)
  obtain ⟨hxy, hasXY⟩ := bag_same kX kY (allM_comm HAL.out) ts vs
  have hxy' : rx = ry := by rw [← HRX.out, ← HRY.out]; exact hxy
  subst hxy'
  have HX := Lib.hid (hX.below HB34.out)
  have HY := Lib.hid hY
  have HGX := Lib.hid gX
  have HGY := Lib.hid gY
  have HXY := Lib.hid hasXY
  clear hX kX gX hY kY gY hxy hasXY HR1 HR2 HB34 HM1 HM2
  go_wp2_with fail
  refine (awake16_any _ (HE.out.below hB4)).mono ?_
  rintro e w5 ⟨rfl, hb5⟩
  have hB5 := hB4.trans (hb5.mono hB4.size)
  have HX5 := Lib.hid (HX.out.below hb5)
  have HY5 := Lib.hid (HY.out.below hb5)
  clear hb5 hB4 HX HY
  go_wp2_with fail
  refine (HJ1.out w5 hB5).mono ?_
  rintro e w6 ⟨P, CP, cp, m3, rfl, hres3, hb6⟩
  obtain ⟨rfl, hP, kP, gP, -⟩ := res_all hres3 (by rw [HAL.out]; rfl) (self_bd _ (by rw [List.length_append]; have := HL1.out; have := HL2.out; omega))
  have hB6 := hB5.trans (hb6.mono hB5.size)
  have HX6 := Lib.hid (HX5.out.below hb6)
  have HY6 := Lib.hid (HY5.out.below hb6)
  have HP := Lib.hid hP
  have HKP := Lib.hid kP
  have HGP := Lib.hid gP
  obtain ⟨rp, hrp⟩ : ∃ rp, P.length = rp := ⟨_, rfl⟩
  have HRP := Lib.hid hrp
  rw [hrp]
  clear hres3 hP kP gP hb6 hB5 HX5 HY5 hrp HJ1
  go_wp2_with fail
  refine (HJ2.out w6 hB6).mono ?_
  rintro e w7 ⟨Q, CQ, cq, m4, rfl, hres4, hb7⟩
  obtain ⟨rfl, hQ, kQ, gQ, -⟩ := res_all hres4 (by rw [← alike_comm, HAL.out]; rfl) (self_bd _ (by rw [List.length_append]; have := HL1.out; have := HL2.out; omega))
  obtain ⟨hpq, hasPQ⟩ := bag_same HKP.out kQ (selfM_comm ya yb) ts vs
  have hB7 := hB6.trans (hb7.mono hB6.size)
  have HX7 := Lib.hid (HX6.out.below hb7)
  have HY7 := Lib.hid (HY6.out.below hb7)
  have HP7 := Lib.hid (HP.out.below hb7)
  have HQ := Lib.hid hQ
  have HGQ := Lib.hid gQ
  have HPQ := Lib.hid hasPQ
  obtain ⟨rq, hrq⟩ : ∃ rq, Q.length = rq := ⟨_, rfl⟩
  have HRQ := Lib.hid hrq
  rw [hrq]
  have hpq' : rp = rq := by rw [← HRP.out, ← HRQ.out]; exact hpq
  subst hpq'
  clear hres4 hQ kQ gQ hpq hasPQ hb7 hB6 HX6 HY6 HP hrq HJ2 HKP
  go_wp2_with fail
  refine (HM3.out w7 hB7).mono ?_
  rintro e w8 ⟨Z, CZ, cz, m5, rfl, hres5, hb8⟩
  obtain ⟨rfl, -, kZ, -, -⟩ := res_all hres5 (by rw [List.append_nil, alike_mem (fun x hx => List.mem_append_left _ hx) HAL.out]; rfl) (allM_len ya [] HL1.out (by simp))
  have hz0 : Z.length = 0 := by
    rw [bag_len kZ]
    have h1 := (bagOf_len (allM (keysOf ya) (keysOf [])) []).2
    have h2 : allM (keysOf ya) (keysOf []) = [] := by
      unfold allM
      rw [List.flatMap_eq_nil_iff]
      intro x _
      rfl
    rw [h2] at h1 ⊢
    simpa using h1
  have hB8 := hB7.trans (hb8.mono hB7.size)
  have HX8 := Lib.hid (HX7.out.below hb8)
  have HY8 := Lib.hid (HY7.out.below hb8)
  have HP8 := Lib.hid (HP7.out.below hb8)
  have HQ8 := Lib.hid (HQ.out.below hb8)
  rw [hz0]
  clear hres5 kZ hz0 hb8 hB7 HX7 HY7 HP7 HQ HM3
  go_wp2_with fail
  refine (HJ3.out w8 hB8).mono ?_
  rintro e w9 ⟨U, CU, cu, m6, rfl, hres6, hb9⟩
  obtain ⟨rfl, hU, kU, gU, mU⟩ := res_all hres6 (by rw [List.append_nil, alike_mem (fun x hx => List.mem_append_left _ hx) HAL.out]; rfl) (self_bd _ (by rw [List.append_nil]; have := HL1.out; omega))
  rw [List.append_nil] at kU mU
  have hasU : anyBox ts U vs = anyBox ts ya vs := by
    rw [anyBox_key, kU]
    exact join_has mU (fun x hx => (alike_all HAL.out (List.mem_append_left _ hx) (List.mem_append_left _ hx)).2) ts vs
  have hB9 := hB8.trans (hb9.mono hB8.size)
  have HX9 := Lib.hid (HX8.out.below hb9)
  have HY9 := Lib.hid (HY8.out.below hb9)
  have HP9 := Lib.hid (HP8.out.below hb9)
  have HQ9 := Lib.hid (HQ8.out.below hb9)
  have HU9 := Lib.hid hU
  have HGU := Lib.hid gU
  have HU := Lib.hid hasU
  obtain ⟨ru, hru⟩ : ∃ ru, U.length = ru := ⟨_, rfl⟩
  have HRU := Lib.hid hru
  rw [hru]
  clear hres6 hU kU gU mU hasU hb9 hB8 HX8 HY8 HP8 HQ8 hru HJ3
  obtain ⟨bx, hbx⟩ : ∃ bx, anyBox ts X vs = bx := ⟨_, rfl⟩
  obtain ⟨bp, hbp⟩ : ∃ bp, anyBox ts P vs = bp := ⟨_, rfl⟩
  obtain ⟨bu, hbu⟩ : ∃ bu, anyBox ts U vs = bu := ⟨_, rfl⟩
  have HVX := Lib.hid hbx
  have HVY := Lib.hid (HXY.out.symm.trans hbx)
  have HVP := Lib.hid hbp
  have HVQ := Lib.hid (HPQ.out.symm.trans hbp)
  have HVU := Lib.hid hbu
  have HVA := Lib.hid (HU.out.symm.trans hbu)
  clear hbx hbp hbu HXY HPQ HU
  go_wp2_with fail
  have hcall9 := HHR.out w9 hB9 X CX cx HX9.out HGX.out
  rw [HRX.out, HVX.out] at hcall9
  refine hcall9.mono ?_
  rintro e w10 ⟨rfl, hb10⟩
  have hB10 := hB9.trans (hb10.mono hB9.size)
  have hc10 := hb10
  clear hcall9
  go_wp2_with fail
  have hcall10 := HHR.out w10 hB10 Y CY cy (HY9.out.below hc10) HGY.out
  rw [HRY.out, HVY.out] at hcall10
  refine hcall10.mono ?_
  rintro e w11 ⟨rfl, hb11⟩
  have hB11 := hB10.trans (hb11.mono hB10.size)
  have hc11 := hc10.trans (hb11.mono hc10.size)
  clear hcall10
  go_wp2_with fail
  have hcall11 := HHR.out w11 hB11 P CP cp (HP9.out.below hc11) HGP.out
  rw [HRP.out, HVP.out] at hcall11
  refine hcall11.mono ?_
  rintro e w12 ⟨rfl, hb12⟩
  have hB12 := hB11.trans (hb12.mono hB11.size)
  have hc12 := hc11.trans (hb12.mono hc11.size)
  clear hcall11
  go_wp2_with fail
  have hcall12 := HHR.out w12 hB12 Q CQ cq (HQ9.out.below hc12) HGQ.out
  rw [HRQ.out, HVQ.out] at hcall12
  refine hcall12.mono ?_
  rintro e w13 ⟨rfl, hb13⟩
  have hB13 := hB12.trans (hb13.mono hB12.size)
  have hc13 := hc12.trans (hb13.mono hc12.size)
  clear hcall12
  go_wp2_with fail
  have hcall13 := HHR.out w13 hB13 U CU cu (HU9.out.below hc13) HGU.out
  rw [HRU.out, HVU.out] at hcall13
  refine hcall13.mono ?_
  rintro e w14 ⟨rfl, hb14⟩
  have hB14 := hB13.trans (hb14.mono hB13.size)
  have hc14 := hc13.trans (hb14.mono hc13.size)
  clear hcall13
  go_wp2_with fail
  refine (HHA.out w14 hB14).mono ?_
  rintro e w15 ⟨rfl, hb15⟩
  have hB15 := hB14.trans (hb15.mono hB14.size)
  rw [HVA.out]
  go_wp2_with fail
  go_ret
  exact ⟨ret_bool (by simp), hB15⟩
end Go.Proofs.YtankkadnhdfpfaaGreatDoor
