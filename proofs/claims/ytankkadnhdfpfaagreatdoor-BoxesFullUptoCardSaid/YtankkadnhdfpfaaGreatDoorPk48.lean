import Derived.Test.YtankkadnhdfpfaaGreatDoorPk44
import Derived.Test.YtankkadnhdfpfaaGreatDoorPk47
/- soffitlaw16.BoxesFull: walked. -/
set_option linter.unusedSimpArgs false
set_option linter.unusedVariables false
namespace Go.Proofs.YtankkadnhdfpfaaGreatDoor
open Go.RowKit Go.Lib Sp Wd

/-- is each value of its type? -/
def inAll : List TyArg → List Vl → Bool
  | t :: ts, v :: vs => inTy t.t v && inAll ts vs
  | [], [] => true
  | _, _ => false
theorem inAll_len : ∀ (ts : List TyArg) (vs : List Vl), inAll ts vs = true → vs.length = ts.length
  | t :: ts, v :: vs, h => by
    have h' : (inTy t.t v && inAll ts vs) = true := h
    rw [Bool.and_eq_true] at h'
    simp [inAll_len ts vs h'.2]
  | [], [], _ => rfl
  | [], _ :: _, h => by cases h
  | _ :: _, [], h => by cases h
theorem inAll_ne {ts : List TyArg} {vs : List Vl} (h : vs.length ≠ ts.length) : inAll ts vs = false := by
  cases e : inAll ts vs
  · rfl
  · exact absurd (inAll_len ts vs e) h
theorem inAll_drop {ts : List TyArg} {vs : List Vl} {k : Nat} (h1 : k < ts.length) (h2 : k < vs.length) : inAll (ts.drop k) (vs.drop k) = (inTy (ts[k]'h1).t (vs[k]'h2) && inAll (ts.drop (k + 1)) (vs.drop (k + 1))) := by
  rw [List.drop_eq_getElem_cons h1, List.drop_eq_getElem_cons h2]; rfl
theorem inAll_end {ts : List TyArg} {vs : List Vl} {k : Nat} (h1 : ts.length ≤ k) (h2 : vs.length ≤ k) : inAll (ts.drop k) (vs.drop k) = true := by
  rw [List.drop_of_length_le h1, List.drop_of_length_le h2]; rfl
theorem full_all : ∀ {ts : List TyArg} {l : List StArg} (vs : List Vl), FullOf ts l → hasAll ts l vs = inAll ts vs
  | [], [], [], _ => rfl
  | [], [], _ :: _, _ => rfl
  | t :: ts, s :: ss, [], _ => rfl
  | t :: ts, s :: ss, v :: vs, h => by
    show (hasSt t.t s.s v && hasAll ts ss vs) = (inTy t.t v && inAll ts vs)
    rw [full_all (ts := ts) (l := ss) vs h.2, has_full h.1.1]
  | [], _ :: _, _, h => h.elim
  | _ :: _, [], _, h => h.elim
theorem has_with {t : Ty} {s x : St} (hk : s.k = t.k) (hx : Is ((fullG t).meet s.sg) x) (v : Vl) : hasSt t x v = hasSt t s v := by
  unfold hasSt
  cases h : inTy t v
  · rfl
  · obtain ⟨h1, h2, h3, h4, h5⟩ := in_fit h
    have kx : x.k = t.k := hx.k.trans (fullG_k t)
    rw [is_has hx (by show 1 ≤ (fullG t).k ∧ (fullG t).k ≤ 4; rw [fullG_k]; exact (ty_of h1).1) (by show v.k = 0 ∨ v.k = (fullG t).k; rw [fullG_k]; exact h3), hasV_meet, in_full h, kx, hk]; simp
theorem has_inTy {t : Ty} {s : St} {v : Vl} (h : inTy t v = false) : hasSt t s v = false := by unfold hasSt; rw [h]; rfl
theorem with_all {s : St} {x : StArg} : ∀ {ts : List TyArg} {l0 : List StArg} (vs : List Vl) (k : Nat) (h1 : k < ts.length) (h3 : k < vs.length), FullOf ts l0 → s.k = (ts[k]'h1).t.k → Is ((fullG (ts[k]'h1).t).meet s.sg) x.s →
    hasAll ts (l0.set k x) vs = (inAll ts vs && hasSt (ts[k]'h1).t s (vs[k]'h3))
  | t :: ts, a :: l0, v :: vs, 0, h1, h3, hf, hk, hx => by
    show (hasSt t.t x.s v && hasAll ts l0 vs) = ((inTy t.t v && inAll ts vs) && hasSt t.t s v)
    have hk' : s.k = t.t.k := hk
    have hx' : Is ((fullG t.t).meet s.sg) x.s := hx
    rw [full_all (ts := ts) (l := l0) vs hf.2, has_with hk' hx']
    cases e : inTy t.t v
    · rw [has_inTy e]; rfl
    · cases hasSt t.t s v <;> cases inAll ts vs <;> rfl
  | t :: ts, a :: l0, v :: vs, k + 1, h1, h3, hf, hk, hx => by
    have ih := with_all (ts := ts) (l0 := l0) vs k (by simpa using h1) (by simpa using h3) hf.2 (by simpa using hk) (by simpa using hx)
    show (hasSt t.t a.s v && hasAll ts (l0.set k x) vs) = ((inTy t.t v && inAll ts vs) && hasSt (ts[k]'(by simpa using h1)).t s (vs[k]'(by simpa using h3)))
    rw [ih, has_full hf.1.1]
    cases inTy t.t v <;> simp
  | [], _, _, _, h1, _, _, _, _ => absurd h1 (by simp)
  | _ :: _, _ :: _, [], _, _, h3, _, _, _ => absurd h3 (by simp)
  | _ :: _, [], _, _, _, _, hf, _, _ => hf.elim
/-- what BoxesFull says of the box in which one is in a set -/
theorem with_says {ts : List TyArg} {n : Int} {s : St} {l : List StArg} {vs : List Vl} (h : WithOf ts n s l) : ∃ (k : Nat) (h1 : k < ts.length), n = (k : Int) ∧ s.k = (ts[k]'h1).t.k ∧ l.length = ts.length ∧ (vs.length ≠ ts.length → hasAll ts l vs = false) ∧ ∀ h3 : k < vs.length, hasAll ts l vs = (inAll ts vs && hasSt (ts[k]'h1).t s (vs[k]'h3)) := by
  obtain ⟨k, l0, x, h1, hn, hk, hf, rfl, hx⟩ := h.at_
  exact ⟨k, h1, hn, hk, by rw [List.length_set]; exact fullOf_len hf, fun hne => hasAll_ne (fun h => hne h.2), fun h3 => with_all vs k h1 h3 hf hk hx⟩
/-- one box as a list of them -/
theorem one_box {W : World} {g : Nat} {l : List StArg} {A : Option Addr} {c : Nat} (hb : BoxIs W g #[.slice A l.length c]) (hx : BoxAt W A l) : BoxesAt W (some ⟨g, 0, none⟩) [⟨l, A, c⟩] :=
  ⟨rd_lit _ (fun x => rfl) hb, fun x h => by rw [List.mem_singleton.1 h]; exact hx, by simp⟩
theorem any_one (ts : List TyArg) (x : BxArg) (vs : List Vl) : anyBox ts [x] vs = hasAll ts x.l vs := by unfold anyBox; simp

set_option maxRecDepth 100000 in
set_option maxHeartbeats 12800000 in
theorem lawFullB (ns : List TyArg) (u M : Nat) (n : Int) (s : St) (vs : List Vl) (N : Nat) (T A B V : Option Addr) (ct ca cb cv : Nat) (w : World) (hu : ns.length = u) (hc : (¬ 30 < M ∧ u = M) ∨ (30 < M ∧ u = 30 ∧ M ≤ ct)) (m63 : M ≤ 9223372036854775807) (hT : TysAt w T ns) (hS : StAt w s A B) (os : StOk N s) (hN : N ≤ 1048576) (hV : ValsAt w V vs) (hE : Env w) :
    Calls Tryz.prog 5 #[.slice T M ct, .int .i64 n, .agg #[.int .i64 s.k, .slice A s.sp.length ca, .bool s.al, .slice B s.ws.length cb, .int .i64 s.b, .bool s.nul], .slice V vs.length cv] w fun e w' => e = .returned (.bool true) ∧ Below w.heap.size w w' := by
  have u30 : u ≤ 30 := by omega
  have hca : True := trivial
  have HFULL := Lib.hid (fun (W : World) (hW : Below w.heap.size w W) => bxFull_any ns T ct W (hT.below hW) (by omega) (hE.below hW))
  have HWITH := Lib.hid (fun (W : World) (hW : Below w.heap.size w W) => bxWith_any ns n s N T A B ct ca cb W (hT.below hW) (by omega) (hS.below hW) os hN (hE.below hW))
  have HSND := Lib.hid (fun (W : World) (hW : Below w.heap.size w W) => sound16_any ns T ct W (hT.below hW))
  have HHAS := Lib.hid (fun (W : World) (hW : Below w.heap.size w W) (l : List StArg) (C : Option Addr) (c g : Nat) (hb : BoxIs W g #[.slice C l.length c]) (hx : BoxAt W C l) (hl : ∀ x ∈ l, x.s.sp.length ≤ 9223372036854775807 ∧ x.s.ws.length ≤ 9223372036854775807) =>
    has16_any ns [⟨l, C, c⟩] vs T (some ⟨g, 0, none⟩) V ct 1 cv W (hT.below hW) (one_box hb hx) (hV.below hW) (fun b hb x h => by rw [List.mem_singleton.1 hb] at h; exact hl x h))
  have HIN := Lib.hid (fun (W : World) (hW : Below w.heap.size w W) (i : Nat) (h1 : i < ns.length) (h3 : i < vs.length) => rIn_any (ns[i]'h1).t (vs[i]'h3) (ns[i]'h1).T (ns[i]'h1).ct W ((hT.ty _ (List.getElem_mem h1)).below hW) (hV.wf _ (List.getElem_mem h3)))
  have HRH := Lib.hid (fun (W : World) (hW : Below w.heap.size w W) (i : Nat) (h1 : i < ns.length) (h3 : i < vs.length) => rHas_any (ns[i]'h1).t s (vs[i]'h3) (ns[i]'h1).T A B (ns[i]'h1).ct ca cb W ((hT.ty _ (List.getElem_mem h1)).below hW) (hS.below hW) (hV.wf _ (List.getElem_mem h3)) (by have := os.ls; omega) (by have := os.lw; omega))
  obtain ⟨q, hq⟩ : ∃ q, vs.length = q := ⟨_, rfl⟩
  have q63 : q ≤ 9223372036854775807 := by rw [← hq]; exact hV.n
  rw [hu] at HFULL HWITH HSND
  rw [hu, hq] at HHAS
  rw [hq]
  have HT := Lib.hid hT
  have HV := Lib.hid hV
  have HE := Lib.hid hE
  have HU := Lib.hid hu
  have HQ := Lib.hid hq
  clear hca hT hS hV hE hu hq os hN
  rcases hc with ⟨h30, rfl⟩ | ⟨h30, hu3, hct⟩
  · have i30 : ¬ (30 : Int) < (u : Int) := by omega
    clear h30
    go_enter Tryz.func5, Tryz.ntmps5
    go_wp2_with fail
    generalize hX1 : World.alloc w _ = W1
    have hb1 : Below w.heap.size w W1 := (by rw [← hX1]; exact Below.alloc (Below.refl _ _) (Nat.le_refl _) _)
    have K1 : BoxIs W1 w.heap.size #[.int .i64 s.k, .slice A s.sp.length ca, .bool s.al, .slice B s.ws.length cb, .int .i64 s.b, .bool s.nul] := (by rw [← hX1]; exact BoxIs.new (t := 36) rfl)
    obtain ⟨g0, hg0⟩ : ∃ g0, w.heap.size = g0 := ⟨_, rfl⟩
    rw [hg0] at K1
    rw [hg0]
    clear hX1 hg0
    refine (HFULL.out W1 hb1).mono ?_
    rintro e w2 ⟨la, ov, m1, rfl, hres, hb2⟩
    have hB2 : Below w.heap.size w w2 := hb1.trans (hb2.mono hb1.size)
    have K2 := K1.below hb2
    have k2 := K2.c
    have l2 := K2.lt
    clear hb1 hb2 K1
    rcases hres with ⟨rfl, hall, hrow, hful⟩ | ⟨rfl, hall, rfl⟩
    · have hlen := fullOf_len hful
      obtain ⟨Ca, cca, rfl, hba⟩ := hrow.box (by rw [hlen, HU.out]; omega)
      have HALL := Lib.hid hall
      have HFUL := Lib.hid hful
      have hlu : la.length = u := hlen.trans HU.out
      have HLU := Lib.hid hlu
      rw [hlu]
      clear hrow hlen hall hful hlu
      go_wp2_with fail
      refine (HWITH.out w2 hB2).mono ?_
      rintro e w3 ⟨lb, Cb, ccb, m2, rfl, hres, hb3⟩
      have hB3 : Below w.heap.size w w3 := hB2.trans (hb3.mono hB2.size)
      have K3 := K2.below hb3
      have HBA := Lib.hid (hba.below hb3)
      have HRES : Hid ((m2 = 0 ∧ BoxAt w3 Cb lb ∧ WithOf ns n s lb) ∨ (m2 = 1 ∧ ¬ WithOk ns n s ∧ lb = [])) := Lib.hid (by
        rcases hres with ⟨h1, -, h2, h3⟩ | ⟨-, h, -⟩ | ⟨h1, -, h2, h3⟩
        · exact .inl ⟨h1, h2, h3⟩
        · rw [HALL.out] at h; cases h
        · exact .inr ⟨h1, h2, h3⟩)
      obtain ⟨p, hp⟩ : ∃ p, lb.length = p := ⟨_, rfl⟩
      have HP := Lib.hid hp
      rw [hp]
      clear hres hb3 hba K2 k2 l2 hp
      go_wp2_with fail
      refine (HSND.out w3 hB3).mono ?_
      rintro e w4 ⟨rfl, hb4⟩
      rw [HALL.out]
      go_wp2_with fail
      refine (awake16_any w4 (HE.out.below (hB3.trans (hb4.mono hB3.size)))).mono ?_
      rintro e w5 ⟨rfl, hb5⟩
      have hb35 : Below w3.heap.size w3 w5 := hb4.trans (hb5.mono hb4.size)
      have hB5 : Below w.heap.size w w5 := hB3.trans (hb35.mono hB3.size)
      have K5 := K3.below hb35
      have HBA5 := Lib.hid (HBA.out.below hb35)
      have HB35 := Lib.hid hb35
      clear hb4 hb5 hb35 hB3 K3 HBA
      obtain ⟨F, hF⟩ : ∃ F, inAll ns vs = F := ⟨_, rfl⟩
      have HF := Lib.hid hF
      obtain ⟨a0, ha0⟩ : ∃ a0 : Bool, ((q : Int) == (u : Int)) = a0 := ⟨_, rfl⟩
      have HA0 : Hid (a0 = true → q = u) := Lib.hid (fun h => by rw [h] at ha0; have := eq_of_beq ha0; omega)
      have HINV : Hid ((a0 && inAll (ns.drop 0) (vs.drop 0)) = F) := Lib.hid (by
        cases a0
        · have h1 : inAll ns vs = false := inAll_ne (by
            rw [HU.out, HQ.out]
            intro h
            rw [h] at ha0
            simp at ha0)
          rw [← hF, h1]; rfl
        · rw [← hF]; rfl)
      clear hF
      go_wp2_with fail
      clear ha0
      go_loopg [13, 14] u (fun k av iv wr => ∃ (i : Nat) (a : Bool), i ≤ u ∧ u - i ≤ k ∧ iv = .int .i64 i ∧ av = .bool a ∧ Hid ((a && inAll (ns.drop i) (vs.drop i)) = F) ∧ Hid (a = true → q = u) ∧ Below w5.heap.size w5 wr)
      case atStart => exact ⟨0, a0, by omega, by omega, rfl, rfl, HINV, HA0, Below.refl _ _⟩
      case round =>
        clear HINV HA0
        obtain ⟨i, a, hi, hik, rfl, rfl, HINV, HA, hbel⟩ := hrel
        have hbw : Below w.heap.size w wr := hB5.trans (hbel.mono hB5.size)
        by_cases hgo : a = true ∧ i < u
        · obtain ⟨rfl, hlt⟩ := hgo
          have HQU := Lib.hid (HA.out rfl)
          have i1 : (i : Int) < (u : Int) := by omega
          have i2 : (i : Int) < (q : Int) := by have := HQU.out; omega
          have i3 : (0 : Int) ≤ (i : Int) := by omega
          have hk1 : i < ns.length := by rw [HU.out]; exact hlt
          have hk3 : i < vs.length := by rw [HQ.out]; have := HQU.out; omega
          have hinv := HINV.out
          rw [Bool.true_and, inAll_drop hk1 hk3] at hinv
          obtain ⟨b1, o1, hA1, hx1⟩ := (HT.out.rd.below hbw).at_ hk1
          obtain ⟨b3, o3, hA3, hx3⟩ := (HV.out.rd.below hbw).at_ hk3
          have HCALL := Lib.hid (fun (W : World) (hW : Below wr.heap.size wr W) => HIN.out W (hbw.trans (hW.mono hbw.size)) i hk1 hk3)
          obtain ⟨y1, hy1⟩ : ∃ y1, ns[i]'hk1 = y1 := ⟨_, rfl⟩
          obtain ⟨y3, hy3⟩ : ∃ y3, vs[i]'hk3 = y3 := ⟨_, rfl⟩
          rw [hy1] at hx1 hinv HCALL
          rw [hy3] at hx3 hinv HCALL
          subst hA1
          subst hA3
          have u0 := AtB.cell (show wr.cell? ⟨b1, o1 + i * 5, none⟩ = some (.int .i64 y1.t.k) from hx1.get 0 rfl)
          have u1 := AtB.cell (show wr.cell? ⟨b1, o1 + i * 5 + 1, none⟩ = some (.int .i64 y1.t.sc) from hx1.get 1 rfl)
          have u2 := AtB.cell (show wr.cell? ⟨b1, o1 + i * 5 + 2, none⟩ = some (.bool y1.t.c.any) from hx1.get 2 rfl)
          have u3 := AtB.cell (show wr.cell? ⟨b1, o1 + i * 5 + 3, none⟩ = some (.bool y1.t.c.neg) from hx1.get 3 rfl)
          have u4 := AtB.cell (show wr.cell? ⟨b1, o1 + i * 5 + 4, none⟩ = some (.slice y1.T y1.t.c.ts.length y1.ct) from hx1.get 4 rfl)
          have v0 := AtB.cell (show wr.cell? ⟨b3, o3 + i * 5, none⟩ = some (.int .i64 y3.k) from hx3.get 0 rfl)
          have v1 := AtB.cell (show wr.cell? ⟨b3, o3 + i * 5 + 1, none⟩ = some (.int .i64 y3.n) from hx3.get 1 rfl)
          have v2 := AtB.cell (show wr.cell? ⟨b3, o3 + i * 5 + 2, none⟩ = some (.int .i64 y3.s) from hx3.get 2 rfl)
          have v3 := AtB.cell (show wr.cell? ⟨b3, o3 + i * 5 + 3, none⟩ = some (.string y3.t) from hx3.get 3 rfl)
          have v4 := AtB.cell (show wr.cell? ⟨b3, o3 + i * 5 + 4, none⟩ = some (.int .i64 y3.i) from hx3.get 4 rfl)
          obtain ⟨Hb, hHb⟩ : ∃ Hb, inTy y1.t y3 = Hb := ⟨_, rfl⟩
          rw [hHb] at hinv HCALL
          have HNX := Lib.hid hinv
          have HBW := Lib.hid hbel
          clear hx1 hx3 hy1 hy3 hHb hinv HINV hk1 hk3 hbel hbw
          go_wp2_with fail
          refine wp_region_quiet_at (by kernel_rfl) (by kernel_rfl) ?_
          repeat (go_big_quiet_step ((go_at_call 29; with_reducible exact AtB.quiet _ (fun W hW => HCALL.out W hW))))
          refine wpQuiet_nil ?_
          intro _ hw'
          obtain ⟨qq, hw''⟩ := hw'
          subst hw''
          have hb14 := HBW.out.trans (qq.hb.mono HBW.out.size)
          generalize qq.w = W14 at *
          clear u0 u1 u2 u3 u4 v0 v1 v2 v3 v4
          go_wp2_with fail
          go_roundg (u - (i + 1))
          case measure => omega
          case rel => exact ⟨i + 1, Hb, by omega, Nat.le_refl _, by go_num, rfl, HNX, Lib.hid (fun _ => HQU.out), hb14⟩
        · have HAF : Hid (a = F) := Lib.hid (by
            rw [← HINV.out]
            cases a
            · rfl
            · rw [inAll_end (by rw [HU.out]; have := (not_and.1 hgo) rfl; omega) (by rw [HQ.out, HA.out rfl]; have := (not_and.1 hgo) rfl; omega)]; rfl)
          have HBA8 := Lib.hid (HBA5.out.below hbel)
          have HRES8 := Lib.hid (HRES.out.imp (fun h => And.intro h.1 (And.intro ((h.2.1.below HB35.out).below hbel) h.2.2)) id)
          have K8 := K5.below hbel
          clear HRES HBA5 HINV K5 hbel hik HB35 HIN HFULL HWITH HSND hB5
          cases a
          · clear hgo
            have hFF := HAF.out
            subst hFF
            go_wp2_with fail
            generalize hX9 : World.alloc wr _ = W9
            have hb9 : Below wr.heap.size wr W9 := (by rw [← hX9]; exact Below.alloc (Below.refl _ _) (Nat.le_refl _) _)
            have K9 : BoxIs W9 wr.heap.size #[.slice Ca la.length cca] := (by rw [← hX9, HLU.out]; exact BoxIs.new (t := 48) rfl)
            have hB9 : Below w.heap.size w W9 := hbw.trans (hb9.mono hbw.size)
            have hpl : ∀ x ∈ la, x.s.sp.length ≤ 9223372036854775807 ∧ x.s.ws.length ≤ 9223372036854775807 := fun x hx => by
              obtain ⟨j, hj, rfl⟩ := List.getElem_of_mem hx
              have h1 := (fullOf_get HFUL.out j (by rw [← fullOf_len HFUL.out]; exact hj) hj).2
              have h2 := h1.ls
              have h3 := h1.lw
              exact ⟨by omega, by omega⟩
            clear hX9
            refine (HHAS.out W9 hB9 la Ca cca wr.heap.size K9 (HBA8.out.below hb9) hpl).mono ?_
            rintro e w9 ⟨rfl, hb10⟩
            rw [any_one, full_all vs HFUL.out, HF.out]
            have hB10 : Below w.heap.size w w9 := hB9.trans (hb10.mono hB9.size)
            have hb89 : Below wr.heap.size wr w9 := hb9.trans (hb10.mono hb9.size)
            have K10 := K8.below hb89
            have HRES10 := Lib.hid (HRES8.out.imp (fun h => And.intro h.1 (And.intro (h.2.1.below hb89) h.2.2)) id)
            clear hb9 hb10 hb89 hpl K9 hB9 K8 HRES8 HBA8 hbw HFUL HLU
            have HBW := Lib.hid hB10
            rcases HRES10.out with ⟨rfl, hbb, hwo⟩ | ⟨rfl, hno, rfl⟩
            · have z0 := AtB.cell (K10.c 0)
              obtain ⟨k, hk1, hnk, hsk, hll, hsay1, hsay2⟩ := with_says (vs := vs) hwo
              have hpl : ∀ x ∈ lb, x.s.sp.length ≤ 9223372036854775807 ∧ x.s.ws.length ≤ 9223372036854775807 := fun x hx => by
                obtain ⟨N', h1, h2⟩ := hwo.ok x hx
                have h3 := h2.ls
                have h4 := h2.lw
                exact ⟨by omega, by omega⟩
              have HPL := Lib.hid hpl
              have HBB := Lib.hid hbb
              have htn : n.toNat = k := by omega
              have i5 : (0 : Int) ≤ n := by omega
              have i6 : n < (u : Int) := by have := HU.out; omega
              have j4 : decide (n < 0) = false := decide_eq_false (by omega)
              have j7 : decide ((u : Int) ≤ n) = false := decide_eq_false (by have := HU.out; omega)
              obtain ⟨b1, o1, hA1, hx1⟩ := (HT.out.rd.below hB10).at_ hk1
              have HSAY : Hid (hasAll ns lb vs = false) := Lib.hid (by
                by_cases h3 : k < vs.length
                · rw [hsay2 h3, HF.out]; rfl
                · exact hsay1 (by have := hk1; omega))
              have e7 : (s.k != (ns[k]'hk1).t.k) = false := by simp [hsk]
              obtain ⟨y1, hy1⟩ : ∃ y1, ns[k]'hk1 = y1 := ⟨_, rfl⟩
              rw [hy1] at hx1 e7
              subst hA1
              have u0 := (show w9.cell? ⟨b1, o1 + k * 5, none⟩ = some (.int .i64 y1.t.k) from hx1.get 0 rfl)
              have u1 := (show w9.cell? ⟨b1, o1 + k * 5 + 1, none⟩ = some (.int .i64 y1.t.sc) from hx1.get 1 rfl)
              have u2 := (show w9.cell? ⟨b1, o1 + k * 5 + 2, none⟩ = some (.bool y1.t.c.any) from hx1.get 2 rfl)
              have u3 := (show w9.cell? ⟨b1, o1 + k * 5 + 3, none⟩ = some (.bool y1.t.c.neg) from hx1.get 3 rfl)
              have u4 := (show w9.cell? ⟨b1, o1 + k * 5 + 4, none⟩ = some (.slice y1.T y1.t.c.ts.length y1.ct) from hx1.get 4 rfl)
              clear hx1 hy1 hk1 hsk hll hnk hwo hpl hbb HRES10 HT HV hsay1 hsay2 
              have y0 := AtB.cell u0
              go_wp2_with fail
              refine wp_region_quiet_at (by kernel_rfl) (by kernel_rfl) ?_
              repeat (go_big_quiet_step (fail))
              refine wpQuiet_nil ?_
              intro _ hw'
              obtain ⟨qq, hw2⟩ := hw'
              subst hw2
              have hb7 := qq.hb
              generalize qq.w = W7 at *
              have hB7 : Below w.heap.size w W7 := hB10.trans (hb7.mono hB10.size)
              have HBB7 := Lib.hid (HBB.out.below hb7)
              have K7 := K10.below hb7
              have k7 := K7.c
              have l7 := K7.lt
              have u0 := cell_below hb7 u0
              have u1 := cell_below hb7 u1
              have u2 := cell_below hb7 u2
              have u3 := cell_below hb7 u3
              have u4 := cell_below hb7 u4
              have lb1 := cell_lt u0
              have HB7 := Lib.hid hB7
              clear z0 y0 hb7 hB10 K10 HBB HBW hB7
              have HK : ∀ w', Below W7.heap.size W7 w' → Below W7.heap.size W7 w' ∧ (∀ o, w'.cell? ⟨b1, o, none⟩ = W7.cell? ⟨b1, o, none⟩) ∧ (∀ o, w'.cell? ⟨g0, o, none⟩ = (#[.int .i64 s.k, .slice A s.sp.length ca, .bool s.al, .slice B s.ws.length cb, .int .i64 s.b, .bool s.nul] : Array Value)[o]?) := fun w' hb => ⟨hb, fun o => hb.cell (p := ⟨b1, o, none⟩) lb1, (K7.below hb).c⟩
              go_wp2_with fail
              refine wp_region_held_drew (S := (fun w' => Below W7.heap.size W7 w' ∧ (∀ o, w'.cell? ⟨b1, o, none⟩ = W7.cell? ⟨b1, o, none⟩) ∧ (∀ o, w'.cell? ⟨g0, o, none⟩ = (#[.int .i64 s.k, .slice A s.sp.length ca, .bool s.al, .slice B s.ws.length cb, .int .i64 s.b, .bool s.nul] : Array Value)[o]?))) (by kernel_rfl) (HK _ (Below.drew (Below.refl _ _))) (fun hHeld => ?_)
              refine tkH 0 ?_
              try simp only [shH]
              refine tkH 1 ?_
              try simp only [shH]
              refine tkH 2 ?_
              try simp only [shH]
              refine tkH 3 ?_ (hw := by kernel_rfl)
              try simp only [List.getElem_toArray, List.getElem_cons_zero, List.getElem_cons_succ, shH]
              refine tkH 4 ?_ (hw := by kernel_rfl)
              try simp only [List.getElem_toArray, List.getElem_cons_zero, List.getElem_cons_succ, shH]
              refine tkH 6 ?_ (hw := by kernel_rfl)
              try simp only [List.getElem_toArray, List.getElem_cons_zero, List.getElem_cons_succ, shH]
              refine tkH 8 ?_ (hw := by kernel_rfl)
              try simp only [List.getElem_toArray, List.getElem_cons_zero, List.getElem_cons_succ, shH]
              refine rdH [5] ?_
              refine AllReadyH.cons rfl (fun K hK => ?_) AllReadyH.nil
              go_simp
              refine hK.out _ _ ?_ (fun hH2 => ?_)
              · exact HK _ bel
              clear hK K hHeld
              have hHeld := hH2
              clear hH2
              try simp only [shH]
              refine rdH [7] ?_
              refine AllReadyH.cons rfl (fun K hK => ?_) AllReadyH.nil
              go_simp
              go_at_call 23
              have hba : Below W7.heap.size W7 (W7.alloc (.cells #[.slice Cb p ccb] 48)).drew := (Below.alloc (Below.refl _ _) (Nat.le_refl _) _).drew
              have hkb : BoxIs (W7.alloc (.cells #[.slice Cb p ccb] 48)).drew W7.heap.size #[.slice Cb p ccb] := (BoxIs.new (w := W7) (t := 48) rfl).below ((Below.refl _ _).drew)
              refine (HHAS.out _ (HB7.out.trans (hba.mono HB7.out.size)) lb Cb ccb W7.heap.size (by rw [HP.out]; exact hkb) (HBB7.out.below hba) HPL.out).mono ?_
              rintro e w10 ⟨rfl, hb10⟩
              rw [any_one, HSAY.out]
              have hB10 : Below W7.heap.size W7 w10 := hba.trans (hb10.mono hba.size)
              clear hba hkb hb10
              refine hK.out _ _ ?_ (fun hH2 => ?_)
              · exact HK _ hB10
              clear hK K hHeld
              have hHeld := hH2
              clear hH2
              try simp only [shH]
              refine tkH 9 ?_ (hw := by kernel_rfl)
              try simp only [List.getElem_toArray, List.getElem_cons_zero, List.getElem_cons_succ, shH]
              refine tnH 10 ?_ (hw := by kernel_rfl)
              try simp only [List.getElem_toArray, List.getElem_cons_zero, List.getElem_cons_succ, shH]
              refine tnH 11 ?_ (hw := by kernel_rfl)
              try simp only [List.getElem_toArray, List.getElem_cons_zero, List.getElem_cons_succ, shH]
              refine tnH 12 ?_ (hw := by kernel_rfl)
              try simp only [List.getElem_toArray, List.getElem_cons_zero, List.getElem_cons_succ, shH]
              refine tnH 13 ?_ (hw := by kernel_rfl)
              try simp only [List.getElem_toArray, List.getElem_cons_zero, List.getElem_cons_succ, shH]
              refine tnH 14 ?_ (hw := by kernel_rfl)
              try simp only [List.getElem_toArray, List.getElem_cons_zero, List.getElem_cons_succ, shH]
              refine tnH 15 ?_ (hw := by kernel_rfl)
              try simp only [List.getElem_toArray, List.getElem_cons_zero, List.getElem_cons_succ, shH]
              refine tnH 16 ?_ (hw := by kernel_rfl)
              try simp only [List.getElem_toArray, List.getElem_cons_zero, List.getElem_cons_succ, shH]
              refine tnH 17 ?_ (hw := by kernel_rfl)
              try simp only [List.getElem_toArray, List.getElem_cons_zero, List.getElem_cons_succ, shH]
              refine tnH 18 ?_ (hw := by kernel_rfl)
              try simp only [List.getElem_toArray, List.getElem_cons_zero, List.getElem_cons_succ, shH]
              refine tnH 19 ?_ (hw := by kernel_rfl)
              try simp only [List.getElem_toArray, List.getElem_cons_zero, List.getElem_cons_succ, shH]
              refine tkH 20 ?_ (hw := by kernel_rfl)
              try simp only [List.getElem_toArray, List.getElem_cons_zero, List.getElem_cons_succ, shH]
              refine tkH 21 ?_ (hw := by kernel_rfl)
              try simp only [List.getElem_toArray, List.getElem_cons_zero, List.getElem_cons_succ, shH]
              refine tkH 22 ?_
              try simp only [shH]
              refine tkH 23 ?_
              try simp only [shH]
              refine dnH ?_ _
              clear hHeld
              (try simp only [Exit.then, Exit.inBlock])
              go_wp2_with fail
              go_ret
              exact ⟨ret_bool (by simp), HB7.out.trans (hB10.mono HB7.out.size)⟩
            · have HNO := Lib.hid hno
              have z0 := AtB.cell (K10.c 0)
              have hp0 : p = 0 := HP.out.symm
              subst hp0
              clear hno HRES10
              by_cases hn0 : n < 0
              · go_wp2_with fail
                refine wp_region_quiet_at (by kernel_rfl) (by kernel_rfl) ?_
                repeat (go_big_quiet_step (fail))
                refine wpQuiet_nil ?_
                intro _ hw'
                obtain ⟨qq, hw2⟩ := hw'
                subst hw2
                have hbq := HBW.out.trans (qq.hb.mono HBW.out.size)
                generalize qq.w = W7 at *
                go_wp2_with fail
                go_ret
                exact ⟨rfl, hbq⟩
              · by_cases hnu : (u : Int) ≤ n
                · have j4 : decide (n < 0) = false := decide_eq_false hn0
                  have j7 : decide ((u : Int) ≤ n) = true := decide_eq_true hnu
                  go_wp2_with fail
                  refine wp_region_quiet_at (by kernel_rfl) (by kernel_rfl) ?_
                  repeat (go_big_quiet_step (fail))
                  refine wpQuiet_nil ?_
                  intro _ hw'
                  obtain ⟨qq, hw2⟩ := hw'
                  subst hw2
                  have hbq := HBW.out.trans (qq.hb.mono HBW.out.size)
                  generalize qq.w = W7 at *
                  go_wp2_with fail
                  go_ret
                  exact ⟨rfl, hbq⟩
                · obtain ⟨k, hnk⟩ : ∃ k : Nat, n = (k : Int) := ⟨n.toNat, by omega⟩
                  have htn : n.toNat = k := by omega
                  have hk1 : k < ns.length := by rw [HU.out]; omega
                  have i5 : (0 : Int) ≤ n := by omega
                  have i6 : n < (u : Int) := by omega
                  have j4 : decide (n < 0) = false := decide_eq_false hn0
                  have j7 : decide ((u : Int) ≤ n) = false := decide_eq_false hnu
                  obtain ⟨b1, o1, hA1, hx1⟩ := (HT.out.rd.below hB10).at_ hk1
                  have e7 : (s.k != (ns[k]'hk1).t.k) = true := by
                    rw [bne_iff_ne]
                    intro h
                    exact HNO.out ⟨k, hnk, hk1, h⟩
                  generalize ns[k]'hk1 = y1 at *
                  subst hA1
                  have y0 := AtB.cell (show w9.cell? ⟨b1, o1 + k * 5, none⟩ = some (.int .i64 y1.t.k) from hx1.get 0 rfl)
                  clear hx1 hk1 hnk
                  go_wp2_with fail
                  refine wp_region_quiet_at (by kernel_rfl) (by kernel_rfl) ?_
                  repeat (go_big_quiet_step (fail))
                  refine wpQuiet_nil ?_
                  intro _ hw'
                  obtain ⟨qq, hw2⟩ := hw'
                  subst hw2
                  have hbq := HBW.out.trans (qq.hb.mono HBW.out.size)
                  generalize qq.w = W7 at *
                  go_wp2_with fail
                  go_ret
                  exact ⟨rfl, hbq⟩
          · have hge : ¬ (i : Int) < (u : Int) := by have := (not_and.1 hgo) rfl; omega
            have HQU : Hid (q = u) := Lib.hid (HA.out rfl)
            clear hgo
            have hFF := HAF.out
            subst hFF
            go_wp2_with fail
            clear hge
            generalize hX9 : World.alloc wr _ = W9
            have hb9 : Below wr.heap.size wr W9 := (by rw [← hX9]; exact Below.alloc (Below.refl _ _) (Nat.le_refl _) _)
            have K9 : BoxIs W9 wr.heap.size #[.slice Ca la.length cca] := (by rw [← hX9, HLU.out]; exact BoxIs.new (t := 48) rfl)
            have hB9 : Below w.heap.size w W9 := hbw.trans (hb9.mono hbw.size)
            have hpl : ∀ x ∈ la, x.s.sp.length ≤ 9223372036854775807 ∧ x.s.ws.length ≤ 9223372036854775807 := fun x hx => by
              obtain ⟨j, hj, rfl⟩ := List.getElem_of_mem hx
              have h1 := (fullOf_get HFUL.out j (by rw [← fullOf_len HFUL.out]; exact hj) hj).2
              have h2 := h1.ls
              have h3 := h1.lw
              exact ⟨by omega, by omega⟩
            clear hX9
            refine (HHAS.out W9 hB9 la Ca cca wr.heap.size K9 (HBA8.out.below hb9) hpl).mono ?_
            rintro e w9 ⟨rfl, hb10⟩
            rw [any_one, full_all vs HFUL.out, HF.out]
            have hB10 : Below w.heap.size w w9 := hB9.trans (hb10.mono hB9.size)
            have hb89 : Below wr.heap.size wr w9 := hb9.trans (hb10.mono hb9.size)
            have K10 := K8.below hb89
            have HRES10 := Lib.hid (HRES8.out.imp (fun h => And.intro h.1 (And.intro (h.2.1.below hb89) h.2.2)) id)
            clear hb9 hb10 hb89 hpl K9 hB9 K8 HRES8 HBA8 hbw HFUL HLU
            have HBW := Lib.hid hB10
            rcases HRES10.out with ⟨rfl, hbb, hwo⟩ | ⟨rfl, hno, rfl⟩
            · have z0 := AtB.cell (K10.c 0)
              obtain ⟨k, hk1, hnk, hsk, hll, hsay1, hsay2⟩ := with_says (vs := vs) hwo
              have hpl : ∀ x ∈ lb, x.s.sp.length ≤ 9223372036854775807 ∧ x.s.ws.length ≤ 9223372036854775807 := fun x hx => by
                obtain ⟨N', h1, h2⟩ := hwo.ok x hx
                have h3 := h2.ls
                have h4 := h2.lw
                exact ⟨by omega, by omega⟩
              have HPL := Lib.hid hpl
              have HBB := Lib.hid hbb
              have htn : n.toNat = k := by omega
              have i5 : (0 : Int) ≤ n := by omega
              have i6 : n < (u : Int) := by have := HU.out; omega
              have j4 : decide (n < 0) = false := decide_eq_false (by omega)
              have j7 : decide ((u : Int) ≤ n) = false := decide_eq_false (by have := HU.out; omega)
              obtain ⟨b1, o1, hA1, hx1⟩ := (HT.out.rd.below hB10).at_ hk1
              have i8 : n < (q : Int) := by have := HQU.out; omega
              have hk3 : k < vs.length := by rw [HQ.out, HQU.out]; omega
              obtain ⟨b3, o3, hA3, hx3⟩ := (HV.out.rd.below hB10).at_ hk3
              have hsay := hsay2 hk3
              rw [HF.out, Bool.true_and] at hsay
              have hrc := fun (W : World) (hW : Below w9.heap.size w9 W) => HRH.out W (hB10.trans (hW.mono hB10.size)) k hk1 hk3
              have e7 : (s.k != (ns[k]'hk1).t.k) = false := by simp [hsk]
              obtain ⟨y1, hy1⟩ : ∃ y1, ns[k]'hk1 = y1 := ⟨_, rfl⟩
              rw [hy1] at hx1 e7 hsay hrc
              obtain ⟨y3, hy3⟩ : ∃ y3, vs[k]'hk3 = y3 := ⟨_, rfl⟩
              rw [hy3] at hx3 hsay hrc
              subst hA3
              obtain ⟨Hs, hHs⟩ : ∃ Hs, hasSt y1.t s y3 = Hs := ⟨_, rfl⟩
              rw [hHs] at hsay hrc
              have HSAY := Lib.hid hsay
              have HRC0 := Lib.hid hrc
              subst hA1
              have u0 := (show w9.cell? ⟨b1, o1 + k * 5, none⟩ = some (.int .i64 y1.t.k) from hx1.get 0 rfl)
              have u1 := (show w9.cell? ⟨b1, o1 + k * 5 + 1, none⟩ = some (.int .i64 y1.t.sc) from hx1.get 1 rfl)
              have u2 := (show w9.cell? ⟨b1, o1 + k * 5 + 2, none⟩ = some (.bool y1.t.c.any) from hx1.get 2 rfl)
              have u3 := (show w9.cell? ⟨b1, o1 + k * 5 + 3, none⟩ = some (.bool y1.t.c.neg) from hx1.get 3 rfl)
              have u4 := (show w9.cell? ⟨b1, o1 + k * 5 + 4, none⟩ = some (.slice y1.T y1.t.c.ts.length y1.ct) from hx1.get 4 rfl)
              have v0 := (show w9.cell? ⟨b3, o3 + k * 5, none⟩ = some (.int .i64 y3.k) from hx3.get 0 rfl)
              have v1 := (show w9.cell? ⟨b3, o3 + k * 5 + 1, none⟩ = some (.int .i64 y3.n) from hx3.get 1 rfl)
              have v2 := (show w9.cell? ⟨b3, o3 + k * 5 + 2, none⟩ = some (.int .i64 y3.s) from hx3.get 2 rfl)
              have v3 := (show w9.cell? ⟨b3, o3 + k * 5 + 3, none⟩ = some (.string y3.t) from hx3.get 3 rfl)
              have v4 := (show w9.cell? ⟨b3, o3 + k * 5 + 4, none⟩ = some (.int .i64 y3.i) from hx3.get 4 rfl)
              clear hx1 hy1 hk1 hsk hll hnk hwo hpl hbb HRES10 HT HV hsay1 hsay2 hx3 hy3 hk3 hsay hrc hHs
              have y0 := AtB.cell u0
              go_wp2_with fail
              refine wp_region_quiet_at (by kernel_rfl) (by kernel_rfl) ?_
              repeat (go_big_quiet_step (fail))
              refine wpQuiet_nil ?_
              intro _ hw'
              obtain ⟨qq, hw2⟩ := hw'
              subst hw2
              have hb7 := qq.hb
              generalize qq.w = W7 at *
              have hB7 : Below w.heap.size w W7 := hB10.trans (hb7.mono hB10.size)
              have HBB7 := Lib.hid (HBB.out.below hb7)
              have K7 := K10.below hb7
              have k7 := K7.c
              have l7 := K7.lt
              have u0 := cell_below hb7 u0
              have u1 := cell_below hb7 u1
              have u2 := cell_below hb7 u2
              have u3 := cell_below hb7 u3
              have u4 := cell_below hb7 u4
              have v0 := cell_below hb7 v0
              have v1 := cell_below hb7 v1
              have v2 := cell_below hb7 v2
              have v3 := cell_below hb7 v3
              have v4 := cell_below hb7 v4
              have lb3 := cell_lt v0
              have HRC := Lib.hid (fun (W : World) (hW : Below W7.heap.size W7 W) => HRC0.out W (hb7.trans (hW.mono hb7.size)))
              have lb1 := cell_lt u0
              have HB7 := Lib.hid hB7
              clear z0 y0 hb7 hB10 K10 HBB HBW hB7
              have HK : ∀ w', Below W7.heap.size W7 w' → Below W7.heap.size W7 w' ∧ (∀ o, w'.cell? ⟨b1, o, none⟩ = W7.cell? ⟨b1, o, none⟩) ∧ (∀ o, w'.cell? ⟨b3, o, none⟩ = W7.cell? ⟨b3, o, none⟩) ∧ (∀ o, w'.cell? ⟨g0, o, none⟩ = (#[.int .i64 s.k, .slice A s.sp.length ca, .bool s.al, .slice B s.ws.length cb, .int .i64 s.b, .bool s.nul] : Array Value)[o]?) := fun w' hb => ⟨hb, fun o => hb.cell (p := ⟨b1, o, none⟩) lb1, fun o => hb.cell (p := ⟨b3, o, none⟩) lb3, (K7.below hb).c⟩
              go_wp2_with fail
              refine wp_region_held_drew (S := (fun w' => Below W7.heap.size W7 w' ∧ (∀ o, w'.cell? ⟨b1, o, none⟩ = W7.cell? ⟨b1, o, none⟩) ∧ (∀ o, w'.cell? ⟨b3, o, none⟩ = W7.cell? ⟨b3, o, none⟩) ∧ (∀ o, w'.cell? ⟨g0, o, none⟩ = (#[.int .i64 s.k, .slice A s.sp.length ca, .bool s.al, .slice B s.ws.length cb, .int .i64 s.b, .bool s.nul] : Array Value)[o]?))) (by kernel_rfl) (HK _ (Below.drew (Below.refl _ _))) (fun hHeld => ?_)
              refine tkH 0 ?_
              try simp only [shH]
              refine tkH 1 ?_
              try simp only [shH]
              refine tkH 2 ?_
              try simp only [shH]
              refine tkH 3 ?_ (hw := by kernel_rfl)
              try simp only [List.getElem_toArray, List.getElem_cons_zero, List.getElem_cons_succ, shH]
              refine tkH 4 ?_ (hw := by kernel_rfl)
              try simp only [List.getElem_toArray, List.getElem_cons_zero, List.getElem_cons_succ, shH]
              refine tkH 6 ?_ (hw := by kernel_rfl)
              try simp only [List.getElem_toArray, List.getElem_cons_zero, List.getElem_cons_succ, shH]
              refine tkH 8 ?_ (hw := by kernel_rfl)
              try simp only [List.getElem_toArray, List.getElem_cons_zero, List.getElem_cons_succ, shH]
              refine rdH [5] ?_
              refine AllReadyH.cons rfl (fun K hK => ?_) AllReadyH.nil
              go_simp
              refine hK.out _ _ ?_ (fun hH2 => ?_)
              · exact HK _ bel
              clear hK K hHeld
              have hHeld := hH2
              clear hH2
              try simp only [shH]
              refine rdH [7] ?_
              refine AllReadyH.cons rfl (fun K hK => ?_) AllReadyH.nil
              go_simp
              go_at_call 23
              have hba : Below W7.heap.size W7 (W7.alloc (.cells #[.slice Cb p ccb] 48)).drew := (Below.alloc (Below.refl _ _) (Nat.le_refl _) _).drew
              have hkb : BoxIs (W7.alloc (.cells #[.slice Cb p ccb] 48)).drew W7.heap.size #[.slice Cb p ccb] := (BoxIs.new (w := W7) (t := 48) rfl).below ((Below.refl _ _).drew)
              refine (HHAS.out _ (HB7.out.trans (hba.mono HB7.out.size)) lb Cb ccb W7.heap.size (by rw [HP.out]; exact hkb) (HBB7.out.below hba) HPL.out).mono ?_
              rintro e w10 ⟨rfl, hb10⟩
              rw [any_one, HSAY.out]
              have hB10 : Below W7.heap.size W7 w10 := hba.trans (hb10.mono hba.size)
              clear hba hkb hb10
              refine hK.out _ _ ?_ (fun hH2 => ?_)
              · exact HK _ hB10
              clear hK K hHeld
              have hHeld := hH2
              clear hH2
              try simp only [shH]
              refine tkH 9 ?_ (hw := by kernel_rfl)
              try simp only [List.getElem_toArray, List.getElem_cons_zero, List.getElem_cons_succ, shH]
              refine tkH 10 ?_ (hw := by kernel_rfl)
              try simp only [List.getElem_toArray, List.getElem_cons_zero, List.getElem_cons_succ, shH]
              refine tkH 11 ?_ (hw := by kernel_rfl)
              try simp only [List.getElem_toArray, List.getElem_cons_zero, List.getElem_cons_succ, shH]
              refine tkH 12 ?_ (hw := by kernel_rfl)
              try simp only [List.getElem_toArray, List.getElem_cons_zero, List.getElem_cons_succ, shH]
              refine tkH 13 ?_ (hw := by kernel_rfl)
              try simp only [List.getElem_toArray, List.getElem_cons_zero, List.getElem_cons_succ, shH]
              refine tkH 14 ?_ (hw := by kernel_rfl)
              try simp only [List.getElem_toArray, List.getElem_cons_zero, List.getElem_cons_succ, shH]
              refine tkH 15 ?_ (hw := by kernel_rfl)
              try simp only [List.getElem_toArray, List.getElem_cons_zero, List.getElem_cons_succ, shH]
              refine tkH 16 ?_ (hw := by kernel_rfl)
              try simp only [List.getElem_toArray, List.getElem_cons_zero, List.getElem_cons_succ, shH]
              refine tkH 17 ?_ (hw := by kernel_rfl)
              try simp only [List.getElem_toArray, List.getElem_cons_zero, List.getElem_cons_succ, shH]
              refine tkH 18 ?_ (hw := by kernel_rfl)
              try simp only [List.getElem_toArray, List.getElem_cons_zero, List.getElem_cons_succ, shH]
              refine rdH [19] ?_
              refine AllReadyH.cons rfl (fun K hK => ?_) AllReadyH.nil
              go_simp
              go_at_call 30
              refine (HRC.out _ hB10).mono ?_
              rintro e w11 ⟨rfl, hb11⟩
              have hB11 : Below W7.heap.size W7 w11 := hB10.trans ((by first | exact hb11 | exact undrew hb11 : Below w10.heap.size w10 w11).mono hB10.size)
              refine hK.out _ _ ?_ (fun hH2 => ?_)
              · exact HK _ hB11
              clear hK K hHeld
              have hHeld := hH2
              clear hH2
              try simp only [shH]
              refine tkH 20 ?_ (hw := by kernel_rfl)
              try simp only [List.getElem_toArray, List.getElem_cons_zero, List.getElem_cons_succ, shH]
              refine tkH 21 ?_ (hw := by kernel_rfl)
              try simp only [List.getElem_toArray, List.getElem_cons_zero, List.getElem_cons_succ, shH]
              refine tkH 22 ?_
              try simp only [shH]
              refine tkH 23 ?_
              try simp only [shH]
              refine dnH ?_ _
              clear hHeld
              (try simp only [Exit.then, Exit.inBlock])
              go_wp2_with fail
              go_ret
              exact ⟨ret_bool (by simp), HB7.out.trans (hB11.mono HB7.out.size)⟩
            · have HNO := Lib.hid hno
              have z0 := AtB.cell (K10.c 0)
              have hp0 : p = 0 := HP.out.symm
              subst hp0
              clear hno HRES10
              by_cases hn0 : n < 0
              · go_wp2_with fail
                refine wp_region_quiet_at (by kernel_rfl) (by kernel_rfl) ?_
                repeat (go_big_quiet_step (fail))
                refine wpQuiet_nil ?_
                intro _ hw'
                obtain ⟨qq, hw2⟩ := hw'
                subst hw2
                have hbq := HBW.out.trans (qq.hb.mono HBW.out.size)
                generalize qq.w = W7 at *
                go_wp2_with fail
                go_ret
                exact ⟨rfl, hbq⟩
              · by_cases hnu : (u : Int) ≤ n
                · have j4 : decide (n < 0) = false := decide_eq_false hn0
                  have j7 : decide ((u : Int) ≤ n) = true := decide_eq_true hnu
                  go_wp2_with fail
                  refine wp_region_quiet_at (by kernel_rfl) (by kernel_rfl) ?_
                  repeat (go_big_quiet_step (fail))
                  refine wpQuiet_nil ?_
                  intro _ hw'
                  obtain ⟨qq, hw2⟩ := hw'
                  subst hw2
                  have hbq := HBW.out.trans (qq.hb.mono HBW.out.size)
                  generalize qq.w = W7 at *
                  go_wp2_with fail
                  go_ret
                  exact ⟨rfl, hbq⟩
                · obtain ⟨k, hnk⟩ : ∃ k : Nat, n = (k : Int) := ⟨n.toNat, by omega⟩
                  have htn : n.toNat = k := by omega
                  have hk1 : k < ns.length := by rw [HU.out]; omega
                  have i5 : (0 : Int) ≤ n := by omega
                  have i6 : n < (u : Int) := by omega
                  have j4 : decide (n < 0) = false := decide_eq_false hn0
                  have j7 : decide ((u : Int) ≤ n) = false := decide_eq_false hnu
                  obtain ⟨b1, o1, hA1, hx1⟩ := (HT.out.rd.below hB10).at_ hk1
                  have e7 : (s.k != (ns[k]'hk1).t.k) = true := by
                    rw [bne_iff_ne]
                    intro h
                    exact HNO.out ⟨k, hnk, hk1, h⟩
                  generalize ns[k]'hk1 = y1 at *
                  subst hA1
                  have y0 := AtB.cell (show w9.cell? ⟨b1, o1 + k * 5, none⟩ = some (.int .i64 y1.t.k) from hx1.get 0 rfl)
                  clear hx1 hk1 hnk
                  go_wp2_with fail
                  refine wp_region_quiet_at (by kernel_rfl) (by kernel_rfl) ?_
                  repeat (go_big_quiet_step (fail))
                  refine wpQuiet_nil ?_
                  intro _ hw'
                  obtain ⟨qq, hw2⟩ := hw'
                  subst hw2
                  have hbq := HBW.out.trans (qq.hb.mono HBW.out.size)
                  generalize qq.w = W7 at *
                  go_wp2_with fail
                  go_ret
                  exact ⟨rfl, hbq⟩
    · have HALL := Lib.hid hall
      clear hall
      go_wp2_with fail
      refine (HWITH.out w2 hB2).mono ?_
      rintro e w3 ⟨lb, Cb, ccb, m2, rfl, hres, hb3⟩
      obtain ⟨rfl, rfl⟩ : m2 = 2 ∧ lb = [] := by
        rcases hres with ⟨-, h, -⟩ | ⟨h1, -, h2⟩ | ⟨-, h, -⟩
        · rw [HALL.out] at h; cases h
        · exact ⟨h1, h2⟩
        · rw [HALL.out] at h; cases h
      have hB3 : Below w.heap.size w w3 := hB2.trans (hb3.mono hB2.size)
      clear hres hb3 hB2 K2 k2 l2
      go_wp2_with fail
      refine (HSND.out w3 hB3).mono ?_
      rintro e w4 ⟨rfl, hb4⟩
      rw [HALL.out]
      have hB4 : Below w.heap.size w w4 := hB3.trans (hb4.mono hB3.size)
      clear hb4 hB3
      go_wp2_with fail
      refine (awake16_any w4 (HE.out.below hB4)).mono ?_
      rintro e w5 ⟨rfl, hb5⟩
      go_wp2_with fail
      go_ret
      exact ⟨rfl, hB4.trans (hb5.mono hB4.size)⟩
  · have i30 : (30 : Int) < (M : Int) := by omega
    have i31 : (30 : Int) ≤ (ct : Int) := by omega
    obtain ⟨b0, o0, hT0, -⟩ := HT.out.rd.at_ (show 0 < ns.length by rw [HU.out]; omega)
    have HU3 := Lib.hid hu3
    clear h30 hct hu3
    go_enter Tryz.func5, Tryz.ntmps5
    go_wp2_with fail
    rw [show Value.slice (some ⟨b0, o0, none⟩) 30 ct = Value.slice T u ct by rw [HU3.out, hT0]]
    clear hT0
    generalize hX1 : World.alloc w _ = W1
    have hb1 : Below w.heap.size w W1 := (by rw [← hX1]; exact Below.alloc (Below.refl _ _) (Nat.le_refl _) _)
    have K1 : BoxIs W1 w.heap.size #[.int .i64 s.k, .slice A s.sp.length ca, .bool s.al, .slice B s.ws.length cb, .int .i64 s.b, .bool s.nul] := (by rw [← hX1]; exact BoxIs.new (t := 36) rfl)
    obtain ⟨g0, hg0⟩ : ∃ g0, w.heap.size = g0 := ⟨_, rfl⟩
    rw [hg0] at K1
    rw [hg0]
    clear hX1 hg0
    refine (HFULL.out W1 hb1).mono ?_
    rintro e w2 ⟨la, ov, m1, rfl, hres, hb2⟩
    have hB2 : Below w.heap.size w w2 := hb1.trans (hb2.mono hb1.size)
    have K2 := K1.below hb2
    have k2 := K2.c
    have l2 := K2.lt
    clear hb1 hb2 K1
    rcases hres with ⟨rfl, hall, hrow, hful⟩ | ⟨rfl, hall, rfl⟩
    · have hlen := fullOf_len hful
      obtain ⟨Ca, cca, rfl, hba⟩ := hrow.box (by rw [hlen, HU.out]; omega)
      have HALL := Lib.hid hall
      have HFUL := Lib.hid hful
      have hlu : la.length = u := hlen.trans HU.out
      have HLU := Lib.hid hlu
      rw [hlu]
      clear hrow hlen hall hful hlu
      go_wp2_with fail
      refine (HWITH.out w2 hB2).mono ?_
      rintro e w3 ⟨lb, Cb, ccb, m2, rfl, hres, hb3⟩
      have hB3 : Below w.heap.size w w3 := hB2.trans (hb3.mono hB2.size)
      have K3 := K2.below hb3
      have HBA := Lib.hid (hba.below hb3)
      have HRES : Hid ((m2 = 0 ∧ BoxAt w3 Cb lb ∧ WithOf ns n s lb) ∨ (m2 = 1 ∧ ¬ WithOk ns n s ∧ lb = [])) := Lib.hid (by
        rcases hres with ⟨h1, -, h2, h3⟩ | ⟨-, h, -⟩ | ⟨h1, -, h2, h3⟩
        · exact .inl ⟨h1, h2, h3⟩
        · rw [HALL.out] at h; cases h
        · exact .inr ⟨h1, h2, h3⟩)
      obtain ⟨p, hp⟩ : ∃ p, lb.length = p := ⟨_, rfl⟩
      have HP := Lib.hid hp
      rw [hp]
      clear hres hb3 hba K2 k2 l2 hp
      go_wp2_with fail
      refine (HSND.out w3 hB3).mono ?_
      rintro e w4 ⟨rfl, hb4⟩
      rw [HALL.out]
      go_wp2_with fail
      refine (awake16_any w4 (HE.out.below (hB3.trans (hb4.mono hB3.size)))).mono ?_
      rintro e w5 ⟨rfl, hb5⟩
      have hb35 : Below w3.heap.size w3 w5 := hb4.trans (hb5.mono hb4.size)
      have hB5 : Below w.heap.size w w5 := hB3.trans (hb35.mono hB3.size)
      have K5 := K3.below hb35
      have HBA5 := Lib.hid (HBA.out.below hb35)
      have HB35 := Lib.hid hb35
      clear hb4 hb5 hb35 hB3 K3 HBA
      obtain ⟨F, hF⟩ : ∃ F, inAll ns vs = F := ⟨_, rfl⟩
      have HF := Lib.hid hF
      obtain ⟨a0, ha0⟩ : ∃ a0 : Bool, ((q : Int) == (u : Int)) = a0 := ⟨_, rfl⟩
      have HA0 : Hid (a0 = true → q = u) := Lib.hid (fun h => by rw [h] at ha0; have := eq_of_beq ha0; omega)
      have HINV : Hid ((a0 && inAll (ns.drop 0) (vs.drop 0)) = F) := Lib.hid (by
        cases a0
        · have h1 : inAll ns vs = false := inAll_ne (by
            rw [HU.out, HQ.out]
            intro h
            rw [h] at ha0
            simp at ha0)
          rw [← hF, h1]; rfl
        · rw [← hF]; rfl)
      clear hF
      go_wp2_with fail
      clear ha0
      go_loopg [13, 14] u (fun k av iv wr => ∃ (i : Nat) (a : Bool), i ≤ u ∧ u - i ≤ k ∧ iv = .int .i64 i ∧ av = .bool a ∧ Hid ((a && inAll (ns.drop i) (vs.drop i)) = F) ∧ Hid (a = true → q = u) ∧ Below w5.heap.size w5 wr)
      case atStart => exact ⟨0, a0, by omega, by omega, rfl, rfl, HINV, HA0, Below.refl _ _⟩
      case round =>
        clear HINV HA0
        obtain ⟨i, a, hi, hik, rfl, rfl, HINV, HA, hbel⟩ := hrel
        have hbw : Below w.heap.size w wr := hB5.trans (hbel.mono hB5.size)
        by_cases hgo : a = true ∧ i < u
        · obtain ⟨rfl, hlt⟩ := hgo
          have HQU := Lib.hid (HA.out rfl)
          have i1 : (i : Int) < (u : Int) := by omega
          have i2 : (i : Int) < (q : Int) := by have := HQU.out; omega
          have i3 : (0 : Int) ≤ (i : Int) := by omega
          have hk1 : i < ns.length := by rw [HU.out]; exact hlt
          have hk3 : i < vs.length := by rw [HQ.out]; have := HQU.out; omega
          have hinv := HINV.out
          rw [Bool.true_and, inAll_drop hk1 hk3] at hinv
          obtain ⟨b1, o1, hA1, hx1⟩ := (HT.out.rd.below hbw).at_ hk1
          obtain ⟨b3, o3, hA3, hx3⟩ := (HV.out.rd.below hbw).at_ hk3
          have HCALL := Lib.hid (fun (W : World) (hW : Below wr.heap.size wr W) => HIN.out W (hbw.trans (hW.mono hbw.size)) i hk1 hk3)
          obtain ⟨y1, hy1⟩ : ∃ y1, ns[i]'hk1 = y1 := ⟨_, rfl⟩
          obtain ⟨y3, hy3⟩ : ∃ y3, vs[i]'hk3 = y3 := ⟨_, rfl⟩
          rw [hy1] at hx1 hinv HCALL
          rw [hy3] at hx3 hinv HCALL
          subst hA1
          subst hA3
          have u0 := AtB.cell (show wr.cell? ⟨b1, o1 + i * 5, none⟩ = some (.int .i64 y1.t.k) from hx1.get 0 rfl)
          have u1 := AtB.cell (show wr.cell? ⟨b1, o1 + i * 5 + 1, none⟩ = some (.int .i64 y1.t.sc) from hx1.get 1 rfl)
          have u2 := AtB.cell (show wr.cell? ⟨b1, o1 + i * 5 + 2, none⟩ = some (.bool y1.t.c.any) from hx1.get 2 rfl)
          have u3 := AtB.cell (show wr.cell? ⟨b1, o1 + i * 5 + 3, none⟩ = some (.bool y1.t.c.neg) from hx1.get 3 rfl)
          have u4 := AtB.cell (show wr.cell? ⟨b1, o1 + i * 5 + 4, none⟩ = some (.slice y1.T y1.t.c.ts.length y1.ct) from hx1.get 4 rfl)
          have v0 := AtB.cell (show wr.cell? ⟨b3, o3 + i * 5, none⟩ = some (.int .i64 y3.k) from hx3.get 0 rfl)
          have v1 := AtB.cell (show wr.cell? ⟨b3, o3 + i * 5 + 1, none⟩ = some (.int .i64 y3.n) from hx3.get 1 rfl)
          have v2 := AtB.cell (show wr.cell? ⟨b3, o3 + i * 5 + 2, none⟩ = some (.int .i64 y3.s) from hx3.get 2 rfl)
          have v3 := AtB.cell (show wr.cell? ⟨b3, o3 + i * 5 + 3, none⟩ = some (.string y3.t) from hx3.get 3 rfl)
          have v4 := AtB.cell (show wr.cell? ⟨b3, o3 + i * 5 + 4, none⟩ = some (.int .i64 y3.i) from hx3.get 4 rfl)
          obtain ⟨Hb, hHb⟩ : ∃ Hb, inTy y1.t y3 = Hb := ⟨_, rfl⟩
          rw [hHb] at hinv HCALL
          have HNX := Lib.hid hinv
          have HBW := Lib.hid hbel
          clear hx1 hx3 hy1 hy3 hHb hinv HINV hk1 hk3 hbel hbw
          go_wp2_with fail
          refine wp_region_quiet_at (by kernel_rfl) (by kernel_rfl) ?_
          repeat (go_big_quiet_step ((go_at_call 29; with_reducible exact AtB.quiet _ (fun W hW => HCALL.out W hW))))
          refine wpQuiet_nil ?_
          intro _ hw'
          obtain ⟨qq, hw''⟩ := hw'
          subst hw''
          have hb14 := HBW.out.trans (qq.hb.mono HBW.out.size)
          generalize qq.w = W14 at *
          clear u0 u1 u2 u3 u4 v0 v1 v2 v3 v4
          go_wp2_with fail
          go_roundg (u - (i + 1))
          case measure => omega
          case rel => exact ⟨i + 1, Hb, by omega, Nat.le_refl _, by go_num, rfl, HNX, Lib.hid (fun _ => HQU.out), hb14⟩
        · have HAF : Hid (a = F) := Lib.hid (by
            rw [← HINV.out]
            cases a
            · rfl
            · rw [inAll_end (by rw [HU.out]; have := (not_and.1 hgo) rfl; omega) (by rw [HQ.out, HA.out rfl]; have := (not_and.1 hgo) rfl; omega)]; rfl)
          have HBA8 := Lib.hid (HBA5.out.below hbel)
          have HRES8 := Lib.hid (HRES.out.imp (fun h => And.intro h.1 (And.intro ((h.2.1.below HB35.out).below hbel) h.2.2)) id)
          have K8 := K5.below hbel
          clear HRES HBA5 HINV K5 hbel hik HB35 HIN HFULL HWITH HSND hB5
          cases a
          · clear hgo
            have hFF := HAF.out
            subst hFF
            go_wp2_with fail
            generalize hX9 : World.alloc wr _ = W9
            have hb9 : Below wr.heap.size wr W9 := (by rw [← hX9]; exact Below.alloc (Below.refl _ _) (Nat.le_refl _) _)
            have K9 : BoxIs W9 wr.heap.size #[.slice Ca la.length cca] := (by rw [← hX9, HLU.out]; exact BoxIs.new (t := 48) rfl)
            have hB9 : Below w.heap.size w W9 := hbw.trans (hb9.mono hbw.size)
            have hpl : ∀ x ∈ la, x.s.sp.length ≤ 9223372036854775807 ∧ x.s.ws.length ≤ 9223372036854775807 := fun x hx => by
              obtain ⟨j, hj, rfl⟩ := List.getElem_of_mem hx
              have h1 := (fullOf_get HFUL.out j (by rw [← fullOf_len HFUL.out]; exact hj) hj).2
              have h2 := h1.ls
              have h3 := h1.lw
              exact ⟨by omega, by omega⟩
            clear hX9
            refine (HHAS.out W9 hB9 la Ca cca wr.heap.size K9 (HBA8.out.below hb9) hpl).mono ?_
            rintro e w9 ⟨rfl, hb10⟩
            rw [any_one, full_all vs HFUL.out, HF.out]
            have hB10 : Below w.heap.size w w9 := hB9.trans (hb10.mono hB9.size)
            have hb89 : Below wr.heap.size wr w9 := hb9.trans (hb10.mono hb9.size)
            have K10 := K8.below hb89
            have HRES10 := Lib.hid (HRES8.out.imp (fun h => And.intro h.1 (And.intro (h.2.1.below hb89) h.2.2)) id)
            clear hb9 hb10 hb89 hpl K9 hB9 K8 HRES8 HBA8 hbw HFUL HLU
            have HBW := Lib.hid hB10
            rcases HRES10.out with ⟨rfl, hbb, hwo⟩ | ⟨rfl, hno, rfl⟩
            · have z0 := AtB.cell (K10.c 0)
              obtain ⟨k, hk1, hnk, hsk, hll, hsay1, hsay2⟩ := with_says (vs := vs) hwo
              have hpl : ∀ x ∈ lb, x.s.sp.length ≤ 9223372036854775807 ∧ x.s.ws.length ≤ 9223372036854775807 := fun x hx => by
                obtain ⟨N', h1, h2⟩ := hwo.ok x hx
                have h3 := h2.ls
                have h4 := h2.lw
                exact ⟨by omega, by omega⟩
              have HPL := Lib.hid hpl
              have HBB := Lib.hid hbb
              have htn : n.toNat = k := by omega
              have i5 : (0 : Int) ≤ n := by omega
              have i6 : n < (u : Int) := by have := HU.out; omega
              have j4 : decide (n < 0) = false := decide_eq_false (by omega)
              have j7 : decide ((u : Int) ≤ n) = false := decide_eq_false (by have := HU.out; omega)
              obtain ⟨b1, o1, hA1, hx1⟩ := (HT.out.rd.below hB10).at_ hk1
              have HSAY : Hid (hasAll ns lb vs = false) := Lib.hid (by
                by_cases h3 : k < vs.length
                · rw [hsay2 h3, HF.out]; rfl
                · exact hsay1 (by have := hk1; omega))
              have e7 : (s.k != (ns[k]'hk1).t.k) = false := by simp [hsk]
              obtain ⟨y1, hy1⟩ : ∃ y1, ns[k]'hk1 = y1 := ⟨_, rfl⟩
              rw [hy1] at hx1 e7
              subst hA1
              have u0 := (show w9.cell? ⟨b1, o1 + k * 5, none⟩ = some (.int .i64 y1.t.k) from hx1.get 0 rfl)
              have u1 := (show w9.cell? ⟨b1, o1 + k * 5 + 1, none⟩ = some (.int .i64 y1.t.sc) from hx1.get 1 rfl)
              have u2 := (show w9.cell? ⟨b1, o1 + k * 5 + 2, none⟩ = some (.bool y1.t.c.any) from hx1.get 2 rfl)
              have u3 := (show w9.cell? ⟨b1, o1 + k * 5 + 3, none⟩ = some (.bool y1.t.c.neg) from hx1.get 3 rfl)
              have u4 := (show w9.cell? ⟨b1, o1 + k * 5 + 4, none⟩ = some (.slice y1.T y1.t.c.ts.length y1.ct) from hx1.get 4 rfl)
              clear hx1 hy1 hk1 hsk hll hnk hwo hpl hbb HRES10 HT HV hsay1 hsay2 
              have y0 := AtB.cell u0
              go_wp2_with fail
              refine wp_region_quiet_at (by kernel_rfl) (by kernel_rfl) ?_
              repeat (go_big_quiet_step (fail))
              refine wpQuiet_nil ?_
              intro _ hw'
              obtain ⟨qq, hw2⟩ := hw'
              subst hw2
              have hb7 := qq.hb
              generalize qq.w = W7 at *
              have hB7 : Below w.heap.size w W7 := hB10.trans (hb7.mono hB10.size)
              have HBB7 := Lib.hid (HBB.out.below hb7)
              have K7 := K10.below hb7
              have k7 := K7.c
              have l7 := K7.lt
              have u0 := cell_below hb7 u0
              have u1 := cell_below hb7 u1
              have u2 := cell_below hb7 u2
              have u3 := cell_below hb7 u3
              have u4 := cell_below hb7 u4
              have lb1 := cell_lt u0
              have HB7 := Lib.hid hB7
              clear z0 y0 hb7 hB10 K10 HBB HBW hB7
              have HK : ∀ w', Below W7.heap.size W7 w' → Below W7.heap.size W7 w' ∧ (∀ o, w'.cell? ⟨b1, o, none⟩ = W7.cell? ⟨b1, o, none⟩) ∧ (∀ o, w'.cell? ⟨g0, o, none⟩ = (#[.int .i64 s.k, .slice A s.sp.length ca, .bool s.al, .slice B s.ws.length cb, .int .i64 s.b, .bool s.nul] : Array Value)[o]?) := fun w' hb => ⟨hb, fun o => hb.cell (p := ⟨b1, o, none⟩) lb1, (K7.below hb).c⟩
              go_wp2_with fail
              refine wp_region_held_drew (S := (fun w' => Below W7.heap.size W7 w' ∧ (∀ o, w'.cell? ⟨b1, o, none⟩ = W7.cell? ⟨b1, o, none⟩) ∧ (∀ o, w'.cell? ⟨g0, o, none⟩ = (#[.int .i64 s.k, .slice A s.sp.length ca, .bool s.al, .slice B s.ws.length cb, .int .i64 s.b, .bool s.nul] : Array Value)[o]?))) (by kernel_rfl) (HK _ (Below.drew (Below.refl _ _))) (fun hHeld => ?_)
              refine tkH 0 ?_
              try simp only [shH]
              refine tkH 1 ?_
              try simp only [shH]
              refine tkH 2 ?_
              try simp only [shH]
              refine tkH 3 ?_ (hw := by kernel_rfl)
              try simp only [List.getElem_toArray, List.getElem_cons_zero, List.getElem_cons_succ, shH]
              refine tkH 4 ?_ (hw := by kernel_rfl)
              try simp only [List.getElem_toArray, List.getElem_cons_zero, List.getElem_cons_succ, shH]
              refine tkH 6 ?_ (hw := by kernel_rfl)
              try simp only [List.getElem_toArray, List.getElem_cons_zero, List.getElem_cons_succ, shH]
              refine tkH 8 ?_ (hw := by kernel_rfl)
              try simp only [List.getElem_toArray, List.getElem_cons_zero, List.getElem_cons_succ, shH]
              refine rdH [5] ?_
              refine AllReadyH.cons rfl (fun K hK => ?_) AllReadyH.nil
              go_simp
              refine hK.out _ _ ?_ (fun hH2 => ?_)
              · exact HK _ bel
              clear hK K hHeld
              have hHeld := hH2
              clear hH2
              try simp only [shH]
              refine rdH [7] ?_
              refine AllReadyH.cons rfl (fun K hK => ?_) AllReadyH.nil
              go_simp
              go_at_call 23
              have hba : Below W7.heap.size W7 (W7.alloc (.cells #[.slice Cb p ccb] 48)).drew := (Below.alloc (Below.refl _ _) (Nat.le_refl _) _).drew
              have hkb : BoxIs (W7.alloc (.cells #[.slice Cb p ccb] 48)).drew W7.heap.size #[.slice Cb p ccb] := (BoxIs.new (w := W7) (t := 48) rfl).below ((Below.refl _ _).drew)
              refine (HHAS.out _ (HB7.out.trans (hba.mono HB7.out.size)) lb Cb ccb W7.heap.size (by rw [HP.out]; exact hkb) (HBB7.out.below hba) HPL.out).mono ?_
              rintro e w10 ⟨rfl, hb10⟩
              rw [any_one, HSAY.out]
              have hB10 : Below W7.heap.size W7 w10 := hba.trans (hb10.mono hba.size)
              clear hba hkb hb10
              refine hK.out _ _ ?_ (fun hH2 => ?_)
              · exact HK _ hB10
              clear hK K hHeld
              have hHeld := hH2
              clear hH2
              try simp only [shH]
              refine tkH 9 ?_ (hw := by kernel_rfl)
              try simp only [List.getElem_toArray, List.getElem_cons_zero, List.getElem_cons_succ, shH]
              refine tnH 10 ?_ (hw := by kernel_rfl)
              try simp only [List.getElem_toArray, List.getElem_cons_zero, List.getElem_cons_succ, shH]
              refine tnH 11 ?_ (hw := by kernel_rfl)
              try simp only [List.getElem_toArray, List.getElem_cons_zero, List.getElem_cons_succ, shH]
              refine tnH 12 ?_ (hw := by kernel_rfl)
              try simp only [List.getElem_toArray, List.getElem_cons_zero, List.getElem_cons_succ, shH]
              refine tnH 13 ?_ (hw := by kernel_rfl)
              try simp only [List.getElem_toArray, List.getElem_cons_zero, List.getElem_cons_succ, shH]
              refine tnH 14 ?_ (hw := by kernel_rfl)
              try simp only [List.getElem_toArray, List.getElem_cons_zero, List.getElem_cons_succ, shH]
              refine tnH 15 ?_ (hw := by kernel_rfl)
              try simp only [List.getElem_toArray, List.getElem_cons_zero, List.getElem_cons_succ, shH]
              refine tnH 16 ?_ (hw := by kernel_rfl)
              try simp only [List.getElem_toArray, List.getElem_cons_zero, List.getElem_cons_succ, shH]
              refine tnH 17 ?_ (hw := by kernel_rfl)
              try simp only [List.getElem_toArray, List.getElem_cons_zero, List.getElem_cons_succ, shH]
              refine tnH 18 ?_ (hw := by kernel_rfl)
              try simp only [List.getElem_toArray, List.getElem_cons_zero, List.getElem_cons_succ, shH]
              refine tnH 19 ?_ (hw := by kernel_rfl)
              try simp only [List.getElem_toArray, List.getElem_cons_zero, List.getElem_cons_succ, shH]
              refine tkH 20 ?_ (hw := by kernel_rfl)
              try simp only [List.getElem_toArray, List.getElem_cons_zero, List.getElem_cons_succ, shH]
              refine tkH 21 ?_ (hw := by kernel_rfl)
              try simp only [List.getElem_toArray, List.getElem_cons_zero, List.getElem_cons_succ, shH]
              refine tkH 22 ?_
              try simp only [shH]
              refine tkH 23 ?_
              try simp only [shH]
              refine dnH ?_ _
              clear hHeld
              (try simp only [Exit.then, Exit.inBlock])
              go_wp2_with fail
              go_ret
              exact ⟨ret_bool (by simp), HB7.out.trans (hB10.mono HB7.out.size)⟩
            · have HNO := Lib.hid hno
              have z0 := AtB.cell (K10.c 0)
              have hp0 : p = 0 := HP.out.symm
              subst hp0
              clear hno HRES10
              by_cases hn0 : n < 0
              · go_wp2_with fail
                refine wp_region_quiet_at (by kernel_rfl) (by kernel_rfl) ?_
                repeat (go_big_quiet_step (fail))
                refine wpQuiet_nil ?_
                intro _ hw'
                obtain ⟨qq, hw2⟩ := hw'
                subst hw2
                have hbq := HBW.out.trans (qq.hb.mono HBW.out.size)
                generalize qq.w = W7 at *
                go_wp2_with fail
                go_ret
                exact ⟨rfl, hbq⟩
              · by_cases hnu : (u : Int) ≤ n
                · have j4 : decide (n < 0) = false := decide_eq_false hn0
                  have j7 : decide ((u : Int) ≤ n) = true := decide_eq_true hnu
                  go_wp2_with fail
                  refine wp_region_quiet_at (by kernel_rfl) (by kernel_rfl) ?_
                  repeat (go_big_quiet_step (fail))
                  refine wpQuiet_nil ?_
                  intro _ hw'
                  obtain ⟨qq, hw2⟩ := hw'
                  subst hw2
                  have hbq := HBW.out.trans (qq.hb.mono HBW.out.size)
                  generalize qq.w = W7 at *
                  go_wp2_with fail
                  go_ret
                  exact ⟨rfl, hbq⟩
                · obtain ⟨k, hnk⟩ : ∃ k : Nat, n = (k : Int) := ⟨n.toNat, by omega⟩
                  have htn : n.toNat = k := by omega
                  have hk1 : k < ns.length := by rw [HU.out]; omega
                  have i5 : (0 : Int) ≤ n := by omega
                  have i6 : n < (u : Int) := by omega
                  have j4 : decide (n < 0) = false := decide_eq_false hn0
                  have j7 : decide ((u : Int) ≤ n) = false := decide_eq_false hnu
                  obtain ⟨b1, o1, hA1, hx1⟩ := (HT.out.rd.below hB10).at_ hk1
                  have e7 : (s.k != (ns[k]'hk1).t.k) = true := by
                    rw [bne_iff_ne]
                    intro h
                    exact HNO.out ⟨k, hnk, hk1, h⟩
                  generalize ns[k]'hk1 = y1 at *
                  subst hA1
                  have y0 := AtB.cell (show w9.cell? ⟨b1, o1 + k * 5, none⟩ = some (.int .i64 y1.t.k) from hx1.get 0 rfl)
                  clear hx1 hk1 hnk
                  go_wp2_with fail
                  refine wp_region_quiet_at (by kernel_rfl) (by kernel_rfl) ?_
                  repeat (go_big_quiet_step (fail))
                  refine wpQuiet_nil ?_
                  intro _ hw'
                  obtain ⟨qq, hw2⟩ := hw'
                  subst hw2
                  have hbq := HBW.out.trans (qq.hb.mono HBW.out.size)
                  generalize qq.w = W7 at *
                  go_wp2_with fail
                  go_ret
                  exact ⟨rfl, hbq⟩
          · have hge : ¬ (i : Int) < (u : Int) := by have := (not_and.1 hgo) rfl; omega
            have HQU : Hid (q = u) := Lib.hid (HA.out rfl)
            clear hgo
            have hFF := HAF.out
            subst hFF
            go_wp2_with fail
            clear hge
            generalize hX9 : World.alloc wr _ = W9
            have hb9 : Below wr.heap.size wr W9 := (by rw [← hX9]; exact Below.alloc (Below.refl _ _) (Nat.le_refl _) _)
            have K9 : BoxIs W9 wr.heap.size #[.slice Ca la.length cca] := (by rw [← hX9, HLU.out]; exact BoxIs.new (t := 48) rfl)
            have hB9 : Below w.heap.size w W9 := hbw.trans (hb9.mono hbw.size)
            have hpl : ∀ x ∈ la, x.s.sp.length ≤ 9223372036854775807 ∧ x.s.ws.length ≤ 9223372036854775807 := fun x hx => by
              obtain ⟨j, hj, rfl⟩ := List.getElem_of_mem hx
              have h1 := (fullOf_get HFUL.out j (by rw [← fullOf_len HFUL.out]; exact hj) hj).2
              have h2 := h1.ls
              have h3 := h1.lw
              exact ⟨by omega, by omega⟩
            clear hX9
            refine (HHAS.out W9 hB9 la Ca cca wr.heap.size K9 (HBA8.out.below hb9) hpl).mono ?_
            rintro e w9 ⟨rfl, hb10⟩
            rw [any_one, full_all vs HFUL.out, HF.out]
            have hB10 : Below w.heap.size w w9 := hB9.trans (hb10.mono hB9.size)
            have hb89 : Below wr.heap.size wr w9 := hb9.trans (hb10.mono hb9.size)
            have K10 := K8.below hb89
            have HRES10 := Lib.hid (HRES8.out.imp (fun h => And.intro h.1 (And.intro (h.2.1.below hb89) h.2.2)) id)
            clear hb9 hb10 hb89 hpl K9 hB9 K8 HRES8 HBA8 hbw HFUL HLU
            have HBW := Lib.hid hB10
            rcases HRES10.out with ⟨rfl, hbb, hwo⟩ | ⟨rfl, hno, rfl⟩
            · have z0 := AtB.cell (K10.c 0)
              obtain ⟨k, hk1, hnk, hsk, hll, hsay1, hsay2⟩ := with_says (vs := vs) hwo
              have hpl : ∀ x ∈ lb, x.s.sp.length ≤ 9223372036854775807 ∧ x.s.ws.length ≤ 9223372036854775807 := fun x hx => by
                obtain ⟨N', h1, h2⟩ := hwo.ok x hx
                have h3 := h2.ls
                have h4 := h2.lw
                exact ⟨by omega, by omega⟩
              have HPL := Lib.hid hpl
              have HBB := Lib.hid hbb
              have htn : n.toNat = k := by omega
              have i5 : (0 : Int) ≤ n := by omega
              have i6 : n < (u : Int) := by have := HU.out; omega
              have j4 : decide (n < 0) = false := decide_eq_false (by omega)
              have j7 : decide ((u : Int) ≤ n) = false := decide_eq_false (by have := HU.out; omega)
              obtain ⟨b1, o1, hA1, hx1⟩ := (HT.out.rd.below hB10).at_ hk1
              have i8 : n < (q : Int) := by have := HQU.out; omega
              have hk3 : k < vs.length := by rw [HQ.out, HQU.out]; omega
              obtain ⟨b3, o3, hA3, hx3⟩ := (HV.out.rd.below hB10).at_ hk3
              have hsay := hsay2 hk3
              rw [HF.out, Bool.true_and] at hsay
              have hrc := fun (W : World) (hW : Below w9.heap.size w9 W) => HRH.out W (hB10.trans (hW.mono hB10.size)) k hk1 hk3
              have e7 : (s.k != (ns[k]'hk1).t.k) = false := by simp [hsk]
              obtain ⟨y1, hy1⟩ : ∃ y1, ns[k]'hk1 = y1 := ⟨_, rfl⟩
              rw [hy1] at hx1 e7 hsay hrc
              obtain ⟨y3, hy3⟩ : ∃ y3, vs[k]'hk3 = y3 := ⟨_, rfl⟩
              rw [hy3] at hx3 hsay hrc
              subst hA3
              obtain ⟨Hs, hHs⟩ : ∃ Hs, hasSt y1.t s y3 = Hs := ⟨_, rfl⟩
              rw [hHs] at hsay hrc
              have HSAY := Lib.hid hsay
              have HRC0 := Lib.hid hrc
              subst hA1
              have u0 := (show w9.cell? ⟨b1, o1 + k * 5, none⟩ = some (.int .i64 y1.t.k) from hx1.get 0 rfl)
              have u1 := (show w9.cell? ⟨b1, o1 + k * 5 + 1, none⟩ = some (.int .i64 y1.t.sc) from hx1.get 1 rfl)
              have u2 := (show w9.cell? ⟨b1, o1 + k * 5 + 2, none⟩ = some (.bool y1.t.c.any) from hx1.get 2 rfl)
              have u3 := (show w9.cell? ⟨b1, o1 + k * 5 + 3, none⟩ = some (.bool y1.t.c.neg) from hx1.get 3 rfl)
              have u4 := (show w9.cell? ⟨b1, o1 + k * 5 + 4, none⟩ = some (.slice y1.T y1.t.c.ts.length y1.ct) from hx1.get 4 rfl)
              have v0 := (show w9.cell? ⟨b3, o3 + k * 5, none⟩ = some (.int .i64 y3.k) from hx3.get 0 rfl)
              have v1 := (show w9.cell? ⟨b3, o3 + k * 5 + 1, none⟩ = some (.int .i64 y3.n) from hx3.get 1 rfl)
              have v2 := (show w9.cell? ⟨b3, o3 + k * 5 + 2, none⟩ = some (.int .i64 y3.s) from hx3.get 2 rfl)
              have v3 := (show w9.cell? ⟨b3, o3 + k * 5 + 3, none⟩ = some (.string y3.t) from hx3.get 3 rfl)
              have v4 := (show w9.cell? ⟨b3, o3 + k * 5 + 4, none⟩ = some (.int .i64 y3.i) from hx3.get 4 rfl)
              clear hx1 hy1 hk1 hsk hll hnk hwo hpl hbb HRES10 HT HV hsay1 hsay2 hx3 hy3 hk3 hsay hrc hHs
              have y0 := AtB.cell u0
              go_wp2_with fail
              refine wp_region_quiet_at (by kernel_rfl) (by kernel_rfl) ?_
              repeat (go_big_quiet_step (fail))
              refine wpQuiet_nil ?_
              intro _ hw'
              obtain ⟨qq, hw2⟩ := hw'
              subst hw2
              have hb7 := qq.hb
              generalize qq.w = W7 at *
              have hB7 : Below w.heap.size w W7 := hB10.trans (hb7.mono hB10.size)
              have HBB7 := Lib.hid (HBB.out.below hb7)
              have K7 := K10.below hb7
              have k7 := K7.c
              have l7 := K7.lt
              have u0 := cell_below hb7 u0
              have u1 := cell_below hb7 u1
              have u2 := cell_below hb7 u2
              have u3 := cell_below hb7 u3
              have u4 := cell_below hb7 u4
              have v0 := cell_below hb7 v0
              have v1 := cell_below hb7 v1
              have v2 := cell_below hb7 v2
              have v3 := cell_below hb7 v3
              have v4 := cell_below hb7 v4
              have lb3 := cell_lt v0
              have HRC := Lib.hid (fun (W : World) (hW : Below W7.heap.size W7 W) => HRC0.out W (hb7.trans (hW.mono hb7.size)))
              have lb1 := cell_lt u0
              have HB7 := Lib.hid hB7
              clear z0 y0 hb7 hB10 K10 HBB HBW hB7
              have HK : ∀ w', Below W7.heap.size W7 w' → Below W7.heap.size W7 w' ∧ (∀ o, w'.cell? ⟨b1, o, none⟩ = W7.cell? ⟨b1, o, none⟩) ∧ (∀ o, w'.cell? ⟨b3, o, none⟩ = W7.cell? ⟨b3, o, none⟩) ∧ (∀ o, w'.cell? ⟨g0, o, none⟩ = (#[.int .i64 s.k, .slice A s.sp.length ca, .bool s.al, .slice B s.ws.length cb, .int .i64 s.b, .bool s.nul] : Array Value)[o]?) := fun w' hb => ⟨hb, fun o => hb.cell (p := ⟨b1, o, none⟩) lb1, fun o => hb.cell (p := ⟨b3, o, none⟩) lb3, (K7.below hb).c⟩
              go_wp2_with fail
              refine wp_region_held_drew (S := (fun w' => Below W7.heap.size W7 w' ∧ (∀ o, w'.cell? ⟨b1, o, none⟩ = W7.cell? ⟨b1, o, none⟩) ∧ (∀ o, w'.cell? ⟨b3, o, none⟩ = W7.cell? ⟨b3, o, none⟩) ∧ (∀ o, w'.cell? ⟨g0, o, none⟩ = (#[.int .i64 s.k, .slice A s.sp.length ca, .bool s.al, .slice B s.ws.length cb, .int .i64 s.b, .bool s.nul] : Array Value)[o]?))) (by kernel_rfl) (HK _ (Below.drew (Below.refl _ _))) (fun hHeld => ?_)
              refine tkH 0 ?_
              try simp only [shH]
              refine tkH 1 ?_
              try simp only [shH]
              refine tkH 2 ?_
              try simp only [shH]
              refine tkH 3 ?_ (hw := by kernel_rfl)
              try simp only [List.getElem_toArray, List.getElem_cons_zero, List.getElem_cons_succ, shH]
              refine tkH 4 ?_ (hw := by kernel_rfl)
              try simp only [List.getElem_toArray, List.getElem_cons_zero, List.getElem_cons_succ, shH]
              refine tkH 6 ?_ (hw := by kernel_rfl)
              try simp only [List.getElem_toArray, List.getElem_cons_zero, List.getElem_cons_succ, shH]
              refine tkH 8 ?_ (hw := by kernel_rfl)
              try simp only [List.getElem_toArray, List.getElem_cons_zero, List.getElem_cons_succ, shH]
              refine rdH [5] ?_
              refine AllReadyH.cons rfl (fun K hK => ?_) AllReadyH.nil
              go_simp
              refine hK.out _ _ ?_ (fun hH2 => ?_)
              · exact HK _ bel
              clear hK K hHeld
              have hHeld := hH2
              clear hH2
              try simp only [shH]
              refine rdH [7] ?_
              refine AllReadyH.cons rfl (fun K hK => ?_) AllReadyH.nil
              go_simp
              go_at_call 23
              have hba : Below W7.heap.size W7 (W7.alloc (.cells #[.slice Cb p ccb] 48)).drew := (Below.alloc (Below.refl _ _) (Nat.le_refl _) _).drew
              have hkb : BoxIs (W7.alloc (.cells #[.slice Cb p ccb] 48)).drew W7.heap.size #[.slice Cb p ccb] := (BoxIs.new (w := W7) (t := 48) rfl).below ((Below.refl _ _).drew)
              refine (HHAS.out _ (HB7.out.trans (hba.mono HB7.out.size)) lb Cb ccb W7.heap.size (by rw [HP.out]; exact hkb) (HBB7.out.below hba) HPL.out).mono ?_
              rintro e w10 ⟨rfl, hb10⟩
              rw [any_one, HSAY.out]
              have hB10 : Below W7.heap.size W7 w10 := hba.trans (hb10.mono hba.size)
              clear hba hkb hb10
              refine hK.out _ _ ?_ (fun hH2 => ?_)
              · exact HK _ hB10
              clear hK K hHeld
              have hHeld := hH2
              clear hH2
              try simp only [shH]
              refine tkH 9 ?_ (hw := by kernel_rfl)
              try simp only [List.getElem_toArray, List.getElem_cons_zero, List.getElem_cons_succ, shH]
              refine tkH 10 ?_ (hw := by kernel_rfl)
              try simp only [List.getElem_toArray, List.getElem_cons_zero, List.getElem_cons_succ, shH]
              refine tkH 11 ?_ (hw := by kernel_rfl)
              try simp only [List.getElem_toArray, List.getElem_cons_zero, List.getElem_cons_succ, shH]
              refine tkH 12 ?_ (hw := by kernel_rfl)
              try simp only [List.getElem_toArray, List.getElem_cons_zero, List.getElem_cons_succ, shH]
              refine tkH 13 ?_ (hw := by kernel_rfl)
              try simp only [List.getElem_toArray, List.getElem_cons_zero, List.getElem_cons_succ, shH]
              refine tkH 14 ?_ (hw := by kernel_rfl)
              try simp only [List.getElem_toArray, List.getElem_cons_zero, List.getElem_cons_succ, shH]
              refine tkH 15 ?_ (hw := by kernel_rfl)
              try simp only [List.getElem_toArray, List.getElem_cons_zero, List.getElem_cons_succ, shH]
              refine tkH 16 ?_ (hw := by kernel_rfl)
              try simp only [List.getElem_toArray, List.getElem_cons_zero, List.getElem_cons_succ, shH]
              refine tkH 17 ?_ (hw := by kernel_rfl)
              try simp only [List.getElem_toArray, List.getElem_cons_zero, List.getElem_cons_succ, shH]
              refine tkH 18 ?_ (hw := by kernel_rfl)
              try simp only [List.getElem_toArray, List.getElem_cons_zero, List.getElem_cons_succ, shH]
              refine rdH [19] ?_
              refine AllReadyH.cons rfl (fun K hK => ?_) AllReadyH.nil
              go_simp
              go_at_call 30
              refine (HRC.out _ hB10).mono ?_
              rintro e w11 ⟨rfl, hb11⟩
              have hB11 : Below W7.heap.size W7 w11 := hB10.trans ((by first | exact hb11 | exact undrew hb11 : Below w10.heap.size w10 w11).mono hB10.size)
              refine hK.out _ _ ?_ (fun hH2 => ?_)
              · exact HK _ hB11
              clear hK K hHeld
              have hHeld := hH2
              clear hH2
              try simp only [shH]
              refine tkH 20 ?_ (hw := by kernel_rfl)
              try simp only [List.getElem_toArray, List.getElem_cons_zero, List.getElem_cons_succ, shH]
              refine tkH 21 ?_ (hw := by kernel_rfl)
              try simp only [List.getElem_toArray, List.getElem_cons_zero, List.getElem_cons_succ, shH]
              refine tkH 22 ?_
              try simp only [shH]
              refine tkH 23 ?_
              try simp only [shH]
              refine dnH ?_ _
              clear hHeld
              (try simp only [Exit.then, Exit.inBlock])
              go_wp2_with fail
              go_ret
              exact ⟨ret_bool (by simp), HB7.out.trans (hB11.mono HB7.out.size)⟩
            · have HNO := Lib.hid hno
              have z0 := AtB.cell (K10.c 0)
              have hp0 : p = 0 := HP.out.symm
              subst hp0
              clear hno HRES10
              by_cases hn0 : n < 0
              · go_wp2_with fail
                refine wp_region_quiet_at (by kernel_rfl) (by kernel_rfl) ?_
                repeat (go_big_quiet_step (fail))
                refine wpQuiet_nil ?_
                intro _ hw'
                obtain ⟨qq, hw2⟩ := hw'
                subst hw2
                have hbq := HBW.out.trans (qq.hb.mono HBW.out.size)
                generalize qq.w = W7 at *
                go_wp2_with fail
                go_ret
                exact ⟨rfl, hbq⟩
              · by_cases hnu : (u : Int) ≤ n
                · have j4 : decide (n < 0) = false := decide_eq_false hn0
                  have j7 : decide ((u : Int) ≤ n) = true := decide_eq_true hnu
                  go_wp2_with fail
                  refine wp_region_quiet_at (by kernel_rfl) (by kernel_rfl) ?_
                  repeat (go_big_quiet_step (fail))
                  refine wpQuiet_nil ?_
                  intro _ hw'
                  obtain ⟨qq, hw2⟩ := hw'
                  subst hw2
                  have hbq := HBW.out.trans (qq.hb.mono HBW.out.size)
                  generalize qq.w = W7 at *
                  go_wp2_with fail
                  go_ret
                  exact ⟨rfl, hbq⟩
                · obtain ⟨k, hnk⟩ : ∃ k : Nat, n = (k : Int) := ⟨n.toNat, by omega⟩
                  have htn : n.toNat = k := by omega
                  have hk1 : k < ns.length := by rw [HU.out]; omega
                  have i5 : (0 : Int) ≤ n := by omega
                  have i6 : n < (u : Int) := by omega
                  have j4 : decide (n < 0) = false := decide_eq_false hn0
                  have j7 : decide ((u : Int) ≤ n) = false := decide_eq_false hnu
                  obtain ⟨b1, o1, hA1, hx1⟩ := (HT.out.rd.below hB10).at_ hk1
                  have e7 : (s.k != (ns[k]'hk1).t.k) = true := by
                    rw [bne_iff_ne]
                    intro h
                    exact HNO.out ⟨k, hnk, hk1, h⟩
                  generalize ns[k]'hk1 = y1 at *
                  subst hA1
                  have y0 := AtB.cell (show w9.cell? ⟨b1, o1 + k * 5, none⟩ = some (.int .i64 y1.t.k) from hx1.get 0 rfl)
                  clear hx1 hk1 hnk
                  go_wp2_with fail
                  refine wp_region_quiet_at (by kernel_rfl) (by kernel_rfl) ?_
                  repeat (go_big_quiet_step (fail))
                  refine wpQuiet_nil ?_
                  intro _ hw'
                  obtain ⟨qq, hw2⟩ := hw'
                  subst hw2
                  have hbq := HBW.out.trans (qq.hb.mono HBW.out.size)
                  generalize qq.w = W7 at *
                  go_wp2_with fail
                  go_ret
                  exact ⟨rfl, hbq⟩
    · have HALL := Lib.hid hall
      clear hall
      go_wp2_with fail
      refine (HWITH.out w2 hB2).mono ?_
      rintro e w3 ⟨lb, Cb, ccb, m2, rfl, hres, hb3⟩
      obtain ⟨rfl, rfl⟩ : m2 = 2 ∧ lb = [] := by
        rcases hres with ⟨-, h, -⟩ | ⟨h1, -, h2⟩ | ⟨-, h, -⟩
        · rw [HALL.out] at h; cases h
        · exact ⟨h1, h2⟩
        · rw [HALL.out] at h; cases h
      have hB3 : Below w.heap.size w w3 := hB2.trans (hb3.mono hB2.size)
      clear hres hb3 hB2 K2 k2 l2
      go_wp2_with fail
      refine (HSND.out w3 hB3).mono ?_
      rintro e w4 ⟨rfl, hb4⟩
      rw [HALL.out]
      have hB4 : Below w.heap.size w w4 := hB3.trans (hb4.mono hB3.size)
      clear hb4 hB3
      go_wp2_with fail
      refine (awake16_any w4 (HE.out.below hB4)).mono ?_
      rintro e w5 ⟨rfl, hb5⟩
      go_wp2_with fail
      go_ret
      exact ⟨rfl, hB4.trans (hb5.mono hB4.size)⟩
theorem lawFull_any (ts : List TyArg) (n : Int) (s : St) (vs : List Vl) (N : Nat) (T A B V : Option Addr) (ct ca cb cv : Nat) (w : World) (hT : TysAt w T ts) (hlc : ts.length ≤ ct) (hS : StAt w s A B) (os : StOk N s) (hN : N ≤ 1048576) (hV : ValsAt w V vs) (hE : Env w) :
    Calls Tryz.prog 5 #[.slice T ts.length ct, .int .i64 n, .agg #[.int .i64 s.k, .slice A s.sp.length ca, .bool s.al, .slice B s.ws.length cb, .int .i64 s.b, .bool s.nul], .slice V vs.length cv] w fun e w' => e = .returned (.bool true) ∧ Below w.heap.size w w' :=
  lawFullB (ts.take 30) (ts.take 30).length ts.length n s vs N T A B V ct ca cb cv w rfl (by rw [List.length_take]; omega) hT.n ⟨hT.rd.takeA 30, fun x hx => hT.ty x (List.mem_of_mem_take hx), by have := hT.n; rw [List.length_take]; omega⟩ hS os hN hV hE
end Go.Proofs.YtankkadnhdfpfaaGreatDoor
