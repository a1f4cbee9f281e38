import Derived.Test.YtankkadnhdfpfaaGreatDoorPk37
import Derived.Test.YtankkadnhdfpfaaGreatDoorPk48
import Derived.Test.YtankkadnhdfpfaaGreatDoorPk32
import Derived.Test.YtankkadnhdfpfaaGreatDoorPk36
import Derived.Test.YtankkadnhdfpfaaGreatDoorPk30
import Derived.Test.YtankkadnhdfpfaaGreatDoorPk01
import Derived.Test.YtankkadnhdfpfaaGreatDoorPk44
import Derived.Test.YtankkadnhdfpfaaGreatDoorPk47
import Derived.Test.YtankkadnhdfpfaaGreatDoorPk29
import Derived.Test.YtankkadnhdfpfaaGreatDoorPk25
/- soffit/boxes.Pick: walked. -/
set_option linter.unusedSimpArgs false
set_option linter.unusedVariables false
namespace Go.Proofs.YtankkadnhdfpfaaGreatDoor
open Go.RowKit Go.Lib Sp Wd

theorem flat5_rd {w : World} {base : Nat} {ov : Value} {R : List Vl} (h : w.ownsRow base 30 5 ov R.length (R.flatMap Vl.cells5)) : ∃ A c, ov = .slice A R.length c ∧ RdL w 5 A (R.map Vl.cells5) :=
  Go.Proofs.YtankkadnhdfpfaaGreatDoor.own_rd (css := R.map Vl.cells5) h (by rw [List.flatMap_def]) (by intro c hc; obtain ⟨x, _, rfl⟩ := List.mem_map.1 hc; rfl) (by rw [List.length_map])
set_option maxRecDepth 100000 in
set_option maxHeartbeats 800000 in
theorem pk1_any (x : TyArg) (w : World) (hT : TyAt w x.t x.T) (hE : Env w) :
    Calls Tryz.prog 59 #[.agg #[.int .i64 x.t.k, .int .i64 x.t.sc, .bool x.t.c.any, .bool x.t.c.neg, .slice x.T x.t.c.ts.length x.ct]] w fun e w' => e = .returned (.bool (!tySnd x.t)) ∧ Below w.heap.size w w' := by
  have HT := Lib.hid hT
  have HE := Lib.hid hE
  clear hT hE
  go_enter Tryz.func59, Tryz.ntmps59
  go_wp2_with fail
  refine (setSound_any x.t x.T x.ct _ (HT.out.below bel) (HE.out.below bel)).mono ?_
  rintro e w1 ⟨rfl, hb1⟩
  go_wp2_with fail
  go_ret
  exact ⟨rfl, bel⟩
def PicksTo (ts : List TyArg) (ss : List StArg) (R : List Vl) : Prop := ∀ j (h1 : j < ts.length) (h2 : j < ss.length) (h3 : j < R.length), PickR (ts[j]'h1).t (ss[j]'h2).s (R[j]'h3) 0
def PickRes (w' : World) (ts : List TyArg) (ss : List StArg) (R : List Vl) (C : Option Addr) (m : Int) : Prop :=
  (m = 2 ∧ allSnd ts = false ∧ R = []) ∨ (m = 1 ∧ allSnd ts = true ∧ ts.length ≠ ss.length ∧ R = []) ∨
  (allSnd ts = true ∧ ts.length = ss.length ∧ ((m = 0 ∧ R.length = ss.length ∧ PicksTo ts ss R ∧ ValsAt w' C R) ∨ (m ≠ 0 ∧ R = [] ∧ ∃ k, ∃ (h1 : k < ts.length) (h2 : k < ss.length), (∃ Q : List Vl, Q.length = k ∧ PicksTo ts ss Q) ∧ ∃ v, PickR (ts[k]'h1).t (ss[k]'h2).s v m)))
theorem picksTo_more {ts : List TyArg} {ss : List StArg} {R : List Vl} {v : Vl} {i : Nat} (h : PicksTo ts ss R) (hi : R.length = i) (h1 : i < ts.length) (h2 : i < ss.length) (hv : PickR (ts[i]'h1).t (ss[i]'h2).s v 0) : PicksTo ts ss (R ++ [v]) := by
  intro j a b c
  by_cases hj : j < R.length
  · rw [List.getElem_append_left hj]; exact h j a b hj
  · have : j = i := by rw [List.length_append, List.length_singleton] at c; omega
    subst this
    rw [List.getElem_append_right (by omega)]
    simp only [hi, Nat.sub_self, List.getElem_singleton]
    exact hv
set_option maxRecDepth 100000 in
set_option maxHeartbeats 6400000 in
theorem bxPick_any (ts : List TyArg) (ss : List StArg) (N : Nat) (T A : Option Addr) (ct ca : Nat) (w : World) (hT : TysAt w T ts) (h20 : ts.length ≤ 1048576) (hB : BoxAt w A ss) (hO : ∀ s ∈ ss, StOk N s.s) (hN : N ≤ 400000000000) (hE : EnvP w) :
    Calls Tryz.prog 20 #[.slice T ts.length ct, .slice A ss.length ca] w fun e w' => ∃ (R : List Vl) (C : Option Addr) (c : Nat) (m : Int), e = .returned (.tuple #[.slice C R.length c, .int .i64 m]) ∧ PickRes w' ts ss R C m ∧ Below w.heap.size w w' := by
  obtain ⟨i0, hinf, hza, hzb, hzc⟩ := info_parts (show (Tryz.prog.info? 30).map (fun i => (i.zero, i.size, i.bytes)) = some (some (.agg #[.int .i64 0, .int .i64 0, .int .i64 0, .string ⟨#[]⟩, .int .i64 0]), 5, 48) by kernel_rfl)
  have HC := Lib.hid (btContains 59 (fun x => !tySnd x.t) ts T ct w hT.rd hT.n (fun x hx W hW => pk1_any x W ((hT.ty x hx).below hW) (hE.env.below hW)) (enters_of Tryz.func59 (by kernel_rfl) rfl))
  have hall : (ts.any fun x => !tySnd x.t) = !allSnd ts := by unfold allSnd; rw [List.not_all_eq_any_not]
  rw [hall] at HC
  have HT := Lib.hid hT
  have HB := Lib.hid hB
  have HO := Lib.hid hO
  have HE := Lib.hid hE
  obtain ⟨n, hn⟩ : ∃ n, ts.length = n := ⟨_, rfl⟩
  obtain ⟨p, hp⟩ : ∃ p, ss.length = p := ⟨_, rfl⟩
  have HNN := Lib.hid hn
  have HP := Lib.hid hp
  have n20 : n ≤ 1048576 := by omega
  have p63 : p ≤ 9223372036854775807 := by rw [← hp]; exact hB.n
  rw [hn] at HC
  rw [hn, hp]
  clear hT hB hO hE hn hp h20 hall
  go_enter Tryz.func20, Tryz.ntmps20
  go_wp2_with fail
  refine HC.out.mono ?_
  rintro e w1 ⟨rfl, hb1⟩
  clear HC
  cases hs : allSnd ts
  · have HS := Lib.hid hs
    clear hs
    go_wp2_with fail
    refine bodyPost_ret (v := .tuple #[.slice none 0 0, .int .i64 2]) (by simp [results, Tryz.results20, go_sem, *]) rfl ⟨[], none, 0, 2, rfl, .inl ⟨rfl, HS.out, rfl⟩, hb1⟩
  have HS := Lib.hid hs
  clear hs
  by_cases hpn : n ≠ p
  · have e1 : ((n : Int) != (p : Int)) = true := by simp; omega
    have HNE : Hid (ts.length ≠ ss.length) := Lib.hid (by rw [HNN.out, HP.out]; exact hpn)
    clear hpn
    go_wp2_with fail
    refine bodyPost_ret (v := .tuple #[.slice none 0 0, .int .i64 1]) (by simp [results, Tryz.results20, go_sem, *]) rfl ⟨[], none, 0, 1, rfl, .inr (.inl ⟨rfl, HS.out, HNE.out, rfl⟩), hb1⟩
  have hpn : n = p := by omega
  have e1 : ((n : Int) != (p : Int)) = false := by simp [hpn]
  have HPN := Lib.hid hpn
  have HEQ : Hid (ts.length = ss.length) := Lib.hid (by rw [HNN.out, HP.out]; exact hpn)
  clear hpn
  go_wp2_with fail
  go_loopg [6, 20] p (fun k ov iv wr => ∃ (i : Nat) (R : List Vl), i ≤ p ∧ p - i ≤ k ∧ iv = .int .i64 i ∧ Hid (R.length = i) ∧ Hid (wr.ownsRow w.heap.size 30 5 ov i (R.flatMap Vl.cells5)) ∧ Hid (PicksTo ts ss R) ∧ Hid (∀ v ∈ R, v.wf) ∧ Below w.heap.size w wr)
  case atStart => exact ⟨0, [], by omega, by omega, rfl, Lib.hid rfl, Lib.hid (World.ownsRow_nil _ _ _ _), Lib.hid (fun j a b c => absurd c (by simp)), Lib.hid (by simp), hb1⟩
  case round =>
    clear hb1
    obtain ⟨i, R, hi, hik, rfl, HRL, HOW, HPT, HWF, hbel⟩ := hrel
    by_cases hlt : i < p
    · have i1 : (i : Int) < (p : Int) := by omega
      have i2 : (i : Int) < (n : Int) := by have := HPN.out; omega
      have i3 : (0 : Int) ≤ (i : Int) := by omega
      have hk1 : i < ts.length := by rw [HNN.out]; have := HPN.out; omega
      have hk2 : i < ss.length := by rw [HP.out]; omega
      obtain ⟨b1, o1, hA1, hx1⟩ := (HT.out.rd.below hbel).at_ hk1
      obtain ⟨b2, o2, hA2, hx2⟩ := (HB.out.rd.below hbel).at_ hk2
      have ty1 := (HT.out.ty _ (List.getElem_mem hk1)).below hbel
      have st2 := (HB.out.st _ (List.getElem_mem hk2)).below hbel
      have ok2 := HO.out _ (List.getElem_mem hk2)
      have tys := (List.all_eq_true.1 (show (ts.all fun t => tySnd t.t) = true from HS.out)) _ (List.getElem_mem hk1)
      obtain ⟨y1, hy1⟩ : ∃ y1, ts[i]'hk1 = y1 := ⟨_, rfl⟩
      obtain ⟨y2, hy2⟩ : ∃ y2, ss[i]'hk2 = y2 := ⟨_, rfl⟩
      have HY : Hid (∃ (g1 : i < ts.length) (g2 : i < ss.length), ts[i]'g1 = y1 ∧ ss[i]'g2 = y2) := Lib.hid ⟨hk1, hk2, hy1, hy2⟩
      rw [hy1] at hx1 ty1 tys
      rw [hy2] at hx2 st2 ok2
      subst hA1
      subst hA2
      have s0 := (show wr.cell? ⟨b2, o2 + i * 6, none⟩ = some (.int .i64 y2.s.k) from hx2.get 0 rfl)
      have s1 := (show wr.cell? ⟨b2, o2 + i * 6 + 1, none⟩ = some (.slice y2.A y2.s.sp.length y2.ca) from hx2.get 1 rfl)
      have s2 := (show wr.cell? ⟨b2, o2 + i * 6 + 2, none⟩ = some (.bool y2.s.al) from hx2.get 2 rfl)
      have s3 := (show wr.cell? ⟨b2, o2 + i * 6 + 3, none⟩ = some (.slice y2.B y2.s.ws.length y2.cb) from hx2.get 3 rfl)
      have s4 := (show wr.cell? ⟨b2, o2 + i * 6 + 4, none⟩ = some (.int .i64 y2.s.b) from hx2.get 4 rfl)
      have s5 := (show wr.cell? ⟨b2, o2 + i * 6 + 5, none⟩ = some (.bool y2.s.nul) from hx2.get 5 rfl)
      have hsz := hbel.size
      clear hk1 hk2 hy1 hy2
      go_upto_region 9 with fail
      generalize hXW : World.alloc wr _ = W1
      have hbW : Below wr.heap.size wr W1 := (by rw [← hXW]; exact Below.alloc (Below.refl _ _) (Nat.le_refl _) _)
      have KS : BoxIs W1 wr.heap.size #[.int .i64 y2.s.k, .slice y2.A y2.s.sp.length y2.ca, .bool y2.s.al, .slice y2.B y2.s.ws.length y2.cb, .int .i64 y2.s.b, .bool y2.s.nul] := (by rw [← hXW]; exact BoxIs.new (t := 36) rfl)
      obtain ⟨g, hg⟩ : ∃ g, wr.heap.size = g := ⟨_, rfl⟩
      rw [hg] at KS
      rw [hg]
      have hB1 : Below w.heap.size w W1 := hbel.trans (hbW.mono hbel.size)
      have hx1 := hx1.below hbW
      have HCALL : Hid (∀ W, Below W1.heap.size W1 W → Calls Tryz.prog 26 #[.agg #[.int .i64 y1.t.k, .int .i64 y1.t.sc, .bool y1.t.c.any, .bool y1.t.c.neg, .slice y1.T y1.t.c.ts.length y1.ct], .agg #[.int .i64 y2.s.k, .slice y2.A y2.s.sp.length y2.ca, .bool y2.s.al, .slice y2.B y2.s.ws.length y2.cb, .int .i64 y2.s.b, .bool y2.s.nul]] W fun e w' => ∃ (v : Vl) (m : Int), e = .returned (.tuple #[.agg #[.int .i64 v.k, .int .i64 v.n, .int .i64 v.s, .string v.t, .int .i64 v.i], .int .i64 m]) ∧ PickR y1.t y2.s v m ∧ Below W.heap.size W w') := Lib.hid (fun W hW => pickR_any y1.t y2.s N y1.T y2.A y2.B y1.ct y2.ca y2.cb W tys ((ty1.below hbW).below hW) ((st2.below hbW).below hW) ok2 hN ((HE.out.below hB1).below hW))
      have HTS := Lib.hid tys
      have u0 := (show W1.cell? ⟨b1, o1 + i * 5, none⟩ = some (.int .i64 y1.t.k) from hx1.get 0 rfl)
      have u1 := (show W1.cell? ⟨b1, o1 + i * 5 + 1, none⟩ = some (.int .i64 y1.t.sc) from hx1.get 1 rfl)
      have u2 := (show W1.cell? ⟨b1, o1 + i * 5 + 2, none⟩ = some (.bool y1.t.c.any) from hx1.get 2 rfl)
      have u3 := (show W1.cell? ⟨b1, o1 + i * 5 + 3, none⟩ = some (.bool y1.t.c.neg) from hx1.get 3 rfl)
      have u4 := (show W1.cell? ⟨b1, o1 + i * 5 + 4, none⟩ = some (.slice y1.T y1.t.c.ts.length y1.ct) from hx1.get 4 rfl)
      have lb1 := cell_lt u0
      have cg := KS.c
      have lg := KS.lt
      have HOW1 := Lib.hid (own_below HOW.out hbW)
      have HB1 := Lib.hid hB1
      clear hXW hbW hg hbel hB1 hx1 hx2 ty1 st2 ok2 tys s0 s1 s2 s3 s4 s5 hsz HOW
      have HK : ∀ w', Below W1.heap.size W1 w' → Below W1.heap.size W1 w' ∧ (∀ o, w'.cell? ⟨b1, o, none⟩ = W1.cell? ⟨b1, o, none⟩) ∧ (∀ o, w'.cell? ⟨g, o, none⟩ = (#[.int .i64 y2.s.k, .slice y2.A y2.s.sp.length y2.ca, .bool y2.s.al, .slice y2.B y2.s.ws.length y2.cb, .int .i64 y2.s.b, .bool y2.s.nul] : Array Value)[o]?) := fun w' hb => ⟨hb, fun o => hb.cell (p := ⟨b1, o, none⟩) lb1, (KS.below hb).c⟩
      have TAIL : ∀ (v : Vl) (m : Int) (vb : Nat) (wz : World), Below W1.heap.size W1 wz → W1.heap.size ≤ vb → BoxIs wz vb #[.int .i64 v.k, .int .i64 v.n, .int .i64 v.s, .string v.t, .int .i64 v.i] → Hid (PickR y1.t y2.s v m) → (?G : Vl → Int → Nat → World → Prop) v m vb wz := ?tail
      refine wp_region_held_drew (S := (fun w' => Below W1.heap.size W1 w' ∧ (∀ o, w'.cell? ⟨b1, o, none⟩ = W1.cell? ⟨b1, o, none⟩) ∧ (∀ o, w'.cell? ⟨g, o, none⟩ = (#[.int .i64 y2.s.k, .slice y2.A y2.s.sp.length y2.ca, .bool y2.s.al, .slice y2.B y2.s.ws.length y2.cb, .int .i64 y2.s.b, .bool y2.s.nul] : Array Value)[o]?))) (by kernel_rfl) (HK _ (Below.drew (Below.refl _ _))) (fun hHeld => ?_)
      refine tkH 0 ?_
      try simp only [shH]
      refine tkH 1 ?_
      try simp only [shH]
      refine tkH 2 ?_
      try simp only [shH]
      refine tkH 3 ?_
      try simp only [shH]
      refine tkH 4 ?_
      try simp only [shH]
      refine rdH [5, 9] ?_
      refine AllReadyH.cons rfl (fun K hK => ?_) ?_
      · go_simp
        go_at_call 26
        refine (HCALL.out _ bel).mono ?_
        rintro e w2 ⟨v, m, rfl, hpr, hb2⟩
        have hPR := Lib.hid hpr
        clear hpr
        have hB2 : Below W1.heap.size W1 w2 := (by first | exact hb2 | exact undrew hb2)
        refine hK.out _ _ ?_ (fun hH2 => ?_)
        · exact HK _ hB2
        clear hK K hHeld
        have hHeld := hH2
        clear hH2
        try simp only [shH]
        refine tkH 6 ?_
        try simp only [shH]
        refine tkH 7 ?_
        try simp only [shH]
        refine tkH 8 ?_
        try simp only [shH]
        refine rdH [9] ?_
        refine AllReadyH.cons rfl (fun K hK => ?_) AllReadyH.nil
        go_simp
        refine hK.out _ _ ?_ (fun hH2 => ?_)
        · exact HK _ bel
        clear hK K hHeld
        have hHeld := hH2
        clear hH2
        try simp only [shH]
        refine rdH [10] ?_
        refine AllReadyH.cons rfl (fun K hK => ?_) AllReadyH.nil
        go_simp
        refine hK.out _ _ ?_ (fun hH2 => ?_)
        · exact HK _ bel
        clear hK K hHeld
        have hHeld := hH2
        clear hH2
        try simp only [shH]
        refine tkH 11 ?_
        try simp only [shH]
        refine dnH ?_ _
        clear hHeld
        (try simp only [Exit.then, Exit.inBlock])
        generalize hWz : World.alloc w2 _ = Wz
        have hz := (show Below W1.heap.size W1 Wz by rw [← hWz]; exact bel)
        have kv : BoxIs Wz w2.heap.size #[.int .i64 v.k, .int .i64 v.n, .int .i64 v.s, .string v.t, .int .i64 v.i] := (by rw [← hWz]; exact BoxIs.new (t := 30) rfl)
        have hvg : W1.heap.size ≤ w2.heap.size := hB2.size
        obtain ⟨vb, hvb⟩ : ∃ vb, w2.heap.size = vb := ⟨_, rfl⟩
        rw [hvb] at kv hvg
        rw [hvb]
        exact TAIL v m vb Wz hz hvg kv hPR
      refine AllReadyH.cons rfl (fun K hK => ?_) AllReadyH.nil
      go_simp
      refine hK.out _ _ ?_ (fun hH2 => ?_)
      · exact HK _ bel
      clear hK K hHeld
      have hHeld := hH2
      clear hH2
      try simp only [shH]
      refine rdH [5] ?_
      refine AllReadyH.cons rfl (fun K hK => ?_) AllReadyH.nil
      go_simp
      go_at_call 26
      refine (HCALL.out _ bel).mono ?_
      rintro e w2 ⟨v, m, rfl, hpr, hb2⟩
      have hPR := Lib.hid hpr
      clear hpr
      have hb3 : Below (W1.alloc (.cells #[.int .i64 0, .int .i64 0, .int .i64 0, .string ⟨#[]⟩, .int .i64 0] 30)).heap.size (W1.alloc (.cells #[.int .i64 0, .int .i64 0, .int .i64 0, .string ⟨#[]⟩, .int .i64 0] 30)) w2 := (by first | exact hb2 | exact undrew hb2)
      have hB2 : Below W1.heap.size W1 w2 := (Below.alloc (Below.refl _ _) (Nat.le_refl _) _).trans (hb3.mono (by simp))
      have kz : BoxIs w2 W1.heap.size #[.int .i64 0, .int .i64 0, .int .i64 0, .string ⟨#[]⟩, .int .i64 0] := BoxIs.below (BoxIs.new (t := 30) rfl) hb3
      have fz := kz.f
      have lz := kz.lt
      have cz := kz.c
      refine hK.out _ _ ?_ (fun hH2 => ?_)
      · exact HK _ hB2
      clear hK K hHeld
      have hHeld := hH2
      clear hH2
      try simp only [shH]
      refine tkH 6 ?_
      try simp only [shH]
      refine tkH 7 ?_
      try simp only [shH]
      refine tkH 8 ?_
      try simp only [shH]
      refine rdH [10] ?_
      refine AllReadyH.cons rfl (fun K hK => ?_) AllReadyH.nil
      go_simp
      refine hK.out _ _ ?_ (fun hH2 => ?_)
      · exact HK _ bel
      clear hK K hHeld
      have hHeld := hH2
      clear hH2
      try simp only [shH]
      refine tkH 11 ?_
      try simp only [shH]
      refine dnH ?_ _
      clear hHeld
      (try simp only [Exit.then, Exit.inBlock])
      generalize hWz : World.setCell _ _ _ = Wz
      have hz := (show Below W1.heap.size W1 Wz by rw [← hWz]; exact bel)
      have kv : BoxIs Wz W1.heap.size #[.int .i64 v.k, .int .i64 v.n, .int .i64 v.s, .string v.t, .int .i64 v.i] := (by rw [← hWz]; exact ((((kz.set 0 _).set 1 _).set 2 _).set 3 _).set 4 _)
      have hvg : W1.heap.size ≤ W1.heap.size := Nat.le_refl _
      obtain ⟨vb, hvb⟩ : ∃ vb, W1.heap.size = vb := ⟨_, rfl⟩
      rw [hvb] at kv
      rw [hvb]
      exact TAIL v m vb Wz hz (by omega) kv hPR
      case tail =>
        intro v m vb wz hz hvb KV HPR
        have hbz : Below w.heap.size w wz := HB1.out.trans (hz.mono HB1.out.size)
        have HOWZ := Lib.hid (own_below HOW1.out hz)
        have cv := KV.c
        have lv := KV.lt
        clear HK KS cg lg u0 u1 u2 u3 u4 lb1 HOW1 hz
        by_cases hm : m = 0
        · have e2 : (m != 0) = false := by simp [hm]
          have HG : Hid (PicksTo ts ss (R ++ [v])) := Lib.hid (by
            obtain ⟨g1, g2, h3, h4⟩ := HY.out
            refine picksTo_more HPT.out HRL.out g1 g2 ?_
            rw [h3, h4, ← hm]; exact HPR.out)
          have HW : Hid (∀ x ∈ R ++ [v], x.wf) := Lib.hid (fun x hx => (List.mem_append.1 hx).elim (HWF.out x) (fun h => by rw [List.mem_singleton.1 h]; exact HPR.out.wf HTS.out))
          clear hm
          have hil : i ≤ 1048576 := by have := HPN.out; omega
          go_wp2_with (first
            | (at_builtin; refine wpList_append_own2 _ rfl _ _ 50 rfl w.heap.size 30 i0 (.agg #[.int .i64 0, .int .i64 0, .int .i64 0, .string ⟨#[]⟩, .int .i64 0]) 5 48 Tryz.underlying50 hinf hza hzb hzc rfl (by decide) _ _ _ rfl (HOWZ.out.alloc _) ⟨wz.heap.size, 0, none⟩ 1 1 v.cells5 rfl rfl (fun j u h => lit_cells6 _ _ _ j u h) (fun u hu => by simp [Vl.cells5] at hu; rcases hu with rfl | rfl | rfl | rfl | rfl <;> rfl) ?c3 ?c4 ?c5 ?_)
            | fail)
          case c3 => unfold maxLen; omega
          case c4 => omega
          case c5 => simp; have := hbz.size; omega
          intro v' w5 hown' hgrow hblk
          have hb5 : Below w.heap.size w w5 := (hbz.alloc hbz.size _).grown hgrow (by simp; have := hbz.size; omega) (fun g hg => (HOWZ.out.lt g hg).1)
          have HO5 : Hid (w5.ownsRow w.heap.size 30 5 v' (i + 1) ((R ++ [v]).flatMap Vl.cells5)) := Lib.hid (by rw [List.flatMap_append]; simpa using hown')
          clear hown' hgrow hblk HOWZ cv lv KV
          go_wp2_with fail
          go_roundg (p - (i + 1))
          case measure => omega
          case rel => exact ⟨i + 1, R ++ [v], by omega, Nat.le_refl _, by go_num, Lib.hid (by rw [List.length_append, HRL.out]; rfl), HO5, HG, HW, hb5⟩
        · have e2 : (m != 0) = true := by simp [hm]
          have HM := Lib.hid hm
          clear hm
          go_wp2_with fail
          refine bodyPost_ret (v := .tuple #[.slice none 0 0, .int .i64 m]) (by simp [results, Tryz.results20, go_sem, *]) rfl ⟨[], none, 0, m, rfl, .inr (.inr ⟨HS.out, HEQ.out, .inr ⟨HM.out, rfl, i, ?_⟩⟩), hbz⟩
          obtain ⟨g1, g2, h3, h4⟩ := HY.out
          exact ⟨g1, g2, ⟨R, HRL.out, HPT.out⟩, v, by rw [h3, h4]; exact HPR.out⟩
    · have i1 : ¬ (i : Int) < (p : Int) := by omega
      obtain ⟨C, c, rfl, hrd⟩ := flat5_rd (R := R) (by rw [HRL.out]; exact HOW.out)
      have HRD := Lib.hid hrd
      obtain ⟨q, hq⟩ : ∃ q, R.length = q := ⟨_, rfl⟩
      have HQ := Lib.hid hq
      rw [hq]
      have HF : Hid (R.length = ss.length) := Lib.hid (by rw [HP.out, HRL.out]; omega)
      clear hrd hq
      go_wp2_with fail
      refine bodyPost_ret (v := .tuple #[.slice C q c, .int .i64 0]) (by simp [results, Tryz.results20, go_sem, *]) rfl ⟨R, C, c, 0, by rw [HQ.out], .inr (.inr ⟨HS.out, HEQ.out, .inl ⟨rfl, HF.out, HPT.out, HRD.out, HWF.out, by rw [HF.out, HP.out]; exact p63⟩⟩), hbel⟩
end Go.Proofs.YtankkadnhdfpfaaGreatDoor

/- soffitlaw16.few: walked. -/
set_option linter.unusedSimpArgs false
set_option linter.unusedVariables false
namespace Go.Proofs.YtankkadnhdfpfaaGreatDoor
open Go.RowKit Sp Wd

theorem BoxesAt.take_ {w : World} {A : Option Addr} {l : List BxArg} (h : BoxesAt w A l) (n : Nat) : BoxesAt w A (l.take n) :=
  ⟨h.rd.takeA n, fun x hx => h.bx x (List.mem_of_mem_take hx), by have := h.n; rw [List.length_take]; omega⟩
set_option maxHeartbeats 800000 in
theorem few_any (bs : List BxArg) (B : Option Addr) (cb : Nat) (w : World) (hB : BoxesAt w B bs) (hc : bs.length ≤ cb) :
    Calls Tryz.prog 22 #[.slice B bs.length cb] w fun e w' => e = .returned (.slice B (bs.take 12).length cb) ∧ Below w.heap.size w w' := by
  obtain ⟨m, hm⟩ : ∃ m, bs.length = m := ⟨_, rfl⟩
  have HM := Lib.hid hm
  have m63 : m ≤ 9223372036854775807 := by rw [← hm]; exact hB.n
  rw [hm] at hc ⊢
  by_cases h12 : 12 < m
  · have hlt : (bs.take 12).length = 12 := by rw [List.length_take, HM.out]; omega
    rw [hlt]
    obtain ⟨b0, o0, hB0, -⟩ := hB.rd.at_ (show 0 < bs.length by omega)
    have i1 : (12 : Int) < (m : Int) := by omega
    have i2 : (12 : Int) ≤ (cb : Int) := by omega
    subst hB0
    clear hm hB h12 hlt
    go_enter Tryz.func22, Tryz.ntmps22
    go_wp2_with fail
    go_ret
    exact ⟨rfl, bel⟩
  · have hlt : (bs.take 12).length = m := by rw [List.length_take, HM.out]; omega
    rw [hlt]
    have i1 : ¬ (12 : Int) < (m : Int) := by omega
    clear hm hB h12 hlt hc
    go_enter Tryz.func22, Tryz.ntmps22
    go_wp2_with fail
    go_ret
    exact ⟨rfl, bel⟩
end Go.Proofs.YtankkadnhdfpfaaGreatDoor

/- soffitlaw16.BoxesPick: walked. -/
set_option linter.unusedSimpArgs false
set_option linter.unusedVariables false
namespace Go.Proofs.YtankkadnhdfpfaaGreatDoor
open Go.RowKit Go.Lib Sp Wd

theorem one_box {W : World} {g : Nat} {l : List StArg} {A : Option Addr} {c : Nat} (hb : BoxIs W g #[.slice A l.length c]) (hx : BoxAt W A l) : BoxesAt W (some ⟨g, 0, none⟩) [⟨l, A, c⟩] :=
  ⟨rd_lit _ (fun x => rfl) hb, fun x h => by rw [List.mem_singleton.1 h]; exact hx, by simp⟩
theorem any_one (ts : List TyArg) (x : BxArg) (vs : List Vl) : anyBox ts [x] vs = hasAll ts x.l vs := by unfold anyBox; simp
theorem picks_has : ∀ {ts : List TyArg} {ss : List StArg} {R : List Vl}, allSnd ts = true → ts.length = ss.length → R.length = ss.length → PicksTo ts ss R → hasAll ts ss R = true
  | [], [], [], _, _, _, _ => rfl
  | t :: ts, s :: ss, v :: R, ha, h1, h2, hp => by
    have ha' : (tySnd t.t && allSnd ts) = true := ha
    rw [Bool.and_eq_true] at ha'
    have hv : PickR t.t s.s v 0 := hp 0 (by simp) (by simp) (by simp)
    show (hasSt t.t s.s v && hasAll ts ss R) = true
    rw [hv.has ha'.1, picks_has (ts := ts) (ss := ss) (R := R) ha'.2 (by simpa using h1) (by simpa using h2) (fun j a b c => hp (j + 1) (by simpa using a) (by simpa using b) (by simpa using c))]; rfl
  | [], [], _ :: _, _, _, h, _ => by simp at h
  | [], _ :: _, _, _, h, _, _ => by simp at h
  | _ :: _, [], _, _, h, _, _ => by simp at h
  | _ :: _, _ :: _, [], _, _, h, _ => by simp at h
theorem picks_at {w' : World} {ts : List TyArg} {ss : List StArg} {R Q : List Vl} {C : Option Addr} {m f : Int} {x : Vl} {i : Nat} (h : PickRes w' ts ss R C m) (hs : allSnd ts = true) (hl : ts.length = ss.length) (hQ : PicksTo ts ss Q) (hi : Q.length = i) (h1 : i < ts.length) (h2 : i < ss.length) (hx : PickR (ts[i]'h1).t (ss[i]'h2).s x f) (hf : f ≠ 0) : m = f ∧ R = [] := by
  rcases h with ⟨-, h, -⟩ | ⟨-, -, h, -⟩ | ⟨-, -, ⟨rfl, hr, hp, -⟩ | ⟨hm, hr, k, k1, k2, ⟨P, hP, hp⟩, v, hv⟩⟩
  · rw [hs] at h; cases h
  · exact absurd hl h
  · exact absurd ((hx.fun_ (hp i h1 h2 (by omega))).2) hf
  · rcases Nat.lt_trichotomy i k with h3 | h3 | h3
    · exact absurd ((hx.fun_ (hp i h1 h2 (by omega))).2) hf
    · subst h3; exact ⟨(hv.fun_ hx).2, hr⟩
    · exact absurd ((hv.fun_ (hQ k k1 k2 (by omega))).2) hm
theorem picks_end {w' : World} {ts : List TyArg} {ss : List StArg} {R Q : List Vl} {C : Option Addr} {m : Int} (h : PickRes w' ts ss R C m) (hs : allSnd ts = true) (hl : ts.length = ss.length) (hQ : PicksTo ts ss Q) (hi : Q.length = ss.length) : m = 0 ∧ R = Q ∧ ValsAt w' C R := by
  rcases h with ⟨-, h, -⟩ | ⟨-, -, h, -⟩ | ⟨-, -, ⟨rfl, hr, hp, hv⟩ | ⟨hm, hr, k, k1, k2, -, v, hv⟩⟩
  · rw [hs] at h; cases h
  · exact absurd hl h
  · refine ⟨rfl, List.ext_getElem (by omega) (fun j a b => ?_), hv⟩
    exact ((hp j (by omega) (by omega) a).fun_ (hQ j (by omega) (by omega) b)).1
  · exact absurd ((hv.fun_ (hQ k k1 k2 (by omega))).2) hm

set_option maxRecDepth 100000 in
set_option maxHeartbeats 12800000 in
theorem lawPickB (ns : List TyArg) (u M : Nat) (ss : List StArg) (bs : List BxArg) (vs : List Vl) (N : Nat) (T A B V : Option Addr) (ct ca cb cv : Nat) (w : World) (hu : ns.length = u) (hc : (¬ 20 < M ∧ u = M) ∨ (20 < M ∧ u = 20 ∧ M ≤ ct)) (m63 : M ≤ 9223372036854775807) (hT : TysAt w T ns) (hS : BoxAt w A ss) (hO : ∀ s ∈ ss, StOk N s.s) (hB : BoxesAt w B bs) (hbc : bs.length ≤ cb) (hBO : ∀ b ∈ bs, ∀ x ∈ b.l, StOk N x.s) (hN : N ≤ 1048576) (hV : ValsAt w V vs) (hE : EnvP w) :
    Calls Tryz.prog 4 #[.slice T M ct, .slice A ss.length ca, .slice B bs.length cb, .slice V vs.length cv] w fun e w' => e = .returned (.bool true) ∧ Below w.heap.size w w' := by
  have u20 : u ≤ 20 := by omega
  have HPICK := Lib.hid (fun (W : World) (hW : Below w.heap.size w W) => bxPick_any ns ss N T A ct ca W (hT.below hW) (by omega) (hS.below hW) hO (by omega) (hE.below hW))
  have HSND := Lib.hid (fun (W : World) (hW : Below w.heap.size w W) => sound16_any ns T ct W (hT.below hW))
  have HFEW := Lib.hid (fun (W : World) (hW : Below w.heap.size w W) => few_any bs B cb W (hB.below hW) hbc)
  have hOB : ∀ b ∈ bs.take 12, ∀ x ∈ b.l, x.s.sp.length ≤ 9223372036854775807 ∧ x.s.ws.length ≤ 9223372036854775807 := fun b hb x hx => by
    have h1 := hBO b (List.mem_of_mem_take hb) x hx
    have h2 := h1.ls
    have h3 := h1.lw
    exact ⟨by omega, by omega⟩
  have HBH := Lib.hid (fun (W : World) (hW : Below w.heap.size w W) => bxHas_any ns (bs.take 12) vs T B V ct cb cv W (hT.below hW) ((hB.take_ 12).below hW) (hV.below hW) hOB (hE.env.below hW))
  have HRH := Lib.hid (fun (W : World) (hW : Below w.heap.size w W) => has16_any ns (bs.take 12) vs T B V ct cb cv W (hT.below hW) ((hB.take_ 12).below hW) (hV.below hW) hOB)
  have HHAS := Lib.hid (fun (W : World) (hW : Below w.heap.size w W) (R : List Vl) (C : Option Addr) (c g : Nat) (hb : BoxIs W g #[.slice A ss.length ca]) (hR : ValsAt W C R) =>
    has16_any ns [⟨ss, A, ca⟩] R T (some ⟨g, 0, none⟩) C ct 1 c W (hT.below hW) (one_box hb (hS.below hW)) hR (fun b hb x h => by
      rw [List.mem_singleton.1 hb] at h
      have h2 := (hO x h).ls
      have h3 := (hO x h).lw
      exact ⟨by omega, by omega⟩))
  have HONE := Lib.hid (fun (W : World) (hW : Below w.heap.size w W) (hs : allSnd ns = true) (i : Nat) (h1 : i < ns.length) (h2 : i < ss.length) => pickR_any (ns[i]'h1).t (ss[i]'h2).s N (ns[i]'h1).T (ss[i]'h2).A (ss[i]'h2).B (ns[i]'h1).ct (ss[i]'h2).ca (ss[i]'h2).cb W ((List.all_eq_true.1 (show (ns.all fun t => tySnd t.t) = true from hs)) _ (List.getElem_mem h1)) ((hT.ty _ (List.getElem_mem h1)).below hW) ((hS.st _ (List.getElem_mem h2)).below hW) (hO _ (List.getElem_mem h2)) (by omega) (hE.below hW))
  obtain ⟨i0, hinf, hza, hzb, hzc⟩ := info_parts (show (Tryz.prog.info? 30).map (fun i => (i.zero, i.size, i.bytes)) = some (some (.agg #[.int .i64 0, .int .i64 0, .int .i64 0, .string ⟨#[]⟩, .int .i64 0]), 5, 48) by kernel_rfl)
  obtain ⟨p, hp⟩ : ∃ p, ss.length = p := ⟨_, rfl⟩
  obtain ⟨m, hm⟩ : ∃ m, bs.length = m := ⟨_, rfl⟩
  obtain ⟨f12, hf12⟩ : ∃ f12, (bs.take 12).length = f12 := ⟨_, rfl⟩
  obtain ⟨q, hq⟩ : ∃ q, vs.length = q := ⟨_, rfl⟩
  obtain ⟨AB, hAB⟩ : ∃ AB, anyBox ns (bs.take 12) vs = AB := ⟨_, rfl⟩
  have p63 : p ≤ 9223372036854775807 := by rw [← hp]; exact hS.n
  rw [hu] at HPICK HSND HBH HRH HHAS
  rw [hp] at HPICK
  rw [hm, hf12] at HFEW
  rw [hf12, hq, hAB] at HBH HRH
  rw [hp, hm, hq]
  have HT := Lib.hid hT
  have HS := Lib.hid hS
  have HE := Lib.hid hE
  have HU := Lib.hid hu
  have HP := Lib.hid hp
  clear hT hS hB hV hE hu hp hm hf12 hq hAB hO hBO hOB hbc hN
  rcases hc with ⟨h20, rfl⟩ | ⟨h20, hu3, hct⟩
  · have i20 : ¬ (20 : Int) < (u : Int) := by omega
    clear h20
    go_enter Tryz.func4, Tryz.ntmps4
    go_wp2_with fail
    refine (HPICK.out w (Below.refl _ _)).mono ?_
    rintro e w2 ⟨R, C, c, m1, rfl, hres, hB2⟩
    have HRES := Lib.hid hres
    obtain ⟨r, hr⟩ : ∃ r, R.length = r := ⟨_, rfl⟩
    have HRL := Lib.hid hr
    rw [hr]
    clear hres hr
    go_wp2_with fail
    refine (HFEW.out w2 hB2).mono ?_
    rintro e w3 ⟨rfl, hb3⟩
    have hB3 := hB2.trans (hb3.mono hB2.size)
    go_wp2_with fail
    refine (HBH.out w3 hB3).mono ?_
    rintro e w4 ⟨rfl, hb4⟩
    have hB4 := hB3.trans (hb4.mono hB3.size)
    go_wp2_with fail
    refine (HFEW.out w4 hB4).mono ?_
    rintro e w5 ⟨rfl, hb5⟩
    have hB5 := hB4.trans (hb5.mono hB4.size)
    go_wp2_with fail
    refine (HRH.out w5 hB5).mono ?_
    rintro e w6 ⟨rfl, hb6⟩
    have hB6 := hB5.trans (hb6.mono hB5.size)
    have hb26 : Below w2.heap.size w2 w6 := ((hb3.trans (hb4.mono hb3.size)).trans (hb5.mono (hb3.trans (hb4.mono hb3.size)).size)).trans (hb6.mono ((hb3.trans (hb4.mono hb3.size)).trans (hb5.mono (hb3.trans (hb4.mono hb3.size)).size)).size)
    have e97 : (AB != AB) = false := by simp
    clear hb3 hb4 hb5 hb6 hB2 hB3 hB4 hB5 HFEW HBH HRH
    go_wp2_with fail
    clear e97
    refine (HSND.out w6 hB6).mono ?_
    rintro e w7 ⟨rfl, hb7⟩
    have hB7 := hB6.trans (hb7.mono hB6.size)
    have hb27 : Below w2.heap.size w2 w7 := hb26.trans (hb7.mono hb26.size)
    clear hb7 hb26 hB6
    cases hs : allSnd ns
    · obtain ⟨rfl, hr0⟩ : m1 = 2 ∧ R = [] := by
        rcases HRES.out with ⟨h1, -, h2⟩ | ⟨-, h, -⟩ | ⟨h, -⟩
        · exact ⟨h1, h2⟩
        · rw [hs] at h; cases h
        · rw [hs] at h; cases h
      have hr1 : 0 = r := by rw [← HRL.out, hr0]; rfl
      subst hr1
      clear hr0 hs
      go_wp2_with fail
      refine (awake16_any _ (HE.out.env.below hB7)).mono ?_
      rintro e z9 ⟨rfl, hb9⟩
      go_wp2_with fail
      go_ret
      exact ⟨rfl, hB7.trans (hb9.mono hB7.size)⟩
    have HALL := Lib.hid hs
    clear hs
    by_cases hpn : u ≠ p
    · have e1 : ((u : Int) != (p : Int)) = true := by simp; omega
      obtain ⟨rfl, hr0⟩ : m1 = 1 ∧ R = [] := by
        rcases HRES.out with ⟨-, h, -⟩ | ⟨h1, -, -, h2⟩ | ⟨-, h, -⟩
        · rw [HALL.out] at h; cases h
        · exact ⟨h1, h2⟩
        · exact absurd (HU.out.symm.trans (h.trans HP.out)) hpn
      have hr1 : 0 = r := by rw [← HRL.out, hr0]; rfl
      subst hr1
      clear hr0 hpn
      go_wp2_with fail
      refine (awake16_any _ (HE.out.env.below hB7)).mono ?_
      rintro e z9 ⟨rfl, hb9⟩
      go_wp2_with fail
      go_ret
      exact ⟨rfl, hB7.trans (hb9.mono hB7.size)⟩
    have hpn : u = p := by omega
    have e1 : ((u : Int) != (p : Int)) = false := by simp [hpn]
    have HPN := Lib.hid hpn
    have HEQ : Hid (ns.length = ss.length) := Lib.hid (by rw [HU.out, HP.out]; exact hpn)
    have p20 : p ≤ 20 := by omega
    have HB27 := Lib.hid hb27
    clear hpn hb27
    go_wp2_with fail
    generalize hX8 : World.alloc w7 _ = W8
    have hb78 : Below w7.heap.size w7 W8 := (by rw [← hX8]; exact Below.alloc (Below.refl _ _) (Nat.le_refl _) _)
    have HOW0 : Hid (W8.ownsRow w7.heap.size 30 5 (.slice (some ⟨w7.heap.size, 0, none⟩) 0 0) 0 []) := Lib.hid ⟨rfl, .inr ⟨w7.heap.size, 0, #[], rfl, Nat.le_refl _, by rw [← hX8]; exact (MapKept.heap_alloc w7 _).1, Nat.zero_le _, Nat.zero_le _, rfl, rfl⟩⟩
    clear hX8
    go_loopg [11, 12] p (fun k ov iv wr => ∃ (i : Nat) (Q : List Vl), i ≤ p ∧ p - i ≤ k ∧ iv = .int .i64 i ∧ Hid (Q.length = i) ∧ Hid (wr.ownsRow w7.heap.size 30 5 ov i (Q.flatMap Vl.cells5)) ∧ Hid (PicksTo ns ss Q) ∧ Below w7.heap.size w7 wr)
    case atStart => exact ⟨0, [], by omega, by omega, rfl, Lib.hid rfl, HOW0, Lib.hid (fun j a b c => absurd c (by simp)), hb78⟩
    case round =>
      clear hb78 HOW0
      obtain ⟨i, Q, hi, hik, rfl, HQL, HOW, HPT, hbel⟩ := hrel
      have hbw : Below w.heap.size w wr := hB7.trans (hbel.mono hB7.size)
      by_cases hlt : i < p
      · have i1 : (i : Int) < (p : Int) := by omega
        have i2 : (i : Int) < (u : Int) := by have := HPN.out; omega
        have i3 : (0 : Int) ≤ (i : Int) := by omega
        have hk1 : i < ns.length := by rw [HU.out]; have := HPN.out; omega
        have hk2 : i < ss.length := by rw [HP.out]; omega
        obtain ⟨b1, o1, hA1, hx1⟩ := (HT.out.rd.below hbw).at_ hk1
        obtain ⟨b2, o2, hA2, hx2⟩ := (HS.out.rd.below hbw).at_ hk2
        have hcall := fun (W : World) (hW : Below wr.heap.size wr W) => HONE.out W (hbw.trans (hW.mono hbw.size)) HALL.out i hk1 hk2
        obtain ⟨y1, hy1⟩ : ∃ y1, ns[i]'hk1 = y1 := ⟨_, rfl⟩
        obtain ⟨y2, hy2⟩ : ∃ y2, ss[i]'hk2 = y2 := ⟨_, rfl⟩
        have HY : Hid (∃ (g1 : i < ns.length) (g2 : i < ss.length), ns[i]'g1 = y1 ∧ ss[i]'g2 = y2) := Lib.hid ⟨hk1, hk2, hy1, hy2⟩
        rw [hy1] at hx1 hcall
        rw [hy2] at hx2 hcall
        have HCALL := Lib.hid hcall
        subst hA1
        subst hA2
        have u0 := (show wr.cell? ⟨b1, o1 + i * 5, none⟩ = some (.int .i64 y1.t.k) from hx1.get 0 rfl)
        have u1 := (show wr.cell? ⟨b1, o1 + i * 5 + 1, none⟩ = some (.int .i64 y1.t.sc) from hx1.get 1 rfl)
        have u2 := (show wr.cell? ⟨b1, o1 + i * 5 + 2, none⟩ = some (.bool y1.t.c.any) from hx1.get 2 rfl)
        have u3 := (show wr.cell? ⟨b1, o1 + i * 5 + 3, none⟩ = some (.bool y1.t.c.neg) from hx1.get 3 rfl)
        have u4 := (show wr.cell? ⟨b1, o1 + i * 5 + 4, none⟩ = some (.slice y1.T y1.t.c.ts.length y1.ct) from hx1.get 4 rfl)
        have s0 := (show wr.cell? ⟨b2, o2 + i * 6, none⟩ = some (.int .i64 y2.s.k) from hx2.get 0 rfl)
        have s1 := (show wr.cell? ⟨b2, o2 + i * 6 + 1, none⟩ = some (.slice y2.A y2.s.sp.length y2.ca) from hx2.get 1 rfl)
        have s2 := (show wr.cell? ⟨b2, o2 + i * 6 + 2, none⟩ = some (.bool y2.s.al) from hx2.get 2 rfl)
        have s3 := (show wr.cell? ⟨b2, o2 + i * 6 + 3, none⟩ = some (.slice y2.B y2.s.ws.length y2.cb) from hx2.get 3 rfl)
        have s4 := (show wr.cell? ⟨b2, o2 + i * 6 + 4, none⟩ = some (.int .i64 y2.s.b) from hx2.get 4 rfl)
        have s5 := (show wr.cell? ⟨b2, o2 + i * 6 + 5, none⟩ = some (.bool y2.s.nul) from hx2.get 5 rfl)
        have lb1 := cell_lt u0
        have lb2 := cell_lt s0
        have HBW := Lib.hid hbw
        clear hk1 hk2 hy1 hy2 hx1 hx2 hcall hbw
        go_wp2_with fail
        have HK : ∀ w', Below wr.heap.size wr w' → Below wr.heap.size wr w' ∧ (∀ o, w'.cell? ⟨b1, o, none⟩ = wr.cell? ⟨b1, o, none⟩) ∧ (∀ o, w'.cell? ⟨b2, o, none⟩ = wr.cell? ⟨b2, o, none⟩) := fun w' hb => ⟨hb, fun o => hb.cell (p := ⟨b1, o, none⟩) lb1, fun o => hb.cell (p := ⟨b2, o, none⟩) lb2⟩
        have TAIL : ∀ (x : Vl) (f : Int) (vb : Nat) (wz : World), Below wr.heap.size wr wz → wr.heap.size ≤ vb → BoxIs wz vb #[.int .i64 x.k, .int .i64 x.n, .int .i64 x.s, .string x.t, .int .i64 x.i] → Hid (PickR y1.t y2.s x f) → (?G : Vl → Int → Nat → World → Prop) x f vb wz := ?tail
        refine wp_region_held_drew (S := (fun w' => Below wr.heap.size wr w' ∧ (∀ o, w'.cell? ⟨b1, o, none⟩ = wr.cell? ⟨b1, o, none⟩) ∧ (∀ o, w'.cell? ⟨b2, o, none⟩ = wr.cell? ⟨b2, o, none⟩))) (by kernel_rfl) (HK _ (Below.drew (Below.refl _ _))) (fun hHeld => ?_)
        refine tkH 0 ?_
        try simp only [shH]
        refine tkH 1 ?_
        try simp only [shH]
        refine tkH 2 ?_
        try simp only [shH]
        refine tkH 3 ?_
        try simp only [shH]
        refine tkH 4 ?_
        try simp only [shH]
        refine tkH 5 ?_
        try simp only [shH]
        refine tkH 6 ?_
        try simp only [shH]
        refine tkH 7 ?_
        try simp only [shH]
        refine rdH [8, 12] ?_
        refine AllReadyH.cons rfl (fun K hK => ?_) ?_
        · go_simp
          go_at_call 26
          refine (HCALL.out _ bel).mono ?_
          rintro e z2 ⟨x, f, rfl, hpr, hb2⟩
          have hPR := Lib.hid hpr
          clear hpr
          have hB2 : Below wr.heap.size wr z2 := (by first | exact hb2 | exact undrew hb2)
          refine hK.out _ _ ?_ (fun hH2 => ?_)
          · exact HK _ hB2
          clear hK K hHeld
          have hHeld := hH2
          clear hH2
          try simp only [shH]
          refine tkH 9 ?_
          try simp only [shH]
          refine tkH 10 ?_
          try simp only [shH]
          refine tkH 11 ?_
          try simp only [shH]
          refine rdH [12] ?_
          refine AllReadyH.cons rfl (fun K hK => ?_) AllReadyH.nil
          go_simp
          refine hK.out _ _ ?_ (fun hH2 => ?_)
          · exact HK _ bel
          clear hK K hHeld
          have hHeld := hH2
          clear hH2
          try simp only [shH]
          refine rdH [13] ?_
          refine AllReadyH.cons rfl (fun K hK => ?_) AllReadyH.nil
          go_simp
          refine hK.out _ _ ?_ (fun hH2 => ?_)
          · exact HK _ bel
          clear hK K hHeld
          have hHeld := hH2
          clear hH2
          try simp only [shH]
          refine tkH 14 ?_
          try simp only [shH]
          refine dnH ?_ _
          clear hHeld
          (try simp only [Exit.then, Exit.inBlock])
          generalize hWz : World.alloc z2 _ = Wz
          have hz := (show Below wr.heap.size wr Wz by rw [← hWz]; exact bel)
          have kv : BoxIs Wz z2.heap.size #[.int .i64 x.k, .int .i64 x.n, .int .i64 x.s, .string x.t, .int .i64 x.i] := (by rw [← hWz]; exact BoxIs.new (t := 30) rfl)
          have hvg : wr.heap.size ≤ z2.heap.size := hB2.size
          obtain ⟨vb, hvb⟩ : ∃ vb, z2.heap.size = vb := ⟨_, rfl⟩
          rw [hvb] at kv hvg
          rw [hvb]
          exact TAIL x f vb Wz hz hvg kv hPR
        refine AllReadyH.cons rfl (fun K hK => ?_) AllReadyH.nil
        go_simp
        refine hK.out _ _ ?_ (fun hH2 => ?_)
        · exact HK _ bel
        clear hK K hHeld
        have hHeld := hH2
        clear hH2
        try simp only [shH]
        refine rdH [8] ?_
        refine AllReadyH.cons rfl (fun K hK => ?_) AllReadyH.nil
        go_simp
        go_at_call 26
        refine (HCALL.out _ bel).mono ?_
        rintro e z2 ⟨x, f, rfl, hpr, hb2⟩
        have hPR := Lib.hid hpr
        clear hpr
        have hb3 : Below (wr.alloc (.cells #[.int .i64 0, .int .i64 0, .int .i64 0, .string ⟨#[]⟩, .int .i64 0] 30)).heap.size (wr.alloc (.cells #[.int .i64 0, .int .i64 0, .int .i64 0, .string ⟨#[]⟩, .int .i64 0] 30)) z2 := (by first | exact hb2 | exact undrew hb2)
        have hB2 : Below wr.heap.size wr z2 := (Below.alloc (Below.refl _ _) (Nat.le_refl _) _).trans (hb3.mono (by simp))
        have kz : BoxIs z2 wr.heap.size #[.int .i64 0, .int .i64 0, .int .i64 0, .string ⟨#[]⟩, .int .i64 0] := BoxIs.below (BoxIs.new (t := 30) rfl) hb3
        have fz := kz.f
        have lz := kz.lt
        have cz := kz.c
        refine hK.out _ _ ?_ (fun hH2 => ?_)
        · exact HK _ hB2
        clear hK K hHeld
        have hHeld := hH2
        clear hH2
        try simp only [shH]
        refine tkH 9 ?_
        try simp only [shH]
        refine tkH 10 ?_
        try simp only [shH]
        refine tkH 11 ?_
        try simp only [shH]
        refine rdH [13] ?_
        refine AllReadyH.cons rfl (fun K hK => ?_) AllReadyH.nil
        go_simp
        refine hK.out _ _ ?_ (fun hH2 => ?_)
        · exact HK _ bel
        clear hK K hHeld
        have hHeld := hH2
        clear hH2
        try simp only [shH]
        refine tkH 14 ?_
        try simp only [shH]
        refine dnH ?_ _
        clear hHeld
        (try simp only [Exit.then, Exit.inBlock])
        generalize hWz : World.setCell _ _ _ = Wz
        have hz := (show Below wr.heap.size wr Wz by rw [← hWz]; exact bel)
        have kv : BoxIs Wz wr.heap.size #[.int .i64 x.k, .int .i64 x.n, .int .i64 x.s, .string x.t, .int .i64 x.i] := (by rw [← hWz]; exact ((((kz.set 0 _).set 1 _).set 2 _).set 3 _).set 4 _)
        obtain ⟨vb, hvb⟩ : ∃ vb, wr.heap.size = vb := ⟨_, rfl⟩
        rw [hvb] at kv
        rw [hvb]
        exact TAIL x f vb Wz hz (by omega) kv hPR
        case tail =>
          intro x f vb wz hz hvb KV HPR
          have hbz : Below w.heap.size w wz := HBW.out.trans (hz.mono HBW.out.size)
          have hb7z : Below w7.heap.size w7 wz := hbel.trans (hz.mono hbel.size)
          have HOWZ := Lib.hid (own_below HOW.out hz)
          have cv2 := KV.c
          have lv2 := KV.lt
          clear HK u0 u1 u2 u3 u4 s0 s1 s2 s3 s4 s5 lb1 lb2 HOW hz hbel
          by_cases hf : f = 0
          · have e2 : (f != 0) = false := by simp [hf]
            have HG : Hid (PicksTo ns ss (Q ++ [x])) := Lib.hid (by
              obtain ⟨g1, g2, h3, h4⟩ := HY.out
              refine picksTo_more HPT.out HQL.out g1 g2 ?_
              rw [h3, h4, ← hf]; exact HPR.out)
            clear hf
            have hil : i ≤ 1048576 := by omega
            go_wp2_with (first
              | (at_builtin; refine wpList_append_own2 _ rfl _ _ 50 rfl w7.heap.size 30 i0 (.agg #[.int .i64 0, .int .i64 0, .int .i64 0, .string ⟨#[]⟩, .int .i64 0]) 5 48 Tryz.underlying50 hinf hza hzb hzc rfl (by decide) _ _ _ rfl (HOWZ.out.alloc _) ⟨wz.heap.size, 0, none⟩ 1 1 x.cells5 rfl rfl (fun j u h => lit_cells6 _ _ _ j u h) (fun u hu => by simp [Vl.cells5] at hu; rcases hu with rfl | rfl | rfl | rfl | rfl <;> rfl) ?c3 ?c4 ?c5 ?_)
              | fail)
            case c3 => unfold maxLen; omega
            case c4 => omega
            case c5 => simp; have := hb7z.size; omega
            intro v' w5 hown' hgrow hblk
            have hb5 : Below w7.heap.size w7 w5 := (hb7z.alloc hb7z.size _).grown hgrow (by simp; have := hb7z.size; omega) (fun g hg => (HOWZ.out.lt g hg).1)
            have HO5 : Hid (w5.ownsRow w7.heap.size 30 5 v' (i + 1) ((Q ++ [x]).flatMap Vl.cells5)) := Lib.hid (by rw [List.flatMap_append]; simpa using hown')
            clear hown' hgrow hblk HOWZ cv2 lv2 KV
            go_wp2_with fail
            go_roundg (p - (i + 1))
            case measure => omega
            case rel => exact ⟨i + 1, Q ++ [x], by omega, Nat.le_refl _, by go_num, Lib.hid (by rw [List.length_append, HQL.out]; rfl), HO5, HG, hb5⟩
          · have e2 : (f != 0) = true := by simp [hf]
            obtain ⟨hmf, hr0⟩ : m1 = f ∧ R = [] := by
              obtain ⟨g1, g2, h3, h4⟩ := HY.out
              exact picks_at HRES.out HALL.out HEQ.out HPT.out HQL.out g1 g2 (by rw [h3, h4]; exact HPR.out) hf
            subst hmf
            have hr1 : 0 = r := by rw [← HRL.out, hr0]; rfl
            subst hr1
            clear hr0 hf HRES
            go_wp2_with fail
            refine (awake16_any _ (HE.out.env.below hbz)).mono ?_
            rintro e z9 ⟨rfl, hb9⟩
            go_wp2_with fail
            go_ret
            exact ⟨rfl, hbz.trans (hb9.mono hbz.size)⟩
      · obtain ⟨rfl, hRQ, hVR⟩ := picks_end HRES.out HALL.out HEQ.out HPT.out (by rw [HQL.out, HP.out]; omega)
        have hrp : r = p := by rw [← HRL.out, hRQ, HQL.out]; omega
        have hb2w : Below w2.heap.size w2 wr := HB27.out.trans (hbel.mono HB27.out.size)
        have HVR := Lib.hid (hVR.below hb2w)
        have HRQ := Lib.hid hRQ
        have HPT2 : Hid (PicksTo ns ss R) := Lib.hid (by rw [hRQ]; exact HPT.out)
        obtain ⟨CQ, cq, rfl, hrdq⟩ := flat5_rd (R := Q) (by rw [HQL.out]; exact HOW.out)
        have hql : Q.length = p := by rw [HQL.out]; omega
        have HQ2 := Lib.hid hql
        have HRDQ := Lib.hid hrdq
        rw [hql]
        subst hrp
        have i1 : ¬ (i : Int) < (r : Int) := by omega
        have HBW := Lib.hid hbw
        clear hRQ hVR hb2w hrdq hql hlt HRES HPT HOW hbw hbel HQL hik hi
        go_wp2_with fail
        go_loopg [15] r (fun k iv wq => ∃ j : Nat, j ≤ r ∧ r - j ≤ k ∧ iv = .int .i64 j ∧ Below wr.heap.size wr wq)
        case atStart => exact ⟨0, by omega, by omega, rfl, Below.refl _ _⟩
        case round =>
          clear i1
          obtain ⟨j, hj, hjk, rfl, hbq⟩ := hrel
          by_cases hlt : j < r
          · have i1 : (j : Int) < (r : Int) := by omega
            have i3 : (0 : Int) ≤ (j : Int) := by omega
            have hk1 : j < R.length := by rw [HRL.out]; exact hlt
            have hk2 : j < Q.length := by rw [HQ2.out]; exact hlt
            obtain ⟨b4, o4, hA4, hx4⟩ := (HVR.out.rd.below hbq).at_ hk1
            obtain ⟨b5, o5, hA5, hx5⟩ := (HRDQ.out.below hbq).at_ hk2
            have hsame : R[j]'hk1 = Q[j]'hk2 := by simp only [HRQ.out]
            rw [hsame] at hx4
            generalize Q[j]'hk2 = y at *
            subst hA4
            subst hA5
            have u0 := AtB.cell (show wr.cell? ⟨b4, o4 + j * 5, none⟩ = some (.int .i64 y.k) from hx4.get 0 rfl)
            have u1 := AtB.cell (show wr.cell? ⟨b4, o4 + j * 5 + 1, none⟩ = some (.int .i64 y.n) from hx4.get 1 rfl)
            have u2 := AtB.cell (show wr.cell? ⟨b4, o4 + j * 5 + 2, none⟩ = some (.int .i64 y.s) from hx4.get 2 rfl)
            have u3 := AtB.cell (show wr.cell? ⟨b4, o4 + j * 5 + 3, none⟩ = some (.string y.t) from hx4.get 3 rfl)
            have u4 := AtB.cell (show wr.cell? ⟨b4, o4 + j * 5 + 4, none⟩ = some (.int .i64 y.i) from hx4.get 4 rfl)
            have v0 := AtB.cell (show wr.cell? ⟨b5, o5 + j * 5, none⟩ = some (.int .i64 y.k) from hx5.get 0 rfl)
            have v1 := AtB.cell (show wr.cell? ⟨b5, o5 + j * 5 + 1, none⟩ = some (.int .i64 y.n) from hx5.get 1 rfl)
            have v2 := AtB.cell (show wr.cell? ⟨b5, o5 + j * 5 + 2, none⟩ = some (.int .i64 y.s) from hx5.get 2 rfl)
            have v3 := AtB.cell (show wr.cell? ⟨b5, o5 + j * 5 + 3, none⟩ = some (.string y.t) from hx5.get 3 rfl)
            have v4 := AtB.cell (show wr.cell? ⟨b5, o5 + j * 5 + 4, none⟩ = some (.int .i64 y.i) from hx5.get 4 rfl)
            have hne : ∀ W : World, _ := fun W => (neV_run y y W).trans (by rw [(eqB_iff y y).2 rfl])
            have HBQ := Lib.hid hbq
            clear hx4 hx5 hk1 hk2 hsame hbq
            go_wp2_with fail
            have j7 : decide ((r : Int) ≤ (j : Int)) = false := decide_eq_false (by omega)
            have j8 : decide (r ≤ j) = false := decide_eq_false (by omega)
            refine wp_region_quiet_at (by kernel_rfl) (by kernel_rfl) ?_
            repeat (go_big_quiet_step (fail))
            refine wpQuiet_nil ?_
            intro _ hw'
            obtain ⟨qq, hw2⟩ := hw'
            subst hw2
            have hb14 := HBQ.out.trans (qq.hb.mono HBQ.out.size)
            generalize qq.w = W14 at *
            clear u0 u1 u2 u3 u4 v0 v1 v2 v3 v4 hne j7 j8
            go_wp2_with fail
            go_roundg (r - (j + 1))
            case measure => omega
            case rel => exact ⟨j + 1, by omega, Nat.le_refl _, by go_num, hb14⟩
          · have i1 : ¬ (j : Int) < (r : Int) := by omega
            have hB10 := HBW.out.trans (hbq.mono HBW.out.size)
            have HV10 := Lib.hid (HVR.out.below hbq)
            clear hbq
            go_wp2_with fail
            refine (awake16_any _ (HE.out.env.below hB10)).mono ?_
            rintro e z9 ⟨rfl, hb9⟩
            have hB11 := hB10.trans (hb9.mono hB10.size)
            have HV11 := Lib.hid (HV10.out.below hb9)
            clear hb9 hB10 HV10
            go_wp2_with fail
            generalize hX12 : World.alloc z9 _ = W12
            have hb12 : Below z9.heap.size z9 W12 := (by rw [← hX12]; exact Below.alloc (Below.refl _ _) (Nat.le_refl _) _)
            have K12 : BoxIs W12 z9.heap.size #[.slice A ss.length ca] := (by rw [← hX12, HP.out]; exact BoxIs.new (t := 48) rfl)
            have hB12 := hB11.trans (hb12.mono hB11.size)
            clear hX12
            have hfin := HHAS.out W12 hB12 R C c z9.heap.size K12 (HV11.out.below hb12)
            rw [HRL.out, any_one, picks_has HALL.out HEQ.out (by rw [HRL.out, HP.out]) HPT2.out] at hfin
            refine hfin.mono ?_
            rintro e z13 ⟨rfl, hb13⟩
            go_wp2_with fail
            go_ret
            exact ⟨rfl, hB12.trans (hb13.mono hB12.size)⟩
  · have i20 : (20 : Int) < (M : Int) := by omega
    have i21 : (20 : Int) ≤ (ct : Int) := by omega
    obtain ⟨b0, o0, hT0, -⟩ := HT.out.rd.at_ (show 0 < ns.length by rw [HU.out]; omega)
    have HU3 := Lib.hid hu3
    clear h20 hct hu3
    go_enter Tryz.func4, Tryz.ntmps4
    go_wp2_with fail
    rw [show Value.slice (some ⟨b0, o0, none⟩) 20 ct = Value.slice T u ct by rw [HU3.out, hT0]]
    clear hT0
    refine (HPICK.out w (Below.refl _ _)).mono ?_
    rintro e w2 ⟨R, C, c, m1, rfl, hres, hB2⟩
    have HRES := Lib.hid hres
    obtain ⟨r, hr⟩ : ∃ r, R.length = r := ⟨_, rfl⟩
    have HRL := Lib.hid hr
    rw [hr]
    clear hres hr
    go_wp2_with fail
    refine (HFEW.out w2 hB2).mono ?_
    rintro e w3 ⟨rfl, hb3⟩
    have hB3 := hB2.trans (hb3.mono hB2.size)
    go_wp2_with fail
    refine (HBH.out w3 hB3).mono ?_
    rintro e w4 ⟨rfl, hb4⟩
    have hB4 := hB3.trans (hb4.mono hB3.size)
    go_wp2_with fail
    refine (HFEW.out w4 hB4).mono ?_
    rintro e w5 ⟨rfl, hb5⟩
    have hB5 := hB4.trans (hb5.mono hB4.size)
    go_wp2_with fail
    refine (HRH.out w5 hB5).mono ?_
    rintro e w6 ⟨rfl, hb6⟩
    have hB6 := hB5.trans (hb6.mono hB5.size)
    have hb26 : Below w2.heap.size w2 w6 := ((hb3.trans (hb4.mono hb3.size)).trans (hb5.mono (hb3.trans (hb4.mono hb3.size)).size)).trans (hb6.mono ((hb3.trans (hb4.mono hb3.size)).trans (hb5.mono (hb3.trans (hb4.mono hb3.size)).size)).size)
    have e97 : (AB != AB) = false := by simp
    clear hb3 hb4 hb5 hb6 hB2 hB3 hB4 hB5 HFEW HBH HRH
    go_wp2_with fail
    clear e97
    refine (HSND.out w6 hB6).mono ?_
    rintro e w7 ⟨rfl, hb7⟩
    have hB7 := hB6.trans (hb7.mono hB6.size)
    have hb27 : Below w2.heap.size w2 w7 := hb26.trans (hb7.mono hb26.size)
    clear hb7 hb26 hB6
    cases hs : allSnd ns
    · obtain ⟨rfl, hr0⟩ : m1 = 2 ∧ R = [] := by
        rcases HRES.out with ⟨h1, -, h2⟩ | ⟨-, h, -⟩ | ⟨h, -⟩
        · exact ⟨h1, h2⟩
        · rw [hs] at h; cases h
        · rw [hs] at h; cases h
      have hr1 : 0 = r := by rw [← HRL.out, hr0]; rfl
      subst hr1
      clear hr0 hs
      go_wp2_with fail
      refine (awake16_any _ (HE.out.env.below hB7)).mono ?_
      rintro e z9 ⟨rfl, hb9⟩
      go_wp2_with fail
      go_ret
      exact ⟨rfl, hB7.trans (hb9.mono hB7.size)⟩
    have HALL := Lib.hid hs
    clear hs
    by_cases hpn : u ≠ p
    · have e1 : ((u : Int) != (p : Int)) = true := by simp; omega
      obtain ⟨rfl, hr0⟩ : m1 = 1 ∧ R = [] := by
        rcases HRES.out with ⟨-, h, -⟩ | ⟨h1, -, -, h2⟩ | ⟨-, h, -⟩
        · rw [HALL.out] at h; cases h
        · exact ⟨h1, h2⟩
        · exact absurd (HU.out.symm.trans (h.trans HP.out)) hpn
      have hr1 : 0 = r := by rw [← HRL.out, hr0]; rfl
      subst hr1
      clear hr0 hpn
      go_wp2_with fail
      refine (awake16_any _ (HE.out.env.below hB7)).mono ?_
      rintro e z9 ⟨rfl, hb9⟩
      go_wp2_with fail
      go_ret
      exact ⟨rfl, hB7.trans (hb9.mono hB7.size)⟩
    have hpn : u = p := by omega
    have e1 : ((u : Int) != (p : Int)) = false := by simp [hpn]
    have HPN := Lib.hid hpn
    have HEQ : Hid (ns.length = ss.length) := Lib.hid (by rw [HU.out, HP.out]; exact hpn)
    have p20 : p ≤ 20 := by omega
    have HB27 := Lib.hid hb27
    clear hpn hb27
    go_wp2_with fail
    generalize hX8 : World.alloc w7 _ = W8
    have hb78 : Below w7.heap.size w7 W8 := (by rw [← hX8]; exact Below.alloc (Below.refl _ _) (Nat.le_refl _) _)
    have HOW0 : Hid (W8.ownsRow w7.heap.size 30 5 (.slice (some ⟨w7.heap.size, 0, none⟩) 0 0) 0 []) := Lib.hid ⟨rfl, .inr ⟨w7.heap.size, 0, #[], rfl, Nat.le_refl _, by rw [← hX8]; exact (MapKept.heap_alloc w7 _).1, Nat.zero_le _, Nat.zero_le _, rfl, rfl⟩⟩
    clear hX8
    go_loopg [11, 12] p (fun k ov iv wr => ∃ (i : Nat) (Q : List Vl), i ≤ p ∧ p - i ≤ k ∧ iv = .int .i64 i ∧ Hid (Q.length = i) ∧ Hid (wr.ownsRow w7.heap.size 30 5 ov i (Q.flatMap Vl.cells5)) ∧ Hid (PicksTo ns ss Q) ∧ Below w7.heap.size w7 wr)
    case atStart => exact ⟨0, [], by omega, by omega, rfl, Lib.hid rfl, HOW0, Lib.hid (fun j a b c => absurd c (by simp)), hb78⟩
    case round =>
      clear hb78 HOW0
      obtain ⟨i, Q, hi, hik, rfl, HQL, HOW, HPT, hbel⟩ := hrel
      have hbw : Below w.heap.size w wr := hB7.trans (hbel.mono hB7.size)
      by_cases hlt : i < p
      · have i1 : (i : Int) < (p : Int) := by omega
        have i2 : (i : Int) < (u : Int) := by have := HPN.out; omega
        have i3 : (0 : Int) ≤ (i : Int) := by omega
        have hk1 : i < ns.length := by rw [HU.out]; have := HPN.out; omega
        have hk2 : i < ss.length := by rw [HP.out]; omega
        obtain ⟨b1, o1, hA1, hx1⟩ := (HT.out.rd.below hbw).at_ hk1
        obtain ⟨b2, o2, hA2, hx2⟩ := (HS.out.rd.below hbw).at_ hk2
        have hcall := fun (W : World) (hW : Below wr.heap.size wr W) => HONE.out W (hbw.trans (hW.mono hbw.size)) HALL.out i hk1 hk2
        obtain ⟨y1, hy1⟩ : ∃ y1, ns[i]'hk1 = y1 := ⟨_, rfl⟩
        obtain ⟨y2, hy2⟩ : ∃ y2, ss[i]'hk2 = y2 := ⟨_, rfl⟩
        have HY : Hid (∃ (g1 : i < ns.length) (g2 : i < ss.length), ns[i]'g1 = y1 ∧ ss[i]'g2 = y2) := Lib.hid ⟨hk1, hk2, hy1, hy2⟩
        rw [hy1] at hx1 hcall
        rw [hy2] at hx2 hcall
        have HCALL := Lib.hid hcall
        subst hA1
        subst hA2
        have u0 := (show wr.cell? ⟨b1, o1 + i * 5, none⟩ = some (.int .i64 y1.t.k) from hx1.get 0 rfl)
        have u1 := (show wr.cell? ⟨b1, o1 + i * 5 + 1, none⟩ = some (.int .i64 y1.t.sc) from hx1.get 1 rfl)
        have u2 := (show wr.cell? ⟨b1, o1 + i * 5 + 2, none⟩ = some (.bool y1.t.c.any) from hx1.get 2 rfl)
        have u3 := (show wr.cell? ⟨b1, o1 + i * 5 + 3, none⟩ = some (.bool y1.t.c.neg) from hx1.get 3 rfl)
        have u4 := (show wr.cell? ⟨b1, o1 + i * 5 + 4, none⟩ = some (.slice y1.T y1.t.c.ts.length y1.ct) from hx1.get 4 rfl)
        have s0 := (show wr.cell? ⟨b2, o2 + i * 6, none⟩ = some (.int .i64 y2.s.k) from hx2.get 0 rfl)
        have s1 := (show wr.cell? ⟨b2, o2 + i * 6 + 1, none⟩ = some (.slice y2.A y2.s.sp.length y2.ca) from hx2.get 1 rfl)
        have s2 := (show wr.cell? ⟨b2, o2 + i * 6 + 2, none⟩ = some (.bool y2.s.al) from hx2.get 2 rfl)
        have s3 := (show wr.cell? ⟨b2, o2 + i * 6 + 3, none⟩ = some (.slice y2.B y2.s.ws.length y2.cb) from hx2.get 3 rfl)
        have s4 := (show wr.cell? ⟨b2, o2 + i * 6 + 4, none⟩ = some (.int .i64 y2.s.b) from hx2.get 4 rfl)
        have s5 := (show wr.cell? ⟨b2, o2 + i * 6 + 5, none⟩ = some (.bool y2.s.nul) from hx2.get 5 rfl)
        have lb1 := cell_lt u0
        have lb2 := cell_lt s0
        have HBW := Lib.hid hbw
        clear hk1 hk2 hy1 hy2 hx1 hx2 hcall hbw
        go_wp2_with fail
        have HK : ∀ w', Below wr.heap.size wr w' → Below wr.heap.size wr w' ∧ (∀ o, w'.cell? ⟨b1, o, none⟩ = wr.cell? ⟨b1, o, none⟩) ∧ (∀ o, w'.cell? ⟨b2, o, none⟩ = wr.cell? ⟨b2, o, none⟩) := fun w' hb => ⟨hb, fun o => hb.cell (p := ⟨b1, o, none⟩) lb1, fun o => hb.cell (p := ⟨b2, o, none⟩) lb2⟩
        have TAIL : ∀ (x : Vl) (f : Int) (vb : Nat) (wz : World), Below wr.heap.size wr wz → wr.heap.size ≤ vb → BoxIs wz vb #[.int .i64 x.k, .int .i64 x.n, .int .i64 x.s, .string x.t, .int .i64 x.i] → Hid (PickR y1.t y2.s x f) → (?G2 : Vl → Int → Nat → World → Prop) x f vb wz := ?tail2
        refine wp_region_held_drew (S := (fun w' => Below wr.heap.size wr w' ∧ (∀ o, w'.cell? ⟨b1, o, none⟩ = wr.cell? ⟨b1, o, none⟩) ∧ (∀ o, w'.cell? ⟨b2, o, none⟩ = wr.cell? ⟨b2, o, none⟩))) (by kernel_rfl) (HK _ (Below.drew (Below.refl _ _))) (fun hHeld => ?_)
        refine tkH 0 ?_
        try simp only [shH]
        refine tkH 1 ?_
        try simp only [shH]
        refine tkH 2 ?_
        try simp only [shH]
        refine tkH 3 ?_
        try simp only [shH]
        refine tkH 4 ?_
        try simp only [shH]
        refine tkH 5 ?_
        try simp only [shH]
        refine tkH 6 ?_
        try simp only [shH]
        refine tkH 7 ?_
        try simp only [shH]
        refine rdH [8, 12] ?_
        refine AllReadyH.cons rfl (fun K hK => ?_) ?_
        · go_simp
          go_at_call 26
          refine (HCALL.out _ bel).mono ?_
          rintro e z2 ⟨x, f, rfl, hpr, hb2⟩
          have hPR := Lib.hid hpr
          clear hpr
          have hB2 : Below wr.heap.size wr z2 := (by first | exact hb2 | exact undrew hb2)
          refine hK.out _ _ ?_ (fun hH2 => ?_)
          · exact HK _ hB2
          clear hK K hHeld
          have hHeld := hH2
          clear hH2
          try simp only [shH]
          refine tkH 9 ?_
          try simp only [shH]
          refine tkH 10 ?_
          try simp only [shH]
          refine tkH 11 ?_
          try simp only [shH]
          refine rdH [12] ?_
          refine AllReadyH.cons rfl (fun K hK => ?_) AllReadyH.nil
          go_simp
          refine hK.out _ _ ?_ (fun hH2 => ?_)
          · exact HK _ bel
          clear hK K hHeld
          have hHeld := hH2
          clear hH2
          try simp only [shH]
          refine rdH [13] ?_
          refine AllReadyH.cons rfl (fun K hK => ?_) AllReadyH.nil
          go_simp
          refine hK.out _ _ ?_ (fun hH2 => ?_)
          · exact HK _ bel
          clear hK K hHeld
          have hHeld := hH2
          clear hH2
          try simp only [shH]
          refine tkH 14 ?_
          try simp only [shH]
          refine dnH ?_ _
          clear hHeld
          (try simp only [Exit.then, Exit.inBlock])
          generalize hWz : World.alloc z2 _ = Wz
          have hz := (show Below wr.heap.size wr Wz by rw [← hWz]; exact bel)
          have kv : BoxIs Wz z2.heap.size #[.int .i64 x.k, .int .i64 x.n, .int .i64 x.s, .string x.t, .int .i64 x.i] := (by rw [← hWz]; exact BoxIs.new (t := 30) rfl)
          have hvg : wr.heap.size ≤ z2.heap.size := hB2.size
          obtain ⟨vb, hvb⟩ : ∃ vb, z2.heap.size = vb := ⟨_, rfl⟩
          rw [hvb] at kv hvg
          rw [hvb]
          exact TAIL x f vb Wz hz hvg kv hPR
        refine AllReadyH.cons rfl (fun K hK => ?_) AllReadyH.nil
        go_simp
        refine hK.out _ _ ?_ (fun hH2 => ?_)
        · exact HK _ bel
        clear hK K hHeld
        have hHeld := hH2
        clear hH2
        try simp only [shH]
        refine rdH [8] ?_
        refine AllReadyH.cons rfl (fun K hK => ?_) AllReadyH.nil
        go_simp
        go_at_call 26
        refine (HCALL.out _ bel).mono ?_
        rintro e z2 ⟨x, f, rfl, hpr, hb2⟩
        have hPR := Lib.hid hpr
        clear hpr
        have hb3 : Below (wr.alloc (.cells #[.int .i64 0, .int .i64 0, .int .i64 0, .string ⟨#[]⟩, .int .i64 0] 30)).heap.size (wr.alloc (.cells #[.int .i64 0, .int .i64 0, .int .i64 0, .string ⟨#[]⟩, .int .i64 0] 30)) z2 := (by first | exact hb2 | exact undrew hb2)
        have hB2 : Below wr.heap.size wr z2 := (Below.alloc (Below.refl _ _) (Nat.le_refl _) _).trans (hb3.mono (by simp))
        have kz : BoxIs z2 wr.heap.size #[.int .i64 0, .int .i64 0, .int .i64 0, .string ⟨#[]⟩, .int .i64 0] := BoxIs.below (BoxIs.new (t := 30) rfl) hb3
        have fz := kz.f
        have lz := kz.lt
        have cz := kz.c
        refine hK.out _ _ ?_ (fun hH2 => ?_)
        · exact HK _ hB2
        clear hK K hHeld
        have hHeld := hH2
        clear hH2
        try simp only [shH]
        refine tkH 9 ?_
        try simp only [shH]
        refine tkH 10 ?_
        try simp only [shH]
        refine tkH 11 ?_
        try simp only [shH]
        refine rdH [13] ?_
        refine AllReadyH.cons rfl (fun K hK => ?_) AllReadyH.nil
        go_simp
        refine hK.out _ _ ?_ (fun hH2 => ?_)
        · exact HK _ bel
        clear hK K hHeld
        have hHeld := hH2
        clear hH2
        try simp only [shH]
        refine tkH 14 ?_
        try simp only [shH]
        refine dnH ?_ _
        clear hHeld
        (try simp only [Exit.then, Exit.inBlock])
        generalize hWz : World.setCell _ _ _ = Wz
        have hz := (show Below wr.heap.size wr Wz by rw [← hWz]; exact bel)
        have kv : BoxIs Wz wr.heap.size #[.int .i64 x.k, .int .i64 x.n, .int .i64 x.s, .string x.t, .int .i64 x.i] := (by rw [← hWz]; exact ((((kz.set 0 _).set 1 _).set 2 _).set 3 _).set 4 _)
        obtain ⟨vb, hvb⟩ : ∃ vb, wr.heap.size = vb := ⟨_, rfl⟩
        rw [hvb] at kv
        rw [hvb]
        exact TAIL x f vb Wz hz (by omega) kv hPR
        case tail2 =>
          intro x f vb wz hz hvb KV HPR
          have hbz : Below w.heap.size w wz := HBW.out.trans (hz.mono HBW.out.size)
          have hb7z : Below w7.heap.size w7 wz := hbel.trans (hz.mono hbel.size)
          have HOWZ := Lib.hid (own_below HOW.out hz)
          have cv2 := KV.c
          have lv2 := KV.lt
          clear HK u0 u1 u2 u3 u4 s0 s1 s2 s3 s4 s5 lb1 lb2 HOW hz hbel
          by_cases hf : f = 0
          · have e2 : (f != 0) = false := by simp [hf]
            have HG : Hid (PicksTo ns ss (Q ++ [x])) := Lib.hid (by
              obtain ⟨g1, g2, h3, h4⟩ := HY.out
              refine picksTo_more HPT.out HQL.out g1 g2 ?_
              rw [h3, h4, ← hf]; exact HPR.out)
            clear hf
            have hil : i ≤ 1048576 := by omega
            go_wp2_with (first
              | (at_builtin; refine wpList_append_own2 _ rfl _ _ 50 rfl w7.heap.size 30 i0 (.agg #[.int .i64 0, .int .i64 0, .int .i64 0, .string ⟨#[]⟩, .int .i64 0]) 5 48 Tryz.underlying50 hinf hza hzb hzc rfl (by decide) _ _ _ rfl (HOWZ.out.alloc _) ⟨wz.heap.size, 0, none⟩ 1 1 x.cells5 rfl rfl (fun j u h => lit_cells6 _ _ _ j u h) (fun u hu => by simp [Vl.cells5] at hu; rcases hu with rfl | rfl | rfl | rfl | rfl <;> rfl) ?c3 ?c4 ?c5 ?_)
              | fail)
            case c3 => unfold maxLen; omega
            case c4 => omega
            case c5 => simp; have := hb7z.size; omega
            intro v' w5 hown' hgrow hblk
            have hb5 : Below w7.heap.size w7 w5 := (hb7z.alloc hb7z.size _).grown hgrow (by simp; have := hb7z.size; omega) (fun g hg => (HOWZ.out.lt g hg).1)
            have HO5 : Hid (w5.ownsRow w7.heap.size 30 5 v' (i + 1) ((Q ++ [x]).flatMap Vl.cells5)) := Lib.hid (by rw [List.flatMap_append]; simpa using hown')
            clear hown' hgrow hblk HOWZ cv2 lv2 KV
            go_wp2_with fail
            go_roundg (p - (i + 1))
            case measure => omega
            case rel => exact ⟨i + 1, Q ++ [x], by omega, Nat.le_refl _, by go_num, Lib.hid (by rw [List.length_append, HQL.out]; rfl), HO5, HG, hb5⟩
          · have e2 : (f != 0) = true := by simp [hf]
            obtain ⟨hmf, hr0⟩ : m1 = f ∧ R = [] := by
              obtain ⟨g1, g2, h3, h4⟩ := HY.out
              exact picks_at HRES.out HALL.out HEQ.out HPT.out HQL.out g1 g2 (by rw [h3, h4]; exact HPR.out) hf
            subst hmf
            have hr1 : 0 = r := by rw [← HRL.out, hr0]; rfl
            subst hr1
            clear hr0 hf HRES
            go_wp2_with fail
            refine (awake16_any _ (HE.out.env.below hbz)).mono ?_
            rintro e z9 ⟨rfl, hb9⟩
            go_wp2_with fail
            go_ret
            exact ⟨rfl, hbz.trans (hb9.mono hbz.size)⟩
      · obtain ⟨rfl, hRQ, hVR⟩ := picks_end HRES.out HALL.out HEQ.out HPT.out (by rw [HQL.out, HP.out]; omega)
        have hrp : r = p := by rw [← HRL.out, hRQ, HQL.out]; omega
        have hb2w : Below w2.heap.size w2 wr := HB27.out.trans (hbel.mono HB27.out.size)
        have HVR := Lib.hid (hVR.below hb2w)
        have HRQ := Lib.hid hRQ
        have HPT2 : Hid (PicksTo ns ss R) := Lib.hid (by rw [hRQ]; exact HPT.out)
        obtain ⟨CQ, cq, rfl, hrdq⟩ := flat5_rd (R := Q) (by rw [HQL.out]; exact HOW.out)
        have hql : Q.length = p := by rw [HQL.out]; omega
        have HQ2 := Lib.hid hql
        have HRDQ := Lib.hid hrdq
        rw [hql]
        subst hrp
        have i1 : ¬ (i : Int) < (r : Int) := by omega
        have HBW := Lib.hid hbw
        clear hRQ hVR hb2w hrdq hql hlt HRES HPT HOW hbw hbel HQL hik hi
        go_wp2_with fail
        go_loopg [15] r (fun k iv wq => ∃ j : Nat, j ≤ r ∧ r - j ≤ k ∧ iv = .int .i64 j ∧ Below wr.heap.size wr wq)
        case atStart => exact ⟨0, by omega, by omega, rfl, Below.refl _ _⟩
        case round =>
          clear i1
          obtain ⟨j, hj, hjk, rfl, hbq⟩ := hrel
          by_cases hlt : j < r
          · have i1 : (j : Int) < (r : Int) := by omega
            have i3 : (0 : Int) ≤ (j : Int) := by omega
            have hk1 : j < R.length := by rw [HRL.out]; exact hlt
            have hk2 : j < Q.length := by rw [HQ2.out]; exact hlt
            obtain ⟨b4, o4, hA4, hx4⟩ := (HVR.out.rd.below hbq).at_ hk1
            obtain ⟨b5, o5, hA5, hx5⟩ := (HRDQ.out.below hbq).at_ hk2
            have hsame : R[j]'hk1 = Q[j]'hk2 := by simp only [HRQ.out]
            rw [hsame] at hx4
            generalize Q[j]'hk2 = y at *
            subst hA4
            subst hA5
            have u0 := AtB.cell (show wr.cell? ⟨b4, o4 + j * 5, none⟩ = some (.int .i64 y.k) from hx4.get 0 rfl)
            have u1 := AtB.cell (show wr.cell? ⟨b4, o4 + j * 5 + 1, none⟩ = some (.int .i64 y.n) from hx4.get 1 rfl)
            have u2 := AtB.cell (show wr.cell? ⟨b4, o4 + j * 5 + 2, none⟩ = some (.int .i64 y.s) from hx4.get 2 rfl)
            have u3 := AtB.cell (show wr.cell? ⟨b4, o4 + j * 5 + 3, none⟩ = some (.string y.t) from hx4.get 3 rfl)
            have u4 := AtB.cell (show wr.cell? ⟨b4, o4 + j * 5 + 4, none⟩ = some (.int .i64 y.i) from hx4.get 4 rfl)
            have v0 := AtB.cell (show wr.cell? ⟨b5, o5 + j * 5, none⟩ = some (.int .i64 y.k) from hx5.get 0 rfl)
            have v1 := AtB.cell (show wr.cell? ⟨b5, o5 + j * 5 + 1, none⟩ = some (.int .i64 y.n) from hx5.get 1 rfl)
            have v2 := AtB.cell (show wr.cell? ⟨b5, o5 + j * 5 + 2, none⟩ = some (.int .i64 y.s) from hx5.get 2 rfl)
            have v3 := AtB.cell (show wr.cell? ⟨b5, o5 + j * 5 + 3, none⟩ = some (.string y.t) from hx5.get 3 rfl)
            have v4 := AtB.cell (show wr.cell? ⟨b5, o5 + j * 5 + 4, none⟩ = some (.int .i64 y.i) from hx5.get 4 rfl)
            have hne : ∀ W : World, _ := fun W => (neV_run y y W).trans (by rw [(eqB_iff y y).2 rfl])
            have HBQ := Lib.hid hbq
            clear hx4 hx5 hk1 hk2 hsame hbq
            go_wp2_with fail
            have j7 : decide ((r : Int) ≤ (j : Int)) = false := decide_eq_false (by omega)
            have j8 : decide (r ≤ j) = false := decide_eq_false (by omega)
            refine wp_region_quiet_at (by kernel_rfl) (by kernel_rfl) ?_
            repeat (go_big_quiet_step (fail))
            refine wpQuiet_nil ?_
            intro _ hw'
            obtain ⟨qq, hw2⟩ := hw'
            subst hw2
            have hb14 := HBQ.out.trans (qq.hb.mono HBQ.out.size)
            generalize qq.w = W14 at *
            clear u0 u1 u2 u3 u4 v0 v1 v2 v3 v4 hne j7 j8
            go_wp2_with fail
            go_roundg (r - (j + 1))
            case measure => omega
            case rel => exact ⟨j + 1, by omega, Nat.le_refl _, by go_num, hb14⟩
          · have i1 : ¬ (j : Int) < (r : Int) := by omega
            have hB10 := HBW.out.trans (hbq.mono HBW.out.size)
            have HV10 := Lib.hid (HVR.out.below hbq)
            clear hbq
            go_wp2_with fail
            refine (awake16_any _ (HE.out.env.below hB10)).mono ?_
            rintro e z9 ⟨rfl, hb9⟩
            have hB11 := hB10.trans (hb9.mono hB10.size)
            have HV11 := Lib.hid (HV10.out.below hb9)
            clear hb9 hB10 HV10
            go_wp2_with fail
            generalize hX12 : World.alloc z9 _ = W12
            have hb12 : Below z9.heap.size z9 W12 := (by rw [← hX12]; exact Below.alloc (Below.refl _ _) (Nat.le_refl _) _)
            have K12 : BoxIs W12 z9.heap.size #[.slice A ss.length ca] := (by rw [← hX12, HP.out]; exact BoxIs.new (t := 48) rfl)
            have hB12 := hB11.trans (hb12.mono hB11.size)
            clear hX12
            have hfin := HHAS.out W12 hB12 R C c z9.heap.size K12 (HV11.out.below hb12)
            rw [HRL.out, any_one, picks_has HALL.out HEQ.out (by rw [HRL.out, HP.out]) HPT2.out] at hfin
            refine hfin.mono ?_
            rintro e z13 ⟨rfl, hb13⟩
            go_wp2_with fail
            go_ret
            exact ⟨rfl, hB12.trans (hb13.mono hB12.size)⟩
theorem lawPick_any (ts : List TyArg) (ss : List StArg) (bs : List BxArg) (vs : List Vl) (N : Nat) (T A B V : Option Addr) (ct ca cb cv : Nat) (w : World) (hT : TysAt w T ts) (hlc : ts.length ≤ ct) (hS : BoxAt w A ss) (hO : ∀ s ∈ ss, StOk N s.s) (hB : BoxesAt w B bs) (hbc : bs.length ≤ cb) (hBO : ∀ b ∈ bs, ∀ x ∈ b.l, StOk N x.s) (hN : N ≤ 1048576) (hV : ValsAt w V vs) (hE : EnvP w) :
    Calls Tryz.prog 4 #[.slice T ts.length ct, .slice A ss.length ca, .slice B bs.length cb, .slice V vs.length cv] w fun e w' => e = .returned (.bool true) ∧ Below w.heap.size w w' :=
  lawPickB (ts.take 20) (ts.take 20).length ts.length ss bs vs N T A B V ct ca cb cv w rfl (by rw [List.length_take]; omega) hT.n ⟨hT.rd.takeA 20, fun x hx => hT.ty x (List.mem_of_mem_take hx), by have := hT.n; rw [List.length_take]; omega⟩ hS hO hB hbc hBO hN hV hE
end Go.Proofs.YtankkadnhdfpfaaGreatDoor

/- The tables of the library at the words' seat: from a row's list; the witness's world. -/
set_option linter.unusedSimpArgs false
set_option linter.unusedVariables false
namespace Go.Proofs.YtankkadnhdfpfaaGreatDoor
open Go.ChangeShapes Go.WideShapes Go.ChangeAt Go.RowKit Go.Lib
set_option maxRecDepth 100000

theorem pow_laid : (Rows.laid_internal_strconv_uint64pow10 : DataW Unit) = tabData .u64 pow10Tab := by kernel_rfl
theorem pow_of {l : List (String × DataW Unit)} {W : World} (h : laidMet Tryz.prog l W) (h1 : ("internal/strconv.uint64pow10", Rows.laid_internal_strconv_uint64pow10) ∈ l) : TabIs Tryz.prog W "internal/strconv.uint64pow10" .u64 pow10Tab := by
  obtain ⟨g, t, cs, fuel, p, hg, hty, hv, hd⟩ := Lib.laidMet.reads h h1
  rw [pow_laid] at hd
  obtain rfl := Option.some.inj ((show Tryz.prog.globalNamed "internal/strconv.uint64pow10" = some 3 by kernel_rfl).symm.trans hg)
  obtain rfl := Option.some.inj ((show (Tryz.prog.globals[3]?).map (·.type) = some 236 by kernel_rfl).symm.trans hty)
  unfold TabIs
  rw [hv, ← cells_of_tab (n := 20) (e := 132) (by kernel_rfl) (by kernel_rfl) (by kernel_rfl) (by kernel_rfl) hd]

def tabCells : DataW Unit → Array Value
  | .agg xs => (xs.map fun | .lit (.int k z) => Value.int k z | _ => .bool false).toArray
  | _ => #[]
noncomputable def laidWorldW (os : Os) : World :=
  let w0 := laidWorld os
  let put (h : Array Obj) (g : Nat) (cs : Array Value) : Array Obj := h.modify g fun
    | .cells _ t frozen => .cells cs t frozen
    | o => o
  let h1 := put w0.heap 3 (tabCells Rows.laid_internal_strconv_uint64pow10)
  let h1 := put h1 4 (tabCells Rows.laid_math_bits_deBruijn32tab)
  let h1 := put h1 5 (tabCells Rows.laid_math_bits_deBruijn64tab)
  { w0 with heap := h1 }
end Go.Proofs.YtankkadnhdfpfaaGreatDoor
