import Derived.Test.YtankkadnhdfpfaaGreatDoorPk28
import Derived.Test.YtankkadnhdfpfaaGreatDoorPk33
import Derived.Test.YtankkadnhdfpfaaGreatDoorPk31
/- soffit/sets.join: walked. -/
set_option linter.unusedSimpArgs false
set_option linter.unusedVariables false
namespace Go.Proofs.YtankkadnhdfpfaaGreatDoor
open Go.RowKit Sp Wd

set_option maxRecDepth 100000 in
set_option maxHeartbeats 12800000 in
theorem setJoin_any (a b : St) (g h : Sg) (N M : Nat) (A B C D : Option Addr) (ca cb cc cd : Nat) (w : World) (hA : StAt w a A B) (hB : StAt w b C D) (ia : Is g a) (ib : Is h b) (hk : g.k = h.k) (oa : StOk N a) (ob : StOk M b) (hN : N ≤ 4000000000000) (hM : M ≤ 4000000000000) (hE : Env w) :
    Calls Tryz.prog 89 #[.agg #[.int .i64 a.k, .slice A a.sp.length ca, .bool a.al, .slice B a.ws.length cb, .int .i64 a.b, .bool a.nul], .agg #[.int .i64 b.k, .slice C b.sp.length cc, .bool b.al, .slice D b.ws.length cd, .int .i64 b.b, .bool b.nul]] w fun e w' => ∃ (r : St) (X Y : Option Addr) (cx cy : Nat), e = .returned (.agg #[.int .i64 r.k, .slice X r.sp.length cx, .bool r.al, .slice Y r.ws.length cy, .int .i64 r.b, .bool r.nul]) ∧ StAt w' r X Y ∧ Is (g.join h) r ∧ StOk (N + M) r ∧ Below w.heap.size w w' := by
  obtain ⟨L, hL⟩ : ∃ L, a.sp ++ b.sp = L := ⟨_, rfl⟩
  have hll : L.length = a.sp.length + b.sp.length := by rw [← hL, List.length_append]
  have HCC : Hid (∀ (Q : Nat) (W : World), W.cell? ⟨Q, 0, none⟩ = some (.slice A a.sp.length ca) → W.cell? ⟨Q, 1, none⟩ = some (.slice C b.sp.length cc) → RdL W 2 A (a.sp.map spC) → RdL W 2 C (b.sp.map spC) →
      Calls Tryz.prog 136 #[.slice (some ⟨Q, 0, none⟩) 2 2] W fun e w' => ∃ A' c', e = .returned (.slice A' L.length c') ∧ RdL w' 2 A' (L.map spC) ∧ Below W.heap.size W w') := Lib.hid (fun Q W h1 h2 h3 h4 => by
    have := Sp.concatS Q A C a.sp b.sp ca cc W h1 h2 h3 h4 (by have := oa.ls; have := ob.ls; omega)
    rw [hL] at this
    exact this)
  have HLEN : Hid (L.length ≤ 8000000000000) := Lib.hid (by have := oa.ls; have := ob.ls; omega)
  have HWF : Hid (∀ s ∈ L, SpWf s) := Lib.hid (fun s hs => by rw [← hL] at hs; rcases List.mem_append.1 hs with h | h; exact oa.wf s h; exact ob.wf s h)
  have HLS : Hid (L.length ≤ N + M) := Lib.hid (by have := oa.ls; have := ob.ls; omega)
  have HI : Hid (∀ (R : List Sp) (al : Bool) (ws : List Tx), JoinOf L R → (g.k = 2 → al = !(meetW (!a.al) (norm a.ws) (!b.al) (norm b.ws)).1 ∧ ws = norm (meetW (!a.al) (norm a.ws) (!b.al) (norm b.ws)).2) → (g.k ≠ 2 → al = false ∧ ws = []) → Is (g.join h) ⟨a.k, R, al, ws, bits .or .i64 a.b b.b, a.nul || b.nul⟩) := Lib.hid (fun R al ws hR h1 h2 => by rw [← hL] at hR; exact join_is ia ib hk hR h1 h2)
  have IK := Lib.hid ia.k
  have HSP : Hid (a.k = 2 → L = []) := Lib.hid (fun h2 => by rw [← hL, ia.c1 (by rw [← ia.k, h2]; rfl), ib.c1 (by rw [← hk, ← ia.k, h2]; rfl)]; rfl)
  obtain ⟨n1, hn1⟩ : ∃ n1, norm a.ws = n1 := ⟨_, rfl⟩
  obtain ⟨n2, hn2⟩ : ∃ n2, norm b.ws = n2 := ⟨_, rfl⟩
  obtain ⟨m1, hm1⟩ : ∃ m1, (meetW (!a.al) n1 (!b.al) n2).1 = m1 := ⟨_, rfl⟩
  obtain ⟨m2, hm2⟩ : ∃ m2, (meetW (!a.al) n1 (!b.al) n2).2 = m2 := ⟨_, rfl⟩
  obtain ⟨n3, hn3⟩ : ∃ n3, norm m2 = n3 := ⟨_, rfl⟩
  have l1 : n1.length ≤ N := by rw [← hn1]; exact Nat.le_trans (norm_length _) oa.lw
  have l2 : n2.length ≤ M := by rw [← hn2]; exact Nat.le_trans (norm_length _) ob.lw
  have t1 : ∀ x ∈ n1, x.length ≤ 9223372036854775807 := by intro x hx; rw [← hn1] at hx; exact oa.tx x (mem_norm.1 hx).1
  have t2 : ∀ x ∈ n2, x.length ≤ 9223372036854775807 := by intro x hx; rw [← hn2] at hx; exact ob.tx x (mem_norm.1 hx).1
  obtain ⟨ml, hml⟩ := meet_rise (!a.al) n1 (!b.al) n2
  have t3 : ∀ x ∈ m2, x.length ≤ 9223372036854775807 := by
    intro x hx
    rw [← hm2, hml] at hx
    have h := (mem_norm.1 hx).2
    unfold textB at h
    rw [Bool.and_eq_true, decide_eq_true_eq] at h
    omega
  have l3 : m2.length ≤ N + M := by rw [← hm2]; exact Nat.le_trans (meetW_le _ _ _ _) (by omega)
  have HLW : Hid (n3.length ≤ N + M) := Lib.hid (by rw [← hn3]; exact Nat.le_trans (norm_length _) l3)
  have HOA : Hid (∀ W, RdL W 1 B (a.ws.map tC) → Env W → Calls Tryz.prog 91 #[.agg #[.bool a.al, .slice B a.ws.length cb]] W fun e w' => ∃ A', e = .returned (.agg #[.bool (!a.al), .slice A' n1.length n1.length]) ∧ OwnT w' W.heap.size A' n1 ∧ Below W.heap.size W w') := Lib.hid (fun W h1 h2 => by
    have := Wd.other_any a.al B a.ws cb W h2 h1 oa.tx (by have := oa.lw; omega)
    rw [hn1] at this; exact this)
  have HOB : Hid (∀ W, RdL W 1 D (b.ws.map tC) → Env W → Calls Tryz.prog 91 #[.agg #[.bool b.al, .slice D b.ws.length cd]] W fun e w' => ∃ A', e = .returned (.agg #[.bool (!b.al), .slice A' n2.length n2.length]) ∧ OwnT w' W.heap.size A' n2 ∧ Below W.heap.size W w') := Lib.hid (fun W h1 h2 => by
    have := Wd.other_any b.al D b.ws cd W h2 h1 ob.tx (by have := ob.lw; omega)
    rw [hn2] at this; exact this)
  have HOM : Hid (∀ Y1 Y2 W, RdL W 1 Y1 (n1.map tC) → RdL W 1 Y2 (n2.map tC) → Env W → Calls Tryz.prog 87 #[.agg #[.bool (!a.al), .slice Y1 n1.length n1.length], .agg #[.bool (!b.al), .slice Y2 n2.length n2.length]] W fun e w' => ∃ A', e = .returned (.agg #[.bool m1, .slice A' m2.length m2.length]) ∧ OwnT w' W.heap.size A' m2 ∧ Below W.heap.size W w') := Lib.hid (fun Y1 Y2 W h1 h2 h3 => by
    have := Wd.meet_any (!a.al) (!b.al) Y1 Y2 n1 n2 n1.length n2.length W h3 h1 h2 t1 t2 (by omega) (by omega)
    rw [hm1, hm2] at this; exact this)
  have HOO : Hid (∀ Y3 W, RdL W 1 Y3 (m2.map tC) → Env W → Calls Tryz.prog 91 #[.agg #[.bool m1, .slice Y3 m2.length m2.length]] W fun e w' => ∃ A', e = .returned (.agg #[.bool (!m1), .slice A' n3.length n3.length]) ∧ OwnT w' W.heap.size A' n3 ∧ Below W.heap.size W w') := Lib.hid (fun Y3 W h1 h2 => by
    have := Wd.other_any m1 Y3 m2 m2.length W h2 h1 t3 (by omega)
    rw [hn3] at this; exact this)
  rw [hn1, hn2, hm1, hm2, hn3] at HI
  have HA := Lib.hid hA
  have HB := Lib.hid hB
  have HE := Lib.hid hE
  clear hA hB ia ib oa ob hk hE hL hll hn1 hn2 hm1 hm2 hn3 hml ml l1 l2 l3 t1 t2 t3
  cases hnl : a.nul
  · rw [hnl] at HI
    clear hnl
    go_enter Tryz.func89, Tryz.ntmps89
    go_wp2_with fail
    generalize hE0 : ((w.alloc _).alloc _).alloc _ = W0
    have hb0 : Below w.heap.size w W0 := (by rw [← hE0]; exact bel)
    have K0 : BoxIs W0 w.heap.size #[.int .i64 a.k, .slice A a.sp.length ca, .bool a.al, .slice B a.ws.length cb, .int .i64 a.b, .bool false] := (by rw [← hE0]; exact ((BoxIs.new (t := 36) rfl).alloc _).alloc _)
    have K1 : BoxIs W0 (w.heap.size + 1) #[.int .i64 b.k, .slice C b.sp.length cc, .bool b.al, .slice D b.ws.length cd, .int .i64 b.b, .bool b.nul] := (by rw [← hE0]; exact (BoxIs.new (t := 36) (by simp)).alloc _)
    have K2 : BoxIs W0 (w.heap.size + 2) #[.int .i64 0, .slice none 0 0, .bool false, .slice none 0 0, .int .i64 0, .bool false] := (by rw [← hE0]; exact BoxIs.new (t := 36) (by simp))
    have hs0 : W0.heap.size = w.heap.size + 3 := (by rw [← hE0]; simp)
    have HS0 := Lib.hid hs0
    clear hE0 hs0
    have HA0 := HA.out.below hb0
    have HB0 := HB.out.below hb0
    have HK : ∀ w', Below W0.heap.size W0 w' → Below W0.heap.size W0 w' ∧ (∀ o, w'.cell? ⟨w.heap.size, o, none⟩ = (#[.int .i64 a.k, .slice A a.sp.length ca, .bool a.al, .slice B a.ws.length cb, .int .i64 a.b, .bool false] : Array Value)[o]?) ∧ (∀ o, w'.cell? ⟨w.heap.size + 1, o, none⟩ = (#[.int .i64 b.k, .slice C b.sp.length cc, .bool b.al, .slice D b.ws.length cd, .int .i64 b.b, .bool b.nul] : Array Value)[o]?) := fun w' hb => ⟨hb, (K0.below hb).c, (K1.below hb).c⟩
    have TAIL : ∀ (bx lt : Nat) (E : Option Addr) (ce : Nat) (Wz : World) (X : Option Addr) (R : List Sp) (cx : Nat), Below W0.heap.size W0 Wz → BoxIs Wz bx #[.int .i64 a.k, .slice X R.length cx, .bool false, .slice none 0 0, .int .i64 (bits .or .i64 a.b b.b), .bool b.nul] → W0.heap.size ≤ bx → RdL Wz 2 X (R.map spC) → (∀ p, X = some p → W0.heap.size ≤ p.block) → JoinOf L R →
      (?Gf : Nat → Nat → Option Addr → Nat → World → Option Addr → List Sp → Nat → Prop) bx lt E ce Wz X R cx := ?tailf
    refine wp_region_held_drew (S := (fun w' => Below W0.heap.size W0 w' ∧ (∀ o, w'.cell? ⟨w.heap.size, o, none⟩ = (#[.int .i64 a.k, .slice A a.sp.length ca, .bool a.al, .slice B a.ws.length cb, .int .i64 a.b, .bool false] : Array Value)[o]?) ∧ (∀ o, w'.cell? ⟨w.heap.size + 1, o, none⟩ = (#[.int .i64 b.k, .slice C b.sp.length cc, .bool b.al, .slice D b.ws.length cd, .int .i64 b.b, .bool b.nul] : Array Value)[o]?))) (by kernel_rfl) (HK _ bel) (fun hHeld => ?_)
    refine tkH 0 ?_
    try simp only [shH]
    refine tkH 1 ?_
    try simp only [shH]
    refine tkH 2 ?_
    try simp only [shH]
    refine tkH 3 ?_
    try simp only [shH]
    refine tkH 4 ?_
    try simp only [shH]
    refine tkH 5 ?_
    try simp only [shH]
    refine tkH 9 ?_
    try simp only [shH]
    refine tkH 10 ?_
    try simp only [shH]
    refine tkH 11 ?_
    try simp only [shH]
    refine tkH 12 ?_
    try simp only [shH]
    refine tkH 13 ?_
    try simp only [shH]
    refine tkH 14 ?_
    try simp only [shH]
    refine tkH 15 ?_
    try simp only [shH]
    refine rdH [6, 21] ?_
    refine AllReadyH.cons rfl (fun K hK => ?_) ?_
    · go_simp
      refine hK.out _ _ ?_ (fun hH2 => ?_)
      · exact HK _ bel
      clear hK K hHeld
      have hHeld := hH2
      clear hH2
      try simp only [shH]
      refine rdH [7, 21] ?_
      refine AllReadyH.cons rfl (fun K hK => ?_) ?_
      · go_simp
        go_at_call 136
        refine (HCC.out _ _ (by simp [go_sem]) (by simp [go_sem]) (HA0.sp.below bel) (HB0.sp.below bel)).mono ?_
        rintro e w1 ⟨E, ce, rfl, hE1, hb1⟩
        have hB1 : Below W0.heap.size W0 w1 := bel
        clear hb1
        refine hK.out _ _ ?_ (fun hH2 => ?_)
        · exact HK _ bel
        clear hK K hHeld
        have hHeld := hH2
        clear hH2
        try simp only [shH]
        refine rdH [8, 21] ?_
        refine AllReadyH.cons rfl (fun K hK => ?_) ?_
        · go_simp
          go_at_call 84
          refine (Sp.join_any L E ce _ (hE1.below bel) HWF.out HLEN.out).mono ?_
          rintro e wp ⟨R, X, cx, rfl, hR, hJ, hcx, hlow, hbp⟩
          have hX1 : ∀ p, X = some p → W0.heap.size < p.block + 1 := fun p hp => by have := (hlow p hp).1; (try simp only [sz_alloc, sz_drew] at this); have := hB1.size; omega
          have hBp : Below w1.heap.size w1 wp := bel
          have hBw : Below W0.heap.size W0 wp := hB1.trans (hBp.mono hB1.size)
          clear hbp hlow
          refine hK.out _ _ ?_ (fun hH2 => ?_)
          · exact HK _ bel
          clear hK K hHeld
          have hHeld := hH2
          clear hH2
          try simp only [shH]
          refine tkH 16 ?_
          try simp only [shH]
          refine tkH 17 ?_
          try simp only [shH]
          refine tkH 18 ?_
          try simp only [shH]
          refine tkH 19 ?_
          try simp only [shH]
          refine tkH 20 ?_
          try simp only [shH]
          refine rdH [21] ?_
          refine AllReadyH.cons rfl (fun K hK => ?_) AllReadyH.nil
          go_simp
          refine hK.out _ _ ?_ (fun hH2 => ?_)
          · exact HK _ bel
          clear hK K hHeld
          have hHeld := hH2
          clear hH2
          try simp only [shH]
          refine rdH [22] ?_
          refine AllReadyH.cons rfl (fun K hK => ?_) AllReadyH.nil
          go_simp
          refine hK.out _ _ ?_ (fun hH2 => ?_)
          · exact HK _ bel
          clear hK K hHeld
          have hHeld := hH2
          clear hH2
          try simp only [shH]
          refine dnH ?_ _
          clear hHeld
          (try simp only [Exit.then, Exit.inBlock])
          generalize hWz : wp.alloc _ = Wz
          have hBZ : Below W0.heap.size W0 Wz := by rw [← hWz]; exact bel
          have KB : BoxIs Wz (wp.heap.size) #[.int .i64 a.k, .slice X R.length cx, .bool false, .slice none 0 0, .int .i64 (bits .or .i64 a.b b.b), .bool b.nul] := by rw [← hWz]; exact BoxIs.new (t := 36) rfl
          have hRZ : RdL Wz 2 X (R.map spC) := by rw [← hWz]; exact rd_alloc hR _
          have hX : ∀ p, X = some p → W0.heap.size ≤ p.block := fun p hp => by have := hX1 p hp; omega
          obtain ⟨bx, hbx⟩ : ∃ bx, wp.heap.size = bx := ⟨_, rfl⟩
          obtain ⟨lt, hlt⟩ : ∃ lt, W0.heap.size = lt := ⟨_, rfl⟩
          have hlo : W0.heap.size ≤ bx := by rw [← hbx]; exact hBw.size
          rw [hbx, hlt]
          rw [hbx] at KB
          exact TAIL bx lt E ce Wz X R cx hBZ KB hlo hRZ hX hJ
        refine AllReadyH.cons rfl (fun K hK => ?_) AllReadyH.nil
        go_simp
        refine hK.out _ _ ?_ (fun hH2 => ?_)
        · exact HK _ bel
        clear hK K hHeld
        have hHeld := hH2
        clear hH2
        try simp only [shH]
        refine rdH [8] ?_
        refine AllReadyH.cons rfl (fun K hK => ?_) AllReadyH.nil
        go_simp
        go_at_call 84
        refine (Sp.join_any L E ce _ (hE1.below bel) HWF.out HLEN.out).mono ?_
        rintro e wp ⟨R, X, cx, rfl, hR, hJ, hcx, hlow, hbp⟩
        have hX1 : ∀ p, X = some p → w1.heap.size < p.block + 0 := fun p hp => by have := (hlow p hp).1; (try simp only [sz_alloc, sz_drew] at this); omega
        have hBp : Below w1.heap.size w1 wp := bel
        have hBw : Below W0.heap.size W0 wp := hB1.trans (hBp.mono hB1.size)
        have KN : BoxIs wp w1.heap.size #[.int .i64 0, .slice none 0 0, .bool false, .slice none 0 0, .int .i64 0, .bool false] := BoxIs.below (BoxIs.new (w := w1) (t := 36) rfl) (by first | exact hbp | exact undrew hbp)
        have n0 := KN.c
        have n1 := KN.f
        clear hbp hlow
        refine hK.out _ _ ?_ (fun hH2 => ?_)
        · exact HK _ bel
        clear hK K hHeld
        have hHeld := hH2
        clear hH2
        try simp only [shH]
        refine tkH 16 ?_
        try simp only [shH]
        refine tkH 17 ?_
        try simp only [shH]
        refine tkH 18 ?_
        try simp only [shH]
        refine tkH 19 ?_
        try simp only [shH]
        refine tkH 20 ?_
        try simp only [shH]
        refine rdH [22] ?_
        refine AllReadyH.cons rfl (fun K hK => ?_) AllReadyH.nil
        go_simp
        refine hK.out _ _ ?_ (fun hH2 => ?_)
        · exact HK _ bel
        clear hK K hHeld
        have hHeld := hH2
        clear hH2
        try simp only [shH]
        refine dnH ?_ _
        clear hHeld
        (try simp only [Exit.then, Exit.inBlock])
        generalize hWz : (((((wp.setCell _ _).setCell _ _).setCell _ _).setCell _ _).setCell _ _).setCell _ _ = Wz
        have hBZ : Below W0.heap.size W0 Wz := by rw [← hWz]; exact bel
        have KB : BoxIs Wz (w1.heap.size) #[.int .i64 a.k, .slice X R.length cx, .bool false, .slice none 0 0, .int .i64 (bits .or .i64 a.b b.b), .bool b.nul] := by rw [← hWz]; exact (((((KN.set 0 _).set 1 _).set 2 _).set 3 _).set 4 _).set 5 _
        have hRZ : RdL Wz 2 X (R.map spC) := by rw [← hWz]; (repeat (with_reducible refine rd_set ?_ (fun p hp => by have := hX1 p hp; omega) _ _)); exact hR
        have hX : ∀ p, X = some p → W0.heap.size ≤ p.block := fun p hp => by have := hX1 p hp; have := hB1.size; omega
        obtain ⟨bx, hbx⟩ : ∃ bx, w1.heap.size = bx := ⟨_, rfl⟩
        obtain ⟨lt, hlt⟩ : ∃ lt, W0.heap.size = lt := ⟨_, rfl⟩
        have hlo : W0.heap.size ≤ bx := by rw [← hbx]; exact hB1.size
        rw [hbx, hlt]
        rw [hbx] at KB
        exact TAIL bx lt E ce Wz X R cx hBZ KB hlo hRZ hX hJ
      refine AllReadyH.cons rfl (fun K hK => ?_) AllReadyH.nil
      go_simp
      refine hK.out _ _ ?_ (fun hH2 => ?_)
      · exact HK _ bel
      clear hK K hHeld
      have hHeld := hH2
      clear hH2
      try simp only [shH]
      refine rdH [7] ?_
      refine AllReadyH.cons rfl (fun K hK => ?_) AllReadyH.nil
      go_simp
      go_at_call 136
      refine (HCC.out _ _ (by simp [go_sem]) (by simp [go_sem]) (HA0.sp.below bel) (HB0.sp.below bel)).mono ?_
      rintro e w1 ⟨E, ce, rfl, hE1, hb1⟩
      have hB1 : Below W0.heap.size W0 w1 := bel
      have KM : BoxIs w1 (W0.heap.size + 1) #[.int .i64 0, .slice none 0 0, .bool false, .slice none 0 0, .int .i64 0, .bool false] := BoxIs.below (BoxIs.new (w := W0.alloc _) (t := 36) (by rw [sz_alloc])) (undrew hb1)
      clear hb1
      refine hK.out _ _ ?_ (fun hH2 => ?_)
      · exact HK _ bel
      clear hK K hHeld
      have hHeld := hH2
      clear hH2
      try simp only [shH]
      refine rdH [8] ?_
      refine AllReadyH.cons rfl (fun K hK => ?_) AllReadyH.nil
      go_simp
      go_at_call 84
      refine (Sp.join_any L E ce _ (hE1.below bel) HWF.out HLEN.out).mono ?_
      rintro e wp ⟨R, X, cx, rfl, hR, hJ, hcx, hlow, hbp⟩
      have hX1 : ∀ p, X = some p → W0.heap.size + 1 < p.block + 0 := fun p hp => by have := (hlow p hp).1; (try simp only [sz_alloc, sz_drew] at this); have := KM.lt; omega
      have hBp : Below w1.heap.size w1 wp := bel
      have hBw : Below W0.heap.size W0 wp := hB1.trans (hBp.mono hB1.size)
      have KN : BoxIs wp (W0.heap.size + 1) #[.int .i64 0, .slice none 0 0, .bool false, .slice none 0 0, .int .i64 0, .bool false] := BoxIs.below KM hBp
      have n0 := KN.c
      have n1 := KN.f
      clear hbp hlow
      refine hK.out _ _ ?_ (fun hH2 => ?_)
      · exact HK _ bel
      clear hK K hHeld
      have hHeld := hH2
      clear hH2
      try simp only [shH]
      refine tkH 16 ?_
      try simp only [shH]
      refine tkH 17 ?_
      try simp only [shH]
      refine tkH 18 ?_
      try simp only [shH]
      refine tkH 19 ?_
      try simp only [shH]
      refine tkH 20 ?_
      try simp only [shH]
      refine rdH [22] ?_
      refine AllReadyH.cons rfl (fun K hK => ?_) AllReadyH.nil
      go_simp
      refine hK.out _ _ ?_ (fun hH2 => ?_)
      · exact HK _ bel
      clear hK K hHeld
      have hHeld := hH2
      clear hH2
      try simp only [shH]
      refine dnH ?_ _
      clear hHeld
      (try simp only [Exit.then, Exit.inBlock])
      generalize hWz : (((((wp.setCell _ _).setCell _ _).setCell _ _).setCell _ _).setCell _ _).setCell _ _ = Wz
      have hBZ : Below W0.heap.size W0 Wz := by rw [← hWz]; exact bel
      have KB : BoxIs Wz (W0.heap.size + 1) #[.int .i64 a.k, .slice X R.length cx, .bool false, .slice none 0 0, .int .i64 (bits .or .i64 a.b b.b), .bool b.nul] := by rw [← hWz]; exact (((((KN.set 0 _).set 1 _).set 2 _).set 3 _).set 4 _).set 5 _
      have hRZ : RdL Wz 2 X (R.map spC) := by rw [← hWz]; (repeat (with_reducible refine rd_set ?_ (fun p hp => by have := hX1 p hp; omega) _ _)); exact hR
      have hX : ∀ p, X = some p → W0.heap.size ≤ p.block := fun p hp => by have := hX1 p hp; omega
      obtain ⟨bx, hbx⟩ : ∃ bx, W0.heap.size + 1 = bx := ⟨_, rfl⟩
      obtain ⟨lt, hlt⟩ : ∃ lt, W0.heap.size = lt := ⟨_, rfl⟩
      have hlo : W0.heap.size ≤ bx := by rw [← hbx]; exact Nat.le_add_right _ _
      rw [hbx, hlt]
      rw [hbx] at KB
      exact TAIL bx lt E ce Wz X R cx hBZ KB hlo hRZ hX hJ
    refine AllReadyH.cons rfl (fun K hK => ?_) AllReadyH.nil
    go_simp
    refine hK.out _ _ ?_ (fun hH2 => ?_)
    · exact HK _ bel
    clear hK K hHeld
    have hHeld := hH2
    clear hH2
    try simp only [shH]
    refine rdH [6] ?_
    refine AllReadyH.cons rfl (fun K hK => ?_) AllReadyH.nil
    go_simp
    refine hK.out _ _ ?_ (fun hH2 => ?_)
    · exact HK _ bel
    clear hK K hHeld
    have hHeld := hH2
    clear hH2
    try simp only [shH]
    refine rdH [7] ?_
    refine AllReadyH.cons rfl (fun K hK => ?_) AllReadyH.nil
    go_simp
    go_at_call 136
    refine (HCC.out _ _ (by simp [go_sem]) (by simp [go_sem]) (HA0.sp.below bel) (HB0.sp.below bel)).mono ?_
    rintro e w1 ⟨E, ce, rfl, hE1, hb1⟩
    have hB1 : Below W0.heap.size W0 w1 := bel
    have KM : BoxIs w1 W0.heap.size #[.int .i64 0, .slice none 0 0, .bool false, .slice none 0 0, .int .i64 0, .bool false] := BoxIs.below ((BoxIs.new (w := W0) (t := 36) rfl).alloc _) (by first | exact hb1 | exact undrew hb1)
    clear hb1
    refine hK.out _ _ ?_ (fun hH2 => ?_)
    · exact HK _ bel
    clear hK K hHeld
    have hHeld := hH2
    clear hH2
    try simp only [shH]
    refine rdH [8] ?_
    refine AllReadyH.cons rfl (fun K hK => ?_) AllReadyH.nil
    go_simp
    go_at_call 84
    refine (Sp.join_any L E ce _ (hE1.below bel) HWF.out HLEN.out).mono ?_
    rintro e wp ⟨R, X, cx, rfl, hR, hJ, hcx, hlow, hbp⟩
    have hX1 : ∀ p, X = some p → W0.heap.size < p.block + 0 := fun p hp => by have := (hlow p hp).1; (try simp only [sz_alloc, sz_drew] at this); have := KM.lt; omega
    have hBp : Below w1.heap.size w1 wp := bel
    have hBw : Below W0.heap.size W0 wp := hB1.trans (hBp.mono hB1.size)
    have KN : BoxIs wp (W0.heap.size) #[.int .i64 0, .slice none 0 0, .bool false, .slice none 0 0, .int .i64 0, .bool false] := BoxIs.below KM hBp
    have n0 := KN.c
    have n1 := KN.f
    clear hbp hlow
    refine hK.out _ _ ?_ (fun hH2 => ?_)
    · exact HK _ bel
    clear hK K hHeld
    have hHeld := hH2
    clear hH2
    try simp only [shH]
    refine tkH 16 ?_
    try simp only [shH]
    refine tkH 17 ?_
    try simp only [shH]
    refine tkH 18 ?_
    try simp only [shH]
    refine tkH 19 ?_
    try simp only [shH]
    refine tkH 20 ?_
    try simp only [shH]
    refine rdH [22] ?_
    refine AllReadyH.cons rfl (fun K hK => ?_) AllReadyH.nil
    go_simp
    refine hK.out _ _ ?_ (fun hH2 => ?_)
    · exact HK _ bel
    clear hK K hHeld
    have hHeld := hH2
    clear hH2
    try simp only [shH]
    refine dnH ?_ _
    clear hHeld
    (try simp only [Exit.then, Exit.inBlock])
    generalize hWz : (((((wp.setCell _ _).setCell _ _).setCell _ _).setCell _ _).setCell _ _).setCell _ _ = Wz
    have hBZ : Below W0.heap.size W0 Wz := by rw [← hWz]; exact bel
    have KB : BoxIs Wz (W0.heap.size) #[.int .i64 a.k, .slice X R.length cx, .bool false, .slice none 0 0, .int .i64 (bits .or .i64 a.b b.b), .bool b.nul] := by rw [← hWz]; exact (((((KN.set 0 _).set 1 _).set 2 _).set 3 _).set 4 _).set 5 _
    have hRZ : RdL Wz 2 X (R.map spC) := by rw [← hWz]; (repeat (with_reducible refine rd_set ?_ (fun p hp => by have := hX1 p hp; omega) _ _)); exact hR
    have hX : ∀ p, X = some p → W0.heap.size ≤ p.block := fun p hp => by have := hX1 p hp; omega
    obtain ⟨bx, hbx⟩ : ∃ bx, W0.heap.size = bx := ⟨_, rfl⟩
    obtain ⟨lt, hlt⟩ : ∃ lt, W0.heap.size + 1 = lt := ⟨_, rfl⟩
    have hlo : W0.heap.size ≤ bx := by rw [← hbx]; exact Nat.le_refl _
    rw [hlt, hbx]
    rw [hbx] at KB
    exact TAIL bx lt E ce Wz X R cx hBZ KB hlo hRZ hX hJ
    case tailf =>
      intro bx lt E ce Wz X R cx hBZ KB hlo hRZ hX hJ
      have hs0 := HS0.out
      have hbw : Below w.heap.size w Wz := hb0.trans (hBZ.mono (by omega))
      have k0 := (K0.below hBZ).c
      have k1 := (K1.below hBZ).c
      have KZ := K2.below hBZ
      have z2 := KZ.c
      have f2 := KZ.f
      have l2 := KZ.lt
      have zb := KB.c
      have fb := KB.f
      have lb := KB.lt
      have hne : ¬ (bx = w.heap.size + 2) := by omega
      have hbx : w.heap.size ≤ bx := by omega
      have HX : Hid (∀ p, X = some p → w.heap.size + 2 < p.block) := Lib.hid (fun p hp => by have := hX p hp; omega)
      have HAZ := HA0.below hBZ
      have HBZ := HB0.below hBZ
      have HEZ := HE.out.below hbw
      have HJ := Lib.hid hJ
      have HRZ := Lib.hid hRZ
      have hbx2 : w.heap.size + 2 ≤ bx := by omega
      have KA := K0.below hBZ
      have KC := K1.below hBZ
      clear HK K0 K1 K2 HA0 HB0 hBZ hX hJ hRZ hb0 hs0 hlo
      by_cases h2 : a.k = 2
      · have e2 : (a.k == 2) = true := by simpa using h2
        have hR0 : R = [] := ordL_none HJ.out.ord (fun n => by rw [HJ.out.same, HSP.out h2]; rfl)
        subst hR0
        have HII := Lib.hid (HI.out [] _ _ HJ.out (fun _ => ⟨rfl, rfl⟩) (fun hh => absurd (by rw [← IK.out]; exact h2) hh))
        clear h2
        go_wp2_with fail
        have HK2 : ∀ w', Below (w.heap.size + 2) Wz w' → Below (w.heap.size + 2) Wz w' ∧ (∀ o, w'.cell? ⟨w.heap.size, o, none⟩ = (#[.int .i64 a.k, .slice A a.sp.length ca, .bool a.al, .slice B a.ws.length cb, .int .i64 a.b, .bool false] : Array Value)[o]?) ∧ (∀ o, w'.cell? ⟨w.heap.size + 1, o, none⟩ = (#[.int .i64 b.k, .slice C b.sp.length cc, .bool b.al, .slice D b.ws.length cd, .int .i64 b.b, .bool b.nul] : Array Value)[o]?) := fun w' hb => ⟨hb, (KA.low hb (by omega)).c, (KC.low hb (by omega)).c⟩
        refine wp_region_held_drew (S := (fun w' => Below (w.heap.size + 2) Wz w' ∧ (∀ o, w'.cell? ⟨w.heap.size, o, none⟩ = (#[.int .i64 a.k, .slice A a.sp.length ca, .bool a.al, .slice B a.ws.length cb, .int .i64 a.b, .bool false] : Array Value)[o]?) ∧ (∀ o, w'.cell? ⟨w.heap.size + 1, o, none⟩ = (#[.int .i64 b.k, .slice C b.sp.length cc, .bool b.al, .slice D b.ws.length cd, .int .i64 b.b, .bool b.nul] : Array Value)[o]?))) (by kernel_rfl) (HK2 _ bel) (fun hHeld => ?_)
        refine tkH 0 ?_
        try simp only [shH]
        refine tkH 1 ?_
        try simp only [shH]
        refine tkH 3 ?_
        try simp only [shH]
        refine tkH 4 ?_
        try simp only [shH]
        refine rdH [2] ?_
        refine AllReadyH.cons rfl (fun K hK => ?_) AllReadyH.nil
        go_simp
        go_at_call 91
        refine (HOA.out _ (HAZ.ws.below bel) (HEZ.below bel)).mono ?_
        rintro e w2 ⟨Y1, rfl, hY1, hb2⟩
        have hB2 : Below Wz.heap.size Wz w2 := bel
        refine hK.out _ _ ?_ (fun hH2 => ?_)
        · exact HK2 _ bel
        clear hK K hHeld
        have hHeld := hH2
        clear hH2
        try simp only [shH]
        refine rdH [5] ?_
        refine AllReadyH.cons rfl (fun K hK => ?_) AllReadyH.nil
        go_simp
        go_at_call 91
        refine (HOB.out _ (HBZ.ws.below bel) (HEZ.below bel)).mono ?_
        rintro e w3 ⟨Y2, rfl, hY2, hb3⟩
        refine hK.out _ _ ?_ (fun hH2 => ?_)
        · exact HK2 _ bel
        clear hK K hHeld
        have hHeld := hH2
        clear hH2
        try simp only [shH]
        refine rdH [6] ?_
        refine AllReadyH.cons rfl (fun K hK => ?_) AllReadyH.nil
        go_simp
        go_at_call 87
        refine (HOM.out Y1 Y2 _ ((Wd.OwnT.rd hY1).below bel) ((Wd.OwnT.rd hY2).below bel) (HEZ.below bel)).mono ?_
        rintro e w4 ⟨Y3, rfl, hY3, hb4⟩
        refine hK.out _ _ ?_ (fun hH2 => ?_)
        · exact HK2 _ bel
        clear hK K hHeld
        have hHeld := hH2
        clear hH2
        try simp only [shH]
        refine rdH [7] ?_
        refine AllReadyH.cons rfl (fun K hK => ?_) AllReadyH.nil
        go_simp
        go_at_call 91
        refine (HOO.out Y3 _ ((Wd.OwnT.rd hY3).below bel) (HEZ.below bel)).mono ?_
        rintro e w5 ⟨Y4, rfl, hY4, hb5⟩
        have hB5 : Below Wz.heap.size Wz w5 := bel
        have HY4 := Lib.hid hY4
        have H45 : Hid (Wz.heap.size ≤ w4.heap.size) := Lib.hid (by have h2 := hB2.size; have h3 := hb3.size; have h4 := hb4.size; (try simp only [sz_drew, sz_alloc] at *); omega)
        obtain ⟨yc, yl, yf⟩ := aft hB5 bx lb
        obtain ⟨uc, ul, uf⟩ := aft hB5 (w.heap.size + 2) l2
        refine hK.out _ _ ?_ (fun hH2 => ?_)
        · exact HK2 _ bel
        clear hK K hHeld
        have hHeld := hH2
        clear hH2
        try simp only [shH]
        refine tkH 8 ?_
        try simp only [shH]
        refine rdH [9] ?_
        refine AllReadyH.cons rfl (fun K hK => ?_) AllReadyH.nil
        go_simp
        refine hK.out _ _ ?_ (fun hH2 => ?_)
        · exact HK2 _ bel
        clear hK K hHeld
        have hHeld := hH2
        clear hH2
        try simp only [shH]
        refine dnH ?_ _
        clear hHeld
        (try simp only [Exit.then, Exit.inBlock])
        have hbw5 : Below w.heap.size w w5 := hbw.trans (hB5.mono hbw.size)
        clear hb2 hb3 hb4 hb5 k0 k1
        go_wp2_with fail
        refine bodyPost_ret (v := .agg #[.int .i64 a.k, .slice X 0 cx, .bool (!m1), .slice Y4 n3.length n3.length, .int .i64 (bits .or .i64 a.b b.b), .bool b.nul]) (by simp [results, Tryz.results89, go_sem, *]) rfl ⟨⟨a.k, [], !m1, n3, bits .or .i64 a.b b.b, b.nul⟩, X, Y4, cx, _, rfl, ⟨RdL.nil_ _ _ _, Wd.OwnT.rd (base := Wz.heap.size) ?_⟩, HII.out, HII.out.ok (by simp) HLW.out, bel⟩
        repeat (with_reducible refine ownT_set ?_ (by omega) _ _)
        exact Wd.OwnT.base HY4.out H45.out
      · have e2 : (a.k == 2) = false := by simpa using h2
        have HII := Lib.hid (HI.out R false [] HJ.out (fun hh => absurd (by rw [IK.out]; exact hh) h2) (fun _ => ⟨rfl, rfl⟩))
        clear h2
        go_wp2_with fail
        refine bodyPost_ret (v := .agg #[.int .i64 a.k, .slice X R.length cx, .bool false, .slice none 0 0, .int .i64 (bits .or .i64 a.b b.b), .bool b.nul]) (by simp [results, Tryz.results89, go_sem, *]) rfl ⟨⟨a.k, R, false, [], bits .or .i64 a.b b.b, b.nul⟩, X, none, cx, 0, rfl, ⟨?_, RdL.nil_ _ _ _⟩, HII.out, HII.out.ok (Nat.le_trans HJ.out.len HLS.out) (Nat.zero_le _), bel⟩
        repeat (with_reducible refine rd_set ?_ (fun p hp => by have := HX.out p hp; omega) _ _)
        exact HRZ.out
  · rw [hnl] at HI
    clear hnl
    go_enter Tryz.func89, Tryz.ntmps89
    go_wp2_with fail
    generalize hE0 : ((w.alloc _).alloc _).alloc _ = W0
    have hb0 : Below w.heap.size w W0 := (by rw [← hE0]; exact bel)
    have K0 : BoxIs W0 w.heap.size #[.int .i64 a.k, .slice A a.sp.length ca, .bool a.al, .slice B a.ws.length cb, .int .i64 a.b, .bool true] := (by rw [← hE0]; exact ((BoxIs.new (t := 36) rfl).alloc _).alloc _)
    have K1 : BoxIs W0 (w.heap.size + 1) #[.int .i64 b.k, .slice C b.sp.length cc, .bool b.al, .slice D b.ws.length cd, .int .i64 b.b, .bool b.nul] := (by rw [← hE0]; exact (BoxIs.new (t := 36) (by simp)).alloc _)
    have K2 : BoxIs W0 (w.heap.size + 2) #[.int .i64 0, .slice none 0 0, .bool false, .slice none 0 0, .int .i64 0, .bool false] := (by rw [← hE0]; exact BoxIs.new (t := 36) (by simp))
    have hs0 : W0.heap.size = w.heap.size + 3 := (by rw [← hE0]; simp)
    have HS0 := Lib.hid hs0
    clear hE0 hs0
    have HA0 := HA.out.below hb0
    have HB0 := HB.out.below hb0
    have HK : ∀ w', Below W0.heap.size W0 w' → Below W0.heap.size W0 w' ∧ (∀ o, w'.cell? ⟨w.heap.size, o, none⟩ = (#[.int .i64 a.k, .slice A a.sp.length ca, .bool a.al, .slice B a.ws.length cb, .int .i64 a.b, .bool true] : Array Value)[o]?) ∧ (∀ o, w'.cell? ⟨w.heap.size + 1, o, none⟩ = (#[.int .i64 b.k, .slice C b.sp.length cc, .bool b.al, .slice D b.ws.length cd, .int .i64 b.b, .bool b.nul] : Array Value)[o]?) := fun w' hb => ⟨hb, (K0.below hb).c, (K1.below hb).c⟩
    have TAIL : ∀ (bx lt : Nat) (E : Option Addr) (ce : Nat) (Wz : World) (X : Option Addr) (R : List Sp) (cx : Nat), Below W0.heap.size W0 Wz → BoxIs Wz bx #[.int .i64 a.k, .slice X R.length cx, .bool false, .slice none 0 0, .int .i64 (bits .or .i64 a.b b.b), .bool true] → W0.heap.size ≤ bx → RdL Wz 2 X (R.map spC) → (∀ p, X = some p → W0.heap.size ≤ p.block) → JoinOf L R →
      (?Gt : Nat → Nat → Option Addr → Nat → World → Option Addr → List Sp → Nat → Prop) bx lt E ce Wz X R cx := ?tailt
    refine wp_region_held_drew (S := (fun w' => Below W0.heap.size W0 w' ∧ (∀ o, w'.cell? ⟨w.heap.size, o, none⟩ = (#[.int .i64 a.k, .slice A a.sp.length ca, .bool a.al, .slice B a.ws.length cb, .int .i64 a.b, .bool true] : Array Value)[o]?) ∧ (∀ o, w'.cell? ⟨w.heap.size + 1, o, none⟩ = (#[.int .i64 b.k, .slice C b.sp.length cc, .bool b.al, .slice D b.ws.length cd, .int .i64 b.b, .bool b.nul] : Array Value)[o]?))) (by kernel_rfl) (HK _ bel) (fun hHeld => ?_)
    refine tkH 0 ?_
    try simp only [shH]
    refine tkH 1 ?_
    try simp only [shH]
    refine tkH 2 ?_
    try simp only [shH]
    refine tkH 3 ?_
    try simp only [shH]
    refine tkH 4 ?_
    try simp only [shH]
    refine tkH 5 ?_
    try simp only [shH]
    refine tkH 9 ?_
    try simp only [shH]
    refine tkH 10 ?_
    try simp only [shH]
    refine tkH 11 ?_
    try simp only [shH]
    refine tkH 12 ?_
    try simp only [shH]
    refine tkH 13 ?_
    try simp only [shH]
    refine tkH 14 ?_
    try simp only [shH]
    refine tkH 15 ?_
    try simp only [shH]
    refine rdH [6, 21] ?_
    refine AllReadyH.cons rfl (fun K hK => ?_) ?_
    · go_simp
      refine hK.out _ _ ?_ (fun hH2 => ?_)
      · exact HK _ bel
      clear hK K hHeld
      have hHeld := hH2
      clear hH2
      try simp only [shH]
      refine rdH [7, 21] ?_
      refine AllReadyH.cons rfl (fun K hK => ?_) ?_
      · go_simp
        go_at_call 136
        refine (HCC.out _ _ (by simp [go_sem]) (by simp [go_sem]) (HA0.sp.below bel) (HB0.sp.below bel)).mono ?_
        rintro e w1 ⟨E, ce, rfl, hE1, hb1⟩
        have hB1 : Below W0.heap.size W0 w1 := bel
        clear hb1
        refine hK.out _ _ ?_ (fun hH2 => ?_)
        · exact HK _ bel
        clear hK K hHeld
        have hHeld := hH2
        clear hH2
        try simp only [shH]
        refine rdH [8, 21] ?_
        refine AllReadyH.cons rfl (fun K hK => ?_) ?_
        · go_simp
          go_at_call 84
          refine (Sp.join_any L E ce _ (hE1.below bel) HWF.out HLEN.out).mono ?_
          rintro e wp ⟨R, X, cx, rfl, hR, hJ, hcx, hlow, hbp⟩
          have hX1 : ∀ p, X = some p → W0.heap.size < p.block + 1 := fun p hp => by have := (hlow p hp).1; (try simp only [sz_alloc, sz_drew] at this); have := hB1.size; omega
          have hBp : Below w1.heap.size w1 wp := bel
          have hBw : Below W0.heap.size W0 wp := hB1.trans (hBp.mono hB1.size)
          clear hbp hlow
          refine hK.out _ _ ?_ (fun hH2 => ?_)
          · exact HK _ bel
          clear hK K hHeld
          have hHeld := hH2
          clear hH2
          try simp only [shH]
          refine tkH 16 ?_
          try simp only [shH]
          refine tnH 17 ?_
          try simp only [shH]
          refine tnH 18 ?_
          try simp only [shH]
          refine tkH 19 ?_
          try simp only [shH]
          refine tkH 20 ?_
          try simp only [shH]
          refine rdH [21] ?_
          refine AllReadyH.cons rfl (fun K hK => ?_) AllReadyH.nil
          go_simp
          refine hK.out _ _ ?_ (fun hH2 => ?_)
          · exact HK _ bel
          clear hK K hHeld
          have hHeld := hH2
          clear hH2
          try simp only [shH]
          refine rdH [22] ?_
          refine AllReadyH.cons rfl (fun K hK => ?_) AllReadyH.nil
          go_simp
          refine hK.out _ _ ?_ (fun hH2 => ?_)
          · exact HK _ bel
          clear hK K hHeld
          have hHeld := hH2
          clear hH2
          try simp only [shH]
          refine dnH ?_ _
          clear hHeld
          (try simp only [Exit.then, Exit.inBlock])
          generalize hWz : wp.alloc _ = Wz
          have hBZ : Below W0.heap.size W0 Wz := by rw [← hWz]; exact bel
          have KB : BoxIs Wz (wp.heap.size) #[.int .i64 a.k, .slice X R.length cx, .bool false, .slice none 0 0, .int .i64 (bits .or .i64 a.b b.b), .bool true] := by rw [← hWz]; exact BoxIs.new (t := 36) rfl
          have hRZ : RdL Wz 2 X (R.map spC) := by rw [← hWz]; exact rd_alloc hR _
          have hX : ∀ p, X = some p → W0.heap.size ≤ p.block := fun p hp => by have := hX1 p hp; omega
          obtain ⟨bx, hbx⟩ : ∃ bx, wp.heap.size = bx := ⟨_, rfl⟩
          obtain ⟨lt, hlt⟩ : ∃ lt, W0.heap.size = lt := ⟨_, rfl⟩
          have hlo : W0.heap.size ≤ bx := by rw [← hbx]; exact hBw.size
          rw [hbx, hlt]
          rw [hbx] at KB
          exact TAIL bx lt E ce Wz X R cx hBZ KB hlo hRZ hX hJ
        refine AllReadyH.cons rfl (fun K hK => ?_) AllReadyH.nil
        go_simp
        refine hK.out _ _ ?_ (fun hH2 => ?_)
        · exact HK _ bel
        clear hK K hHeld
        have hHeld := hH2
        clear hH2
        try simp only [shH]
        refine rdH [8] ?_
        refine AllReadyH.cons rfl (fun K hK => ?_) AllReadyH.nil
        go_simp
        go_at_call 84
        refine (Sp.join_any L E ce _ (hE1.below bel) HWF.out HLEN.out).mono ?_
        rintro e wp ⟨R, X, cx, rfl, hR, hJ, hcx, hlow, hbp⟩
        have hX1 : ∀ p, X = some p → w1.heap.size < p.block + 0 := fun p hp => by have := (hlow p hp).1; (try simp only [sz_alloc, sz_drew] at this); omega
        have hBp : Below w1.heap.size w1 wp := bel
        have hBw : Below W0.heap.size W0 wp := hB1.trans (hBp.mono hB1.size)
        have KN : BoxIs wp w1.heap.size #[.int .i64 0, .slice none 0 0, .bool false, .slice none 0 0, .int .i64 0, .bool false] := BoxIs.below (BoxIs.new (w := w1) (t := 36) rfl) (by first | exact hbp | exact undrew hbp)
        have n0 := KN.c
        have n1 := KN.f
        clear hbp hlow
        refine hK.out _ _ ?_ (fun hH2 => ?_)
        · exact HK _ bel
        clear hK K hHeld
        have hHeld := hH2
        clear hH2
        try simp only [shH]
        refine tkH 16 ?_
        try simp only [shH]
        refine tnH 17 ?_
        try simp only [shH]
        refine tnH 18 ?_
        try simp only [shH]
        refine tkH 19 ?_
        try simp only [shH]
        refine tkH 20 ?_
        try simp only [shH]
        refine rdH [22] ?_
        refine AllReadyH.cons rfl (fun K hK => ?_) AllReadyH.nil
        go_simp
        refine hK.out _ _ ?_ (fun hH2 => ?_)
        · exact HK _ bel
        clear hK K hHeld
        have hHeld := hH2
        clear hH2
        try simp only [shH]
        refine dnH ?_ _
        clear hHeld
        (try simp only [Exit.then, Exit.inBlock])
        generalize hWz : (((((wp.setCell _ _).setCell _ _).setCell _ _).setCell _ _).setCell _ _).setCell _ _ = Wz
        have hBZ : Below W0.heap.size W0 Wz := by rw [← hWz]; exact bel
        have KB : BoxIs Wz (w1.heap.size) #[.int .i64 a.k, .slice X R.length cx, .bool false, .slice none 0 0, .int .i64 (bits .or .i64 a.b b.b), .bool true] := by rw [← hWz]; exact (((((KN.set 0 _).set 1 _).set 2 _).set 3 _).set 4 _).set 5 _
        have hRZ : RdL Wz 2 X (R.map spC) := by rw [← hWz]; (repeat (with_reducible refine rd_set ?_ (fun p hp => by have := hX1 p hp; omega) _ _)); exact hR
        have hX : ∀ p, X = some p → W0.heap.size ≤ p.block := fun p hp => by have := hX1 p hp; have := hB1.size; omega
        obtain ⟨bx, hbx⟩ : ∃ bx, w1.heap.size = bx := ⟨_, rfl⟩
        obtain ⟨lt, hlt⟩ : ∃ lt, W0.heap.size = lt := ⟨_, rfl⟩
        have hlo : W0.heap.size ≤ bx := by rw [← hbx]; exact hB1.size
        rw [hbx, hlt]
        rw [hbx] at KB
        exact TAIL bx lt E ce Wz X R cx hBZ KB hlo hRZ hX hJ
      refine AllReadyH.cons rfl (fun K hK => ?_) AllReadyH.nil
      go_simp
      refine hK.out _ _ ?_ (fun hH2 => ?_)
      · exact HK _ bel
      clear hK K hHeld
      have hHeld := hH2
      clear hH2
      try simp only [shH]
      refine rdH [7] ?_
      refine AllReadyH.cons rfl (fun K hK => ?_) AllReadyH.nil
      go_simp
      go_at_call 136
      refine (HCC.out _ _ (by simp [go_sem]) (by simp [go_sem]) (HA0.sp.below bel) (HB0.sp.below bel)).mono ?_
      rintro e w1 ⟨E, ce, rfl, hE1, hb1⟩
      have hB1 : Below W0.heap.size W0 w1 := bel
      have KM : BoxIs w1 (W0.heap.size + 1) #[.int .i64 0, .slice none 0 0, .bool false, .slice none 0 0, .int .i64 0, .bool false] := BoxIs.below (BoxIs.new (w := W0.alloc _) (t := 36) (by rw [sz_alloc])) (undrew hb1)
      clear hb1
      refine hK.out _ _ ?_ (fun hH2 => ?_)
      · exact HK _ bel
      clear hK K hHeld
      have hHeld := hH2
      clear hH2
      try simp only [shH]
      refine rdH [8] ?_
      refine AllReadyH.cons rfl (fun K hK => ?_) AllReadyH.nil
      go_simp
      go_at_call 84
      refine (Sp.join_any L E ce _ (hE1.below bel) HWF.out HLEN.out).mono ?_
      rintro e wp ⟨R, X, cx, rfl, hR, hJ, hcx, hlow, hbp⟩
      have hX1 : ∀ p, X = some p → W0.heap.size + 1 < p.block + 0 := fun p hp => by have := (hlow p hp).1; (try simp only [sz_alloc, sz_drew] at this); have := KM.lt; omega
      have hBp : Below w1.heap.size w1 wp := bel
      have hBw : Below W0.heap.size W0 wp := hB1.trans (hBp.mono hB1.size)
      have KN : BoxIs wp (W0.heap.size + 1) #[.int .i64 0, .slice none 0 0, .bool false, .slice none 0 0, .int .i64 0, .bool false] := BoxIs.below KM hBp
      have n0 := KN.c
      have n1 := KN.f
      clear hbp hlow
      refine hK.out _ _ ?_ (fun hH2 => ?_)
      · exact HK _ bel
      clear hK K hHeld
      have hHeld := hH2
      clear hH2
      try simp only [shH]
      refine tkH 16 ?_
      try simp only [shH]
      refine tnH 17 ?_
      try simp only [shH]
      refine tnH 18 ?_
      try simp only [shH]
      refine tkH 19 ?_
      try simp only [shH]
      refine tkH 20 ?_
      try simp only [shH]
      refine rdH [22] ?_
      refine AllReadyH.cons rfl (fun K hK => ?_) AllReadyH.nil
      go_simp
      refine hK.out _ _ ?_ (fun hH2 => ?_)
      · exact HK _ bel
      clear hK K hHeld
      have hHeld := hH2
      clear hH2
      try simp only [shH]
      refine dnH ?_ _
      clear hHeld
      (try simp only [Exit.then, Exit.inBlock])
      generalize hWz : (((((wp.setCell _ _).setCell _ _).setCell _ _).setCell _ _).setCell _ _).setCell _ _ = Wz
      have hBZ : Below W0.heap.size W0 Wz := by rw [← hWz]; exact bel
      have KB : BoxIs Wz (W0.heap.size + 1) #[.int .i64 a.k, .slice X R.length cx, .bool false, .slice none 0 0, .int .i64 (bits .or .i64 a.b b.b), .bool true] := by rw [← hWz]; exact (((((KN.set 0 _).set 1 _).set 2 _).set 3 _).set 4 _).set 5 _
      have hRZ : RdL Wz 2 X (R.map spC) := by rw [← hWz]; (repeat (with_reducible refine rd_set ?_ (fun p hp => by have := hX1 p hp; omega) _ _)); exact hR
      have hX : ∀ p, X = some p → W0.heap.size ≤ p.block := fun p hp => by have := hX1 p hp; omega
      obtain ⟨bx, hbx⟩ : ∃ bx, W0.heap.size + 1 = bx := ⟨_, rfl⟩
      obtain ⟨lt, hlt⟩ : ∃ lt, W0.heap.size = lt := ⟨_, rfl⟩
      have hlo : W0.heap.size ≤ bx := by rw [← hbx]; exact Nat.le_add_right _ _
      rw [hbx, hlt]
      rw [hbx] at KB
      exact TAIL bx lt E ce Wz X R cx hBZ KB hlo hRZ hX hJ
    refine AllReadyH.cons rfl (fun K hK => ?_) AllReadyH.nil
    go_simp
    refine hK.out _ _ ?_ (fun hH2 => ?_)
    · exact HK _ bel
    clear hK K hHeld
    have hHeld := hH2
    clear hH2
    try simp only [shH]
    refine rdH [6] ?_
    refine AllReadyH.cons rfl (fun K hK => ?_) AllReadyH.nil
    go_simp
    refine hK.out _ _ ?_ (fun hH2 => ?_)
    · exact HK _ bel
    clear hK K hHeld
    have hHeld := hH2
    clear hH2
    try simp only [shH]
    refine rdH [7] ?_
    refine AllReadyH.cons rfl (fun K hK => ?_) AllReadyH.nil
    go_simp
    go_at_call 136
    refine (HCC.out _ _ (by simp [go_sem]) (by simp [go_sem]) (HA0.sp.below bel) (HB0.sp.below bel)).mono ?_
    rintro e w1 ⟨E, ce, rfl, hE1, hb1⟩
    have hB1 : Below W0.heap.size W0 w1 := bel
    have KM : BoxIs w1 W0.heap.size #[.int .i64 0, .slice none 0 0, .bool false, .slice none 0 0, .int .i64 0, .bool false] := BoxIs.below ((BoxIs.new (w := W0) (t := 36) rfl).alloc _) (by first | exact hb1 | exact undrew hb1)
    clear hb1
    refine hK.out _ _ ?_ (fun hH2 => ?_)
    · exact HK _ bel
    clear hK K hHeld
    have hHeld := hH2
    clear hH2
    try simp only [shH]
    refine rdH [8] ?_
    refine AllReadyH.cons rfl (fun K hK => ?_) AllReadyH.nil
    go_simp
    go_at_call 84
    refine (Sp.join_any L E ce _ (hE1.below bel) HWF.out HLEN.out).mono ?_
    rintro e wp ⟨R, X, cx, rfl, hR, hJ, hcx, hlow, hbp⟩
    have hX1 : ∀ p, X = some p → W0.heap.size < p.block + 0 := fun p hp => by have := (hlow p hp).1; (try simp only [sz_alloc, sz_drew] at this); have := KM.lt; omega
    have hBp : Below w1.heap.size w1 wp := bel
    have hBw : Below W0.heap.size W0 wp := hB1.trans (hBp.mono hB1.size)
    have KN : BoxIs wp (W0.heap.size) #[.int .i64 0, .slice none 0 0, .bool false, .slice none 0 0, .int .i64 0, .bool false] := BoxIs.below KM hBp
    have n0 := KN.c
    have n1 := KN.f
    clear hbp hlow
    refine hK.out _ _ ?_ (fun hH2 => ?_)
    · exact HK _ bel
    clear hK K hHeld
    have hHeld := hH2
    clear hH2
    try simp only [shH]
    refine tkH 16 ?_
    try simp only [shH]
    refine tnH 17 ?_
    try simp only [shH]
    refine tnH 18 ?_
    try simp only [shH]
    refine tkH 19 ?_
    try simp only [shH]
    refine tkH 20 ?_
    try simp only [shH]
    refine rdH [22] ?_
    refine AllReadyH.cons rfl (fun K hK => ?_) AllReadyH.nil
    go_simp
    refine hK.out _ _ ?_ (fun hH2 => ?_)
    · exact HK _ bel
    clear hK K hHeld
    have hHeld := hH2
    clear hH2
    try simp only [shH]
    refine dnH ?_ _
    clear hHeld
    (try simp only [Exit.then, Exit.inBlock])
    generalize hWz : (((((wp.setCell _ _).setCell _ _).setCell _ _).setCell _ _).setCell _ _).setCell _ _ = Wz
    have hBZ : Below W0.heap.size W0 Wz := by rw [← hWz]; exact bel
    have KB : BoxIs Wz (W0.heap.size) #[.int .i64 a.k, .slice X R.length cx, .bool false, .slice none 0 0, .int .i64 (bits .or .i64 a.b b.b), .bool true] := by rw [← hWz]; exact (((((KN.set 0 _).set 1 _).set 2 _).set 3 _).set 4 _).set 5 _
    have hRZ : RdL Wz 2 X (R.map spC) := by rw [← hWz]; (repeat (with_reducible refine rd_set ?_ (fun p hp => by have := hX1 p hp; omega) _ _)); exact hR
    have hX : ∀ p, X = some p → W0.heap.size ≤ p.block := fun p hp => by have := hX1 p hp; omega
    obtain ⟨bx, hbx⟩ : ∃ bx, W0.heap.size = bx := ⟨_, rfl⟩
    obtain ⟨lt, hlt⟩ : ∃ lt, W0.heap.size + 1 = lt := ⟨_, rfl⟩
    have hlo : W0.heap.size ≤ bx := by rw [← hbx]; exact Nat.le_refl _
    rw [hlt, hbx]
    rw [hbx] at KB
    exact TAIL bx lt E ce Wz X R cx hBZ KB hlo hRZ hX hJ
    case tailt =>
      intro bx lt E ce Wz X R cx hBZ KB hlo hRZ hX hJ
      have hs0 := HS0.out
      have hbw : Below w.heap.size w Wz := hb0.trans (hBZ.mono (by omega))
      have k0 := (K0.below hBZ).c
      have k1 := (K1.below hBZ).c
      have KZ := K2.below hBZ
      have z2 := KZ.c
      have f2 := KZ.f
      have l2 := KZ.lt
      have zb := KB.c
      have fb := KB.f
      have lb := KB.lt
      have hne : ¬ (bx = w.heap.size + 2) := by omega
      have hbx : w.heap.size ≤ bx := by omega
      have HX : Hid (∀ p, X = some p → w.heap.size + 2 < p.block) := Lib.hid (fun p hp => by have := hX p hp; omega)
      have HAZ := HA0.below hBZ
      have HBZ := HB0.below hBZ
      have HEZ := HE.out.below hbw
      have HJ := Lib.hid hJ
      have HRZ := Lib.hid hRZ
      have hbx2 : w.heap.size + 2 ≤ bx := by omega
      have KA := K0.below hBZ
      have KC := K1.below hBZ
      clear HK K0 K1 K2 HA0 HB0 hBZ hX hJ hRZ hb0 hs0 hlo
      by_cases h2 : a.k = 2
      · have e2 : (a.k == 2) = true := by simpa using h2
        have hR0 : R = [] := ordL_none HJ.out.ord (fun n => by rw [HJ.out.same, HSP.out h2]; rfl)
        subst hR0
        have HII := Lib.hid (HI.out [] _ _ HJ.out (fun _ => ⟨rfl, rfl⟩) (fun hh => absurd (by rw [← IK.out]; exact h2) hh))
        clear h2
        go_wp2_with fail
        have HK2 : ∀ w', Below (w.heap.size + 2) Wz w' → Below (w.heap.size + 2) Wz w' ∧ (∀ o, w'.cell? ⟨w.heap.size, o, none⟩ = (#[.int .i64 a.k, .slice A a.sp.length ca, .bool a.al, .slice B a.ws.length cb, .int .i64 a.b, .bool true] : Array Value)[o]?) ∧ (∀ o, w'.cell? ⟨w.heap.size + 1, o, none⟩ = (#[.int .i64 b.k, .slice C b.sp.length cc, .bool b.al, .slice D b.ws.length cd, .int .i64 b.b, .bool b.nul] : Array Value)[o]?) := fun w' hb => ⟨hb, (KA.low hb (by omega)).c, (KC.low hb (by omega)).c⟩
        refine wp_region_held_drew (S := (fun w' => Below (w.heap.size + 2) Wz w' ∧ (∀ o, w'.cell? ⟨w.heap.size, o, none⟩ = (#[.int .i64 a.k, .slice A a.sp.length ca, .bool a.al, .slice B a.ws.length cb, .int .i64 a.b, .bool true] : Array Value)[o]?) ∧ (∀ o, w'.cell? ⟨w.heap.size + 1, o, none⟩ = (#[.int .i64 b.k, .slice C b.sp.length cc, .bool b.al, .slice D b.ws.length cd, .int .i64 b.b, .bool b.nul] : Array Value)[o]?))) (by kernel_rfl) (HK2 _ bel) (fun hHeld => ?_)
        refine tkH 0 ?_
        try simp only [shH]
        refine tkH 1 ?_
        try simp only [shH]
        refine tkH 3 ?_
        try simp only [shH]
        refine tkH 4 ?_
        try simp only [shH]
        refine rdH [2] ?_
        refine AllReadyH.cons rfl (fun K hK => ?_) AllReadyH.nil
        go_simp
        go_at_call 91
        refine (HOA.out _ (HAZ.ws.below bel) (HEZ.below bel)).mono ?_
        rintro e w2 ⟨Y1, rfl, hY1, hb2⟩
        have hB2 : Below Wz.heap.size Wz w2 := bel
        refine hK.out _ _ ?_ (fun hH2 => ?_)
        · exact HK2 _ bel
        clear hK K hHeld
        have hHeld := hH2
        clear hH2
        try simp only [shH]
        refine rdH [5] ?_
        refine AllReadyH.cons rfl (fun K hK => ?_) AllReadyH.nil
        go_simp
        go_at_call 91
        refine (HOB.out _ (HBZ.ws.below bel) (HEZ.below bel)).mono ?_
        rintro e w3 ⟨Y2, rfl, hY2, hb3⟩
        refine hK.out _ _ ?_ (fun hH2 => ?_)
        · exact HK2 _ bel
        clear hK K hHeld
        have hHeld := hH2
        clear hH2
        try simp only [shH]
        refine rdH [6] ?_
        refine AllReadyH.cons rfl (fun K hK => ?_) AllReadyH.nil
        go_simp
        go_at_call 87
        refine (HOM.out Y1 Y2 _ ((Wd.OwnT.rd hY1).below bel) ((Wd.OwnT.rd hY2).below bel) (HEZ.below bel)).mono ?_
        rintro e w4 ⟨Y3, rfl, hY3, hb4⟩
        refine hK.out _ _ ?_ (fun hH2 => ?_)
        · exact HK2 _ bel
        clear hK K hHeld
        have hHeld := hH2
        clear hH2
        try simp only [shH]
        refine rdH [7] ?_
        refine AllReadyH.cons rfl (fun K hK => ?_) AllReadyH.nil
        go_simp
        go_at_call 91
        refine (HOO.out Y3 _ ((Wd.OwnT.rd hY3).below bel) (HEZ.below bel)).mono ?_
        rintro e w5 ⟨Y4, rfl, hY4, hb5⟩
        have hB5 : Below Wz.heap.size Wz w5 := bel
        have HY4 := Lib.hid hY4
        have H45 : Hid (Wz.heap.size ≤ w4.heap.size) := Lib.hid (by have h2 := hB2.size; have h3 := hb3.size; have h4 := hb4.size; (try simp only [sz_drew, sz_alloc] at *); omega)
        obtain ⟨yc, yl, yf⟩ := aft hB5 bx lb
        obtain ⟨uc, ul, uf⟩ := aft hB5 (w.heap.size + 2) l2
        refine hK.out _ _ ?_ (fun hH2 => ?_)
        · exact HK2 _ bel
        clear hK K hHeld
        have hHeld := hH2
        clear hH2
        try simp only [shH]
        refine tkH 8 ?_
        try simp only [shH]
        refine rdH [9] ?_
        refine AllReadyH.cons rfl (fun K hK => ?_) AllReadyH.nil
        go_simp
        refine hK.out _ _ ?_ (fun hH2 => ?_)
        · exact HK2 _ bel
        clear hK K hHeld
        have hHeld := hH2
        clear hH2
        try simp only [shH]
        refine dnH ?_ _
        clear hHeld
        (try simp only [Exit.then, Exit.inBlock])
        have hbw5 : Below w.heap.size w w5 := hbw.trans (hB5.mono hbw.size)
        clear hb2 hb3 hb4 hb5 k0 k1
        go_wp2_with fail
        refine bodyPost_ret (v := .agg #[.int .i64 a.k, .slice X 0 cx, .bool (!m1), .slice Y4 n3.length n3.length, .int .i64 (bits .or .i64 a.b b.b), .bool true]) (by simp [results, Tryz.results89, go_sem, *]) rfl ⟨⟨a.k, [], !m1, n3, bits .or .i64 a.b b.b, true⟩, X, Y4, cx, _, rfl, ⟨RdL.nil_ _ _ _, Wd.OwnT.rd (base := Wz.heap.size) ?_⟩, HII.out, HII.out.ok (by simp) HLW.out, bel⟩
        repeat (with_reducible refine ownT_set ?_ (by omega) _ _)
        exact Wd.OwnT.base HY4.out H45.out
      · have e2 : (a.k == 2) = false := by simpa using h2
        have HII := Lib.hid (HI.out R false [] HJ.out (fun hh => absurd (by rw [IK.out]; exact hh) h2) (fun _ => ⟨rfl, rfl⟩))
        clear h2
        go_wp2_with fail
        refine bodyPost_ret (v := .agg #[.int .i64 a.k, .slice X R.length cx, .bool false, .slice none 0 0, .int .i64 (bits .or .i64 a.b b.b), .bool true]) (by simp [results, Tryz.results89, go_sem, *]) rfl ⟨⟨a.k, R, false, [], bits .or .i64 a.b b.b, true⟩, X, none, cx, 0, rfl, ⟨?_, RdL.nil_ _ _ _⟩, HII.out, HII.out.ok (Nat.le_trans HJ.out.len HLS.out) (Nat.zero_le _), bel⟩
        repeat (with_reducible refine rd_set ?_ (fun p hp => by have := HX.out p hp; omega) _ _)
        exact HRZ.out
end Go.Proofs.YtankkadnhdfpfaaGreatDoor

/- A set's parts do not lie in a box that holds a set; tests joined one by one. -/
set_option linter.unusedSimpArgs false
set_option linter.unusedVariables false
namespace Go.Proofs.YtankkadnhdfpfaaGreatDoor
open Go.RowKit Sp Wd

def SetLike (vs : Array Value) : Prop := ∃ k A n c al B m d b nul, vs = #[.int .i64 k, .slice A n c, .bool al, .slice B m d, .int .i64 b, .bool nul]
theorem setLike (k : Int) (A : Option Addr) (n c : Nat) (al : Bool) (B : Option Addr) (m d : Nat) (b : Int) (nul : Bool) : SetLike #[.int .i64 k, .slice A n c, .bool al, .slice B m d, .int .i64 b, .bool nul] := ⟨k, A, n, c, al, B, m, d, b, nul, rfl⟩
theorem like_sp {vs : Array Value} (h : SetLike vs) (i : Nat) (a b : Int) (h1 : vs[i]? = some (.int .i64 a)) (h2 : vs[i + 1]? = some (.int .i64 b)) : False := by
  obtain ⟨k, A, n, c, al, B, m, d, b', nul, rfl⟩ := h
  match i, h1, h2 with
  | 0, _, h2 => simp at h2
  | 1, h1, _ => simp at h1
  | 2, h1, _ => simp at h1
  | 3, h1, _ => simp at h1
  | 4, _, h2 => simp at h2
  | 5, h1, _ => simp at h1
  | i + 6, h1, _ => simp at h1
theorem like_ws {vs : Array Value} (h : SetLike vs) (i : Nat) (s : ByteArray) (h1 : vs[i]? = some (.string s)) : False := by
  obtain ⟨k, A, n, c, al, B, m, d, b', nul, rfl⟩ := h
  match i, h1 with
  | 0, h1 => simp at h1
  | 1, h1 => simp at h1
  | 2, h1 => simp at h1
  | 3, h1 => simp at h1
  | 4, h1 => simp at h1
  | 5, h1 => simp at h1
  | i + 6, h1 => simp at h1
theorem rd_free2 {w W : World} {A : Option Addr} {l : List Sp} {b : Nat} {vs : Array Value} (h : RdL w 2 A (l.map spC)) (K : BoxIs w b vs) (hl : SetLike vs) (hW : ∀ k, k ≠ b → W.heap[k]? = w.heap[k]?) : RdL W 2 A (l.map spC) := by
  by_cases h0 : l = []
  · subst h0; exact RdL.nil_ _ _ _
  · refine h.of_block (fun p hp => hW _ (fun e => ?_))
    obtain ⟨x, r, rfl⟩ := List.exists_cons_of_ne_nil h0
    obtain ⟨b', off, hA, hx⟩ := h 0 (spC x) rfl
    rw [hp] at hA
    cases hA
    have e' : b' = b := e
    subst e'
    have c0 := hx.get 0 rfl
    have c1 := hx.get 1 rfl
    rw [K.c] at c0 c1
    exact like_sp hl _ _ _ c0 c1
theorem rd_free1 {w W : World} {A : Option Addr} {l : List Tx} {b : Nat} {vs : Array Value} (h : RdL w 1 A (l.map tC)) (K : BoxIs w b vs) (hl : SetLike vs) (hW : ∀ k, k ≠ b → W.heap[k]? = w.heap[k]?) : RdL W 1 A (l.map tC) := by
  by_cases h0 : l = []
  · subst h0; exact RdL.nil_ _ _ _
  · refine h.of_block (fun p hp => hW _ (fun e => ?_))
    obtain ⟨x, r, rfl⟩ := List.exists_cons_of_ne_nil h0
    obtain ⟨b', off, hA, hx⟩ := h 0 (tC x) rfl
    rw [hp] at hA
    cases hA
    have e' : b' = b := e
    subst e'
    have c0 := hx.get 0 rfl
    rw [K.c] at c0
    exact like_ws hl _ _ c0
theorem StAt.free {w W : World} {r : St} {X Y : Option Addr} {b : Nat} {vs : Array Value} (h : StAt w r X Y) (K : BoxIs w b vs) (hl : SetLike vs) (hW : ∀ k, k ≠ b → W.heap[k]? = w.heap[k]?) : StAt W r X Y :=
  ⟨rd_free2 h.sp K hl hW, rd_free1 h.ws K hl hW⟩
theorem StAt.alloc {w : World} {r : St} {X Y : Option Addr} (h : StAt w r X Y) (o : Obj) : StAt (w.alloc o) r X Y := h.below ((Below.refl _ _).alloc (Nat.le_refl _) o)
theorem joinsG_append (t : Ty) (x : Tst) : ∀ (l : List Tst) (g : Sg), joinsG t (l ++ [x]) g = (joinsG t l g).join (testG t x)
  | [], g => rfl
  | y :: r, g => by show joinsG t (r ++ [x]) (g.join (testG t y)) = _; rw [joinsG_append t x r]; rfl
theorem joinsG_take (t : Ty) {l : List Tst} {j : Nat} (h : j < l.length) (g : Sg) : joinsG t (l.take (j + 1)) g = (joinsG t (l.take j) g).join (testG t (l[j]'h)) := by
  rw [List.take_succ_eq_append_getElem h, joinsG_append]
theorem uSnd_le {c : Cel} (h : uSndB c = true) : c.ts.length ≤ 8 ∧ ∀ x ∈ c.ts, uOneB x = true := by
  unfold uSndB at h
  split at h
  · rw [Bool.and_eq_true, decide_eq_true_eq] at h
    exact ⟨by omega, fun x hx => by rw [List.eq_nil_of_length_eq_zero h.2] at hx; cases hx⟩
  · rw [Bool.and_eq_true, decide_eq_true_eq, Bool.not_eq_true', List.any_eq_false] at h
    exact ⟨h.1.2, fun x hx => by have := h.2 x hx; simpa using this⟩
theorem six_other {w : World} {b : Nat} {v0 v1 v2 v3 v4 v5 : Value} (k : Nat) (hk : k ≠ b) : ((((((w.setCell ⟨b, 0, none⟩ v0).setCell ⟨b, 1, none⟩ v1).setCell ⟨b, 2, none⟩ v2).setCell ⟨b, 3, none⟩ v3).setCell ⟨b, 4, none⟩ v4).setCell ⟨b, 5, none⟩ v5).heap[k]? = w.heap[k]? := by
  rw [heap_setCell_other _ _ _ _ hk, heap_setCell_other _ _ _ _ hk, heap_setCell_other _ _ _ _ hk, heap_setCell_other _ _ _ _ hk, heap_setCell_other _ _ _ _ hk, heap_setCell_other _ _ _ _ hk]
theorem six_cell {w : World} {b c : Nat} {v0 v1 v2 v3 v4 v5 : Value} (hc : c ≠ b) (o : Nat) : ((((((w.setCell ⟨b, 0, none⟩ v0).setCell ⟨b, 1, none⟩ v1).setCell ⟨b, 2, none⟩ v2).setCell ⟨b, 3, none⟩ v3).setCell ⟨b, 4, none⟩ v4).setCell ⟨b, 5, none⟩ v5).cell? ⟨c, o, none⟩ = w.cell? ⟨c, o, none⟩ := by
  unfold World.cell?
  rw [six_other c hc]
theorem opq (w : World) : ∃ f : Obj → World, (∀ o, w.alloc o = f o) ∧ (∀ o, Below w.heap.size w (f o)) ∧ (∀ vs t, BoxIs (f (.cells vs t)) w.heap.size vs) :=
  ⟨fun o => w.alloc o, fun _ => rfl, fun o => (Below.refl _ _).alloc (Nat.le_refl _) o, fun _ _ => BoxIs.new rfl⟩
end Go.Proofs.YtankkadnhdfpfaaGreatDoor
