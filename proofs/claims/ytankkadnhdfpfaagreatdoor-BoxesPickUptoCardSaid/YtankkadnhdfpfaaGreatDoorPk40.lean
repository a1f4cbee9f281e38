import Derived.Test.YtankkadnhdfpfaaGreatDoorPk39
import Derived.Test.YtankkadnhdfpfaaGreatDoorPk37
import Derived.Test.YtankkadnhdfpfaaGreatDoorPk35
import Derived.Test.YtankkadnhdfpfaaGreatDoorPk13
import Derived.Test.YtankkadnhdfpfaaGreatDoorPk32
/- soffit/boxes.both: walked. -/
set_option linter.unusedSimpArgs false
set_option linter.unusedVariables false
namespace Go.Proofs.YtankkadnhdfpfaaGreatDoor
open Go.RowKit Sp Wd

def zArg : StArg := ⟨⟨0, [], false, [], 0, false⟩, none, 0, none, 0⟩
theorem zArg_st (w : World) : StAt w zArg.s zArg.A zArg.B := ⟨RdL.nil_ _ _ _, RdL.nil_ _ _ _⟩
theorem made6 (n q : Nat) (h : q < n * 6) : (madeCells #[.int .i64 0, .slice none 0 0, .bool false, .slice none 0 0, .int .i64 0, .bool false] (n * 6))[q]? = zArg.cells[q % 6]? := by
  unfold madeCells
  rw [Array.getElem?_map, Array.getElem?_range, if_pos h]
  have h6 : q % 6 < 6 := Nat.mod_lt _ (by omega)
  show some _ = _
  have six : q % 6 = 0 ∨ q % 6 = 1 ∨ q % 6 = 2 ∨ q % 6 = 3 ∨ q % 6 = 4 ∨ q % 6 = 5 := by omega
  show some ((#[.int .i64 0, .slice none 0 0, .bool false, .slice none 0 0, .int .i64 0, .bool false] : Array Value)[q % 6]!) = _
  rcases six with e | e | e | e | e | e <;> rw [e] <;> rfl
theorem rd_made (w : World) (n : Nat) (G : Nat) (hG : BoxIs w G (madeCells #[.int .i64 0, .slice none 0 0, .bool false, .slice none 0 0, .int .i64 0, .bool false] (n * 6))) : RdL w 6 (some ⟨G, 0, none⟩) ((List.replicate n zArg).map StArg.cells) := by
  intro j c hc
  rw [List.getElem?_map, Option.map_eq_some_iff] at hc
  obtain ⟨y, hy, rfl⟩ := hc
  have hj : j < n := by have := (List.getElem?_eq_some_iff.1 hy).1; simpa using this
  obtain rfl : y = zArg := by rw [List.getElem?_replicate, if_pos hj] at hy; exact (Option.some.inj hy).symm
  refine ⟨G, 0, rfl, fun i u hu => ?_⟩
  have hi : i < 6 := by have := (List.getElem?_eq_some_iff.1 hu).1; simpa [StArg.cells] using this
  rw [hG.c, show 0 + j * 6 + i = j * 6 + i by omega, made6 n _ (by omega), show (j * 6 + i) % 6 = i by omega]
  exact hu
structure MeetIs (N M : Nat) (x y z : StArg) : Prop where
  is : Is (x.s.sg.meet y.s.sg) z.s
  al : z.s.al = ((x.s.k == 2 && x.s.al) && (y.s.k == 2 && y.s.al))
  ok : StOk (N + M) z.s

set_option maxRecDepth 100000 in
set_option maxHeartbeats 6400000 in
theorem both_any (xs ys : List StArg) (N M : Nat) (A B : Option Addr) (ca cb : Nat) (w : World) (hA : BoxAt w A xs) (hB : BoxAt w B ys) (hlen : xs.length = ys.length) (h20 : xs.length ≤ 1048576) (hkk : ∀ j (h1 : j < xs.length) (h2 : j < ys.length), (xs[j]'h1).s.k = (ys[j]'h2).s.k ∧ (1 ≤ (xs[j]'h1).s.k ∧ (xs[j]'h1).s.k ≤ 4))
    (hO1 : ∀ x ∈ xs, StOk N x.s) (hO2 : ∀ y ∈ ys, StOk M y.s) (hN : N ≤ 4000000000000) (hM : M ≤ 4000000000000) (hNM : N * M ≤ 8000000000000) (hE : Env w) :
    Calls Tryz.prog 74 #[.slice A xs.length ca, .slice B ys.length cb] w fun e w' => ∃ (L : List StArg) (G : Nat), e = .returned (.slice (some ⟨G, 0, none⟩) L.length L.length) ∧ w.heap.size ≤ G ∧ L.length = xs.length ∧ RdL w' 6 (some ⟨G, 0, none⟩) (L.map StArg.cells) ∧ (∀ x ∈ L, StAt w' x.s x.A x.B ∧ (∀ p, x.A = some p → x.s.sp = [] ∨ G < p.block) ∧ (∀ p, x.B = some p → x.s.ws = [] ∨ G < p.block)) ∧
      (∀ j (h1 : j < xs.length) (h2 : j < ys.length) (h3 : j < L.length), MeetIs N M (xs[j]'h1) (ys[j]'h2) (L[j]'h3)) ∧ Below w.heap.size w w' := by
  obtain ⟨i0, hinf, hz0, hsz0, hby0⟩ := info_parts (show (Tryz.prog.info? 36).map (fun i => (i.zero, i.size, i.bytes)) = some (some (.agg #[.int .i64 0, .slice none 0 0, .bool false, .slice none 0 0, .int .i64 0, .bool false]), 6, 80) by kernel_rfl)
  have HA := Lib.hid hA
  have HB := Lib.hid hB
  have HE := Lib.hid hE
  have HO1 := Lib.hid hO1
  have HO2 := Lib.hid hO2
  have HK := Lib.hid hkk
  obtain ⟨n, hn⟩ : ∃ n, xs.length = n := ⟨_, rfl⟩
  have hm : ys.length = n := hlen.symm.trans hn
  have HN := Lib.hid hn
  have HM := Lib.hid hm
  rw [hn] at h20
  have hms : (Instr.makeSlice 48 (.int .i64 (n : Int)) (.int .i64 (n : Int))).run Tryz.prog w = .ok (.slice (some ⟨w.heap.size, 0, none⟩) n n) (w.alloc (.cells (madeCells #[.int .i64 0, .slice none 0 0, .bool false, .slice none 0 0, .int .i64 0, .bool false] (n * 6)) 36)) := by
    have h := run_make (P := Tryz.prog) w 48 36 i0 (.agg #[.int .i64 0, .slice none 0 0, .bool false, .slice none 0 0, .int .i64 0, .bool false]) Tryz.underlying48 hinf hz0 .i64 .i64 n n (by omega) (Int.le_refl _) (by rw [hby0]; omega) (by omega)
    simpa [hsz0, Value.cells] using h
  rw [show (#[Value.slice A xs.length ca, Value.slice B ys.length cb] : Array Value) = #[.slice A n ca, .slice B n cb] by rw [hn, hm]]
  clear hA hB hE hO1 hO2 hkk hn hm hlen
  go_enter Tryz.func74, Tryz.ntmps74
  go_wp2_with fail
  generalize hW1 : World.alloc w _ = W1
  have hb0 : Below w.heap.size w W1 := (by rw [← hW1]; exact Below.alloc (Below.refl _ _) (Nat.le_refl _) _)
  have hGb : BoxIs W1 w.heap.size (madeCells #[.int .i64 0, .slice none 0 0, .bool false, .slice none 0 0, .int .i64 0, .bool false] (n * 6)) := (by rw [← hW1]; exact BoxIs.new (t := 36) rfl)
  obtain ⟨G, hG⟩ : ∃ G, w.heap.size = G := ⟨_, rfl⟩
  have hGw : w.heap.size ≤ G := by omega
  have HGw := Lib.hid hGw
  have hfr0 : ∀ (p : Addr), False → G < p.block := fun p h => h.elim
  have hrow : ∃ cur, (madeCells #[.int .i64 0, .slice none 0 0, .bool false, .slice none 0 0, .int .i64 0, .bool false] (n * 6)) = cur ∧ 6 * n ≤ cur.size := ⟨_, rfl, by rw [size_madeCells]; omega⟩
  obtain ⟨cur, hcur, hcs⟩ := hrow
  have hrd0 := rd_made W1 n w.heap.size hGb
  rw [hcur] at hGb
  rw [hG] at hGb hrd0
  rw [show (Value.slice (some ⟨w.heap.size, 0, none⟩) n n) = Value.slice (some ⟨G, 0, none⟩) n n by rw [hG]]
  clear hW1 hms hcur hG hfr0
  go_loopg [6, 12] n (fun k jv iv wr => ∃ (L : List StArg) (cur : Array Value) (i : Nat), i ≤ n ∧ n - i ≤ k ∧ iv = .int .i64 i ∧ Hid (L.length = n) ∧ Hid (BoxIs wr G cur) ∧ Hid (6 * L.length ≤ cur.size) ∧ Hid (RdL wr 6 (some ⟨G, 0, none⟩) (L.map StArg.cells)) ∧ Hid (∀ x ∈ L, StAt wr x.s x.A x.B ∧ (∀ p, x.A = some p → x.s.sp = [] ∨ G < p.block) ∧ (∀ p, x.B = some p → x.s.ws = [] ∨ G < p.block)) ∧ Hid (∀ j, j < i → ∀ (h1 : j < xs.length) (h2 : j < ys.length) (h3 : j < L.length), MeetIs N M (xs[j]'h1) (ys[j]'h2) (L[j]'h3)) ∧ Below w.heap.size w wr)
  case atStart => exact ⟨List.replicate n zArg, cur, 0, by omega, by omega, rfl, Lib.hid (by simp), Lib.hid hGb, Lib.hid (by simpa using hcs), Lib.hid hrd0, Lib.hid (fun x hx => by rw [List.eq_of_mem_replicate hx]; exact ⟨zArg_st _, fun p hp => (by cases hp), fun p hp => (by cases hp)⟩), Lib.hid (fun j hj => absurd hj (by omega)), hb0⟩
  case round =>
    clear hb0 hGb hrd0 hcs
    obtain ⟨L, cur, i, hi, hik, rfl, HLL, HG, HSZ, HRD, HST, HGOOD, hbel⟩ := hrel
    by_cases hlt : i < n
    · have i1 : (i : Int) < (n : Int) := by omega
      have i3 : (0 : Int) ≤ (i : Int) := by omega
      have h1 : i < xs.length := by rw [HN.out]; omega
      have h2 : i < ys.length := by rw [HM.out]; omega
      have HIL : Hid (i < L.length) := Lib.hid (by rw [HLL.out]; omega)
      obtain ⟨b1, o1, hA1, hx1⟩ := HA.out.rd.at_ h1
      obtain ⟨b2, o2, hA2, hx2⟩ := HB.out.rd.at_ h2
      obtain ⟨b3, o3, hA3, hx3⟩ := HRD.out.at_ HIL.out
      cases hA3
      have s1 := HA.out.st _ (List.getElem_mem h1)
      have s2 := HB.out.st _ (List.getElem_mem h2)
      have k1 := HO1.out _ (List.getElem_mem h1)
      have k2 := HO2.out _ (List.getElem_mem h2)
      have kk := HK.out i h1 h2
      obtain ⟨x, hxe⟩ : ∃ x, xs[i]'h1 = x := ⟨_, rfl⟩
      obtain ⟨y, hye⟩ : ∃ y, ys[i]'h2 = y := ⟨_, rfl⟩
      have HEQ : Hid (∃ (g1 : i < xs.length) (g2 : i < ys.length), xs[i]'g1 = x ∧ ys[i]'g2 = y) := Lib.hid ⟨h1, h2, hxe, hye⟩
      rw [hxe] at hx1 s1 k1 kk
      rw [hye] at hx2 s2 k2 kk
      subst hA1
      subst hA2
      have x0 : wr.cell? ⟨b1, o1 + i * 6, none⟩ = some (.int .i64 x.s.k) := cell_below hbel (hx1.get 0 (v := .int .i64 x.s.k) rfl)
      have x1 : wr.cell? ⟨b1, o1 + i * 6 + 1, none⟩ = some (.slice x.A x.s.sp.length x.ca) := cell_below hbel (hx1.get 1 (v := .slice x.A x.s.sp.length x.ca) rfl)
      have x2 : wr.cell? ⟨b1, o1 + i * 6 + 2, none⟩ = some (.bool x.s.al) := cell_below hbel (hx1.get 2 (v := .bool x.s.al) rfl)
      have x3 : wr.cell? ⟨b1, o1 + i * 6 + 3, none⟩ = some (.slice x.B x.s.ws.length x.cb) := cell_below hbel (hx1.get 3 (v := .slice x.B x.s.ws.length x.cb) rfl)
      have x4 : wr.cell? ⟨b1, o1 + i * 6 + 4, none⟩ = some (.int .i64 x.s.b) := cell_below hbel (hx1.get 4 (v := .int .i64 x.s.b) rfl)
      have x5 : wr.cell? ⟨b1, o1 + i * 6 + 5, none⟩ = some (.bool x.s.nul) := cell_below hbel (hx1.get 5 (v := .bool x.s.nul) rfl)
      have y0 : wr.cell? ⟨b2, o2 + i * 6, none⟩ = some (.int .i64 y.s.k) := cell_below hbel (hx2.get 0 (v := .int .i64 y.s.k) rfl)
      have y1 : wr.cell? ⟨b2, o2 + i * 6 + 1, none⟩ = some (.slice y.A y.s.sp.length y.ca) := cell_below hbel (hx2.get 1 (v := .slice y.A y.s.sp.length y.ca) rfl)
      have y2 : wr.cell? ⟨b2, o2 + i * 6 + 2, none⟩ = some (.bool y.s.al) := cell_below hbel (hx2.get 2 (v := .bool y.s.al) rfl)
      have y3 : wr.cell? ⟨b2, o2 + i * 6 + 3, none⟩ = some (.slice y.B y.s.ws.length y.cb) := cell_below hbel (hx2.get 3 (v := .slice y.B y.s.ws.length y.cb) rfl)
      have y4 : wr.cell? ⟨b2, o2 + i * 6 + 4, none⟩ = some (.int .i64 y.s.b) := cell_below hbel (hx2.get 4 (v := .int .i64 y.s.b) rfl)
      have y5 : wr.cell? ⟨b2, o2 + i * 6 + 5, none⟩ = some (.bool y.s.nul) := cell_below hbel (hx2.get 5 (v := .bool y.s.nul) rfl)
      obtain ⟨v0, z0⟩ : ∃ v, wr.cell? ⟨G, i * 6, none⟩ = some v := ⟨_, by have h := hx3.get 0 rfl; rw [Nat.zero_add] at h; exact h⟩
      obtain ⟨v1, z1⟩ : ∃ v, wr.cell? ⟨G, i * 6 + 1, none⟩ = some v := ⟨_, by have h := hx3.get 1 rfl; rw [Nat.zero_add] at h; exact h⟩
      obtain ⟨v2, z2⟩ : ∃ v, wr.cell? ⟨G, i * 6 + 2, none⟩ = some v := ⟨_, by have h := hx3.get 2 rfl; rw [Nat.zero_add] at h; exact h⟩
      obtain ⟨v3, z3⟩ : ∃ v, wr.cell? ⟨G, i * 6 + 3, none⟩ = some v := ⟨_, by have h := hx3.get 3 rfl; rw [Nat.zero_add] at h; exact h⟩
      obtain ⟨v4, z4⟩ : ∃ v, wr.cell? ⟨G, i * 6 + 4, none⟩ = some v := ⟨_, by have h := hx3.get 4 rfl; rw [Nat.zero_add] at h; exact h⟩
      obtain ⟨v5, z5⟩ : ∃ v, wr.cell? ⟨G, i * 6 + 5, none⟩ = some v := ⟨_, by have h := hx3.get 5 rfl; rw [Nat.zero_add] at h; exact h⟩
      have lb1 := cell_lt (hx1.get 0 (v := .int .i64 x.s.k) rfl)
      have lb2 := cell_lt (hx2.get 0 (v := .int .i64 y.s.k) rfl)
      have HX := Lib.hid s1
      have HY := Lib.hid s2
      have HXO := Lib.hid k1
      have HYO := Lib.hid k2
      have HKK1 := Lib.hid kk
      have hsz := hbel.size
      clear hx1 hx2 hx3 s1 s2 k1 k2 kk hxe hye h1 h2
      have HKK : ∀ w', Below w.heap.size wr w' → Below w.heap.size w w' ∧ (∀ o, w'.cell? ⟨b1, o, none⟩ = wr.cell? ⟨b1, o, none⟩) ∧ (∀ o, w'.cell? ⟨b2, o, none⟩ = wr.cell? ⟨b2, o, none⟩) := fun w' hb => ⟨hbel.trans hb, fun o => hb.cell (p := ⟨b1, o, none⟩) lb1, fun o => hb.cell (p := ⟨b2, o, none⟩) lb2⟩
      go_wp2_with fail
      refine wp_region_held_drew (S := (fun w' => Below w.heap.size w w' ∧ (∀ o, w'.cell? ⟨b1, o, none⟩ = wr.cell? ⟨b1, o, none⟩) ∧ (∀ o, w'.cell? ⟨b2, o, none⟩ = wr.cell? ⟨b2, o, none⟩))) (by kernel_rfl) (HKK _ (Below.drew (Below.refl _ _))) (fun hHeld => ?_)
      refine tkH 0 ?_
      try simp only [shH]
      refine tkH 1 ?_
      try simp only [shH]
      refine tkH 2 ?_
      try simp only [shH]
      refine tkH 3 ?_
      try simp only [shH]
      refine tkH 4 ?_
      try simp only [shH]
      refine tkH 5 ?_
      try simp only [shH]
      refine tkH 6 ?_
      try simp only [shH]
      refine tkH 7 ?_
      try simp only [shH]
      refine tkH 8 ?_
      try simp only [shH]
      refine tkH 9 ?_
      try simp only [shH]
      refine rdH [10] ?_
      refine AllReadyH.cons rfl (fun K hK => ?_) AllReadyH.nil
      go_simp
      go_at_call 16
      refine (meetF_any x.s y.s N M x.A x.B y.A y.B x.ca x.cb y.ca y.cb _ HKK1.out.1 HKK1.out.2 (HX.out.below (hbel.trans (Below.mono bel hbel.size))) (HY.out.below (hbel.trans (Below.mono bel hbel.size))) HXO.out HYO.out hN hM hNM (HE.out.below (hbel.trans (Below.mono bel hbel.size)))).mono ?_
      rintro e w1 ⟨r, X, Y, cx, cy, rfl, hR, ir0, okr, alr0, fr, hb1⟩
      have IR := Lib.hid ir0
      have ALR := Lib.hid alr0
      clear ir0 alr0
      have hB1 : Below wr.heap.size wr w1 := (by first | exact hb1 | exact undrew hb1)
      have gf := (HG.out.below hB1).f
      have gl := (HG.out.below hB1).lt
      have g0 := cell_below hB1 z0
      have g1 := cell_below hB1 z1
      have g2 := cell_below hB1 z2
      have g3 := cell_below hB1 z3
      have g4 := cell_below hB1 z4
      have g5 := cell_below hB1 z5
      refine hK.out _ _ ?_ (fun hH2 => ?_)
      · exact HKK _ (Below.mono hB1 hsz)
      clear hK K hHeld
      have hHeld := hH2
      clear hH2
      try simp only [shH]
      refine tkH 11 ?_
      try simp only [shH]
      refine tkH 12 ?_
      try simp only [shH]
      refine tkH 13 ?_
      try simp only [shH]
      refine tkH 14 ?_
      try simp only [shH]
      refine rdH [15] ?_
      refine AllReadyH.cons rfl (fun K hK => ?_) AllReadyH.nil
      go_simp
      refine hK.out _ _ ?_ (fun hH2 => ?_)
      · exact HKK _ (by have h1 := Below.mono hB1 hsz; have h2 := HGw.out; exact bel)
      clear hK K hHeld
      have hHeld := hH2
      clear hH2
      try simp only [shH]
      refine dnH ?_ _
      clear hHeld
      (try simp only [Exit.then, Exit.inBlock])
      generalize hWz : (((((w1.setCell _ _).setCell _ _).setCell _ _).setCell _ _).setCell _ _).setCell _ _ = Wz
      have hgc1 := HG.out.below hB1
      have hrd1 := HRD.out.below hB1
      have hnew := rd_six HIL.out ⟨r, X, cx, Y, cy⟩ hgc1 HSZ.out hrd1 hWz.symm
      have hfar : ∀ j, j ≠ G → Wz.heap[j]? = w1.heap[j]? := fun j hj => by rw [← hWz]; exact six_far j hj
      have hG2 : ∃ cur', BoxIs Wz G cur' ∧ cur'.size = cur.size := ⟨_, by rw [← hWz]; exact (((((hgc1.set _ _).set _ _).set _ _).set _ _).set _ _).set _ _, by simp⟩
      have hbz : Below w.heap.size w Wz := by
        have h1 := hbel.trans (hB1.mono hbel.size)
        have h2 := HGw.out
        rw [← hWz]; exact bel
      have hst : ∀ x ∈ L.set i ⟨r, X, cx, Y, cy⟩, StAt Wz x.s x.A x.B ∧ (∀ p, x.A = some p → x.s.sp = [] ∨ G < p.block) ∧ (∀ p, x.B = some p → x.s.ws = [] ∨ G < p.block) := fun x hx => by
        rcases List.mem_or_eq_of_mem_set hx with h1 | h1
        · obtain ⟨h2, h3, h4⟩ := HST.out x h1
          exact ⟨(h2.below hB1).away hfar (fun p hp => (h3 p hp).imp id (fun h e => by injection e with e; omega)) (fun p hp => (h4 p hp).imp id (fun h e => by injection e with e; omega)), h3, h4⟩
        · subst h1
          have hGl := HG.out.lt
          have f1 : ∀ p, X = some p → r.sp = [] ∨ G < p.block := fun p hp => (fr.1 p hp).imp id (fun h => by have h' : wr.heap.size ≤ p.block := h; omega)
          have f2 : ∀ p, Y = some p → r.ws = [] ∨ G < p.block := fun p hp => (fr.2 p hp).imp id (fun h => by have h' : wr.heap.size ≤ p.block := h; omega)
          exact ⟨hR.away hfar (fun p hp => (f1 p hp).imp id (fun h e => by injection e with e; omega)) (fun p hp => (f2 p hp).imp id (fun h e => by injection e with e; omega)), f1, f2⟩
      obtain ⟨cur', hgc2, hcs2⟩ := hG2
      have HG2 := Lib.hid hgc2
      have HRD2 := Lib.hid hnew
      have HST2 := Lib.hid hst
      have HSZ2 : Hid (6 * (L.set i ⟨r, X, cx, Y, cy⟩).length ≤ cur'.size) := Lib.hid (by rw [List.length_set, hcs2]; exact HSZ.out)
      have HLL2 : Hid ((L.set i ⟨r, X, cx, Y, cy⟩).length = n) := Lib.hid (by rw [List.length_set]; exact HLL.out)
      have HGOOD2 : Hid (∀ j, j < i + 1 → ∀ (h1 : j < xs.length) (h2 : j < ys.length) (h3 : j < (L.set i ⟨r, X, cx, Y, cy⟩).length), MeetIs N M (xs[j]'h1) (ys[j]'h2) ((L.set i ⟨r, X, cx, Y, cy⟩)[j]'h3)) := Lib.hid (fun j hj h1 h2 h3 => by
        by_cases hji : j = i
        · subst hji
          rw [List.getElem_set_self]
          obtain ⟨q1, q2, q3, q4⟩ := HEQ.out
          have ir := IR.out
          have alr := ALR.out
          rw [← q3, ← q4] at ir alr
          exact ⟨ir, alr, okr⟩
        · rw [List.getElem_set_ne (fun e => hji e.symm)]
          exact HGOOD.out j (by omega) h1 h2 (by rw [List.length_set] at h3; exact h3))
      clear hWz hgc1 hrd1 hnew hfar hst hcs2 hgc2 hB1 hR IR ALR okr fr hb1 gf gl g0 g1 g2 g3 g4 g5 z0 z1 z2 z3 z4 z5 x0 x1 x2 x3 x4 x5 y0 y1 y2 y3 y4 y5 hbel
      go_wp2_with fail
      go_roundg (n - (i + 1))
      case measure => omega
      case rel => exact ⟨_, cur', i + 1, by omega, Nat.le_refl _, by go_num, HLL2, HG2, HSZ2, HRD2, HST2, HGOOD2, hbz⟩
    · have i1 : ¬ (i : Int) < (n : Int) := by omega
      have HFIN : Hid (L.length = xs.length ∧ RdL wr 6 (some ⟨G, 0, none⟩) (L.map StArg.cells) ∧ (∀ x ∈ L, StAt wr x.s x.A x.B ∧ (∀ p, x.A = some p → x.s.sp = [] ∨ G < p.block) ∧ (∀ p, x.B = some p → x.s.ws = [] ∨ G < p.block)) ∧ (∀ j (h1 : j < xs.length) (h2 : j < ys.length) (h3 : j < L.length), MeetIs N M (xs[j]'h1) (ys[j]'h2) (L[j]'h3)) ∧ Below w.heap.size w wr) := Lib.hid ⟨by rw [HLL.out, HN.out], HRD.out, HST.out, fun j h1 h2 h3 => HGOOD.out j (by rw [HN.out] at h1; omega) h1 h2 h3, hbel⟩
      clear hbel
      go_wp2_with fail
      refine bodyPost_ret (v := .slice (some ⟨G, 0, none⟩) n n) (by simp [results, Tryz.results74, go_sem, *]) rfl ⟨L, G, by rw [HLL.out], HGw.out, HFIN.out⟩
end Go.Proofs.YtankkadnhdfpfaaGreatDoor

/- Lists of boxes, each box told by the meanings of its sets; a bag of them: plain. -/
set_option linter.unusedSimpArgs false
set_option linter.unusedVariables false
namespace Go.Proofs.YtankkadnhdfpfaaGreatDoor
open Go.RowKit Sp Wd

def keyOf (l : List StArg) : List St := l.map (·.s)
def keysOf (l : List BxArg) : List (List St) := l.map fun x => keyOf x.l
theorem sameBx_key : ∀ (l m : List StArg), sameBx l m = true ↔ keyOf l = keyOf m
  | [], [] => by simp [sameBx, keyOf]
  | [], _ :: _ => by simp [sameBx, keyOf]
  | _ :: _, [] => by simp [sameBx, keyOf]
  | x :: r, y :: q => by
    show (sameB x.s y.s && sameBx r q) = true ↔ _
    rw [Bool.and_eq_true, sameB_iff, sameBx_key r q]
    unfold keyOf
    simp
noncomputable def emptyK (k : List St) : Bool := k.any emptyB
theorem emptyK_key (l : List StArg) : emptyK (keyOf l) = l.any fun x => emptyB x.s := by
  unfold emptyK keyOf; rw [List.any_map]; rfl
noncomputable def bagAdd (K : List (List St)) (k : List St) : List (List St) := @ite _ (emptyK k = true ∨ k ∈ K) (Classical.propDecidable _) K (K ++ [k])
theorem bagAdd_keep {K : List (List St)} {k : List St} (h : emptyK k = true ∨ k ∈ K) : bagAdd K k = K := if_pos h
theorem bagAdd_more {K : List (List St)} {k : List St} (h : ¬ (emptyK k = true ∨ k ∈ K)) : bagAdd K k = K ++ [k] := if_neg h
noncomputable def bagOf (K : List (List St)) (ks : List (List St)) : List (List St) := ks.foldl bagAdd K
theorem bagOf_nil (K : List (List St)) : bagOf K [] = K := rfl
theorem bagOf_cons (K : List (List St)) (k : List St) (ks : List (List St)) : bagOf K (k :: ks) = bagOf (bagAdd K k) ks := rfl
theorem bagOf_append (K a b : List (List St)) : bagOf K (a ++ b) = bagOf (bagOf K a) b := List.foldl_append
theorem bagAdd_len (K : List (List St)) (k : List St) : K.length ≤ (bagAdd K k).length ∧ (bagAdd K k).length ≤ K.length + 1 := by
  by_cases h : emptyK k = true ∨ k ∈ K
  · rw [bagAdd_keep h]; omega
  · rw [bagAdd_more h]; simp
theorem bagOf_len : ∀ (ks K : List (List St)), K.length ≤ (bagOf K ks).length ∧ (bagOf K ks).length ≤ K.length + ks.length
  | [], K => by rw [bagOf_nil]; simp
  | k :: ks, K => by
    have h1 := bagAdd_len K k
    have h2 := bagOf_len ks (bagAdd K k)
    rw [bagOf_cons, List.length_cons]; omega
theorem bagAdd_mem (K : List (List St)) (k x : List St) : x ∈ bagAdd K k ↔ x ∈ K ∨ (x = k ∧ emptyK k = false) := by
  by_cases h : emptyK k = true ∨ k ∈ K
  · rw [bagAdd_keep h]
    constructor
    · exact .inl
    · rintro (h1 | ⟨rfl, h1⟩)
      · exact h1
      · rcases h with h | h
        · rw [h] at h1; cases h1
        · exact h
  · rw [bagAdd_more h, List.mem_append, List.mem_singleton]
    constructor
    · rintro (h1 | rfl)
      · exact .inl h1
      · exact .inr ⟨rfl, by cases e : emptyK x; rfl; exact absurd (.inl e) h⟩
    · rintro (h1 | ⟨rfl, -⟩)
      · exact .inl h1
      · exact .inr rfl
theorem bagOf_mem : ∀ (ks K : List (List St)) (x : List St), x ∈ bagOf K ks ↔ x ∈ K ∨ (x ∈ ks ∧ emptyK x = false)
  | [], K, x => by rw [bagOf_nil]; simp
  | k :: ks, K, x => by
    rw [bagOf_cons, bagOf_mem ks, bagAdd_mem, List.mem_cons]
    constructor
    · rintro ((h | ⟨rfl, h⟩) | ⟨h, h2⟩)
      · exact .inl h
      · exact .inr ⟨.inl rfl, h⟩
      · exact .inr ⟨.inr h, h2⟩
    · rintro (h | ⟨rfl | h, h2⟩)
      · exact .inl (.inl h)
      · exact .inl (.inr ⟨rfl, h2⟩)
      · exact .inr ⟨h, h2⟩
theorem bagAdd_nodup {K : List (List St)} (h : K.Nodup) (k : List St) : (bagAdd K k).Nodup := by
  by_cases h1 : emptyK k = true ∨ k ∈ K
  · rw [bagAdd_keep h1]; exact h
  · rw [bagAdd_more h1]
    refine List.nodup_append.2 ⟨h, by simp, fun a ha b hb e => ?_⟩
    rw [List.mem_singleton.1 hb] at e
    exact h1 (.inr (e ▸ ha))
theorem bagOf_nodup : ∀ (ks K : List (List St)), K.Nodup → (bagOf K ks).Nodup
  | [], _, h => h
  | _ :: ks, _, h => bagOf_nodup ks _ (bagAdd_nodup h _)
theorem nodup_len {α : Type} : ∀ (a b : List α), a.Nodup → (∀ x ∈ a, x ∈ b) → a.length ≤ b.length
  | [], _, _, _ => Nat.zero_le _
  | x :: r, b, h, hs => by
    obtain ⟨h1, h2⟩ := List.nodup_cons.1 h
    obtain ⟨s, t, rfl⟩ := List.append_of_mem (hs x (by simp))
    have := nodup_len r (s ++ t) h2 (fun y hy => by
      have := hs y (List.mem_cons_of_mem _ hy)
      rcases List.mem_append.1 this with h3 | h3
      · exact List.mem_append_left _ h3
      · rcases List.mem_cons.1 h3 with rfl | h3
        · exact absurd hy h1
        · exact List.mem_append_right _ h3)
    simp only [List.length_append, List.length_cons] at *
    omega
theorem bagOf_same {a b : List (List St)} (h : ∀ x, x ∈ a ↔ x ∈ b) : (bagOf [] a).length = (bagOf [] b).length ∧ ∀ x, x ∈ bagOf [] a ↔ x ∈ bagOf [] b := by
  have hm : ∀ x, x ∈ bagOf [] a ↔ x ∈ bagOf [] b := fun x => by rw [bagOf_mem, bagOf_mem, h]
  exact ⟨Nat.le_antisymm (nodup_len _ _ (bagOf_nodup a [] List.nodup_nil) (fun x hx => (hm x).1 hx)) (nodup_len _ _ (bagOf_nodup b [] List.nodup_nil) (fun x hx => (hm x).2 hx)), hm⟩

noncomputable def meetS (a b : St) : St := @Classical.epsilon St ⟨a⟩ (fun r => Is (a.sg.meet b.sg) r ∧ r.al = ((a.k == 2 && a.al) && (b.k == 2 && b.al)))
theorem meetS_eq {N M : Nat} {x y z : StArg} (h : MeetIs N M x y z) : z.s = meetS x.s y.s := by
  have h0 := @Classical.epsilon_spec_aux St ⟨x.s⟩ (fun r => Is (x.s.sg.meet y.s.sg) r ∧ r.al = ((x.s.k == 2 && x.s.al) && (y.s.k == 2 && y.s.al))) ⟨z.s, h.is, h.al⟩
  exact is_uniq h.is h0.1 (h.al.trans h0.2.symm)
noncomputable def meetK (a b : List St) : List St := List.zipWith meetS a b
theorem meetK_eq {N M : Nat} : ∀ {xs ys L : List StArg}, xs.length = ys.length → L.length = xs.length → (∀ j (h1 : j < xs.length) (h2 : j < ys.length) (h3 : j < L.length), MeetIs N M (xs[j]'h1) (ys[j]'h2) (L[j]'h3)) → keyOf L = meetK (keyOf xs) (keyOf ys)
  | [], [], [], _, _, _ => rfl
  | x :: xs, y :: ys, z :: L, h1, h2, h => by
    have h3 := meetK_eq (xs := xs) (ys := ys) (L := L) (by simpa using h1) (by simpa using h2) (fun j a b c => h (j + 1) (by simpa using a) (by simpa using b) (by simpa using c))
    show z.s :: keyOf L = meetS x.s y.s :: meetK (keyOf xs) (keyOf ys)
    have h4 : MeetIs N M x y z := h 0 (by simp) (by simp) (by simp)
    rw [h3, meetS_eq h4]
  | [], _ :: _, _, h, _, _ => by simp at h
  | _ :: _, [], _, h, _, _ => by simp at h
  | [], [], _ :: _, _, h, _ => by simp at h
  | _ :: _, _ :: _, [], _, h, _ => by simp at h

def hasK : List TyArg → List St → List Vl → Bool
  | t :: ts, s :: ss, v :: vs => hasSt t.t s v && hasK ts ss vs
  | [], [], [] => true
  | _, _, _ => false
theorem hasAll_key : ∀ (ts : List TyArg) (l : List StArg) (vs : List Vl), hasAll ts l vs = hasK ts (keyOf l) vs
  | t :: ts, s :: ss, v :: vs => by
    show (hasSt t.t s.s v && hasAll ts ss vs) = (hasSt t.t s.s v && hasK ts (keyOf ss) vs)
    rw [hasAll_key ts ss vs]
  | [], [], [] => rfl
  | [], [], _ :: _ => rfl
  | [], _ :: _, _ => rfl
  | _ :: _, [], _ => rfl
  | _ :: _, _ :: _, [] => rfl
theorem anyBox_key (ts : List TyArg) (bs : List BxArg) (vs : List Vl) : anyBox ts bs vs = (keysOf bs).any fun k => hasK ts k vs := by
  unfold anyBox keysOf
  rw [List.any_map]
  congr 1
  funext b
  exact hasAll_key ts b.l vs
theorem any_same {a b : List (List St)} (f : List St → Bool) (h : ∀ x, x ∈ a ↔ x ∈ b) : a.any f = b.any f := by
  rw [Bool.eq_iff_iff, List.any_eq_true, List.any_eq_true]
  exact ⟨fun ⟨x, h1, h2⟩ => ⟨x, (h x).1 h1, h2⟩, fun ⟨x, h1, h2⟩ => ⟨x, (h x).2 h1, h2⟩⟩
def kindK (k : List St) : Prop := ∀ s ∈ k, 1 ≤ s.k ∧ s.k ≤ 4
theorem emptyB_has {t : Ty} {s : St} {v : Vl} (hk : 1 ≤ s.k ∧ s.k ≤ 4) (h : emptyB s = true) : hasSt t s v = false := by
  unfold emptyB at h
  rw [@decide_eq_true_iff _ (Classical.propDecidable _)] at h
  obtain ⟨r, ir, -, he⟩ := h
  have hsg : 1 ≤ s.sg.k ∧ s.sg.k ≤ 4 := hk
  obtain ⟨h1, h2⟩ := empty_no2 ir hsg he
  unfold hasSt
  by_cases h0 : v.k = 0
  · have : hasV t.sc s.sg v = false := by unfold hasV; rw [if_pos h0]; exact h1
    rw [this]; simp
  · rw [none_has h2 _ h0]; simp
theorem emptyK_has : ∀ (ts : List TyArg) (k : List St) (vs : List Vl), kindK k → emptyK k = true → hasK ts k vs = false
  | t :: ts, s :: ss, v :: vs, hk, h => by
    have h' : (emptyB s || emptyK ss) = true := h
    show (hasSt t.t s v && hasK ts ss vs) = false
    rw [Bool.or_eq_true] at h'
    rcases h' with h1 | h1
    · rw [emptyB_has (hk s (by simp)) h1]; rfl
    · rw [emptyK_has ts ss vs (fun x hx => hk x (List.mem_cons_of_mem _ hx)) h1]; simp
  | [], [], [], _, h => by cases h
  | [], [], _ :: _, _, _ => rfl
  | [], _ :: _, _, _, _ => rfl
  | _ :: _, [], _, _, _ => rfl
  | _ :: _, _ :: _, [], _, _ => rfl
theorem bagOf_has {ts : List TyArg} {ks : List (List St)} {vs : List Vl} (hk : ∀ k ∈ ks, kindK k) : (bagOf [] ks).any (fun k => hasK ts k vs) = ks.any fun k => hasK ts k vs := by
  rw [Bool.eq_iff_iff, List.any_eq_true, List.any_eq_true]
  constructor
  · rintro ⟨x, h1, h2⟩
    rw [bagOf_mem] at h1
    rcases h1 with h1 | h1
    · cases h1
    · exact ⟨x, h1.1, h2⟩
  · rintro ⟨x, h1, h2⟩
    refine ⟨x, (bagOf_mem ks [] x).2 (.inr ⟨h1, ?_⟩), h2⟩
    cases e : emptyK x
    · rfl
    · rw [emptyK_has ts x vs (hk x h1) e] at h2; cases h2
theorem meetIs_has {N M : Nat} {t : Ty} {v : Vl} {x y z : StArg} (h : MeetIs N M x y z) (hk : x.s.k = y.s.k) (h4 : 1 ≤ x.s.k ∧ x.s.k ≤ 4) : hasSt t z.s v = (hasSt t x.s v && hasSt t y.s v) := by
  have hz : z.s.k = x.s.k := h.is.k
  have hsg : z.s.sg = x.s.sg.meet y.s.sg := h.is.sg_eq h4
  unfold hasSt
  rw [hsg, hasV_meet, hz, ← hk]
  cases inTy t v <;> cases (x.s.k == t.k) <;> simp
theorem meetAll_has {N M : Nat} : ∀ {xs ys L : List StArg} (ts : List TyArg) (vs : List Vl), xs.length = ys.length → L.length = xs.length → (∀ j (h1 : j < xs.length) (h2 : j < ys.length), (xs[j]'h1).s.k = (ys[j]'h2).s.k ∧ (1 ≤ (xs[j]'h1).s.k ∧ (xs[j]'h1).s.k ≤ 4)) → (∀ j (h1 : j < xs.length) (h2 : j < ys.length) (h3 : j < L.length), MeetIs N M (xs[j]'h1) (ys[j]'h2) (L[j]'h3)) →
    hasAll ts L vs = (hasAll ts xs vs && hasAll ts ys vs)
  | [], [], [], [], [], _, _, _, _ => rfl
  | [], [], [], _ :: _, _, _, _, _, _ => rfl
  | [], [], [], [], _ :: _, _, _, _, _ => rfl
  | x :: xs, y :: ys, z :: L, t :: ts, v :: vs, h1, h2, hk, h => by
    have h3 := meetAll_has (xs := xs) (ys := ys) (L := L) ts vs (by simpa using h1) (by simpa using h2) (fun j a b => hk (j + 1) (by simpa using a) (by simpa using b)) (fun j a b c => h (j + 1) (by simpa using a) (by simpa using b) (by simpa using c))
    have h4 : x.s.k = y.s.k ∧ 1 ≤ x.s.k ∧ x.s.k ≤ 4 := hk 0 (by simp) (by simp)
    have h5 : MeetIs N M x y z := h 0 (by simp) (by simp) (by simp)
    show (hasSt t.t z.s v && hasAll ts L vs) = ((hasSt t.t x.s v && hasAll ts xs vs) && (hasSt t.t y.s v && hasAll ts ys vs))
    rw [h3, meetIs_has h5 h4.1 h4.2]
    cases hasSt t.t x.s v <;> cases hasSt t.t y.s v <;> simp
  | _ :: _, _ :: _, _ :: _, [], _, _, _, _, _ => rfl
  | _ :: _, _ :: _, _ :: _, _ :: _, [], _, _, _, _ => rfl
  | [], _ :: _, _, _, _, h, _, _, _ => by simp at h
  | _ :: _, [], _, _, _, h, _, _, _ => by simp at h
  | [], [], _ :: _, _, _, _, h, _, _ => by simp at h
  | _ :: _, _ :: _, [], _, _, _, h, _, _ => by simp at h
end Go.Proofs.YtankkadnhdfpfaaGreatDoor

/- soffit/boxes.bag.put: walked. -/
set_option linter.unusedSimpArgs false
set_option linter.unusedVariables false
namespace Go.Proofs.YtankkadnhdfpfaaGreatDoor
open Go.RowKit Sp Wd

def BoxFar (b : Option Nat) (x : BxArg) : Prop := (∀ p, x.A = some p → x.l = [] ∨ b ≠ some p.block) ∧ ∀ s ∈ x.l, (∀ p, s.A = some p → s.s.sp = [] ∨ b ≠ some p.block) ∧ (∀ p, s.B = some p → s.s.ws = [] ∨ b ≠ some p.block)
theorem BoxAt.grown {w w' : World} {x : BxArg} {k : Option Nat} (h : BoxAt w x.A x.l) (hg : w.grownBy w' k) (hf : BoxFar k x) : BoxAt w' x.A x.l :=
  ⟨rd_grown h.rd (fun y => by simp [StArg.cells]) hg hf.1, fun s hs => (h.st s hs).grown hg (hf.2 s hs).1 (hf.2 s hs).2, h.n⟩
theorem BoxAt.away {w w' : World} {x : BxArg} {g : Nat} (h : BoxAt w x.A x.l) (hw : ∀ k, k ≠ g → w'.heap[k]? = w.heap[k]?) (hf : BoxFar (some g) x) : BoxAt w' x.A x.l :=
  ⟨rd_away h.rd hw hf.1, fun s hs => (h.st s hs).away hw (hf.2 s hs).1 (hf.2 s hs).2, h.n⟩
theorem box_lt {w : World} {x : BxArg} (h : BoxAt w x.A x.l) {b : Nat} (hb : w.heap.size ≤ b) : BoxFar (some b) x := by
  refine ⟨fun p hp => ?_, fun s hs => ?_⟩
  · by_cases h0 : x.l = []
    · exact .inl h0
    · obtain ⟨b', off, e, hx⟩ := h.rd.at_ (List.length_pos_iff.2 h0)
      have hb' : p.block = b' := by rw [hp] at e; cases e; rfl
      exact .inr (fun e => by have h1 := cell_lt (hx.get 0 rfl); injection e with e; omega)
  · obtain ⟨h1, h2⟩ := st_lt (h.st s hs)
    exact ⟨fun p hp => (h1 p hp).imp id (fun h e => by injection e with e; omega), fun p hp => (h2 p hp).imp id (fun h e => by injection e with e; omega)⟩
theorem BoxFar.none (x : BxArg) : BoxFar none x := ⟨fun p _ => .inr (by simp), fun s _ => ⟨fun p _ => .inr (by simp), fun p _ => .inr (by simp)⟩⟩
structure BagIs (w : World) (bg base : Nat) (v : Value) (L : List BxArg) (most : Int) : Prop where
  box : BoxIs w bg #[v, .int .i64 most]
  own : w.ownsRow base 48 1 v L.length (L.flatMap BxArg.cells)
  lo : bg < base
  bx : ∀ y ∈ L, BoxAt w y.A y.l
  far : ∀ y ∈ L, BoxFar (some bg) y ∧ BoxFar v.ownBlock y
theorem BagIs.below {w w' : World} {bg base : Nat} {v : Value} {L : List BxArg} {most : Int} (h : BagIs w bg base v L most) (hb : Below w.heap.size w w') : BagIs w' bg base v L most :=
  ⟨h.box.below hb, own_below h.own hb, h.lo, fun y hy => (h.bx y hy).below hb, h.far⟩
theorem BagIs.val {w : World} {bg base : Nat} {v : Value} {L : List BxArg} {most : Int} (h : BagIs w bg base v L most) : ∃ A c, v = .slice A L.length c ∧ RdL w 1 A (L.map BxArg.cells) :=
  Go.Proofs.YtankkadnhdfpfaaGreatDoor.own_rd (css := L.map BxArg.cells) h.own (by rw [List.flatMap_def]) (by intro c hc; obtain ⟨x, _, rfl⟩ := List.mem_map.1 hc; rfl) (by rw [List.length_map])
theorem own_ne {w : World} {base : Nat} {e : TypeId} {sz : Nat} {v : Value} {n : Nat} {xs : List Value} (h : w.ownsRow base e sz v n xs) {b : Nat} (hb : b < base) : v.ownBlock ≠ some b := fun e => by have := (h.lt b e).1; omega
theorem box_grown {w w' : World} {b : Nat} {vs : Array Value} {k : Option Nat} (K : BoxIs w b vs) (hg : w.grownBy w' k) (hk : k ≠ some b) : BoxIs w' b vs := by
  have hl := K.lt
  obtain ⟨t, h⟩ := K
  exact ⟨t, (hg.block b hl (fun e => hk e.symm)).trans h⟩
theorem BagIs.more {w w' : World} {bg base : Nat} {v v' : Value} {L : List BxArg} {most : Int} {x : BxArg} (h : BagIs w bg base v L most) (hx : BoxAt w x.A x.l) (hf : BoxFar (some bg) x ∧ BoxFar v.ownBlock x)
    (ho : w'.ownsRow base 48 1 v' (L.length + 1) (L.flatMap BxArg.cells ++ x.cells)) (hg : w.grownBy w' v.ownBlock) (hblk : ∀ g, v'.ownBlock = some g → v.ownBlock = some g ∨ w.heap.size ≤ g) :
    BagIs (w'.setCell ⟨bg, 0, none⟩ v') bg base v' (L ++ [x]) most := by
  have all : ∀ y ∈ L ++ [x], BoxAt w y.A y.l ∧ BoxFar (some bg) y ∧ BoxFar v.ownBlock y := fun y hy => by
    rcases List.mem_append.1 hy with h1 | h1
    · exact ⟨h.bx y h1, h.far y h1⟩
    · rw [List.mem_singleton.1 h1]; exact ⟨hx, hf⟩
  have hne : v.ownBlock ≠ some bg := own_ne h.own h.lo
  have hne' : v'.ownBlock ≠ some bg := own_ne ho h.lo
  refine ⟨?_, ?_, h.lo, fun y hy => ?_, fun y hy => ?_⟩
  · exact (box_grown h.box hg hne).set 0 v'
  · rw [List.length_append, List.flatMap_append]
    have h1 := own_setCell ho ⟨bg, 0, none⟩ v' hne'
    have h2 : [x].flatMap BxArg.cells = x.cells := by simp
    rw [h2]; exact h1
  · obtain ⟨h1, h2, h3⟩ := all y hy
    exact (h1.grown hg h3).away (fun k hk => heap_setCell_other _ _ _ _ (by exact hk)) h2
  · obtain ⟨h1, h2, h3⟩ := all y hy
    refine ⟨h2, ?_⟩
    cases e : v'.ownBlock with
    | none => exact BoxFar.none y
    | some g =>
      rcases hblk g e with h4 | h4
      · rw [← h4]; exact h3
      · exact box_lt h1 h4
theorem lit_one (w : World) (v : Value) (t : TypeId) (j : Nat) (u : Value) (h : [v][j]? = some u) : (w.alloc (.cells [v].toArray t)).cell? ((⟨w.heap.size, 0, none⟩ : Addr).add j) = some u := lit_cells6 w [v] t j u h
set_option maxRecDepth 100000 in
set_option maxHeartbeats 6400000 in
theorem put1_any (y x : BxArg) (q : Nat) (w : World) (hy : BoxAt w y.A y.l) (hx : BoxAt w x.A x.l) (hq : w.cell? ⟨q, 0, none⟩ = some (.slice x.A x.l.length x.c)) (hl : ∀ s ∈ y.l ++ x.l, s.s.sp.length ≤ 9223372036854775807 ∧ s.s.ws.length ≤ 9223372036854775807) :
    Calls Tryz.prog 114 #[.slice y.A y.l.length y.c, .pointer (some ⟨q, 0, none⟩)] w fun e w' => e = .returned (.bool (sameBx y.l x.l)) ∧ Below w.heap.size w w' := by
  obtain ⟨R, hR⟩ : ∃ R, sameBx y.l x.l = R := ⟨_, rfl⟩
  have hc := eqBox_any y.l x.l y.A x.A y.c x.c w hy hx hl
  rw [hR] at hc ⊢
  clear hR hl hx hy
  go_enter Tryz.func114, Tryz.ntmps114
  go_wp2_with fail
  refine hc.mono ?_
  rintro e w1 ⟨rfl, hb1⟩
  go_wp2_with fail
  go_ret
  exact ⟨rfl, hb1⟩
set_option maxRecDepth 100000 in
set_option maxHeartbeats 6400000 in
theorem put_any (bg base : Nat) (v : Value) (L : List BxArg) (most : Int) (x : BxArg) (N : Nat) (w : World) (hK : BagIs w bg base v L most) (hbs : base ≤ w.heap.size) (hx : BoxAt w x.A x.l) (hf : BoxFar (some bg) x ∧ BoxFar v.ownBlock x) (hO : ∀ s ∈ x.l, StOk N s.s) (hOL : ∀ y ∈ L, ∀ s ∈ y.l, StOk N s.s) (hN : N ≤ 8000000000000) (hL : L.length ≤ 1048576) (hm : (L.length : Int) ≤ most) (hE : Env w) :
    Calls Tryz.prog 73 #[.pointer (some ⟨bg, 0, none⟩), .slice x.A x.l.length x.c] w fun e w' => ∃ (v' : Value) (L' : List BxArg), e = .returned (.bool (decide ((L'.length : Int) ≤ most))) ∧ BagIs w' bg base v' L' most ∧ keysOf L' = bagAdd (keysOf L) (keyOf x.l) ∧ (∀ y ∈ L', y ∈ L ∨ y = x) ∧ (∀ b, b < base → b ≠ bg → w'.heap[b]? = w.heap[b]?) ∧ Below bg w w' := by
  obtain ⟨i0, hinf, hza, hzb, hzc⟩ := info_parts (show (Tryz.prog.info? 48).map (fun i => (i.zero, i.size, i.bytes)) = some (some (.slice none 0 0), 1, 24) by kernel_rfl)
  obtain ⟨A0, c0, rfl, hrd0⟩ := hK.val
  have HBG := Lib.hid hK
  have HX := Lib.hid hx
  have HF := Lib.hid hf
  have HO := Lib.hid hO
  have HOL := Lib.hid hOL
  have HE := Lib.hid hE
  have HBS0 := Lib.hid hbs
  have HRD0 := Lib.hid hrd0
  have HM : Hid (decide ((L.length : Int) ≤ most) = true) := Lib.hid (decide_eq_true hm)
  have HKEEP : Hid (emptyK (keyOf x.l) = true ∨ keyOf x.l ∈ keysOf L → keysOf L = bagAdd (keysOf L) (keyOf x.l)) := Lib.hid (fun h => (bagAdd_keep h).symm)
  clear hK hx hf hO hOL hE hbs hrd0 hm
  go_enter Tryz.func73, Tryz.ntmps73
  go_wp2_with fail
  generalize hX1 : World.alloc w _ = W1
  have hbW1 : Below w.heap.size w W1 := (by rw [← hX1]; exact Below.alloc (Below.refl _ _) (Nat.le_refl _) _)
  have KQ : BoxIs W1 w.heap.size #[.slice x.A x.l.length x.c] := (by rw [← hX1]; exact BoxIs.new (t := 48) rfl)
  obtain ⟨q, hq⟩ : ∃ q, w.heap.size = q := ⟨_, rfl⟩
  have hbq : bg < q := by have := HBG.out.box.lt; omega
  have HBQ := Lib.hid hbq
  have HBW : Hid (bg ≤ w.heap.size) := Lib.hid (by omega)
  have HNQ : Hid ((Value.slice A0 L.length c0).ownBlock ≠ some q) := Lib.hid (fun e => by have := (HBG.out.own.lt q e).2; omega)
  rw [hq] at KQ
  rw [hq]
  have HEMP := bxEmpty_any x.l x.A x.c W1 (HX.out.below hbW1) N HO.out hN (HE.out.below hbW1)
  obtain ⟨E, hEe⟩ : ∃ E, (x.l.any fun s => emptyB s.s) = E := ⟨_, rfl⟩
  rw [hEe] at HEMP
  have HEE : Hid (emptyK (keyOf x.l) = E) := Lib.hid ((emptyK_key x.l).trans hEe)
  clear hX1 hq hEe
  refine HEMP.mono ?_
  rintro e w1 ⟨rfl, hb1⟩
  have hB1 : Below w.heap.size w w1 := hbW1.trans (hb1.mono hbW1.size)
  have KQ := KQ.below hb1
  have KB := HBG.out.box.below hB1
  clear hbW1 hb1 HEMP
  have kq := KQ.c
  have kb := KB.c
  have lq := KQ.lt
  have lb := KB.lt
  cases E
  · have hg1 : ∀ y ∈ L, ∀ W : World, Below w1.heap.size w1 W → Calls Tryz.prog 114 (#[.slice y.A y.l.length y.c] ++ #[.pointer (some ⟨q, 0, none⟩)]) W fun e w' => e = .returned (.bool (sameBx y.l x.l)) ∧ Below W.heap.size W w' := fun y hy W hW =>
      put1_any y x q W ((HBG.out.bx y hy).below (hB1.trans (hW.mono hB1.size))) (HX.out.below (hB1.trans (hW.mono hB1.size))) (cell_below hW (KQ.c 0)) (fun s hs => by
        have : StOk N s.s := by
          rcases List.mem_append.1 hs with h1 | h1
          · exact HOL.out y hy s h1
          · exact HO.out s h1
        have h1 := this.ls
        have h2 := this.lw
        exact ⟨by omega, by omega⟩)
    have HC := Lib.hid (blContains 114 ⟨q, 0, none⟩ (fun y => sameBx y.l x.l) L A0 c0 w1 (HRD0.out.below hB1) (by omega) hg1 (enters_of Tryz.func114 (by kernel_rfl) rfl))
    obtain ⟨F, hFe⟩ : ∃ F, (L.any fun y => sameBx y.l x.l) = F := ⟨_, rfl⟩
    rw [hFe] at HC
    have HFF : Hid (F = true ↔ keyOf x.l ∈ keysOf L) := Lib.hid (by
      rw [← hFe, List.any_eq_true]
      unfold keysOf
      rw [List.mem_map]
      exact ⟨fun ⟨y, h1, h2⟩ => ⟨y, h1, (sameBx_key _ _).1 h2⟩, fun ⟨y, h1, h2⟩ => ⟨y, h1, (sameBx_key _ _).2 h2⟩⟩)
    clear hg1 hFe
    go_wp2_with fail
    refine HC.out.mono ?_
    rintro e w2 ⟨rfl, hb2⟩
    have hB2 : Below w.heap.size w w2 := hB1.trans (hb2.mono hB1.size)
    have KQ := KQ.below hb2
    have KB := KB.below hb2
    clear hb2 hB1 HC kq kb lq lb
    have kq := KQ.c
    have kb := KB.c
    have lq := KQ.lt
    have lb := KB.lt
    have fb := KB.f
    cases F
    · have HNEW : Hid (keysOf L ++ [keyOf x.l] = bagAdd (keysOf L) (keyOf x.l)) := Lib.hid (bagAdd_more (fun h => by
        rcases h with h | h
        · rw [HEE.out] at h; cases h
        · exact absurd (HFF.out.2 h) (by simp))).symm
      have HBG2 := Lib.hid (HBG.out.below hB2)
      have HX2 := Lib.hid (HX.out.below hB2)
      have HE2 := Lib.hid hB2
      have HBS : Hid (base ≤ w2.heap.size) := Lib.hid (Nat.le_trans HBS0.out hB2.size)
      have HLO : bg < base := HBG2.out.lo
      clear hB2 HKEEP HFF HEE HRD0 HBG HX HE
      have HK : ∀ w', Below bg w2 w' → (∀ o, w'.cell? ⟨q, o, none⟩ = (#[.slice x.A x.l.length x.c] : Array Value)[o]?) → Below bg w2 w' ∧ (∀ o, w'.cell? ⟨q, o, none⟩ = (#[.slice x.A x.l.length x.c] : Array Value)[o]?) := fun w' hb hq => ⟨hb, hq⟩
      go_wp2_with fail
      refine wp_region_held_drew (S := (fun w' => Below bg w2 w' ∧ (∀ o, w'.cell? ⟨q, o, none⟩ = (#[.slice x.A x.l.length x.c] : Array Value)[o]?))) (by kernel_rfl) (HK _ (Below.drew (Below.refl _ _)) kq) (fun hHeld => ?_)
      refine tkH 0 ?_
      try simp only [shH]
      refine tkH 1 ?_
      try simp only [shH]
      refine tkH 2 ?_
      try simp only [shH]
      refine tkH 3 ?_
      try simp only [shH]
      refine tkH 5 ?_
      try simp only [shH]
      refine rdH [4, 6] ?_
      refine AllReadyH.cons rfl (fun K hK => ?_) ?_
      · go_simp
        refine hK.out _ _ ?_ (fun hH2 => ?_)
        · exact HK _ (Below.drew (Below.refl _ _)) kq
        clear hK K hHeld
        have hHeld := hH2
        clear hH2
        try simp only [shH]
        refine rdH [6] ?_
        refine AllReadyH.cons rfl (fun K hK => ?_) AllReadyH.nil
        go_simp
        refine hK.out _ _ ?_ (fun hH2 => ?_)
        · exact HK _ bel (KQ.below bel).c
        clear hK K hHeld
        have hHeld := hH2
        clear hH2
        try simp only [shH]
        refine rdH [7] ?_
        refine AllReadyH.cons rfl (fun K hK => ?_) AllReadyH.nil
        refine step_own2 rfl _ _ 49 rfl base 48 i0 (.slice none 0 0) 1 24 Tryz.underlying49 hinf hza hzb hzc rfl (by decide) _ _ _ rfl (HBG2.out.own.alloc _) ⟨w2.heap.size, 0, none⟩ 1 1 x.cells rfl rfl (fun j u h => lit_one _ _ _ j u h) (fun u hu => by simp [BxArg.cells] at hu; rw [hu]; rfl) ?c3 ?c4 ?c5 ?_
        case c3 => unfold maxLen; omega
        case c4 => omega
        case c5 => have := HBS.out; simp; omega
        intro v6 w7 hown' hgrow hblk
        obtain ⟨A6, c6, rfl, hrd6⟩ := Go.Proofs.YtankkadnhdfpfaaGreatDoor.own_rd (css := (L ++ [x]).map BxArg.cells) hown' (by rw [List.map_append, List.flatten_append, List.flatMap_def]; simp) (bxC_len _) (by simp)
        obtain ⟨n6, hn6⟩ : ∃ n6, L.length + 1 = n6 := ⟨_, rfl⟩
        have HN6 : Hid ((L ++ [x]).length = n6) := Lib.hid (by rw [← hn6]; simp)
        have hZ : Below w2.heap.size w2 (w2.alloc (.cells #[.slice x.A x.l.length x.c] 48)).drew := bel
        have hgrow : (w2.alloc (.cells #[.slice x.A x.l.length x.c] 48)).drew.grownBy w7 (Value.slice A0 L.length c0).ownBlock := hgrow
        have hblk : ∀ g, (Value.slice A6 n6 c6).ownBlock = some g → (Value.slice A0 L.length c0).ownBlock = some g ∨ (w2.alloc (.cells #[.slice x.A x.l.length x.c] 48)).drew.heap.size ≤ g := (by rw [← hn6]; exact hblk)
        have hzs := hZ.size
        obtain ⟨WA, hWA⟩ : ∃ WA, (w2.alloc (.cells #[.slice x.A x.l.length x.c] 48)).drew = WA := ⟨_, rfl⟩
        rw [hWA] at hgrow hblk hZ hzs
        have hb7 : Below bg w2 w7 := (hZ.mono (by omega)).grown hgrow (by omega) (fun g hg => by have := (HBG2.out.own.lt g hg).1; omega)
        have KQ7 : BoxIs w7 q #[.slice x.A x.l.length x.c] := box_grown (KQ.below hZ) hgrow HNQ.out
        have HBZ : Hid (BagIs (w7.setCell ⟨bg, 0, none⟩ (.slice A6 n6 c6)) bg base (.slice A6 n6 c6) (L ++ [x]) most) := Lib.hid (by rw [hn6] at hown'; exact BagIs.more (HBG2.out.below hZ) (HX2.out.below hZ) HF.out (by rw [← hn6] at hown' ⊢; exact hown') hgrow hblk)
        have HFZ : Hid (∀ b, b < base → b ≠ bg → (w7.setCell ⟨bg, 0, none⟩ (.slice A6 n6 c6)).heap[b]? = w.heap[b]?) := Lib.hid (fun b hb hbn => by
          have h1 : b < w2.heap.size := by have := HBS.out; omega
          refine (heap_setCell_other _ _ _ _ (by exact hbn)).trans ((hgrow.block b (by omega) (fun e => own_ne HBG2.out.own hb e.symm)).trans ?_)
          exact (hZ.block b h1).trans (HE2.out.block b (by have := HBS0.out; omega)))
        have K7 := box_grown (KB.below hZ) hgrow (own_ne HBG2.out.own HLO)
        have f7 := K7.f
        have l7 := K7.lt
        have c7 := K7.c
        clear K7 hZ hzs hWA hrd6
        rw [hn6]
        clear hn6
        clear hown' hgrow hblk
        refine hK.out _ _ ?_ (fun hH2 => ?_)
        · exact HK _ hb7 KQ7.c
        clear hK K hHeld
        have hHeld := hH2
        clear hH2
        try simp only [shH]
        refine tkH 8 ?_
        try simp only [shH]
        refine tkH 9 ?_
        try simp only [shH]
        refine rdH [10] ?_
        refine AllReadyH.cons rfl (fun K hK => ?_) AllReadyH.nil
        go_simp
        refine hK.out _ _ ?_ (fun hH2 => ?_)
        · exact HK _ (hb7.setCell (Nat.le_refl _) _) (KQ7.set' (by omega) 0 (.slice A6 n6 c6)).c
        clear hK K hHeld
        have hHeld := hH2
        clear hH2
        try simp only [shH]
        refine dnH ?_ _
        clear hHeld
        (try simp only [Exit.then, Exit.inBlock])
        generalize hWz : w7.setCell _ _ = Wz
        rw [hWz] at HBZ HFZ
        have hbz : Below bg w Wz := (by rw [← hWz]; exact ((HE2.out.mono HBW.out).trans hb7).setCell (Nat.le_refl _) _)
        have cz := HBZ.out.box.c
        have lz := HBZ.out.box.lt
        have HKN : Hid (keysOf (L ++ [x]) = bagAdd (keysOf L) (keyOf x.l)) := Lib.hid (by rw [← HNEW.out]; unfold keysOf; simp)
        clear hWz hb7 KQ7 f7 l7 c7 KQ KB kq kb lq lb fb HNEW HK
        go_wp2_with fail
        go_quiet (fail)
        go_wp2_with fail
        go_ret
        exact ⟨_, L ++ [x], ret_bool (by rw [HN6.out]), HBZ.out.below (below_drewN (Below.refl _ _) _), HKN.out, fun y hy => (List.mem_append.1 hy).imp id List.mem_singleton.1, HFZ.out, below_drewN hbz _⟩
      refine AllReadyH.cons rfl (fun K hK => ?_) AllReadyH.nil
      go_simp
      refine hK.out _ _ ?_ (fun hH2 => ?_)
      · exact HK _ bel (KQ.below bel).c
      clear hK K hHeld
      have hHeld := hH2
      clear hH2
      try simp only [shH]
      refine rdH [4] ?_
      refine AllReadyH.cons rfl (fun K hK => ?_) AllReadyH.nil
      go_simp
      refine hK.out _ _ ?_ (fun hH2 => ?_)
      · exact HK _ bel (KQ.below bel).c
      clear hK K hHeld
      have hHeld := hH2
      clear hH2
      try simp only [shH]
      refine rdH [7] ?_
      refine AllReadyH.cons rfl (fun K hK => ?_) AllReadyH.nil
      refine step_own2 rfl _ _ 49 rfl base 48 i0 (.slice none 0 0) 1 24 Tryz.underlying49 hinf hza hzb hzc rfl (by decide) _ _ _ rfl (HBG2.out.own.alloc _) ⟨w2.heap.size, 0, none⟩ 1 1 x.cells rfl rfl (fun j u h => lit_one _ _ _ j u h) (fun u hu => by simp [BxArg.cells] at hu; rw [hu]; rfl) ?c3 ?c4 ?c5 ?_
      case c3 => unfold maxLen; omega
      case c4 => omega
      case c5 => have := HBS.out; simp; omega
      intro v6 w7 hown' hgrow hblk
      obtain ⟨A6, c6, rfl, hrd6⟩ := Go.Proofs.YtankkadnhdfpfaaGreatDoor.own_rd (css := (L ++ [x]).map BxArg.cells) hown' (by rw [List.map_append, List.flatten_append, List.flatMap_def]; simp) (bxC_len _) (by simp)
      obtain ⟨n6, hn6⟩ : ∃ n6, L.length + 1 = n6 := ⟨_, rfl⟩
      have HN6 : Hid ((L ++ [x]).length = n6) := Lib.hid (by rw [← hn6]; simp)
      have hZ : Below w2.heap.size w2 (w2.alloc (.cells #[.slice x.A x.l.length x.c] 48)).drew := bel
      have hgrow : (w2.alloc (.cells #[.slice x.A x.l.length x.c] 48)).drew.grownBy w7 (Value.slice A0 L.length c0).ownBlock := hgrow
      have hblk : ∀ g, (Value.slice A6 n6 c6).ownBlock = some g → (Value.slice A0 L.length c0).ownBlock = some g ∨ (w2.alloc (.cells #[.slice x.A x.l.length x.c] 48)).drew.heap.size ≤ g := (by rw [← hn6]; exact hblk)
      have hzs := hZ.size
      obtain ⟨WA, hWA⟩ : ∃ WA, (w2.alloc (.cells #[.slice x.A x.l.length x.c] 48)).drew = WA := ⟨_, rfl⟩
      rw [hWA] at hgrow hblk hZ hzs
      have hb7 : Below bg w2 w7 := (hZ.mono (by omega)).grown hgrow (by omega) (fun g hg => by have := (HBG2.out.own.lt g hg).1; omega)
      have KQ7 : BoxIs w7 q #[.slice x.A x.l.length x.c] := box_grown (KQ.below hZ) hgrow HNQ.out
      have HBZ : Hid (BagIs (w7.setCell ⟨bg, 0, none⟩ (.slice A6 n6 c6)) bg base (.slice A6 n6 c6) (L ++ [x]) most) := Lib.hid (by rw [hn6] at hown'; exact BagIs.more (HBG2.out.below hZ) (HX2.out.below hZ) HF.out (by rw [← hn6] at hown' ⊢; exact hown') hgrow hblk)
      have HFZ : Hid (∀ b, b < base → b ≠ bg → (w7.setCell ⟨bg, 0, none⟩ (.slice A6 n6 c6)).heap[b]? = w.heap[b]?) := Lib.hid (fun b hb hbn => by
        have h1 : b < w2.heap.size := by have := HBS.out; omega
        refine (heap_setCell_other _ _ _ _ (by exact hbn)).trans ((hgrow.block b (by omega) (fun e => own_ne HBG2.out.own hb e.symm)).trans ?_)
        exact (hZ.block b h1).trans (HE2.out.block b (by have := HBS0.out; omega)))
      have K7 := box_grown (KB.below hZ) hgrow (own_ne HBG2.out.own HLO)
      have f7 := K7.f
      have l7 := K7.lt
      have c7 := K7.c
      clear K7 hZ hzs hWA hrd6
      rw [hn6]
      clear hn6
      clear hown' hgrow hblk
      refine hK.out _ _ ?_ (fun hH2 => ?_)
      · exact HK _ hb7 KQ7.c
      clear hK K hHeld
      have hHeld := hH2
      clear hH2
      try simp only [shH]
      refine tkH 8 ?_
      try simp only [shH]
      refine tkH 9 ?_
      try simp only [shH]
      refine rdH [10] ?_
      refine AllReadyH.cons rfl (fun K hK => ?_) AllReadyH.nil
      go_simp
      refine hK.out _ _ ?_ (fun hH2 => ?_)
      · exact HK _ (hb7.setCell (Nat.le_refl _) _) (KQ7.set' (by omega) 0 (.slice A6 n6 c6)).c
      clear hK K hHeld
      have hHeld := hH2
      clear hH2
      try simp only [shH]
      refine dnH ?_ _
      clear hHeld
      (try simp only [Exit.then, Exit.inBlock])
      generalize hWz : w7.setCell _ _ = Wz
      rw [hWz] at HBZ HFZ
      have hbz : Below bg w Wz := (by rw [← hWz]; exact ((HE2.out.mono HBW.out).trans hb7).setCell (Nat.le_refl _) _)
      have cz := HBZ.out.box.c
      have lz := HBZ.out.box.lt
      have HKN : Hid (keysOf (L ++ [x]) = bagAdd (keysOf L) (keyOf x.l)) := Lib.hid (by rw [← HNEW.out]; unfold keysOf; simp)
      clear hWz hb7 KQ7 f7 l7 c7 KQ KB kq kb lq lb fb HNEW HK
      go_wp2_with fail
      go_quiet (fail)
      go_wp2_with fail
      go_ret
      exact ⟨_, L ++ [x], ret_bool (by rw [HN6.out]), HBZ.out.below (below_drewN (Below.refl _ _) _), HKN.out, fun y hy => (List.mem_append.1 hy).imp id List.mem_singleton.1, HFZ.out, below_drewN hbz _⟩
    · go_wp2_with fail
      go_ret
      exact ⟨_, L, ret_bool HM.out.symm, HBG.out.below hB2, HKEEP.out (.inr (HFF.out.1 (by simp))), fun y hy => .inl hy, fun b hb _ => hB2.block b (by have := HBS0.out; omega), hB2.mono HBW.out⟩
  · go_wp2_with fail
    go_ret
    exact ⟨_, L, ret_bool HM.out.symm, HBG.out.below hB1, HKEEP.out (.inl HEE.out), fun y hy => .inl hy, fun b hb _ => hB1.block b (by have := HBS0.out; omega), hB1.mono HBW.out⟩
end Go.Proofs.YtankkadnhdfpfaaGreatDoor
