/- WordsSplit, walked: it gives true. (printed by gen_wsplit.py) -/
import Derived.Test.YtgbapmhdhbfhnaaDoorWd14
set_option linter.unusedSimpArgs false
set_option linter.unusedVariables false
namespace Go.Proofs.YtgbapmhdhbfhnaaDoor
open Go.RowKit Go.Sort Go.Lib
set_option maxRecDepth 100000 in
set_option maxHeartbeats 12800000 in
theorem lawSplit_any (aA bA : Bool) (A B : Option Addr) (la lb : List Tx) (ca cb : Nat) (s : Tx) (w : World) (hE : EnvP w) (hA : RdL w 1 A (la.map tC)) (hB : RdL w 1 B (lb.map tC)) (hsa : ∀ t ∈ la, t.length ≤ 9223372036854775807) (hsb : ∀ t ∈ lb, t.length ≤ 9223372036854775807) (hss : s.length ≤ 9223372036854775807) (hna : la.length * 16 ≤ 140737488355328) (hnb : lb.length * 16 ≤ 140737488355328) :
    Calls Tryd.prog 7 #[.agg #[.bool aA, .slice A la.length ca], .agg #[.bool bA, .slice B lb.length cb], encStr s] w fun e w' => e = .returned (.bool true) ∧ Below w.heap.size w w' := by
  have hp := splitP aA bA la lb
  obtain ⟨xA, hxa⟩ : ∃ x, (meetW aA la bA lb).1 = x := ⟨_, rfl⟩
  obtain ⟨xl, hxl⟩ : ∃ x, (meetW aA la bA lb).2 = x := ⟨_, rfl⟩
  obtain ⟨ol, hol⟩ : ∃ x, norm lb = x := ⟨_, rfl⟩
  rw [hxa, hxl, hol] at hp
  obtain ⟨yA, hya⟩ : ∃ x, (meetW aA la (!bA) ol).1 = x := ⟨_, rfl⟩
  obtain ⟨yl, hyl⟩ : ∃ x, (meetW aA la (!bA) ol).2 = x := ⟨_, rfl⟩
  rw [hya, hyl] at hp
  obtain ⟨z, hz⟩ : ∃ x, (meetW xA xl yA yl).2 = x := ⟨_, rfl⟩
  rw [hz] at hp
  have HSX : Hid (∀ t ∈ xl, t.length ≤ 9223372036854775807) := Lib.hid fun t ht => (hp.xs t ht).elim (hsa t) (hsb t)
  have HSY : Hid (∀ t ∈ yl, t.length ≤ 9223372036854775807) := Lib.hid fun t ht => (hp.ys t ht).elim (hsa t) (hsb t)
  have HSZ : Hid (∀ t ∈ z, t.length ≤ 9223372036854775807) := Lib.hid fun t ht => (hp.zs t ht).elim (hsa t) (hsb t)
  have HSO : Hid (∀ t ∈ ol, t.length ≤ 9223372036854775807) := Lib.hid fun t ht => hsb t (hp.os t ht)
  have HP := Lib.hid hp
  have HXA := Lib.hid hxa
  have HXL := Lib.hid hxl
  have HOL := Lib.hid hol
  have HYA := Lib.hid hya
  have HYL := Lib.hid hyl
  have HZ := Lib.hid hz
  have HSA := Lib.hid hsa
  have HSB := Lib.hid hsb
  have HA := Lib.hid hA
  have HB := Lib.hid hB
  have HE := Lib.hid hE
  clear hp hxa hxl hol hya hyl hz hsa hsb hA hB hE
  go_enter Tryd.func7, Tryd.ntmps7
  go_upto_region 1 with fail
  generalize hEu : (w.alloc _).alloc _ = u
  have hbu : Below w.heap.size w u := by rw [← hEu]; exact (by repeat' (first | (with_reducible exact Below.refl _ _) | (with_reducible assumption) | (with_reducible refine Below.drew ?_) | (with_reducible refine below_drewN ?_ _) | (with_reducible refine below_iterAt ?_ ?_ _ _) | (with_reducible refine below_iter ?_ ?_ _ _) | (with_reducible refine Below.alloc ?_ ?_ _) | (with_reducible refine Below.setCell ?_ ?_ _) | (with_reducible refine Below.trans ?_ (Below.mono (by assumption) ?_)) | (simp only [sz_alloc, sz_set, sz_drew, sz_drewN, sz_iterAt, sz_iter] at *; omega) | omega | (simp; done) | (simp; omega) | (apply Below.size; assumption) | (simp only [sz_drew, sz_drewN]; apply Below.size; assumption) | (refine Nat.le_trans ?_ (Below.size (by assumption)))))
  have hzu : u.heap.size = w.heap.size + 1 + 1 := by rw [← hEu]; simp
  have k0 : u.cell? ⟨w.heap.size, 0, none⟩ = some (.bool aA) := by rw [← hEu]; simp [go_sem]
  have k1 : u.cell? ⟨w.heap.size, 1, none⟩ = some (.slice A la.length ca) := by rw [← hEu]; simp [go_sem]
  have k2 : u.cell? ⟨w.heap.size + 1, 0, none⟩ = some (.bool bA) := by rw [← hEu]; simp [go_sem]
  have k3 : u.cell? ⟨w.heap.size + 1, 1, none⟩ = some (.slice B lb.length cb) := by rw [← hEu]; simp [go_sem]
  clear hEu
  have l0 : w.heap.size < u.heap.size := by omega
  have l1 : w.heap.size + 1 < u.heap.size := by omega
  clear hzu
  have hme : ∀ W : World, Below u.heap.size u W → Calls Tryd.prog 17 #[.agg #[.bool aA, .slice A la.length ca], .agg #[.bool bA, .slice B lb.length cb]] W fun e w' => ∃ A1, e = .returned (.agg #[.bool xA, .slice A1 xl.length xl.length]) ∧ OwnT w' W.heap.size A1 xl ∧ Below W.heap.size W w' := by
    intro W hW
    have hbW := hbu.trans (hW.mono hbu.size)
    have h := meet_any aA bA A B la lb ca cb W (HE.out.env.below hbW) (HA.out.below hbW) (HB.out.below hbW) HSA.out HSB.out hna hnb
    rw [HXA.out, HXL.out] at h
    exact h
  have hmy : ∀ (W : World) (A3 : Option Addr), Below u.heap.size u W → RdL W 1 A3 (ol.map tC) → Calls Tryd.prog 17 #[.agg #[.bool aA, .slice A la.length ca], .agg #[.bool (!bA), .slice A3 ol.length ol.length]] W fun e w' => ∃ A2, e = .returned (.agg #[.bool yA, .slice A2 yl.length yl.length]) ∧ OwnT w' W.heap.size A2 yl ∧ Below W.heap.size W w' := by
    intro W A3 hW hr
    have hbW := hbu.trans (hW.mono hbu.size)
    have h := meet_any aA (!bA) A A3 la ol ca ol.length W (HE.out.env.below hbW) (HA.out.below hbW) hr HSA.out HSO.out hna (by have := HP.out.on; omega)
    rw [HYA.out, HYL.out] at h
    exact h
  have hot : ∀ W : World, Below u.heap.size u W → Calls Tryd.prog 18 #[.agg #[.bool bA, .slice B lb.length cb]] W fun e w' => ∃ A3, e = .returned (.agg #[.bool (!bA), .slice A3 ol.length ol.length]) ∧ OwnT w' W.heap.size A3 ol ∧ Below W.heap.size W w' := by
    intro W hW
    have hbW := hbu.trans (hW.mono hbu.size)
    have h := other_any bA B lb cb W (HE.out.env.below hbW) (HB.out.below hbW) HSB.out hnb
    rw [HOL.out] at h
    exact h
  have HME := Lib.hid hme
  have HMY := Lib.hid hmy
  have HOT := Lib.hid hot
  clear hme hmy hot
  go_cut [7, 8] from 11 to 17 (fun v7 v8 wx => ∃ p7 p8 A1 A2, v7 = .pointer (some ⟨p7, 0, none⟩) ∧ v8 = .pointer (some ⟨p8, 0, none⟩) ∧ Hid (BoxW wx p7 xA A1 xl xl.length) ∧ Hid (BoxW wx p8 yA A2 yl yl.length) ∧ Below u.heap.size u wx)
  case first =>
    have kk0 : u.cell? ⟨w.heap.size, 0, none⟩ = some (.bool aA) := (by first | (simp [go_sem]; done) | (simp [go_sem, *]; done))
    have kk1 : u.cell? ⟨w.heap.size, 1, none⟩ = some (.slice A la.length ca) := (by first | (simp [go_sem]; done) | (simp [go_sem, *]; done))
    have kk2 : u.cell? ⟨w.heap.size + 1, 0, none⟩ = some (.bool bA) := (by first | (simp [go_sem]; done) | (simp [go_sem, *]; done))
    have kk3 : u.cell? ⟨w.heap.size + 1, 1, none⟩ = some (.slice B lb.length cb) := (by first | (simp [go_sem]; done) | (simp [go_sem, *]; done))
    go_region_held3 (fun w' => Below u.heap.size u w' ∧ w'.cell? ⟨w.heap.size, 0, none⟩ = some (.bool aA) ∧ w'.cell? ⟨w.heap.size, 1, none⟩ = some (.slice A la.length ca) ∧ w'.cell? ⟨w.heap.size + 1, 0, none⟩ = some (.bool bA) ∧ w'.cell? ⟨w.heap.size + 1, 1, none⟩ = some (.slice B lb.length cb)) ((refine and_keep ?_ (fun hk => ⟨keep_cell hk l0 kk0, keep_cell hk l0 kk1, keep_cell hk l1 kk2, keep_cell hk l1 kk3⟩); exact (by repeat' (first | (with_reducible exact Below.refl _ _) | (with_reducible assumption) | (with_reducible exact And.left (by assumption)) | (with_reducible refine belowU_drew ?_) | (with_reducible refine below_drewN ?_ _) | (with_reducible refine belowU_alloc ?_ _) | (with_reducible refine belowU_set ?_ ?_ _ _) | (with_reducible refine belowU_call ?_ (by assumption)) | (with_reducible exact Nat.le_refl _) | (with_reducible refine Nat.le_add_right_of_le ?_) | (with_reducible refine Below.size ?_)))))
      (first
        | (go_at_call 17; with_reducible show Calls _ _ #[_, .agg #[.bool (!bA), _]] _ _; refine (HMY.out _ A3 (belowU_of (And.left (by assumption))) (OwnB.rdOf ow3 (fun hh => by repeat' (first | (with_reducible assumption) | (with_reducible refine OwnB.drew ?_) | (with_reducible refine OwnB.drewN ?_ _) | (with_reducible refine OwnB.alloc ?_ _) | (with_reducible refine OwnB.set_ ?_ ?_ _ _) | (with_reducible refine OwnB.call ?_ (by assumption)) | (first | (left; simp; done) | (right; simp; done) | omega | (simp only [sz_alloc, sz_drew, sz_drewN]; omega)))))).mono ?_; rintro e wY ⟨A2, rfl, ho2, hbY⟩; have hsz := (belowU_call (u := u) (And.left (by assumption)) hbY).size; have hsY := hbY.size; (try simp only [sz_alloc, sz_drew, sz_drewN] at hsY); have ow2 := OwnB.of ho2; obtain ⟨p1, p2, p3, p4, p5, p6⟩ := keepAll hbY; have hq1 := keepFrom hbO hbY (by repeat' (first | (with_reducible exact Below.refl _ _) | (with_reducible assumption) | (with_reducible exact And.left (by assumption)) | (with_reducible refine belowU_drew ?_) | (with_reducible refine below_drewN ?_ _) | (with_reducible refine belowU_alloc ?_ _) | (with_reducible refine belowU_set ?_ ?_ _ _) | (with_reducible refine belowU_call ?_ (by assumption)) | (with_reducible exact Nat.le_refl _) | (with_reducible refine Nat.le_add_right_of_le ?_) | (with_reducible refine Below.size ?_))); obtain ⟨q1, q2, q3, q4, q5, q6⟩ := keepAll hq1; clear hq1; have hq2 := keepFrom HBMO.out hbY (by repeat' (first | (with_reducible exact Below.refl _ _) | (with_reducible assumption) | (with_reducible exact And.left (by assumption)) | (with_reducible refine belowU_drew ?_) | (with_reducible refine below_drewN ?_ _) | (with_reducible refine belowU_alloc ?_ _) | (with_reducible refine belowU_set ?_ ?_ _ _) | (with_reducible refine belowU_call ?_ (by assumption)) | (with_reducible exact Nat.le_refl _) | (with_reducible refine Nat.le_add_right_of_le ?_) | (with_reducible refine Below.size ?_))); obtain ⟨r1, r2, r3, r4, r5, r6⟩ := keepAll hq2; clear hq2)
        | (go_at_call 17; refine (HME.out _ (belowU_of (And.left (by assumption)))).mono ?_; rintro e wM ⟨A1, rfl, ho1, hbM⟩; have hsz := (belowU_call (u := u) (And.left (by assumption)) hbM).size; have hsM := hbM.size; (try simp only [sz_alloc, sz_drew, sz_drewN] at hsM); have ow1 := OwnB.of ho1; obtain ⟨x1, x2, x3, x4, x5, x6⟩ := keepAll hbM)
        | (go_at_call 18; refine (HOT.out _ (belowU_of (And.left (by assumption)))).mono ?_; rintro e wO ⟨A3, rfl, ho3, hbO⟩; have hsz := (belowU_call (u := u) (And.left (by assumption)) hbO).size; have hsO := hbO.size; (try simp only [sz_alloc, sz_drew, sz_drewN] at hsO); have ow3 := OwnB.of ho3; obtain ⟨y1, y2, y3, y4, y5, y6⟩ := keepAll hbO; have hbMO := keepFrom hbM hbO (by repeat' (first | (with_reducible exact Below.refl _ _) | (with_reducible assumption) | (with_reducible exact And.left (by assumption)) | (with_reducible refine belowU_drew ?_) | (with_reducible refine below_drewN ?_ _) | (with_reducible refine belowU_alloc ?_ _) | (with_reducible refine belowU_set ?_ ?_ _ _) | (with_reducible refine belowU_call ?_ (by assumption)) | (with_reducible exact Nat.le_refl _) | (with_reducible refine Nat.le_add_right_of_le ?_) | (with_reducible refine Below.size ?_))); obtain ⟨z1, z2, z3, z4, z5, z6⟩ := keepAll hbMO; have HBMO := Lib.hid hbMO; clear hbMO))
    all_goals
      go_wp2_with fail
      go_meet
      case rel =>
        refine ⟨_, _, A1, A2, rfl, rfl, Lib.hid ⟨?_, ?_, ?_⟩, Lib.hid ⟨?_, ?_, ?_⟩, ?_⟩
        · first | (simp [go_sem]; done) | (simp [go_sem, *]; done) | (simp [go_sem, *]; exact cell_set_some (by simp [go_sem, *])) | (exact cell_set_some (by simp [go_sem, *]))
        · first | (simp [go_sem]; done) | (simp [go_sem, *]; done) | (simp [go_sem, *]; exact cell_set_some (by simp [go_sem, *])) | (exact cell_set_some (by simp [go_sem, *]))
        · exact OwnB.rdOf ow1 (fun hh => by repeat' (first | (with_reducible assumption) | (with_reducible refine OwnB.drew ?_) | (with_reducible refine OwnB.drewN ?_ _) | (with_reducible refine OwnB.alloc ?_ _) | (with_reducible refine OwnB.set_ ?_ ?_ _ _) | (with_reducible refine OwnB.call ?_ (by assumption)) | (first | (left; simp; done) | (right; simp; done) | omega | (simp only [sz_alloc, sz_drew, sz_drewN]; omega))))
        · first | (simp [go_sem]; done) | (simp [go_sem, *]; done) | (simp [go_sem, *]; exact cell_set_some (by simp [go_sem, *])) | (exact cell_set_some (by simp [go_sem, *]))
        · first | (simp [go_sem]; done) | (simp [go_sem, *]; done) | (simp [go_sem, *]; exact cell_set_some (by simp [go_sem, *])) | (exact cell_set_some (by simp [go_sem, *]))
        · exact OwnB.rdOf ow2 (fun hh => by repeat' (first | (with_reducible assumption) | (with_reducible refine OwnB.drew ?_) | (with_reducible refine OwnB.drewN ?_ _) | (with_reducible refine OwnB.alloc ?_ _) | (with_reducible refine OwnB.set_ ?_ ?_ _ _) | (with_reducible refine OwnB.call ?_ (by assumption)) | (first | (left; simp; done) | (right; simp; done) | omega | (simp only [sz_alloc, sz_drew, sz_drewN]; omega))))
        · exact (by repeat' (first | (with_reducible exact Below.refl _ _) | (with_reducible assumption) | (with_reducible exact And.left (by assumption)) | (with_reducible refine belowU_drew ?_) | (with_reducible refine below_drewN ?_ _) | (with_reducible refine belowU_alloc ?_ _) | (with_reducible refine belowU_set ?_ ?_ _ _) | (with_reducible refine belowU_call ?_ (by assumption)) | (with_reducible exact Nat.le_refl _) | (with_reducible refine Nat.le_add_right_of_le ?_) | (with_reducible refine Below.size ?_)))
  case rest =>
    obtain ⟨p7, p8, A1, A2, rfl, rfl, HB7, HB8, hbc⟩ := hcut
    have m0 := HB7.out.k0
    have m1 := HB7.out.k1
    have mR := Lib.hid HB7.out.rd
    have o0 := HB8.out.k0
    have o1 := HB8.out.k1
    have oR := Lib.hid HB8.out.rd
    clear HB7 HB8 HME HMY HOT l0 l1
    have f1 := cell_below hbc k0
    clear k0
    have f2 := cell_below hbc k1
    clear k1
    have f3 := cell_below hbc k2
    clear k2
    have f4 := cell_below hbc k3
    clear k3
    have hw5 : Below w.heap.size w wc := hbu.trans (hbc.mono hbu.size)
    clear hbc
    go_wp2_with fail
    refine (awake_any wc (HE.out.below hw5)).mono ?_
    rintro e w1 ⟨rfl, hb1⟩
    have f6 := cell_below hb1 f1
    clear f1
    have f7 := cell_below hb1 f2
    clear f2
    have f8 := cell_below hb1 f3
    clear f3
    have f9 := cell_below hb1 f4
    clear f4
    have f10 := cell_below hb1 m0
    clear m0
    have f11 := cell_below hb1 m1
    clear m1
    have f12 := cell_below hb1 o0
    clear o0
    have f13 := cell_below hb1 o1
    clear o1
    have f14 := Lib.hid (mR.out.below hb1)
    clear mR
    have f15 := Lib.hid (oR.out.below hb1)
    clear oR
    have hw16 : Below w.heap.size w w1 := hw5.trans (hb1.mono hw5.size)
    clear hb1
    go_wp2_with fail
    have hz1 := meet_long xA yA A1 A2 xl yl xl.length yl.length w1 (HE.out.env.below hw16) f14.out f15.out HSX.out HSY.out (by have := HP.out.xn; omega) (by have := HP.out.yn; omega) (fun h => by have := HP.out.h1 h; omega) (fun h => ⟨(HP.out.h2 h).1, by have := (HP.out.h2 h).2; omega⟩)
    rw [HP.out.zA, HZ.out] at hz1
    refine hz1.mono ?_
    clear hz1
    rintro e w2 ⟨A4, rfl, ho4, hb2⟩
    have f17 := cell_below hb2 f6
    clear f6
    have f18 := cell_below hb2 f7
    clear f7
    have f19 := cell_below hb2 f8
    clear f8
    have f20 := cell_below hb2 f9
    clear f9
    have f21 := cell_below hb2 f10
    clear f10
    have f22 := cell_below hb2 f11
    clear f11
    have f23 := cell_below hb2 f12
    clear f12
    have f24 := cell_below hb2 f13
    clear f13
    have f25 := Lib.hid (f14.out.below hb2)
    clear f14
    have f26 := Lib.hid (f15.out.below hb2)
    clear f15
    have hw27 : Below w.heap.size w w2 := hw16.trans (hb2.mono hw16.size)
    have R4 := Lib.hid ho4.rd
    clear hb2 ho4
    go_wp2_with fail
    refine (empty_any false A4 z z.length w2 (HE.out.env.below hw27) R4.out HSZ.out (by have := HP.out.zn; omega)).mono ?_
    rintro e w3 ⟨rfl, hb3⟩
    rw [HP.out.ze]
    have f28 := cell_below hb3 f17
    clear f17
    have f29 := cell_below hb3 f18
    clear f18
    have f30 := cell_below hb3 f19
    clear f19
    have f31 := cell_below hb3 f20
    clear f20
    have f32 := cell_below hb3 f21
    clear f21
    have f33 := cell_below hb3 f22
    clear f22
    have f34 := cell_below hb3 f23
    clear f23
    have f35 := cell_below hb3 f24
    clear f24
    have f36 := Lib.hid (f25.out.below hb3)
    clear f25
    have f37 := Lib.hid (f26.out.below hb3)
    clear f26
    have hw38 : Below w.heap.size w w3 := hw27.trans (hb3.mono hw27.size)
    clear hb3
    go_wp2_with fail
    refine (asks_any s A B la lb ca cb w3 (HA.out.below hw38) (HB.out.below hw38) hss HSA.out HSB.out (by omega) (by omega)).mono ?_
    rintro e w5 ⟨ms, N, cn, rfl, hN, hml, hmt, hb5⟩
    have f39 := cell_below hb5 f28
    clear f28
    have f40 := cell_below hb5 f29
    clear f29
    have f41 := cell_below hb5 f30
    clear f30
    have f42 := cell_below hb5 f31
    clear f31
    have f43 := cell_below hb5 f32
    clear f32
    have f44 := cell_below hb5 f33
    clear f33
    have f45 := cell_below hb5 f34
    clear f34
    have f46 := cell_below hb5 f35
    clear f35
    have f47 := Lib.hid (f36.out.below hb5)
    clear f36
    have f48 := Lib.hid (f37.out.below hb5)
    clear f37
    have hw49 : Below w.heap.size w w5 := hw38.trans (hb5.mono hw38.size)
    have HNN := Lib.hid hN
    have HMX := Lib.hid hmt
    clear hN hmt hb5
    go_wp2_with fail
    go_loopg [10] ms.length (fun k iv wr => ∃ i : Nat, i ≤ ms.length ∧ ms.length - i ≤ k ∧ iv = .int .i64 i ∧ Below w5.heap.size w5 wr)
    case atStart => exact ⟨0, by omega, by omega, rfl, Below.refl _ _⟩
    case round =>
      obtain ⟨i, hi, hik, rfl, hbel⟩ := hrel
      have hsz := hbel.size
      have f50 := cell_below hbel f39
      clear f39
      have f51 := cell_below hbel f40
      clear f40
      have f52 := cell_below hbel f41
      clear f41
      have f53 := cell_below hbel f42
      clear f42
      have f54 := cell_below hbel f43
      clear f43
      have f55 := cell_below hbel f44
      clear f44
      have f56 := cell_below hbel f45
      clear f45
      have f57 := cell_below hbel f46
      clear f46
      have f58 := Lib.hid (f47.out.below hbel)
      clear f47
      have f59 := Lib.hid (f48.out.below hbel)
      clear f48
      have hbw : Below w.heap.size w wr := hw49.trans (hbel.mono hw49.size)
      by_cases hlt : i < ms.length
      · obtain ⟨b, off, hbN, hxN⟩ := (HNN.out.below hbel).at_ hlt
        subst hbN
        have hxl := HMX.out _ (List.getElem_mem hlt)
        have g0 : wr.cell? ⟨b, off + i, none⟩ = some (encStr (ms[i]'hlt)) := by have := hxN.get 0 (v := encStr (ms[i]'hlt)) rfl; simpa using this
        clear hxN
        generalize ms[i]'hlt = x at *
        have i0 : (0 : Int) ≤ (i : Int) := by omega
        have i1 : (i : Int) < (ms.length : Int) := by omega
        obtain ⟨X, hX⟩ : ∃ X, inW aA la x = X := ⟨_, rfl⟩
        obtain ⟨Y, hY⟩ : ∃ Y, inW bA lb x = Y := ⟨_, rfl⟩
        have hm1 := HP.out.xi x
        have ho1 := HP.out.yi x
        have hXt : X = true → textB x = true := by
          intro h; rw [← hX] at h; unfold inW at h
          cases ht : textB x
          · rw [ht] at h; cases h
          · rfl
        rw [hX, hY] at hm1 ho1
        have HIX := Lib.hid hX
        have HI1 := Lib.hid hm1
        have HI2 := Lib.hid ho1
        clear hX hY hm1 ho1
        have hhas : ∀ (v : Value) (r : Bool) (W : World), ((v = .agg #[.bool xA, .slice A1 xl.length xl.length] ∧ r = (X && Y)) ∨ (v = .agg #[.bool yA, .slice A2 yl.length yl.length] ∧ r = (X && !Y)) ∨ (v = .agg #[.bool aA, .slice A la.length ca] ∧ r = X)) → Below wr.heap.size wr W →
            Calls Tryd.prog 14 #[v, encStr x] W fun e w' => e = .returned (.bool r) ∧ Below W.heap.size W w' := by
          intro v r W hv hW
          have hbW := hbw.trans (hW.mono hbw.size)
          rcases hv with ⟨rfl, rfl⟩ | ⟨rfl, rfl⟩ | ⟨rfl, rfl⟩
          · rw [← HI1.out]; exact has_any xA A1 xl xl.length x W (HE.out.env.below hbW) (f58.out.below hW) (by have := HP.out.xn; omega) hxl
          · have h := has_any yA A2 yl yl.length x W (HE.out.env.below hbW) (f59.out.below hW) (by have := HP.out.yn; omega) hxl
            rw [HI2.out] at h
            have e : (X && (!Y && textB x)) = (X && !Y) := by
              cases hX : X
              · rfl
              · rw [hXt hX]; cases Y <;> rfl
            rw [e] at h
            exact h
          · rw [← HIX.out]; exact has_any aA A la ca x W (HE.out.env.below hbW) (HA.out.below hbW) (by omega) hxl
        have HHS := Lib.hid hhas
        clear hhas HIX HI1 HI2 hXt
        have c0 := AtB.cell f50
        have c1 := AtB.cell f51
        have c2 := AtB.cell f54
        have c3 := AtB.cell f55
        have c4 := AtB.cell f56
        have c5 := AtB.cell f57
        have c6 := AtB.cell g0
        have hpart : (X = false) ∨ (X = true ∧ Y = true) ∨ (X = true ∧ Y = false) := by cases X <;> cases Y <;> simp
        rcases hpart with rfl | ⟨rfl, rfl⟩ | ⟨rfl, rfl⟩
        all_goals
          simp only [Bool.and_true, Bool.and_false, Bool.true_and, Bool.false_and, Bool.not_true, Bool.not_false] at HHS
          go_upto_region 8 with fail
          refine wp_region_quiet_at (by kernel_rfl) (by kernel_rfl) ?_
          repeat (go_big_quiet_step ((first
            | (go_at_call 14; exact AtB.quiet _ (fun W hW => HHS.out _ _ W (by first | exact Or.inl ⟨rfl, rfl⟩ | exact Or.inr (Or.inl ⟨rfl, rfl⟩) | exact Or.inr (Or.inr ⟨rfl, rfl⟩)) hW)))))
          refine wpQuiet_nil ?_
          intro _ hw'
          obtain ⟨pq, hw''⟩ := hw'
          subst hw''
          have hbq := pq.hb
          go_wp2_with fail
          go_roundg (ms.length - (i + 1))
          case measure => omega
          case rel => exact ⟨i + 1, by omega, by omega, by go_num, hbel.trans (hbq.mono hsz)⟩
      · have i1 : ¬ ((i : Int) < (ms.length : Int)) := by omega
        go_wp2_with fail
        go_ret
        exact ⟨ret_bool rfl, hbw⟩
end Go.Proofs.YtgbapmhdhbfhnaaDoor
