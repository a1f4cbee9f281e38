import Derived.Test.YtfhmjkdpohepaaaDoorPk35
import Derived.Test.YtfhmjkdpohepaaaDoorPk01
/- soffitref01.Add at sound numbers, walked. -/
set_option linter.unusedSimpArgs false
set_option linter.unusedVariables false
namespace Go.Proofs.YtfhmjkdpohepaaaDoor
open Go.RowKit

theorem units_neg' {n s : Int} (h : 0 ≤ s) : (unitsI n s < 0 ↔ n < 0) := by
  obtain ⟨t, rfl⟩ : ∃ t : Nat, s = (t : Int) := ⟨s.toNat, by omega⟩
  exact units_neg n t
/-- the digits of a number in units -/
theorem long_units {w : World} {g : Nat} {n s : Int} (hd : decSnd n s = true) (h : RowIs w g (fun j => (longF n.natAbs s.toNat j : Int)) 60) : RowIs w g (fun j => (dig ((unitsI n s).natAbs * 10 ^ 6) j : Int)) 60 := by
  obtain ⟨a1, a2, a3, a4, -⟩ := decSnd_of hd
  obtain ⟨t, rfl⟩ : ∃ t : Nat, s = (t : Int) := ⟨s.toNat, by omega⟩
  refine h.congr fun j hj => ?_
  show ((longF n.natAbs (t : Int).toNat j : Nat) : Int) = _
  rw [longF_eq _ _ _ (by omega) (by omega), Int.toNat_natCast, units_abs _ _ (by omega)]
theorem less_units (x y : Nat) (hx : x ≤ 2000000000000000000) (hy : y ≤ 2000000000000000000) : lessD (dig (x * 10 ^ 6)) (dig (y * 10 ^ 6)) 60 = decide (x < y) := by
  rw [lessD_eq, Nat.mod_eq_of_lt (by omega), Nat.mod_eq_of_lt (by omega), decide_eq_decide]
  exact mul6_lt

set_option maxRecDepth 100000 in
set_option maxHeartbeats 6400000 in
theorem refAdd_any (n s n' s' : Int) (w : World) (hd : decSnd n s = true) (hd' : decSnd n' s' = true) :
    Calls Tryd.prog 40 #[.agg #[.int .i64 n, .int .i64 s], .agg #[.int .i64 n', .int .i64 s']] w fun e w' =>
      e = .returned (decRes (decide (unitsI n s + unitsI n' s' < 0)) (unitsI n s + unitsI n' s').natAbs 6) ∧ Below w.heap.size w w' := by
  obtain ⟨a1, a2, a3, a4, -⟩ := decSnd_of hd
  obtain ⟨b1, b2, b3, b4, -⟩ := decSnd_of hd'
  have hu := units_bd a3 a4 a1 a2
  have hu' := units_bd b3 b4 b1 b2
  have hng := units_neg' (n := n) a1
  have hng' := units_neg' (n := n') b1
  have LX := Lib.hid (fun (W : World) (g : Nat) h => long_units (w := W) (g := g) hd h)
  have LY := Lib.hid (fun (W : World) (g : Nat) h => long_units (w := W) (g := g) hd' h)
  have H1 := Lib.hid hd
  have H2 := Lib.hid hd'
  clear hd hd'
  obtain ⟨x, hx⟩ : ∃ x, unitsI n s = x := ⟨_, rfl⟩
  obtain ⟨y, hy⟩ : ∃ y, unitsI n' s' = y := ⟨_, rfl⟩
  rw [hx] at hu hng LX
  rw [hy] at hu' hng' LY
  rw [hx, hy]
  clear hx hy
  obtain ⟨q1, q2, r, hres⟩ : ∃ q1 q2 r : Int, decRes (decide (x + y < 0)) (x + y).natAbs 6 = .tuple #[.agg #[.int .i64 q1, .int .i64 q2], .int .i64 r] := by
    by_cases h : (shU 6 (x + y).natAbs).1 ≤ 999999999999
    · exact ⟨_, _, _, decRes_yes h⟩
    · exact ⟨0, 0, 3, decRes_no h⟩
  have hlx : x.natAbs ≤ 2000000000000000000 := by omega
  have hly : y.natAbs ≤ 2000000000000000000 := by omega
  have hless := Lib.hid (less_units x.natAbs y.natAbs hlx hly)
  have HNX := Lib.hid hng
  have HNY := Lib.hid hng'
  clear hng hng'
  cases t1 : decide (n < 0) <;> cases t2 : decide (n' < 0)
  all_goals
    have s1 := t1
    have s2 := t2
    simp only [decide_eq_true_eq, decide_eq_false_iff_not] at s1 s2
    have hsx : decide (x < 0) = decide (n < 0) := by rw [decide_eq_decide]; exact HNX.out
    have hsy : decide (y < 0) = decide (n' < 0) := by rw [decide_eq_decide]; exact HNY.out
    have HSX := Lib.hid hsx
    have HSY := Lib.hid hsy
    clear hsx hsy
    go_enter Tryd.func40, Tryd.ntmps40
    go_wp2_with fail
    have K0 : BoxIs (((w.alloc (.cells #[.int .i64 n, .int .i64 s] 24)).alloc (.cells #[.int .i64 n', .int .i64 s'] 24)).alloc (.cells #[.int .i64 0, .int .i64 0] 24)) w.heap.size #[.int .i64 n, .int .i64 s] := ((BoxIs.new rfl).alloc _).alloc _
    have K1 : BoxIs (((w.alloc (.cells #[.int .i64 n, .int .i64 s] 24)).alloc (.cells #[.int .i64 n', .int .i64 s'] 24)).alloc (.cells #[.int .i64 0, .int .i64 0] 24)) (w.heap.size + 1) #[.int .i64 n', .int .i64 s'] := (BoxIs.new (by simp)).alloc _
    have K2 : BoxIs (((w.alloc (.cells #[.int .i64 n, .int .i64 s] 24)).alloc (.cells #[.int .i64 n', .int .i64 s'] 24)).alloc (.cells #[.int .i64 0, .int .i64 0] 24)) (w.heap.size + 2) #[.int .i64 0, .int .i64 0] := BoxIs.new (by simp)
    refine (ref01Sound_any n s _).mono ?_
    rintro e w1 ⟨rfl, hb1⟩
    rw [H1.out]
    have K0 := K0.below hb1
    have K1 := K1.below hb1
    have K2 := K2.below hb1
    have hbw1 : Below w.heap.size w w1 := bel
    have k1 := K1.c
    clear hb1
    go_wp2_with fail
    refine (ref01Sound_any n' s' _).mono ?_
    rintro e w2 ⟨rfl, hb2⟩
    rw [H2.out]
    have K0 := K0.below hb2
    have K1 := K1.below hb2
    have K2 := K2.below hb2
    have hbw2 : Below w.heap.size w w2 := bel
    clear hb2 hbw1 k1
    have k0 := K0.c
    have k1 := K1.c
    go_wp2_with fail
    have HK3 : ∀ w', Below w2.heap.size w2 w' → Below w2.heap.size w2 w' ∧ (∀ o, w'.cell? ⟨w.heap.size, o, none⟩ = (#[.int .i64 n, .int .i64 s] : Array Value)[o]?) ∧ (∀ o, w'.cell? ⟨w.heap.size + 1, o, none⟩ = (#[.int .i64 n', .int .i64 s'] : Array Value)[o]?) := fun w' hb => ⟨hb, (K0.below hb).c, (K1.below hb).c⟩
    refine wp_region_held_drew (S := (fun w' => Below w2.heap.size w2 w' ∧ (∀ o, w'.cell? ⟨w.heap.size, o, none⟩ = (#[.int .i64 n, .int .i64 s] : Array Value)[o]?) ∧ (∀ o, w'.cell? ⟨w.heap.size + 1, o, none⟩ = (#[.int .i64 n', .int .i64 s'] : Array Value)[o]?))) (by kernel_rfl) (HK3 _ bel) (fun hHeld => ?_)
    refine tkH 0 ?_
    try simp only [shH]
    refine tkH 2 ?_
    try simp only [shH]
    refine rdH [1] ?_
    refine AllReadyH.cons rfl (fun K hK => ?_) AllReadyH.nil
    go_simp
    go_at_call 43
    refine (long_any n s _ (by omega) (by omega) (by omega) (by omega)).mono ?_
    rintro e w3 ⟨g, rfl, hg, hb3⟩
    have hB3 : Below w2.heap.size w2 w3 := (by first | exact hb3 | exact undrew hb3)
    refine hK.out _ _ ?_ (fun hH2 => ?_)
    · exact HK3 _ bel
    clear hK K hHeld
    have hHeld := hH2
    clear hH2
    try simp only [shH]
    refine rdH [3] ?_
    refine AllReadyH.cons rfl (fun K hK => ?_) AllReadyH.nil
    go_simp
    go_at_call 43
    refine (long_any n' s' _ (by omega) (by omega) (by omega) (by omega)).mono ?_
    rintro e w4 ⟨h, rfl, hh, hb4⟩
    have hB4 : Below w2.heap.size w2 w4 := hB3.trans (hb4.mono hB3.size)
    refine hK.out _ _ ?_ (fun hH2 => ?_)
    · exact HK3 _ bel
    clear hK K hHeld
    have hHeld := hH2
    clear hH2
    try simp only [shH]
    refine tkH 4 ?_
    try simp only [shH]
    refine tkH 5 ?_
    try simp only [shH]
    refine dnH ?_ _
    clear hHeld HK3 k0 k1
    (try simp only [Exit.then, Exit.inBlock])
    have K0 := K0.below hB4
    have K1 := K1.below hB4
    have K2 := K2.below hB4
    have k0 := K0.c
    have k1 := K1.c
    have l2 := K2.lt
    have hX := (LX.out _ _ hg).below hb4
    have hY := LY.out _ _ hh
    have hbw4 : Below w.heap.size w w4 := hbw2.trans (hB4.mono hbw2.size)
    clear hB3 hB4 hb3 hb4 hg hh hbw2
    go_wp2_with fail
  · have HK5 : ∀ w', Below (w.heap.size + 2) w4 w' → Below (w.heap.size + 2) w4 w' ∧ (∀ o, w'.cell? ⟨w.heap.size, o, none⟩ = (#[.int .i64 n, .int .i64 s] : Array Value)[o]?) ∧ (∀ o, w'.cell? ⟨w.heap.size + 1, o, none⟩ = (#[.int .i64 n', .int .i64 s'] : Array Value)[o]?) := fun w' hb => ⟨hb, (K0.low hb (by omega)).c, (K1.low hb (by omega)).c⟩
    have HSM := Lib.hid (sum_same (a := x) (b := y) (by rw [HNX.out, HNY.out]; omega))
    have HF : Hid (∀ bb, bb = decide (n < 0) → decRes bb (x + y).natAbs 6 = .tuple #[.agg #[.int .i64 q1, .int .i64 q2], .int .i64 r]) := Lib.hid (fun bb hbb => by rw [hbb, show decide (n < 0) = decide (x < 0) from HSX.out.symm, HSM.out.2]; exact hres)
    refine wp_region_held_drew (S := (fun w' => Below (w.heap.size + 2) w4 w' ∧ (∀ o, w'.cell? ⟨w.heap.size, o, none⟩ = (#[.int .i64 n, .int .i64 s] : Array Value)[o]?) ∧ (∀ o, w'.cell? ⟨w.heap.size + 1, o, none⟩ = (#[.int .i64 n', .int .i64 s'] : Array Value)[o]?))) (by kernel_rfl) (HK5 _ bel) (fun hHeld => ?_)
    refine tkH 0 ?_
    try simp only [shH]
    refine tkH 1 ?_
    try simp only [shH]
    refine tkH 3 ?_
    try simp only [shH]
    refine tkH 4 ?_
    try simp only [shH]
    refine tkH 5 ?_
    try simp only [shH]
    refine rdH [2] ?_
    refine AllReadyH.cons rfl (fun K hK => ?_) AllReadyH.nil
    go_simp
    go_at_call 59
    refine (refPlus60 g h (x.natAbs * 10 ^ 6) (y.natAbs * 10 ^ 6) _ (hX.below bel) (hY.below bel)).mono ?_
    rintro e w5 ⟨q, rfl, hq, hb5⟩
    have hB5 : Below w4.heap.size w4 w5 := (by first | exact hb5 | exact undrew hb5)
    have hB5' : Below (w.heap.size + 2) w4 w5 := hB5.mono (by omega)
    refine hK.out _ _ ?_ (fun hH2 => ?_)
    · exact HK5 _ bel
    clear hK K hHeld
    have hHeld := hH2
    clear hH2
    try simp only [shH]
    refine rdH [6] ?_
    refine AllReadyH.cons rfl (fun K hK => ?_) AllReadyH.nil
    go_simp
    go_at_call 58
    refine (refDec_any q (x + y).natAbs _ _ (by have h9 := hq; rw [HSM.out.1] at h9; exact h9) (by omega)).mono ?_
    rintro e w6 ⟨rfl, hb6⟩
    have hB6 : Below w4.heap.size w4 w6 := hB5.trans (hb6.mono hB5.size)
    have hB6' : Below (w.heap.size + 2) w4 w6 := hB6.mono (by omega)
    rw [HF.out _ (by first | rfl | exact t1.symm | simp [t1])]
    have K26 := K2.below hB6
    have c2 := K26.c
    have f2 := K26.f
    refine hK.out _ _ ?_ (fun hH2 => ?_)
    · exact HK5 _ bel
    clear hK K hHeld
    have hHeld := hH2
    clear hH2
    try simp only [shH]
    refine tkH 7 ?_
    try simp only [shH]
    refine tkH 8 ?_
    try simp only [shH]
    refine rdH [9] ?_
    refine AllReadyH.cons rfl (fun K hK => ?_) AllReadyH.nil
    go_simp
    refine hK.out _ _ ?_ (fun hH2 => ?_)
    · exact HK5 _ bel
    clear hK K hHeld
    have hHeld := hH2
    clear hH2
    try simp only [shH]
    refine tkH 10 ?_
    try simp only [shH]
    refine dnH ?_ _
    clear hHeld
    (try simp only [Exit.then, Exit.inBlock])
    generalize hWz : (w6.setCell _ _).setCell _ _ = Wz
    have KZ : BoxIs Wz (w.heap.size + 2) #[.int .i64 q1, .int .i64 q2] := by rw [← hWz]; exact (K26.set 0 _).set 1 _
    have hBz : Below (w.heap.size + 2) w4 Wz := by rw [← hWz]; exact bel
    have kz := KZ.c
    have hbz : Below w.heap.size w Wz := hbw4.trans (hBz.mono (by omega))
    clear hWz hB5 hB5' hB6 hB6' hb5 hb6 K26 c2 f2 hBz
    go_wp2_with fail
    refine bodyPost_ret (v := .tuple #[.agg #[.int .i64 q1, .int .i64 q2], .int .i64 r]) (by simp [results, Tryd.results40, go_sem, *]) rfl ⟨?_, bel⟩
    rw [hres]
  · refine (refLess_any g h (dig (x.natAbs * 10 ^ 6)) (dig (y.natAbs * 10 ^ 6)) _ hX hY).mono ?_
    rintro e w9 ⟨rfl, hb9⟩
    rw [hless.out]
    have K0 := K0.below hb9
    have K1 := K1.below hb9
    have K2 := K2.below hb9
    have hX := RowIs.below hX hb9
    have hY := RowIs.below hY hb9
    have hbw9 : Below w.heap.size w w9 := hbw4.trans (hb9.mono hbw4.size)
    clear k0 k1 l2 hbw4 hb9
    have k0 := K0.c
    have k1 := K1.c
    have l2 := K2.lt
    by_cases hlt : x.natAbs < y.natAbs
    · have hlt' : decide (x.natAbs < y.natAbs) = true := decide_eq_true hlt
      rw [hlt']
      go_wp2_with fail
      have HK5 : ∀ w', Below (w.heap.size + 2) w9 w' → Below (w.heap.size + 2) w9 w' ∧ (∀ o, w'.cell? ⟨w.heap.size, o, none⟩ = (#[.int .i64 n, .int .i64 s] : Array Value)[o]?) ∧ (∀ o, w'.cell? ⟨w.heap.size + 1, o, none⟩ = (#[.int .i64 n', .int .i64 s'] : Array Value)[o]?) := fun w' hb => ⟨hb, (K0.low hb (by omega)).c, (K1.low hb (by omega)).c⟩
      have HSM := Lib.hid (sum_less (a := x) (b := y) (by rw [HNX.out, HNY.out]; omega) hlt)
      have HF : Hid (∀ bb, bb = decide (n' < 0) → decRes bb (x + y).natAbs 6 = .tuple #[.agg #[.int .i64 q1, .int .i64 q2], .int .i64 r]) := Lib.hid (fun bb hbb => by rw [hbb, show decide (n' < 0) = decide (y < 0) from HSY.out.symm, HSM.out.2]; exact hres)
      refine wp_region_held_drew (S := (fun w' => Below (w.heap.size + 2) w9 w' ∧ (∀ o, w'.cell? ⟨w.heap.size, o, none⟩ = (#[.int .i64 n, .int .i64 s] : Array Value)[o]?) ∧ (∀ o, w'.cell? ⟨w.heap.size + 1, o, none⟩ = (#[.int .i64 n', .int .i64 s'] : Array Value)[o]?))) (by kernel_rfl) (HK5 _ bel) (fun hHeld => ?_)
      refine tkH 0 ?_
      try simp only [shH]
      refine tkH 1 ?_
      try simp only [shH]
      refine tkH 3 ?_
      try simp only [shH]
      refine tkH 4 ?_
      try simp only [shH]
      refine tkH 5 ?_
      try simp only [shH]
      refine rdH [2] ?_
      refine AllReadyH.cons rfl (fun K hK => ?_) AllReadyH.nil
      go_simp
      go_at_call 60
      refine (refMinus60 h g (y.natAbs * 10 ^ 6) (x.natAbs * 10 ^ 6) _ (by omega) (hY.below bel) (hX.below bel)).mono ?_
      rintro e w5 ⟨q, rfl, hq, hb5⟩
      have hB5 : Below w9.heap.size w9 w5 := (by first | exact hb5 | exact undrew hb5)
      have hB5' : Below (w.heap.size + 2) w9 w5 := hB5.mono (by omega)
      refine hK.out _ _ ?_ (fun hH2 => ?_)
      · exact HK5 _ bel
      clear hK K hHeld
      have hHeld := hH2
      clear hH2
      try simp only [shH]
      refine rdH [6] ?_
      refine AllReadyH.cons rfl (fun K hK => ?_) AllReadyH.nil
      go_simp
      go_at_call 58
      refine (refDec_any q (x + y).natAbs _ _ (by have h9 := hq; rw [HSM.out.1] at h9; exact h9) (by omega)).mono ?_
      rintro e w6 ⟨rfl, hb6⟩
      have hB6 : Below w9.heap.size w9 w6 := hB5.trans (hb6.mono hB5.size)
      have hB6' : Below (w.heap.size + 2) w9 w6 := hB6.mono (by omega)
      rw [HF.out _ (by first | rfl | exact t2.symm | simp [t2])]
      have K26 := K2.below hB6
      have c2 := K26.c
      have f2 := K26.f
      refine hK.out _ _ ?_ (fun hH2 => ?_)
      · exact HK5 _ bel
      clear hK K hHeld
      have hHeld := hH2
      clear hH2
      try simp only [shH]
      refine tkH 7 ?_
      try simp only [shH]
      refine tkH 8 ?_
      try simp only [shH]
      refine rdH [9] ?_
      refine AllReadyH.cons rfl (fun K hK => ?_) AllReadyH.nil
      go_simp
      refine hK.out _ _ ?_ (fun hH2 => ?_)
      · exact HK5 _ bel
      clear hK K hHeld
      have hHeld := hH2
      clear hH2
      try simp only [shH]
      refine tkH 10 ?_
      try simp only [shH]
      refine dnH ?_ _
      clear hHeld
      (try simp only [Exit.then, Exit.inBlock])
      generalize hWz : (w6.setCell _ _).setCell _ _ = Wz
      have KZ : BoxIs Wz (w.heap.size + 2) #[.int .i64 q1, .int .i64 q2] := by rw [← hWz]; exact (K26.set 0 _).set 1 _
      have hBz : Below (w.heap.size + 2) w9 Wz := by rw [← hWz]; exact bel
      have kz := KZ.c
      have hbz : Below w.heap.size w Wz := hbw9.trans (hBz.mono (by omega))
      clear hWz hB5 hB5' hB6 hB6' hb5 hb6 K26 c2 f2 hBz
      go_wp2_with fail
      refine bodyPost_ret (v := .tuple #[.agg #[.int .i64 q1, .int .i64 q2], .int .i64 r]) (by simp [results, Tryd.results40, go_sem, *]) rfl ⟨?_, bel⟩
      rw [hres]
    · have hlt' : decide (x.natAbs < y.natAbs) = false := decide_eq_false hlt
      rw [hlt']
      go_wp2_with fail
      have HK5 : ∀ w', Below (w.heap.size + 2) w9 w' → Below (w.heap.size + 2) w9 w' ∧ (∀ o, w'.cell? ⟨w.heap.size, o, none⟩ = (#[.int .i64 n, .int .i64 s] : Array Value)[o]?) ∧ (∀ o, w'.cell? ⟨w.heap.size + 1, o, none⟩ = (#[.int .i64 n', .int .i64 s'] : Array Value)[o]?) := fun w' hb => ⟨hb, (K0.low hb (by omega)).c, (K1.low hb (by omega)).c⟩
      have HSM := Lib.hid (sum_more (a := x) (b := y) (by rw [HNX.out, HNY.out]; omega) hlt)
      have HF : Hid (∀ bb, bb = decide (n < 0) → decRes bb (x + y).natAbs 6 = .tuple #[.agg #[.int .i64 q1, .int .i64 q2], .int .i64 r]) := Lib.hid (fun bb hbb => by rw [hbb, show decide (n < 0) = decide (x < 0) from HSX.out.symm, HSM.out.2]; exact hres)
      refine wp_region_held_drew (S := (fun w' => Below (w.heap.size + 2) w9 w' ∧ (∀ o, w'.cell? ⟨w.heap.size, o, none⟩ = (#[.int .i64 n, .int .i64 s] : Array Value)[o]?) ∧ (∀ o, w'.cell? ⟨w.heap.size + 1, o, none⟩ = (#[.int .i64 n', .int .i64 s'] : Array Value)[o]?))) (by kernel_rfl) (HK5 _ bel) (fun hHeld => ?_)
      refine tkH 0 ?_
      try simp only [shH]
      refine tkH 1 ?_
      try simp only [shH]
      refine tkH 3 ?_
      try simp only [shH]
      refine tkH 4 ?_
      try simp only [shH]
      refine tkH 5 ?_
      try simp only [shH]
      refine rdH [2] ?_
      refine AllReadyH.cons rfl (fun K hK => ?_) AllReadyH.nil
      go_simp
      go_at_call 60
      refine (refMinus60 g h (x.natAbs * 10 ^ 6) (y.natAbs * 10 ^ 6) _ (by omega) (hX.below bel) (hY.below bel)).mono ?_
      rintro e w5 ⟨q, rfl, hq, hb5⟩
      have hB5 : Below w9.heap.size w9 w5 := (by first | exact hb5 | exact undrew hb5)
      have hB5' : Below (w.heap.size + 2) w9 w5 := hB5.mono (by omega)
      refine hK.out _ _ ?_ (fun hH2 => ?_)
      · exact HK5 _ bel
      clear hK K hHeld
      have hHeld := hH2
      clear hH2
      try simp only [shH]
      refine rdH [6] ?_
      refine AllReadyH.cons rfl (fun K hK => ?_) AllReadyH.nil
      go_simp
      go_at_call 58
      refine (refDec_any q (x + y).natAbs _ _ (by have h9 := hq; rw [HSM.out.1] at h9; exact h9) (by omega)).mono ?_
      rintro e w6 ⟨rfl, hb6⟩
      have hB6 : Below w9.heap.size w9 w6 := hB5.trans (hb6.mono hB5.size)
      have hB6' : Below (w.heap.size + 2) w9 w6 := hB6.mono (by omega)
      rw [HF.out _ (by first | rfl | exact t1.symm | simp [t1])]
      have K26 := K2.below hB6
      have c2 := K26.c
      have f2 := K26.f
      refine hK.out _ _ ?_ (fun hH2 => ?_)
      · exact HK5 _ bel
      clear hK K hHeld
      have hHeld := hH2
      clear hH2
      try simp only [shH]
      refine tkH 7 ?_
      try simp only [shH]
      refine tkH 8 ?_
      try simp only [shH]
      refine rdH [9] ?_
      refine AllReadyH.cons rfl (fun K hK => ?_) AllReadyH.nil
      go_simp
      refine hK.out _ _ ?_ (fun hH2 => ?_)
      · exact HK5 _ bel
      clear hK K hHeld
      have hHeld := hH2
      clear hH2
      try simp only [shH]
      refine tkH 10 ?_
      try simp only [shH]
      refine dnH ?_ _
      clear hHeld
      (try simp only [Exit.then, Exit.inBlock])
      generalize hWz : (w6.setCell _ _).setCell _ _ = Wz
      have KZ : BoxIs Wz (w.heap.size + 2) #[.int .i64 q1, .int .i64 q2] := by rw [← hWz]; exact (K26.set 0 _).set 1 _
      have hBz : Below (w.heap.size + 2) w9 Wz := by rw [← hWz]; exact bel
      have kz := KZ.c
      have hbz : Below w.heap.size w Wz := hbw9.trans (hBz.mono (by omega))
      clear hWz hB5 hB5' hB6 hB6' hb5 hb6 K26 c2 f2 hBz
      go_wp2_with fail
      refine bodyPost_ret (v := .tuple #[.agg #[.int .i64 q1, .int .i64 q2], .int .i64 r]) (by simp [results, Tryd.results40, go_sem, *]) rfl ⟨?_, bel⟩
      rw [hres]
  · refine (refLess_any g h (dig (x.natAbs * 10 ^ 6)) (dig (y.natAbs * 10 ^ 6)) _ hX hY).mono ?_
    rintro e w9 ⟨rfl, hb9⟩
    rw [hless.out]
    have K0 := K0.below hb9
    have K1 := K1.below hb9
    have K2 := K2.below hb9
    have hX := RowIs.below hX hb9
    have hY := RowIs.below hY hb9
    have hbw9 : Below w.heap.size w w9 := hbw4.trans (hb9.mono hbw4.size)
    clear k0 k1 l2 hbw4 hb9
    have k0 := K0.c
    have k1 := K1.c
    have l2 := K2.lt
    by_cases hlt : x.natAbs < y.natAbs
    · have hlt' : decide (x.natAbs < y.natAbs) = true := decide_eq_true hlt
      rw [hlt']
      go_wp2_with fail
      have HK5 : ∀ w', Below (w.heap.size + 2) w9 w' → Below (w.heap.size + 2) w9 w' ∧ (∀ o, w'.cell? ⟨w.heap.size, o, none⟩ = (#[.int .i64 n, .int .i64 s] : Array Value)[o]?) ∧ (∀ o, w'.cell? ⟨w.heap.size + 1, o, none⟩ = (#[.int .i64 n', .int .i64 s'] : Array Value)[o]?) := fun w' hb => ⟨hb, (K0.low hb (by omega)).c, (K1.low hb (by omega)).c⟩
      have HSM := Lib.hid (sum_less (a := x) (b := y) (by rw [HNX.out, HNY.out]; omega) hlt)
      have HF : Hid (∀ bb, bb = decide (n' < 0) → decRes bb (x + y).natAbs 6 = .tuple #[.agg #[.int .i64 q1, .int .i64 q2], .int .i64 r]) := Lib.hid (fun bb hbb => by rw [hbb, show decide (n' < 0) = decide (y < 0) from HSY.out.symm, HSM.out.2]; exact hres)
      refine wp_region_held_drew (S := (fun w' => Below (w.heap.size + 2) w9 w' ∧ (∀ o, w'.cell? ⟨w.heap.size, o, none⟩ = (#[.int .i64 n, .int .i64 s] : Array Value)[o]?) ∧ (∀ o, w'.cell? ⟨w.heap.size + 1, o, none⟩ = (#[.int .i64 n', .int .i64 s'] : Array Value)[o]?))) (by kernel_rfl) (HK5 _ bel) (fun hHeld => ?_)
      refine tkH 0 ?_
      try simp only [shH]
      refine tkH 1 ?_
      try simp only [shH]
      refine tkH 3 ?_
      try simp only [shH]
      refine tkH 4 ?_
      try simp only [shH]
      refine tkH 5 ?_
      try simp only [shH]
      refine rdH [2] ?_
      refine AllReadyH.cons rfl (fun K hK => ?_) AllReadyH.nil
      go_simp
      go_at_call 60
      refine (refMinus60 h g (y.natAbs * 10 ^ 6) (x.natAbs * 10 ^ 6) _ (by omega) (hY.below bel) (hX.below bel)).mono ?_
      rintro e w5 ⟨q, rfl, hq, hb5⟩
      have hB5 : Below w9.heap.size w9 w5 := (by first | exact hb5 | exact undrew hb5)
      have hB5' : Below (w.heap.size + 2) w9 w5 := hB5.mono (by omega)
      refine hK.out _ _ ?_ (fun hH2 => ?_)
      · exact HK5 _ bel
      clear hK K hHeld
      have hHeld := hH2
      clear hH2
      try simp only [shH]
      refine rdH [6] ?_
      refine AllReadyH.cons rfl (fun K hK => ?_) AllReadyH.nil
      go_simp
      go_at_call 58
      refine (refDec_any q (x + y).natAbs _ _ (by have h9 := hq; rw [HSM.out.1] at h9; exact h9) (by omega)).mono ?_
      rintro e w6 ⟨rfl, hb6⟩
      have hB6 : Below w9.heap.size w9 w6 := hB5.trans (hb6.mono hB5.size)
      have hB6' : Below (w.heap.size + 2) w9 w6 := hB6.mono (by omega)
      rw [HF.out _ (by first | rfl | exact t2.symm | simp [t2])]
      have K26 := K2.below hB6
      have c2 := K26.c
      have f2 := K26.f
      refine hK.out _ _ ?_ (fun hH2 => ?_)
      · exact HK5 _ bel
      clear hK K hHeld
      have hHeld := hH2
      clear hH2
      try simp only [shH]
      refine tkH 7 ?_
      try simp only [shH]
      refine tkH 8 ?_
      try simp only [shH]
      refine rdH [9] ?_
      refine AllReadyH.cons rfl (fun K hK => ?_) AllReadyH.nil
      go_simp
      refine hK.out _ _ ?_ (fun hH2 => ?_)
      · exact HK5 _ bel
      clear hK K hHeld
      have hHeld := hH2
      clear hH2
      try simp only [shH]
      refine tkH 10 ?_
      try simp only [shH]
      refine dnH ?_ _
      clear hHeld
      (try simp only [Exit.then, Exit.inBlock])
      generalize hWz : (w6.setCell _ _).setCell _ _ = Wz
      have KZ : BoxIs Wz (w.heap.size + 2) #[.int .i64 q1, .int .i64 q2] := by rw [← hWz]; exact (K26.set 0 _).set 1 _
      have hBz : Below (w.heap.size + 2) w9 Wz := by rw [← hWz]; exact bel
      have kz := KZ.c
      have hbz : Below w.heap.size w Wz := hbw9.trans (hBz.mono (by omega))
      clear hWz hB5 hB5' hB6 hB6' hb5 hb6 K26 c2 f2 hBz
      go_wp2_with fail
      refine bodyPost_ret (v := .tuple #[.agg #[.int .i64 q1, .int .i64 q2], .int .i64 r]) (by simp [results, Tryd.results40, go_sem, *]) rfl ⟨?_, bel⟩
      rw [hres]
    · have hlt' : decide (x.natAbs < y.natAbs) = false := decide_eq_false hlt
      rw [hlt']
      go_wp2_with fail
      have HK5 : ∀ w', Below (w.heap.size + 2) w9 w' → Below (w.heap.size + 2) w9 w' ∧ (∀ o, w'.cell? ⟨w.heap.size, o, none⟩ = (#[.int .i64 n, .int .i64 s] : Array Value)[o]?) ∧ (∀ o, w'.cell? ⟨w.heap.size + 1, o, none⟩ = (#[.int .i64 n', .int .i64 s'] : Array Value)[o]?) := fun w' hb => ⟨hb, (K0.low hb (by omega)).c, (K1.low hb (by omega)).c⟩
      have HSM := Lib.hid (sum_more (a := x) (b := y) (by rw [HNX.out, HNY.out]; omega) hlt)
      have HF : Hid (∀ bb, bb = decide (n < 0) → decRes bb (x + y).natAbs 6 = .tuple #[.agg #[.int .i64 q1, .int .i64 q2], .int .i64 r]) := Lib.hid (fun bb hbb => by rw [hbb, show decide (n < 0) = decide (x < 0) from HSX.out.symm, HSM.out.2]; exact hres)
      refine wp_region_held_drew (S := (fun w' => Below (w.heap.size + 2) w9 w' ∧ (∀ o, w'.cell? ⟨w.heap.size, o, none⟩ = (#[.int .i64 n, .int .i64 s] : Array Value)[o]?) ∧ (∀ o, w'.cell? ⟨w.heap.size + 1, o, none⟩ = (#[.int .i64 n', .int .i64 s'] : Array Value)[o]?))) (by kernel_rfl) (HK5 _ bel) (fun hHeld => ?_)
      refine tkH 0 ?_
      try simp only [shH]
      refine tkH 1 ?_
      try simp only [shH]
      refine tkH 3 ?_
      try simp only [shH]
      refine tkH 4 ?_
      try simp only [shH]
      refine tkH 5 ?_
      try simp only [shH]
      refine rdH [2] ?_
      refine AllReadyH.cons rfl (fun K hK => ?_) AllReadyH.nil
      go_simp
      go_at_call 60
      refine (refMinus60 g h (x.natAbs * 10 ^ 6) (y.natAbs * 10 ^ 6) _ (by omega) (hX.below bel) (hY.below bel)).mono ?_
      rintro e w5 ⟨q, rfl, hq, hb5⟩
      have hB5 : Below w9.heap.size w9 w5 := (by first | exact hb5 | exact undrew hb5)
      have hB5' : Below (w.heap.size + 2) w9 w5 := hB5.mono (by omega)
      refine hK.out _ _ ?_ (fun hH2 => ?_)
      · exact HK5 _ bel
      clear hK K hHeld
      have hHeld := hH2
      clear hH2
      try simp only [shH]
      refine rdH [6] ?_
      refine AllReadyH.cons rfl (fun K hK => ?_) AllReadyH.nil
      go_simp
      go_at_call 58
      refine (refDec_any q (x + y).natAbs _ _ (by have h9 := hq; rw [HSM.out.1] at h9; exact h9) (by omega)).mono ?_
      rintro e w6 ⟨rfl, hb6⟩
      have hB6 : Below w9.heap.size w9 w6 := hB5.trans (hb6.mono hB5.size)
      have hB6' : Below (w.heap.size + 2) w9 w6 := hB6.mono (by omega)
      rw [HF.out _ (by first | rfl | exact t1.symm | simp [t1])]
      have K26 := K2.below hB6
      have c2 := K26.c
      have f2 := K26.f
      refine hK.out _ _ ?_ (fun hH2 => ?_)
      · exact HK5 _ bel
      clear hK K hHeld
      have hHeld := hH2
      clear hH2
      try simp only [shH]
      refine tkH 7 ?_
      try simp only [shH]
      refine tkH 8 ?_
      try simp only [shH]
      refine rdH [9] ?_
      refine AllReadyH.cons rfl (fun K hK => ?_) AllReadyH.nil
      go_simp
      refine hK.out _ _ ?_ (fun hH2 => ?_)
      · exact HK5 _ bel
      clear hK K hHeld
      have hHeld := hH2
      clear hH2
      try simp only [shH]
      refine tkH 10 ?_
      try simp only [shH]
      refine dnH ?_ _
      clear hHeld
      (try simp only [Exit.then, Exit.inBlock])
      generalize hWz : (w6.setCell _ _).setCell _ _ = Wz
      have KZ : BoxIs Wz (w.heap.size + 2) #[.int .i64 q1, .int .i64 q2] := by rw [← hWz]; exact (K26.set 0 _).set 1 _
      have hBz : Below (w.heap.size + 2) w9 Wz := by rw [← hWz]; exact bel
      have kz := KZ.c
      have hbz : Below w.heap.size w Wz := hbw9.trans (hBz.mono (by omega))
      clear hWz hB5 hB5' hB6 hB6' hb5 hb6 K26 c2 f2 hBz
      go_wp2_with fail
      refine bodyPost_ret (v := .tuple #[.agg #[.int .i64 q1, .int .i64 q2], .int .i64 r]) (by simp [results, Tryd.results40, go_sem, *]) rfl ⟨?_, bel⟩
      rw [hres]
  · have HK5 : ∀ w', Below (w.heap.size + 2) w4 w' → Below (w.heap.size + 2) w4 w' ∧ (∀ o, w'.cell? ⟨w.heap.size, o, none⟩ = (#[.int .i64 n, .int .i64 s] : Array Value)[o]?) ∧ (∀ o, w'.cell? ⟨w.heap.size + 1, o, none⟩ = (#[.int .i64 n', .int .i64 s'] : Array Value)[o]?) := fun w' hb => ⟨hb, (K0.low hb (by omega)).c, (K1.low hb (by omega)).c⟩
    have HSM := Lib.hid (sum_same (a := x) (b := y) (by rw [HNX.out, HNY.out]; omega))
    have HF : Hid (∀ bb, bb = decide (n < 0) → decRes bb (x + y).natAbs 6 = .tuple #[.agg #[.int .i64 q1, .int .i64 q2], .int .i64 r]) := Lib.hid (fun bb hbb => by rw [hbb, show decide (n < 0) = decide (x < 0) from HSX.out.symm, HSM.out.2]; exact hres)
    refine wp_region_held_drew (S := (fun w' => Below (w.heap.size + 2) w4 w' ∧ (∀ o, w'.cell? ⟨w.heap.size, o, none⟩ = (#[.int .i64 n, .int .i64 s] : Array Value)[o]?) ∧ (∀ o, w'.cell? ⟨w.heap.size + 1, o, none⟩ = (#[.int .i64 n', .int .i64 s'] : Array Value)[o]?))) (by kernel_rfl) (HK5 _ bel) (fun hHeld => ?_)
    refine tkH 0 ?_
    try simp only [shH]
    refine tkH 1 ?_
    try simp only [shH]
    refine tkH 3 ?_
    try simp only [shH]
    refine tkH 4 ?_
    try simp only [shH]
    refine tkH 5 ?_
    try simp only [shH]
    refine rdH [2] ?_
    refine AllReadyH.cons rfl (fun K hK => ?_) AllReadyH.nil
    go_simp
    go_at_call 59
    refine (refPlus60 g h (x.natAbs * 10 ^ 6) (y.natAbs * 10 ^ 6) _ (hX.below bel) (hY.below bel)).mono ?_
    rintro e w5 ⟨q, rfl, hq, hb5⟩
    have hB5 : Below w4.heap.size w4 w5 := (by first | exact hb5 | exact undrew hb5)
    have hB5' : Below (w.heap.size + 2) w4 w5 := hB5.mono (by omega)
    refine hK.out _ _ ?_ (fun hH2 => ?_)
    · exact HK5 _ bel
    clear hK K hHeld
    have hHeld := hH2
    clear hH2
    try simp only [shH]
    refine rdH [6] ?_
    refine AllReadyH.cons rfl (fun K hK => ?_) AllReadyH.nil
    go_simp
    go_at_call 58
    refine (refDec_any q (x + y).natAbs _ _ (by have h9 := hq; rw [HSM.out.1] at h9; exact h9) (by omega)).mono ?_
    rintro e w6 ⟨rfl, hb6⟩
    have hB6 : Below w4.heap.size w4 w6 := hB5.trans (hb6.mono hB5.size)
    have hB6' : Below (w.heap.size + 2) w4 w6 := hB6.mono (by omega)
    rw [HF.out _ (by first | rfl | exact t1.symm | simp [t1])]
    have K26 := K2.below hB6
    have c2 := K26.c
    have f2 := K26.f
    refine hK.out _ _ ?_ (fun hH2 => ?_)
    · exact HK5 _ bel
    clear hK K hHeld
    have hHeld := hH2
    clear hH2
    try simp only [shH]
    refine tkH 7 ?_
    try simp only [shH]
    refine tkH 8 ?_
    try simp only [shH]
    refine rdH [9] ?_
    refine AllReadyH.cons rfl (fun K hK => ?_) AllReadyH.nil
    go_simp
    refine hK.out _ _ ?_ (fun hH2 => ?_)
    · exact HK5 _ bel
    clear hK K hHeld
    have hHeld := hH2
    clear hH2
    try simp only [shH]
    refine tkH 10 ?_
    try simp only [shH]
    refine dnH ?_ _
    clear hHeld
    (try simp only [Exit.then, Exit.inBlock])
    generalize hWz : (w6.setCell _ _).setCell _ _ = Wz
    have KZ : BoxIs Wz (w.heap.size + 2) #[.int .i64 q1, .int .i64 q2] := by rw [← hWz]; exact (K26.set 0 _).set 1 _
    have hBz : Below (w.heap.size + 2) w4 Wz := by rw [← hWz]; exact bel
    have kz := KZ.c
    have hbz : Below w.heap.size w Wz := hbw4.trans (hBz.mono (by omega))
    clear hWz hB5 hB5' hB6 hB6' hb5 hb6 K26 c2 f2 hBz
    go_wp2_with fail
    refine bodyPost_ret (v := .tuple #[.agg #[.int .i64 q1, .int .i64 q2], .int .i64 r]) (by simp [results, Tryd.results40, go_sem, *]) rfl ⟨?_, bel⟩
    rw [hres]
end Go.Proofs.YtfhmjkdpohepaaaDoor
