import Derived.Test.YtankkadnhdfpfaaGreatDoorPk14
import Derived.Test.YtankkadnhdfpfaaGreatDoorPk28
import Derived.Test.YtankkadnhdfpfaaGreatDoorPk13
import Derived.Test.YtankkadnhdfpfaaGreatDoorPk17
import Derived.Test.YtankkadnhdfpfaaGreatDoorPk24
import Derived.Test.YtankkadnhdfpfaaGreatDoorPk42
import Derived.Test.YtankkadnhdfpfaaGreatDoorPk01
import Derived.Test.YtankkadnhdfpfaaGreatDoorPk46
/- soffit/sets.Has: walked. -/
set_option linter.unusedSimpArgs false
set_option linter.unusedVariables false
namespace Go.Proofs.YtankkadnhdfpfaaGreatDoor
open Go.RowKit Sp Wd

set_option maxRecDepth 100000 in
set_option maxHeartbeats 6400000 in
theorem setHas_any (t : Ty) (s : St) (v : Vl) (T A B : Option Addr) (ct ca cb : Nat) (w : World) (hT : TyAt w t T) (hS : StAt w s A B) (hv : v.wf) (hn1 : s.sp.length ≤ 9223372036854775807) (hn2 : s.ws.length ≤ 9223372036854775807) (hE : Env w) :
    Calls Tryz.prog 18 #[.agg #[.int .i64 t.k, .int .i64 t.sc, .bool t.c.any, .bool t.c.neg, .slice T t.c.ts.length ct], .agg #[.int .i64 s.k, .slice A s.sp.length ca, .bool s.al, .slice B s.ws.length cb, .int .i64 s.b, .bool s.nul], .agg #[.int .i64 v.k, .int .i64 v.n, .int .i64 v.s, .string v.t, .int .i64 v.i]] w fun e w' => e = .returned (.bool (hasSt t s v)) ∧ Below w.heap.size w w' := by
  have HT := Lib.hid hT
  have HS := Lib.hid hS
  have HV := Lib.hid hv
  have N1 := Lib.hid hn1
  have N2 := Lib.hid hn2
  have HE := Lib.hid hE
  clear hE
  clear hT hS hv hn1 hn2
  cases hi : inTy t v
  · have HB := Lib.hid (has_no (s := s) hi)
    have HI := Lib.hid hi
    clear hi
    go_enter Tryz.func18, Tryz.ntmps18
    go_wp2_with fail
    refine (setIn_any t v T ct _ (HT.out.below bel) HV.out (HE.out.below bel)).mono ?_
    rintro e w1 ⟨rfl, hb1⟩
    rw [HI.out]
    have hz1 := hb1.size
    try simp at hz1
    obtain ⟨q1_0, l1_0, r1_0⟩ := aft hb1 (w.heap.size)
    obtain ⟨q1_1, l1_1, r1_1⟩ := aft hb1 (w.heap.size + 1)
    obtain ⟨q1_2, l1_2, r1_2⟩ := aft hb1 (w.heap.size + 2)
    go_wp2_with fail
    go_ret
    exact ⟨ret_bool HB.out.symm, bel⟩
  · have HI := Lib.hid hi
    by_cases hk : s.k = t.k
    rotate_left
    · have e1 : (s.k != t.k) = true := by rw [bne_iff_ne]; exact hk
      have HB := Lib.hid (has_ne (v := v) (show (s.k == t.k) = false by simp [hk]))
      clear hi hk
      go_enter Tryz.func18, Tryz.ntmps18
      go_wp2_with fail
      refine (setIn_any t v T ct _ (HT.out.below bel) HV.out (HE.out.below bel)).mono ?_
      rintro e w1 ⟨rfl, hb1⟩
      rw [HI.out]
      have hz1 := hb1.size
      try simp at hz1
      obtain ⟨q1_0, l1_0, r1_0⟩ := aft hb1 (w.heap.size)
      obtain ⟨q1_1, l1_1, r1_1⟩ := aft hb1 (w.heap.size + 1)
      obtain ⟨q1_2, l1_2, r1_2⟩ := aft hb1 (w.heap.size + 2)
      go_wp2_with fail
      go_ret
      exact ⟨ret_bool HB.out.symm, bel⟩
    · have e1 : (s.k != t.k) = false := by simp [hk]
      rcases five_k hi with h | h | h | ⟨h0, h2, h3⟩
      · have HB := Lib.hid (has_0 hi hk h)
        have e2 : (v.k == 0) = true := by simp [h]
        clear hi hk h
        go_enter Tryz.func18, Tryz.ntmps18
        go_wp2_with fail
        refine (setIn_any t v T ct _ (HT.out.below bel) HV.out (HE.out.below bel)).mono ?_
        rintro e w1 ⟨rfl, hb1⟩
        rw [HI.out]
        have hz1 := hb1.size
        try simp at hz1
        obtain ⟨q1_0, l1_0, r1_0⟩ := aft hb1 (w.heap.size)
        obtain ⟨q1_1, l1_1, r1_1⟩ := aft hb1 (w.heap.size + 1)
        obtain ⟨q1_2, l1_2, r1_2⟩ := aft hb1 (w.heap.size + 2)
        go_wp2_with fail
        go_ret
        exact ⟨ret_bool HB.out.symm, bel⟩
      · have HB := Lib.hid (has_2 hi hk h)
        have e2 : (v.k == 0) = false := by simp [h]
        have e3 : (v.k == 2) = true := by simp [h]
        have HTX : Hid ((txt v).length ≤ 9223372036854775807) := by show _ ≤ _; rw [txt_len]; have := (sndTwo (in_fit hi).2.2.2.1 h).2.2.2.1; omega
        have HST : Hid ((.string v.t : Value) = encStr (txt v)) := by show _ = Value.string (bs (txt v)); rw [bs_txt]
        clear hi hk h
        go_enter Tryz.func18, Tryz.ntmps18
        go_wp2_with fail
        refine (setIn_any t v T ct _ (HT.out.below bel) HV.out (HE.out.below bel)).mono ?_
        rintro e w1 ⟨rfl, hb1⟩
        rw [HI.out]
        have hz1 := hb1.size
        try simp at hz1
        obtain ⟨q1_0, l1_0, r1_0⟩ := aft hb1 (w.heap.size)
        obtain ⟨q1_1, l1_1, r1_1⟩ := aft hb1 (w.heap.size + 1)
        obtain ⟨q1_2, l1_2, r1_2⟩ := aft hb1 (w.heap.size + 2)
        go_wp2_with fail
        rw [HST.out]
        refine (Wd.has_any s.al B s.ws cb (txt v) _ (HE.out.below bel) (HS.out.ws.below bel) N2.out HTX.out).mono ?_
        rintro e w2 ⟨rfl, hb2⟩
        rw [← HB.out]
        go_wp2_with fail
        go_ret
        exact ⟨rfl, bel⟩
      · have e2 : (v.k == 0) = false := by simp [h]
        have e3 : (v.k == 2) = false := by simp [h]
        have e4 : (v.k == 3) = true := by simp [h]
        rcases has_3 hi hk h with ⟨hvi, hB⟩ | ⟨hvi, hB⟩
        all_goals
          have HB := Lib.hid hB
          have HVI := Lib.hid hvi
          clear hi hk h hB hvi
          go_enter Tryz.func18, Tryz.ntmps18
          go_wp2_with fail
          refine (setIn_any t v T ct _ (HT.out.below bel) HV.out (HE.out.below bel)).mono ?_
          rintro e w1 ⟨rfl, hb1⟩
          rw [HI.out]
          have hvi := HVI.out
          have hz1 := hb1.size
          try simp at hz1
          obtain ⟨q1_0, l1_0, r1_0⟩ := aft hb1 (w.heap.size)
          obtain ⟨q1_1, l1_1, r1_1⟩ := aft hb1 (w.heap.size + 1)
          obtain ⟨q1_2, l1_2, r1_2⟩ := aft hb1 (w.heap.size + 2)
          go_wp2_with fail
          go_ret
          exact ⟨ret_bool (by rw [i64_and1]; exact HB.out.symm), bel⟩
      · obtain ⟨hB, hsc, hdc⟩ := has_14 hi hk h0 h2 h3
        have HSC := Lib.hid hsc
        have HDC := Lib.hid hdc
        have e2 : (v.k == 0) = false := by simp [h0]
        have e3 : (v.k == 2) = false := by simp [h2]
        have e4 : (v.k == 3) = false := by simp [h3]
        obtain ⟨N, hN⟩ : ∃ N, unitsV t.sc v = N := ⟨_, rfl⟩
        rw [hN] at hB
        have HUE := Lib.hid hN
        have HB := Lib.hid hB
        clear hi hk h0 h2 h3 hB hsc hdc hN
        go_enter Tryz.func18, Tryz.ntmps18
        go_wp2_with fail
        generalize hW0 : ((w.alloc _).alloc _).alloc _ = W00
        have hb00 : Below w.heap.size w W00 := (by rw [← hW0]; exact bel)
        have K0 : BoxIs W00 w.heap.size #[.int .i64 t.k, .int .i64 t.sc, .bool t.c.any, .bool t.c.neg, .slice T t.c.ts.length ct] := (by rw [← hW0]; exact ((BoxIs.new (t := 26) rfl).alloc _).alloc _)
        have K1 : BoxIs W00 (w.heap.size + 1) #[.int .i64 s.k, .slice A s.sp.length ca, .bool s.al, .slice B s.ws.length cb, .int .i64 s.b, .bool s.nul] := (by rw [← hW0]; exact (BoxIs.new (t := 36) (by simp)).alloc _)
        have K2 : BoxIs W00 (w.heap.size + 2) #[.int .i64 v.k, .int .i64 v.n, .int .i64 v.s, .string v.t, .int .i64 v.i] := (by rw [← hW0]; exact BoxIs.new (t := 30) (by simp))
        clear hW0
        refine (setIn_any t v T ct _ (HT.out.below hb00) HV.out (HE.out.below hb00)).mono ?_
        rintro e W0 ⟨rfl, hb1⟩
        rw [HI.out]
        have K0 := K0.below hb1
        have K1 := K1.below hb1
        have K2 := K2.below hb1
        have c0 := K0.c
        have l0 := K0.lt
        have c1 := K1.c
        have l1 := K1.lt
        have c2 := K2.c
        have l2 := K2.lt
        have hbw0 : Below w.heap.size w W0 := hb00.trans (hb1.mono hb00.size)
        clear hb1 hb00
        go_wp2_with fail
        have HK : ∀ w', Below W0.heap.size W0 w' → Below W0.heap.size W0 w' ∧ (∀ o, w'.cell? ⟨w.heap.size, o, none⟩ = (#[.int .i64 t.k, .int .i64 t.sc, .bool t.c.any, .bool t.c.neg, .slice T t.c.ts.length ct] : Array Value)[o]?) ∧ (∀ o, w'.cell? ⟨w.heap.size + 1, o, none⟩ = (#[.int .i64 s.k, .slice A s.sp.length ca, .bool s.al, .slice B s.ws.length cb, .int .i64 s.b, .bool s.nul] : Array Value)[o]?) ∧ (∀ o, w'.cell? ⟨w.heap.size + 2, o, none⟩ = (#[.int .i64 v.k, .int .i64 v.n, .int .i64 v.s, .string v.t, .int .i64 v.i] : Array Value)[o]?) := fun w' hb => ⟨hb, (K0.below hb).c, (K1.below hb).c, (K2.below hb).c⟩
        refine wp_region_held_drew (S := (fun w' => Below W0.heap.size W0 w' ∧ (∀ o, w'.cell? ⟨w.heap.size, o, none⟩ = (#[.int .i64 t.k, .int .i64 t.sc, .bool t.c.any, .bool t.c.neg, .slice T t.c.ts.length ct] : Array Value)[o]?) ∧ (∀ o, w'.cell? ⟨w.heap.size + 1, o, none⟩ = (#[.int .i64 s.k, .slice A s.sp.length ca, .bool s.al, .slice B s.ws.length cb, .int .i64 s.b, .bool s.nul] : Array Value)[o]?) ∧ (∀ o, w'.cell? ⟨w.heap.size + 2, o, none⟩ = (#[.int .i64 v.k, .int .i64 v.n, .int .i64 v.s, .string v.t, .int .i64 v.i] : Array Value)[o]?))) (by kernel_rfl) (HK _ (Below.drew (Below.refl _ _))) (fun hHeld => ?_)
        refine tkH 0 ?_
        try simp only [shH]
        refine tkH 1 ?_
        try simp only [shH]
        refine tkH 2 ?_
        try simp only [shH]
        refine tkH 3 ?_
        try simp only [shH]
        refine rdH [4] ?_
        refine AllReadyH.cons rfl (fun K hK => ?_) AllReadyH.nil
        go_simp
        refine (units_v t v T ct _ HV.out HSC.out HDC.out).mono ?_
        rintro e w1 ⟨rfl, hb1⟩
        rw [HUE.out]
        have hB1 : Below W0.heap.size W0 w1 := (by first | exact hb1 | exact undrew hb1)
        refine hK.out _ _ ?_ (fun hH2 => ?_)
        · exact HK _ hB1
        clear hK K hHeld
        have hHeld := hH2
        clear hH2
        try simp only [shH]
        refine rdH [5] ?_
        refine AllReadyH.cons rfl (fun K hK => ?_) AllReadyH.nil
        go_simp
        refine (Sp.has_any s.sp N A ca _ (HS.out.sp.below (hbw0.trans (hB1.mono hbw0.size))) N1.out).mono ?_
        rintro e w2 ⟨rfl, hb2⟩
        rw [← HB.out]
        have hB2 : Below W0.heap.size W0 w2 := hB1.trans (hb2.mono hB1.size)
        refine hK.out _ _ ?_ (fun hH2 => ?_)
        · exact HK _ hB2
        clear hK K hHeld
        have hHeld := hH2
        clear hH2
        try simp only [shH]
        refine tkH 6 ?_
        try simp only [shH]
        refine dnH ?_ _
        clear hHeld
        (try simp only [Exit.then, Exit.inBlock])
        have hbw2 : Below w.heap.size w w2 := hbw0.trans (hB2.mono hbw0.size)
        go_wp2_with fail
        go_ret
        exact ⟨rfl, hbw2⟩
end Go.Proofs.YtankkadnhdfpfaaGreatDoor

/- soffit/soffitref15.Has: walked. -/
set_option linter.unusedSimpArgs false
set_option linter.unusedVariables false
namespace Go.Proofs.YtankkadnhdfpfaaGreatDoor
open Go.RowKit Sp Wd

set_option maxRecDepth 100000 in
set_option maxHeartbeats 6400000 in
theorem rHas_any (t : Ty) (s : St) (v : Vl) (T A B : Option Addr) (ct ca cb : Nat) (w : World) (hT : TyAt w t T) (hS : StAt w s A B) (hv : v.wf) (hn1 : s.sp.length ≤ 9223372036854775807) (hn2 : s.ws.length ≤ 9223372036854775807) :
    Calls Tryz.prog 30 #[.agg #[.int .i64 t.k, .int .i64 t.sc, .bool t.c.any, .bool t.c.neg, .slice T t.c.ts.length ct], .agg #[.int .i64 s.k, .slice A s.sp.length ca, .bool s.al, .slice B s.ws.length cb, .int .i64 s.b, .bool s.nul], .agg #[.int .i64 v.k, .int .i64 v.n, .int .i64 v.s, .string v.t, .int .i64 v.i]] w fun e w' => e = .returned (.bool (hasSt t s v)) ∧ Below w.heap.size w w' := by
  have HT := Lib.hid hT
  have HS := Lib.hid hS
  have HV := Lib.hid hv
  have N1 := Lib.hid hn1
  have N2 := Lib.hid hn2
  clear hT hS hv hn1 hn2
  cases hi : inTy t v
  · have HB := Lib.hid (has_no (s := s) hi)
    have HI := Lib.hid hi
    clear hi
    go_enter Tryz.func30, Tryz.ntmps30
    go_wp2_with fail
    refine (rIn_any t v T ct _ (HT.out.below bel) HV.out).mono ?_
    rintro e w1 ⟨rfl, hb1⟩
    rw [HI.out]
    have hz1 := hb1.size
    try simp at hz1
    obtain ⟨q1_0, l1_0, r1_0⟩ := aft hb1 (w.heap.size)
    obtain ⟨q1_1, l1_1, r1_1⟩ := aft hb1 (w.heap.size + 1)
    obtain ⟨q1_2, l1_2, r1_2⟩ := aft hb1 (w.heap.size + 2)
    go_wp2_with fail
    go_ret
    exact ⟨ret_bool HB.out.symm, bel⟩
  · have HI := Lib.hid hi
    by_cases hk : s.k = t.k
    rotate_left
    · have e1 : (s.k != t.k) = true := by rw [bne_iff_ne]; exact hk
      have HB := Lib.hid (has_ne (v := v) (show (s.k == t.k) = false by simp [hk]))
      clear hi hk
      go_enter Tryz.func30, Tryz.ntmps30
      go_wp2_with fail
      refine (rIn_any t v T ct _ (HT.out.below bel) HV.out).mono ?_
      rintro e w1 ⟨rfl, hb1⟩
      rw [HI.out]
      have hz1 := hb1.size
      try simp at hz1
      obtain ⟨q1_0, l1_0, r1_0⟩ := aft hb1 (w.heap.size)
      obtain ⟨q1_1, l1_1, r1_1⟩ := aft hb1 (w.heap.size + 1)
      obtain ⟨q1_2, l1_2, r1_2⟩ := aft hb1 (w.heap.size + 2)
      go_wp2_with fail
      go_ret
      exact ⟨ret_bool HB.out.symm, bel⟩
    · have e1 : (s.k != t.k) = false := by simp [hk]
      rcases five_k hi with h | h | h | ⟨h0, h2, h3⟩
      · have HB := Lib.hid (has_0 hi hk h)
        have e2 : (v.k == 0) = true := by simp [h]
        clear hi hk h
        go_enter Tryz.func30, Tryz.ntmps30
        go_wp2_with fail
        refine (rIn_any t v T ct _ (HT.out.below bel) HV.out).mono ?_
        rintro e w1 ⟨rfl, hb1⟩
        rw [HI.out]
        have hz1 := hb1.size
        try simp at hz1
        obtain ⟨q1_0, l1_0, r1_0⟩ := aft hb1 (w.heap.size)
        obtain ⟨q1_1, l1_1, r1_1⟩ := aft hb1 (w.heap.size + 1)
        obtain ⟨q1_2, l1_2, r1_2⟩ := aft hb1 (w.heap.size + 2)
        go_wp2_with fail
        go_ret
        exact ⟨ret_bool HB.out.symm, bel⟩
      · have HB := Lib.hid (has_2 hi hk h)
        have e2 : (v.k == 0) = false := by simp [h]
        have e3 : (v.k == 2) = true := by simp [h]
        have HTX : Hid ((txt v).length ≤ 9223372036854775807) := by show _ ≤ _; rw [txt_len]; have := (sndTwo (in_fit hi).2.2.2.1 h).2.2.2.1; omega
        have HST : Hid ((.string v.t : Value) = encStr (txt v)) := by show _ = Value.string (bs (txt v)); rw [bs_txt]
        clear hi hk h
        go_enter Tryz.func30, Tryz.ntmps30
        go_wp2_with fail
        refine (rIn_any t v T ct _ (HT.out.below bel) HV.out).mono ?_
        rintro e w1 ⟨rfl, hb1⟩
        rw [HI.out]
        have hz1 := hb1.size
        try simp at hz1
        obtain ⟨q1_0, l1_0, r1_0⟩ := aft hb1 (w.heap.size)
        obtain ⟨q1_1, l1_1, r1_1⟩ := aft hb1 (w.heap.size + 1)
        obtain ⟨q1_2, l1_2, r1_2⟩ := aft hb1 (w.heap.size + 2)
        go_wp2_with fail
        rw [HST.out]
        refine (rWords_any s.al B s.ws cb (txt v) _ (HS.out.ws.below bel) N2.out).mono ?_
        rintro e w2 ⟨rfl, hb2⟩
        rw [← HB.out]
        go_wp2_with fail
        go_ret
        exact ⟨rfl, bel⟩
      · have e2 : (v.k == 0) = false := by simp [h]
        have e3 : (v.k == 2) = false := by simp [h]
        have e4 : (v.k == 3) = true := by simp [h]
        have a1 : (bits .and .i64 s.b 1 == 1) = bit0 s.b := by rw [i64_and1]; rfl
        have a2 : (bits .and .i64 s.b 2 == 2) = bit1 s.b := i64_and2 s.b
        rcases has_3 hi hk h with ⟨hvi, hB⟩ | ⟨hvi, hB⟩
        all_goals
          have HB := Lib.hid hB
          have HVI := Lib.hid hvi
          clear hi hk h hB hvi
          generalize bit0 s.b = F0 at *
          generalize bit1 s.b = F1 at *
          cases F0 <;> cases F1
          all_goals
            go_enter Tryz.func30, Tryz.ntmps30
            go_wp2_with fail
            refine (rIn_any t v T ct _ (HT.out.below bel) HV.out).mono ?_
            rintro e w1 ⟨rfl, hb1⟩
            rw [HI.out]
            have hvi := HVI.out
            have hz1 := hb1.size
            try simp at hz1
            obtain ⟨q1_0, l1_0, r1_0⟩ := aft hb1 (w.heap.size)
            obtain ⟨q1_1, l1_1, r1_1⟩ := aft hb1 (w.heap.size + 1)
            obtain ⟨q1_2, l1_2, r1_2⟩ := aft hb1 (w.heap.size + 2)
            go_wp2_with fail
            go_ret
            exact ⟨ret_bool HB.out.symm, bel⟩
      · obtain ⟨hB, hsc, hdc⟩ := has_14 hi hk h0 h2 h3
        have HSC := Lib.hid hsc
        have HDC := Lib.hid hdc
        have e2 : (v.k == 0) = false := by simp [h0]
        have e3 : (v.k == 2) = false := by simp [h2]
        have e4 : (v.k == 3) = false := by simp [h3]
        obtain ⟨N, hN⟩ : ∃ N, unitsV t.sc v = N := ⟨_, rfl⟩
        rw [hN] at hB
        have HUE := Lib.hid ((unitsR_eq hsc hdc).trans hN)
        have HB := Lib.hid hB
        clear hi hk h0 h2 h3 hB hsc hdc hN
        go_enter Tryz.func30, Tryz.ntmps30
        go_wp2_with fail
        generalize hW0 : ((w.alloc _).alloc _).alloc _ = W00
        have hb00 : Below w.heap.size w W00 := (by rw [← hW0]; exact bel)
        have K0 : BoxIs W00 w.heap.size #[.int .i64 t.k, .int .i64 t.sc, .bool t.c.any, .bool t.c.neg, .slice T t.c.ts.length ct] := (by rw [← hW0]; exact ((BoxIs.new (t := 26) rfl).alloc _).alloc _)
        have K1 : BoxIs W00 (w.heap.size + 1) #[.int .i64 s.k, .slice A s.sp.length ca, .bool s.al, .slice B s.ws.length cb, .int .i64 s.b, .bool s.nul] := (by rw [← hW0]; exact (BoxIs.new (t := 36) (by simp)).alloc _)
        have K2 : BoxIs W00 (w.heap.size + 2) #[.int .i64 v.k, .int .i64 v.n, .int .i64 v.s, .string v.t, .int .i64 v.i] := (by rw [← hW0]; exact BoxIs.new (t := 30) (by simp))
        clear hW0
        refine (rIn_any t v T ct _ (HT.out.below hb00) HV.out).mono ?_
        rintro e W0 ⟨rfl, hb1⟩
        rw [HI.out]
        have K0 := K0.below hb1
        have K1 := K1.below hb1
        have K2 := K2.below hb1
        have c0 := K0.c
        have l0 := K0.lt
        have c1 := K1.c
        have l1 := K1.lt
        have c2 := K2.c
        have l2 := K2.lt
        have hbw0 : Below w.heap.size w W0 := hb00.trans (hb1.mono hb00.size)
        clear hb1 hb00
        go_wp2_with fail
        have HK : ∀ w', Below W0.heap.size W0 w' → Below W0.heap.size W0 w' ∧ (∀ o, w'.cell? ⟨w.heap.size, o, none⟩ = (#[.int .i64 t.k, .int .i64 t.sc, .bool t.c.any, .bool t.c.neg, .slice T t.c.ts.length ct] : Array Value)[o]?) ∧ (∀ o, w'.cell? ⟨w.heap.size + 1, o, none⟩ = (#[.int .i64 s.k, .slice A s.sp.length ca, .bool s.al, .slice B s.ws.length cb, .int .i64 s.b, .bool s.nul] : Array Value)[o]?) ∧ (∀ o, w'.cell? ⟨w.heap.size + 2, o, none⟩ = (#[.int .i64 v.k, .int .i64 v.n, .int .i64 v.s, .string v.t, .int .i64 v.i] : Array Value)[o]?) := fun w' hb => ⟨hb, (K0.below hb).c, (K1.below hb).c, (K2.below hb).c⟩
        refine wp_region_held_drew (S := (fun w' => Below W0.heap.size W0 w' ∧ (∀ o, w'.cell? ⟨w.heap.size, o, none⟩ = (#[.int .i64 t.k, .int .i64 t.sc, .bool t.c.any, .bool t.c.neg, .slice T t.c.ts.length ct] : Array Value)[o]?) ∧ (∀ o, w'.cell? ⟨w.heap.size + 1, o, none⟩ = (#[.int .i64 s.k, .slice A s.sp.length ca, .bool s.al, .slice B s.ws.length cb, .int .i64 s.b, .bool s.nul] : Array Value)[o]?) ∧ (∀ o, w'.cell? ⟨w.heap.size + 2, o, none⟩ = (#[.int .i64 v.k, .int .i64 v.n, .int .i64 v.s, .string v.t, .int .i64 v.i] : Array Value)[o]?))) (by kernel_rfl) (HK _ (Below.drew (Below.refl _ _))) (fun hHeld => ?_)
        refine tkH 0 ?_
        try simp only [shH]
        refine tkH 1 ?_
        try simp only [shH]
        refine tkH 2 ?_
        try simp only [shH]
        refine tkH 3 ?_
        try simp only [shH]
        refine rdH [4] ?_
        refine AllReadyH.cons rfl (fun K hK => ?_) AllReadyH.nil
        go_simp
        refine (rUnits_any t v T ct _ HV.out).mono ?_
        rintro e w1 ⟨rfl, hb1⟩
        rw [HUE.out]
        have hB1 : Below W0.heap.size W0 w1 := (by first | exact hb1 | exact undrew hb1)
        refine hK.out _ _ ?_ (fun hH2 => ?_)
        · exact HK _ hB1
        clear hK K hHeld
        have hHeld := hH2
        clear hH2
        try simp only [shH]
        refine rdH [5] ?_
        refine AllReadyH.cons rfl (fun K hK => ?_) AllReadyH.nil
        go_simp
        refine (refSpans_any s.sp N A ca _ (HS.out.sp.below (hbw0.trans (hB1.mono hbw0.size))) N1.out).mono ?_
        rintro e w2 ⟨rfl, hb2⟩
        rw [← HB.out]
        have hB2 : Below W0.heap.size W0 w2 := hB1.trans (hb2.mono hB1.size)
        refine hK.out _ _ ?_ (fun hH2 => ?_)
        · exact HK _ hB2
        clear hK K hHeld
        have hHeld := hH2
        clear hH2
        try simp only [shH]
        refine tkH 6 ?_
        try simp only [shH]
        refine dnH ?_ _
        clear hHeld
        (try simp only [Exit.then, Exit.inBlock])
        have hbw2 : Below w.heap.size w w2 := hbw0.trans (hB2.mono hbw0.size)
        go_wp2_with fail
        go_ret
        exact ⟨rfl, hbw2⟩
end Go.Proofs.YtankkadnhdfpfaaGreatDoor
