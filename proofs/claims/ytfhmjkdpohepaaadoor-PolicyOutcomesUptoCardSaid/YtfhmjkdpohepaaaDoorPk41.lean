import Derived.Test.YtfhmjkdpohepaaaDoorPk25
import Derived.Test.YtfhmjkdpohepaaaDoorPk40
/- soffitref17.Outcome, walked: the least. -/
set_option linter.unusedSimpArgs false
set_option linter.unusedVariables false
namespace Go.Proofs.YtfhmjkdpohepaaaDoor
open Go.RowKit

set_option maxRecDepth 100000 in
set_option maxHeartbeats 6400000 in
theorem roL (os od : List Vl) (df : Vl) (fs : List Int) (A B F : Option Addr) (ca cb cf : Nat) (w : World) (hA : RdL w 5 A (os.map Vl.cells5)) (hB : RdL w 5 B (od.map Vl.cells5)) (hF : RdL w 1 F (fs.map intC)) (hos : ∀ v ∈ os, v.wf) (hod : ∀ v ∈ od, v.wf) (hdf : df.wf) (n1 : os.length ≤ 1000000) (n2 : od.length ≤ 1000000) (n3 : fs.length ≤ 9223372036854775807) (hfs : Rise os.length fs) (h16 : fs.length ≤ 1000000)
    (f : Int) (fr : List Int) (hfr : fs = f :: fr) (hsnd : sndAll os od df = true) :
    Calls Tryd.prog 10 #[.int .i64 60, .slice A os.length ca, .slice B od.length cb, .agg #[.int .i64 df.k, .int .i64 df.n, .int .i64 df.s, .string df.t, .int .i64 df.i], .slice F fs.length cf] w fun e w' =>
      e = .returned (.tuple #[.agg #[.int .i64 (gatE false (pickV os f) (pickV os f :: fr.map (pickV os)) (pickV os f)).k, .int .i64 (gatE false (pickV os f) (pickV os f :: fr.map (pickV os)) (pickV os f)).n, .int .i64 (gatE false (pickV os f) (pickV os f :: fr.map (pickV os)) (pickV os f)).s, .string (gatE false (pickV os f) (pickV os f :: fr.map (pickV os)) (pickV os f)).t, .int .i64 (gatE false (pickV os f) (pickV os f :: fr.map (pickV os)) (pickV os f)).i], .int .i64 0]) ∧ Below w.heap.size w w' := by
  have hk : knownB 60 = true := by decide
  have hlen : 0 < fs.length := by rw [hfr]; simp
  have hn0 : ((fs.length : Int) == 0) = false := by rw [beq_eq_false_iff_ne]; omega
  have hpick : fs.map (pickV os) = pickV os f :: fr.map (pickV os) := by rw [hfr]; rfl
  have hpo := pick_snd hos (fun v hv => sndAll_mem.1 hsnd v (by simp [hv])) fs
  obtain ⟨ps, hps⟩ : ∃ ps, fs.map (pickV os) = ps := ⟨_, rfl⟩
  rw [hps] at hpo
  have hpl : ps.length = fs.length := by rw [← hps]; exact List.length_map _
  have hpg : ∀ j (h : j < fs.length) (h2 : j < ps.length), ps[j]'h2 = pickV os (fs[j]'h) := by intro j h h2; subst hps; simp
  have hpc : ps = pickV os f :: fr.map (pickV os) := hps.symm.trans hpick
  have HPO := Lib.hid hpo
  have HPL := Lib.hid hpl
  have HPG := Lib.hid hpg
  have HPC := Lib.hid hpc
  have HN0 := Lib.hid hn0
  clear hfr hpick hps hpl hpg hpc hpo hn0
  have HSND := Lib.hid hsnd
  clear hsnd
  have HA := Lib.hid hA
  have HB := Lib.hid hB
  have HF := Lib.hid hF
  have HDF := Lib.hid hdf
  have HOS := Lib.hid hos
  have HOD := Lib.hid hod
  clear hA hB hF hos hod hdf
  go_enter Tryd.func10, Tryd.ntmps10
  go_wp2_with fail
  have K0 : BoxIs (((w.alloc (.cells #[.int .i64 df.k, .int .i64 df.n, .int .i64 df.s, .string df.t, .int .i64 df.i] 26)).alloc (.cells #[.int .i64 0, .int .i64 0, .int .i64 0, .string ⟨#[]⟩, .int .i64 0] 26)).alloc (.cells #[.int .i64 0, .int .i64 0, .int .i64 0, .string ⟨#[]⟩, .int .i64 0] 26)) w.heap.size #[.int .i64 df.k, .int .i64 df.n, .int .i64 df.s, .string df.t, .int .i64 df.i] := ((BoxIs.new rfl).alloc _).alloc _
  have K1 : BoxIs (((w.alloc (.cells #[.int .i64 df.k, .int .i64 df.n, .int .i64 df.s, .string df.t, .int .i64 df.i] 26)).alloc (.cells #[.int .i64 0, .int .i64 0, .int .i64 0, .string ⟨#[]⟩, .int .i64 0] 26)).alloc (.cells #[.int .i64 0, .int .i64 0, .int .i64 0, .string ⟨#[]⟩, .int .i64 0] 26)) (w.heap.size + 1) #[.int .i64 0, .int .i64 0, .int .i64 0, .string ⟨#[]⟩, .int .i64 0] := (BoxIs.new (by simp)).alloc _
  have K2 : BoxIs (((w.alloc (.cells #[.int .i64 df.k, .int .i64 df.n, .int .i64 df.s, .string df.t, .int .i64 df.i] 26)).alloc (.cells #[.int .i64 0, .int .i64 0, .int .i64 0, .string ⟨#[]⟩, .int .i64 0] 26)).alloc (.cells #[.int .i64 0, .int .i64 0, .int .i64 0, .string ⟨#[]⟩, .int .i64 0] 26)) (w.heap.size + 2) #[.int .i64 0, .int .i64 0, .int .i64 0, .string ⟨#[]⟩, .int .i64 0] := BoxIs.new (by simp)
  refine (rKnown_any 60 _).mono ?_
  rintro e w1 ⟨rfl, hb1⟩
  rw [hk]
  clear hk
  have K0 := K0.below hb1
  have K1 := K1.below hb1
  have K2 := K2.below hb1
  have hbw1 : Below w.heap.size w w1 := bel
  have k0 := K0.c
  have k1 := K1.c
  have k2 := K2.c
  have f1 := K1.f
  clear hb1
  go_wp2_with fail
  obtain ⟨i0, hinf, hza, hzb, hzc⟩ := info_parts (show (Tryd.prog.info? 26).map (fun i => (i.zero, i.size, i.bytes)) = some (some (.agg #[.int .i64 0, .int .i64 0, .int .i64 0, .string ⟨#[]⟩, .int .i64 0]), 5, 48) by kernel_rfl)
  go_loopg [13, 14] fs.length (fun k lv iv wr => ∃ j : Nat, j ≤ fs.length ∧ fs.length - j ≤ k ∧ lv = .int .i64 (lastI fs j) ∧ iv = .int .i64 j ∧ wr = w1)
  case atStart => exact ⟨0, by omega, by omega, rfl, rfl, rfl⟩
  case round =>
    obtain ⟨j, hj, hjk, rfl, rfl, hwr⟩ := hrel
    subst wr
    by_cases hlt : j < fs.length
    · skip
      obtain ⟨b, off, rfl, hx⟩ := (HF.out.below hbw1).at_ hlt
      have g0 : w1.cell? ⟨b, off + j, none⟩ = some (.int .i64 (fs[j]'hlt)) := by have := hx.get 0 rfl; simpa using this
      have i0 : (0 : Int) ≤ (j : Int) := by omega
      have i1 : (j : Int) < (fs.length : Int) := by omega
      have hls := lastI_succ hlt
      have hl2 := hfs.last hlt
      generalize fs[j]'hlt = x at *
      generalize lastI fs j = l at *
      have e1 : ¬ x ≤ l := by omega
      have e2 : ¬ (os.length : Int) ≤ x := by omega
      have HLS := Lib.hid hls
      clear hx hls hl2
      go_wp2_with fail
      go_roundg (gk - 1)
      case measure => omega
      case rel => exact ⟨j + 1, by omega, by omega, by rw [HLS.out], by go_num, rfl⟩
    · obtain ⟨l0, hl0⟩ : ∃ l, l = lastI fs j := ⟨_, rfl⟩
      rw [← hl0]
      clear hl0
      have i1 : ¬ (j : Int) < (fs.length : Int) := by omega
      go_wp2_with fail
      have HK : ∀ w', Below w1.heap.size w1 w' → Below w1.heap.size w1 w' ∧ (∀ o, w'.cell? ⟨w.heap.size, o, none⟩ = (#[.int .i64 df.k, .int .i64 df.n, .int .i64 df.s, .string df.t, .int .i64 df.i] : Array Value)[o]?) := fun w' hb => ⟨hb, (K0.below hb).c⟩
      have TAIL : ∀ (g0 : Nat) (v54 v56 : Value) (b6 : Nat) (v61 : Value) (w2 : World), Below w1.heap.size w1 w2 → w2.ownsRow w1.heap.size 26 5 v61 (0 + os.length + od.length + 1) ([] ++ os.flatMap Vl.cells5 ++ od.flatMap Vl.cells5 ++ df.cells5) → (?G : Nat → Value → Value → Nat → Value → World → Prop) g0 v54 v56 b6 v61 w2 := ?tail
      refine wp_region_held_drew (S := (fun w' => Below w1.heap.size w1 w' ∧ (∀ o, w'.cell? ⟨w.heap.size, o, none⟩ = (#[.int .i64 df.k, .int .i64 df.n, .int .i64 df.s, .string df.t, .int .i64 df.i] : Array Value)[o]?))) (by kernel_rfl) (HK _ (Below.drew (Below.refl _ _))) (fun hHeld => ?_)
      obtain ⟨zA, hzA⟩ : ∃ z, z = w1.drew := ⟨_, rfl⟩
      have hZA : Below w1.heap.size w1 zA := by rw [hzA]; exact Below.drew (Below.refl _ _)
      rw [← hzA] at hHeld ⊢
      clear hzA
      refine tkH 1 ?_
      try simp only [shH]
      refine tkH 3 ?_
      try simp only [shH]
      refine tkH 5 ?_
      try simp only [shH]
      refine rdH [0, 6] ?_
      refine AllReadyH.cons rfl (fun K hK => ?_) ?_
      · go_simp
        generalize hE : World.alloc _ _ = z1
        have hown1 : z1.ownsRow w1.heap.size 26 5 (.slice (some ⟨zA.heap.size, 0, none⟩) 0 0) 0 [] := by rw [← hE]; exact own_lit1 rfl hZA.size
        have hz1 : Below w1.heap.size w1 z1 := by rw [← hE]; exact Below.alloc hZA hZA.size _
        obtain ⟨g0, hg0⟩ : ∃ g, g = zA.heap.size := ⟨_, rfl⟩
        rw [← hg0] at hown1
        clear hE
        refine hK.out _ _ ?_ (fun hH2 => ?_)
        · exact HK _ hz1
        clear hK K hHeld
        have hHeld := hH2
        clear hH2
        try simp only [List.getElem_toArray, List.getElem_cons_zero, List.getElem_cons_succ, shH]
        rw [← hg0]
        clear hg0
        refine rdH [2, 6] ?_
        refine AllReadyH.cons rfl (fun K hK => ?_) ?_
        · refine step_spread2 rfl _ _ 22 rfl w1.heap.size 26 i0 (.agg #[.int .i64 0, .int .i64 0, .int .i64 0, .string ⟨#[]⟩, .int .i64 0]) 5 48 Tryd.underlying22 hinf hza hzb hzc rfl (by decide) (.slice (some ⟨g0, 0, none⟩) 0 0) 0 [] rfl hown1 A os.length ca (os.flatMap Vl.cells5) rfl (five_len os) (rdv_none (HA.out.below hbw1)) (rdv_news ((HA.out.below hbw1).below hz1)) (five_one os) (by unfold maxLen; omega) (by omega) hz1.size ?_
          intro v2 z2 hown2 hgr2 hob2
          have hz2 : Below w1.heap.size w1 z2 := hz1.grown hgr2 hz1.size (fun g hg => (hown1.lt g hg).1)
          refine hK.out _ _ ?_ (fun hH2 => ?_)
          · exact HK _ hz2
          clear hK K hHeld
          have hHeld := hH2
          clear hH2
          try simp only [List.getElem_toArray, List.getElem_cons_zero, List.getElem_cons_succ, shH]
          refine rdH [4, 6] ?_
          refine AllReadyH.cons rfl (fun K hK => ?_) ?_
          · refine step_spread2 rfl _ _ 22 rfl w1.heap.size 26 i0 (.agg #[.int .i64 0, .int .i64 0, .int .i64 0, .string ⟨#[]⟩, .int .i64 0]) 5 48 Tryd.underlying22 hinf hza hzb hzc rfl (by decide) v2 (0 + os.length) ([] ++ os.flatMap Vl.cells5) rfl hown2 B od.length cb (od.flatMap Vl.cells5) rfl (five_len od) (rdv_none (HB.out.below hbw1)) (rdv_news ((HB.out.below hbw1).below hz2)) (five_one od) (by unfold maxLen; omega) (by omega) hz2.size ?_
            intro v3 z3 hown3 hgr3 hob3
            have hz3 : Below w1.heap.size w1 z3 := hz2.grown hgr3 hz2.size (fun g hg => (hown2.lt g hg).1)
            refine hK.out _ _ ?_ (fun hH2 => ?_)
            · exact HK _ hz3
            clear hK K hHeld
            have hHeld := hH2
            clear hH2
            try simp only [List.getElem_toArray, List.getElem_cons_zero, List.getElem_cons_succ, shH]
            refine rdH [6] ?_
            refine AllReadyH.cons rfl (fun K hK => ?_) AllReadyH.nil
            go_simp
            generalize hE : World.alloc _ _ = z4
            have KL4 : BoxIs z4 z3.heap.size #[.int .i64 df.k, .int .i64 df.n, .int .i64 df.s, .string df.t, .int .i64 df.i] := by rw [← hE]; exact BoxIs.new rfl
            have hz4 : Below w1.heap.size w1 z4 := by rw [← hE]; exact Below.alloc hz3 hz3.size _
            have hown4 := hown3.alloc (.cells #[.int .i64 df.k, .int .i64 df.n, .int .i64 df.s, .string df.t, .int .i64 df.i] 26)
            rw [hE] at hown4
            obtain ⟨b6, hb6⟩ : ∃ g, g = z3.heap.size := ⟨_, rfl⟩
            rw [← hb6] at KL4 ⊢
            have hne4 : (v3 : Value).ownBlock ≠ some b6 := by intro h; have := (hown3.lt _ h).2; omega
            clear hE hb6
            refine hK.out _ _ ?_ (fun hH2 => ?_)
            · exact HK _ hz4
            clear hK K hHeld
            have hHeld := hH2
            clear hH2
            try simp only [List.getElem_toArray, List.getElem_cons_zero, List.getElem_cons_succ, shH]
            refine rdH [7] ?_
            refine AllReadyH.cons rfl (fun K hK => ?_) AllReadyH.nil
            refine step_spread2 rfl _ _ 22 rfl w1.heap.size 26 i0 (.agg #[.int .i64 0, .int .i64 0, .int .i64 0, .string ⟨#[]⟩, .int .i64 0]) 5 48 Tryd.underlying22 hinf hza hzb hzc rfl (by decide) v3 (0 + os.length + od.length) ([] ++ os.flatMap Vl.cells5 ++ od.flatMap Vl.cells5) rfl hown4 (some ⟨b6, 0, none⟩) 1 1 df.cells5 rfl rfl (by intro h; cases h) KL4.news (by intro u hu; simp [Vl.cells5] at hu; rcases hu with rfl | rfl | rfl | rfl | rfl <;> rfl) (by unfold maxLen; omega) (by omega) hz4.size ?_
            intro v5 z5 hown5 hgr5 hob5
            have hz5 : Below w1.heap.size w1 z5 := hz4.grown hgr5 hz4.size (fun g hg => (hown4.lt g hg).1)
            refine hK.out _ _ ?_ (fun hH2 => ?_)
            · exact HK _ hz5
            clear hK K hHeld
            have hHeld := hH2
            clear hH2
            try simp only [List.getElem_toArray, List.getElem_cons_zero, List.getElem_cons_succ, shH]
            refine tkH 8 ?_
            try simp only [List.getElem_toArray, List.getElem_cons_zero, List.getElem_cons_succ, shH]
            refine dnH ?_ _
            exact TAIL g0 v2 v3 b6 v5 z5 hz5 hown5
          refine AllReadyH.cons rfl (fun K hK => ?_) AllReadyH.nil
          go_simp
          generalize hE : World.alloc _ _ = z3
          have KL3 : BoxIs z3 z2.heap.size #[.int .i64 df.k, .int .i64 df.n, .int .i64 df.s, .string df.t, .int .i64 df.i] := by rw [← hE]; exact BoxIs.new rfl
          have hz3 : Below w1.heap.size w1 z3 := by rw [← hE]; exact Below.alloc hz2 hz2.size _
          have hown3 := hown2.alloc (.cells #[.int .i64 df.k, .int .i64 df.n, .int .i64 df.s, .string df.t, .int .i64 df.i] 26)
          rw [hE] at hown3
          obtain ⟨b6, hb6⟩ : ∃ g, g = z2.heap.size := ⟨_, rfl⟩
          rw [← hb6] at KL3 ⊢
          have hne3 : (v2 : Value).ownBlock ≠ some b6 := by intro h; have := (hown2.lt _ h).2; omega
          clear hE hb6
          refine hK.out _ _ ?_ (fun hH2 => ?_)
          · exact HK _ hz3
          clear hK K hHeld
          have hHeld := hH2
          clear hH2
          try simp only [List.getElem_toArray, List.getElem_cons_zero, List.getElem_cons_succ, shH]
          refine rdH [4] ?_
          refine AllReadyH.cons rfl (fun K hK => ?_) AllReadyH.nil
          refine step_spread2 rfl _ _ 22 rfl w1.heap.size 26 i0 (.agg #[.int .i64 0, .int .i64 0, .int .i64 0, .string ⟨#[]⟩, .int .i64 0]) 5 48 Tryd.underlying22 hinf hza hzb hzc rfl (by decide) v2 (0 + os.length) ([] ++ os.flatMap Vl.cells5) rfl hown3 B od.length cb (od.flatMap Vl.cells5) rfl (five_len od) (rdv_none (HB.out.below hbw1)) (rdv_news ((HB.out.below hbw1).below hz3)) (five_one od) (by unfold maxLen; omega) (by omega) hz3.size ?_
          intro v4 z4 hown4 hgr4 hob4
          have hz4 : Below w1.heap.size w1 z4 := hz3.grown hgr4 hz3.size (fun g hg => (hown3.lt g hg).1)
          have KL4 : BoxIs z4 b6 #[.int .i64 df.k, .int .i64 df.n, .int .i64 df.s, .string df.t, .int .i64 df.i] := KL3.grown hgr4 hne3
          have hne4 : v4.ownBlock ≠ some b6 := by rcases hob4 with h9 | h9 <;> rw [h9] <;> first | exact hne3 | (have := KL3.lt; intro h; injection h; omega)
          refine hK.out _ _ ?_ (fun hH2 => ?_)
          · exact HK _ hz4
          clear hK K hHeld
          have hHeld := hH2
          clear hH2
          try simp only [List.getElem_toArray, List.getElem_cons_zero, List.getElem_cons_succ, shH]
          refine rdH [7] ?_
          refine AllReadyH.cons rfl (fun K hK => ?_) AllReadyH.nil
          refine step_spread2 rfl _ _ 22 rfl w1.heap.size 26 i0 (.agg #[.int .i64 0, .int .i64 0, .int .i64 0, .string ⟨#[]⟩, .int .i64 0]) 5 48 Tryd.underlying22 hinf hza hzb hzc rfl (by decide) v4 (0 + os.length + od.length) ([] ++ os.flatMap Vl.cells5 ++ od.flatMap Vl.cells5) rfl hown4 (some ⟨b6, 0, none⟩) 1 1 df.cells5 rfl rfl (by intro h; cases h) KL4.news (by intro u hu; simp [Vl.cells5] at hu; rcases hu with rfl | rfl | rfl | rfl | rfl <;> rfl) (by unfold maxLen; omega) (by omega) hz4.size ?_
          intro v5 z5 hown5 hgr5 hob5
          have hz5 : Below w1.heap.size w1 z5 := hz4.grown hgr5 hz4.size (fun g hg => (hown4.lt g hg).1)
          refine hK.out _ _ ?_ (fun hH2 => ?_)
          · exact HK _ hz5
          clear hK K hHeld
          have hHeld := hH2
          clear hH2
          try simp only [List.getElem_toArray, List.getElem_cons_zero, List.getElem_cons_succ, shH]
          refine tkH 8 ?_
          try simp only [List.getElem_toArray, List.getElem_cons_zero, List.getElem_cons_succ, shH]
          refine dnH ?_ _
          exact TAIL g0 v2 v4 b6 v5 z5 hz5 hown5
        refine AllReadyH.cons rfl (fun K hK => ?_) AllReadyH.nil
        go_simp
        generalize hE : World.alloc _ _ = z2
        have KL2 : BoxIs z2 z1.heap.size #[.int .i64 df.k, .int .i64 df.n, .int .i64 df.s, .string df.t, .int .i64 df.i] := by rw [← hE]; exact BoxIs.new rfl
        have hz2 : Below w1.heap.size w1 z2 := by rw [← hE]; exact Below.alloc hz1 hz1.size _
        have hown2 := hown1.alloc (.cells #[.int .i64 df.k, .int .i64 df.n, .int .i64 df.s, .string df.t, .int .i64 df.i] 26)
        rw [hE] at hown2
        obtain ⟨b6, hb6⟩ : ∃ g, g = z1.heap.size := ⟨_, rfl⟩
        rw [← hb6] at KL2 ⊢
        have hne2 : ((.slice (some ⟨g0, 0, none⟩) 0 0) : Value).ownBlock ≠ some b6 := by intro h; have := (hown1.lt _ h).2; omega
        clear hE hb6
        refine hK.out _ _ ?_ (fun hH2 => ?_)
        · exact HK _ hz2
        clear hK K hHeld
        have hHeld := hH2
        clear hH2
        try simp only [List.getElem_toArray, List.getElem_cons_zero, List.getElem_cons_succ, shH]
        refine rdH [2] ?_
        refine AllReadyH.cons rfl (fun K hK => ?_) AllReadyH.nil
        refine step_spread2 rfl _ _ 22 rfl w1.heap.size 26 i0 (.agg #[.int .i64 0, .int .i64 0, .int .i64 0, .string ⟨#[]⟩, .int .i64 0]) 5 48 Tryd.underlying22 hinf hza hzb hzc rfl (by decide) (.slice (some ⟨g0, 0, none⟩) 0 0) 0 [] rfl hown2 A os.length ca (os.flatMap Vl.cells5) rfl (five_len os) (rdv_none (HA.out.below hbw1)) (rdv_news ((HA.out.below hbw1).below hz2)) (five_one os) (by unfold maxLen; omega) (by omega) hz2.size ?_
        intro v3 z3 hown3 hgr3 hob3
        have hz3 : Below w1.heap.size w1 z3 := hz2.grown hgr3 hz2.size (fun g hg => (hown2.lt g hg).1)
        have KL3 : BoxIs z3 b6 #[.int .i64 df.k, .int .i64 df.n, .int .i64 df.s, .string df.t, .int .i64 df.i] := KL2.grown hgr3 hne2
        have hne3 : v3.ownBlock ≠ some b6 := by rcases hob3 with h9 | h9 <;> rw [h9] <;> first | exact hne2 | (have := KL2.lt; intro h; injection h; omega)
        refine hK.out _ _ ?_ (fun hH2 => ?_)
        · exact HK _ hz3
        clear hK K hHeld
        have hHeld := hH2
        clear hH2
        try simp only [List.getElem_toArray, List.getElem_cons_zero, List.getElem_cons_succ, shH]
        refine rdH [4] ?_
        refine AllReadyH.cons rfl (fun K hK => ?_) AllReadyH.nil
        refine step_spread2 rfl _ _ 22 rfl w1.heap.size 26 i0 (.agg #[.int .i64 0, .int .i64 0, .int .i64 0, .string ⟨#[]⟩, .int .i64 0]) 5 48 Tryd.underlying22 hinf hza hzb hzc rfl (by decide) v3 (0 + os.length) ([] ++ os.flatMap Vl.cells5) rfl hown3 B od.length cb (od.flatMap Vl.cells5) rfl (five_len od) (rdv_none (HB.out.below hbw1)) (rdv_news ((HB.out.below hbw1).below hz3)) (five_one od) (by unfold maxLen; omega) (by omega) hz3.size ?_
        intro v4 z4 hown4 hgr4 hob4
        have hz4 : Below w1.heap.size w1 z4 := hz3.grown hgr4 hz3.size (fun g hg => (hown3.lt g hg).1)
        have KL4 : BoxIs z4 b6 #[.int .i64 df.k, .int .i64 df.n, .int .i64 df.s, .string df.t, .int .i64 df.i] := KL3.grown hgr4 hne3
        have hne4 : v4.ownBlock ≠ some b6 := by rcases hob4 with h9 | h9 <;> rw [h9] <;> first | exact hne3 | (have := KL3.lt; intro h; injection h; omega)
        refine hK.out _ _ ?_ (fun hH2 => ?_)
        · exact HK _ hz4
        clear hK K hHeld
        have hHeld := hH2
        clear hH2
        try simp only [List.getElem_toArray, List.getElem_cons_zero, List.getElem_cons_succ, shH]
        refine rdH [7] ?_
        refine AllReadyH.cons rfl (fun K hK => ?_) AllReadyH.nil
        refine step_spread2 rfl _ _ 22 rfl w1.heap.size 26 i0 (.agg #[.int .i64 0, .int .i64 0, .int .i64 0, .string ⟨#[]⟩, .int .i64 0]) 5 48 Tryd.underlying22 hinf hza hzb hzc rfl (by decide) v4 (0 + os.length + od.length) ([] ++ os.flatMap Vl.cells5 ++ od.flatMap Vl.cells5) rfl hown4 (some ⟨b6, 0, none⟩) 1 1 df.cells5 rfl rfl (by intro h; cases h) KL4.news (by intro u hu; simp [Vl.cells5] at hu; rcases hu with rfl | rfl | rfl | rfl | rfl <;> rfl) (by unfold maxLen; omega) (by omega) hz4.size ?_
        intro v5 z5 hown5 hgr5 hob5
        have hz5 : Below w1.heap.size w1 z5 := hz4.grown hgr5 hz4.size (fun g hg => (hown4.lt g hg).1)
        refine hK.out _ _ ?_ (fun hH2 => ?_)
        · exact HK _ hz5
        clear hK K hHeld
        have hHeld := hH2
        clear hH2
        try simp only [List.getElem_toArray, List.getElem_cons_zero, List.getElem_cons_succ, shH]
        refine tkH 8 ?_
        try simp only [List.getElem_toArray, List.getElem_cons_zero, List.getElem_cons_succ, shH]
        refine dnH ?_ _
        exact TAIL g0 v3 v4 b6 v5 z5 hz5 hown5
      refine AllReadyH.cons rfl (fun K hK => ?_) AllReadyH.nil
      go_simp
      generalize hE : World.alloc _ _ = z1
      have KL1 : BoxIs z1 zA.heap.size #[.int .i64 df.k, .int .i64 df.n, .int .i64 df.s, .string df.t, .int .i64 df.i] := by rw [← hE]; exact BoxIs.new rfl
      have hz1 : Below w1.heap.size w1 z1 := by rw [← hE]; exact Below.alloc hZA hZA.size _
      obtain ⟨b6, hb6⟩ : ∃ g, g = zA.heap.size := ⟨_, rfl⟩
      rw [← hb6] at KL1 ⊢
      have hne1 : True := trivial
      clear hE hb6
      refine hK.out _ _ ?_ (fun hH2 => ?_)
      · exact HK _ hz1
      clear hK K hHeld
      have hHeld := hH2
      clear hH2
      try simp only [List.getElem_toArray, List.getElem_cons_zero, List.getElem_cons_succ, shH]
      refine rdH [0] ?_
      refine AllReadyH.cons rfl (fun K hK => ?_) AllReadyH.nil
      go_simp
      generalize hE : World.alloc _ _ = z2
      have hown2 : z2.ownsRow w1.heap.size 26 5 (.slice (some ⟨z1.heap.size, 0, none⟩) 0 0) 0 [] := by rw [← hE]; exact own_lit1 rfl hz1.size
      have hz2 : Below w1.heap.size w1 z2 := by rw [← hE]; exact Below.alloc hz1 hz1.size _
      have KL2 : BoxIs z2 b6 #[.int .i64 df.k, .int .i64 df.n, .int .i64 df.s, .string df.t, .int .i64 df.i] := by rw [← hE]; exact KL1.alloc _
      obtain ⟨g0, hg0⟩ : ∃ g, g = z1.heap.size := ⟨_, rfl⟩
      rw [← hg0] at hown2
      have hne2 : some g0 ≠ some b6 := by have := KL1.lt; intro h; injection h; omega
      clear hE
      refine hK.out _ _ ?_ (fun hH2 => ?_)
      · exact HK _ hz2
      clear hK K hHeld
      have hHeld := hH2
      clear hH2
      try simp only [List.getElem_toArray, List.getElem_cons_zero, List.getElem_cons_succ, shH]
      rw [← hg0]
      clear hg0
      refine rdH [2] ?_
      refine AllReadyH.cons rfl (fun K hK => ?_) AllReadyH.nil
      refine step_spread2 rfl _ _ 22 rfl w1.heap.size 26 i0 (.agg #[.int .i64 0, .int .i64 0, .int .i64 0, .string ⟨#[]⟩, .int .i64 0]) 5 48 Tryd.underlying22 hinf hza hzb hzc rfl (by decide) (.slice (some ⟨g0, 0, none⟩) 0 0) 0 [] rfl hown2 A os.length ca (os.flatMap Vl.cells5) rfl (five_len os) (rdv_none (HA.out.below hbw1)) (rdv_news ((HA.out.below hbw1).below hz2)) (five_one os) (by unfold maxLen; omega) (by omega) hz2.size ?_
      intro v3 z3 hown3 hgr3 hob3
      have hz3 : Below w1.heap.size w1 z3 := hz2.grown hgr3 hz2.size (fun g hg => (hown2.lt g hg).1)
      have KL3 : BoxIs z3 b6 #[.int .i64 df.k, .int .i64 df.n, .int .i64 df.s, .string df.t, .int .i64 df.i] := KL2.grown hgr3 hne2
      have hne3 : v3.ownBlock ≠ some b6 := by rcases hob3 with h9 | h9 <;> rw [h9] <;> first | exact hne2 | (have := KL2.lt; intro h; injection h; omega)
      refine hK.out _ _ ?_ (fun hH2 => ?_)
      · exact HK _ hz3
      clear hK K hHeld
      have hHeld := hH2
      clear hH2
      try simp only [List.getElem_toArray, List.getElem_cons_zero, List.getElem_cons_succ, shH]
      refine rdH [4] ?_
      refine AllReadyH.cons rfl (fun K hK => ?_) AllReadyH.nil
      refine step_spread2 rfl _ _ 22 rfl w1.heap.size 26 i0 (.agg #[.int .i64 0, .int .i64 0, .int .i64 0, .string ⟨#[]⟩, .int .i64 0]) 5 48 Tryd.underlying22 hinf hza hzb hzc rfl (by decide) v3 (0 + os.length) ([] ++ os.flatMap Vl.cells5) rfl hown3 B od.length cb (od.flatMap Vl.cells5) rfl (five_len od) (rdv_none (HB.out.below hbw1)) (rdv_news ((HB.out.below hbw1).below hz3)) (five_one od) (by unfold maxLen; omega) (by omega) hz3.size ?_
      intro v4 z4 hown4 hgr4 hob4
      have hz4 : Below w1.heap.size w1 z4 := hz3.grown hgr4 hz3.size (fun g hg => (hown3.lt g hg).1)
      have KL4 : BoxIs z4 b6 #[.int .i64 df.k, .int .i64 df.n, .int .i64 df.s, .string df.t, .int .i64 df.i] := KL3.grown hgr4 hne3
      have hne4 : v4.ownBlock ≠ some b6 := by rcases hob4 with h9 | h9 <;> rw [h9] <;> first | exact hne3 | (have := KL3.lt; intro h; injection h; omega)
      refine hK.out _ _ ?_ (fun hH2 => ?_)
      · exact HK _ hz4
      clear hK K hHeld
      have hHeld := hH2
      clear hH2
      try simp only [List.getElem_toArray, List.getElem_cons_zero, List.getElem_cons_succ, shH]
      refine rdH [7] ?_
      refine AllReadyH.cons rfl (fun K hK => ?_) AllReadyH.nil
      refine step_spread2 rfl _ _ 22 rfl w1.heap.size 26 i0 (.agg #[.int .i64 0, .int .i64 0, .int .i64 0, .string ⟨#[]⟩, .int .i64 0]) 5 48 Tryd.underlying22 hinf hza hzb hzc rfl (by decide) v4 (0 + os.length + od.length) ([] ++ os.flatMap Vl.cells5 ++ od.flatMap Vl.cells5) rfl hown4 (some ⟨b6, 0, none⟩) 1 1 df.cells5 rfl rfl (by intro h; cases h) KL4.news (by intro u hu; simp [Vl.cells5] at hu; rcases hu with rfl | rfl | rfl | rfl | rfl <;> rfl) (by unfold maxLen; omega) (by omega) hz4.size ?_
      intro v5 z5 hown5 hgr5 hob5
      have hz5 : Below w1.heap.size w1 z5 := hz4.grown hgr5 hz4.size (fun g hg => (hown4.lt g hg).1)
      refine hK.out _ _ ?_ (fun hH2 => ?_)
      · exact HK _ hz5
      clear hK K hHeld
      have hHeld := hH2
      clear hH2
      try simp only [List.getElem_toArray, List.getElem_cons_zero, List.getElem_cons_succ, shH]
      refine tkH 8 ?_
      try simp only [List.getElem_toArray, List.getElem_cons_zero, List.getElem_cons_succ, shH]
      refine dnH ?_ _
      exact TAIL g0 v3 v4 b6 v5 z5 hz5 hown5
      case tail =>
        intro g0 v54 v56 b6 v61 w2 hb2 hown
        clear HK
        obtain ⟨L, cl, rfl, hL⟩ := own_rd (css := (os ++ od ++ [df]).map Vl.cells5) hown (by rw [← List.flatMap_def, List.flatMap_append, List.flatMap_append]; simp) (five_all _) (by simp; omega)
        obtain ⟨all, hall⟩ : ∃ all, (os ++ od ++ [df]) = all := ⟨_, rfl⟩
        obtain ⟨N, hN⟩ : ∃ N, 0 + os.length + od.length + 1 = N := ⟨_, rfl⟩
        have hNl : all.length = N := by rw [← hall, ← hN]; simp; omega
        have hNb : N ≤ 2000001 := by omega
        have HAW : Hid (∀ v ∈ all, v.wf) := Lib.hid (by
          rw [← hall]
          intro v hv
          rcases List.mem_append.1 hv with hv | hv
          · rcases List.mem_append.1 hv with hv | hv
            · exact HOS.out v hv
            · exact HOD.out v hv
          · rw [List.mem_singleton.1 hv]; exact HDF.out)
        rw [hall] at hL
        rw [hN]
        have HL := Lib.hid hL
        have HNL := Lib.hid hNl
        have HSA : Hid (∀ v ∈ all, sndB v = true) := Lib.hid (by rw [← hall]; exact sndAll_mem.1 HSND.out)
        have K0 := K0.below hb2
        have K1 := K1.below hb2
        have K2 := K2.below hb2
        have hbw2 : Below w.heap.size w w2 := hbw1.trans (hb2.mono hbw1.size)
        clear k0 k1 k2 f1 hL hown hb2 hbw1 hNl hall hN
        (try simp only [Exit.then, Exit.inBlock])
        go_wp2_with fail
        go_loopg [16] N (fun k iv wr => ∃ j : Nat, iv = .int .i64 j ∧ j ≤ N ∧ N - j ≤ k ∧ Below w2.heap.size w2 wr)
        case atStart => exact ⟨0, rfl, by omega, by omega, Below.refl _ _⟩
        case round =>
          obtain ⟨j, rfl, hj, hjk, hbel⟩ := hrel
          have K0 := K0.below hbel
          have K1 := K1.below hbel
          have K2 := K2.below hbel
          have hbw : Below w.heap.size w wr := hbw2.trans (hbel.mono hbw2.size)
          have k0 := K0.c
          have k1 := K1.c
          have k2 := K2.c
          have f1 := K1.f
          by_cases hlt : j < N
          · have hlt2 : j < all.length := by rw [HNL.out]; exact hlt
            obtain ⟨b, off, rfl, hx⟩ := (HL.out.below hbel).at_ hlt2
            have hxw := HAW.out _ (List.getElem_mem hlt2)
            have hxs := HSA.out _ (List.getElem_mem hlt2)
            generalize all[j]'hlt2 = x at *
            have y0 : wr.cell? ⟨b, off + j * 5, none⟩ = some (.int .i64 x.k) := hx.get 0 rfl
            have y1 : wr.cell? ⟨b, off + j * 5 + 1, none⟩ = some (.int .i64 x.n) := hx.get 1 rfl
            have y2 : wr.cell? ⟨b, off + j * 5 + 2, none⟩ = some (.int .i64 x.s) := hx.get 2 rfl
            have y3 : wr.cell? ⟨b, off + j * 5 + 3, none⟩ = some (.string x.t) := hx.get 3 rfl
            have y4 : wr.cell? ⟨b, off + j * 5 + 4, none⟩ = some (.int .i64 x.i) := hx.get 4 rfl
            have i1 : (j : Int) < (N : Int) := by omega
            have i2 : (0 : Int) ≤ (j : Int) := by omega
            clear hx
            go_wp2_with fail
            refine (rSound_any x _ hxw).mono ?_
            rintro e w3 ⟨rfl, hb3⟩
            rw [hxs]
            clear k0 k1 k2 f1 y0 y1 y2 y3 y4 hxs hxw
            go_wp2_with fail
            go_roundg (gk - 1)
            case measure => omega
            case rel => exact ⟨j + 1, by go_num, by omega, by omega, hbel.trans (hb3.mono hbel.size)⟩
          · have i1 : ¬ (j : Int) < (N : Int) := by omega
            clear hlt HAW HL HNL hjk hj
            obtain ⟨w4, hw4⟩ : ∃ z, z = wr := ⟨_, rfl⟩
            subst hw4
            have hn0 := HN0.out
            go_wp2_with fail
            clear hn0
            have hbW5 : Below w4.heap.size w4 (w4.alloc (.cells #[] 26)) := Below.alloc (Below.refl _ _) (Nat.le_refl _) _
            have hown0 : (w4.alloc (.cells #[] 26)).ownsRow w4.heap.size 26 5 (.slice (some ⟨w4.heap.size, 0, none⟩) 0 0) 0 [] := own_lit1 rfl (Nat.le_refl _)
            clear k0 k1 k2 f1
            go_loopg [19, 20] fs.length (fun k ov iv wr => ∃ j : Nat, j ≤ fs.length ∧ fs.length - j ≤ k ∧ iv = .int .i64 j ∧ wr.ownsRow w4.heap.size 26 5 ov j ((ps.take j).flatMap Vl.cells5) ∧ Below w4.heap.size w4 wr)
            case atStart => exact ⟨0, by omega, by omega, rfl, hown0, hbW5⟩
            case round =>
              clear hown0 hbW5
              obtain ⟨j, hj, hjk, rfl, hown, hbel⟩ := hrel
              have hsz := hbel.size
              by_cases hlt : j < fs.length
              · obtain ⟨b, off, rfl, hx⟩ := ((HF.out.below hbw).below hbel).at_ hlt
                have hx0 := hfs.lo _ (List.getElem_mem hlt)
                have hx1 := hfs.hi _ (List.getElem_mem hlt)
                have g0 : wr.cell? ⟨b, off + j, none⟩ = some (.int .i64 (fs[j]'hlt)) := by have := hx.get 0 rfl; simpa using this
                have hlp : j < ps.length := by rw [HPL.out]; exact hlt
                have htk : (ps.take (j + 1)).flatMap Vl.cells5 = (ps.take j).flatMap Vl.cells5 ++ (pickV os (fs[j]'hlt)).cells5 := by rw [List.take_succ_eq_append_getElem hlp, List.flatMap_append, HPG.out j hlt hlp]; simp
                clear hlp
                generalize fs[j]'hlt = x at *
                obtain ⟨i, rfl⟩ : ∃ i : Nat, x = (i : Int) := ⟨x.toNat, by omega⟩
                have hio : i < os.length := by omega
                obtain ⟨b2, off2, rfl, hy⟩ := ((HA.out.below hbw).below hbel).at_ hio
                have hpk : pickV os (i : Int) = os[i]'hio := by unfold pickV; rw [Int.toNat_natCast, List.getElem?_eq_getElem hio]; rfl
                rw [hpk] at htk
                generalize os[i]'hio = y at *
                have y0 : wr.cell? ⟨b2, off2 + i * 5, none⟩ = some (.int .i64 y.k) := hy.get 0 rfl
                have y1 : wr.cell? ⟨b2, off2 + i * 5 + 1, none⟩ = some (.int .i64 y.n) := hy.get 1 rfl
                have y2 : wr.cell? ⟨b2, off2 + i * 5 + 2, none⟩ = some (.int .i64 y.s) := hy.get 2 rfl
                have y3 : wr.cell? ⟨b2, off2 + i * 5 + 3, none⟩ = some (.string y.t) := hy.get 3 rfl
                have y4 : wr.cell? ⟨b2, off2 + i * 5 + 4, none⟩ = some (.int .i64 y.i) := hy.get 4 rfl
                have i1 : (j : Int) < (fs.length : Int) := by omega
                have i2 : (0 : Int) ≤ (j : Int) := by omega
                have i3 : (i : Int) < (os.length : Int) := by omega
                have i4 : (0 : Int) ≤ (i : Int) := by omega
                have HTK := Lib.hid htk
                clear hx hy hx0 hx1 hpk htk
                go_wp2_with (first
                  | (at_builtin; refine wpList_append_own _ rfl _ _ 22 rfl w4.heap.size 26 i0 (.agg #[.int .i64 0, .int .i64 0, .int .i64 0, .string ⟨#[]⟩, .int .i64 0]) 5 48 Tryd.underlying22 hinf hza hzb hzc rfl (by decide) _ _ _ rfl (hown.alloc _) ⟨wr.heap.size, 0, none⟩ 1 1 y.cells5 rfl rfl ?c1 ?c2 ?c3 ?c4 ?c5 ?_)
                  | fail)
                case c1 =>
                  intro i u hu
                  match i, hu with
                  | 0, hu => simp [Vl.cells5] at hu; subst hu; simp [Addr.add]
                  | 1, hu => simp [Vl.cells5] at hu; subst hu; simp [Addr.add]
                  | 2, hu => simp [Vl.cells5] at hu; subst hu; simp [Addr.add]
                  | 3, hu => simp [Vl.cells5] at hu; subst hu; simp [Addr.add]
                  | 4, hu => simp [Vl.cells5] at hu; subst hu; simp [Addr.add]
                  | i + 5, hu => simp [Vl.cells5] at hu
                case c2 => intro u hu; simp [Vl.cells5] at hu; rcases hu with rfl | rfl | rfl | rfl | rfl <;> rfl
                case c3 => unfold maxLen; omega
                case c4 => omega
                case c5 => simp; omega
                · intro v' w5 hown' hgrow _
                  have hb5 : Below w4.heap.size w4 w5 := (hbel.alloc hsz _).grown hgrow (by simp; omega) (fun g hg => (hown.lt g hg).1)
                  have hown2 : w5.ownsRow w4.heap.size 26 5 v' (j + 1) ((ps.take (j + 1)).flatMap Vl.cells5) := by rw [HTK.out]; exact hown'
                  clear hgrow hown hown'
                  go_wp2_with fail
                  go_roundg (gk - 1)
                  case measure => omega
                  case rel => exact ⟨j + 1, by omega, by omega, by go_num, hown2, hb5⟩
              · have hje : j = fs.length := by omega
                subst hje
                rw [List.take_of_length_le (Nat.le_of_eq HPL.out)] at hown
                obtain ⟨O, co, rfl, hO⟩ := own_rd (css := ps.map Vl.cells5) hown (by rw [List.flatMap_def]) (by intro c hc; obtain ⟨x, _, rfl⟩ := List.mem_map.1 hc; rfl) (by rw [List.length_map, HPL.out])
                have hol : ps.length = fs.length := HPL.out
                have hpo := HPO.out
                rw [HPC.out] at hO hol hpo
                obtain ⟨b, off, rfl, hx⟩ := hO.at_ (show 0 < (pickV os f :: fr.map (pickV os)).length by simp)
                rw [List.getElem_cons_zero] at hx
                obtain ⟨y, hy⟩ : ∃ y, pickV os f = y := ⟨_, rfl⟩
                obtain ⟨yr, hyr⟩ : ∃ yr, fr.map (pickV os) = yr := ⟨_, rfl⟩
                rw [hy] at hx hO hol hpo
                rw [hyr] at hO hol hpo
                have HY := Lib.hid hy
                have HYR := Lib.hid hyr
                have y0 : wr.cell? ⟨b, off, none⟩ = some (.int .i64 y.k) := by have := hx.get 0 rfl; simpa using this
                have y1 : wr.cell? ⟨b, off + 1, none⟩ = some (.int .i64 y.n) := by have := hx.get 1 rfl; simpa using this
                have y2 : wr.cell? ⟨b, off + 2, none⟩ = some (.int .i64 y.s) := by have := hx.get 2 rfl; simpa using this
                have y3 : wr.cell? ⟨b, off + 3, none⟩ = some (.string y.t) := by have := hx.get 3 rfl; simpa using this
                have y4 : wr.cell? ⟨b, off + 4, none⟩ = some (.int .i64 y.i) := by have := hx.get 4 rfl; simpa using this
                have i9 : ¬ ((fs.length : Int) < (fs.length : Int)) := by omega
                have hp0 : (0 : Int) < (fs.length : Int) := by omega
                have K1 := K1.below hbel
                have K2 := K2.below hbel
                have hbw9 : Below w.heap.size w wr := hbw.trans (hbel.mono hbw.size)
                have k1 := K1.c
                have k2 := K2.c
                have f1 := K1.f
                have l1 := K1.lt
                have l2 := K2.lt
                clear hx hy hyr hown
                have hcall := fun (W : World) (h1 : RdL W 5 (some ⟨b, off, none⟩) ((y :: yr).map Vl.cells5)) => gatL_any y yr (some ⟨b, off, none⟩) co W h1 (by rw [hol]; omega) hpo.1 hpo.2
                rw [hol] at hcall
                have HCALL := Lib.hid hcall
                clear hcall hol hpo
                obtain ⟨R, hR⟩ : ∃ R, gatE false y (y :: yr) y = R := ⟨_, rfl⟩
                rw [hR] at HCALL
                have HR := Lib.hid hR
                clear hR
                go_wp2_with fail
                have KV : BoxIs (wr.alloc (.cells #[.int .i64 y.k, .int .i64 y.n, .int .i64 y.s, .string y.t, .int .i64 y.i] 26)) wr.heap.size #[.int .i64 y.k, .int .i64 y.n, .int .i64 y.s, .string y.t, .int .i64 y.i] := BoxIs.new rfl
                have KA := K1.alloc (.cells #[.int .i64 y.k, .int .i64 y.n, .int .i64 y.s, .string y.t, .int .i64 y.i] 26)
                refine (HCALL.out _ (hO.below bel)).mono ?_
                rintro e w6 ⟨rfl, hb6⟩
                have KV := KV.below hb6
                have KA := KA.below hb6
                have hbw6 : Below w.heap.size w w6 := (hbw9.alloc hbw9.size _).trans (hb6.mono (by simp only [sz_alloc]; have := hbw9.size; omega))
                have kv := KV.c
                have fv := KV.f
                have ka := KA.c
                have fa := KA.f
                clear hb6 k1 k2 f1 y0 y1 y2 y3 y4
                go_wp2_with fail
                refine bodyPost_ret (v := .tuple #[.agg #[.int .i64 R.k, .int .i64 R.n, .int .i64 R.s, .string R.t, .int .i64 R.i], .int .i64 0]) (by simp [results, Tryd.results10, go_sem, *]) rfl ⟨?_, bel⟩
                rw [← HR.out, ← HY.out, ← HYR.out]
end Go.Proofs.YtfhmjkdpohepaaaDoor
