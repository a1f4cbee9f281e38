import Derived.Test.YtfhmjkdpohepaaaDoorPk20
import Derived.Test.YtfhmjkdpohepaaaDoorPk08
import Derived.Test.YtfhmjkdpohepaaaDoorPk01
/- soffit/policy.Outcome, walked: that which all are that fire. -/
set_option linter.unusedSimpArgs false
set_option linter.unusedVariables false
namespace Go.Proofs.YtfhmjkdpohepaaaDoor
open Go.RowKit

set_option maxRecDepth 100000 in
set_option maxHeartbeats 6400000 in
theorem outAny (os od : List Vl) (df : Vl) (fs : List Int) (A B F : Option Addr) (ca cb cf : Nat) (w : World) (hA : RdL w 5 A (os.map Vl.cells5)) (hB : RdL w 5 B (od.map Vl.cells5)) (hF : RdL w 1 F (fs.map intC)) (hos : ∀ v ∈ os, v.wf) (hod : ∀ v ∈ od, v.wf) (hdf : df.wf) (hfs : Rise os.length fs) (h16 : fs.length ≤ 1000000) (n1 : os.length ≤ 9223372036854775807) (n2 : od.length ≤ 9223372036854775807) (hE : Env w)
    (f : Int) (fr : List Int) (hfr : fs = f :: fr) (s1 : allSnd os = true) (s2 : allSnd od = true) (s3 : allSnd [df] = true) :
    Calls Tryd.prog 9 #[.int .i64 65, .slice A os.length ca, .slice B od.length cb, .agg #[.int .i64 df.k, .int .i64 df.n, .int .i64 df.s, .string df.t, .int .i64 df.i], .slice F fs.length cf] w fun e w' =>
      e = .returned (.tuple #[.agg #[.int .i64 (oneV (pickV os f) (pickV os f :: fr.map (pickV os))).k, .int .i64 (oneV (pickV os f) (pickV os f :: fr.map (pickV os))).n, .int .i64 (oneV (pickV os f) (pickV os f :: fr.map (pickV os))).s, .string (oneV (pickV os f) (pickV os f :: fr.map (pickV os))).t, .int .i64 (oneV (pickV os f) (pickV os f :: fr.map (pickV os))).i], .int .i64 0]) ∧ Below w.heap.size w w' := by
  have hk : knownB 65 = true := by decide
  have hlen : 0 < fs.length := by rw [hfr]; simp
  have hn0 : ((fs.length : Int) == 0) = false := by rw [beq_eq_false_iff_ne]; omega
  have hpick : fs.map (pickV os) = pickV os f :: fr.map (pickV os) := by rw [hfr]; rfl
  
  obtain ⟨ps, hps⟩ : ∃ ps, fs.map (pickV os) = ps := ⟨_, rfl⟩
  have hpl : ps.length = fs.length := by rw [← hps]; exact List.length_map _
  have hpg : ∀ j (h : j < fs.length) (h2 : j < ps.length), ps[j]'h2 = pickV os (fs[j]'h) := by intro j h h2; subst hps; simp
  have hpc : ps = pickV os f :: fr.map (pickV os) := hps.symm.trans hpick
  have HPL := Lib.hid hpl
  have HPG := Lib.hid hpg
  have HPC := Lib.hid hpc
  clear hfr hpick hps hpl hpg hpc
  obtain ⟨i0, hinf, hza, hzb, hzc⟩ := info_parts (show (Tryd.prog.info? 26).map (fun i => (i.zero, i.size, i.bytes)) = some (some (.agg #[.int .i64 0, .int .i64 0, .int .i64 0, .string ⟨#[]⟩, .int .i64 0]), 5, 48) by kernel_rfl)
  go_enter Tryd.func9, Tryd.ntmps9
  go_wp2_with fail
  generalize hEW0 : (w.alloc _).alloc _ = W0
  have hbW0 : Below w.heap.size w W0 := (by rw [← hEW0]; exact bel)
  have lW0_0 : w.heap.size < W0.heap.size := lsz hEW0
  have qW0_0 : ∀ o, W0.cell? ⟨w.heap.size, o, none⟩ = _ := fun o => congrArg (fun W : World => W.cell? ⟨w.heap.size, o, none⟩) hEW0.symm
  have rW0_0 : ∀ o, W0.frozen? ⟨w.heap.size, o, none⟩ = _ := fun o => congrArg (fun W : World => W.frozen? ⟨w.heap.size, o, none⟩) hEW0.symm
  have lW0_1 : w.heap.size + 1 < W0.heap.size := lsz hEW0
  have qW0_1 : ∀ o, W0.cell? ⟨w.heap.size + 1, o, none⟩ = _ := fun o => congrArg (fun W : World => W.cell? ⟨w.heap.size + 1, o, none⟩) hEW0.symm
  have rW0_1 : ∀ o, W0.frozen? ⟨w.heap.size + 1, o, none⟩ = _ := fun o => congrArg (fun W : World => W.frozen? ⟨w.heap.size + 1, o, none⟩) hEW0.symm
  clear hEW0
  refine (known_any 65 _).mono ?_
  rintro e w1 ⟨rfl, hb1⟩
  rw [hk]
  clear hk
  have hz1 := hb1.size
  try simp at hz1
  obtain ⟨q1_0, l1_0, r1_0⟩ := aft hb1 (w.heap.size)
  obtain ⟨q1_1, l1_1, r1_1⟩ := aft hb1 (w.heap.size + 1)
  go_wp2_with fail
  have hw1 : Below w.heap.size w w1 := bel
  go_loopg [25] fs.length (fun k iv wr => ∃ j : Nat, j ≤ fs.length ∧ fs.length - j ≤ k ∧ iv = .int .i64 j ∧ Below w1.heap.size w1 wr)
  case atStart => exact ⟨0, by omega, by omega, rfl, Below.refl _ _⟩
  case round =>
    obtain ⟨j, hj, hjk, rfl, hbel⟩ := hrel
    have hsz := hbel.size
    have qa_0 := fun o => (hbel.cell (p := ⟨w.heap.size, o, none⟩) l1_0).trans (q1_0 o)
    have ra_0 := fun o => (hbel.frozen (p := ⟨w.heap.size, o, none⟩) l1_0).trans (r1_0 o)
    have la_0 : w.heap.size < wr.heap.size := by omega
    have qa_1 := fun o => (hbel.cell (p := ⟨w.heap.size + 1, o, none⟩) l1_1).trans (q1_1 o)
    have ra_1 := fun o => (hbel.frozen (p := ⟨w.heap.size + 1, o, none⟩) l1_1).trans (r1_1 o)
    have la_1 : w.heap.size + 1 < wr.heap.size := by omega
    by_cases hlt : j < fs.length
    · obtain ⟨b, off, rfl, hx⟩ := ((hF.below hw1).below hbel).at_ hlt
      have hx0 := hfs.lo _ (List.getElem_mem hlt)
      have hx1 := hfs.hi _ (List.getElem_mem hlt)
      have g0 : wr.cell? ⟨b, off + j, none⟩ = some (.int .i64 (fs[j]'hlt)) := by have := hx.get 0 rfl; simpa using this
      have i0 : (0 : Int) ≤ (j : Int) := by omega
      have i1 : (j : Int) < (fs.length : Int) := by omega
      rcases j with _ | i
      · generalize fs[0]'hlt = x at *
        have e1 : ¬ (x < 0) := by omega
        have e2 : ¬ ((os.length : Int) ≤ x) := by omega
        clear hx hx0 hx1
        try simp only [Int.natCast_zero, Nat.add_zero] at *
        go_wp2_with fail
        go_roundg (gk - 1)
        case measure => omega
        case rel => exact ⟨1, by omega, by omega, by go_num, bel⟩
      · have hy := hfs.up i hlt
        have g1 : wr.cell? ⟨b, off + i, none⟩ = some (.int .i64 (fs[i]'(by omega))) := by have := hF.below hw1; have := this.below hbel; have := (this.at_ (show i < fs.length by omega)); obtain ⟨b2, o2, e, hh⟩ := this; cases e; have := hh.get 0 rfl; simpa using this
        generalize fs[i + 1]'hlt = x at *
        generalize fs[i]'(Nat.lt_of_succ_lt hlt) = y at *
        have e1 : ¬ (x < 0) := by omega
        have e2 : ¬ ((os.length : Int) ≤ x) := by omega
        have e3 : ¬ (x ≤ y) := by omega
        have e4 : (0 : Int) < (i : Int) + 1 := by omega
        have e5 : (i : Int) < (fs.length : Int) := by omega
        have e6 : (0 : Int) ≤ (i : Int) := by omega
        clear hx hx0 hx1 hy
        try simp only [Int.natCast_add, Int.natCast_one] at *
        go_wp2_with fail
        go_roundg (gk - 1)
        case measure => omega
        case rel => exact ⟨i + 2, by omega, by omega, by go_num, bel⟩
    · clear hj hjk
      go_wp2_with fail
      refine (psound_any os A ca _ (hA.below bel) hos n1 (hE.below bel)).mono ?_
      rintro e w2 ⟨rfl, hb2⟩
      rw [s1]
      clear s1
      have hz2 := hb2.size
      try simp at hz2
      obtain ⟨q2_0, l2_0, r2_0⟩ := aft hb2 (w.heap.size)
      obtain ⟨q2_1, l2_1, r2_1⟩ := aft hb2 (w.heap.size + 1)
      go_wp2_with fail
      refine (psound_any od B cb _ (hB.below bel) hod n2 (hE.below bel)).mono ?_
      rintro e w3 ⟨rfl, hb3⟩
      rw [s2]
      clear s2
      have hz3 := hb3.size
      try simp at hz3
      obtain ⟨q3_0, l3_0, r3_0⟩ := aft hb3 (w.heap.size)
      obtain ⟨q3_1, l3_1, r3_1⟩ := aft hb3 (w.heap.size + 1)
      go_wp2_with fail
      generalize hEW4 : w3.alloc _ = W4
      have hbW4 : Below w.heap.size w W4 := (by rw [← hEW4]; exact bel)
      have lW4_0 : w.heap.size < W4.heap.size := lsz hEW4
      have qW4_0 : ∀ o, W4.cell? ⟨w.heap.size, o, none⟩ = _ := fun o => congrArg (fun W : World => W.cell? ⟨w.heap.size, o, none⟩) hEW4.symm
      have rW4_0 : ∀ o, W4.frozen? ⟨w.heap.size, o, none⟩ = _ := fun o => congrArg (fun W : World => W.frozen? ⟨w.heap.size, o, none⟩) hEW4.symm
      have lW4_1 : w.heap.size + 1 < W4.heap.size := lsz hEW4
      have qW4_1 : ∀ o, W4.cell? ⟨w.heap.size + 1, o, none⟩ = _ := fun o => congrArg (fun W : World => W.cell? ⟨w.heap.size + 1, o, none⟩) hEW4.symm
      have rW4_1 : ∀ o, W4.frozen? ⟨w.heap.size + 1, o, none⟩ = _ := fun o => congrArg (fun W : World => W.frozen? ⟨w.heap.size + 1, o, none⟩) hEW4.symm
      have lW4_2 : w3.heap.size < W4.heap.size := lsz hEW4
      have qW4_2 : ∀ o, W4.cell? ⟨w3.heap.size, o, none⟩ = _ := fun o => congrArg (fun W : World => W.cell? ⟨w3.heap.size, o, none⟩) hEW4.symm
      have rW4_2 : ∀ o, W4.frozen? ⟨w3.heap.size, o, none⟩ = _ := fun o => congrArg (fun W : World => W.frozen? ⟨w3.heap.size, o, none⟩) hEW4.symm
      clear hEW4
      have t0 : ∀ o, W4.cell? ⟨w3.heap.size, o, none⟩ = df.cells5.toArray[o]? := by intro o; rw [qW4_2 o]; simp [go_sem]; rfl
      have rd : RdL W4 5 (some ⟨w3.heap.size, 0, none⟩) ([df].map Vl.cells5) := rdL_one t0
      clear t0
      have hd1 : ∀ v ∈ [df], v.wf := by intro v hv; have e : v = df := (by simpa using hv); rw [e]; exact hdf
      refine (psound_any [df] _ 1 _ rd hd1 (by show (1 : Nat) ≤ 9223372036854775807; omega) (hE.below bel)).mono ?_
      rintro e w4 ⟨rfl, hb4⟩
      rw [s3]
      clear s3 rd hd1
      have hz4 := hb4.size
      try simp at hz4
      obtain ⟨q4_0, l4_0, r4_0⟩ := aft hb4 (w.heap.size)
      obtain ⟨q4_1, l4_1, r4_1⟩ := aft hb4 (w.heap.size + 1)
      go_wp2_with fail
      have hw4 : Below w.heap.size w w4 := bel
      go_loopg [16, 85] fs.length (fun k ov iv wr => ∃ j : Nat, j ≤ fs.length ∧ fs.length - j ≤ k ∧ iv = .int .i64 j ∧ wr.ownsRow w4.heap.size 26 5 ov j ((ps.take j).flatMap Vl.cells5) ∧ Below w4.heap.size w4 wr)
      case atStart => exact ⟨0, by omega, by omega, rfl, ⟨rfl, Or.inl ⟨rfl, rfl⟩⟩, Below.refl _ _⟩
      case round =>
        obtain ⟨j, hj, hjk, rfl, hown, hbel⟩ := hrel
        have hsz := hbel.size
        have qr_0 := fun o => (hbel.cell (p := ⟨w.heap.size, o, none⟩) l4_0).trans (q4_0 o)
        have rr_0 := fun o => (hbel.frozen (p := ⟨w.heap.size, o, none⟩) l4_0).trans (r4_0 o)
        have lr_0 : w.heap.size < wr.heap.size := by omega
        have qr_1 := fun o => (hbel.cell (p := ⟨w.heap.size + 1, o, none⟩) l4_1).trans (q4_1 o)
        have rr_1 := fun o => (hbel.frozen (p := ⟨w.heap.size + 1, o, none⟩) l4_1).trans (r4_1 o)
        have lr_1 : w.heap.size + 1 < wr.heap.size := by omega
        by_cases hlt : j < fs.length
        · obtain ⟨b, off, rfl, hx⟩ := ((hF.below hw4).below hbel).at_ hlt
          have hx0 := hfs.lo _ (List.getElem_mem hlt)
          have hx1 := hfs.hi _ (List.getElem_mem hlt)
          have g0 : wr.cell? ⟨b, off + j, none⟩ = some (.int .i64 (fs[j]'hlt)) := by have := hx.get 0 rfl; simpa using this
          have hlp : j < ps.length := by rw [HPL.out]; exact hlt
          have htk : (ps.take (j + 1)).flatMap Vl.cells5 = (ps.take j).flatMap Vl.cells5 ++ (pickV os (fs[j]'hlt)).cells5 := by rw [List.take_succ_eq_append_getElem hlp, List.flatMap_append, HPG.out j hlt hlp]; simp
          clear hlp
          generalize fs[j]'hlt = x at *
          obtain ⟨i, rfl⟩ : ∃ i : Nat, x = (i : Int) := ⟨x.toNat, by omega⟩
          have hio : i < os.length := by omega
          obtain ⟨b2, off2, rfl, hy⟩ := ((hA.below hw4).below hbel).at_ hio
          have hpk : pickV os (i : Int) = os[i]'hio := by unfold pickV; rw [Int.toNat_natCast, List.getElem?_eq_getElem hio]; rfl
          rw [hpk] at htk
          generalize os[i]'hio = y at *
          have y0 : wr.cell? ⟨b2, off2 + i * 5, none⟩ = some (.int .i64 y.k) := hy.get 0 rfl
          have y1 : wr.cell? ⟨b2, off2 + i * 5 + 1, none⟩ = some (.int .i64 y.n) := hy.get 1 rfl
          have y2 : wr.cell? ⟨b2, off2 + i * 5 + 2, none⟩ = some (.int .i64 y.s) := hy.get 2 rfl
          have y3 : wr.cell? ⟨b2, off2 + i * 5 + 3, none⟩ = some (.string y.t) := hy.get 3 rfl
          have y4 : wr.cell? ⟨b2, off2 + i * 5 + 4, none⟩ = some (.int .i64 y.i) := hy.get 4 rfl
          have i1 : (j : Int) < (fs.length : Int) := by omega
          have i2 : (0 : Int) ≤ (j : Int) := by omega
          have i3 : (i : Int) < (os.length : Int) := by omega
          have i4 : (0 : Int) ≤ (i : Int) := by omega
          have HTK := Lib.hid htk
          clear hx hy hx0 hx1 hpk htk
          go_wp2_with (first
            | (at_builtin; refine wpList_append_own _ rfl _ _ 46 rfl w4.heap.size 26 i0 (.agg #[.int .i64 0, .int .i64 0, .int .i64 0, .string ⟨#[]⟩, .int .i64 0]) 5 48 Tryd.underlying46 hinf hza hzb hzc rfl (by decide) _ _ _ rfl (hown.alloc _) ⟨wr.heap.size, 0, none⟩ 1 1 y.cells5 rfl rfl ?c1 ?c2 ?c3 ?c4 ?c5 ?_)
            | fail)
          case c1 =>
            intro i u hu
            match i, hu with
            | 0, hu => simp [Vl.cells5] at hu; subst hu; simp [Addr.add]
            | 1, hu => simp [Vl.cells5] at hu; subst hu; simp [Addr.add]
            | 2, hu => simp [Vl.cells5] at hu; subst hu; simp [Addr.add]
            | 3, hu => simp [Vl.cells5] at hu; subst hu; simp [Addr.add]
            | 4, hu => simp [Vl.cells5] at hu; subst hu; simp [Addr.add]
            | i + 5, hu => simp [Vl.cells5] at hu
          case c2 => intro u hu; simp [Vl.cells5] at hu; rcases hu with rfl | rfl | rfl | rfl | rfl <;> rfl
          case c3 => unfold maxLen; omega
          case c4 => omega
          case c5 => simp; omega
          · intro v' w5 hown' hgrow _
            have hb5 : Below w4.heap.size w4 w5 := (hbel.alloc hsz _).grown hgrow (by simp; omega) (fun g hg => (hown.lt g hg).1)
            have hown2 : w5.ownsRow w4.heap.size 26 5 v' (j + 1) ((ps.take (j + 1)).flatMap Vl.cells5) := by rw [HTK.out]; exact hown'
            clear hgrow hown hown'
            go_wp2_with fail
            go_roundg (gk - 1)
            case measure => omega
            case rel => exact ⟨j + 1, by omega, by omega, by go_num, hown2, hb5⟩
        · have hje : j = fs.length := by omega
          subst hje
          rw [List.take_of_length_le (Nat.le_of_eq HPL.out)] at hown
          obtain ⟨O, co, rfl, hO⟩ := own_rd (css := ps.map Vl.cells5) hown (by rw [List.flatMap_def]) (by intro c hc; obtain ⟨x, _, rfl⟩ := List.mem_map.1 hc; rfl) (by rw [List.length_map, HPL.out])
          have hol : ps.length = fs.length := HPL.out
          rw [HPC.out] at hO hol
          have i1 : ¬ ((fs.length : Int) < (fs.length : Int)) := by omega
          have hcall := fun (W : World) (h1 : RdL W 5 O ((pickV os f :: fr.map (pickV os)).map Vl.cells5)) => one_any (pickV os f) (fr.map (pickV os)) O co W h1 (by rw [hol]; omega)
          rw [hol] at hcall
          go_wp2_with fail
          refine (hcall _ (hO.below bel)).mono ?_
          rintro e w6 ⟨rfl, hb6⟩
          clear hcall
          have hz6 := hb6.size
          try simp at hz6
          obtain ⟨q6_0, l6_0, r6_0⟩ := aft hb6 (w.heap.size)
          obtain ⟨q6_1, l6_1, r6_1⟩ := aft hb6 (w.heap.size + 1)
          obtain ⟨R, hR⟩ : ∃ R, (oneV (pickV os f) (pickV os f :: fr.map (pickV os))) = R := ⟨_, rfl⟩
          rw [hR]
          have HR := Lib.hid hR
          clear hR
          go_wp2_with fail
          refine bodyPost_ret (v := .tuple #[.agg #[.int .i64 R.k, .int .i64 R.n, .int .i64 R.s, .string R.t, .int .i64 R.i], .int .i64 0]) (by simp [results, Tryd.results9, go_sem, *]) rfl ⟨?_, bel⟩
          rw [HR.out]
end Go.Proofs.YtfhmjkdpohepaaaDoor

/- soffit/policy.Outcome, walked: the least, or the greatest. -/
set_option linter.unusedSimpArgs false
set_option linter.unusedVariables false
namespace Go.Proofs.YtfhmjkdpohepaaaDoor
open Go.RowKit

set_option maxRecDepth 100000 in
set_option maxHeartbeats 6400000 in
theorem outLeast (os od : List Vl) (df : Vl) (fs : List Int) (A B F : Option Addr) (ca cb cf : Nat) (w : World) (hA : RdL w 5 A (os.map Vl.cells5)) (hB : RdL w 5 B (od.map Vl.cells5)) (hF : RdL w 1 F (fs.map intC)) (hos : ∀ v ∈ os, v.wf) (hod : ∀ v ∈ od, v.wf) (hdf : df.wf) (hfs : Rise os.length fs) (h16 : fs.length ≤ 1000000) (n1 : os.length ≤ 9223372036854775807) (n2 : od.length ≤ 9223372036854775807) (hE : Env w)
    (f : Int) (fr : List Int) (hfr : fs = f :: fr) (hpw : ∀ v ∈ (pickV os f :: fr.map (pickV os)), v.wf) (hps9 : ∀ v ∈ (pickV os f :: fr.map (pickV os)), sndB v = true) (s1 : allSnd os = true) (s2 : allSnd od = true) (s3 : allSnd [df] = true) :
    Calls Tryd.prog 9 #[.int .i64 60, .slice A os.length ca, .slice B od.length cb, .agg #[.int .i64 df.k, .int .i64 df.n, .int .i64 df.s, .string df.t, .int .i64 df.i], .slice F fs.length cf] w fun e w' =>
      ∃ R : Vl, e = .returned (.tuple #[.agg #[.int .i64 R.k, .int .i64 R.n, .int .i64 R.s, .string R.t, .int .i64 R.i], .int .i64 0]) ∧ EndOf (pickV os f) (pickV os f :: fr.map (pickV os)) false R ∧ Below w.heap.size w w' := by
  have HPW := Lib.hid hpw
  have HPS := Lib.hid hps9
  clear hpw hps9
  have hk : knownB 60 = true := by decide
  have hlen : 0 < fs.length := by rw [hfr]; simp
  have hn0 : ((fs.length : Int) == 0) = false := by rw [beq_eq_false_iff_ne]; omega
  have hpick : fs.map (pickV os) = pickV os f :: fr.map (pickV os) := by rw [hfr]; rfl
  
  obtain ⟨ps, hps⟩ : ∃ ps, fs.map (pickV os) = ps := ⟨_, rfl⟩
  have hpl : ps.length = fs.length := by rw [← hps]; exact List.length_map _
  have hpg : ∀ j (h : j < fs.length) (h2 : j < ps.length), ps[j]'h2 = pickV os (fs[j]'h) := by intro j h h2; subst hps; simp
  have hpc : ps = pickV os f :: fr.map (pickV os) := hps.symm.trans hpick
  have HPL := Lib.hid hpl
  have HPG := Lib.hid hpg
  have HPC := Lib.hid hpc
  clear hfr hpick hps hpl hpg hpc
  obtain ⟨i0, hinf, hza, hzb, hzc⟩ := info_parts (show (Tryd.prog.info? 26).map (fun i => (i.zero, i.size, i.bytes)) = some (some (.agg #[.int .i64 0, .int .i64 0, .int .i64 0, .string ⟨#[]⟩, .int .i64 0]), 5, 48) by kernel_rfl)
  go_enter Tryd.func9, Tryd.ntmps9
  go_wp2_with fail
  generalize hEW0 : (w.alloc _).alloc _ = W0
  have hbW0 : Below w.heap.size w W0 := (by rw [← hEW0]; exact bel)
  have lW0_0 : w.heap.size < W0.heap.size := lsz hEW0
  have qW0_0 : ∀ o, W0.cell? ⟨w.heap.size, o, none⟩ = _ := fun o => congrArg (fun W : World => W.cell? ⟨w.heap.size, o, none⟩) hEW0.symm
  have rW0_0 : ∀ o, W0.frozen? ⟨w.heap.size, o, none⟩ = _ := fun o => congrArg (fun W : World => W.frozen? ⟨w.heap.size, o, none⟩) hEW0.symm
  have lW0_1 : w.heap.size + 1 < W0.heap.size := lsz hEW0
  have qW0_1 : ∀ o, W0.cell? ⟨w.heap.size + 1, o, none⟩ = _ := fun o => congrArg (fun W : World => W.cell? ⟨w.heap.size + 1, o, none⟩) hEW0.symm
  have rW0_1 : ∀ o, W0.frozen? ⟨w.heap.size + 1, o, none⟩ = _ := fun o => congrArg (fun W : World => W.frozen? ⟨w.heap.size + 1, o, none⟩) hEW0.symm
  clear hEW0
  refine (known_any 60 _).mono ?_
  rintro e w1 ⟨rfl, hb1⟩
  rw [hk]
  clear hk
  have hz1 := hb1.size
  try simp at hz1
  obtain ⟨q1_0, l1_0, r1_0⟩ := aft hb1 (w.heap.size)
  obtain ⟨q1_1, l1_1, r1_1⟩ := aft hb1 (w.heap.size + 1)
  go_wp2_with fail
  have hw1 : Below w.heap.size w w1 := bel
  go_loopg [25] fs.length (fun k iv wr => ∃ j : Nat, j ≤ fs.length ∧ fs.length - j ≤ k ∧ iv = .int .i64 j ∧ Below w1.heap.size w1 wr)
  case atStart => exact ⟨0, by omega, by omega, rfl, Below.refl _ _⟩
  case round =>
    obtain ⟨j, hj, hjk, rfl, hbel⟩ := hrel
    have hsz := hbel.size
    have qa_0 := fun o => (hbel.cell (p := ⟨w.heap.size, o, none⟩) l1_0).trans (q1_0 o)
    have ra_0 := fun o => (hbel.frozen (p := ⟨w.heap.size, o, none⟩) l1_0).trans (r1_0 o)
    have la_0 : w.heap.size < wr.heap.size := by omega
    have qa_1 := fun o => (hbel.cell (p := ⟨w.heap.size + 1, o, none⟩) l1_1).trans (q1_1 o)
    have ra_1 := fun o => (hbel.frozen (p := ⟨w.heap.size + 1, o, none⟩) l1_1).trans (r1_1 o)
    have la_1 : w.heap.size + 1 < wr.heap.size := by omega
    by_cases hlt : j < fs.length
    · obtain ⟨b, off, rfl, hx⟩ := ((hF.below hw1).below hbel).at_ hlt
      have hx0 := hfs.lo _ (List.getElem_mem hlt)
      have hx1 := hfs.hi _ (List.getElem_mem hlt)
      have g0 : wr.cell? ⟨b, off + j, none⟩ = some (.int .i64 (fs[j]'hlt)) := by have := hx.get 0 rfl; simpa using this
      have i0 : (0 : Int) ≤ (j : Int) := by omega
      have i1 : (j : Int) < (fs.length : Int) := by omega
      rcases j with _ | i
      · generalize fs[0]'hlt = x at *
        have e1 : ¬ (x < 0) := by omega
        have e2 : ¬ ((os.length : Int) ≤ x) := by omega
        clear hx hx0 hx1
        try simp only [Int.natCast_zero, Nat.add_zero] at *
        go_wp2_with fail
        go_roundg (gk - 1)
        case measure => omega
        case rel => exact ⟨1, by omega, by omega, by go_num, bel⟩
      · have hy := hfs.up i hlt
        have g1 : wr.cell? ⟨b, off + i, none⟩ = some (.int .i64 (fs[i]'(by omega))) := by have := hF.below hw1; have := this.below hbel; have := (this.at_ (show i < fs.length by omega)); obtain ⟨b2, o2, e, hh⟩ := this; cases e; have := hh.get 0 rfl; simpa using this
        generalize fs[i + 1]'hlt = x at *
        generalize fs[i]'(Nat.lt_of_succ_lt hlt) = y at *
        have e1 : ¬ (x < 0) := by omega
        have e2 : ¬ ((os.length : Int) ≤ x) := by omega
        have e3 : ¬ (x ≤ y) := by omega
        have e4 : (0 : Int) < (i : Int) + 1 := by omega
        have e5 : (i : Int) < (fs.length : Int) := by omega
        have e6 : (0 : Int) ≤ (i : Int) := by omega
        clear hx hx0 hx1 hy
        try simp only [Int.natCast_add, Int.natCast_one] at *
        go_wp2_with fail
        go_roundg (gk - 1)
        case measure => omega
        case rel => exact ⟨i + 2, by omega, by omega, by go_num, bel⟩
    · clear hj hjk
      go_wp2_with fail
      refine (psound_any os A ca _ (hA.below bel) hos n1 (hE.below bel)).mono ?_
      rintro e w2 ⟨rfl, hb2⟩
      rw [s1]
      clear s1
      have hz2 := hb2.size
      try simp at hz2
      obtain ⟨q2_0, l2_0, r2_0⟩ := aft hb2 (w.heap.size)
      obtain ⟨q2_1, l2_1, r2_1⟩ := aft hb2 (w.heap.size + 1)
      go_wp2_with fail
      refine (psound_any od B cb _ (hB.below bel) hod n2 (hE.below bel)).mono ?_
      rintro e w3 ⟨rfl, hb3⟩
      rw [s2]
      clear s2
      have hz3 := hb3.size
      try simp at hz3
      obtain ⟨q3_0, l3_0, r3_0⟩ := aft hb3 (w.heap.size)
      obtain ⟨q3_1, l3_1, r3_1⟩ := aft hb3 (w.heap.size + 1)
      go_wp2_with fail
      generalize hEW4 : w3.alloc _ = W4
      have hbW4 : Below w.heap.size w W4 := (by rw [← hEW4]; exact bel)
      have lW4_0 : w.heap.size < W4.heap.size := lsz hEW4
      have qW4_0 : ∀ o, W4.cell? ⟨w.heap.size, o, none⟩ = _ := fun o => congrArg (fun W : World => W.cell? ⟨w.heap.size, o, none⟩) hEW4.symm
      have rW4_0 : ∀ o, W4.frozen? ⟨w.heap.size, o, none⟩ = _ := fun o => congrArg (fun W : World => W.frozen? ⟨w.heap.size, o, none⟩) hEW4.symm
      have lW4_1 : w.heap.size + 1 < W4.heap.size := lsz hEW4
      have qW4_1 : ∀ o, W4.cell? ⟨w.heap.size + 1, o, none⟩ = _ := fun o => congrArg (fun W : World => W.cell? ⟨w.heap.size + 1, o, none⟩) hEW4.symm
      have rW4_1 : ∀ o, W4.frozen? ⟨w.heap.size + 1, o, none⟩ = _ := fun o => congrArg (fun W : World => W.frozen? ⟨w.heap.size + 1, o, none⟩) hEW4.symm
      have lW4_2 : w3.heap.size < W4.heap.size := lsz hEW4
      have qW4_2 : ∀ o, W4.cell? ⟨w3.heap.size, o, none⟩ = _ := fun o => congrArg (fun W : World => W.cell? ⟨w3.heap.size, o, none⟩) hEW4.symm
      have rW4_2 : ∀ o, W4.frozen? ⟨w3.heap.size, o, none⟩ = _ := fun o => congrArg (fun W : World => W.frozen? ⟨w3.heap.size, o, none⟩) hEW4.symm
      clear hEW4
      have t0 : ∀ o, W4.cell? ⟨w3.heap.size, o, none⟩ = df.cells5.toArray[o]? := by intro o; rw [qW4_2 o]; simp [go_sem]; rfl
      have rd : RdL W4 5 (some ⟨w3.heap.size, 0, none⟩) ([df].map Vl.cells5) := rdL_one t0
      clear t0
      have hd1 : ∀ v ∈ [df], v.wf := by intro v hv; have e : v = df := (by simpa using hv); rw [e]; exact hdf
      refine (psound_any [df] _ 1 _ rd hd1 (by show (1 : Nat) ≤ 9223372036854775807; omega) (hE.below bel)).mono ?_
      rintro e w4 ⟨rfl, hb4⟩
      rw [s3]
      clear s3 rd hd1
      have hz4 := hb4.size
      try simp at hz4
      obtain ⟨q4_0, l4_0, r4_0⟩ := aft hb4 (w.heap.size)
      obtain ⟨q4_1, l4_1, r4_1⟩ := aft hb4 (w.heap.size + 1)
      go_wp2_with fail
      have hw4 : Below w.heap.size w w4 := bel
      go_loopg [16, 85] fs.length (fun k ov iv wr => ∃ j : Nat, j ≤ fs.length ∧ fs.length - j ≤ k ∧ iv = .int .i64 j ∧ wr.ownsRow w4.heap.size 26 5 ov j ((ps.take j).flatMap Vl.cells5) ∧ Below w4.heap.size w4 wr)
      case atStart => exact ⟨0, by omega, by omega, rfl, ⟨rfl, Or.inl ⟨rfl, rfl⟩⟩, Below.refl _ _⟩
      case round =>
        obtain ⟨j, hj, hjk, rfl, hown, hbel⟩ := hrel
        have hsz := hbel.size
        have qr_0 := fun o => (hbel.cell (p := ⟨w.heap.size, o, none⟩) l4_0).trans (q4_0 o)
        have rr_0 := fun o => (hbel.frozen (p := ⟨w.heap.size, o, none⟩) l4_0).trans (r4_0 o)
        have lr_0 : w.heap.size < wr.heap.size := by omega
        have qr_1 := fun o => (hbel.cell (p := ⟨w.heap.size + 1, o, none⟩) l4_1).trans (q4_1 o)
        have rr_1 := fun o => (hbel.frozen (p := ⟨w.heap.size + 1, o, none⟩) l4_1).trans (r4_1 o)
        have lr_1 : w.heap.size + 1 < wr.heap.size := by omega
        by_cases hlt : j < fs.length
        · obtain ⟨b, off, rfl, hx⟩ := ((hF.below hw4).below hbel).at_ hlt
          have hx0 := hfs.lo _ (List.getElem_mem hlt)
          have hx1 := hfs.hi _ (List.getElem_mem hlt)
          have g0 : wr.cell? ⟨b, off + j, none⟩ = some (.int .i64 (fs[j]'hlt)) := by have := hx.get 0 rfl; simpa using this
          have hlp : j < ps.length := by rw [HPL.out]; exact hlt
          have htk : (ps.take (j + 1)).flatMap Vl.cells5 = (ps.take j).flatMap Vl.cells5 ++ (pickV os (fs[j]'hlt)).cells5 := by rw [List.take_succ_eq_append_getElem hlp, List.flatMap_append, HPG.out j hlt hlp]; simp
          clear hlp
          generalize fs[j]'hlt = x at *
          obtain ⟨i, rfl⟩ : ∃ i : Nat, x = (i : Int) := ⟨x.toNat, by omega⟩
          have hio : i < os.length := by omega
          obtain ⟨b2, off2, rfl, hy⟩ := ((hA.below hw4).below hbel).at_ hio
          have hpk : pickV os (i : Int) = os[i]'hio := by unfold pickV; rw [Int.toNat_natCast, List.getElem?_eq_getElem hio]; rfl
          rw [hpk] at htk
          generalize os[i]'hio = y at *
          have y0 : wr.cell? ⟨b2, off2 + i * 5, none⟩ = some (.int .i64 y.k) := hy.get 0 rfl
          have y1 : wr.cell? ⟨b2, off2 + i * 5 + 1, none⟩ = some (.int .i64 y.n) := hy.get 1 rfl
          have y2 : wr.cell? ⟨b2, off2 + i * 5 + 2, none⟩ = some (.int .i64 y.s) := hy.get 2 rfl
          have y3 : wr.cell? ⟨b2, off2 + i * 5 + 3, none⟩ = some (.string y.t) := hy.get 3 rfl
          have y4 : wr.cell? ⟨b2, off2 + i * 5 + 4, none⟩ = some (.int .i64 y.i) := hy.get 4 rfl
          have i1 : (j : Int) < (fs.length : Int) := by omega
          have i2 : (0 : Int) ≤ (j : Int) := by omega
          have i3 : (i : Int) < (os.length : Int) := by omega
          have i4 : (0 : Int) ≤ (i : Int) := by omega
          have HTK := Lib.hid htk
          clear hx hy hx0 hx1 hpk htk
          go_wp2_with (first
            | (at_builtin; refine wpList_append_own _ rfl _ _ 46 rfl w4.heap.size 26 i0 (.agg #[.int .i64 0, .int .i64 0, .int .i64 0, .string ⟨#[]⟩, .int .i64 0]) 5 48 Tryd.underlying46 hinf hza hzb hzc rfl (by decide) _ _ _ rfl (hown.alloc _) ⟨wr.heap.size, 0, none⟩ 1 1 y.cells5 rfl rfl ?c1 ?c2 ?c3 ?c4 ?c5 ?_)
            | fail)
          case c1 =>
            intro i u hu
            match i, hu with
            | 0, hu => simp [Vl.cells5] at hu; subst hu; simp [Addr.add]
            | 1, hu => simp [Vl.cells5] at hu; subst hu; simp [Addr.add]
            | 2, hu => simp [Vl.cells5] at hu; subst hu; simp [Addr.add]
            | 3, hu => simp [Vl.cells5] at hu; subst hu; simp [Addr.add]
            | 4, hu => simp [Vl.cells5] at hu; subst hu; simp [Addr.add]
            | i + 5, hu => simp [Vl.cells5] at hu
          case c2 => intro u hu; simp [Vl.cells5] at hu; rcases hu with rfl | rfl | rfl | rfl | rfl <;> rfl
          case c3 => unfold maxLen; omega
          case c4 => omega
          case c5 => simp; omega
          · intro v' w5 hown' hgrow _
            have hb5 : Below w4.heap.size w4 w5 := (hbel.alloc hsz _).grown hgrow (by simp; omega) (fun g hg => (hown.lt g hg).1)
            have hown2 : w5.ownsRow w4.heap.size 26 5 v' (j + 1) ((ps.take (j + 1)).flatMap Vl.cells5) := by rw [HTK.out]; exact hown'
            clear hgrow hown hown'
            go_wp2_with fail
            go_roundg (gk - 1)
            case measure => omega
            case rel => exact ⟨j + 1, by omega, by omega, by go_num, hown2, hb5⟩
        · have hje : j = fs.length := by omega
          subst hje
          rw [List.take_of_length_le (Nat.le_of_eq HPL.out)] at hown
          obtain ⟨O, co, rfl, hO⟩ := own_rd (css := ps.map Vl.cells5) hown (by rw [List.flatMap_def]) (by intro c hc; obtain ⟨x, _, rfl⟩ := List.mem_map.1 hc; rfl) (by rw [List.length_map, HPL.out])
          have hol : ps.length = fs.length := HPL.out
          rw [HPC.out] at hO hol
          have i1 : ¬ ((fs.length : Int) < (fs.length : Int)) := by omega
          have hcall := fun (W : World) (h1 : RdL W 5 O ((pickV os f :: fr.map (pickV os)).map Vl.cells5)) (h2 : Env W) => end_any (pickV os f) (fr.map (pickV os)) false O co W h1 (by rw [hol]; omega) HPW.out HPS.out h2
          rw [hol] at hcall
          go_wp2_with fail
          refine (hcall _ (hO.below bel) (hE.below bel)).mono ?_
          rintro e w6 ⟨R, rfl, hend, hb6⟩
          clear hcall
          have hz6 := hb6.size
          try simp at hz6
          obtain ⟨q6_0, l6_0, r6_0⟩ := aft hb6 (w.heap.size)
          obtain ⟨q6_1, l6_1, r6_1⟩ := aft hb6 (w.heap.size + 1)
          have HEND := Lib.hid hend
          clear hend
          go_wp2_with fail
          refine bodyPost_ret (v := .tuple #[.agg #[.int .i64 R.k, .int .i64 R.n, .int .i64 R.s, .string R.t, .int .i64 R.i], .int .i64 0]) (by simp [results, Tryd.results9, go_sem, *]) rfl ⟨R, rfl, HEND.out, ?_⟩
          exact bel
end Go.Proofs.YtfhmjkdpohepaaaDoor
