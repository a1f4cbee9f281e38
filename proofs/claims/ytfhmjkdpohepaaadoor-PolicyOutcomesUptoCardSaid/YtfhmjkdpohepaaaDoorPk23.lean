import Derived.Test.YtfhmjkdpohepaaaDoorPk20
import Derived.Test.YtfhmjkdpohepaaaDoorPk08
import Derived.Test.YtfhmjkdpohepaaaDoorPk01
import Derived.Test.YtfhmjkdpohepaaaDoorPk15
import Derived.Test.YtfhmjkdpohepaaaDoorPk22
import Derived.Test.YtfhmjkdpohepaaaDoorPk12
/- soffit/policy.Outcome, walked: the least, or the greatest. -/
set_option linter.unusedSimpArgs false
set_option linter.unusedVariables false
namespace Go.Proofs.YtfhmjkdpohepaaaDoor
open Go.RowKit

set_option maxRecDepth 100000 in
set_option maxHeartbeats 6400000 in
theorem outMost (os od : List Vl) (df : Vl) (fs : List Int) (A B F : Option Addr) (ca cb cf : Nat) (w : World) (hA : RdL w 5 A (os.map Vl.cells5)) (hB : RdL w 5 B (od.map Vl.cells5)) (hF : RdL w 1 F (fs.map intC)) (hos : ∀ v ∈ os, v.wf) (hod : ∀ v ∈ od, v.wf) (hdf : df.wf) (hfs : Rise os.length fs) (h16 : fs.length ≤ 1000000) (n1 : os.length ≤ 9223372036854775807) (n2 : od.length ≤ 9223372036854775807) (hE : Env w)
    (f : Int) (fr : List Int) (hfr : fs = f :: fr) (hpw : ∀ v ∈ (pickV os f :: fr.map (pickV os)), v.wf) (hps9 : ∀ v ∈ (pickV os f :: fr.map (pickV os)), sndB v = true) (s1 : allSnd os = true) (s2 : allSnd od = true) (s3 : allSnd [df] = true) :
    Calls Tryd.prog 9 #[.int .i64 62, .slice A os.length ca, .slice B od.length cb, .agg #[.int .i64 df.k, .int .i64 df.n, .int .i64 df.s, .string df.t, .int .i64 df.i], .slice F fs.length cf] w fun e w' =>
      ∃ R : Vl, e = .returned (.tuple #[.agg #[.int .i64 R.k, .int .i64 R.n, .int .i64 R.s, .string R.t, .int .i64 R.i], .int .i64 0]) ∧ EndOf (pickV os f) (pickV os f :: fr.map (pickV os)) true R ∧ Below w.heap.size w w' := by
  have HPW := Lib.hid hpw
  have HPS := Lib.hid hps9
  clear hpw hps9
  have hk : knownB 62 = true := by decide
  have hlen : 0 < fs.length := by rw [hfr]; simp
  have hn0 : ((fs.length : Int) == 0) = false := by rw [beq_eq_false_iff_ne]; omega
  have hpick : fs.map (pickV os) = pickV os f :: fr.map (pickV os) := by rw [hfr]; rfl
  
  obtain ⟨ps, hps⟩ : ∃ ps, fs.map (pickV os) = ps := ⟨_, rfl⟩
  have hpl : ps.length = fs.length := by rw [← hps]; exact List.length_map _
  have hpg : ∀ j (h : j < fs.length) (h2 : j < ps.length), ps[j]'h2 = pickV os (fs[j]'h) := by intro j h h2; subst hps; simp
  have hpc : ps = pickV os f :: fr.map (pickV os) := hps.symm.trans hpick
  have HPL := Lib.hid hpl
  have HPG := Lib.hid hpg
  have HPC := Lib.hid hpc
  clear hfr hpick hps hpl hpg hpc
  obtain ⟨i0, hinf, hza, hzb, hzc⟩ := info_parts (show (Tryd.prog.info? 26).map (fun i => (i.zero, i.size, i.bytes)) = some (some (.agg #[.int .i64 0, .int .i64 0, .int .i64 0, .string ⟨#[]⟩, .int .i64 0]), 5, 48) by kernel_rfl)
  go_enter Tryd.func9, Tryd.ntmps9
  go_wp2_with fail
  generalize hEW0 : (w.alloc _).alloc _ = W0
  have hbW0 : Below w.heap.size w W0 := (by rw [← hEW0]; exact bel)
  have lW0_0 : w.heap.size < W0.heap.size := lsz hEW0
  have qW0_0 : ∀ o, W0.cell? ⟨w.heap.size, o, none⟩ = _ := fun o => congrArg (fun W : World => W.cell? ⟨w.heap.size, o, none⟩) hEW0.symm
  have rW0_0 : ∀ o, W0.frozen? ⟨w.heap.size, o, none⟩ = _ := fun o => congrArg (fun W : World => W.frozen? ⟨w.heap.size, o, none⟩) hEW0.symm
  have lW0_1 : w.heap.size + 1 < W0.heap.size := lsz hEW0
  have qW0_1 : ∀ o, W0.cell? ⟨w.heap.size + 1, o, none⟩ = _ := fun o => congrArg (fun W : World => W.cell? ⟨w.heap.size + 1, o, none⟩) hEW0.symm
  have rW0_1 : ∀ o, W0.frozen? ⟨w.heap.size + 1, o, none⟩ = _ := fun o => congrArg (fun W : World => W.frozen? ⟨w.heap.size + 1, o, none⟩) hEW0.symm
  clear hEW0
  refine (known_any 62 _).mono ?_
  rintro e w1 ⟨rfl, hb1⟩
  rw [hk]
  clear hk
  have hz1 := hb1.size
  try simp at hz1
  obtain ⟨q1_0, l1_0, r1_0⟩ := aft hb1 (w.heap.size)
  obtain ⟨q1_1, l1_1, r1_1⟩ := aft hb1 (w.heap.size + 1)
  go_wp2_with fail
  have hw1 : Below w.heap.size w w1 := bel
  go_loopg [25] fs.length (fun k iv wr => ∃ j : Nat, j ≤ fs.length ∧ fs.length - j ≤ k ∧ iv = .int .i64 j ∧ Below w1.heap.size w1 wr)
  case atStart => exact ⟨0, by omega, by omega, rfl, Below.refl _ _⟩
  case round =>
    obtain ⟨j, hj, hjk, rfl, hbel⟩ := hrel
    have hsz := hbel.size
    have qa_0 := fun o => (hbel.cell (p := ⟨w.heap.size, o, none⟩) l1_0).trans (q1_0 o)
    have ra_0 := fun o => (hbel.frozen (p := ⟨w.heap.size, o, none⟩) l1_0).trans (r1_0 o)
    have la_0 : w.heap.size < wr.heap.size := by omega
    have qa_1 := fun o => (hbel.cell (p := ⟨w.heap.size + 1, o, none⟩) l1_1).trans (q1_1 o)
    have ra_1 := fun o => (hbel.frozen (p := ⟨w.heap.size + 1, o, none⟩) l1_1).trans (r1_1 o)
    have la_1 : w.heap.size + 1 < wr.heap.size := by omega
    by_cases hlt : j < fs.length
    · obtain ⟨b, off, rfl, hx⟩ := ((hF.below hw1).below hbel).at_ hlt
      have hx0 := hfs.lo _ (List.getElem_mem hlt)
      have hx1 := hfs.hi _ (List.getElem_mem hlt)
      have g0 : wr.cell? ⟨b, off + j, none⟩ = some (.int .i64 (fs[j]'hlt)) := by have := hx.get 0 rfl; simpa using this
      have i0 : (0 : Int) ≤ (j : Int) := by omega
      have i1 : (j : Int) < (fs.length : Int) := by omega
      rcases j with _ | i
      · generalize fs[0]'hlt = x at *
        have e1 : ¬ (x < 0) := by omega
        have e2 : ¬ ((os.length : Int) ≤ x) := by omega
        clear hx hx0 hx1
        try simp only [Int.natCast_zero, Nat.add_zero] at *
        go_wp2_with fail
        go_roundg (gk - 1)
        case measure => omega
        case rel => exact ⟨1, by omega, by omega, by go_num, bel⟩
      · have hy := hfs.up i hlt
        have g1 : wr.cell? ⟨b, off + i, none⟩ = some (.int .i64 (fs[i]'(by omega))) := by have := hF.below hw1; have := this.below hbel; have := (this.at_ (show i < fs.length by omega)); obtain ⟨b2, o2, e, hh⟩ := this; cases e; have := hh.get 0 rfl; simpa using this
        generalize fs[i + 1]'hlt = x at *
        generalize fs[i]'(Nat.lt_of_succ_lt hlt) = y at *
        have e1 : ¬ (x < 0) := by omega
        have e2 : ¬ ((os.length : Int) ≤ x) := by omega
        have e3 : ¬ (x ≤ y) := by omega
        have e4 : (0 : Int) < (i : Int) + 1 := by omega
        have e5 : (i : Int) < (fs.length : Int) := by omega
        have e6 : (0 : Int) ≤ (i : Int) := by omega
        clear hx hx0 hx1 hy
        try simp only [Int.natCast_add, Int.natCast_one] at *
        go_wp2_with fail
        go_roundg (gk - 1)
        case measure => omega
        case rel => exact ⟨i + 2, by omega, by omega, by go_num, bel⟩
    · clear hj hjk
      go_wp2_with fail
      refine (psound_any os A ca _ (hA.below bel) hos n1 (hE.below bel)).mono ?_
      rintro e w2 ⟨rfl, hb2⟩
      rw [s1]
      clear s1
      have hz2 := hb2.size
      try simp at hz2
      obtain ⟨q2_0, l2_0, r2_0⟩ := aft hb2 (w.heap.size)
      obtain ⟨q2_1, l2_1, r2_1⟩ := aft hb2 (w.heap.size + 1)
      go_wp2_with fail
      refine (psound_any od B cb _ (hB.below bel) hod n2 (hE.below bel)).mono ?_
      rintro e w3 ⟨rfl, hb3⟩
      rw [s2]
      clear s2
      have hz3 := hb3.size
      try simp at hz3
      obtain ⟨q3_0, l3_0, r3_0⟩ := aft hb3 (w.heap.size)
      obtain ⟨q3_1, l3_1, r3_1⟩ := aft hb3 (w.heap.size + 1)
      go_wp2_with fail
      generalize hEW4 : w3.alloc _ = W4
      have hbW4 : Below w.heap.size w W4 := (by rw [← hEW4]; exact bel)
      have lW4_0 : w.heap.size < W4.heap.size := lsz hEW4
      have qW4_0 : ∀ o, W4.cell? ⟨w.heap.size, o, none⟩ = _ := fun o => congrArg (fun W : World => W.cell? ⟨w.heap.size, o, none⟩) hEW4.symm
      have rW4_0 : ∀ o, W4.frozen? ⟨w.heap.size, o, none⟩ = _ := fun o => congrArg (fun W : World => W.frozen? ⟨w.heap.size, o, none⟩) hEW4.symm
      have lW4_1 : w.heap.size + 1 < W4.heap.size := lsz hEW4
      have qW4_1 : ∀ o, W4.cell? ⟨w.heap.size + 1, o, none⟩ = _ := fun o => congrArg (fun W : World => W.cell? ⟨w.heap.size + 1, o, none⟩) hEW4.symm
      have rW4_1 : ∀ o, W4.frozen? ⟨w.heap.size + 1, o, none⟩ = _ := fun o => congrArg (fun W : World => W.frozen? ⟨w.heap.size + 1, o, none⟩) hEW4.symm
      have lW4_2 : w3.heap.size < W4.heap.size := lsz hEW4
      have qW4_2 : ∀ o, W4.cell? ⟨w3.heap.size, o, none⟩ = _ := fun o => congrArg (fun W : World => W.cell? ⟨w3.heap.size, o, none⟩) hEW4.symm
      have rW4_2 : ∀ o, W4.frozen? ⟨w3.heap.size, o, none⟩ = _ := fun o => congrArg (fun W : World => W.frozen? ⟨w3.heap.size, o, none⟩) hEW4.symm
      clear hEW4
      have t0 : ∀ o, W4.cell? ⟨w3.heap.size, o, none⟩ = df.cells5.toArray[o]? := by intro o; rw [qW4_2 o]; simp [go_sem]; rfl
      have rd : RdL W4 5 (some ⟨w3.heap.size, 0, none⟩) ([df].map Vl.cells5) := rdL_one t0
      clear t0
      have hd1 : ∀ v ∈ [df], v.wf := by intro v hv; have e : v = df := (by simpa using hv); rw [e]; exact hdf
      refine (psound_any [df] _ 1 _ rd hd1 (by show (1 : Nat) ≤ 9223372036854775807; omega) (hE.below bel)).mono ?_
      rintro e w4 ⟨rfl, hb4⟩
      rw [s3]
      clear s3 rd hd1
      have hz4 := hb4.size
      try simp at hz4
      obtain ⟨q4_0, l4_0, r4_0⟩ := aft hb4 (w.heap.size)
      obtain ⟨q4_1, l4_1, r4_1⟩ := aft hb4 (w.heap.size + 1)
      go_wp2_with fail
      have hw4 : Below w.heap.size w w4 := bel
      go_loopg [16, 85] fs.length (fun k ov iv wr => ∃ j : Nat, j ≤ fs.length ∧ fs.length - j ≤ k ∧ iv = .int .i64 j ∧ wr.ownsRow w4.heap.size 26 5 ov j ((ps.take j).flatMap Vl.cells5) ∧ Below w4.heap.size w4 wr)
      case atStart => exact ⟨0, by omega, by omega, rfl, ⟨rfl, Or.inl ⟨rfl, rfl⟩⟩, Below.refl _ _⟩
      case round =>
        obtain ⟨j, hj, hjk, rfl, hown, hbel⟩ := hrel
        have hsz := hbel.size
        have qr_0 := fun o => (hbel.cell (p := ⟨w.heap.size, o, none⟩) l4_0).trans (q4_0 o)
        have rr_0 := fun o => (hbel.frozen (p := ⟨w.heap.size, o, none⟩) l4_0).trans (r4_0 o)
        have lr_0 : w.heap.size < wr.heap.size := by omega
        have qr_1 := fun o => (hbel.cell (p := ⟨w.heap.size + 1, o, none⟩) l4_1).trans (q4_1 o)
        have rr_1 := fun o => (hbel.frozen (p := ⟨w.heap.size + 1, o, none⟩) l4_1).trans (r4_1 o)
        have lr_1 : w.heap.size + 1 < wr.heap.size := by omega
        by_cases hlt : j < fs.length
        · obtain ⟨b, off, rfl, hx⟩ := ((hF.below hw4).below hbel).at_ hlt
          have hx0 := hfs.lo _ (List.getElem_mem hlt)
          have hx1 := hfs.hi _ (List.getElem_mem hlt)
          have g0 : wr.cell? ⟨b, off + j, none⟩ = some (.int .i64 (fs[j]'hlt)) := by have := hx.get 0 rfl; simpa using this
          have hlp : j < ps.length := by rw [HPL.out]; exact hlt
          have htk : (ps.take (j + 1)).flatMap Vl.cells5 = (ps.take j).flatMap Vl.cells5 ++ (pickV os (fs[j]'hlt)).cells5 := by rw [List.take_succ_eq_append_getElem hlp, List.flatMap_append, HPG.out j hlt hlp]; simp
          clear hlp
          generalize fs[j]'hlt = x at *
          obtain ⟨i, rfl⟩ : ∃ i : Nat, x = (i : Int) := ⟨x.toNat, by omega⟩
          have hio : i < os.length := by omega
          obtain ⟨b2, off2, rfl, hy⟩ := ((hA.below hw4).below hbel).at_ hio
          have hpk : pickV os (i : Int) = os[i]'hio := by unfold pickV; rw [Int.toNat_natCast, List.getElem?_eq_getElem hio]; rfl
          rw [hpk] at htk
          generalize os[i]'hio = y at *
          have y0 : wr.cell? ⟨b2, off2 + i * 5, none⟩ = some (.int .i64 y.k) := hy.get 0 rfl
          have y1 : wr.cell? ⟨b2, off2 + i * 5 + 1, none⟩ = some (.int .i64 y.n) := hy.get 1 rfl
          have y2 : wr.cell? ⟨b2, off2 + i * 5 + 2, none⟩ = some (.int .i64 y.s) := hy.get 2 rfl
          have y3 : wr.cell? ⟨b2, off2 + i * 5 + 3, none⟩ = some (.string y.t) := hy.get 3 rfl
          have y4 : wr.cell? ⟨b2, off2 + i * 5 + 4, none⟩ = some (.int .i64 y.i) := hy.get 4 rfl
          have i1 : (j : Int) < (fs.length : Int) := by omega
          have i2 : (0 : Int) ≤ (j : Int) := by omega
          have i3 : (i : Int) < (os.length : Int) := by omega
          have i4 : (0 : Int) ≤ (i : Int) := by omega
          have HTK := Lib.hid htk
          clear hx hy hx0 hx1 hpk htk
          go_wp2_with (first
            | (at_builtin; refine wpList_append_own _ rfl _ _ 46 rfl w4.heap.size 26 i0 (.agg #[.int .i64 0, .int .i64 0, .int .i64 0, .string ⟨#[]⟩, .int .i64 0]) 5 48 Tryd.underlying46 hinf hza hzb hzc rfl (by decide) _ _ _ rfl (hown.alloc _) ⟨wr.heap.size, 0, none⟩ 1 1 y.cells5 rfl rfl ?c1 ?c2 ?c3 ?c4 ?c5 ?_)
            | fail)
          case c1 =>
            intro i u hu
            match i, hu with
            | 0, hu => simp [Vl.cells5] at hu; subst hu; simp [Addr.add]
            | 1, hu => simp [Vl.cells5] at hu; subst hu; simp [Addr.add]
            | 2, hu => simp [Vl.cells5] at hu; subst hu; simp [Addr.add]
            | 3, hu => simp [Vl.cells5] at hu; subst hu; simp [Addr.add]
            | 4, hu => simp [Vl.cells5] at hu; subst hu; simp [Addr.add]
            | i + 5, hu => simp [Vl.cells5] at hu
          case c2 => intro u hu; simp [Vl.cells5] at hu; rcases hu with rfl | rfl | rfl | rfl | rfl <;> rfl
          case c3 => unfold maxLen; omega
          case c4 => omega
          case c5 => simp; omega
          · intro v' w5 hown' hgrow _
            have hb5 : Below w4.heap.size w4 w5 := (hbel.alloc hsz _).grown hgrow (by simp; omega) (fun g hg => (hown.lt g hg).1)
            have hown2 : w5.ownsRow w4.heap.size 26 5 v' (j + 1) ((ps.take (j + 1)).flatMap Vl.cells5) := by rw [HTK.out]; exact hown'
            clear hgrow hown hown'
            go_wp2_with fail
            go_roundg (gk - 1)
            case measure => omega
            case rel => exact ⟨j + 1, by omega, by omega, by go_num, hown2, hb5⟩
        · have hje : j = fs.length := by omega
          subst hje
          rw [List.take_of_length_le (Nat.le_of_eq HPL.out)] at hown
          obtain ⟨O, co, rfl, hO⟩ := own_rd (css := ps.map Vl.cells5) hown (by rw [List.flatMap_def]) (by intro c hc; obtain ⟨x, _, rfl⟩ := List.mem_map.1 hc; rfl) (by rw [List.length_map, HPL.out])
          have hol : ps.length = fs.length := HPL.out
          rw [HPC.out] at hO hol
          have i1 : ¬ ((fs.length : Int) < (fs.length : Int)) := by omega
          have hcall := fun (W : World) (h1 : RdL W 5 O ((pickV os f :: fr.map (pickV os)).map Vl.cells5)) (h2 : Env W) => end_any (pickV os f) (fr.map (pickV os)) true O co W h1 (by rw [hol]; omega) HPW.out HPS.out h2
          rw [hol] at hcall
          go_wp2_with fail
          refine (hcall _ (hO.below bel) (hE.below bel)).mono ?_
          rintro e w6 ⟨R, rfl, hend, hb6⟩
          clear hcall
          have hz6 := hb6.size
          try simp at hz6
          obtain ⟨q6_0, l6_0, r6_0⟩ := aft hb6 (w.heap.size)
          obtain ⟨q6_1, l6_1, r6_1⟩ := aft hb6 (w.heap.size + 1)
          have HEND := Lib.hid hend
          clear hend
          go_wp2_with fail
          refine bodyPost_ret (v := .tuple #[.agg #[.int .i64 R.k, .int .i64 R.n, .int .i64 R.s, .string R.t, .int .i64 R.i], .int .i64 0]) (by simp [results, Tryd.results9, go_sem, *]) rfl ⟨R, rfl, HEND.out, ?_⟩
          exact bel
end Go.Proofs.YtfhmjkdpohepaaaDoor

/- What soffitref17.gather makes: plain. -/
set_option linter.unusedSimpArgs false
set_option linter.unusedVariables false
namespace Go.Proofs.YtfhmjkdpohepaaaDoor
open Go.RowKit Go.Sort

theorem units_inj' {n s n' s' : Int} (h : decSnd n s = true) (h' : decSnd n' s' = true) (hu : unitsI n s = unitsI n' s') : n = n' ∧ s = s' := by
  obtain ⟨a1, a2, a3, a4, a5⟩ := decSnd_of h
  obtain ⟨b1, b2, b3, b4, b5⟩ := decSnd_of h'
  have hs : s = 0 ∨ s = 1 ∨ s = 2 ∨ s = 3 ∨ s = 4 ∨ s = 5 ∨ s = 6 := by omega
  have hs' : s' = 0 ∨ s' = 1 ∨ s' = 2 ∨ s' = 3 ∨ s' = 4 ∨ s' = 5 ∨ s' = 6 := by omega
  unfold unitsI at hu
  rcases hs with rfl | rfl | rfl | rfl | rfl | rfl | rfl <;> rcases hs' with rfl | rfl | rfl | rfl | rfl | rfl | rfl <;>
    (simp only [show (0 : Int).toNat = 0 from rfl, show (1 : Int).toNat = 1 from rfl, show (2 : Int).toNat = 2 from rfl, show (3 : Int).toNat = 3 from rfl, show (4 : Int).toNat = 4 from rfl, show (5 : Int).toNat = 5 from rfl, show (6 : Int).toNat = 6 from rfl] at hu
     simp only [Nat.reduceSub, Int.reducePow] at hu
     omega)
theorem lexB_no' {α : Type} {l1 l2 : α → α → Bool} {a b : α} (h1 : lexB l1 l2 a b = false) (h2 : lexB l1 l2 b a = false) : l1 a b = false ∧ l1 b a = false ∧ l2 a b = false ∧ l2 b a = false := by
  unfold lexB at h1 h2
  cases e1 : l1 a b <;> cases e2 : l1 b a <;> simp_all
theorem nil_of_len' {t : ByteArray} (h : t.toList = []) : t = ⟨#[]⟩ := toList_inj (h.trans nil_toList.symm)
theorem snd_ns' {v : Vl} (h : sndB v = true) (hk : v.k ≠ 1) : v.n = 0 ∧ v.s = 0 := by
  unfold sndB at h
  by_cases h0 : v.k = 0
  · rw [if_pos h0] at h; have := of_decide_eq_true h; exact ⟨this.1, this.2.1⟩
  rw [if_neg h0, if_neg hk] at h
  by_cases h2 : v.k = 2
  · rw [if_pos h2, Bool.and_eq_true] at h; have := of_decide_eq_true h.1; exact ⟨this.1, this.2.1⟩
  rw [if_neg h2] at h
  by_cases h3 : v.k = 3
  · rw [if_pos h3] at h; have := of_decide_eq_true h; exact ⟨this.1, this.2.1⟩
  rw [if_neg h3] at h
  by_cases h4 : v.k = 4
  · rw [if_pos h4] at h; have := of_decide_eq_true h; exact ⟨this.1, this.2.1⟩
  rw [if_neg h4] at h
  cases h
theorem snd_one' {v : Vl} (h : sndB v = true) (hk : v.k = 1) : v.t.toList = [] ∧ v.i = 0 := by
  unfold sndB at h
  rw [if_neg (by omega), if_pos hk] at h
  simp only [Bool.and_eq_true, decide_eq_true_eq] at h
  exact ⟨h.1.1, h.1.2⟩
/-- values of which none stands before the other are one -/
theorem tri_ltV' {a b : Vl} (sa : sndB a = true) (sb : sndB b = true) (h1 : ltV a b = false) (h2 : ltV b a = false) : a = b := by
  unfold ltV at h1 h2
  obtain ⟨k1, k2, h1, h2⟩ := lexB_no' h1 h2
  obtain ⟨u1, u2, h1, h2⟩ := lexB_no' h1 h2
  obtain ⟨t1, t2, i1, i2⟩ := lexB_no' h1 h2
  have hk : a.k = b.k := by have := of_decide_eq_false k1; have := of_decide_eq_false k2; omega
  have hu : vU a = vU b := by have := of_decide_eq_false u1; have := of_decide_eq_false u2; omega
  have ht : vT a = vT b := ltStr_tri t1 t2
  have hi : vI a = vI b := by have := of_decide_eq_false i1; have := of_decide_eq_false i2; omega
  have da := snd_dec sa
  have db := snd_dec sb
  obtain ⟨k, n, s, t, i⟩ := a
  obtain ⟨k', n', s', t', i'⟩ := b
  dsimp only at hk da db
  subst hk
  unfold vU at hu
  unfold vT at ht
  unfold vI at hi
  dsimp only at hu ht hi
  by_cases h1 : k = 1
  · subst h1
    rw [if_pos rfl, if_pos rfl] at hu
    obtain ⟨rfl, rfl⟩ := units_inj' da db hu
    have a1 := snd_one' sa rfl
    have b1 := snd_one' sb rfl
    dsimp only at a1 b1
    rw [a1.2, b1.2, nil_of_len' a1.1, nil_of_len' b1.1]
  · rw [if_neg h1, if_neg h1] at ht hi
    have hn := snd_ns' sa h1
    have hn' := snd_ns' sb h1
    dsimp only at hn hn'
    rw [hn.1, hn.2, hn'.1, hn'.2, hi, toList_inj ht]
/-- of two sound lists of one meaning: one least, one greatest -/
theorem endOf_uniq {o : Vl} {os : List Vl} {gr : Bool} {R R' : Vl} (hs : ∀ v ∈ os, sndB v = true) (h : EndOf o os gr R) (h' : EndOf o os gr R') : R = R' := by
  rcases h with ⟨h1, rfl⟩ | ⟨h1, h2, h3⟩ <;> rcases h' with ⟨h1', rfl⟩ | ⟨h1', h2', h3'⟩
  · rfl
  · rw [h1'] at h1; cases h1
  · rw [h1'] at h1; cases h1
  · have a := h3 R' h2'
    have b := h3' R h2
    cases gr
    · exact tri_ltV' (hs R h2) (hs R' h2') (by simpa using b) (by simpa using a)
    · exact tri_ltV' (hs R h2) (hs R' h2') (by simpa using a) (by simpa using b)
theorem cmpI_anti {x y : Int} (h : cmpI x y < 0) : 0 < cmpI y x := by
  unfold cmpI at *
  by_cases h1 : x < y
  · rw [if_neg (by omega), if_pos h1]; decide
  · rw [if_neg h1] at h
    split at h <;> simp at h
theorem ltV_pos {a b : Vl} (h : ltV b a = true) : 0 < cmpV a b := by
  have h : cmpV b a < 0 := by rw [← ltOf_cmpV] at h; unfold ltOf at h; exact of_decide_eq_true h
  unfold cmpV at h ⊢
  by_cases hk : a.k = b.k
  · rw [if_pos hk.symm] at h
    rw [if_pos hk]
    by_cases h1 : a.k = 1
    · rw [if_pos (by omega)] at h
      rw [if_pos h1]
      exact cmpI_anti h
    · rw [if_neg (by omega)] at h
      rw [if_neg h1]
      unfold cmpT at *
      rw [bytesLess_lt] at h
      rw [bytesLess_lt]
      cases e1 : ltStr b.t.toList a.t.toList
      · rw [e1] at h
        by_cases e : b.t.toList = a.t.toList
        · rw [e] at h ⊢
          rw [ltStr_irrefl]
          simp [orI] at h ⊢
          exact cmpI_anti h
        · have : (b.t.toList == a.t.toList) = false := by simpa using e
          rw [this] at h
          simp [orI] at h
      · have e2 : ltStr a.t.toList b.t.toList = false := by
          cases e2 : ltStr a.t.toList b.t.toList
          · rfl
          · have := swo_ltStr.trans _ _ _ e1 e2
            rw [ltStr_irrefl] at this; cases this
        have e : (a.t.toList == b.t.toList) = false := by
          rw [beq_eq_false_iff_ne]
          intro e
          rw [e, ltStr_irrefl] at e1; cases e1
        rw [e2, e]
        simp [orI]
  · rw [if_neg (fun e => hk e.symm)] at h
    rw [if_neg hk]
    exact cmpI_anti h
/-- does one take another's place? -/
def betB (gr : Bool) (x v : Vl) : Bool := if gr = true then decide (0 < cmpV x v) else decide (cmpV x v < 0)
/-- the least, or the greatest, of some and of one; none, where one is of another kind than a first -/
def gatE (gr : Bool) (o : Vl) : List Vl → Vl → Vl
  | [], v => v
  | x :: r, v => if badK o x = true then Vl.zero else gatE gr o r (if betB gr x v = true then x else v)
theorem gatE_bad {gr : Bool} {o v : Vl} {xs : List Vl} {j : Nat} (hj : j < xs.length) (h : badK o (xs[j]'hj) = true) : gatE gr o (xs.drop j) v = Vl.zero := by
  rw [List.drop_eq_getElem_cons hj]
  exact if_pos h
theorem gatE_take {gr : Bool} {o v : Vl} {xs : List Vl} {j : Nat} (hj : j < xs.length) (h : badK o (xs[j]'hj) = false) (hb : betB gr (xs[j]'hj) v = true) : gatE gr o (xs.drop j) v = gatE gr o (xs.drop (j + 1)) (xs[j]'hj) := by
  rw [List.drop_eq_getElem_cons hj]
  refine (if_neg (by rw [h]; simp)).trans ?_
  rw [if_pos hb]
theorem gatE_keep {gr : Bool} {o v : Vl} {xs : List Vl} {j : Nat} (hj : j < xs.length) (h : badK o (xs[j]'hj) = false) (hb : betB gr (xs[j]'hj) v = false) : gatE gr o (xs.drop j) v = gatE gr o (xs.drop (j + 1)) v := by
  rw [List.drop_eq_getElem_cons hj]
  refine (if_neg (by rw [h]; simp)).trans ?_
  rw [if_neg (by rw [hb]; simp)]
theorem gatE_end {gr : Bool} {o v : Vl} {xs : List Vl} {j : Nat} (hj : ¬ j < xs.length) : gatE gr o (xs.drop j) v = v := by
  rw [List.drop_eq_nil_of_le (by omega)]
  rfl
theorem gatE_zero {gr : Bool} {o : Vl} : ∀ (xs : List Vl) (v : Vl), xs.any (badK o) = true → gatE gr o xs v = Vl.zero
  | [], _, h => by cases h
  | x :: r, v, h => by
    rw [gatE]
    cases hx : badK o x
    · rw [List.any_cons, hx, Bool.false_or] at h
      rw [if_neg (by simp)]
      exact gatE_zero r _ h
    · rfl
/-- of two, the first is not behind the second where the end is told -/
def nbB (gr : Bool) (R y : Vl) : Bool := if gr = true then ltV R y else ltV y R
theorem bet_yes {gr : Bool} {x v R : Vl} (h : betB gr x v = true) (hx : nbB gr R x = false) : nbB gr R v = false := by
  unfold nbB betB at *
  cases gr
  · simp only [Bool.false_eq_true, if_false] at *
    have h1 : ltV x v = true := cmpV_neg (of_decide_eq_true h)
    cases h2 : ltV v R
    · rfl
    · have := swo_ltV.trans _ _ _ h1 h2
      rw [hx] at this; cases this
  · simp only [if_true] at *
    have h1 : ltV v x = true := cmpV_pos (of_decide_eq_true h)
    cases h2 : ltV R v
    · rfl
    · have := swo_ltV.trans _ _ _ h2 h1
      rw [hx] at this; cases this
theorem bet_no {gr : Bool} {x v R : Vl} (h : betB gr x v = false) (hv : nbB gr R v = false) : nbB gr R x = false := by
  unfold nbB betB at *
  cases gr
  · simp only [Bool.false_eq_true, if_false] at *
    have h1 : ltV x v = false := by rw [← ltOf_cmpV]; unfold ltOf; exact h
    exact swo_ltV.ntrans _ _ _ h1 hv
  · simp only [if_true] at *
    have h1 : ltV v x = false := by
      cases h2 : ltV v x
      · rfl
      · exact absurd (ltV_pos h2) (of_decide_eq_false h)
    exact swo_ltV.ntrans _ _ _ hv h1
theorem nb_self (gr : Bool) (v : Vl) : nbB gr v v = false := by
  unfold nbB
  rw [swo_ltV.irrefl]
  simp
theorem gatE_most {gr : Bool} {o : Vl} : ∀ (xs : List Vl) (v : Vl), xs.any (badK o) = false → (gatE gr o xs v = v ∨ gatE gr o xs v ∈ xs) ∧ nbB gr (gatE gr o xs v) v = false ∧ ∀ y ∈ xs, nbB gr (gatE gr o xs v) y = false
  | [], v, _ => ⟨.inl rfl, nb_self gr v, fun _ h => by cases h⟩
  | x :: r, v, h => by
    rw [List.any_cons, Bool.or_eq_false_iff] at h
    rw [gatE, if_neg (by rw [h.1]; simp)]
    cases hb : betB gr x v
    · rw [if_neg (by simp)]
      obtain ⟨h1, h2, h3⟩ := gatE_most r v h.2
      refine ⟨h1.imp id (fun h => List.mem_cons_of_mem _ h), h2, fun y hy => ?_⟩
      rcases List.mem_cons.1 hy with rfl | hy
      · exact bet_no hb h2
      · exact h3 y hy
    · rw [if_pos rfl]
      obtain ⟨h1, h2, h3⟩ := gatE_most r x h.2
      refine ⟨.inr (h1.elim (fun h => by rw [h]; exact List.mem_cons_self) (fun h => List.mem_cons_of_mem _ h)), bet_yes hb h2, fun y hy => ?_⟩
      rcases List.mem_cons.1 hy with rfl | hy
      · exact h2
      · exact h3 y hy
theorem gatE_EndOf {gr : Bool} {o : Vl} {os : List Vl} (ho : o ∈ os) : EndOf o os gr (gatE gr o os o) := by
  cases h : os.any (badK o)
  · obtain ⟨h1, -, h3⟩ := gatE_most (gr := gr) os o h
    refine .inr ⟨h, h1.elim (fun h => by rw [h]; exact ho) id, fun y hy => h3 y hy⟩
  · exact .inl ⟨h, gatE_zero os o h⟩
/-- that which all are -/
def gatA (o : Vl) (xs : List Vl) : Vl := if xs.any (fun v => !eqB v o) = true then Vl.zero else o
theorem gatA_no {o : Vl} {xs : List Vl} {j : Nat} (hj : j < xs.length) (h : (!eqB (xs[j]'hj) o) = true) : gatA o (xs.drop j) = Vl.zero := by
  unfold gatA
  rw [List.drop_eq_getElem_cons hj, List.any_cons, h]
  rfl
theorem gatA_yes {o : Vl} {xs : List Vl} {j : Nat} (hj : j < xs.length) (h : (!eqB (xs[j]'hj) o) = false) : gatA o (xs.drop j) = gatA o (xs.drop (j + 1)) := by
  unfold gatA
  rw [List.drop_eq_getElem_cons hj, List.any_cons, h]
  rfl
theorem gatA_end {o : Vl} {xs : List Vl} {j : Nat} (hj : ¬ j < xs.length) : gatA o (xs.drop j) = o := by
  unfold gatA
  rw [List.drop_eq_nil_of_le (by omega)]
  rfl
theorem gatA_one (o : Vl) (xs : List Vl) : gatA o xs = oneV o xs := rfl
/-- the first of an order, from behind -/
theorem firstV_back {o : Vl} {os xs : List Vl} {j : Nat} (hj : j < xs.length) : firstV o os (xs.drop j) = if os.any (fun y => eqB (xs[j]'hj) y) = true then xs[j]'hj else firstV o os (xs.drop (j + 1)) := by
  rw [List.drop_eq_getElem_cons hj]
  rfl
end Go.Proofs.YtfhmjkdpohepaaaDoor

/- soffitref17.gather by A, walked. -/
set_option linter.unusedSimpArgs false
set_option linter.unusedVariables false
namespace Go.Proofs.YtfhmjkdpohepaaaDoor
open Go.RowKit

set_option maxRecDepth 100000 in
set_option maxHeartbeats 3200000 in
theorem gatA_any (o : Vl) (r : List Vl) (A : Option Addr) (c : Nat) (w : World) (hr : RdL w 5 A ((o :: r).map Vl.cells5)) (hn : (o :: r).length ≤ 9223372036854775807) (hw : ∀ v ∈ o :: r, v.wf) (hs : ∀ v ∈ o :: r, sndB v = true) :
    Calls Tryd.prog 25 #[.int .i64 65, .slice A (o :: r).length c] w fun e w' =>
      e = .returned (.agg #[.int .i64 (gatA o (o :: r)).k, .int .i64 (gatA o (o :: r)).n, .int .i64 (gatA o (o :: r)).s, .string (gatA o (o :: r)).t, .int .i64 (gatA o (o :: r)).i]) ∧ Below w.heap.size w w' := by
  obtain ⟨R, hR⟩ : ∃ R, gatA o (o :: r) = R := ⟨_, rfl⟩
  rw [hR]
  have HR : Hid (R = gatA o ((o :: r).drop 0)) := hR.symm
  clear hR
  obtain ⟨os, hos⟩ : ∃ os, o :: r = os := ⟨_, rfl⟩
  have h0 : os[0]? = some o := by rw [← hos]; rfl
  have hpos : 0 < os.length := by rw [← hos]; simp
  have hoo : o ∈ os := by rw [← hos]; exact List.mem_cons_self
  rw [hos] at HR hw hs hr hn ⊢
  clear hos
  obtain ⟨b, off, hA, hx⟩ := hr.at_ hpos
  have he : os[0]'hpos = o := Option.some.inj ((List.getElem?_eq_getElem hpos).symm.trans h0)
  rw [he] at hx
  rw [hA] at hr ⊢
  have HX : Hid (CellsAt w b off o.cells5) := by have := hx; rw [Nat.zero_mul, Nat.add_zero] at this; exact this
  have y0 : w.cell? ⟨b, off, none⟩ = some (.int .i64 o.k) := by have := HX.out.get 0 rfl; simpa using this
  have y1 : w.cell? ⟨b, off + 1, none⟩ = some (.int .i64 o.n) := HX.out.get 1 rfl
  have y2 : w.cell? ⟨b, off + 2, none⟩ = some (.int .i64 o.s) := HX.out.get 2 rfl
  have y3 : w.cell? ⟨b, off + 3, none⟩ = some (.string o.t) := HX.out.get 3 rfl
  have y4 : w.cell? ⟨b, off + 4, none⟩ = some (.int .i64 o.i) := HX.out.get 4 rfl
  have hlw : b < w.heap.size := cell_lt y0
  have hnw : ¬ b = w.heap.size := by omega
  have HW := Lib.hid hw
  have HS := Lib.hid hs
  have HOO := Lib.hid hoo
  have HRD := Lib.hid hr
  have i0 : (0 : Int) < (os.length : Int) := by omega
  clear he hx h0 hA hr hw hs hoo
  go_enter Tryd.func25, Tryd.ntmps25
  go_wp2_with fail
  generalize hE : (w.alloc _).alloc _ = W0
  have K0 : BoxIs W0 w.heap.size #[.int .i64 0, .int .i64 0, .int .i64 0, .string ⟨#[]⟩, .int .i64 0] := by rw [← hE]; exact (BoxIs.new rfl).alloc _
  have K1 : BoxIs W0 (w.heap.size + 1) #[.int .i64 o.k, .int .i64 o.n, .int .i64 o.s, .string o.t, .int .i64 o.i] := by rw [← hE]; exact BoxIs.new (by simp)
  have hbW0 : Below w.heap.size w W0 := by rw [← hE]; exact bel
  clear hE
  go_loopg [6] os.length (fun k iv wr => ∃ (j : Nat), iv = .int .i64 j ∧ j ≤ os.length ∧ os.length - j ≤ k ∧ Hid (R = gatA o (os.drop j)) ∧ Below W0.heap.size W0 wr)
  case atStart => exact ⟨0, rfl, by omega, by omega, HR, Below.refl _ _⟩
  case round =>
    obtain ⟨j, rfl, hj, hjk, HG, hbe0⟩ := hrel
    have hbel : Below w.heap.size w wr := hbW0.trans (hbe0.mono hbW0.size)
    have K0 := K0.below hbe0
    have K1 := K1.below hbe0
    have k0 := K0.c
    have k1 := K1.c
    have f0 := K0.f
    have l0 := K0.lt
    have l1 := K1.lt
    have y0 := cell_below hbel y0
    have y1 := cell_below hbel y1
    have y2 := cell_below hbel y2
    have y3 := cell_below hbel y3
    have y4 := cell_below hbel y4
    by_cases hlt : j < os.length
    · skip
      obtain ⟨b2, off2, e2, hx⟩ := (HRD.out.below hbel).at_ hlt
      cases e2
      have hmem : os[j]'hlt ∈ os := List.getElem_mem hlt
      have hxw := HW.out _ hmem
      have hxs := HS.out _ hmem
      have hyes := fun h => gatA_yes (o := o) hlt h
      have hno := fun h => gatA_no (o := o) hlt h
      generalize os[j]'hlt = x at *
      have x0 : wr.cell? ⟨b, off + j * 5, none⟩ = some (.int .i64 x.k) := hx.get 0 rfl
      have x1 : wr.cell? ⟨b, off + j * 5 + 1, none⟩ = some (.int .i64 x.n) := hx.get 1 rfl
      have x2 : wr.cell? ⟨b, off + j * 5 + 2, none⟩ = some (.int .i64 x.s) := hx.get 2 rfl
      have x3 : wr.cell? ⟨b, off + j * 5 + 3, none⟩ = some (.string x.t) := hx.get 3 rfl
      have x4 : wr.cell? ⟨b, off + j * 5 + 4, none⟩ = some (.int .i64 x.i) := hx.get 4 rfl
      have hi : (j : Int) < (os.length : Int) := by omega
      have hi2 : (0 : Int) ≤ (j : Int) := by omega
      have hlb : b < wr.heap.size := cell_lt x0
      have hnb : ¬ b = wr.heap.size := by omega
      have HY := Lib.hid hyes
      have HN := Lib.hid hno
      have hq := fun W : World => neV_run x o W
      clear hyes hno hx hmem hxw hxs
      cases hp : eqB x o
      · have hp' : (!eqB x o) = true := by rw [hp]; rfl
        rw [hp'] at hq
        have HG2 := Lib.hid (HG.out.trans (HN.out hp'))
        clear hp hp' HY HN HG
        go_wp2_with fail
        go_region
        go_wp2_with fail
        refine bodyPost_ret (v := .agg #[.int .i64 0, .int .i64 0, .int .i64 0, .string ⟨#[]⟩, .int .i64 0]) (by simp [results, Tryd.results25, go_sem, *]) rfl ⟨?_, bel⟩
        rw [HG2.out]; rfl
      · have hp' : (!eqB x o) = false := by rw [hp]; rfl
        rw [hp'] at hq
        have HG2 := Lib.hid (HG.out.trans (HY.out hp'))
        clear hp hp' HY HN HG
        go_wp2_with fail
        go_region
        go_wp2_with fail
        go_roundg (gk - 1)
        case measure => omega
        case rel => exact ⟨j + 1, by go_num, by omega, by omega, HG2, by first | exact (hbe0.alloc hbe0.size _).drew | exact hbe0.alloc hbe0.size _⟩
    · have HE := Lib.hid (HG.out.trans (gatA_end (o := o) hlt))
      have hi : ¬ (j : Int) < (os.length : Int) := by omega
      go_wp2_with fail
      refine bodyPost_ret (v := .agg #[.int .i64 o.k, .int .i64 o.n, .int .i64 o.s, .string o.t, .int .i64 o.i]) (by simp [results, Tryd.results25, go_sem, *]) rfl ⟨?_, bel⟩
      rw [HE.out]

end Go.Proofs.YtfhmjkdpohepaaaDoor
