import Derived.Test.YtfhmjkdpohepaaaDoorPk07
import Derived.Test.YtfhmjkdpohepaaaDoorPk08
import Derived.Test.YtfhmjkdpohepaaaDoorPk01
import Derived.Test.YtfhmjkdpohepaaaDoorPk09
import Derived.Test.YtfhmjkdpohepaaaDoorPk10
import Derived.Test.YtfhmjkdpohepaaaDoorPk11
/- soffit/policy.Outcome, walked: more than one fires. -/
set_option linter.unusedSimpArgs false
set_option linter.unusedVariables false
namespace Go.Proofs.YtfhmjkdpohepaaaDoor
open Go.RowKit

set_option maxRecDepth 100000 in
set_option maxHeartbeats 6400000 in
theorem outUnique2 (os od : List Vl) (df : Vl) (fs : List Int) (A B F : Option Addr) (ca cb cf : Nat) (w : World) (hA : RdL w 5 A (os.map Vl.cells5)) (hB : RdL w 5 B (od.map Vl.cells5)) (hF : RdL w 1 F (fs.map intC)) (hos : ∀ v ∈ os, v.wf) (hod : ∀ v ∈ od, v.wf) (hdf : df.wf) (hfs : Rise os.length fs) (h16 : fs.length ≤ 1000000) (n1 : os.length ≤ 9223372036854775807) (n2 : od.length ≤ 9223372036854775807) (hE : Env w)
    (f : Int) (fr : List Int) (hfr : fs = f :: fr) (h1 : 2 ≤ fs.length) (s1 : allSnd os = true) (s2 : allSnd od = true) (s3 : allSnd [df] = true) :
    Calls Tryd.prog 9 #[.int .i64 85, .slice A os.length ca, .slice B od.length cb, .agg #[.int .i64 df.k, .int .i64 df.n, .int .i64 df.s, .string df.t, .int .i64 df.i], .slice F fs.length cf] w fun e w' =>
      e = .returned (.tuple #[.agg #[.int .i64 Vl.zero.k, .int .i64 Vl.zero.n, .int .i64 Vl.zero.s, .string Vl.zero.t, .int .i64 Vl.zero.i], .int .i64 0]) ∧ Below w.heap.size w w' := by
  have hk : knownB 85 = true := by decide
  have hlen : 0 < fs.length := by rw [hfr]; simp
  have hn0 : ((fs.length : Int) == 0) = false := by rw [beq_eq_false_iff_ne]; omega
  have hpick : fs.map (pickV os) = pickV os f :: fr.map (pickV os) := by rw [hfr]; rfl
  
  obtain ⟨ps, hps⟩ : ∃ ps, fs.map (pickV os) = ps := ⟨_, rfl⟩
  have hpl : ps.length = fs.length := by rw [← hps]; exact List.length_map _
  have hpg : ∀ j (h : j < fs.length) (h2 : j < ps.length), ps[j]'h2 = pickV os (fs[j]'h) := by intro j h h2; subst hps; simp
  have hpc : ps = pickV os f :: fr.map (pickV os) := hps.symm.trans hpick
  have HPL := Lib.hid hpl
  have HPG := Lib.hid hpg
  have HPC := Lib.hid hpc
  clear hfr hpick hps hpl hpg hpc
  obtain ⟨i0, hinf, hza, hzb, hzc⟩ := info_parts (show (Tryd.prog.info? 26).map (fun i => (i.zero, i.size, i.bytes)) = some (some (.agg #[.int .i64 0, .int .i64 0, .int .i64 0, .string ⟨#[]⟩, .int .i64 0]), 5, 48) by kernel_rfl)
  have H1 := Lib.hid h1
  clear h1
  go_enter Tryd.func9, Tryd.ntmps9
  go_wp2_with fail
  generalize hEW0 : (w.alloc _).alloc _ = W0
  have hbW0 : Below w.heap.size w W0 := (by rw [← hEW0]; exact bel)
  have lW0_0 : w.heap.size < W0.heap.size := lsz hEW0
  have qW0_0 : ∀ o, W0.cell? ⟨w.heap.size, o, none⟩ = _ := fun o => congrArg (fun W : World => W.cell? ⟨w.heap.size, o, none⟩) hEW0.symm
  have rW0_0 : ∀ o, W0.frozen? ⟨w.heap.size, o, none⟩ = _ := fun o => congrArg (fun W : World => W.frozen? ⟨w.heap.size, o, none⟩) hEW0.symm
  have lW0_1 : w.heap.size + 1 < W0.heap.size := lsz hEW0
  have qW0_1 : ∀ o, W0.cell? ⟨w.heap.size + 1, o, none⟩ = _ := fun o => congrArg (fun W : World => W.cell? ⟨w.heap.size + 1, o, none⟩) hEW0.symm
  have rW0_1 : ∀ o, W0.frozen? ⟨w.heap.size + 1, o, none⟩ = _ := fun o => congrArg (fun W : World => W.frozen? ⟨w.heap.size + 1, o, none⟩) hEW0.symm
  clear hEW0
  refine (known_any 85 _).mono ?_
  rintro e w1 ⟨rfl, hb1⟩
  rw [hk]
  clear hk
  have hz1 := hb1.size
  try simp at hz1
  obtain ⟨q1_0, l1_0, r1_0⟩ := aft hb1 (w.heap.size)
  obtain ⟨q1_1, l1_1, r1_1⟩ := aft hb1 (w.heap.size + 1)
  go_wp2_with fail
  have hw1 : Below w.heap.size w w1 := bel
  go_loopg [25] fs.length (fun k iv wr => ∃ j : Nat, j ≤ fs.length ∧ fs.length - j ≤ k ∧ iv = .int .i64 j ∧ Below w1.heap.size w1 wr)
  case atStart => exact ⟨0, by omega, by omega, rfl, Below.refl _ _⟩
  case round =>
    obtain ⟨j, hj, hjk, rfl, hbel⟩ := hrel
    have hsz := hbel.size
    have qa_0 := fun o => (hbel.cell (p := ⟨w.heap.size, o, none⟩) l1_0).trans (q1_0 o)
    have ra_0 := fun o => (hbel.frozen (p := ⟨w.heap.size, o, none⟩) l1_0).trans (r1_0 o)
    have la_0 : w.heap.size < wr.heap.size := by omega
    have qa_1 := fun o => (hbel.cell (p := ⟨w.heap.size + 1, o, none⟩) l1_1).trans (q1_1 o)
    have ra_1 := fun o => (hbel.frozen (p := ⟨w.heap.size + 1, o, none⟩) l1_1).trans (r1_1 o)
    have la_1 : w.heap.size + 1 < wr.heap.size := by omega
    by_cases hlt : j < fs.length
    · obtain ⟨b, off, rfl, hx⟩ := ((hF.below hw1).below hbel).at_ hlt
      have hx0 := hfs.lo _ (List.getElem_mem hlt)
      have hx1 := hfs.hi _ (List.getElem_mem hlt)
      have g0 : wr.cell? ⟨b, off + j, none⟩ = some (.int .i64 (fs[j]'hlt)) := by have := hx.get 0 rfl; simpa using this
      have i0 : (0 : Int) ≤ (j : Int) := by omega
      have i1 : (j : Int) < (fs.length : Int) := by omega
      rcases j with _ | i
      · generalize fs[0]'hlt = x at *
        have e1 : ¬ (x < 0) := by omega
        have e2 : ¬ ((os.length : Int) ≤ x) := by omega
        clear hx hx0 hx1
        try simp only [Int.natCast_zero, Nat.add_zero] at *
        go_wp2_with fail
        go_roundg (gk - 1)
        case measure => omega
        case rel => exact ⟨1, by omega, by omega, by go_num, bel⟩
      · have hy := hfs.up i hlt
        have g1 : wr.cell? ⟨b, off + i, none⟩ = some (.int .i64 (fs[i]'(by omega))) := by have := hF.below hw1; have := this.below hbel; have := (this.at_ (show i < fs.length by omega)); obtain ⟨b2, o2, e, hh⟩ := this; cases e; have := hh.get 0 rfl; simpa using this
        generalize fs[i + 1]'hlt = x at *
        generalize fs[i]'(Nat.lt_of_succ_lt hlt) = y at *
        have e1 : ¬ (x < 0) := by omega
        have e2 : ¬ ((os.length : Int) ≤ x) := by omega
        have e3 : ¬ (x ≤ y) := by omega
        have e4 : (0 : Int) < (i : Int) + 1 := by omega
        have e5 : (i : Int) < (fs.length : Int) := by omega
        have e6 : (0 : Int) ≤ (i : Int) := by omega
        clear hx hx0 hx1 hy
        try simp only [Int.natCast_add, Int.natCast_one] at *
        go_wp2_with fail
        go_roundg (gk - 1)
        case measure => omega
        case rel => exact ⟨i + 2, by omega, by omega, by go_num, bel⟩
    · clear hj hjk
      go_wp2_with fail
      refine (psound_any os A ca _ (hA.below bel) hos n1 (hE.below bel)).mono ?_
      rintro e w2 ⟨rfl, hb2⟩
      rw [s1]
      clear s1
      have hz2 := hb2.size
      try simp at hz2
      obtain ⟨q2_0, l2_0, r2_0⟩ := aft hb2 (w.heap.size)
      obtain ⟨q2_1, l2_1, r2_1⟩ := aft hb2 (w.heap.size + 1)
      go_wp2_with fail
      refine (psound_any od B cb _ (hB.below bel) hod n2 (hE.below bel)).mono ?_
      rintro e w3 ⟨rfl, hb3⟩
      rw [s2]
      clear s2
      have hz3 := hb3.size
      try simp at hz3
      obtain ⟨q3_0, l3_0, r3_0⟩ := aft hb3 (w.heap.size)
      obtain ⟨q3_1, l3_1, r3_1⟩ := aft hb3 (w.heap.size + 1)
      go_wp2_with fail
      generalize hEW4 : w3.alloc _ = W4
      have hbW4 : Below w.heap.size w W4 := (by rw [← hEW4]; exact bel)
      have lW4_0 : w.heap.size < W4.heap.size := lsz hEW4
      have qW4_0 : ∀ o, W4.cell? ⟨w.heap.size, o, none⟩ = _ := fun o => congrArg (fun W : World => W.cell? ⟨w.heap.size, o, none⟩) hEW4.symm
      have rW4_0 : ∀ o, W4.frozen? ⟨w.heap.size, o, none⟩ = _ := fun o => congrArg (fun W : World => W.frozen? ⟨w.heap.size, o, none⟩) hEW4.symm
      have lW4_1 : w.heap.size + 1 < W4.heap.size := lsz hEW4
      have qW4_1 : ∀ o, W4.cell? ⟨w.heap.size + 1, o, none⟩ = _ := fun o => congrArg (fun W : World => W.cell? ⟨w.heap.size + 1, o, none⟩) hEW4.symm
      have rW4_1 : ∀ o, W4.frozen? ⟨w.heap.size + 1, o, none⟩ = _ := fun o => congrArg (fun W : World => W.frozen? ⟨w.heap.size + 1, o, none⟩) hEW4.symm
      have lW4_2 : w3.heap.size < W4.heap.size := lsz hEW4
      have qW4_2 : ∀ o, W4.cell? ⟨w3.heap.size, o, none⟩ = _ := fun o => congrArg (fun W : World => W.cell? ⟨w3.heap.size, o, none⟩) hEW4.symm
      have rW4_2 : ∀ o, W4.frozen? ⟨w3.heap.size, o, none⟩ = _ := fun o => congrArg (fun W : World => W.frozen? ⟨w3.heap.size, o, none⟩) hEW4.symm
      clear hEW4
      have t0 : ∀ o, W4.cell? ⟨w3.heap.size, o, none⟩ = df.cells5.toArray[o]? := by intro o; rw [qW4_2 o]; simp [go_sem]; rfl
      have rd : RdL W4 5 (some ⟨w3.heap.size, 0, none⟩) ([df].map Vl.cells5) := rdL_one t0
      clear t0
      have hd1 : ∀ v ∈ [df], v.wf := by intro v hv; have e : v = df := (by simpa using hv); rw [e]; exact hdf
      refine (psound_any [df] _ 1 _ rd hd1 (by show (1 : Nat) ≤ 9223372036854775807; omega) (hE.below bel)).mono ?_
      rintro e w4 ⟨rfl, hb4⟩
      rw [s3]
      clear s3 rd hd1
      have hz4 := hb4.size
      try simp at hz4
      obtain ⟨q4_0, l4_0, r4_0⟩ := aft hb4 (w.heap.size)
      obtain ⟨q4_1, l4_1, r4_1⟩ := aft hb4 (w.heap.size + 1)
      go_wp2_with fail
      have hw4 : Below w.heap.size w w4 := bel
      go_loopg [16, 85] fs.length (fun k ov iv wr => ∃ j : Nat, j ≤ fs.length ∧ fs.length - j ≤ k ∧ iv = .int .i64 j ∧ wr.ownsRow w4.heap.size 26 5 ov j ((ps.take j).flatMap Vl.cells5) ∧ Below w4.heap.size w4 wr)
      case atStart => exact ⟨0, by omega, by omega, rfl, ⟨rfl, Or.inl ⟨rfl, rfl⟩⟩, Below.refl _ _⟩
      case round =>
        obtain ⟨j, hj, hjk, rfl, hown, hbel⟩ := hrel
        have hsz := hbel.size
        have qr_0 := fun o => (hbel.cell (p := ⟨w.heap.size, o, none⟩) l4_0).trans (q4_0 o)
        have rr_0 := fun o => (hbel.frozen (p := ⟨w.heap.size, o, none⟩) l4_0).trans (r4_0 o)
        have lr_0 : w.heap.size < wr.heap.size := by omega
        have qr_1 := fun o => (hbel.cell (p := ⟨w.heap.size + 1, o, none⟩) l4_1).trans (q4_1 o)
        have rr_1 := fun o => (hbel.frozen (p := ⟨w.heap.size + 1, o, none⟩) l4_1).trans (r4_1 o)
        have lr_1 : w.heap.size + 1 < wr.heap.size := by omega
        by_cases hlt : j < fs.length
        · obtain ⟨b, off, rfl, hx⟩ := ((hF.below hw4).below hbel).at_ hlt
          have hx0 := hfs.lo _ (List.getElem_mem hlt)
          have hx1 := hfs.hi _ (List.getElem_mem hlt)
          have g0 : wr.cell? ⟨b, off + j, none⟩ = some (.int .i64 (fs[j]'hlt)) := by have := hx.get 0 rfl; simpa using this
          have hlp : j < ps.length := by rw [HPL.out]; exact hlt
          have htk : (ps.take (j + 1)).flatMap Vl.cells5 = (ps.take j).flatMap Vl.cells5 ++ (pickV os (fs[j]'hlt)).cells5 := by rw [List.take_succ_eq_append_getElem hlp, List.flatMap_append, HPG.out j hlt hlp]; simp
          clear hlp
          generalize fs[j]'hlt = x at *
          obtain ⟨i, rfl⟩ : ∃ i : Nat, x = (i : Int) := ⟨x.toNat, by omega⟩
          have hio : i < os.length := by omega
          obtain ⟨b2, off2, rfl, hy⟩ := ((hA.below hw4).below hbel).at_ hio
          have hpk : pickV os (i : Int) = os[i]'hio := by unfold pickV; rw [Int.toNat_natCast, List.getElem?_eq_getElem hio]; rfl
          rw [hpk] at htk
          generalize os[i]'hio = y at *
          have y0 : wr.cell? ⟨b2, off2 + i * 5, none⟩ = some (.int .i64 y.k) := hy.get 0 rfl
          have y1 : wr.cell? ⟨b2, off2 + i * 5 + 1, none⟩ = some (.int .i64 y.n) := hy.get 1 rfl
          have y2 : wr.cell? ⟨b2, off2 + i * 5 + 2, none⟩ = some (.int .i64 y.s) := hy.get 2 rfl
          have y3 : wr.cell? ⟨b2, off2 + i * 5 + 3, none⟩ = some (.string y.t) := hy.get 3 rfl
          have y4 : wr.cell? ⟨b2, off2 + i * 5 + 4, none⟩ = some (.int .i64 y.i) := hy.get 4 rfl
          have i1 : (j : Int) < (fs.length : Int) := by omega
          have i2 : (0 : Int) ≤ (j : Int) := by omega
          have i3 : (i : Int) < (os.length : Int) := by omega
          have i4 : (0 : Int) ≤ (i : Int) := by omega
          have HTK := Lib.hid htk
          clear hx hy hx0 hx1 hpk htk
          go_wp2_with (first
            | (at_builtin; refine wpList_append_own _ rfl _ _ 46 rfl w4.heap.size 26 i0 (.agg #[.int .i64 0, .int .i64 0, .int .i64 0, .string ⟨#[]⟩, .int .i64 0]) 5 48 Tryd.underlying46 hinf hza hzb hzc rfl (by decide) _ _ _ rfl (hown.alloc _) ⟨wr.heap.size, 0, none⟩ 1 1 y.cells5 rfl rfl ?c1 ?c2 ?c3 ?c4 ?c5 ?_)
            | fail)
          case c1 =>
            intro i u hu
            match i, hu with
            | 0, hu => simp [Vl.cells5] at hu; subst hu; simp [Addr.add]
            | 1, hu => simp [Vl.cells5] at hu; subst hu; simp [Addr.add]
            | 2, hu => simp [Vl.cells5] at hu; subst hu; simp [Addr.add]
            | 3, hu => simp [Vl.cells5] at hu; subst hu; simp [Addr.add]
            | 4, hu => simp [Vl.cells5] at hu; subst hu; simp [Addr.add]
            | i + 5, hu => simp [Vl.cells5] at hu
          case c2 => intro u hu; simp [Vl.cells5] at hu; rcases hu with rfl | rfl | rfl | rfl | rfl <;> rfl
          case c3 => unfold maxLen; omega
          case c4 => omega
          case c5 => simp; omega
          · intro v' w5 hown' hgrow _
            have hb5 : Below w4.heap.size w4 w5 := (hbel.alloc hsz _).grown hgrow (by simp; omega) (fun g hg => (hown.lt g hg).1)
            have hown2 : w5.ownsRow w4.heap.size 26 5 v' (j + 1) ((ps.take (j + 1)).flatMap Vl.cells5) := by rw [HTK.out]; exact hown'
            clear hgrow hown hown'
            go_wp2_with fail
            go_roundg (gk - 1)
            case measure => omega
            case rel => exact ⟨j + 1, by omega, by omega, by go_num, hown2, hb5⟩
        · have hje : j = fs.length := by omega
          subst hje
          rw [List.take_of_length_le (Nat.le_of_eq HPL.out)] at hown
          obtain ⟨O, co, rfl, hO⟩ := own_rd (css := ps.map Vl.cells5) hown (by rw [List.flatMap_def]) (by intro c hc; obtain ⟨x, _, rfl⟩ := List.mem_map.1 hc; rfl) (by rw [List.length_map, HPL.out])
          have hol : ps.length = fs.length := HPL.out
          rw [HPC.out] at hO hol
          have i1 : ¬ ((fs.length : Int) < (fs.length : Int)) := by omega
          have hz : (1 : Int) < (fs.length : Int) := by have := H1.out; omega
          go_wp2_with fail
          refine bodyPost_ret (v := .tuple #[.agg #[.int .i64 0, .int .i64 0, .int .i64 0, .string ⟨#[]⟩, .int .i64 0], .int .i64 0]) (by simp [results, Tryd.results9, go_sem, *]) rfl ⟨?_, bel⟩
          rfl
end Go.Proofs.YtfhmjkdpohepaaaDoor

/- soffit/policy.Outcome for fired rules that may be, by #, F, P and U: the walks joined. -/
set_option linter.unusedSimpArgs false
set_option linter.unusedVariables false
namespace Go.Proofs.YtfhmjkdpohepaaaDoor
open Go.RowKit

theorem nil_toList : (⟨#[]⟩ : ByteArray).toList = [] := by rw [ByteArray.toList_eq]
theorem zero_sound : sndB Vl.zero = true := by
  unfold sndB Vl.zero
  simp [nil_toList]
theorem zero_wf : Vl.zero.wf := ⟨by unfold I64 Vl.zero; simp, by unfold I64 Vl.zero; simp, by unfold I64 Vl.zero; simp, by unfold I64 Vl.zero; simp, by show (0 : Nat) ≤ 9223372036854775807; omega⟩
theorem allSnd_nil : allSnd [] = true := rfl
theorem allSnd_zero : allSnd [Vl.zero] = true := by unfold allSnd; simp [zero_sound]
def sndAll (os od : List Vl) (df : Vl) : Bool := allSnd os && allSnd od && allSnd [df]
theorem sndAll_yes {os od : List Vl} {df : Vl} (h : sndAll os od df = true) : allSnd os = true ∧ allSnd od = true ∧ allSnd [df] = true := by
  unfold sndAll at h
  simp only [Bool.and_eq_true] at h
  exact ⟨h.1.1, h.1.2, h.2⟩
def resF (os : List Vl) (df : Vl) : List Int → Vl
  | [] => df
  | f :: _ => pickV os f
def resP (os od : List Vl) (df : Vl) : List Int → Vl
  | [] => df
  | f :: fr => firstV (pickV os f) (pickV os f :: fr.map (pickV os)) od
def resU (os : List Vl) (df : Vl) : List Int → Vl
  | [] => df
  | [f] => pickV os f
  | _ => Vl.zero
theorem firstV_nil (o : Vl) (os : List Vl) : firstV o os [] = o := rfl

theorem outNo_any (os od : List Vl) (df : Vl) (fs : List Int) (A B F : Option Addr) (ca cb cf : Nat) (w : World) (hA : RdL w 5 A (os.map Vl.cells5)) (hB : RdL w 5 B (od.map Vl.cells5)) (hF : RdL w 1 F (fs.map intC)) (hos : ∀ v ∈ os, v.wf) (hod : ∀ v ∈ od, v.wf) (hdf : df.wf) (hfs : Rise os.length fs) (h16 : fs.length ≤ 1000000) (n1 : os.length ≤ 9223372036854775807) (n2 : od.length ≤ 9223372036854775807) (hE : Env w)
    (p : Int) (hk : knownB p = true) (h : sndAll os od df = false) :
    Calls Tryd.prog 9 #[.int .i64 p, .slice A os.length ca, .slice B od.length cb, .agg #[.int .i64 df.k, .int .i64 df.n, .int .i64 df.s, .string df.t, .int .i64 df.i], .slice F fs.length cf] w fun e w' =>
      e = .returned (.tuple #[.agg #[.int .i64 0, .int .i64 0, .int .i64 0, .string ⟨#[]⟩, .int .i64 0], .int .i64 2]) ∧ Below w.heap.size w w' := by
  cases s1 : allSnd os
  · exact outNo1 os od df fs A B F ca cb cf w hA hB hF hos hod hdf hfs h16 n1 n2 hE p hk s1
  cases s2 : allSnd od
  · exact outNo2 os od df fs A B F ca cb cf w hA hB hF hos hod hdf hfs h16 n1 n2 hE p hk s1 s2
  have s3 : allSnd [df] = false := by unfold sndAll at h; rw [s1, s2] at h; simpa using h
  exact outNo3 os od df fs A B F ca cb cf w hA hB hF hos hod hdf hfs h16 n1 n2 hE p hk s1 s2 s3

theorem outF_any (os od : List Vl) (df : Vl) (fs : List Int) (A B F : Option Addr) (ca cb cf : Nat) (w : World) (hA : RdL w 5 A (os.map Vl.cells5)) (hB : RdL w 5 B (od.map Vl.cells5)) (hF : RdL w 1 F (fs.map intC)) (hos : ∀ v ∈ os, v.wf) (hod : ∀ v ∈ od, v.wf) (hdf : df.wf) (hfs : Rise os.length fs) (h16 : fs.length ≤ 1000000) (n1 : os.length ≤ 9223372036854775807) (n2 : od.length ≤ 9223372036854775807) (hE : Env w)
    (h : sndAll os od df = true) :
    Calls Tryd.prog 9 #[.int .i64 70, .slice A os.length ca, .slice B od.length cb, .agg #[.int .i64 df.k, .int .i64 df.n, .int .i64 df.s, .string df.t, .int .i64 df.i], .slice F fs.length cf] w fun e w' =>
      e = .returned (.tuple #[.agg #[.int .i64 (resF os df fs).k, .int .i64 (resF os df fs).n, .int .i64 (resF os df fs).s, .string (resF os df fs).t, .int .i64 (resF os df fs).i], .int .i64 0]) ∧ Below w.heap.size w w' := by
  obtain ⟨s1, s2, s3⟩ := sndAll_yes h
  cases fs with
  | nil => exact outDef os od df [] A B F ca cb cf w hA hB hF hos hod hdf hfs h16 n1 n2 hE 70 (by decide) (by decide) rfl s1 s2 s3
  | cons f fr =>
    have := outFirst os od df (f :: fr) A B F ca cb cf w hA hB hF hos hod hdf hfs h16 n1 n2 hE f fr rfl s1 s2 s3
    rw [firstV_nil] at this
    exact this

theorem outP_any (os od : List Vl) (df : Vl) (fs : List Int) (A B F : Option Addr) (ca cb cf : Nat) (w : World) (hA : RdL w 5 A (os.map Vl.cells5)) (hB : RdL w 5 B (od.map Vl.cells5)) (hF : RdL w 1 F (fs.map intC)) (hos : ∀ v ∈ os, v.wf) (hod : ∀ v ∈ od, v.wf) (hdf : df.wf) (hfs : Rise os.length fs) (h16 : fs.length ≤ 1000000) (n1 : os.length ≤ 9223372036854775807) (n2 : od.length ≤ 9223372036854775807) (hE : Env w)
    (h : sndAll os od df = true) :
    Calls Tryd.prog 9 #[.int .i64 80, .slice A os.length ca, .slice B od.length cb, .agg #[.int .i64 df.k, .int .i64 df.n, .int .i64 df.s, .string df.t, .int .i64 df.i], .slice F fs.length cf] w fun e w' =>
      e = .returned (.tuple #[.agg #[.int .i64 (resP os od df fs).k, .int .i64 (resP os od df fs).n, .int .i64 (resP os od df fs).s, .string (resP os od df fs).t, .int .i64 (resP os od df fs).i], .int .i64 0]) ∧ Below w.heap.size w w' := by
  obtain ⟨s1, s2, s3⟩ := sndAll_yes h
  cases fs with
  | nil => exact outDef os od df [] A B F ca cb cf w hA hB hF hos hod hdf hfs h16 n1 n2 hE 80 (by decide) (by decide) rfl s1 s2 s3
  | cons f fr => exact outPrio os od df (f :: fr) A B F ca cb cf w hA hB hF hos hod hdf hfs h16 n1 n2 hE f fr rfl s1 s2 s3

theorem outU_any (os od : List Vl) (df : Vl) (fs : List Int) (A B F : Option Addr) (ca cb cf : Nat) (w : World) (hA : RdL w 5 A (os.map Vl.cells5)) (hB : RdL w 5 B (od.map Vl.cells5)) (hF : RdL w 1 F (fs.map intC)) (hos : ∀ v ∈ os, v.wf) (hod : ∀ v ∈ od, v.wf) (hdf : df.wf) (hfs : Rise os.length fs) (h16 : fs.length ≤ 1000000) (n1 : os.length ≤ 9223372036854775807) (n2 : od.length ≤ 9223372036854775807) (hE : Env w)
    (h : sndAll os od df = true) :
    Calls Tryd.prog 9 #[.int .i64 85, .slice A os.length ca, .slice B od.length cb, .agg #[.int .i64 df.k, .int .i64 df.n, .int .i64 df.s, .string df.t, .int .i64 df.i], .slice F fs.length cf] w fun e w' =>
      e = .returned (.tuple #[.agg #[.int .i64 (resU os df fs).k, .int .i64 (resU os df fs).n, .int .i64 (resU os df fs).s, .string (resU os df fs).t, .int .i64 (resU os df fs).i], .int .i64 0]) ∧ Below w.heap.size w w' := by
  obtain ⟨s1, s2, s3⟩ := sndAll_yes h
  match fs, hF, hfs, h16 with
  | [], hF, hfs, h16 => exact outDef os od df [] A B F ca cb cf w hA hB hF hos hod hdf hfs h16 n1 n2 hE 85 (by decide) (by decide) rfl s1 s2 s3
  | [f], hF, hfs, h16 => exact outUnique1 os od df [f] A B F ca cb cf w hA hB hF hos hod hdf hfs h16 n1 n2 hE f [] rfl rfl s1 s2 s3
  | f :: g :: fr, hF, hfs, h16 => exact outUnique2 os od df (f :: g :: fr) A B F ca cb cf w hA hB hF hos hod hdf hfs h16 n1 n2 hE f (g :: fr) rfl (by simp) s1 s2 s3
end Go.Proofs.YtfhmjkdpohepaaaDoor

/- soffitlaw17.awake, walked. -/
set_option linter.unusedSimpArgs false
set_option linter.unusedVariables false
namespace Go.Proofs.YtfhmjkdpohepaaaDoor
open Go.RowKit

def bF : Vl := ⟨3, 0, 0, ⟨#[]⟩, 0⟩
def bT : Vl := ⟨3, 0, 0, ⟨#[]⟩, 1⟩
def twoV : Vl := ⟨1, 2, 0, ⟨#[]⟩, 0⟩
theorem b_wf {i : Int} (h : 0 ≤ i ∧ i ≤ 1) : (⟨3, 0, 0, ⟨#[]⟩, i⟩ : Vl).wf := ⟨by unfold I64; simp, by unfold I64; simp, by unfold I64; simp, by unfold I64; simp; omega, by show (0 : Nat) ≤ 9223372036854775807; omega⟩
theorem b_snd {i : Int} (h : i = 0 ∨ i = 1) : sndB ⟨3, 0, 0, ⟨#[]⟩, i⟩ = true := by
  unfold sndB
  simp [nil_toList, h]
theorem aw_all : sndAll [bF, bT] [] Vl.zero = true := by
  have h1 : sndB bF = true := b_snd (Or.inl rfl)
  have h2 : sndB bT = true := b_snd (Or.inr rfl)
  unfold sndAll
  rw [allSnd_zero, allSnd_nil]
  unfold allSnd
  simp [h1, h2]
theorem aw_wf : ∀ v ∈ [bF, bT], v.wf := by
  intro v hv
  rcases List.mem_cons.1 hv with rfl | hv
  · exact b_wf (by omega)
  · have e : v = bT := by simpa using hv
    rw [e]; exact b_wf (by omega)
theorem nil_wf : ∀ v ∈ ([] : List Vl), v.wf := by simp
theorem aw_rise : Rise 2 [0, 1] := ⟨by simp, by simp, fun i h => by
  have : i = 0 := by simp at h; omega
  subst this; simp⟩
theorem eqB_self (v : Vl) : eqB v v = true := (eqB_iff v v).2 rfl

set_option maxRecDepth 100000 in
set_option maxHeartbeats 3200000 in
theorem awake17_any (w : World) (hE : Env w) :
    Calls Tryd.prog 11 #[] w fun e w' => e = .returned (.bool true) ∧ Below w.heap.size w w' := by
  have c1 : resF [bF, bT] Vl.zero [0, 1] = bF := rfl
  have c2 : resU [bF, bT] Vl.zero [0, 1] = Vl.zero := rfl
  have q1 : ∀ W : World, (binOp .eql 26 (.agg #[.int .i64 3, .int .i64 0, .int .i64 0, .string ⟨#[]⟩, .int .i64 0]) (.agg #[.int .i64 3, .int .i64 0, .int .i64 0, .string ⟨#[]⟩, .int .i64 0])).run Tryd.prog W = .ok (.bool true) W := fun W => (eqV_run bF bF W).trans (by rw [eqB_self])
  have q2 : ∀ W : World, (binOp .eql 26 (.agg #[.int .i64 0, .int .i64 0, .int .i64 0, .string ⟨#[]⟩, .int .i64 0]) (.agg #[.int .i64 0, .int .i64 0, .int .i64 0, .string ⟨#[]⟩, .int .i64 0])).run Tryd.prog W = .ok (.bool true) W := fun W => (eqV_run Vl.zero Vl.zero W).trans (by rw [eqB_self])
  have q3 : ∀ W : World, (binOp .eql 26 (.agg #[.int .i64 1, .int .i64 2, .int .i64 0, .string ⟨#[]⟩, .int .i64 0]) (.agg #[.int .i64 1, .int .i64 2, .int .i64 0, .string ⟨#[]⟩, .int .i64 0])).run Tryd.prog W = .ok (.bool true) W := fun W => (eqV_run twoV twoV W).trans (by rw [eqB_self])
  go_enter Tryd.func11, Tryd.ntmps11
  go_wp2_with fail
  generalize hEW0 : (w.alloc _).alloc _ = W0
  have hbW0 : Below w.heap.size w W0 := (by rw [← hEW0]; exact bel)
  have lW0_0 : w.heap.size < W0.heap.size := lsz hEW0
  have qW0_0 : ∀ o, W0.cell? ⟨w.heap.size, o, none⟩ = _ := fun o => congrArg (fun W : World => W.cell? ⟨w.heap.size, o, none⟩) hEW0.symm
  have rW0_0 : ∀ o, W0.frozen? ⟨w.heap.size, o, none⟩ = _ := fun o => congrArg (fun W : World => W.frozen? ⟨w.heap.size, o, none⟩) hEW0.symm
  have lW0_1 : w.heap.size + 1 < W0.heap.size := lsz hEW0
  have qW0_1 : ∀ o, W0.cell? ⟨w.heap.size + 1, o, none⟩ = _ := fun o => congrArg (fun W : World => W.cell? ⟨w.heap.size + 1, o, none⟩) hEW0.symm
  have rW0_1 : ∀ o, W0.frozen? ⟨w.heap.size + 1, o, none⟩ = _ := fun o => congrArg (fun W : World => W.frozen? ⟨w.heap.size + 1, o, none⟩) hEW0.symm
  clear hEW0
  have hA0 : RdL W0 5 (some ⟨w.heap.size, 0, none⟩) ([bF, bT].map Vl.cells5) := rdL_two rfl (fun o => by rw [qW0_0 o]; simp [go_sem]; rfl)
  have hF0 : RdL W0 1 (some ⟨w.heap.size + 1, 0, none⟩) ([(0 : Int), 1].map intC) := rdL_two rfl (fun o => by rw [qW0_1 o]; simp [go_sem]; rfl)
  refine (outF_any [bF, bT] [] Vl.zero [0, 1] _ none _ 2 0 2 W0 hA0 (RdL.nil_ _ _ _) hF0 aw_wf nil_wf zero_wf aw_rise (by simp) (by simp) (by simp) (hE.below hbW0) aw_all).mono ?_
  rintro e w1 ⟨rfl, hb1⟩
  rw [c1]
  have hz1 := hb1.size
  try simp at hz1
  obtain ⟨q1_0, l1_0, r1_0⟩ := aft hb1 (w.heap.size)
  have hA1 := hA0.below hb1
  go_wp2_with fail
  generalize hEW2 : (w1.alloc _).alloc _ = W2
  have hbW2 : Below w.heap.size w W2 := (by rw [← hEW2]; exact bel)
  have lW2_0 : w.heap.size < W2.heap.size := lsz hEW2
  have qW2_0 : ∀ o, W2.cell? ⟨w.heap.size, o, none⟩ = _ := fun o => congrArg (fun W : World => W.cell? ⟨w.heap.size, o, none⟩) hEW2.symm
  have rW2_0 : ∀ o, W2.frozen? ⟨w.heap.size, o, none⟩ = _ := fun o => congrArg (fun W : World => W.frozen? ⟨w.heap.size, o, none⟩) hEW2.symm
  have lW2_1 : w1.heap.size < W2.heap.size := lsz hEW2
  have qW2_1 : ∀ o, W2.cell? ⟨w1.heap.size, o, none⟩ = _ := fun o => congrArg (fun W : World => W.cell? ⟨w1.heap.size, o, none⟩) hEW2.symm
  have rW2_1 : ∀ o, W2.frozen? ⟨w1.heap.size, o, none⟩ = _ := fun o => congrArg (fun W : World => W.frozen? ⟨w1.heap.size, o, none⟩) hEW2.symm
  have lW2_2 : w1.heap.size + 1 < W2.heap.size := lsz hEW2
  have qW2_2 : ∀ o, W2.cell? ⟨w1.heap.size + 1, o, none⟩ = _ := fun o => congrArg (fun W : World => W.cell? ⟨w1.heap.size + 1, o, none⟩) hEW2.symm
  have rW2_2 : ∀ o, W2.frozen? ⟨w1.heap.size + 1, o, none⟩ = _ := fun o => congrArg (fun W : World => W.frozen? ⟨w1.heap.size + 1, o, none⟩) hEW2.symm
  clear hEW2
  have hF2 : RdL W2 1 (some ⟨w1.heap.size + 1, 0, none⟩) ([(0 : Int), 1].map intC) := rdL_two rfl (fun o => by rw [qW2_2 o]; simp [go_sem]; rfl)
  have hA2 : RdL W2 5 (some ⟨w.heap.size, 0, none⟩) ([bF, bT].map Vl.cells5) := rdL_two rfl (fun o => by rw [qW2_0 o]; simp [go_sem, *]; rfl)
  refine (outU_any [bF, bT] [] Vl.zero [0, 1] _ none _ 2 0 2 W2 hA2 (RdL.nil_ _ _ _) hF2 aw_wf nil_wf zero_wf aw_rise (by simp) (by simp) (by simp) (hE.below hbW2) aw_all).mono ?_
  rintro e w3 ⟨rfl, hb3⟩
  rw [c2]
  have hz3 := hb3.size
  try simp at hz3
  obtain ⟨q3_0, l3_0, r3_0⟩ := aft hb3 (w.heap.size)
  obtain ⟨q3_1, l3_1, r3_1⟩ := aft hb3 (w1.heap.size)
  go_wp2_with fail
  generalize hEW4 : (w3.alloc _).alloc _ = W4
  have hbW4 : Below w.heap.size w W4 := (by rw [← hEW4]; exact bel)
  have lW4_0 : w.heap.size < W4.heap.size := lsz hEW4
  have qW4_0 : ∀ o, W4.cell? ⟨w.heap.size, o, none⟩ = _ := fun o => congrArg (fun W : World => W.cell? ⟨w.heap.size, o, none⟩) hEW4.symm
  have rW4_0 : ∀ o, W4.frozen? ⟨w.heap.size, o, none⟩ = _ := fun o => congrArg (fun W : World => W.frozen? ⟨w.heap.size, o, none⟩) hEW4.symm
  have lW4_1 : w1.heap.size < W4.heap.size := lsz hEW4
  have qW4_1 : ∀ o, W4.cell? ⟨w1.heap.size, o, none⟩ = _ := fun o => congrArg (fun W : World => W.cell? ⟨w1.heap.size, o, none⟩) hEW4.symm
  have rW4_1 : ∀ o, W4.frozen? ⟨w1.heap.size, o, none⟩ = _ := fun o => congrArg (fun W : World => W.frozen? ⟨w1.heap.size, o, none⟩) hEW4.symm
  have lW4_2 : w3.heap.size < W4.heap.size := lsz hEW4
  have qW4_2 : ∀ o, W4.cell? ⟨w3.heap.size, o, none⟩ = _ := fun o => congrArg (fun W : World => W.cell? ⟨w3.heap.size, o, none⟩) hEW4.symm
  have rW4_2 : ∀ o, W4.frozen? ⟨w3.heap.size, o, none⟩ = _ := fun o => congrArg (fun W : World => W.frozen? ⟨w3.heap.size, o, none⟩) hEW4.symm
  have lW4_3 : w3.heap.size + 1 < W4.heap.size := lsz hEW4
  have qW4_3 : ∀ o, W4.cell? ⟨w3.heap.size + 1, o, none⟩ = _ := fun o => congrArg (fun W : World => W.cell? ⟨w3.heap.size + 1, o, none⟩) hEW4.symm
  have rW4_3 : ∀ o, W4.frozen? ⟨w3.heap.size + 1, o, none⟩ = _ := fun o => congrArg (fun W : World => W.frozen? ⟨w3.heap.size + 1, o, none⟩) hEW4.symm
  clear hEW4
  have hF4 : RdL W4 1 (some ⟨w3.heap.size + 1, 0, none⟩) ([(0 : Int), 1].map intC) := rdL_two rfl (fun o => by rw [qW4_3 o]; simp [go_sem]; rfl)
  have hA4 : RdL W4 5 (some ⟨w.heap.size, 0, none⟩) ([bF, bT].map Vl.cells5) := rdL_two rfl (fun o => by rw [qW4_0 o]; simp [go_sem, *]; rfl)
  have hk := sndAll_yes aw_all
  refine (outCount [bF, bT] [] Vl.zero [0, 1] _ none _ 2 0 2 W4 hA4 (RdL.nil_ _ _ _) hF4 aw_wf nil_wf zero_wf aw_rise (by simp) (by simp) (by simp) (hE.below hbW4) hk.1 hk.2.1 hk.2.2).mono ?_
  rintro e w5 ⟨rfl, hb5⟩
  have hz5 := hb5.size
  try simp at hz5
  obtain ⟨q5_0, l5_0, r5_0⟩ := aft hb5 (w.heap.size)
  obtain ⟨q5_1, l5_1, r5_1⟩ := aft hb5 (w1.heap.size)
  obtain ⟨q5_2, l5_2, r5_2⟩ := aft hb5 (w3.heap.size)
  clear hA0 hA1 hA2 hA4 hF0 hF2 hF4 hk c1 c2
  go_wp2_with fail
  generalize hEW6 : w5.alloc _ = W6
  have hbW6 : Below w.heap.size w W6 := (by rw [← hEW6]; exact bel)
  have lW6_0 : w.heap.size < W6.heap.size := lsz hEW6
  have qW6_0 : ∀ o, W6.cell? ⟨w.heap.size, o, none⟩ = _ := fun o => congrArg (fun W : World => W.cell? ⟨w.heap.size, o, none⟩) hEW6.symm
  have rW6_0 : ∀ o, W6.frozen? ⟨w.heap.size, o, none⟩ = _ := fun o => congrArg (fun W : World => W.frozen? ⟨w.heap.size, o, none⟩) hEW6.symm
  have lW6_1 : w1.heap.size < W6.heap.size := lsz hEW6
  have qW6_1 : ∀ o, W6.cell? ⟨w1.heap.size, o, none⟩ = _ := fun o => congrArg (fun W : World => W.cell? ⟨w1.heap.size, o, none⟩) hEW6.symm
  have rW6_1 : ∀ o, W6.frozen? ⟨w1.heap.size, o, none⟩ = _ := fun o => congrArg (fun W : World => W.frozen? ⟨w1.heap.size, o, none⟩) hEW6.symm
  have lW6_2 : w3.heap.size < W6.heap.size := lsz hEW6
  have qW6_2 : ∀ o, W6.cell? ⟨w3.heap.size, o, none⟩ = _ := fun o => congrArg (fun W : World => W.cell? ⟨w3.heap.size, o, none⟩) hEW6.symm
  have rW6_2 : ∀ o, W6.frozen? ⟨w3.heap.size, o, none⟩ = _ := fun o => congrArg (fun W : World => W.frozen? ⟨w3.heap.size, o, none⟩) hEW6.symm
  have lW6_3 : w5.heap.size < W6.heap.size := lsz hEW6
  have qW6_3 : ∀ o, W6.cell? ⟨w5.heap.size, o, none⟩ = _ := fun o => congrArg (fun W : World => W.cell? ⟨w5.heap.size, o, none⟩) hEW6.symm
  have rW6_3 : ∀ o, W6.frozen? ⟨w5.heap.size, o, none⟩ = _ := fun o => congrArg (fun W : World => W.frozen? ⟨w5.heap.size, o, none⟩) hEW6.symm
  clear hEW6
  have va0 : W6.cell? ⟨w.heap.size, 0, none⟩ = some (.int .i64 3) := (by first | (simp [go_sem]; done) | (simp [go_sem, *]; done))
  have va1 : W6.cell? ⟨w.heap.size, 1, none⟩ = some (.int .i64 0) := (by first | (simp [go_sem]; done) | (simp [go_sem, *]; done))
  have va2 : W6.cell? ⟨w.heap.size, 2, none⟩ = some (.int .i64 0) := (by first | (simp [go_sem]; done) | (simp [go_sem, *]; done))
  have va3 : W6.cell? ⟨w.heap.size, 3, none⟩ = some (.string ⟨#[]⟩) := (by first | (simp [go_sem]; done) | (simp [go_sem, *]; done))
  have va4 : W6.cell? ⟨w.heap.size, 4, none⟩ = some (.int .i64 0) := (by first | (simp [go_sem]; done) | (simp [go_sem, *]; done))
  have vb0 : W6.cell? ⟨w1.heap.size, 0, none⟩ = some (.int .i64 3) := (show W6.cell? ⟨w1.heap.size, 0, none⟩ = some (.int .i64 bF.k) from (by first | (simp [go_sem]; done) | (simp [go_sem, *]; done)))
  have vb1 : W6.cell? ⟨w1.heap.size, 1, none⟩ = some (.int .i64 0) := (show W6.cell? ⟨w1.heap.size, 1, none⟩ = some (.int .i64 bF.n) from (by first | (simp [go_sem]; done) | (simp [go_sem, *]; done)))
  have vb2 : W6.cell? ⟨w1.heap.size, 2, none⟩ = some (.int .i64 0) := (show W6.cell? ⟨w1.heap.size, 2, none⟩ = some (.int .i64 bF.s) from (by first | (simp [go_sem]; done) | (simp [go_sem, *]; done)))
  have vb3 : W6.cell? ⟨w1.heap.size, 3, none⟩ = some (.string ⟨#[]⟩) := (show W6.cell? ⟨w1.heap.size, 3, none⟩ = some (.string bF.t) from (by first | (simp [go_sem]; done) | (simp [go_sem, *]; done)))
  have vb4 : W6.cell? ⟨w1.heap.size, 4, none⟩ = some (.int .i64 0) := (show W6.cell? ⟨w1.heap.size, 4, none⟩ = some (.int .i64 bF.i) from (by first | (simp [go_sem]; done) | (simp [go_sem, *]; done)))
  have vc0 : W6.cell? ⟨w3.heap.size, 0, none⟩ = some (.int .i64 0) := (show W6.cell? ⟨w3.heap.size, 0, none⟩ = some (.int .i64 Vl.zero.k) from (by first | (simp [go_sem]; done) | (simp [go_sem, *]; done)))
  have vc1 : W6.cell? ⟨w3.heap.size, 1, none⟩ = some (.int .i64 0) := (show W6.cell? ⟨w3.heap.size, 1, none⟩ = some (.int .i64 Vl.zero.n) from (by first | (simp [go_sem]; done) | (simp [go_sem, *]; done)))
  have vc2 : W6.cell? ⟨w3.heap.size, 2, none⟩ = some (.int .i64 0) := (show W6.cell? ⟨w3.heap.size, 2, none⟩ = some (.int .i64 Vl.zero.s) from (by first | (simp [go_sem]; done) | (simp [go_sem, *]; done)))
  have vc3 : W6.cell? ⟨w3.heap.size, 3, none⟩ = some (.string ⟨#[]⟩) := (show W6.cell? ⟨w3.heap.size, 3, none⟩ = some (.string Vl.zero.t) from (by first | (simp [go_sem]; done) | (simp [go_sem, *]; done)))
  have vc4 : W6.cell? ⟨w3.heap.size, 4, none⟩ = some (.int .i64 0) := (show W6.cell? ⟨w3.heap.size, 4, none⟩ = some (.int .i64 Vl.zero.i) from (by first | (simp [go_sem]; done) | (simp [go_sem, *]; done)))
  have vd0 : W6.cell? ⟨w5.heap.size, 0, none⟩ = some (.int .i64 1) := (by first | (simp [go_sem]; done) | (simp [go_sem, *]; done))
  have vd1 : W6.cell? ⟨w5.heap.size, 1, none⟩ = some (.int .i64 2) := (by first | (simp [go_sem]; done) | (simp [go_sem, *]; done))
  have vd2 : W6.cell? ⟨w5.heap.size, 2, none⟩ = some (.int .i64 0) := (by first | (simp [go_sem]; done) | (simp [go_sem, *]; done))
  have vd3 : W6.cell? ⟨w5.heap.size, 3, none⟩ = some (.string ⟨#[]⟩) := (by first | (simp [go_sem]; done) | (simp [go_sem, *]; done))
  have vd4 : W6.cell? ⟨w5.heap.size, 4, none⟩ = some (.int .i64 0) := (by first | (simp [go_sem]; done) | (simp [go_sem, *]; done))
  clear qW0_0 qW0_1 rW0_0 rW0_1 q1_0 r1_0 qW2_0 qW2_1 qW2_2 rW2_0 rW2_1 rW2_2 q3_0 q3_1 r3_0 r3_1 qW4_0 qW4_1 qW4_2 qW4_3 rW4_0 rW4_1 rW4_2 rW4_3 q5_0 q5_1 q5_2 r5_0 r5_1 r5_2 qW6_0 qW6_1 qW6_2 qW6_3 rW6_0 rW6_1 rW6_2 rW6_3
  go_quiet (fail)
  go_wp2_with fail
  go_ret
  exact ⟨ret_bool rfl, bel⟩
end Go.Proofs.YtfhmjkdpohepaaaDoor
