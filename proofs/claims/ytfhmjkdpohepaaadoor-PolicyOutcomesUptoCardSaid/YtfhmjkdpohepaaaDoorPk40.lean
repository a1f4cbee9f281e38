import Derived.Test.YtfhmjkdpohepaaaDoorPk23
import Derived.Test.YtfhmjkdpohepaaaDoorPk01
import Derived.Test.YtfhmjkdpohepaaaDoorPk39
/- soffitref17.gather by < and >, walked. -/
set_option linter.unusedSimpArgs false
set_option linter.unusedVariables false
namespace Go.Proofs.YtfhmjkdpohepaaaDoor
open Go.RowKit

set_option maxRecDepth 100000 in
set_option maxHeartbeats 3200000 in
theorem gatL_any (o : Vl) (r : List Vl) (A : Option Addr) (c : Nat) (w : World) (hr : RdL w 5 A ((o :: r).map Vl.cells5)) (hn : (o :: r).length ≤ 9223372036854775807) (hw : ∀ v ∈ o :: r, v.wf) (hs : ∀ v ∈ o :: r, sndB v = true) :
    Calls Tryd.prog 25 #[.int .i64 60, .slice A (o :: r).length c] w fun e w' =>
      e = .returned (.agg #[.int .i64 (gatE false o (o :: r) o).k, .int .i64 (gatE false o (o :: r) o).n, .int .i64 (gatE false o (o :: r) o).s, .string (gatE false o (o :: r) o).t, .int .i64 (gatE false o (o :: r) o).i]) ∧ Below w.heap.size w w' := by
  obtain ⟨R, hR⟩ : ∃ R, gatE false o (o :: r) o = R := ⟨_, rfl⟩
  rw [hR]
  have HR : Hid (R = gatE false o ((o :: r).drop 0) o) := hR.symm
  clear hR
  obtain ⟨os, hos⟩ : ∃ os, o :: r = os := ⟨_, rfl⟩
  have h0 : os[0]? = some o := by rw [← hos]; rfl
  have hpos : 0 < os.length := by rw [← hos]; simp
  have hoo : o ∈ os := by rw [← hos]; exact List.mem_cons_self
  rw [hos] at HR hw hs hr hn ⊢
  clear hos
  obtain ⟨b, off, hA, hx⟩ := hr.at_ hpos
  have he : os[0]'hpos = o := Option.some.inj ((List.getElem?_eq_getElem hpos).symm.trans h0)
  rw [he] at hx
  rw [hA] at hr ⊢
  have HX : Hid (CellsAt w b off o.cells5) := by have := hx; rw [Nat.zero_mul, Nat.add_zero] at this; exact this
  have y0 : w.cell? ⟨b, off, none⟩ = some (.int .i64 o.k) := by have := HX.out.get 0 rfl; simpa using this
  have y1 : w.cell? ⟨b, off + 1, none⟩ = some (.int .i64 o.n) := HX.out.get 1 rfl
  have y2 : w.cell? ⟨b, off + 2, none⟩ = some (.int .i64 o.s) := HX.out.get 2 rfl
  have y3 : w.cell? ⟨b, off + 3, none⟩ = some (.string o.t) := HX.out.get 3 rfl
  have y4 : w.cell? ⟨b, off + 4, none⟩ = some (.int .i64 o.i) := HX.out.get 4 rfl
  have hlw : b < w.heap.size := cell_lt y0
  have hnw : ¬ b = w.heap.size := by omega
  have HW := Lib.hid hw
  have HS := Lib.hid hs
  have HOO := Lib.hid hoo
  have HRD := Lib.hid hr
  have i0 : (0 : Int) < (os.length : Int) := by omega
  clear he hx h0 hA hr hw hs hoo
  go_enter Tryd.func25, Tryd.ntmps25
  go_wp2_with fail
  have hvw := HW.out _ HOO.out
  have hvs := HS.out _ HOO.out
  have HV0 := Lib.hid (show o.wf ∧ sndB o = true from ⟨hvw, hvs⟩)
  clear hvw hvs
  generalize hE : (w.alloc _).alloc _ = W0
  have K0 : BoxIs W0 w.heap.size #[.int .i64 0, .int .i64 0, .int .i64 0, .string ⟨#[]⟩, .int .i64 0] := by rw [← hE]; exact (BoxIs.new rfl).alloc _
  have K1 : BoxIs W0 (w.heap.size + 1) #[.int .i64 o.k, .int .i64 o.n, .int .i64 o.s, .string o.t, .int .i64 o.i] := by rw [← hE]; exact BoxIs.new (by simp)
  have hbW0 : Below w.heap.size w W0 := by rw [← hE]; exact bel
  clear hE
  have HK0 := Lib.hid K0
  have HK1 := Lib.hid K1
  clear K0 K1
  go_loopg [6] os.length (fun k iv wr => ∃ (j : Nat) (v : Vl), iv = .int .i64 j ∧ j ≤ os.length ∧ os.length - j ≤ k ∧ Hid (R = gatE false o (os.drop j) v) ∧ Hid (v.wf ∧ sndB v = true) ∧ Hid (BoxIs wr w.heap.size #[.int .i64 0, .int .i64 0, .int .i64 0, .string ⟨#[]⟩, .int .i64 0]) ∧ Hid (BoxIs wr (w.heap.size + 1) #[.int .i64 v.k, .int .i64 v.n, .int .i64 v.s, .string v.t, .int .i64 v.i]) ∧ Below w.heap.size w wr)
  case atStart => exact ⟨0, o, rfl, by omega, by omega, HR, HV0, HK0, HK1, hbW0⟩
  case round =>
    clear HV0 HK0 HK1 hbW0
    obtain ⟨j, v, rfl, hj, hjk, HG, HV, HK0, HK1, hbel⟩ := hrel
    have k0 := HK0.out.c
    have k1 := HK1.out.c
    have f0 := HK0.out.f
    have f1 := HK1.out.f
    have l0 := HK0.out.lt
    have l1 := HK1.out.lt
    have y0 := cell_below hbel y0
    clear y1 y2 y3 y4
    by_cases hlt : j < os.length
    · skip
      obtain ⟨b2, off2, e2, hx⟩ := (HRD.out.below hbel).at_ hlt
      cases e2
      have hmem : os[j]'hlt ∈ os := List.getElem_mem hlt
      have hxw := HW.out _ hmem
      have hxs := HS.out _ hmem
      have hbad := fun h => gatE_bad (gr := false) (o := o) (v := v) hlt h
      have htake := fun h1 h2 => gatE_take (gr := false) (o := o) (v := v) hlt h1 h2
      have hkeep := fun h1 h2 => gatE_keep (gr := false) (o := o) (v := v) hlt h1 h2
      generalize os[j]'hlt = x at *
      have x0 : wr.cell? ⟨b, off + j * 5, none⟩ = some (.int .i64 x.k) := hx.get 0 rfl
      have x1 : wr.cell? ⟨b, off + j * 5 + 1, none⟩ = some (.int .i64 x.n) := hx.get 1 rfl
      have x2 : wr.cell? ⟨b, off + j * 5 + 2, none⟩ = some (.int .i64 x.s) := hx.get 2 rfl
      have x3 : wr.cell? ⟨b, off + j * 5 + 3, none⟩ = some (.string x.t) := hx.get 3 rfl
      have x4 : wr.cell? ⟨b, off + j * 5 + 4, none⟩ = some (.int .i64 x.i) := hx.get 4 rfl
      have hi : (j : Int) < (os.length : Int) := by omega
      have hi2 : (0 : Int) ≤ (j : Int) := by omega
      have hlb : b < wr.heap.size := cell_lt x0
      have hnb : ¬ b = wr.heap.size := by omega
      have HBAD := Lib.hid hbad
      have HTAKE := Lib.hid htake
      have HKEEP := Lib.hid hkeep
      have HXV := Lib.hid (show x.wf ∧ sndB x = true from ⟨hxw, hxs⟩)
      clear hbad htake hkeep hx hmem hxw hxs
      have four : ((x.k == 0) = true ∧ badK o x = true) ∨ ((x.k == 0) = false ∧ (x.k != o.k) = true ∧ badK o x = true) ∨ ((x.k == 0) = false ∧ (x.k != o.k) = false ∧ badK o x = false) := by
        unfold badK
        cases (x.k != o.k) <;> cases (x.k == 0) <;> simp
      rcases four with ⟨e1, e3⟩ | ⟨e1, e2, e3⟩ | ⟨e1, e2, e3⟩
      · have HG2 := Lib.hid (HG.out.trans (HBAD.out e3))
        clear e3 HBAD HTAKE HKEEP HG
        go_wp2_with fail
        go_quiet (fail)
        go_wp2_with fail
        refine bodyPost_ret (v := .agg #[.int .i64 0, .int .i64 0, .int .i64 0, .string ⟨#[]⟩, .int .i64 0]) (by simp [results, Tryd.results25, go_sem, *]) rfl ⟨?_, bel⟩
        rw [HG2.out]; rfl
      · have HG2 := Lib.hid (HG.out.trans (HBAD.out e3))
        clear e3 HBAD HTAKE HKEEP HG
        go_wp2_with fail
        go_quiet (fail)
        go_wp2_with fail
        refine bodyPost_ret (v := .agg #[.int .i64 0, .int .i64 0, .int .i64 0, .string ⟨#[]⟩, .int .i64 0]) (by simp [results, Tryd.results25, go_sem, *]) rfl ⟨?_, bel⟩
        rw [HG2.out]; rfl
      · have HE3 := Lib.hid e3
        clear e3 HBAD
        go_wp2_with fail
        go_quiet (fail)
        have KX : BoxIs (wr.alloc (.cells #[.int .i64 x.k, .int .i64 x.n, .int .i64 x.s, .string x.t, .int .i64 x.i] 26)) wr.heap.size #[.int .i64 x.k, .int .i64 x.n, .int .i64 x.s, .string x.t, .int .i64 x.i] := BoxIs.new rfl
        have KA := HK0.out.alloc (.cells #[.int .i64 x.k, .int .i64 x.n, .int .i64 x.s, .string x.t, .int .i64 x.i] 26)
        have KB := HK1.out.alloc (.cells #[.int .i64 x.k, .int .i64 x.n, .int .i64 x.s, .string x.t, .int .i64 x.i] 26)
        go_wp2_with fail
        refine (rCompare_any x v _ HXV.out.1 HV.out.1).mono ?_
        rintro e w1 ⟨rfl, hb1⟩
        rw [show cmpVRes x v = .tuple #[.int .i64 (cmpV x v), .int .i64 0] by unfold cmpVRes; rw [HXV.out.2, HV.out.2]; rfl]
        have hb1' : Below (wr.heap.size + 1) (wr.alloc (.cells #[.int .i64 x.k, .int .i64 x.n, .int .i64 x.s, .string x.t, .int .i64 x.i] 26)) w1 := (by have h9 := hb1; simp only [sz_alloc, sz_drew, sz_drewN] at h9; first | exact h9 | exact ⟨h9.os, h9.tape, h9.output, h9.size, h9.block⟩)
        have KX := KX.low hb1' (by omega)
        have KA := KA.low hb1' (by omega)
        have KB := KB.low hb1' (by omega)
        have hbel1 : Below w.heap.size w w1 := (hbel.alloc (by omega) _).trans (hb1'.mono (by omega))
        have kx := KX.c
        have ka := KA.c
        have kb := KB.c
        have fb := KB.f
        have fa := KA.f
        clear hb1 hb1' k0 k1 f0 f1 x0 x1 x2 x3 x4 y0
        cases hbt : betB false x v
        · have hlc : ¬ cmpV x v < 0 := by have h9 := hbt; unfold betB at h9; simpa using h9
          have HG2 := Lib.hid (HG.out.trans (HKEEP.out HE3.out hbt))
          clear hbt HTAKE HKEEP HG
          generalize cmpV x v = C at *
          try simp only [Int.not_lt] at hlc
          go_wp2_with fail
          go_roundg (gk - 1)
          case measure => omega
          case rel => exact ⟨j + 1, v, by go_num, by omega, by omega, HG2, HV, Lib.hid KA, Lib.hid KB, hbel1⟩
        · have hlc : cmpV x v < 0 := by have h9 := hbt; unfold betB at h9; simpa using h9
          have HG2 := Lib.hid (HG.out.trans (HTAKE.out HE3.out hbt))
          clear hbt HTAKE HKEEP HG
          generalize cmpV x v = C at *
          go_wp2_with fail
          go_roundg (gk - 1)
          case measure => omega
          case rel => exact ⟨j + 1, x, by go_num, by omega, by omega, HG2, HXV, Lib.hid (((((KA.set' (by omega) _ _).set' (by omega) _ _).set' (by omega) _ _).set' (by omega) _ _).set' (by omega) _ _), Lib.hid (((((KB.set 0 _).set 1 _).set 2 _).set 3 _).set 4 _), bel⟩
    · have HE := Lib.hid (HG.out.trans (gatE_end (gr := false) (o := o) (v := v) hlt))
      have hi : ¬ (j : Int) < (os.length : Int) := by omega
      go_wp2_with fail
      refine bodyPost_ret (v := .agg #[.int .i64 v.k, .int .i64 v.n, .int .i64 v.s, .string v.t, .int .i64 v.i]) (by simp [results, Tryd.results25, go_sem, *]) rfl ⟨?_, bel⟩
      rw [HE.out]

set_option maxRecDepth 100000 in
set_option maxHeartbeats 3200000 in
theorem gatM_any (o : Vl) (r : List Vl) (A : Option Addr) (c : Nat) (w : World) (hr : RdL w 5 A ((o :: r).map Vl.cells5)) (hn : (o :: r).length ≤ 9223372036854775807) (hw : ∀ v ∈ o :: r, v.wf) (hs : ∀ v ∈ o :: r, sndB v = true) :
    Calls Tryd.prog 25 #[.int .i64 62, .slice A (o :: r).length c] w fun e w' =>
      e = .returned (.agg #[.int .i64 (gatE true o (o :: r) o).k, .int .i64 (gatE true o (o :: r) o).n, .int .i64 (gatE true o (o :: r) o).s, .string (gatE true o (o :: r) o).t, .int .i64 (gatE true o (o :: r) o).i]) ∧ Below w.heap.size w w' := by
  obtain ⟨R, hR⟩ : ∃ R, gatE true o (o :: r) o = R := ⟨_, rfl⟩
  rw [hR]
  have HR : Hid (R = gatE true o ((o :: r).drop 0) o) := hR.symm
  clear hR
  obtain ⟨os, hos⟩ : ∃ os, o :: r = os := ⟨_, rfl⟩
  have h0 : os[0]? = some o := by rw [← hos]; rfl
  have hpos : 0 < os.length := by rw [← hos]; simp
  have hoo : o ∈ os := by rw [← hos]; exact List.mem_cons_self
  rw [hos] at HR hw hs hr hn ⊢
  clear hos
  obtain ⟨b, off, hA, hx⟩ := hr.at_ hpos
  have he : os[0]'hpos = o := Option.some.inj ((List.getElem?_eq_getElem hpos).symm.trans h0)
  rw [he] at hx
  rw [hA] at hr ⊢
  have HX : Hid (CellsAt w b off o.cells5) := by have := hx; rw [Nat.zero_mul, Nat.add_zero] at this; exact this
  have y0 : w.cell? ⟨b, off, none⟩ = some (.int .i64 o.k) := by have := HX.out.get 0 rfl; simpa using this
  have y1 : w.cell? ⟨b, off + 1, none⟩ = some (.int .i64 o.n) := HX.out.get 1 rfl
  have y2 : w.cell? ⟨b, off + 2, none⟩ = some (.int .i64 o.s) := HX.out.get 2 rfl
  have y3 : w.cell? ⟨b, off + 3, none⟩ = some (.string o.t) := HX.out.get 3 rfl
  have y4 : w.cell? ⟨b, off + 4, none⟩ = some (.int .i64 o.i) := HX.out.get 4 rfl
  have hlw : b < w.heap.size := cell_lt y0
  have hnw : ¬ b = w.heap.size := by omega
  have HW := Lib.hid hw
  have HS := Lib.hid hs
  have HOO := Lib.hid hoo
  have HRD := Lib.hid hr
  have i0 : (0 : Int) < (os.length : Int) := by omega
  clear he hx h0 hA hr hw hs hoo
  go_enter Tryd.func25, Tryd.ntmps25
  go_wp2_with fail
  have hvw := HW.out _ HOO.out
  have hvs := HS.out _ HOO.out
  have HV0 := Lib.hid (show o.wf ∧ sndB o = true from ⟨hvw, hvs⟩)
  clear hvw hvs
  generalize hE : (w.alloc _).alloc _ = W0
  have K0 : BoxIs W0 w.heap.size #[.int .i64 0, .int .i64 0, .int .i64 0, .string ⟨#[]⟩, .int .i64 0] := by rw [← hE]; exact (BoxIs.new rfl).alloc _
  have K1 : BoxIs W0 (w.heap.size + 1) #[.int .i64 o.k, .int .i64 o.n, .int .i64 o.s, .string o.t, .int .i64 o.i] := by rw [← hE]; exact BoxIs.new (by simp)
  have hbW0 : Below w.heap.size w W0 := by rw [← hE]; exact bel
  clear hE
  have HK0 := Lib.hid K0
  have HK1 := Lib.hid K1
  clear K0 K1
  go_loopg [6] os.length (fun k iv wr => ∃ (j : Nat) (v : Vl), iv = .int .i64 j ∧ j ≤ os.length ∧ os.length - j ≤ k ∧ Hid (R = gatE true o (os.drop j) v) ∧ Hid (v.wf ∧ sndB v = true) ∧ Hid (BoxIs wr w.heap.size #[.int .i64 0, .int .i64 0, .int .i64 0, .string ⟨#[]⟩, .int .i64 0]) ∧ Hid (BoxIs wr (w.heap.size + 1) #[.int .i64 v.k, .int .i64 v.n, .int .i64 v.s, .string v.t, .int .i64 v.i]) ∧ Below w.heap.size w wr)
  case atStart => exact ⟨0, o, rfl, by omega, by omega, HR, HV0, HK0, HK1, hbW0⟩
  case round =>
    clear HV0 HK0 HK1 hbW0
    obtain ⟨j, v, rfl, hj, hjk, HG, HV, HK0, HK1, hbel⟩ := hrel
    have k0 := HK0.out.c
    have k1 := HK1.out.c
    have f0 := HK0.out.f
    have f1 := HK1.out.f
    have l0 := HK0.out.lt
    have l1 := HK1.out.lt
    have y0 := cell_below hbel y0
    clear y1 y2 y3 y4
    by_cases hlt : j < os.length
    · skip
      obtain ⟨b2, off2, e2, hx⟩ := (HRD.out.below hbel).at_ hlt
      cases e2
      have hmem : os[j]'hlt ∈ os := List.getElem_mem hlt
      have hxw := HW.out _ hmem
      have hxs := HS.out _ hmem
      have hbad := fun h => gatE_bad (gr := true) (o := o) (v := v) hlt h
      have htake := fun h1 h2 => gatE_take (gr := true) (o := o) (v := v) hlt h1 h2
      have hkeep := fun h1 h2 => gatE_keep (gr := true) (o := o) (v := v) hlt h1 h2
      generalize os[j]'hlt = x at *
      have x0 : wr.cell? ⟨b, off + j * 5, none⟩ = some (.int .i64 x.k) := hx.get 0 rfl
      have x1 : wr.cell? ⟨b, off + j * 5 + 1, none⟩ = some (.int .i64 x.n) := hx.get 1 rfl
      have x2 : wr.cell? ⟨b, off + j * 5 + 2, none⟩ = some (.int .i64 x.s) := hx.get 2 rfl
      have x3 : wr.cell? ⟨b, off + j * 5 + 3, none⟩ = some (.string x.t) := hx.get 3 rfl
      have x4 : wr.cell? ⟨b, off + j * 5 + 4, none⟩ = some (.int .i64 x.i) := hx.get 4 rfl
      have hi : (j : Int) < (os.length : Int) := by omega
      have hi2 : (0 : Int) ≤ (j : Int) := by omega
      have hlb : b < wr.heap.size := cell_lt x0
      have hnb : ¬ b = wr.heap.size := by omega
      have HBAD := Lib.hid hbad
      have HTAKE := Lib.hid htake
      have HKEEP := Lib.hid hkeep
      have HXV := Lib.hid (show x.wf ∧ sndB x = true from ⟨hxw, hxs⟩)
      clear hbad htake hkeep hx hmem hxw hxs
      have four : ((x.k == 0) = true ∧ badK o x = true) ∨ ((x.k == 0) = false ∧ (x.k != o.k) = true ∧ badK o x = true) ∨ ((x.k == 0) = false ∧ (x.k != o.k) = false ∧ badK o x = false) := by
        unfold badK
        cases (x.k != o.k) <;> cases (x.k == 0) <;> simp
      rcases four with ⟨e1, e3⟩ | ⟨e1, e2, e3⟩ | ⟨e1, e2, e3⟩
      · have HG2 := Lib.hid (HG.out.trans (HBAD.out e3))
        clear e3 HBAD HTAKE HKEEP HG
        go_wp2_with fail
        go_quiet (fail)
        go_wp2_with fail
        refine bodyPost_ret (v := .agg #[.int .i64 0, .int .i64 0, .int .i64 0, .string ⟨#[]⟩, .int .i64 0]) (by simp [results, Tryd.results25, go_sem, *]) rfl ⟨?_, bel⟩
        rw [HG2.out]; rfl
      · have HG2 := Lib.hid (HG.out.trans (HBAD.out e3))
        clear e3 HBAD HTAKE HKEEP HG
        go_wp2_with fail
        go_quiet (fail)
        go_wp2_with fail
        refine bodyPost_ret (v := .agg #[.int .i64 0, .int .i64 0, .int .i64 0, .string ⟨#[]⟩, .int .i64 0]) (by simp [results, Tryd.results25, go_sem, *]) rfl ⟨?_, bel⟩
        rw [HG2.out]; rfl
      · have HE3 := Lib.hid e3
        clear e3 HBAD
        go_wp2_with fail
        go_quiet (fail)
        have KX : BoxIs (wr.alloc (.cells #[.int .i64 x.k, .int .i64 x.n, .int .i64 x.s, .string x.t, .int .i64 x.i] 26)) wr.heap.size #[.int .i64 x.k, .int .i64 x.n, .int .i64 x.s, .string x.t, .int .i64 x.i] := BoxIs.new rfl
        have KA := HK0.out.alloc (.cells #[.int .i64 x.k, .int .i64 x.n, .int .i64 x.s, .string x.t, .int .i64 x.i] 26)
        have KB := HK1.out.alloc (.cells #[.int .i64 x.k, .int .i64 x.n, .int .i64 x.s, .string x.t, .int .i64 x.i] 26)
        go_wp2_with fail
        refine (rCompare_any x v _ HXV.out.1 HV.out.1).mono ?_
        rintro e w1 ⟨rfl, hb1⟩
        rw [show cmpVRes x v = .tuple #[.int .i64 (cmpV x v), .int .i64 0] by unfold cmpVRes; rw [HXV.out.2, HV.out.2]; rfl]
        have hb1' : Below (wr.heap.size + 1) (wr.alloc (.cells #[.int .i64 x.k, .int .i64 x.n, .int .i64 x.s, .string x.t, .int .i64 x.i] 26)) w1 := (by have h9 := hb1; simp only [sz_alloc, sz_drew, sz_drewN] at h9; first | exact h9 | exact ⟨h9.os, h9.tape, h9.output, h9.size, h9.block⟩)
        have KX := KX.low hb1' (by omega)
        have KA := KA.low hb1' (by omega)
        have KB := KB.low hb1' (by omega)
        have hbel1 : Below w.heap.size w w1 := (hbel.alloc (by omega) _).trans (hb1'.mono (by omega))
        have kx := KX.c
        have ka := KA.c
        have kb := KB.c
        have fb := KB.f
        have fa := KA.f
        clear hb1 hb1' k0 k1 f0 f1 x0 x1 x2 x3 x4 y0
        cases hbt : betB true x v
        · have hlc : ¬ 0 < cmpV x v := by have h9 := hbt; unfold betB at h9; simpa using h9
          have HG2 := Lib.hid (HG.out.trans (HKEEP.out HE3.out hbt))
          clear hbt HTAKE HKEEP HG
          generalize cmpV x v = C at *
          try simp only [Int.not_lt] at hlc
          go_wp2_with fail
          go_roundg (gk - 1)
          case measure => omega
          case rel => exact ⟨j + 1, v, by go_num, by omega, by omega, HG2, HV, Lib.hid KA, Lib.hid KB, hbel1⟩
        · have hlc : 0 < cmpV x v := by have h9 := hbt; unfold betB at h9; simpa using h9
          have HG2 := Lib.hid (HG.out.trans (HTAKE.out HE3.out hbt))
          clear hbt HTAKE HKEEP HG
          generalize cmpV x v = C at *
          go_wp2_with fail
          go_roundg (gk - 1)
          case measure => omega
          case rel => exact ⟨j + 1, x, by go_num, by omega, by omega, HG2, HXV, Lib.hid (((((KA.set' (by omega) _ _).set' (by omega) _ _).set' (by omega) _ _).set' (by omega) _ _).set' (by omega) _ _), Lib.hid (((((KB.set 0 _).set 1 _).set 2 _).set 3 _).set 4 _), bel⟩
    · have HE := Lib.hid (HG.out.trans (gatE_end (gr := true) (o := o) (v := v) hlt))
      have hi : ¬ (j : Int) < (os.length : Int) := by omega
      go_wp2_with fail
      refine bodyPost_ret (v := .agg #[.int .i64 v.k, .int .i64 v.n, .int .i64 v.s, .string v.t, .int .i64 v.i]) (by simp [results, Tryd.results25, go_sem, *]) rfl ⟨?_, bel⟩
      rw [HE.out]

end Go.Proofs.YtfhmjkdpohepaaaDoor
