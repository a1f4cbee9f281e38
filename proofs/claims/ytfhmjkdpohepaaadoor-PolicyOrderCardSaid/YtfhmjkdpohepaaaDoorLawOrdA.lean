/- soffitlaw17.PolicyOrder, walked: at most 16 rules. -/
import Derived.Test.YtfhmjkdpohepaaaDoorLawOrd0
set_option linter.unusedSimpArgs false
set_option linter.unusedVariables false
namespace Go.Proofs.YtfhmjkdpohepaaaDoor
open Go.RowKit

set_option maxRecDepth 100000 in
set_option maxHeartbeats 25600000 in
theorem order_few (k : Int) (hk0 : 0 ≤ k) (hk1 : k ≤ 255) (os : List Vl) (m : Int) (A : Option Addr) (ca : Nat) (w : World) (hA : RdL w 5 A (os.map Vl.cells5)) (hos : ∀ v ∈ os, v.wf) (hca : os.length ≤ ca) (n1 : os.length ≤ 9223372036854775807) (hE : Env w) (hsz16 : os.length ≤ 16) :
    Calls Tryd.prog 5 #[.int .u8 k, .slice A os.length ca, .int .u16 m] w fun e w' => e = .returned (.bool true) ∧ Below w.heap.size w w' := by
  obtain ⟨i0, hinf, hza, hzb, hzc⟩ := info_parts (show (Tryd.prog.info? 26).map (fun i => (i.zero, i.size, i.bytes)) = some (some (.agg #[.int .i64 0, .int .i64 0, .int .i64 0, .string ⟨#[]⟩, .int .i64 0]), 5, 48) by kernel_rfl)
  obtain ⟨j0, jinf, jza, jzb, jzc⟩ := info_parts (show (Tryd.prog.info? 3).map (fun i => (i.zero, i.size, i.bytes)) = some (some (.int .i64 0), 1, 8) by kernel_rfl)
  have HE := Lib.hid hE
  obtain ⟨u, hu⟩ : ∃ u, os.length = u := ⟨_, rfl⟩
  have HU := Lib.hid hu
  have HA := Lib.hid hA
  have HNW := Lib.hid hos
  rw [hu] at hsz16 ⊢
  have i16 : ¬ (16 : Int) < (u : Int) := by omega
  clear hu hA hos hca n1 hE
  have five : k.tmod 5 = 0 ∨ k.tmod 5 = 1 ∨ k.tmod 5 = 2 ∨ k.tmod 5 = 3 ∨ k.tmod 5 = 4 := by rw [Int.tmod_eq_emod_of_nonneg hk0]; omega
  rcases five with hc | hc | hc | hc | hc
  all_goals
    go_enter Tryd.func5, Tryd.ntmps5
    go_wp2_with fail
    generalize hPP : wrap64 _ = p
    have hp : fiveP p := by rw [← hPP]; unfold fiveP; decide +kernel
    have HP := Lib.hid hp
    clear hPP hc hp
    have hui : IntKind.i64.wrap ((u : Int) - 1) = (u : Int) - 1 := IntWalk.i64_in _ (by omega)
    have hui2 : wrap64 ((u : Int) - 1) = (u : Int) - 1 := (IntWalk.i64_left _).symm.trans hui
    try rw [hui2]
    try rw [hui]
    go_loopg [9, 10] u (fun k ov iv wr => ∃ q : Nat, q ≤ u ∧ q ≤ k ∧ iv = .int .i64 ((q : Int) - 1) ∧ wr.ownsRow w.heap.size 26 5 ov (u - q) ((os.drop q).reverse.flatMap Vl.cells5) ∧ Below w.heap.size w wr)
    case atStart => exact ⟨u, Nat.le_refl _, Nat.le_refl _, rfl, by rw [Nat.sub_self, List.drop_of_length_le (Nat.le_of_eq HU.out)]; exact ⟨rfl, Or.inl ⟨rfl, rfl⟩⟩, Below.refl _ _⟩
    case round =>
      clear hui hui2
      obtain ⟨q, hq, hqk, rfl, hown, hbel⟩ := hrel
      have hsz := hbel.size
      rcases q with _ | q
      · rw [show (((0 : Nat) : Int) - 1) = -1 from rfl]
        rw [Nat.sub_zero, List.drop_zero] at hown
        obtain ⟨T, ct, rfl, hT⟩ := own_rd (css := os.reverse.map Vl.cells5) hown (by rw [List.flatMap_def]) (by intro c hc; obtain ⟨x, _, rfl⟩ := List.mem_map.1 hc; rfl) (by rw [List.length_map, List.length_reverse, HU.out])
        have HT := Lib.hid hT
        have HBEL := Lib.hid hbel
        clear hown hT hqk hq hbel
        go_wp2_with fail
        refine (pall_any u m wr (by omega)).mono ?_
        rintro e w1 ⟨fs, F, cf, rfl, hF, hrise, h16, hb1⟩
        have hbw1 : Below w.heap.size w w1 := HBEL.out.trans (hb1.mono HBEL.out.size)
        have HF := Lib.hid hF
        have HRI := Lib.hid hrise
        have HT1 := Lib.hid (HT.out.below hb1)
        obtain ⟨g, hg⟩ : ∃ g, fs.length = g := ⟨_, rfl⟩
        have HG := Lib.hid hg
        rw [hg] at h16 ⊢
        have hz1 := hbw1.size
        clear hF hrise hb1 HT HBEL hg
        have hgi : IntKind.i64.wrap ((g : Int) - 1) = (g : Int) - 1 := IntWalk.i64_in _ (by omega)
        go_wp2_with fail
        go_loopg [12, 13] g (fun k ov iv wq => ∃ q : Nat, q ≤ g ∧ q ≤ k ∧ iv = .int .i64 ((q : Int) - 1) ∧ wq.ownsRow w1.heap.size 3 1 ov (g - q) ((backL u (fs.drop q)).map (Value.int .i64)) ∧ Below w1.heap.size w1 wq)
        case atStart => exact ⟨g, Nat.le_refl _, Nat.le_refl _, rfl, by rw [Nat.sub_self, List.drop_of_length_le (Nat.le_of_eq HG.out)]; exact ⟨rfl, Or.inl ⟨rfl, rfl⟩⟩, Below.refl _ _⟩
        case round =>
          clear hgi
          obtain ⟨q, hq, hqk, rfl, hown, hbel⟩ := hrel
          have hsz := hbel.size
          rcases q with _ | q
          · rw [show (((0 : Nat) : Int) - 1) = -1 from rfl]
            rw [Nat.sub_zero, List.drop_zero] at hown
            obtain ⟨G, cg, rfl, hG⟩ := own_rd (css := (backL u fs).map intC) hown (flat_intC _).symm (by intro c hc; obtain ⟨x, _, rfl⟩ := List.mem_map.1 hc; rfl) (by rw [List.length_map, back_len, HG.out])
            have hbw2 : Below w.heap.size w wr := hbw1.trans (hbel.mono hbw1.size)
            have hbl : (backL u fs).length = g := (back_len u fs).trans HG.out
            have H1 := Lib.hid (fun (W : World) (h : Below w.heap.size w W) (hf : RdL W 1 F (fs.map intC)) => outFive_any os fs A F ca cf W (HA.out.below h) hf HNW.out (by rw [HU.out]; exact HRI.out) (by rw [HG.out]; exact h16) (by rw [HU.out]; omega) (HE.out.below h) p HP.out)
            have H2 := Lib.hid (fun (W : World) (h : Below w.heap.size w W) (hg : RdL W 1 G ((backL u fs).map intC)) (ht : RdL W 5 T (os.reverse.map Vl.cells5)) => outFive_any os.reverse (backL u fs) T G ct cg W ht hg (fun v hv => HNW.out v (List.mem_reverse.1 hv)) (by rw [List.length_reverse, HU.out]; exact rise_back HRI.out) (by rw [hbl]; exact h16) (by rw [List.length_reverse, HU.out]; omega) (HE.out.below h) p HP.out)
            rw [HU.out, HG.out] at H1
            rw [List.length_reverse, HU.out, hbl] at H2
            have HF2 := Lib.hid (HF.out.below hbel)
            have HT2 := Lib.hid (HT1.out.below hbel)
            have HG2 := Lib.hid hG
            clear hown hG hqk hq hbl HF HT1 hbel
            go_wp2_with fail
            refine (H1.out _ hbw2 HF2.out).mono ?_
            rintro e w2 ⟨R, r, rfl, hrel1, hb2⟩
            have hbw3 : Below w.heap.size w w2 := hbw2.trans (hb2.mono hbw2.size)
            have HR1 := Lib.hid hrel1
            have HT3 := Lib.hid (HT2.out.below hb2)
            have HG3 := Lib.hid (HG2.out.below hb2)
            clear hrel1 H1 HT2 HG2 HF2 hb2
            go_wp2_with fail
            have hbA : Below w2.heap.size w2 (w2.alloc (.cells #[.int .i64 R.k, .int .i64 R.n, .int .i64 R.s, .string R.t, .int .i64 R.i] 26)) := (by repeat' (first | (with_reducible exact Below.refl _ _) | (with_reducible assumption) | (with_reducible refine Below.drew ?_) | (with_reducible refine below_drewN ?_ _) | (with_reducible refine below_iterAt ?_ ?_ _ _) | (with_reducible refine below_iter ?_ ?_ _ _) | (with_reducible refine Below.alloc ?_ ?_ _) | (with_reducible refine Below.setCell ?_ ?_ _) | (with_reducible refine Below.trans ?_ (Below.mono (by assumption) ?_)) | (simp only [sz_alloc, sz_set, sz_drew, sz_drewN, sz_iterAt, sz_iter] at *; omega) | omega | (simp; done) | (simp; omega) | (apply Below.size; assumption) | (simp only [sz_drew, sz_drewN]; apply Below.size; assumption) | (refine Nat.le_trans ?_ (Below.size (by assumption)))))
            refine (H2.out _ (hbw3.trans (hbA.mono hbw3.size)) (HG3.out.below hbA) (HT3.out.below hbA)).mono ?_
            rintro e w3 ⟨S, r', rfl, hrel2, hb3⟩
            obtain ⟨hee, hval⟩ := outRel_turned rfl (by have := pick_back (os := os) (fs := fs) (by rw [HU.out]; exact HRI.out); rw [HU.out] at this; exact this) (fun hs => (pick_ok HNW.out hs fs).2) HR1.out hrel2
            subst hee
            have hbw4 : Below w.heap.size w w3 := (hbw3.trans (hbA.mono hbw3.size)).trans (hb3.mono (hbw3.trans (hbA.mono hbw3.size)).size)
            have HVAL := Lib.hid hval
            have hlt2 : w2.heap.size < w3.heap.size := by have := hb3.size; simp at this; omega
            have rc0 : w3.cell? ⟨w2.heap.size, 0, none⟩ = some (.int .i64 R.k) := (hb3.cell (p := ⟨w2.heap.size, 0, none⟩) (by simp)).trans (by simp [go_sem])
            have rc1 : w3.cell? ⟨w2.heap.size, 1, none⟩ = some (.int .i64 R.n) := (hb3.cell (p := ⟨w2.heap.size, 1, none⟩) (by simp)).trans (by simp [go_sem])
            have rc2 : w3.cell? ⟨w2.heap.size, 2, none⟩ = some (.int .i64 R.s) := (hb3.cell (p := ⟨w2.heap.size, 2, none⟩) (by simp)).trans (by simp [go_sem])
            have rc3 : w3.cell? ⟨w2.heap.size, 3, none⟩ = some (.string R.t) := (hb3.cell (p := ⟨w2.heap.size, 3, none⟩) (by simp)).trans (by simp [go_sem])
            have rc4 : w3.cell? ⟨w2.heap.size, 4, none⟩ = some (.int .i64 R.i) := (hb3.cell (p := ⟨w2.heap.size, 4, none⟩) (by simp)).trans (by simp [go_sem])
            clear hrel2 HR1 H2 HT3 HG3 hval hbA hb3 hbw3 hbw2 hbw1
            go_wp2_with fail
            refine (awake17_any _ (HE.out.below (by repeat' (first | (with_reducible exact Below.refl _ _) | (with_reducible assumption) | (with_reducible refine Below.drew ?_) | (with_reducible refine below_drewN ?_ _) | (with_reducible refine below_iterAt ?_ ?_ _ _) | (with_reducible refine below_iter ?_ ?_ _ _) | (with_reducible refine Below.alloc ?_ ?_ _) | (with_reducible refine Below.setCell ?_ ?_ _) | (with_reducible refine Below.trans ?_ (Below.mono (by assumption) ?_)) | (simp only [sz_alloc, sz_set, sz_drew, sz_drewN, sz_iterAt, sz_iter] at *; omega) | omega | (simp; done) | (simp; omega) | (apply Below.size; assumption) | (simp only [sz_drew, sz_drewN]; apply Below.size; assumption) | (refine Nat.le_trans ?_ (Below.size (by assumption))))))).mono ?_
            rintro e w4 ⟨rfl, hb4⟩
            have hbB : Below w3.heap.size w3 (w3.alloc (.cells #[.int .i64 S.k, .int .i64 S.n, .int .i64 S.s, .string S.t, .int .i64 S.i] 26)) := (by repeat' (first | (with_reducible exact Below.refl _ _) | (with_reducible assumption) | (with_reducible refine Below.drew ?_) | (with_reducible refine below_drewN ?_ _) | (with_reducible refine below_iterAt ?_ ?_ _ _) | (with_reducible refine below_iter ?_ ?_ _ _) | (with_reducible refine Below.alloc ?_ ?_ _) | (with_reducible refine Below.setCell ?_ ?_ _) | (with_reducible refine Below.trans ?_ (Below.mono (by assumption) ?_)) | (simp only [sz_alloc, sz_set, sz_drew, sz_drewN, sz_iterAt, sz_iter] at *; omega) | omega | (simp; done) | (simp; omega) | (apply Below.size; assumption) | (simp only [sz_drew, sz_drewN]; apply Below.size; assumption) | (refine Nat.le_trans ?_ (Below.size (by assumption)))))
            have hb34 : Below w3.heap.size w3 w4 := hbB.trans (hb4.mono hbB.size)
            have hbw5 : Below w.heap.size w w4 := hbw4.trans (hb34.mono hbw4.size)
            have sc0 : w4.cell? ⟨w2.heap.size, 0, none⟩ = some (.int .i64 R.k) := (hb34.cell (p := ⟨w2.heap.size, 0, none⟩) hlt2).trans rc0
            have sc1 : w4.cell? ⟨w2.heap.size, 1, none⟩ = some (.int .i64 R.n) := (hb34.cell (p := ⟨w2.heap.size, 1, none⟩) hlt2).trans rc1
            have sc2 : w4.cell? ⟨w2.heap.size, 2, none⟩ = some (.int .i64 R.s) := (hb34.cell (p := ⟨w2.heap.size, 2, none⟩) hlt2).trans rc2
            have sc3 : w4.cell? ⟨w2.heap.size, 3, none⟩ = some (.string R.t) := (hb34.cell (p := ⟨w2.heap.size, 3, none⟩) hlt2).trans rc3
            have sc4 : w4.cell? ⟨w2.heap.size, 4, none⟩ = some (.int .i64 R.i) := (hb34.cell (p := ⟨w2.heap.size, 4, none⟩) hlt2).trans rc4
            have tc0 : w4.cell? ⟨w3.heap.size, 0, none⟩ = some (.int .i64 S.k) := (hb4.cell (p := ⟨w3.heap.size, 0, none⟩) (by simp)).trans (by simp [go_sem])
            have tc1 : w4.cell? ⟨w3.heap.size, 1, none⟩ = some (.int .i64 S.n) := (hb4.cell (p := ⟨w3.heap.size, 1, none⟩) (by simp)).trans (by simp [go_sem])
            have tc2 : w4.cell? ⟨w3.heap.size, 2, none⟩ = some (.int .i64 S.s) := (hb4.cell (p := ⟨w3.heap.size, 2, none⟩) (by simp)).trans (by simp [go_sem])
            have tc3 : w4.cell? ⟨w3.heap.size, 3, none⟩ = some (.string S.t) := (hb4.cell (p := ⟨w3.heap.size, 3, none⟩) (by simp)).trans (by simp [go_sem])
            have tc4 : w4.cell? ⟨w3.heap.size, 4, none⟩ = some (.int .i64 S.i) := (hb4.cell (p := ⟨w3.heap.size, 4, none⟩) (by simp)).trans (by simp [go_sem])
            have hq1 := fun W : World => eqV_run R S W
            have hq2 : ∀ W : World, (binOp .eql 26 (.agg #[.int .i64 R.k, .int .i64 R.n, .int .i64 R.s, .string R.t, .int .i64 R.i]) (.agg #[.int .i64 0, .int .i64 0, .int .i64 0, .string ⟨#[]⟩, .int .i64 0])).run Tryd.prog W = .ok (.bool (eqB R Vl.zero)) W := fun W => eqV_run R Vl.zero W
            have hq3 : ∀ W : World, (binOp .eql 26 (.agg #[.int .i64 S.k, .int .i64 S.n, .int .i64 S.s, .string S.t, .int .i64 S.i]) (.agg #[.int .i64 0, .int .i64 0, .int .i64 0, .string ⟨#[]⟩, .int .i64 0])).run Tryd.prog W = .ok (.bool (eqB S Vl.zero)) W := fun W => eqV_run S Vl.zero W
            have h43 : eqB R S = true ∨ (eqB R S = false ∧ p = 43 ∧ (eqB R Vl.zero = true ∨ (eqB R Vl.zero = false ∧ eqB S Vl.zero = true))) := by
              cases h : eqB R S
              · right
                rcases HVAL.out with h1 | ⟨h1, h2⟩
                · rw [h1, eqB_self] at h; cases h
                · refine ⟨rfl, h1, ?_⟩
                  cases h3 : eqB R Vl.zero
                  · right
                    refine ⟨rfl, ?_⟩
                    rcases h2 with h2 | h2
                    · rw [h2, eqB_self] at h3; cases h3
                    · rw [h2, eqB_self]
                  · exact .inl rfl
              · exact .inl rfl
            clear HVAL hbB hb34 hb4 hbw4 rc0 rc1 rc2 rc3 rc4
            rcases h43 with h | ⟨h0, rfl, h | ⟨h, h'⟩⟩
            · rw [h] at hq1
              clear h hq2 hq3
              go_wp2_with fail
              go_ret
              exact ⟨ret_bool rfl, (by repeat' (first | (with_reducible exact Below.refl _ _) | (with_reducible assumption) | (with_reducible refine Below.drew ?_) | (with_reducible refine below_drewN ?_ _) | (with_reducible refine below_iterAt ?_ ?_ _ _) | (with_reducible refine below_iter ?_ ?_ _ _) | (with_reducible refine Below.alloc ?_ ?_ _) | (with_reducible refine Below.setCell ?_ ?_ _) | (with_reducible refine Below.trans ?_ (Below.mono (by assumption) ?_)) | (simp only [sz_alloc, sz_set, sz_drew, sz_drewN, sz_iterAt, sz_iter] at *; omega) | omega | (simp; done) | (simp; omega) | (apply Below.size; assumption) | (simp only [sz_drew, sz_drewN]; apply Below.size; assumption) | (refine Nat.le_trans ?_ (Below.size (by assumption)))))⟩
            · rw [h0] at hq1
              rw [h] at hq2
              clear h h0 hq3
              go_wp2_with fail
              go_ret
              exact ⟨ret_bool rfl, (by repeat' (first | (with_reducible exact Below.refl _ _) | (with_reducible assumption) | (with_reducible refine Below.drew ?_) | (with_reducible refine below_drewN ?_ _) | (with_reducible refine below_iterAt ?_ ?_ _ _) | (with_reducible refine below_iter ?_ ?_ _ _) | (with_reducible refine Below.alloc ?_ ?_ _) | (with_reducible refine Below.setCell ?_ ?_ _) | (with_reducible refine Below.trans ?_ (Below.mono (by assumption) ?_)) | (simp only [sz_alloc, sz_set, sz_drew, sz_drewN, sz_iterAt, sz_iter] at *; omega) | omega | (simp; done) | (simp; omega) | (apply Below.size; assumption) | (simp only [sz_drew, sz_drewN]; apply Below.size; assumption) | (refine Nat.le_trans ?_ (Below.size (by assumption)))))⟩
            · rw [h0] at hq1
              rw [h] at hq2
              rw [h'] at hq3
              clear h h' h0
              go_wp2_with fail
              go_ret
              exact ⟨ret_bool rfl, (by repeat' (first | (with_reducible exact Below.refl _ _) | (with_reducible assumption) | (with_reducible refine Below.drew ?_) | (with_reducible refine below_drewN ?_ _) | (with_reducible refine below_iterAt ?_ ?_ _ _) | (with_reducible refine below_iter ?_ ?_ _ _) | (with_reducible refine Below.alloc ?_ ?_ _) | (with_reducible refine Below.setCell ?_ ?_ _) | (with_reducible refine Below.trans ?_ (Below.mono (by assumption) ?_)) | (simp only [sz_alloc, sz_set, sz_drew, sz_drewN, sz_iterAt, sz_iter] at *; omega) | omega | (simp; done) | (simp; omega) | (apply Below.size; assumption) | (simp only [sz_drew, sz_drewN]; apply Below.size; assumption) | (refine Nat.le_trans ?_ (Below.size (by assumption)))))⟩
          · rw [show (((q + 1 : Nat) : Int) - 1) = (q : Int) from by omega]
            have hql : q < fs.length := by rw [HG.out]; omega
            obtain ⟨b, off, hFe, hx⟩ := (HF.out.below hbel).at_ hql
            subst hFe
            have hx0 := HRI.out.lo _ (List.getElem_mem hql)
            have hx1 := HRI.out.hi _ (List.getElem_mem hql)
            have hbk : backL u (fs.drop q) = backL u (fs.drop (q + 1)) ++ [(u : Int) - 1 - fs[q]'hql] := by unfold backL; rw [drop_turn fs q hql, List.map_append]; rfl
            have g0 : wr.cell? ⟨b, off + q, none⟩ = some (.int .i64 (fs[q]'hql)) := by have := hx.get 0 rfl; simpa using this
            generalize fs[q]'hql = x at *
            have i1 : (0 : Int) ≤ (q : Int) := by omega
            have i2 : (q : Int) < (g : Int) := by omega
            have i3 : IntKind.i64.wrap ((u : Int) - 1) = (u : Int) - 1 := IntWalk.i64_in _ (by omega)
            have i4 : IntKind.i64.wrap ((u : Int) - 1 - x) = (u : Int) - 1 - x := IntWalk.i64_in _ (by omega)
            have i5 : IntKind.i64.wrap ((q : Int) - 1) = (q : Int) - 1 := IntWalk.i64_in _ (by omega)
            have HBK := Lib.hid hbk
            clear hx hbk
            go_wp2_with (first
              | (at_builtin; refine wpList_append_own _ rfl _ _ 27 rfl w1.heap.size 3 j0 (.int .i64 0) 1 8 Tryd.underlying27 jinf jza jzb jzc rfl (by decide) _ _ _ rfl (hown.alloc _) ⟨wr.heap.size, 0, none⟩ 1 1 [.int .i64 ((u : Int) - 1 - x)] rfl rfl ?c1 ?c2 ?c3 ?c4 ?c5 ?_)
              | fail)
            case c1 =>
              intro i u' hu
              match i, hu with
              | 0, hu => simp at hu; subst hu; simp [Addr.add]
            case c2 => intro u' hu; simp at hu; subst hu; rfl
            case c3 => unfold maxLen; omega
            case c4 => omega
            case c5 => simp; omega
            · intro v' w5 hown' hgrow _
              have hb5 : Below w1.heap.size w1 w5 := (hbel.alloc hsz _).grown hgrow (by simp; omega) (fun g hg => (hown.lt g hg).1)
              have hown2 : w5.ownsRow w1.heap.size 3 1 v' (g - q) ((backL u (fs.drop q)).map (Value.int .i64)) := by rw [HBK.out, List.map_append, show g - q = g - (q + 1) + 1 by omega]; exact hown'
              clear hgrow hown hown'
              go_wp2_with fail
              go_roundg q
              case measure => omega
              case rel => exact ⟨q, by omega, Nat.le_refl _, by first | rfl | (go_num), hown2, hb5⟩
      · rw [show (((q + 1 : Nat) : Int) - 1) = (q : Int) from by omega]
        have hql : q < os.length := by rw [HU.out]; omega
        obtain ⟨b, off, hAe, hx⟩ := (HA.out.below hbel).at_ hql
        subst hAe
        have hdt : (os.drop q).reverse.flatMap Vl.cells5 = (os.drop (q + 1)).reverse.flatMap Vl.cells5 ++ (os[q]'hql).cells5 := by rw [drop_turn os q hql, List.flatMap_append]; simp
        generalize os[q]'hql = y at *
        have y0 : wr.cell? ⟨b, off + q * 5, none⟩ = some (.int .i64 y.k) := hx.get 0 rfl
        have y1 : wr.cell? ⟨b, off + q * 5 + 1, none⟩ = some (.int .i64 y.n) := hx.get 1 rfl
        have y2 : wr.cell? ⟨b, off + q * 5 + 2, none⟩ = some (.int .i64 y.s) := hx.get 2 rfl
        have y3 : wr.cell? ⟨b, off + q * 5 + 3, none⟩ = some (.string y.t) := hx.get 3 rfl
        have y4 : wr.cell? ⟨b, off + q * 5 + 4, none⟩ = some (.int .i64 y.i) := hx.get 4 rfl
        have i1 : (0 : Int) ≤ (q : Int) := by omega
        have i2 : (q : Int) < (u : Int) := by omega
        have i5 : IntKind.i64.wrap ((q : Int) - 1) = (q : Int) - 1 := IntWalk.i64_in _ (by omega)
        have HDT := Lib.hid hdt
        clear hx hdt
        go_wp2_with (first
          | (at_builtin; refine wpList_append_own _ rfl _ _ 22 rfl w.heap.size 26 i0 (.agg #[.int .i64 0, .int .i64 0, .int .i64 0, .string ⟨#[]⟩, .int .i64 0]) 5 48 Tryd.underlying22 hinf hza hzb hzc rfl (by decide) _ _ _ rfl (hown.alloc _) ⟨wr.heap.size, 0, none⟩ 1 1 y.cells5 rfl rfl ?c1 ?c2 ?c3 ?c4 ?c5 ?_)
          | fail)
        case c1 =>
          intro i u' hu
          match i, hu with
          | 0, hu => simp [Vl.cells5] at hu; subst hu; simp [Addr.add]
          | 1, hu => simp [Vl.cells5] at hu; subst hu; simp [Addr.add]
          | 2, hu => simp [Vl.cells5] at hu; subst hu; simp [Addr.add]
          | 3, hu => simp [Vl.cells5] at hu; subst hu; simp [Addr.add]
          | 4, hu => simp [Vl.cells5] at hu; subst hu; simp [Addr.add]
          | i + 5, hu => simp [Vl.cells5] at hu
        case c2 => intro u' hu; simp [Vl.cells5] at hu; rcases hu with rfl | rfl | rfl | rfl | rfl <;> rfl
        case c3 => unfold maxLen; omega
        case c4 => omega
        case c5 => simp; omega
        · intro v' w5 hown' hgrow _
          have hb5 : Below w.heap.size w w5 := (hbel.alloc hsz _).grown hgrow (by simp; omega) (fun g hg => (hown.lt g hg).1)
          have hown2 : w5.ownsRow w.heap.size 26 5 v' (u - q) ((os.drop q).reverse.flatMap Vl.cells5) := by rw [HDT.out, show u - q = u - (q + 1) + 1 by omega]; exact hown'
          clear hgrow hown hown'
          go_wp2_with fail
          go_roundg q
          case measure => omega
          case rel => exact ⟨q, by omega, Nat.le_refl _, by first | rfl | (go_num), hown2, hb5⟩
end Go.Proofs.YtfhmjkdpohepaaaDoor
