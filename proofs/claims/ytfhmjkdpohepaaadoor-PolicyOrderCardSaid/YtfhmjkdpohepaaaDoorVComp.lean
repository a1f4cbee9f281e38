/- slices.Compact at values, as value.Sort calls it, walked. -/
import Derived.Test.YtfhmjkdpohepaaaDoorVSortF
set_option linter.unusedSimpArgs false
set_option linter.unusedVariables false
namespace Go.Proofs.YtfhmjkdpohepaaaDoor
open Go.RowKit Go.Sort

/-- a row on the way: what is written, what is still to be read -/
structure CInv (d rows : List Vl) (kk r : Nat) : Prop where
  len : rows.length = d.length
  kl : kk = (cpT d r).length
  lt : kk < r
  low : ∀ t, t < kk → rows[t]? = (cpT d r)[t]?
  high : ∀ t, r - 1 ≤ t → rows[t]? = d[t]?
theorem CInv.start {d : List Vl} {i : Nat} (h : i < d.length) (h0 : 0 < i) (hd : ∀ t, 0 < t → t < i → ∀ (h : t < d.length), d[t - 1]? ≠ some (d[t]'h)) (he : d[i - 1]? = some (d[i]'h)) : CInv d d i (i + 1) := by
  have e1 : cpT d (i + 1) = d.take i := by rw [cpT_old (List.getElem?_eq_getElem h) ⟨h0, he⟩, cpT_all d i (by omega) hd]
  refine ⟨rfl, by rw [e1, List.length_take]; omega, by omega, fun t ht => by rw [e1, List.getElem?_take, if_pos ht], fun t _ => rfl⟩
theorem CInv.skip {d rows : List Vl} {kk r : Nat} (h : CInv d rows kk r) (hr : r < d.length) (h0 : 0 < r) (he : d[r - 1]? = some (d[r]'hr)) : CInv d rows kk (r + 1) := by
  have e1 : cpT d (r + 1) = cpT d r := cpT_old (List.getElem?_eq_getElem hr) ⟨h0, he⟩
  exact ⟨h.len, by rw [e1]; exact h.kl, by have := h.lt; omega, fun t ht => by rw [e1]; exact h.low t ht, fun t ht => h.high t (by omega)⟩
theorem CInv.keep {d rows : List Vl} {kk r : Nat} (h : CInv d rows kk r) (hr : r < d.length) (h0 : 0 < r) (he : d[r - 1]? ≠ some (d[r]'hr)) : CInv d (rows.set kk (d[r]'hr)) (kk + 1) (r + 1) := by
  have e1 : cpT d (r + 1) = cpT d r ++ [d[r]'hr] := cpT_new (List.getElem?_eq_getElem hr) (fun hn => he hn.2)
  have hk := h.kl
  have hl := h.len
  have hlt := h.lt
  refine ⟨by rw [List.length_set]; exact hl, by rw [e1, List.length_append, ← hk]; rfl, by omega, fun t ht => ?_, fun t ht => ?_⟩
  · rw [e1]
    by_cases e : kk = t
    · subst e
      rw [List.getElem?_set_self (by omega), List.getElem?_append_right (by omega), ← hk, Nat.sub_self]; rfl
    · rw [List.getElem?_set_ne e, h.low t (by omega), List.getElem?_append_left (by omega)]
  · rw [List.getElem?_set_ne (by omega)]; exact h.high t (by omega)

set_option maxRecDepth 100000 in
set_option maxHeartbeats 3200000 in
theorem vcompact_any (d : List Vl) (g cap base : Nat) (w : World) (h0 : 0 < d.length) (hbase : base ≤ g) (hbw : base ≤ w.heap.size) (hg : g < w.heap.size) (hr : RdL w 5 (some ⟨g, 0, none⟩) (d.map Vl.cells5)) (hfr : ∀ t, t < d.length * 5 → w.frozen? ⟨g, t, none⟩ = false)
    (hcap : d.length ≤ cap) (hn : d.length ≤ 1000000000) (hcm : cap ≤ 9223372036854775807) :
    Calls Tryd.prog 57 #[.slice (some ⟨g, 0, none⟩) d.length cap] w fun e w' =>
      e = .returned (.slice (some ⟨g, 0, none⟩) (cpT d d.length).length cap) ∧ RdL w' 5 (some ⟨g, 0, none⟩) ((cpT d d.length).map Vl.cells5) ∧ Below base w w' := by
  have HR := Lib.hid hr
  have HF := Lib.hid hfr
  clear hr hfr
  by_cases h1 : d.length < 2
  · have hone : cpT d d.length = d := by rw [cpT_all d d.length (Nat.le_refl _) (fun t a b => by omega), List.take_length]
    rw [hone]
    have i1 : (d.length : Int) < 2 := by omega
    go_enter Tryd.func57, Tryd.ntmps57
    go_wp2_with fail
    go_ret
    exact ⟨rfl, HR.out, Below.refl _ _⟩
  · have i1 : ¬ ((d.length : Int) < 2) := by omega
    go_enter Tryd.func57, Tryd.ntmps57
    go_wp2_with fail
    clear h1 i1
    go_loopg [3] d.length (fun k kv wr => ∃ p : Nat, p + 1 ≤ d.length ∧ d.length - p ≤ k ∧ kv = .int .i64 ((p : Int) + 1) ∧ Hid (∀ t, 0 < t → t < p + 1 → ∀ (h : t < d.length), d[t - 1]? ≠ some (d[t]'h)) ∧ Below w.heap.size w wr)
    case atStart => exact ⟨0, by omega, by omega, rfl, fun t a b => by omega, Below.refl _ _⟩
    case round =>
      obtain ⟨p, hp, hpk, rfl, hdd, hbel⟩ := hrel
      have hsz := hbel.size
      by_cases hlt : p + 1 < d.length
      · obtain ⟨b1, o1, e1, hx⟩ := (HR.out.below hbel).at_ hlt
        cases e1
        obtain ⟨b1, o1, e1, hy⟩ := (HR.out.below hbel).at_ (show p < d.length by omega)
        cases e1
        have hpe : d[p]? = some (d[p]'(by omega)) := List.getElem?_eq_getElem (by omega)
        obtain ⟨x, hxe⟩ : ∃ x, d[p + 1]'hlt = x := ⟨_, rfl⟩
        obtain ⟨y, hye⟩ : ∃ y, d[p]'(by omega) = y := ⟨_, rfl⟩
        rw [hxe] at hx
        rw [hye] at hy hpe
        have x0 : wr.cell? ⟨g, (p + 1) * 5, none⟩ = some (.int .i64 x.k) := by have := hx.get 0 rfl; simpa using this
        have x1 : wr.cell? ⟨g, (p + 1) * 5 + 1, none⟩ = some (.int .i64 x.n) := by have := hx.get 1 rfl; simpa using this
        have x2 : wr.cell? ⟨g, (p + 1) * 5 + 2, none⟩ = some (.int .i64 x.s) := by have := hx.get 2 rfl; simpa using this
        have x3 : wr.cell? ⟨g, (p + 1) * 5 + 3, none⟩ = some (.string x.t) := by have := hx.get 3 rfl; simpa using this
        have x4 : wr.cell? ⟨g, (p + 1) * 5 + 4, none⟩ = some (.int .i64 x.i) := by have := hx.get 4 rfl; simpa using this
        have y0 : wr.cell? ⟨g, p * 5, none⟩ = some (.int .i64 y.k) := by have := hy.get 0 rfl; simpa using this
        have y1 : wr.cell? ⟨g, p * 5 + 1, none⟩ = some (.int .i64 y.n) := by have := hy.get 1 rfl; simpa using this
        have y2 : wr.cell? ⟨g, p * 5 + 2, none⟩ = some (.int .i64 y.s) := by have := hy.get 2 rfl; simpa using this
        have y3 : wr.cell? ⟨g, p * 5 + 3, none⟩ = some (.string y.t) := by have := hy.get 3 rfl; simpa using this
        have y4 : wr.cell? ⟨g, p * 5 + 4, none⟩ = some (.int .i64 y.i) := by have := hy.get 4 rfl; simpa using this
        have j1 : (p : Int) + 1 < (d.length : Int) := by omega
        have j2 : (0 : Int) ≤ (p : Int) + 1 := by omega
        have j3 : (p : Int) + 1 - 1 = (p : Int) := by omega
        have j4 : IntKind.i64.wrap ((p : Int) + 1 - 1) = (p : Int) := by rw [j3]; exact IntWalk.i64_in _ (by omega)
        have j5 : (p : Int) < (d.length : Int) := by omega
        have j6 : (0 : Int) ≤ (p : Int) := by omega
        have hq := fun W : World => eqV_run x y W
        have HX := Lib.hid hxe
        have HPE := Lib.hid hpe
        clear hx hy hxe hye hpe
        cases hp2 : eqB x y
        · rw [hp2] at hq
          have hne : y ≠ x := by intro h; rw [h, (eqB_iff x x).2 rfl] at hp2; cases hp2
          have HNE := Lib.hid hne
          clear hp2 hne
          go_wp2_with fail
          go_quiet (fail)
          go_wp2_with fail
          go_roundg (d.length - (p + 1))
          case measure => omega
          case rel =>
            refine ⟨p + 1, by omega, by omega, by go_num, fun t a b h => ?_, (by repeat' (first | (with_reducible exact Below.refl _ _) | (with_reducible assumption) | (with_reducible refine Below.drew ?_) | (with_reducible refine below_drewN ?_ _) | (with_reducible refine below_iterAt ?_ ?_ _ _) | (with_reducible refine below_iter ?_ ?_ _ _) | (with_reducible refine Below.alloc ?_ ?_ _) | (with_reducible refine Below.setCell ?_ ?_ _) | (with_reducible refine Below.trans ?_ (Below.mono (by assumption) ?_)) | (simp only [sz_alloc, sz_set, sz_drew, sz_drewN, sz_iterAt, sz_iter] at *; omega) | omega | (simp; done) | (simp; omega) | (apply Below.size; assumption) | (simp only [sz_drew, sz_drewN]; apply Below.size; assumption) | (refine Nat.le_trans ?_ (Below.size (by assumption)))))⟩
            by_cases ht : t < p + 1
            · exact hdd.out t a ht h
            · obtain rfl : t = p + 1 := by omega
              rw [Nat.add_sub_cancel, HPE.out, HX.out]
              intro h2; exact HNE.out (Option.some.inj h2)
        · rw [hp2] at hq
          have hye2 : y = x := ((eqB_iff x y).1 hp2).symm
          have hst : CInv d d (p + 1) (p + 1 + 1) := CInv.start hlt (by omega) hdd.out (by rw [Nat.add_sub_cancel, HPE.out, HX.out, hye2])
          have HST := Lib.hid hst
          clear hp2 hst hye2
          go_wp2_with fail
          go_quiet (fail)
          go_wp2_with fail
          have hgw : g < wr.heap.size := by omega
          have hbz : Below base w (wr.drewN nq) := below_drewN (hbel.mono hbw) nq
          have hrz : RdL (wr.drewN nq) 5 (some ⟨g, 0, none⟩) (d.map Vl.cells5) := HR.out.below (below_drewN hbel nq)
          have hfz : ∀ t, t < d.length * 5 → (wr.drewN nq).frozen? ⟨g, t, none⟩ = false := fun t ht => ((below_drewN hbel nq).frozen (p := ⟨g, t, none⟩) hg).trans (HF.out t ht)
          have hsz2 : (wr.drewN nq).heap.size = wr.heap.size := rfl
          have HRZ := Lib.hid hrz
          have HFZ := Lib.hid hfz
          have HBZ := Lib.hid hbz
          have hbs : base ≤ wr.heap.size := by omega
          clear hrz hfz hbz hq x0 x1 x2 x3 x4 y0 y1 y2 y3 y4
          generalize hWZ : wr.drewN nq = wz at *
          generalize hn2 : d.length - (p + 1) = n2
          have HN2 := Lib.hid hn2
          clear hn2
          go_loopg [3, 5] n2 (fun k kv k2v wr => ∃ (m kk : Nat) (rows : List Vl), k2v = .int .i64 ((m : Int) + 1) ∧ m + 1 ≤ n2 ∧ n2 - m ≤ k ∧ kv = .int .i64 kk ∧ Hid (CInv d rows kk (p + 1 + (m + 1))) ∧ Hid (RdL wr 5 (some ⟨g, 0, none⟩) (rows.map Vl.cells5)) ∧ Hid (∀ t, t < d.length * 5 → wr.frozen? ⟨g, t, none⟩ = false) ∧ base ≤ wr.heap.size ∧ Below base w wr)
          case atStart => exact ⟨0, p + 1, d, by go_num, by have := HN2.out; omega, by omega, by go_num, HST.out, HRZ.out, HFZ.out, by omega, HBZ.out⟩
          case round =>
            obtain ⟨m, kk, rows, rfl, hm, hmk, rfl, hC, hR, hFR, hbr, hbq⟩ := hrel
            have hlt2 := hC.out.lt
            have hlen := hC.out.len
            have hn2e := HN2.out
            have hkn : kk < rows.length := by omega
            obtain ⟨z, hz⟩ : ∃ z, rows[kk]'hkn = z := ⟨_, rfl⟩
            obtain ⟨b3, o3, e3, hzc⟩ := hR.out.at_ hkn
            cases e3
            rw [hz] at hzc
            have z0 : wr.cell? ⟨g, kk * 5, none⟩ = some (.int .i64 z.k) := by have := hzc.get 0 rfl; simpa using this
            have z1 : wr.cell? ⟨g, kk * 5 + 1, none⟩ = some (.int .i64 z.n) := by have := hzc.get 1 rfl; simpa using this
            have z2 : wr.cell? ⟨g, kk * 5 + 2, none⟩ = some (.int .i64 z.s) := by have := hzc.get 2 rfl; simpa using this
            have z3 : wr.cell? ⟨g, kk * 5 + 3, none⟩ = some (.string z.t) := by have := hzc.get 3 rfl; simpa using this
            have z4 : wr.cell? ⟨g, kk * 5 + 4, none⟩ = some (.int .i64 z.i) := by have := hzc.get 4 rfl; simpa using this
            have f0 : wr.frozen? ⟨g, kk * 5, none⟩ = false := hFR.out _ (by omega)
            have f1 : wr.frozen? ⟨g, kk * 5 + 1, none⟩ = false := hFR.out _ (by omega)
            have f2 : wr.frozen? ⟨g, kk * 5 + 2, none⟩ = false := hFR.out _ (by omega)
            have f3 : wr.frozen? ⟨g, kk * 5 + 3, none⟩ = false := hFR.out _ (by omega)
            have f4 : wr.frozen? ⟨g, kk * 5 + 4, none⟩ = false := hFR.out _ (by omega)
            have k1 : (kk : Int) < (d.length : Int) := by omega
            have k2 : (0 : Int) ≤ (kk : Int) := by omega
            have hgr : g < wr.heap.size := cell_lt z0
            clear hzc hz
            by_cases hml : m + 1 < n2
            · have hrl : p + 1 + (m + 1) < d.length := by omega
              have hrr : p + 1 + (m + 1) < rows.length := by omega
              have hrr2 : p + 1 + m < rows.length := by omega
              have hx1 := hC.out.high (p + 1 + (m + 1)) (by omega)
              have hy1 := hC.out.high (p + 1 + m) (by omega)
              rw [List.getElem?_eq_getElem hrr, List.getElem?_eq_getElem hrl] at hx1
              have hx2 := Option.some.inj hx1
              obtain ⟨x, hxe⟩ : ∃ x, d[p + 1 + (m + 1)]'hrl = x := ⟨_, rfl⟩
              obtain ⟨y, hye⟩ : ∃ y, rows[p + 1 + m]'hrr2 = y := ⟨_, rfl⟩
              rw [hxe] at hx2
              have hdy : d[p + 1 + (m + 1) - 1]? = some y := by rw [show p + 1 + (m + 1) - 1 = p + 1 + m by omega, ← hy1, List.getElem?_eq_getElem hrr2, hye]
              obtain ⟨b3, o3, e3, hxc⟩ := hR.out.at_ hrr
              cases e3
              obtain ⟨b3, o3, e3, hyc⟩ := hR.out.at_ hrr2
              cases e3
              rw [hx2] at hxc
              rw [hye] at hyc
              have ex : 0 + (p + 1 + (m + 1)) * 5 = (p + 1) * 5 + (m + 1) * 5 := by omega
              have ey : 0 + (p + 1 + m) * 5 = (p + 1) * 5 + m * 5 := by omega
              rw [ex] at hxc
              rw [ey] at hyc
              have x0 : wr.cell? ⟨g, (p + 1) * 5 + (m + 1) * 5, none⟩ = some (.int .i64 x.k) := hxc.get 0 rfl
              have x1 : wr.cell? ⟨g, (p + 1) * 5 + (m + 1) * 5 + 1, none⟩ = some (.int .i64 x.n) := hxc.get 1 rfl
              have x2 : wr.cell? ⟨g, (p + 1) * 5 + (m + 1) * 5 + 2, none⟩ = some (.int .i64 x.s) := hxc.get 2 rfl
              have x3 : wr.cell? ⟨g, (p + 1) * 5 + (m + 1) * 5 + 3, none⟩ = some (.string x.t) := hxc.get 3 rfl
              have x4 : wr.cell? ⟨g, (p + 1) * 5 + (m + 1) * 5 + 4, none⟩ = some (.int .i64 x.i) := hxc.get 4 rfl
              have y0 : wr.cell? ⟨g, (p + 1) * 5 + m * 5, none⟩ = some (.int .i64 y.k) := hyc.get 0 rfl
              have y1 : wr.cell? ⟨g, (p + 1) * 5 + m * 5 + 1, none⟩ = some (.int .i64 y.n) := hyc.get 1 rfl
              have y2 : wr.cell? ⟨g, (p + 1) * 5 + m * 5 + 2, none⟩ = some (.int .i64 y.s) := hyc.get 2 rfl
              have y3 : wr.cell? ⟨g, (p + 1) * 5 + m * 5 + 3, none⟩ = some (.string y.t) := hyc.get 3 rfl
              have y4 : wr.cell? ⟨g, (p + 1) * 5 + m * 5 + 4, none⟩ = some (.int .i64 y.i) := hyc.get 4 rfl
              have l1 : (m : Int) + 1 < (n2 : Int) := by omega
              have l2 : (0 : Int) ≤ (m : Int) + 1 := by omega
              have l3 : (m : Int) + 1 - 1 = (m : Int) := by omega
              have l4 : IntKind.i64.wrap ((m : Int) + 1 - 1) = (m : Int) := by rw [l3]; exact IntWalk.i64_in _ (by omega)
              have l5 : (m : Int) < (n2 : Int) := by omega
              have l6 : (0 : Int) ≤ (m : Int) := by omega
              have HXE := Lib.hid hxe
              have HDY := Lib.hid hdy
              have HLEN := Lib.hid hlen
              have HKN := Lib.hid hkn
              clear hx1 hy1 hx2 hxe hye hdy hxc hyc ex ey hlen hkn hn2e hWZ
              cases hp3 : eqB x y
              · have hnq : ∀ W : World, _ := fun W => (neV_run x y W).trans (by rw [hp3])
                have hne : y ≠ x := by intro h; rw [h, (eqB_iff x x).2 rfl] at hp3; cases hp3
                have hk2 : CInv d (rows.set kk x) (kk + 1) (p + 1 + (m + 1) + 1) := by
                  have := hC.out.keep hrl (by omega) (by rw [HDY.out, HXE.out]; intro h; exact hne (Option.some.inj h))
                  rw [HXE.out] at this
                  exact this
                have HK2 := Lib.hid hk2
                clear hp3 hne hk2
                go_wp2_with fail
                go_quiet (fail)
                go_wp2_with fail
                go_roundg (n2 - (m + 1))
                case measure => omega
                case rel =>
                  refine ⟨m + 1, kk + 1, rows.set kk x, by go_num, by omega, by omega, by go_num, HK2.out, ?_, ?_, ?_, ?_⟩
                  · exact rd_set5 (hR.out.below (below_drewN (Below.refl _ _) _)) kk HKN.out x
                  · intro t ht
                    exact (World.frozen?_setCells g x.cells5 (kk * 5) (wr.drewN _) _).trans (hFR.out t ht)
                  · exact Nat.le_trans hbr (Nat.le_of_eq (size_setCells g x.cells5 (kk * 5) (wr.drewN _)).symm)
                  · exact below_cells hbase x.cells5 (kk * 5) (below_drewN hbq _)
              · have hnq : ∀ W : World, _ := fun W => (neV_run x y W).trans (by rw [hp3])
                have hye2 : y = x := ((eqB_iff x y).1 hp3).symm
                have hk2 : CInv d rows kk (p + 1 + (m + 1) + 1) := hC.out.skip hrl (by omega) (by rw [HDY.out, HXE.out, hye2])
                have HK2 := Lib.hid hk2
                clear hp3 hye2 hk2
                go_wp2_with fail
                go_quiet (fail)
                go_wp2_with fail
                go_roundg (n2 - (m + 1))
                case measure => omega
                case rel => exact ⟨m + 1, kk, rows, by go_num, by omega, by omega, rfl, HK2.out, hR.out.below (below_drewN (Below.refl _ _) _), hFR.out, hbr, below_drewN hbq _⟩
            · have hre : p + 1 + (m + 1) = d.length := by omega
              have hK := hC.out
              rw [hre] at hK
              have hkl := hK.kl
              have hlow := hK.low
              have hkd : kk < d.length := by omega
              have l1 : ¬ ((m : Int) + 1 < (n2 : Int)) := by omega
              have l2 : (0 : Int) ≤ (m : Int) + 1 := by omega
              have k3 : (kk : Int) ≤ (d.length : Int) := by omega
              have k4 : (kk : Int) ≤ (cap : Int) := by omega
              have k5 : (d.length : Int) ≤ (cap : Int) := by omega
              obtain ⟨vs, hcl⟩ := run_clear5 wr g (kk * 5) (d.length - kk) (cap - kk) (by omega) (fun t ht => by
                obtain ⟨b3, o3, e3, hxc⟩ := hR.out.at_ (show (kk * 5 + t) / 5 < rows.length by omega)
                cases e3
                have hm5 : (kk * 5 + t) % 5 < ((rows[(kk * 5 + t) / 5]'(by omega)).cells5).length := Nat.mod_lt _ (by decide)
                have h3 := hxc ((kk * 5 + t) % 5) _ (List.getElem?_eq_getElem hm5)
                rw [show 0 + (kk * 5 + t) / 5 * 5 + (kk * 5 + t) % 5 = kk * 5 + t by omega] at h3
                rw [h3]; rfl) (fun t ht => hFR.out _ (by omega)) (ty := 0)
              have hcl2 : ∀ ty, (Builtin.clear_ #[22] ty #[.slice (some ⟨g, kk * 5, none⟩) (d.length - kk) (cap - kk)]).run Tryd.prog wr = .ok (.tuple #[]) (wr.setCells g (kk * 5) vs) := fun ty => hcl
              have HKL := Lib.hid hkl
              have HLOW := Lib.hid hlow
              clear hre hK hkl hlow hn2e hlen hkn hWZ hcl z0 z1 z2 z3 z4 f0 f1 f2 f3 f4
              go_wp2_with fail
              go_ret
              refine ⟨by rw [← HKL.out]; rfl, ?_, below_cells hbase vs (kk * 5) hbq⟩
              exact rd_front (n := 0) hR.out vs kk (Nat.le_of_eq HKL.out.symm) (fun t ht => HLOW.out t (by rw [HKL.out]; exact ht))
      · have hpe : p + 1 = d.length := by omega
        have hall : cpT d d.length = d := by rw [cpT_all d d.length (Nat.le_refl _) (fun t a b h => hdd.out t a (by omega) h), List.take_length]
        have HALL := Lib.hid hall
        clear hall
        have j1 : ¬ ((p : Int) + 1 < (d.length : Int)) := by omega
        go_wp2_with fail
        go_ret
        refine ⟨by rw [HALL.out]; rfl, by rw [HALL.out]; exact HR.out.below hbel, hbel.mono hbw⟩
end Go.Proofs.YtfhmjkdpohepaaaDoor
