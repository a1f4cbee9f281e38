/- GraphBehind, walked: it gives true. -/
import Derived.Test.YthmmfghcfgbblaaGr13
set_option linter.unusedSimpArgs false
set_option linter.unusedVariables false
namespace Go.Proofs.Ythmmfghcfgbblaa
open Go.RowKit Go.Sort Go.Lib

set_option maxRecDepth 100000 in
set_option maxHeartbeats 3200000 in
theorem lawB_any (A D : Option Addr) (ns : List Tx) (xs : List TxAt) (c cd : Nat) (w : World) (hA : RdL w 1 A (ns.map tC)) (hD : RdL w 1 D (xs.map TxAt.cells)) (hx : ∀ x ∈ xs, x.ok w) (hn : ns.length ≤ 9223372036854775807) (hm : xs.length ≤ 9223372036854775807) (hs : ∀ s ∈ ns, s.length ≤ 9223372036854775807) :
    Calls Try.prog 5 #[.slice A ns.length c, .slice D xs.length cd] w fun e w' => e = .returned (.bool true) ∧ Below w.heap.size w w' := by
  have hsm := small_any A D ns.length xs c cd w hD (fun x h => (hx x h).len)
  have HSM := Lib.hid hsm
  have HA := Lib.hid hA
  have HD := Lib.hid hD
  have HX := Lib.hid hx
  have HS := Lib.hid hs
  have hmm := @run_makeMap Try.prog
  clear hsm hA hD hx hs
  go_enter Try.func5, Try.ntmps5
  go_wp2_with fail
  refine HSM.out.mono ?_
  rintro e w1 ⟨rfl, rfl⟩
  clear HSM
  cases hB : smallB ns.length xs
  · go_wp2_with fail
    refine (awake_any w1).mono ?_
    rintro e w2 ⟨rfl, hb2⟩
    go_wp2_with fail
    go_ret
    exact ⟨ret_bool rfl, (by repeat' (first | (with_reducible exact Below.refl _ _) | (with_reducible assumption) | (with_reducible refine Below.drew ?_) | (with_reducible refine below_drewN ?_ _) | (with_reducible refine below_iterAt ?_ ?_ _ _) | (with_reducible refine below_iter ?_ ?_ _ _) | (with_reducible refine Below.alloc ?_ ?_ _) | (with_reducible refine Below.setCell ?_ ?_ _) | (with_reducible refine Below.trans ?_ (Below.mono (by assumption) ?_)) | (simp only [sz_alloc, sz_set, sz_drew, sz_drewN, sz_iterAt, sz_iter] at *; omega) | omega | (simp; done) | (simp; omega) | (apply Below.size; assumption) | (simp only [sz_drew, sz_drewN]; apply Below.size; assumption) | (refine Nat.le_trans ?_ (Below.size (by assumption)))))⟩
  · have hxl : ∀ x ∈ xs, x.l.length ≤ 4096 := fun x h => by have := (small_yes hB).2.2 x h; omega
    have HXL := Lib.hid hxl
    clear hB hxl
    go_wp2_with fail
    refine (order_any A D ns xs c cd w1 HA.out HD.out HX.out hn hm HS.out HXL.out).mono ?_
    rintro e w2 ⟨v, n, r, l, rfl, ho, ⟨B, cb, rfl, hr⟩, hl, hb2⟩
    have HO := Lib.hid ho
    have HR := Lib.hid hr
    clear ho hr
    go_wp2_with fail
    refine (awake_any w2).mono ?_
    rintro e w3 ⟨rfl, hb3⟩
    have hbw3 : Below w1.heap.size w1 w3 := hb2.trans (hb3.mono hb2.size)
    have HR3 := Lib.hid (HR.out.below hb3)
    clear HR
    by_cases hz : r = 0
    · subst hz
      obtain ⟨g1, g2, g4, g5, g6, g7⟩ := order_gives HO.out
      rw [List.length_map] at g2
      have G5 := Lib.hid g5
      have G6 := Lib.hid g6
      have G7 := Lib.hid g7
      have G1 := Lib.hid g1
      have G2 := Lib.hid g2
      obtain ⟨N, hN⟩ : ∃ N, ns.length = N := ⟨_, rfl⟩
      have HN := Lib.hid hN
      obtain ⟨u, hu⟩ : ∃ u, l.length = u := ⟨_, rfl⟩
      have HU := Lib.hid hu
      rw [hN] at g4 ⊢
      rw [hu] at hl ⊢
      clear g1 g2 g5 g6 g7 hN hu HO
      have HM0 := Lib.hid (MapT.made w3)
      have hb0 : Below w3.heap.size w3 (w3.alloc (.map #[] 0)) := (by repeat' (first | (with_reducible exact Below.refl _ _) | (with_reducible assumption) | (with_reducible refine Below.drew ?_) | (with_reducible refine below_drewN ?_ _) | (with_reducible refine below_iterAt ?_ ?_ _ _) | (with_reducible refine below_iter ?_ ?_ _ _) | (with_reducible refine Below.alloc ?_ ?_ _) | (with_reducible refine Below.setCell ?_ ?_ _) | (with_reducible refine Below.trans ?_ (Below.mono (by assumption) ?_)) | (simp only [sz_alloc, sz_set, sz_drew, sz_drewN, sz_iterAt, sz_iter] at *; omega) | omega | (simp; done) | (simp; omega) | (apply Below.size; assumption) | (simp only [sz_drew, sz_drewN]; apply Below.size; assumption) | (refine Nat.le_trans ?_ (Below.size (by assumption)))))
      have hz0 : w3.heap.size + 1 ≤ (w3.alloc (.map #[] 0)).heap.size := by simp
      have HB0 := Lib.hid hb0
      have HZ0 := Lib.hid hz0
      clear hb0 hz0
      go_wp2_with fail
      clear hmm
      go_loopg [9] u (fun k iv wr => ∃ i : Nat, iv = .int .i64 i ∧ i ≤ u ∧ u - i ≤ k ∧ Hid (MapT wr w3.heap.size ((l.take i).map (nmOf ns))) ∧ Below w3.heap.size w3 wr ∧ w3.heap.size + 1 ≤ wr.heap.size)
      case atStart => exact ⟨0, rfl, by omega, by omega, HM0, HB0.out, HZ0.out⟩
      case round =>
        clear HM0 HB0 HZ0
        obtain ⟨i, rfl, hi, hik, HM, hbel, hwz⟩ := hrel
        by_cases hlt : i < u
        · have hil : i < l.length := by rw [HU.out]; exact hlt
          obtain ⟨bR, oR, hbe, y0⟩ := rdI_at (HR3.out.below hbel) hil
          subst hbe
          have hkN := G5.out i hil
          have hno := G6.out i hil
          have hnd := G7.out i hil
          have htk : l.take (i + 1) = l.take i ++ [l[i]'hil] := List.take_succ_eq_append_getElem hil
          generalize l[i]'hil = p at *
          obtain ⟨bA, oA, hbe, y1⟩ := rdT_at (HA.out.below (hbw3.trans (hbel.mono hbw3.size))) hkN
          subst hbe
          rw [nm_at hkN] at y1
          have hpx : p < xs.length := by have := G2.out; omega
          obtain ⟨bD, oD, hbe, y2⟩ := rdA_at (HD.out.below (hbw3.trans (hbel.mono hbw3.size))) hpx
          subst hbe
          have hxo := (HX.out _ (List.getElem_mem hpx)).below (hbw3.trans (hbel.mono hbw3.size))
          have hnd2 := hnd (xs[p]'hpx).l (by rw [List.getElem?_map, List.getElem?_eq_getElem hpx]; rfl)
          generalize xs[p]'hpx = x at *
          obtain ⟨xl, xA, xc⟩ := x
          dsimp only at y2 hnd2
          have hsl : (nmOf ns p).length ≤ 9223372036854775807 := by rw [← nm_at hkN]; exact HS.out _ (List.getElem_mem hkN)
          have hlook := HM.out.look (nmOf ns p) hsl
          have hcf : ((l.take i).map (nmOf ns)).contains (nmOf ns p) = false := by
            cases h : ((l.take i).map (nmOf ns)).contains (nmOf ns p)
            · rfl
            · exact absurd (List.contains_iff_mem.1 h) hno
          rw [hcf] at hlook
          obtain ⟨w4, hup, hm4, hg4⟩ := HM.out.store (nmOf ns p) hsl (by have := List.length_take_le i l; simp only [List.length_map]; omega) hno
          have HM4 : Hid (MapT w4 w3.heap.size ((l.take (i + 1)).map (nmOf ns))) := Lib.hid (by rw [htk, List.map_append]; exact hm4)
          have hb4 : Below w3.heap.size w3 w4 := hbel.grown hg4 (by omega) (fun j hj => by injection hj with hj; omega)
          have hz4 : w3.heap.size + 1 ≤ w4.heap.size := by have := hg4.size; omega
          have HXO := Lib.hid hxo
          have HND := Lib.hid hnd2
          have HB4 := Lib.hid hb4
          have HZ4 := Lib.hid hz4
          have hxn : xl.length ≤ 9223372036854775807 := hxo.len
          have i1 : (i : Int) < (u : Int) := by omega
          have i2 : (0 : Int) ≤ (i : Int) := by omega
          have i3 : ¬ (p : Int) < 0 := by omega
          have i4 : (0 : Int) ≤ (p : Int) := by omega
          have hpN : p < N := by rw [← HN.out]; exact hkN
          have i5 : (p : Int) < (N : Int) := by omega
          have i6 : ¬ (N : Int) ≤ (p : Int) := by omega
          have i7 : (p : Int) < (xs.length : Int) := by omega
          generalize nmOf ns p = q at *
          clear hkN hno hnd htk hsl hcf hm4 hg4 hb4 hz4 hxo hnd2 hil
          go_wp2_with fail
          go_loopg [10] xl.length (fun k kv wq => ∃ j : Nat, kv = .int .i64 j ∧ j ≤ xl.length ∧ xl.length - j ≤ k ∧ wr = wq)
          case atStart => exact ⟨0, rfl, by omega, by omega, rfl⟩
          case round =>
            obtain ⟨j, rfl, hj, hjk, rfl⟩ := hrel
            by_cases hlj : j < xl.length
            · obtain ⟨b', off', hbe, y3⟩ := rdT_at HXO.out.rd hlj
              subst hbe
              have hsn := HXO.out.str _ (List.getElem_mem hlj)
              have hin := HND.out _ (List.getElem_mem hlj)
              generalize xl[j]'hlj = s at *
              have hlk2 := HM.out.look s hsn
              rw [List.contains_iff_mem.2 hin] at hlk2
              have i8 : (0 : Int) ≤ (j : Int) := by omega
              have i9 : (j : Int) < (xl.length : Int) := by omega
              clear hsn hin
              go_wp2_with fail
              go_roundg (xl.length - (j + 1))
              case measure => omega
              case rel => exact ⟨j + 1, by go_num, by omega, by omega, rfl⟩
            · have i9 : ¬ (j : Int) < (xl.length : Int) := by omega
              go_wp2_with fail
              go_roundg (u - (i + 1))
              case measure => omega
              case rel => exact ⟨i + 1, by go_num, by omega, by omega, HM4, HB4.out, HZ4.out⟩
        · have i1 : ¬ (i : Int) < (u : Int) := by omega
          have huN : u = N := by rw [← HU.out, ← HN.out]; exact G1.out
          have HUN := Lib.hid huN
          have hbw : Below w1.heap.size w1 wr := hbw3.trans (hbel.mono hbw3.size)
          subst huN
          go_wp2_with fail
          go_ret
          exact ⟨ret_bool (by simp), hbw⟩
    · obtain rfl := order_wrong HO.out hz
      have hzb : (r != 0) = true := by rw [bne_iff_ne]; exact hz
      clear hz HO hmm
      go_wp2_with fail
      refine (awake_any w3).mono ?_
      rintro e w4 ⟨rfl, hb4⟩
      have hbw4 := hbw3.trans (hb4.mono hbw3.size)
      go_wp2_with fail
      go_ret
      exact ⟨ret_bool rfl, hbw4⟩
end Go.Proofs.Ythmmfghcfgbblaa
