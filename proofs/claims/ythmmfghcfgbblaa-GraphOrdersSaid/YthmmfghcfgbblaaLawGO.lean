/- GraphOrders and GraphAbove, walked: they give true. -/
import Derived.Test.YthmmfghcfgbblaaGr12
set_option linter.unusedSimpArgs false
set_option linter.unusedVariables false
namespace Go.Proofs.Ythmmfghcfgbblaa
open Go.RowKit Go.Sort Go.Lib

set_option maxRecDepth 100000 in
set_option maxHeartbeats 3200000 in
theorem lawO_any (A D : Option Addr) (ns : List Tx) (xs : List TxAt) (c cd : Nat) (w : World) (hA : RdL w 1 A (ns.map tC)) (hD : RdL w 1 D (xs.map TxAt.cells)) (hx : ∀ x ∈ xs, x.ok w) (hn : ns.length ≤ 9223372036854775807) (hm : xs.length ≤ 9223372036854775807) (hs : ∀ s ∈ ns, s.length ≤ 9223372036854775807) :
    Calls Try.prog 3 #[.slice A ns.length c, .slice D xs.length cd] w fun e w' => e = .returned (.bool true) ∧ Below w.heap.size w w' := by
  have hsm := small_any A D ns.length xs c cd w hD (fun x h => (hx x h).len)
  have HSM := Lib.hid hsm
  have HA := Lib.hid hA
  have HD := Lib.hid hD
  have HX := Lib.hid hx
  have HS := Lib.hid hs
  clear hsm hA hD hx hs
  go_enter Try.func3, Try.ntmps3
  go_wp2_with fail
  refine HSM.out.mono ?_
  rintro e w1 ⟨rfl, rfl⟩
  clear HSM
  cases hB : smallB ns.length xs
  · go_wp2_with fail
    refine (awake_any w1).mono ?_
    rintro e w2 ⟨rfl, hb2⟩
    go_wp2_with fail
    go_ret
    exact ⟨ret_bool rfl, (by repeat' (first | (with_reducible exact Below.refl _ _) | (with_reducible assumption) | (with_reducible refine Below.drew ?_) | (with_reducible refine below_drewN ?_ _) | (with_reducible refine below_iterAt ?_ ?_ _ _) | (with_reducible refine below_iter ?_ ?_ _ _) | (with_reducible refine Below.alloc ?_ ?_ _) | (with_reducible refine Below.setCell ?_ ?_ _) | (with_reducible refine Below.trans ?_ (Below.mono (by assumption) ?_)) | (simp only [sz_alloc, sz_set, sz_drew, sz_drewN, sz_iterAt, sz_iter] at *; omega) | omega | (simp; done) | (simp; omega) | (apply Below.size; assumption) | (simp only [sz_drew, sz_drewN]; apply Below.size; assumption) | (refine Nat.le_trans ?_ (Below.size (by assumption)))))⟩
  · have hxl : ∀ x ∈ xs, x.l.length ≤ 4096 := fun x h => by have := (small_yes hB).2.2 x h; omega
    have HXL := Lib.hid hxl
    clear hB hxl
    go_wp2_with fail
    refine (order_any A D ns xs c cd w1 HA.out HD.out HX.out hn hm HS.out HXL.out).mono ?_
    rintro e w2 ⟨v, n, r, l, rfl, ho, ⟨B, cb, rfl, hr⟩, hl, hb2⟩
    have HO := Lib.hid ho
    have HR := Lib.hid hr
    clear ho hr
    go_wp2_with fail
    refine (rOrder_any A D ns xs c cd w2 (HA.out.below hb2) (HD.out.below hb2) (fun x h => (HX.out x h).below hb2) hn hm HXL.out).mono ?_
    rintro e w3 ⟨v, n', r', l', rfl, ho, ⟨B', cb', rfl, hr'⟩, _, hb3⟩
    obtain ⟨rfl, rfl, rfl⟩ := HO.out.unique ho
    have HR' := Lib.hid hr'
    have hbw3 : Below w1.heap.size w1 w3 := (by repeat' (first | (with_reducible exact Below.refl _ _) | (with_reducible assumption) | (with_reducible refine Below.drew ?_) | (with_reducible refine below_drewN ?_ _) | (with_reducible refine below_iterAt ?_ ?_ _ _) | (with_reducible refine below_iter ?_ ?_ _ _) | (with_reducible refine Below.alloc ?_ ?_ _) | (with_reducible refine Below.setCell ?_ ?_ _) | (with_reducible refine Below.trans ?_ (Below.mono (by assumption) ?_)) | (simp only [sz_alloc, sz_set, sz_drew, sz_drewN, sz_iterAt, sz_iter] at *; omega) | omega | (simp; done) | (simp; omega) | (apply Below.size; assumption) | (simp only [sz_drew, sz_drewN]; apply Below.size; assumption) | (refine Nat.le_trans ?_ (Below.size (by assumption)))))
    clear ho hr' HO
    go_wp2_with fail
    refine (awake_any w3).mono ?_
    rintro e w4 ⟨rfl, hb4⟩
    have hbw4 : Below w1.heap.size w1 w4 := hbw3.trans (hb4.mono hbw3.size)
    have hb24 : Below w2.heap.size w2 w4 := hb3.trans (hb4.mono hb3.size)
    go_wp2_with fail
    refine (ints_any B B' l cb cb' w4 (HR.out.below hb24) (HR'.out.below hb4) (by omega)).mono ?_
    rintro e w5 ⟨rfl, hb5⟩
    have hbw5 := hbw4.trans (hb5.mono hbw4.size)
    go_wp2_with fail
    go_ret
    exact ⟨ret_bool rfl, hbw5⟩

set_option maxRecDepth 100000 in
set_option maxHeartbeats 3200000 in
theorem lawA_any (A D : Option Addr) (ns : List Tx) (xs : List TxAt) (c cd : Nat) (k : Int) (w : World) (hA : RdL w 1 A (ns.map tC)) (hD : RdL w 1 D (xs.map TxAt.cells)) (hx : ∀ x ∈ xs, x.ok w) (hn : ns.length ≤ 9223372036854775807) (hm : xs.length ≤ 9223372036854775807) (hs : ∀ s ∈ ns, s.length ≤ 9223372036854775807) :
    Calls Try.prog 4 #[.slice A ns.length c, .slice D xs.length cd, .int .i64 k] w fun e w' => e = .returned (.bool true) ∧ Below w.heap.size w w' := by
  have hsm := small_any A D ns.length xs c cd w hD (fun x h => (hx x h).len)
  have HSM := Lib.hid hsm
  have HA := Lib.hid hA
  have HD := Lib.hid hD
  have HX := Lib.hid hx
  have HS := Lib.hid hs
  clear hsm hA hD hx hs
  go_enter Try.func4, Try.ntmps4
  go_wp2_with fail
  refine HSM.out.mono ?_
  rintro e w1 ⟨rfl, rfl⟩
  clear HSM
  cases hB : smallB ns.length xs
  · go_wp2_with fail
    refine (awake_any w1).mono ?_
    rintro e w2 ⟨rfl, hb2⟩
    go_wp2_with fail
    go_ret
    exact ⟨ret_bool rfl, (by repeat' (first | (with_reducible exact Below.refl _ _) | (with_reducible assumption) | (with_reducible refine Below.drew ?_) | (with_reducible refine below_drewN ?_ _) | (with_reducible refine below_iterAt ?_ ?_ _ _) | (with_reducible refine below_iter ?_ ?_ _ _) | (with_reducible refine Below.alloc ?_ ?_ _) | (with_reducible refine Below.setCell ?_ ?_ _) | (with_reducible refine Below.trans ?_ (Below.mono (by assumption) ?_)) | (simp only [sz_alloc, sz_set, sz_drew, sz_drewN, sz_iterAt, sz_iter] at *; omega) | omega | (simp; done) | (simp; omega) | (apply Below.size; assumption) | (simp only [sz_drew, sz_drewN]; apply Below.size; assumption) | (refine Nat.le_trans ?_ (Below.size (by assumption)))))⟩
  · have hxl : ∀ x ∈ xs, x.l.length ≤ 4096 := fun x h => by have := (small_yes hB).2.2 x h; omega
    have HXL := Lib.hid hxl
    clear hB hxl
    go_wp2_with fail
    refine (above_any A D ns xs c cd k w1 HA.out HD.out HX.out hn hm HS.out HXL.out).mono ?_
    rintro e w2 ⟨v, r, l, rfl, ho, ⟨B, cb, rfl, hr⟩, hl, hb2⟩
    have HO := Lib.hid ho
    have HR := Lib.hid hr
    clear ho hr
    go_wp2_with fail
    refine (rAbove_any A D ns xs c cd k w2 (HA.out.below hb2) (HD.out.below hb2) (fun x h => (HX.out x h).below hb2) hn hm).mono ?_
    rintro e w3 ⟨v, r', l', rfl, ho, ⟨B', cb', rfl, hr'⟩, _, hb3⟩
    obtain ⟨rfl, rfl⟩ := HO.out.unique ho
    have HR' := Lib.hid hr'
    have hbw3 : Below w1.heap.size w1 w3 := (by repeat' (first | (with_reducible exact Below.refl _ _) | (with_reducible assumption) | (with_reducible refine Below.drew ?_) | (with_reducible refine below_drewN ?_ _) | (with_reducible refine below_iterAt ?_ ?_ _ _) | (with_reducible refine below_iter ?_ ?_ _ _) | (with_reducible refine Below.alloc ?_ ?_ _) | (with_reducible refine Below.setCell ?_ ?_ _) | (with_reducible refine Below.trans ?_ (Below.mono (by assumption) ?_)) | (simp only [sz_alloc, sz_set, sz_drew, sz_drewN, sz_iterAt, sz_iter] at *; omega) | omega | (simp; done) | (simp; omega) | (apply Below.size; assumption) | (simp only [sz_drew, sz_drewN]; apply Below.size; assumption) | (refine Nat.le_trans ?_ (Below.size (by assumption)))))
    clear ho hr' HO
    go_wp2_with fail
    refine (awake_any w3).mono ?_
    rintro e w4 ⟨rfl, hb4⟩
    have hbw4 : Below w1.heap.size w1 w4 := hbw3.trans (hb4.mono hbw3.size)
    have hb24 : Below w2.heap.size w2 w4 := hb3.trans (hb4.mono hb3.size)
    go_wp2_with fail
    refine (ints_any B B' l cb cb' w4 (HR.out.below hb24) (HR'.out.below hb4) (by omega)).mono ?_
    rintro e w5 ⟨rfl, hb5⟩
    have hbw5 := hbw4.trans (hb5.mono hbw4.size)
    go_wp2_with fail
    go_ret
    exact ⟨ret_bool rfl, hbw5⟩
end Go.Proofs.Ythmmfghcfgbblaa
