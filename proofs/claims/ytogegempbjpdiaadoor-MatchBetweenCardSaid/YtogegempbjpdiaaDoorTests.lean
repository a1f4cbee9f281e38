/- Lists of tests: slices.IndexFunc, ContainsFunc at them, soffit/unary.Sound. -/
import Derived.Test.YtogegempbjpdiaaDoorUnary
import Derived.Test.YtogegempbjpdiaaDoorRead
set_option linter.unusedSimpArgs false
set_option linter.unusedVariables false
namespace Go.Proofs.YtogegempbjpdiaaDoor
open Go.RowKit

def Tst.cells (t : Tst) : List Value := [.int .i64 t.k, .int .i64 t.lo.k, .int .i64 t.lo.n, .int .i64 t.lo.s, .string t.lo.t, .int .i64 t.lo.i, .int .i64 t.hi.k, .int .i64 t.hi.n, .int .i64 t.hi.s, .string t.hi.t, .int .i64 t.hi.i, .bool t.ol, .bool t.oh]

/-- what a predicate owes: at each of some things, in every world that has all that was there -/
def tstGives (g : Nat) (fv : Array Value) (p : Tst → Bool) (xs : List Tst) (w : World) : Prop :=
  ∀ x ∈ xs, ∀ W : World, Below w.heap.size w W → Calls Tryd.prog g (#[.agg #[.int .i64 x.k, .int .i64 x.lo.k, .int .i64 x.lo.n, .int .i64 x.lo.s, .string x.lo.t, .int .i64 x.lo.i, .int .i64 x.hi.k, .int .i64 x.hi.n, .int .i64 x.hi.s, .string x.hi.t, .int .i64 x.hi.i, .bool x.ol, .bool x.oh]] ++ fv) W fun e w' => e = .returned (.bool (p x)) ∧ Below W.heap.size W w'

set_option maxRecDepth 100000 in
set_option maxHeartbeats 800000 in
theorem tstIndex (g : Nat) (p : Tst → Bool) (xs : List Tst) (A : Option Addr) (c : Nat) (w : World) (hr : RdL w 13 A (xs.map Tst.cells)) (hn : xs.length ≤ 9223372036854775807)
    (hg : tstGives g #[] p xs w) (he : ∀ args W, (callFunc g args).run Tryd.prog W = .ok (.enter g args) W) :
    Calls Tryd.prog 32 #[.slice A xs.length c, .func (.func g) #[] #[]] w fun e w' => e = .returned (.int .i64 (idxF p xs 0)) ∧ Below w.heap.size w w' := by
  go_enter Tryd.func32, Tryd.ntmps32
  go_wp2_with fail
  go_loopg [8] xs.length (fun k i wr => ∃ j : Nat, j ≤ xs.length ∧ xs.length - j ≤ k ∧ Hid (idxF p xs 0 = idxF p (xs.drop j) j) ∧ i = .int .i64 j ∧ Below w.heap.size w wr)
  case atStart => exact ⟨0, by omega, by omega, rfl, rfl, Below.refl _ _⟩
  case round =>
    obtain ⟨j, hj, hjk, hi, rfl, hbel⟩ := hrel
    by_cases hlt : j < xs.length
    · obtain ⟨b, off, rfl, hx⟩ := (hr.below hbel).at_ hlt
      have hmem : xs[j]'hlt ∈ xs := List.getElem_mem hlt
      have hyes := fun h => idxF_drop_yes (p := p) hlt h
      have hno := fun h => idxF_drop_no (p := p) hlt h
      generalize hX : xs[j]'hlt = x at *
      have hgx := hg x hmem
      have g0 : wr.cell? ⟨b, off + j * 13, none⟩ = some (.int .i64 x.k) := hx.get 0 rfl
      have g1 : wr.cell? ⟨b, off + j * 13 + 1, none⟩ = some (.int .i64 x.lo.k) := hx.get 1 rfl
      have g2 : wr.cell? ⟨b, off + j * 13 + 2, none⟩ = some (.int .i64 x.lo.n) := hx.get 2 rfl
      have g3 : wr.cell? ⟨b, off + j * 13 + 3, none⟩ = some (.int .i64 x.lo.s) := hx.get 3 rfl
      have g4 : wr.cell? ⟨b, off + j * 13 + 4, none⟩ = some (.string x.lo.t) := hx.get 4 rfl
      have g5 : wr.cell? ⟨b, off + j * 13 + 5, none⟩ = some (.int .i64 x.lo.i) := hx.get 5 rfl
      have g6 : wr.cell? ⟨b, off + j * 13 + 6, none⟩ = some (.int .i64 x.hi.k) := hx.get 6 rfl
      have g7 : wr.cell? ⟨b, off + j * 13 + 7, none⟩ = some (.int .i64 x.hi.n) := hx.get 7 rfl
      have g8 : wr.cell? ⟨b, off + j * 13 + 8, none⟩ = some (.int .i64 x.hi.s) := hx.get 8 rfl
      have g9 : wr.cell? ⟨b, off + j * 13 + 9, none⟩ = some (.string x.hi.t) := hx.get 9 rfl
      have g10 : wr.cell? ⟨b, off + j * 13 + 10, none⟩ = some (.int .i64 x.hi.i) := hx.get 10 rfl
      have g11 : wr.cell? ⟨b, off + j * 13 + 11, none⟩ = some (.bool x.ol) := hx.get 11 rfl
      have g12 : wr.cell? ⟨b, off + j * 13 + 12, none⟩ = some (.bool x.oh) := hx.get 12 rfl
      have HG := Lib.hid hgx
      have HYES := Lib.hid hyes
      have HNO := Lib.hid hno
      have hsz := hbel.size
      clear hgx hyes hno hX hmem hx
      cases hp : p x
      · have HN := Lib.hid (HNO.out hp)
        go_wp2_with fail
        refine (HG.out _ (by repeat' (first | (with_reducible exact Below.refl _ _) | (with_reducible assumption) | (with_reducible refine Below.drew ?_) | (with_reducible refine below_drewN ?_ _) | (with_reducible refine below_iterAt ?_ ?_ _ _) | (with_reducible refine below_iter ?_ ?_ _ _) | (with_reducible refine Below.alloc ?_ ?_ _) | (with_reducible refine Below.setCell ?_ ?_ _) | (with_reducible refine Below.trans ?_ (Below.mono (by assumption) ?_)) | (simp only [sz_alloc, sz_set, sz_drew, sz_drewN, sz_iterAt, sz_iter] at *; omega) | omega | (simp; done) | (simp; omega) | (apply Below.size; assumption) | (simp only [sz_drew, sz_drewN]; apply Below.size; assumption) | (refine Nat.le_trans ?_ (Below.size (by assumption)))))).mono ?_
        rintro e w1 ⟨rfl, hb1⟩
        rw [hp]
        clear hp
        go_wp2_with fail
        go_roundg (gk - 1)
        case measure => omega
        case rel => exact ⟨j + 1, by omega, by omega, hi.out.trans HN.out, by go_num, (by repeat' (first | (with_reducible exact Below.refl _ _) | (with_reducible assumption) | (with_reducible refine Below.drew ?_) | (with_reducible refine below_drewN ?_ _) | (with_reducible refine below_iterAt ?_ ?_ _ _) | (with_reducible refine below_iter ?_ ?_ _ _) | (with_reducible refine Below.alloc ?_ ?_ _) | (with_reducible refine Below.setCell ?_ ?_ _) | (with_reducible refine Below.trans ?_ (Below.mono (by assumption) ?_)) | (simp only [sz_alloc, sz_set, sz_drew, sz_drewN, sz_iterAt, sz_iter] at *; omega) | omega | (simp; done) | (simp; omega) | (apply Below.size; assumption) | (simp only [sz_drew, sz_drewN]; apply Below.size; assumption) | (refine Nat.le_trans ?_ (Below.size (by assumption)))))⟩
      · have HY := Lib.hid (HYES.out hp)
        go_wp2_with fail
        refine (HG.out _ (by repeat' (first | (with_reducible exact Below.refl _ _) | (with_reducible assumption) | (with_reducible refine Below.drew ?_) | (with_reducible refine below_drewN ?_ _) | (with_reducible refine below_iterAt ?_ ?_ _ _) | (with_reducible refine below_iter ?_ ?_ _ _) | (with_reducible refine Below.alloc ?_ ?_ _) | (with_reducible refine Below.setCell ?_ ?_ _) | (with_reducible refine Below.trans ?_ (Below.mono (by assumption) ?_)) | (simp only [sz_alloc, sz_set, sz_drew, sz_drewN, sz_iterAt, sz_iter] at *; omega) | omega | (simp; done) | (simp; omega) | (apply Below.size; assumption) | (simp only [sz_drew, sz_drewN]; apply Below.size; assumption) | (refine Nat.le_trans ?_ (Below.size (by assumption)))))).mono ?_
        rintro e w1 ⟨rfl, hb1⟩
        rw [hp]
        clear hp
        go_wp2_with fail
        go_ret
        exact ⟨ret_int (by rw [hi.out, HY.out]), (by repeat' (first | (with_reducible exact Below.refl _ _) | (with_reducible assumption) | (with_reducible refine Below.drew ?_) | (with_reducible refine below_drewN ?_ _) | (with_reducible refine below_iterAt ?_ ?_ _ _) | (with_reducible refine below_iter ?_ ?_ _ _) | (with_reducible refine Below.alloc ?_ ?_ _) | (with_reducible refine Below.setCell ?_ ?_ _) | (with_reducible refine Below.trans ?_ (Below.mono (by assumption) ?_)) | (simp only [sz_alloc, sz_set, sz_drew, sz_drewN, sz_iterAt, sz_iter] at *; omega) | omega | (simp; done) | (simp; omega) | (apply Below.size; assumption) | (simp only [sz_drew, sz_drewN]; apply Below.size; assumption) | (refine Nat.le_trans ?_ (Below.size (by assumption)))))⟩
    · have HE := Lib.hid (idxF_drop_end (p := p) hlt)
      go_wp2_with fail
      go_ret
      exact ⟨ret_int (by rw [hi.out, HE.out]), hbel⟩

set_option maxHeartbeats 400000 in
theorem tstContains (g : Nat) (p : Tst → Bool) (xs : List Tst) (A : Option Addr) (c : Nat) (w : World) (hr : RdL w 13 A (xs.map Tst.cells)) (hn : xs.length ≤ 9223372036854775807)
    (hg : tstGives g #[] p xs w) (he : ∀ args W, (callFunc g args).run Tryd.prog W = .ok (.enter g args) W) :
    Calls Tryd.prog 23 #[.slice A xs.length c, .func (.func g) #[] #[]] w fun e w' => e = .returned (.bool (xs.any p)) ∧ Below w.heap.size w w' := by
  have HA := Lib.hid (idxF_any p xs 0)
  go_enter Tryd.func23, Tryd.ntmps23
  go_wp2_with fail
  refine (tstIndex g p xs A c _ hr hn hg he).mono ?_
  rintro e w1 ⟨rfl, hb1⟩
  generalize idxF p xs 0 = r at *
  go_wp2_with fail
  go_ret
  exact ⟨ret_bool HA.out, hb1⟩
end Go.Proofs.YtogegempbjpdiaaDoor
