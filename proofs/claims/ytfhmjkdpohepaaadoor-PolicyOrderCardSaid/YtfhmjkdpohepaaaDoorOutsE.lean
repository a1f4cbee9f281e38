/- (soffit/policy.outs).one and .end, walked. -/
import Derived.Test.YtfhmjkdpohepaaaDoorVSort
import Derived.Test.YtfhmjkdpohepaaaDoorOuts
set_option linter.unusedSimpArgs false
set_option linter.unusedVariables false
namespace Go.Proofs.YtfhmjkdpohepaaaDoor
open Go.RowKit

/-- what a predicate owes: at each of some things, in every world that has all that was there -/
def outGives (g : Nat) (fv : Array Value) (p : Vl → Bool) (xs : List Vl) (w : World) : Prop :=
  ∀ x ∈ xs, ∀ W : World, Below w.heap.size w W → Calls Tryd.prog g (#[.agg #[.int .i64 x.k, .int .i64 x.n, .int .i64 x.s, .string x.t, .int .i64 x.i]] ++ fv) W fun e w' => e = .returned (.bool (p x)) ∧ Below W.heap.size W w'

set_option maxRecDepth 100000 in
set_option maxHeartbeats 800000 in
theorem outIndexF (g : Nat) (q : Addr) (p : Vl → Bool) (xs : List Vl) (A : Option Addr) (c : Nat) (w : World) (hr : RdL w 5 A (xs.map Vl.cells5)) (hn : xs.length ≤ 9223372036854775807)
    (hg : outGives g #[.pointer (some q)] p xs w) (he : ∀ args W, (callFunc g args).run Tryd.prog W = .ok (.enter g args) W) :
    Calls Tryd.prog 48 #[.slice A xs.length c, .func (.func g) #[] #[.pointer (some q)]] w fun e w' => e = .returned (.int .i64 (idxF p xs 0)) ∧ Below w.heap.size w w' := by
  go_enter Tryd.func48, Tryd.ntmps48
  go_wp2_with fail
  go_loopg [8] xs.length (fun k i wr => ∃ j : Nat, j ≤ xs.length ∧ xs.length - j ≤ k ∧ Hid (idxF p xs 0 = idxF p (xs.drop j) j) ∧ i = .int .i64 j ∧ Below w.heap.size w wr)
  case atStart => exact ⟨0, by omega, by omega, rfl, rfl, Below.refl _ _⟩
  case round =>
    obtain ⟨j, hj, hjk, hi, rfl, hbel⟩ := hrel
    by_cases hlt : j < xs.length
    · obtain ⟨b, off, rfl, hx⟩ := (hr.below hbel).at_ hlt
      have hmem : xs[j]'hlt ∈ xs := List.getElem_mem hlt
      have hyes := fun h => idxF_drop_yes (p := p) hlt h
      have hno := fun h => idxF_drop_no (p := p) hlt h
      generalize hX : xs[j]'hlt = x at *
      have hgx := hg x hmem
      have g0 : wr.cell? ⟨b, off + j * 5, none⟩ = some (.int .i64 x.k) := hx.get 0 rfl
      have g1 : wr.cell? ⟨b, off + j * 5 + 1, none⟩ = some (.int .i64 x.n) := hx.get 1 rfl
      have g2 : wr.cell? ⟨b, off + j * 5 + 2, none⟩ = some (.int .i64 x.s) := hx.get 2 rfl
      have g3 : wr.cell? ⟨b, off + j * 5 + 3, none⟩ = some (.string x.t) := hx.get 3 rfl
      have g4 : wr.cell? ⟨b, off + j * 5 + 4, none⟩ = some (.int .i64 x.i) := hx.get 4 rfl
      have HG := Lib.hid hgx
      have HYES := Lib.hid hyes
      have HNO := Lib.hid hno
      have hsz := hbel.size
      clear hgx hyes hno hX hmem hx
      cases hp : p x
      · have HN := Lib.hid (HNO.out hp)
        go_wp2_with fail
        refine (HG.out _ (by repeat' (first | (with_reducible exact Below.refl _ _) | (with_reducible assumption) | (with_reducible refine Below.drew ?_) | (with_reducible refine below_drewN ?_ _) | (with_reducible refine below_iterAt ?_ ?_ _ _) | (with_reducible refine below_iter ?_ ?_ _ _) | (with_reducible refine Below.alloc ?_ ?_ _) | (with_reducible refine Below.setCell ?_ ?_ _) | (with_reducible refine Below.trans ?_ (Below.mono (by assumption) ?_)) | (simp only [sz_alloc, sz_set, sz_drew, sz_drewN, sz_iterAt, sz_iter] at *; omega) | omega | (simp; done) | (simp; omega) | (apply Below.size; assumption) | (simp only [sz_drew, sz_drewN]; apply Below.size; assumption) | (refine Nat.le_trans ?_ (Below.size (by assumption)))))).mono ?_
        rintro e w1 ⟨rfl, hb1⟩
        rw [hp]
        clear hp
        go_wp2_with fail
        go_roundg (gk - 1)
        case measure => omega
        case rel => exact ⟨j + 1, by omega, by omega, hi.out.trans HN.out, by go_num, (by repeat' (first | (with_reducible exact Below.refl _ _) | (with_reducible assumption) | (with_reducible refine Below.drew ?_) | (with_reducible refine below_drewN ?_ _) | (with_reducible refine below_iterAt ?_ ?_ _ _) | (with_reducible refine below_iter ?_ ?_ _ _) | (with_reducible refine Below.alloc ?_ ?_ _) | (with_reducible refine Below.setCell ?_ ?_ _) | (with_reducible refine Below.trans ?_ (Below.mono (by assumption) ?_)) | (simp only [sz_alloc, sz_set, sz_drew, sz_drewN, sz_iterAt, sz_iter] at *; omega) | omega | (simp; done) | (simp; omega) | (apply Below.size; assumption) | (simp only [sz_drew, sz_drewN]; apply Below.size; assumption) | (refine Nat.le_trans ?_ (Below.size (by assumption)))))⟩
      · have HY := Lib.hid (HYES.out hp)
        go_wp2_with fail
        refine (HG.out _ (by repeat' (first | (with_reducible exact Below.refl _ _) | (with_reducible assumption) | (with_reducible refine Below.drew ?_) | (with_reducible refine below_drewN ?_ _) | (with_reducible refine below_iterAt ?_ ?_ _ _) | (with_reducible refine below_iter ?_ ?_ _ _) | (with_reducible refine Below.alloc ?_ ?_ _) | (with_reducible refine Below.setCell ?_ ?_ _) | (with_reducible refine Below.trans ?_ (Below.mono (by assumption) ?_)) | (simp only [sz_alloc, sz_set, sz_drew, sz_drewN, sz_iterAt, sz_iter] at *; omega) | omega | (simp; done) | (simp; omega) | (apply Below.size; assumption) | (simp only [sz_drew, sz_drewN]; apply Below.size; assumption) | (refine Nat.le_trans ?_ (Below.size (by assumption)))))).mono ?_
        rintro e w1 ⟨rfl, hb1⟩
        rw [hp]
        clear hp
        go_wp2_with fail
        go_ret
        exact ⟨ret_int (by rw [hi.out, HY.out]), (by repeat' (first | (with_reducible exact Below.refl _ _) | (with_reducible assumption) | (with_reducible refine Below.drew ?_) | (with_reducible refine below_drewN ?_ _) | (with_reducible refine below_iterAt ?_ ?_ _ _) | (with_reducible refine below_iter ?_ ?_ _ _) | (with_reducible refine Below.alloc ?_ ?_ _) | (with_reducible refine Below.setCell ?_ ?_ _) | (with_reducible refine Below.trans ?_ (Below.mono (by assumption) ?_)) | (simp only [sz_alloc, sz_set, sz_drew, sz_drewN, sz_iterAt, sz_iter] at *; omega) | omega | (simp; done) | (simp; omega) | (apply Below.size; assumption) | (simp only [sz_drew, sz_drewN]; apply Below.size; assumption) | (refine Nat.le_trans ?_ (Below.size (by assumption)))))⟩
    · have HE := Lib.hid (idxF_drop_end (p := p) hlt)
      go_wp2_with fail
      go_ret
      exact ⟨ret_int (by rw [hi.out, HE.out]), hbel⟩

set_option maxHeartbeats 400000 in
theorem outContainsF (g : Nat) (q : Addr) (p : Vl → Bool) (xs : List Vl) (A : Option Addr) (c : Nat) (w : World) (hr : RdL w 5 A (xs.map Vl.cells5)) (hn : xs.length ≤ 9223372036854775807)
    (hg : outGives g #[.pointer (some q)] p xs w) (he : ∀ args W, (callFunc g args).run Tryd.prog W = .ok (.enter g args) W) :
    Calls Tryd.prog 32 #[.slice A xs.length c, .func (.func g) #[] #[.pointer (some q)]] w fun e w' => e = .returned (.bool (xs.any p)) ∧ Below w.heap.size w w' := by
  have HA := Lib.hid (idxF_any p xs 0)
  go_enter Tryd.func32, Tryd.ntmps32
  go_wp2_with fail
  refine (outIndexF g q p xs A c _ hr hn hg he).mono ?_
  rintro e w1 ⟨rfl, hb1⟩
  generalize idxF p xs 0 = r at *
  go_wp2_with fail
  go_ret
  exact ⟨ret_bool HA.out, hb1⟩


set_option maxHeartbeats 400000 in
theorem one1_any (v o : Vl) (q b off n c : Nat) (w : World) (hq : w.cell? ⟨q, 0, none⟩ = some (.slice (some ⟨b, off, none⟩) n c)) (hn : 0 < n) (hx : CellsAt w b off o.cells5) :
    Calls Tryd.prog 33 #[.agg #[.int .i64 v.k, .int .i64 v.n, .int .i64 v.s, .string v.t, .int .i64 v.i], .pointer (some ⟨q, 0, none⟩)] w fun e w' => e = .returned (.bool (!eqB v o)) ∧ Below w.heap.size w w' := by
  have y0 : w.cell? ⟨b, off, none⟩ = some (.int .i64 o.k) := by have := hx.get 0 rfl; simpa using this
  have y1 : w.cell? ⟨b, off + 1, none⟩ = some (.int .i64 o.n) := by have := hx.get 1 rfl; simpa using this
  have y2 : w.cell? ⟨b, off + 2, none⟩ = some (.int .i64 o.s) := by have := hx.get 2 rfl; simpa using this
  have y3 : w.cell? ⟨b, off + 3, none⟩ = some (.string o.t) := by have := hx.get 3 rfl; simpa using this
  have y4 : w.cell? ⟨b, off + 4, none⟩ = some (.int .i64 o.i) := by have := hx.get 4 rfl; simpa using this
  have i0 : (0 : Int) < (n : Int) := by omega
  have hl : q < w.heap.size := cell_lt hq
  have hlb : b < w.heap.size := cell_lt y0
  have hne : ¬ q = w.heap.size := by omega
  have hnb : ¬ b = w.heap.size := by omega
  obtain ⟨B, hB⟩ : ∃ B, eqB v o = B := ⟨_, rfl⟩
  have hnq : ∀ W : World, _ := fun W => (neV_run v o W).trans (by rw [hB])
  rw [hB]
  clear hx hB
  go_enter Tryd.func33, Tryd.ntmps33
  go_wp2_with fail
  all_goals try go_quiet (fail)
  all_goals go_wp2_with fail
  all_goals go_ret
  all_goals exact ⟨ret_bool rfl, (by repeat' (first | (with_reducible exact Below.refl _ _) | (with_reducible assumption) | (with_reducible refine Below.drew ?_) | (with_reducible refine below_drewN ?_ _) | (with_reducible refine below_iterAt ?_ ?_ _ _) | (with_reducible refine below_iter ?_ ?_ _ _) | (with_reducible refine Below.alloc ?_ ?_ _) | (with_reducible refine Below.setCell ?_ ?_ _) | (with_reducible refine Below.trans ?_ (Below.mono (by assumption) ?_)) | (simp only [sz_alloc, sz_set, sz_drew, sz_drewN, sz_iterAt, sz_iter] at *; omega) | omega | (simp; done) | (simp; omega) | (apply Below.size; assumption) | (simp only [sz_drew, sz_drewN]; apply Below.size; assumption) | (refine Nat.le_trans ?_ (Below.size (by assumption)))))⟩

/-- of another kind than the first, or none -/
def badK (o v : Vl) : Bool := (v.k != o.k) || (v.k == 0)
set_option maxHeartbeats 400000 in
theorem end1_any (v o : Vl) (q b off n c : Nat) (w : World) (hq : w.cell? ⟨q, 0, none⟩ = some (.slice (some ⟨b, off, none⟩) n c)) (hn : 0 < n) (hx : CellsAt w b off o.cells5) :
    Calls Tryd.prog 36 #[.agg #[.int .i64 v.k, .int .i64 v.n, .int .i64 v.s, .string v.t, .int .i64 v.i], .pointer (some ⟨q, 0, none⟩)] w fun e w' => e = .returned (.bool (badK o v)) ∧ Below w.heap.size w w' := by
  have y0 : w.cell? ⟨b, off, none⟩ = some (.int .i64 o.k) := by have := hx.get 0 rfl; simpa using this
  have y1 : w.cell? ⟨b, off + 1, none⟩ = some (.int .i64 o.n) := by have := hx.get 1 rfl; simpa using this
  have y2 : w.cell? ⟨b, off + 2, none⟩ = some (.int .i64 o.s) := by have := hx.get 2 rfl; simpa using this
  have y3 : w.cell? ⟨b, off + 3, none⟩ = some (.string o.t) := by have := hx.get 3 rfl; simpa using this
  have y4 : w.cell? ⟨b, off + 4, none⟩ = some (.int .i64 o.i) := by have := hx.get 4 rfl; simpa using this
  have i0 : (0 : Int) < (n : Int) := by omega
  have hl : q < w.heap.size := cell_lt hq
  have hlb : b < w.heap.size := cell_lt y0
  have hne : ¬ q = w.heap.size := by omega
  have hnb : ¬ b = w.heap.size := by omega
  have four : ((v.k != o.k) = true ∧ badK o v = true) ∨ ((v.k != o.k) = false ∧ (v.k == 0) = true ∧ badK o v = true) ∨ ((v.k != o.k) = false ∧ (v.k == 0) = false ∧ badK o v = false) := by
    unfold badK
    cases (v.k != o.k) <;> cases (v.k == 0) <;> simp
  clear hx
  rcases four with ⟨e1, e3⟩ | ⟨e1, e2, e3⟩ | ⟨e1, e2, e3⟩
  all_goals
    rw [e3]
    clear e3
    go_enter Tryd.func36, Tryd.ntmps36
    go_wp2_with fail
    try go_quiet (fail)
    go_wp2_with fail
    go_ret
    exact ⟨ret_bool rfl, (by repeat' (first | (with_reducible exact Below.refl _ _) | (with_reducible assumption) | (with_reducible refine Below.drew ?_) | (with_reducible refine below_drewN ?_ _) | (with_reducible refine below_iterAt ?_ ?_ _ _) | (with_reducible refine below_iter ?_ ?_ _ _) | (with_reducible refine Below.alloc ?_ ?_ _) | (with_reducible refine Below.setCell ?_ ?_ _) | (with_reducible refine Below.trans ?_ (Below.mono (by assumption) ?_)) | (simp only [sz_alloc, sz_set, sz_drew, sz_drewN, sz_iterAt, sz_iter] at *; omega) | omega | (simp; done) | (simp; omega) | (apply Below.size; assumption) | (simp only [sz_drew, sz_drewN]; apply Below.size; assumption) | (refine Nat.le_trans ?_ (Below.size (by assumption)))))⟩
end Go.Proofs.YtfhmjkdpohepaaaDoor
