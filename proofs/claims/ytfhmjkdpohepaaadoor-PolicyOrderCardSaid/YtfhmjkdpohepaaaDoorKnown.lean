/- slices.Index, Contains at numbers; soffit/policy.Known. -/
import Derived.Test.YtfhmjkdpohepaaaDoorRead
set_option linter.unusedSimpArgs false
set_option linter.unusedVariables false
namespace Go.Proofs.YtfhmjkdpohepaaaDoor
open Go.RowKit

def intC (i : Int) : List Value := [.int .i64 i]
set_option maxRecDepth 100000 in
set_option maxHeartbeats 800000 in
theorem intIndex (x : Int) (xs : List Int) (A : Option Addr) (c : Nat) (w : World) (hr : RdL w 1 A (xs.map intC)) (hn : xs.length ≤ 9223372036854775807) :
    Calls Tryd.prog 41 #[.slice A xs.length c, .int .i64 x] w fun e w' => e = .returned (.int .i64 (idxF (fun y => x == y) xs 0)) ∧ Below w.heap.size w w' := by
  go_enter Tryd.func41, Tryd.ntmps41
  go_wp2_with fail
  go_loopg [8] xs.length (fun k i wr => ∃ j : Nat, j ≤ xs.length ∧ xs.length - j ≤ k ∧ Hid (idxF (fun y => x == y) xs 0 = idxF (fun y => x == y) (xs.drop j) j) ∧ i = .int .i64 j ∧ Below w.heap.size w wr)
  case atStart => exact ⟨0, by omega, by omega, rfl, rfl, Below.refl _ _⟩
  case round =>
    obtain ⟨j, hj, hjk, hi, rfl, hbel⟩ := hrel
    by_cases hlt : j < xs.length
    · obtain ⟨b, off, rfl, hx⟩ := (hr.below hbel).at_ hlt
      have hyes := fun h => idxF_drop_yes (p := fun y => x == y) hlt h
      have hno := fun h => idxF_drop_no (p := fun y => x == y) hlt h
      generalize hX : xs[j]'hlt = y at *
      have g0 : wr.cell? ⟨b, off + j, none⟩ = some (.int .i64 y) := by have := hx.get 0 rfl; simpa using this
      have HYES := Lib.hid hyes
      have HNO := Lib.hid hno
      have hsz := hbel.size
      clear hyes hno hX hx
      cases hp : (x == y)
      · have HN := Lib.hid (HNO.out hp)
        go_wp2_with fail
        go_roundg (gk - 1)
        case measure => omega
        case rel => exact ⟨j + 1, by omega, by omega, hi.out.trans HN.out, by go_num, (by repeat' (first | (with_reducible exact Below.refl _ _) | (with_reducible assumption) | (with_reducible refine Below.drew ?_) | (with_reducible refine below_drewN ?_ _) | (with_reducible refine below_iterAt ?_ ?_ _ _) | (with_reducible refine below_iter ?_ ?_ _ _) | (with_reducible refine Below.alloc ?_ ?_ _) | (with_reducible refine Below.setCell ?_ ?_ _) | (with_reducible refine Below.trans ?_ (Below.mono (by assumption) ?_)) | (simp only [sz_alloc, sz_set, sz_drew, sz_drewN, sz_iterAt, sz_iter] at *; omega) | omega | (simp; done) | (simp; omega) | (apply Below.size; assumption) | (simp only [sz_drew, sz_drewN]; apply Below.size; assumption) | (refine Nat.le_trans ?_ (Below.size (by assumption)))))⟩
      · have HY := Lib.hid (HYES.out hp)
        go_wp2_with fail
        go_ret
        exact ⟨ret_int (by rw [hi.out, HY.out]), (by repeat' (first | (with_reducible exact Below.refl _ _) | (with_reducible assumption) | (with_reducible refine Below.drew ?_) | (with_reducible refine below_drewN ?_ _) | (with_reducible refine below_iterAt ?_ ?_ _ _) | (with_reducible refine below_iter ?_ ?_ _ _) | (with_reducible refine Below.alloc ?_ ?_ _) | (with_reducible refine Below.setCell ?_ ?_ _) | (with_reducible refine Below.trans ?_ (Below.mono (by assumption) ?_)) | (simp only [sz_alloc, sz_set, sz_drew, sz_drewN, sz_iterAt, sz_iter] at *; omega) | omega | (simp; done) | (simp; omega) | (apply Below.size; assumption) | (simp only [sz_drew, sz_drewN]; apply Below.size; assumption) | (refine Nat.le_trans ?_ (Below.size (by assumption)))))⟩
    · have HE := Lib.hid (idxF_drop_end (p := fun y => x == y) hlt)
      go_wp2_with fail
      go_ret
      exact ⟨ret_int (by rw [hi.out, HE.out]), hbel⟩

set_option maxHeartbeats 400000 in
theorem intContains (x : Int) (xs : List Int) (A : Option Addr) (c : Nat) (w : World) (hr : RdL w 1 A (xs.map intC)) (hn : xs.length ≤ 9223372036854775807) :
    Calls Tryd.prog 26 #[.slice A xs.length c, .int .i64 x] w fun e w' => e = .returned (.bool (xs.any (fun y => x == y))) ∧ Below w.heap.size w w' := by
  have HA := Lib.hid (idxF_any (fun y => x == y) xs 0)
  go_enter Tryd.func26, Tryd.ntmps26
  go_wp2_with fail
  refine (intIndex x xs A c _ hr hn).mono ?_
  rintro e w1 ⟨rfl, hb1⟩
  generalize idxF (fun y => x == y) xs 0 = r at *
  go_wp2_with fail
  go_ret
  exact ⟨ret_bool HA.out, hb1⟩

def pols : List Int := [85, 65, 80, 70, 43, 60, 62, 35]
def knownB (p : Int) : Bool := pols.any (fun y => p == y)
set_option maxHeartbeats 800000 in
theorem known_any (p : Int) (w : World) :
    Calls Tryd.prog 12 #[.int .i64 p] w fun e w' => e = .returned (.bool (knownB p)) ∧ Below w.heap.size w w' := by
  obtain ⟨B, hB⟩ : ∃ B, knownB p = B := ⟨_, rfl⟩
  rw [hB]
  go_enter Tryd.func12, Tryd.ntmps12
  go_wp2_with fail
  generalize hEW0 : w.alloc _ = W0
  have hbW0 : Below w.heap.size w W0 := (by rw [← hEW0]; exact (by repeat' (first | (with_reducible exact Below.refl _ _) | (with_reducible assumption) | (with_reducible refine Below.drew ?_) | (with_reducible refine below_drewN ?_ _) | (with_reducible refine below_iterAt ?_ ?_ _ _) | (with_reducible refine below_iter ?_ ?_ _ _) | (with_reducible refine Below.alloc ?_ ?_ _) | (with_reducible refine Below.setCell ?_ ?_ _) | (with_reducible refine Below.trans ?_ (Below.mono (by assumption) ?_)) | (simp only [sz_alloc, sz_set, sz_drew, sz_drewN, sz_iterAt, sz_iter] at *; omega) | omega | (simp; done) | (simp; omega) | (apply Below.size; assumption) | (simp only [sz_drew, sz_drewN]; apply Below.size; assumption) | (refine Nat.le_trans ?_ (Below.size (by assumption))))))
  have lW0_0 : w.heap.size < W0.heap.size := (by rw [← hEW0]; first | omega | (simp only [sz_alloc, sz_set, sz_drew, sz_drewN, sz_iterAt, sz_iter] at *; omega) | (simp; done) | (simp; omega) | (simp at *; omega))
  have qW0_0 : ∀ o, W0.cell? ⟨w.heap.size, o, none⟩ = _ := fun o => congrArg (fun W : World => W.cell? ⟨w.heap.size, o, none⟩) hEW0.symm
  have rW0_0 : ∀ o, W0.frozen? ⟨w.heap.size, o, none⟩ = _ := fun o => congrArg (fun W : World => W.frozen? ⟨w.heap.size, o, none⟩) hEW0.symm
  clear hEW0
  have rd : RdL W0 1 (some ⟨w.heap.size, 0, none⟩) (pols.map intC) := by
    intro j c hc
    refine ⟨_, _, rfl, ?_⟩
    have hj : j < 8 := by
      have := (List.getElem?_eq_some_iff.1 hc).1
      simpa [pols] using this
    intro i v hv
    rw [qW0_0]
    match j, hj with
    | 0, _ => simp [pols, intC] at hc; subst hc; match i, hv with | 0, hv => simp at hv; subst hv; simp [go_sem]
    | 1, _ => simp [pols, intC] at hc; subst hc; match i, hv with | 0, hv => simp at hv; subst hv; simp [go_sem]
    | 2, _ => simp [pols, intC] at hc; subst hc; match i, hv with | 0, hv => simp at hv; subst hv; simp [go_sem]
    | 3, _ => simp [pols, intC] at hc; subst hc; match i, hv with | 0, hv => simp at hv; subst hv; simp [go_sem]
    | 4, _ => simp [pols, intC] at hc; subst hc; match i, hv with | 0, hv => simp at hv; subst hv; simp [go_sem]
    | 5, _ => simp [pols, intC] at hc; subst hc; match i, hv with | 0, hv => simp at hv; subst hv; simp [go_sem]
    | 6, _ => simp [pols, intC] at hc; subst hc; match i, hv with | 0, hv => simp at hv; subst hv; simp [go_sem]
    | 7, _ => simp [pols, intC] at hc; subst hc; match i, hv with | 0, hv => simp at hv; subst hv; simp [go_sem]
  refine (intContains p pols _ 8 _ rd (by decide)).mono ?_
  rintro e w1 ⟨rfl, hb1⟩
  change knownB p = B at hB
  rw [show (pols.any (fun y => p == y)) = B from hB]
  clear hB rd
  go_wp2_with fail
  go_ret
  exact ⟨ret_bool rfl, (by repeat' (first | (with_reducible exact Below.refl _ _) | (with_reducible assumption) | (with_reducible refine Below.drew ?_) | (with_reducible refine below_drewN ?_ _) | (with_reducible refine below_iterAt ?_ ?_ _ _) | (with_reducible refine below_iter ?_ ?_ _ _) | (with_reducible refine Below.alloc ?_ ?_ _) | (with_reducible refine Below.setCell ?_ ?_ _) | (with_reducible refine Below.trans ?_ (Below.mono (by assumption) ?_)) | (simp only [sz_alloc, sz_set, sz_drew, sz_drewN, sz_iterAt, sz_iter] at *; omega) | omega | (simp; done) | (simp; omega) | (apply Below.size; assumption) | (simp only [sz_drew, sz_drewN]; apply Below.size; assumption) | (refine Nat.le_trans ?_ (Below.size (by assumption)))))⟩
end Go.Proofs.YtfhmjkdpohepaaaDoor
