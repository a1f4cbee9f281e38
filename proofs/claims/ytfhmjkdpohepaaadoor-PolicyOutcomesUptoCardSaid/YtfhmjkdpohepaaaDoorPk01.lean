import Derived.Test.YtfhmjkdpohepaaaDoorProg
import Derived.WalkKit
import Derived.WalkSpells
import Derived.WalkLawsBesides
import Derived.Lib.Hide
import Derived.Handy
import Derived.Outline
import Derived.Deep.LoopGhost
import Derived.Deep.QuietTactic
import Derived.BigQuiet
import Derived.Deep.RegionWith
import Derived.Deep.RegionHeld3
import Derived.StillTailTactics
import Derived.Deep.DeepCutAuto
import Derived.Deep.CutBlock
import Derived.Deep.DeepFit
import Derived.Deep.DeepMust
import Derived.Deep.Draws
import Derived.BigGuardPart
import Derived.Lib.OthersKept
import Derived.Shelf.Unicode.DecodeSlow
/- Common imports and small lemmas for the walks. -/
set_option linter.unusedSimpArgs false
set_option linter.unusedVariables false
namespace Go.Proofs.YtfhmjkdpohepaaaDoor
open Go.RowKit

theorem bcell {W w1 : World} (hb : Below W.heap.size W w1) : (∀ b o, b < W.heap.size → w1.cell? ⟨b, o, none⟩ = W.cell? ⟨b, o, none⟩) ∧ (∀ b o, b < W.heap.size → w1.frozen? ⟨b, o, none⟩ = W.frozen? ⟨b, o, none⟩) :=
  ⟨fun b o h => hb.cell (p := ⟨b, o, none⟩) h, fun b o h => hb.frozen (p := ⟨b, o, none⟩) h⟩
theorem below_drewN {B : Nat} {a w : World} (h : Below B a w) (n : Nat) : Below B a (w.drewN n) := ⟨h.os, h.tape, h.output, h.size, h.block⟩
theorem below_iterAt {B : Nat} {a w : World} (h : Below B a w) {k : Nat} (hk : B ≤ k) (s : ByteArray) (p : Nat) : Below B a (w.iterAt k s p) :=
  ⟨h.os, h.tape, h.output, by have := h.size; simp [World.iterAt]; omega, fun j hj => (Lib.iterAt_other w k j s p (by omega)).trans (h.block j hj)⟩
theorem below_iter {B : Nat} {a w : World} (h : Below B a w) (hB : B ≤ w.heap.size) (s : ByteArray) (p : Nat) : Below B a (w.iter s p) := h.alloc hB _
theorem sz_iter (w : World) (s : ByteArray) (p : Nat) : (w.iter s p).heap.size = w.heap.size + 1 := by simp [World.iter]
theorem sz_iterAt (w : World) (k : Nat) (s : ByteArray) (p : Nat) : (w.iterAt k s p).heap.size = w.heap.size := by simp [World.iterAt]
theorem sz_alloc (w : World) (o : Obj) : (w.alloc o).heap.size = w.heap.size + 1 := by simp
theorem sz_set (w : World) (a : Addr) (v : Value) : (w.setCell a v).heap.size = w.heap.size := by simp [World.setCell]
theorem sz_drew (w : World) : w.drew.heap.size = w.heap.size := rfl
theorem sz_drewN (w : World) (n : Nat) : (w.drewN n).heap.size = w.heap.size := rfl
/-- what every function of the program finds in the world: the tables of the library, the program's null -/
structure Env (w : World) : Prop where
  tabs : Lib.Utf8Tabs 0 1 w
theorem Env.below {w w' : World} (h : Env w) (hb : Below w.heap.size w w') : Env w' where
  tabs := Utf8Tabs_below h.tabs hb
/-- what stays as it was, by the facts at hand -/
theorem bel {B : Nat} {a b : World} (h : Below B a b := by repeat' first | with_reducible (first | exact Below.refl _ _ | assumption | refine Below.drew ?_ | refine below_drewN ?_ _ | refine Below.alloc ?_ ?_ _ | refine Below.setCell ?_ ?_ _ | refine Below.trans ?_ (Below.mono (by assumption) ?_)) | omega | (simp; done) | (simp; omega) | refine Nat.le_trans ?_ (Below.size (by assumption))) : Below B a b := h
theorem bell {B : Nat} {a b : World} (h : Below B a b := by repeat' (first | (with_reducible exact Below.refl _ _) | (with_reducible assumption) | (with_reducible refine Below.drew ?_) | (with_reducible refine below_drewN ?_ _) | (with_reducible refine below_iterAt ?_ ?_ _ _) | (with_reducible refine below_iter ?_ ?_ _ _) | (with_reducible refine Below.alloc ?_ ?_ _) | (with_reducible refine Below.setCell ?_ ?_ _) | (with_reducible refine Below.trans ?_ (Below.mono (by assumption) ?_)) | (simp only [sz_alloc, sz_set, sz_drew, sz_drewN, sz_iterAt, sz_iter] at *; omega) | omega | (simp; done) | (simp; omega) | (apply Below.size; assumption) | (simp only [sz_drew, sz_drewN]; apply Below.size; assumption) | (refine Nat.le_trans ?_ (Below.size (by assumption))))) : Below B a b := h
theorem aft {W w1 : World} (hb : Below W.heap.size W w1) (b : Nat) (h : b < W.heap.size := by first | omega | (simp only [sz_alloc, sz_set, sz_drew, sz_drewN, sz_iterAt, sz_iter] at *; omega) | (simp; done) | (simp; omega) | (simp at *; omega)) :
    (∀ o, w1.cell? ⟨b, o, none⟩ = W.cell? ⟨b, o, none⟩) ∧ b < w1.heap.size ∧ (∀ o, w1.frozen? ⟨b, o, none⟩ = W.frozen? ⟨b, o, none⟩) :=
  ⟨fun o => hb.cell (p := ⟨b, o, none⟩) h, Nat.lt_of_lt_of_le h hb.size, fun o => hb.frozen (p := ⟨b, o, none⟩) h⟩
theorem lsz {b : Nat} {W W' : World} (hE : W' = W) (h : b < W'.heap.size := by first | omega | (simp only [sz_alloc, sz_set, sz_drew, sz_drewN, sz_iterAt, sz_iter] at *; omega) | (simp; done) | (simp; omega) | (simp at *; omega)) : b < W.heap.size := hE ▸ h
theorem cel {w : World} {a : Addr} {v : Value} (h : w.cell? a = some v := by first | (simp [go_sem]; done) | (simp [go_sem, *]; done)) : w.cell? a = some v := h
theorem i64_and1 (n : Int) : bits .and .i64 n 1 = n % 2 := by
  have h1 : (BitVec.ofInt 64 1).toNat = 2 ^ 1 - 1 := by decide
  have key : (BitVec.ofInt 64 n &&& BitVec.ofInt 64 1).toNat = (n % ((2 ^ 64 : Nat) : Int)).toNat % 2 ^ 1 := by
    rw [BitVec.toNat_and, BitVec.toNat_ofInt, h1, Nat.and_two_pow_sub_one_eq_mod]
  show IntKind.i64.wrap ((BitVec.ofInt 64 n &&& BitVec.ofInt 64 1).toNat : Nat) = n % 2
  rw [key, IntKind.wrap_i64]
  omega
theorem and_keep {p q : Prop} (h : p) (f : p → q) : p ∧ q := ⟨h, f h⟩
theorem keep_cell {W w' : World} {b o : Nat} {v : Value} (hk : Below W.heap.size W w') (hl : b < W.heap.size) (hc : W.cell? ⟨b, o, none⟩ = some v) : w'.cell? ⟨b, o, none⟩ = some v :=
  (hk.cell (p := ⟨b, o, none⟩) hl).trans hc
theorem cell_of_block {w : World} {g : Nat} {cs : Array Value} {t : TypeId} {f : Nat × Nat} (h : w.heap[g]? = some (.cells cs t f)) (o : Nat) : w.cell? ⟨g, o, none⟩ = cs[o]? := by
  simp [World.cell?, h]
theorem ret_int {k : IntKind} {a b : Int} (h : a = b) : Ending.returned (.int k a) = .returned (.int k b) := by rw [h]
theorem ret_bool {a b : Bool} (h : a = b) : Ending.returned (.bool a) = .returned (.bool b) := by rw [h]
end Go.Proofs.YtfhmjkdpohepaaaDoor

/- Slices of structs that read as lists: small words for the walks. -/
set_option linter.unusedSimpArgs false
set_option linter.unusedVariables false
namespace Go.Proofs.YtfhmjkdpohepaaaDoor
open Go.RowKit

/-- the cells from a place on -/
def CellsAt (w : World) (b o : Nat) (cs : List Value) : Prop := ∀ i v, cs[i]? = some v → w.cell? ⟨b, o + i, none⟩ = some v
/-- a slice's elements: each a row of sz cells -/
def RdL (w : World) (sz : Nat) (A : Option Addr) (css : List (List Value)) : Prop :=
  ∀ j c, css[j]? = some c → ∃ b off, A = some ⟨b, off, none⟩ ∧ CellsAt w b (off + j * sz) c

theorem cell_lt {w : World} {b o : Nat} {v : Value} (h : w.cell? ⟨b, o, none⟩ = some v) : b < w.heap.size := by
  rcases Nat.lt_or_ge b w.heap.size with h' | h'
  · exact h'
  · simp [World.cell?, Array.getElem?_eq_none h'] at h
theorem cell_below {w w' : World} (hb : Below w.heap.size w w') {b o : Nat} {v : Value} (h : w.cell? ⟨b, o, none⟩ = some v) : w'.cell? ⟨b, o, none⟩ = some v :=
  (hb.cell (p := ⟨b, o, none⟩) (cell_lt h)).trans h
theorem CellsAt.below {w w' : World} {b o : Nat} {cs : List Value} (h : CellsAt w b o cs) (hb : Below w.heap.size w w') : CellsAt w' b o cs :=
  fun i v hv => cell_below hb (h i v hv)
theorem RdL.below {w w' : World} {sz : Nat} {A : Option Addr} {css : List (List Value)} (h : RdL w sz A css) (hb : Below w.heap.size w w') : RdL w' sz A css :=
  fun j c hc => let ⟨b, off, e, hh⟩ := h j c hc; ⟨b, off, e, hh.below hb⟩
theorem RdL.nil_ (w : World) (sz : Nat) (A : Option Addr) : RdL w sz A [] := fun j c hc => by simp at hc
theorem CellsAt.get {w : World} {b o : Nat} {cs : List Value} (h : CellsAt w b o cs) (i : Nat) {v : Value} (hi : cs[i]? = some v) : w.cell? ⟨b, o + i, none⟩ = some v := h i v hi
theorem CellsAt.head {w : World} {b o : Nat} {v : Value} {cs : List Value} (h : CellsAt w b o (v :: cs)) : w.cell? ⟨b, o, none⟩ = some v := h 0 v rfl
/-- the element at a place -/
theorem RdL.at_ {α : Type} {w : World} {sz : Nat} {A : Option Addr} {xs : List α} {f : α → List Value} (h : RdL w sz A (xs.map f)) {j : Nat} (hj : j < xs.length) :
    ∃ b off, A = some ⟨b, off, none⟩ ∧ CellsAt w b (off + j * sz) (f (xs[j]'hj)) :=
  h j _ (by rw [List.getElem?_map, List.getElem?_eq_getElem hj]; rfl)

/-- the first place from j on of which p holds; -1: none -/
def idxF {α : Type} (p : α → Bool) : List α → Nat → Int
  | [], _ => -1
  | x :: r, j => if p x = true then (j : Int) else idxF p r (j + 1)
theorem idxF_drop_yes {α : Type} {p : α → Bool} {xs : List α} {j : Nat} (hj : j < xs.length) (h : p (xs[j]'hj) = true) : idxF p (xs.drop j) j = j := by
  rw [List.drop_eq_getElem_cons hj]
  exact if_pos h
theorem idxF_drop_no {α : Type} {p : α → Bool} {xs : List α} {j : Nat} (hj : j < xs.length) (h : p (xs[j]'hj) = false) : idxF p (xs.drop j) j = idxF p (xs.drop (j + 1)) (j + 1) := by
  rw [List.drop_eq_getElem_cons hj]
  exact if_neg (by rw [h]; simp)
theorem idxF_drop_end {α : Type} {p : α → Bool} {xs : List α} {j : Nat} (hj : ¬ j < xs.length) : idxF p (xs.drop j) j = -1 := by
  rw [List.drop_eq_nil_of_le (by omega)]
  rfl
theorem idxF_any {α : Type} (p : α → Bool) : ∀ (xs : List α) (j : Nat), decide (0 ≤ idxF p xs j) = xs.any p
  | [], _ => rfl
  | x :: r, j => by
    show decide (0 ≤ (if p x = true then (j : Int) else idxF p r (j + 1))) = (p x || r.any p)
    cases h : p x
    · rw [if_neg (by simp), idxF_any p r (j + 1)]; rfl
    · rw [if_pos rfl]; simp
end Go.Proofs.YtfhmjkdpohepaaaDoor

/- slices.Index, Contains at numbers; soffit/policy.Known. -/
set_option linter.unusedSimpArgs false
set_option linter.unusedVariables false
namespace Go.Proofs.YtfhmjkdpohepaaaDoor
open Go.RowKit

def intC (i : Int) : List Value := [.int .i64 i]
set_option maxRecDepth 100000 in
set_option maxHeartbeats 800000 in
theorem intIndex (x : Int) (xs : List Int) (A : Option Addr) (c : Nat) (w : World) (hr : RdL w 1 A (xs.map intC)) (hn : xs.length ≤ 9223372036854775807) :
    Calls Tryd.prog 41 #[.slice A xs.length c, .int .i64 x] w fun e w' => e = .returned (.int .i64 (idxF (fun y => x == y) xs 0)) ∧ Below w.heap.size w w' := by
  go_enter Tryd.func41, Tryd.ntmps41
  go_wp2_with fail
  go_loopg [8] xs.length (fun k i wr => ∃ j : Nat, j ≤ xs.length ∧ xs.length - j ≤ k ∧ Hid (idxF (fun y => x == y) xs 0 = idxF (fun y => x == y) (xs.drop j) j) ∧ i = .int .i64 j ∧ Below w.heap.size w wr)
  case atStart => exact ⟨0, by omega, by omega, rfl, rfl, Below.refl _ _⟩
  case round =>
    obtain ⟨j, hj, hjk, hi, rfl, hbel⟩ := hrel
    by_cases hlt : j < xs.length
    · obtain ⟨b, off, rfl, hx⟩ := (hr.below hbel).at_ hlt
      have hyes := fun h => idxF_drop_yes (p := fun y => x == y) hlt h
      have hno := fun h => idxF_drop_no (p := fun y => x == y) hlt h
      generalize hX : xs[j]'hlt = y at *
      have g0 : wr.cell? ⟨b, off + j, none⟩ = some (.int .i64 y) := by have := hx.get 0 rfl; simpa using this
      have HYES := Lib.hid hyes
      have HNO := Lib.hid hno
      have hsz := hbel.size
      clear hyes hno hX hx
      cases hp : (x == y)
      · have HN := Lib.hid (HNO.out hp)
        go_wp2_with fail
        go_roundg (gk - 1)
        case measure => omega
        case rel => exact ⟨j + 1, by omega, by omega, hi.out.trans HN.out, by go_num, bel⟩
      · have HY := Lib.hid (HYES.out hp)
        go_wp2_with fail
        go_ret
        exact ⟨ret_int (by rw [hi.out, HY.out]), bel⟩
    · have HE := Lib.hid (idxF_drop_end (p := fun y => x == y) hlt)
      go_wp2_with fail
      go_ret
      exact ⟨ret_int (by rw [hi.out, HE.out]), hbel⟩

set_option maxHeartbeats 400000 in
theorem intContains (x : Int) (xs : List Int) (A : Option Addr) (c : Nat) (w : World) (hr : RdL w 1 A (xs.map intC)) (hn : xs.length ≤ 9223372036854775807) :
    Calls Tryd.prog 26 #[.slice A xs.length c, .int .i64 x] w fun e w' => e = .returned (.bool (xs.any (fun y => x == y))) ∧ Below w.heap.size w w' := by
  have HA := Lib.hid (idxF_any (fun y => x == y) xs 0)
  go_enter Tryd.func26, Tryd.ntmps26
  go_wp2_with fail
  refine (intIndex x xs A c _ hr hn).mono ?_
  rintro e w1 ⟨rfl, hb1⟩
  generalize idxF (fun y => x == y) xs 0 = r at *
  go_wp2_with fail
  go_ret
  exact ⟨ret_bool HA.out, hb1⟩

def pols : List Int := [85, 65, 80, 70, 43, 60, 62, 35]
def knownB (p : Int) : Bool := pols.any (fun y => p == y)
set_option maxHeartbeats 800000 in
theorem known_any (p : Int) (w : World) :
    Calls Tryd.prog 12 #[.int .i64 p] w fun e w' => e = .returned (.bool (knownB p)) ∧ Below w.heap.size w w' := by
  obtain ⟨B, hB⟩ : ∃ B, knownB p = B := ⟨_, rfl⟩
  rw [hB]
  go_enter Tryd.func12, Tryd.ntmps12
  go_wp2_with fail
  generalize hEW0 : w.alloc _ = W0
  have hbW0 : Below w.heap.size w W0 := (by rw [← hEW0]; exact bel)
  have lW0_0 : w.heap.size < W0.heap.size := lsz hEW0
  have qW0_0 : ∀ o, W0.cell? ⟨w.heap.size, o, none⟩ = _ := fun o => congrArg (fun W : World => W.cell? ⟨w.heap.size, o, none⟩) hEW0.symm
  have rW0_0 : ∀ o, W0.frozen? ⟨w.heap.size, o, none⟩ = _ := fun o => congrArg (fun W : World => W.frozen? ⟨w.heap.size, o, none⟩) hEW0.symm
  clear hEW0
  have rd : RdL W0 1 (some ⟨w.heap.size, 0, none⟩) (pols.map intC) := by
    intro j c hc
    refine ⟨_, _, rfl, ?_⟩
    have hj : j < 8 := by
      have := (List.getElem?_eq_some_iff.1 hc).1
      simpa [pols] using this
    intro i v hv
    rw [qW0_0]
    match j, hj with
    | 0, _ => simp [pols, intC] at hc; subst hc; match i, hv with | 0, hv => simp at hv; subst hv; simp [go_sem]
    | 1, _ => simp [pols, intC] at hc; subst hc; match i, hv with | 0, hv => simp at hv; subst hv; simp [go_sem]
    | 2, _ => simp [pols, intC] at hc; subst hc; match i, hv with | 0, hv => simp at hv; subst hv; simp [go_sem]
    | 3, _ => simp [pols, intC] at hc; subst hc; match i, hv with | 0, hv => simp at hv; subst hv; simp [go_sem]
    | 4, _ => simp [pols, intC] at hc; subst hc; match i, hv with | 0, hv => simp at hv; subst hv; simp [go_sem]
    | 5, _ => simp [pols, intC] at hc; subst hc; match i, hv with | 0, hv => simp at hv; subst hv; simp [go_sem]
    | 6, _ => simp [pols, intC] at hc; subst hc; match i, hv with | 0, hv => simp at hv; subst hv; simp [go_sem]
    | 7, _ => simp [pols, intC] at hc; subst hc; match i, hv with | 0, hv => simp at hv; subst hv; simp [go_sem]
  refine (intContains p pols _ 8 _ rd (by decide)).mono ?_
  rintro e w1 ⟨rfl, hb1⟩
  change knownB p = B at hB
  rw [show (pols.any (fun y => p == y)) = B from hB]
  clear hB rd
  go_wp2_with fail
  go_ret
  exact ⟨ret_bool rfl, bel⟩
end Go.Proofs.YtfhmjkdpohepaaaDoor

/- Drawn regions walked by hand: short names; boxes. -/
set_option linter.unusedSimpArgs false
set_option linter.unusedVariables false
namespace Go.Proofs.YtfhmjkdpohepaaaDoor
open Go.RowKit

theorem shH : (∀ (a : Act) (k : Nat) (v : Value), a.put (some k) v = { a with tmps := a.tmps.setIfInBounds k v }) ∧ (∀ (a : Act) (v : Value), a.put none v = a) ∧
    (∀ (l : List Value) (i : Nat) (x : Value), l.toArray.setIfInBounds i x = (l.set i x).toArray) ∧ (∀ (l : List Bool) (i : Nat) (x : Bool), l.toArray.setIfInBounds i x = (l.set i x).toArray) ∧
    (∀ (a x : Value) (l : List Value), (a :: l).set 0 x = x :: l) ∧ (∀ (a x : Value) (l : List Value) (n : Nat), (a :: l).set (n + 1) x = a :: l.set n x) ∧
    (∀ (a x : Bool) (l : List Bool), (a :: l).set 0 x = x :: l) ∧ (∀ (a x : Bool) (l : List Bool) (n : Nat), (a :: l).set (n + 1) x = a :: l.set n x) :=
  ⟨fun _ _ _ => rfl, fun _ _ => rfl, fun _ _ _ => by simp, fun _ _ _ => by simp, fun _ _ _ => rfl, fun _ _ _ _ => rfl, fun _ _ _ => rfl, fun _ _ _ _ => rfl⟩
section
variable {P : Program} {ops : Array Oper} {Q : Exit → Act → World → Prop} {md : Region.Mode} {S : World → Prop}
/-- take number i first -/
theorem tkH (i : Nat) {oi : Oper} {v : Value} {fuel : Nat} {listed : Array Bool} {a : Act} {w : World}
    (h : wpAnyH P md ops Q S fuel (listed.setIfInBounds i true) (a.put oi.dst v) w)
    (hi : ops[i]? = some oi := by rfl)
    (hw : Region.wanted oi (yielded ops a.tmps) = true := by rfl)
    (hs : Region.noSelect ops = true := by kernel_rfl) (hf : Region.free md ops listed i = true := by kernel_rfl) (hr : (Region.ready md ops listed).contains i = true := by kernel_rfl)
    (hv : ∀ w, S w → (execOp a.eval oi).run P w = .ok (.value v) w := by ((intro w hSw; (try dsimp only at hSw); go_simp); try with_reducible rfl))
    (hQ : ∀ c a w, Q (.panic c) (a.put oi.dst v) w → Q (.panic c) a w := by exact fun _ _ _ h => h)
    (hS : S w := by assumption) : wpAnyH P md ops Q S (fuel + 1) listed a w :=
  wpAnyH_take hi hs hf hr hQ (Or.inl ⟨hw, hv⟩) hS h
/-- number i's guard says no -/
theorem tnH (i : Nat) {oi : Oper} {fuel : Nat} {listed : Array Bool} {a : Act} {w : World}
    (h : wpAnyH P md ops Q S fuel (listed.setIfInBounds i true) (a.put oi.dst undef) w)
    (hi : ops[i]? = some oi := by rfl)
    (hw : Region.wanted oi (yielded ops a.tmps) = false := by rfl)
    (hs : Region.noSelect ops = true := by kernel_rfl) (hf : Region.free md ops listed i = true := by kernel_rfl) (hr : (Region.ready md ops listed).contains i = true := by kernel_rfl)
    (hQ : ∀ c a w, Q (.panic c) (a.put oi.dst undef) w → Q (.panic c) a w := by exact fun _ _ _ h => h)
    (hS : S w := by assumption) : wpAnyH P md ops Q S (fuel + 1) listed a w :=
  wpAnyH_take hi hs hf hr hQ (Or.inr ⟨hw, rfl⟩) hS h
/-- whichever of these comes up -/
theorem rdH (rs : List Nat) {fuel : Nat} {listed : Array Bool} {a : Act} {w : World} (h : AllReadyH P md ops Q S fuel listed a w rs) (hr : Region.ready md ops listed = rs := by kernel_rfl) (hne : rs ≠ [] := by simp) :
    wpAnyH P md ops Q S (fuel + 1) listed a w := wpAnyH_ready hr hne h
theorem dnH {listed : Array Bool} {a : Act} {w : World} (h : Q .normal a w) (fuel : Nat) (hr : Region.ready md ops listed = [] := by kernel_rfl) : wpAnyH P md ops Q S fuel listed a w := wpAnyH_done hr h fuel
end

theorem undrew {w w1 : World} (h : Below w.drew.heap.size w.drew w1) : Below w.heap.size w w1 := ⟨h.os, h.tape, h.output, h.size, h.block⟩
/-- what lies in a block -/
def BoxIs (w : World) (b : Nat) (vs : Array Value) : Prop := ∃ t, w.heap[b]? = some (.cells vs t)
theorem BoxIs.lt {w : World} {b : Nat} {vs : Array Value} (h : BoxIs w b vs) : b < w.heap.size := by
  obtain ⟨t, h⟩ := h
  rcases Nat.lt_or_ge b w.heap.size with h' | h'
  · exact h'
  · rw [Array.getElem?_eq_none h'] at h; cases h
theorem BoxIs.c {w : World} {b : Nat} {vs : Array Value} (h : BoxIs w b vs) (o : Nat) : w.cell? ⟨b, o, none⟩ = vs[o]? := by obtain ⟨t, h⟩ := h; exact cell_of_block h o
theorem BoxIs.f {w : World} {b : Nat} {vs : Array Value} (h : BoxIs w b vs) (o : Nat) : w.frozen? ⟨b, o, none⟩ = false := by obtain ⟨t, h⟩ := h; simp [World.frozen?, h]
theorem BoxIs.low {w w' : World} {b B : Nat} {vs : Array Value} (h : BoxIs w b vs) (hb : Below B w w') (hl : b < B) : BoxIs w' b vs := by
  obtain ⟨t, h⟩ := h
  exact ⟨t, (hb.block b hl).trans h⟩
theorem BoxIs.below {w w' : World} {b : Nat} {vs : Array Value} (h : BoxIs w b vs) (hb : Below w.heap.size w w') : BoxIs w' b vs := by
  have hl := h.lt
  obtain ⟨t, h⟩ := h
  exact ⟨t, (hb.block b hl).trans h⟩
theorem BoxIs.alloc {w : World} {b : Nat} {vs : Array Value} (h : BoxIs w b vs) (o : Obj) : BoxIs (w.alloc o) b vs := h.below (Below.alloc (Below.refl _ _) (Nat.le_refl _) _)
theorem BoxIs.new {w : World} {b : Nat} {vs : Array Value} {t : TypeId} (hb : b = w.heap.size) : BoxIs (w.alloc (.cells vs t)) b vs := by
  subst hb; exact ⟨t, (MapKept.heap_alloc w _).1⟩
theorem BoxIs.set {w : World} {b : Nat} {vs : Array Value} (h : BoxIs w b vs) (i : Nat) (v : Value) : BoxIs (w.setCell ⟨b, i, none⟩ v) b (vs.setIfInBounds i v) := by
  obtain ⟨t, h⟩ := h
  exact ⟨t, by simp [World.setCell, Array.getElem?_modify, h]⟩
theorem BoxIs.set' {w : World} {b c : Nat} {vs : Array Value} (h : BoxIs w b vs) (hc : c ≠ b) (i : Nat) (v : Value) : BoxIs (w.setCell ⟨c, i, none⟩ v) b vs := by
  obtain ⟨t, h⟩ := h
  exact ⟨t, (heap_setCell_other w ⟨c, i, none⟩ b v (fun e => hc e.symm)).trans h⟩
end Go.Proofs.YtfhmjkdpohepaaaDoor
