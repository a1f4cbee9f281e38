import Derived.Test.YthicilfhnakhmaaGreatDoorPk01
import Derived.Test.YthicilfhnakhmaaGreatDoorPk02
import Derived.Test.YthicilfhnakhmaaGreatDoorPk04
import Derived.Test.YthicilfhnakhmaaGreatDoorShelfV
import Derived.Sort.Walk0
import Derived.Sort.LotA
import Derived.Test.YthicilfhnakhmaaGreatDoorPk03
import Derived.Lib.SliceRun
import Derived.OwnWalk
import Derived.Laws.OwnMore
import Derived.ArgAppend
import Derived.BigFrame
/- Slices of structs that read as lists: small words for the walks. -/
set_option linter.unusedSimpArgs false
set_option linter.unusedVariables false
namespace Go.Proofs.YthicilfhnakhmaaGreatDoor
open Go.RowKit

/-- the cells from a place on -/
def CellsAt (w : World) (b o : Nat) (cs : List Value) : Prop := ∀ i v, cs[i]? = some v → w.cell? ⟨b, o + i, none⟩ = some v
/-- a slice's elements: each a row of sz cells -/
def RdL (w : World) (sz : Nat) (A : Option Addr) (css : List (List Value)) : Prop :=
  ∀ j c, css[j]? = some c → ∃ b off, A = some ⟨b, off, none⟩ ∧ CellsAt w b (off + j * sz) c

theorem cell_lt {w : World} {b o : Nat} {v : Value} (h : w.cell? ⟨b, o, none⟩ = some v) : b < w.heap.size := by
  rcases Nat.lt_or_ge b w.heap.size with h' | h'
  · exact h'
  · simp [World.cell?, Array.getElem?_eq_none h'] at h
theorem cell_below {w w' : World} (hb : Below w.heap.size w w') {b o : Nat} {v : Value} (h : w.cell? ⟨b, o, none⟩ = some v) : w'.cell? ⟨b, o, none⟩ = some v :=
  (hb.cell (p := ⟨b, o, none⟩) (cell_lt h)).trans h
theorem CellsAt.below {w w' : World} {b o : Nat} {cs : List Value} (h : CellsAt w b o cs) (hb : Below w.heap.size w w') : CellsAt w' b o cs :=
  fun i v hv => cell_below hb (h i v hv)
theorem RdL.below {w w' : World} {sz : Nat} {A : Option Addr} {css : List (List Value)} (h : RdL w sz A css) (hb : Below w.heap.size w w') : RdL w' sz A css :=
  fun j c hc => let ⟨b, off, e, hh⟩ := h j c hc; ⟨b, off, e, hh.below hb⟩
theorem RdL.nil_ (w : World) (sz : Nat) (A : Option Addr) : RdL w sz A [] := fun j c hc => by simp at hc
theorem CellsAt.get {w : World} {b o : Nat} {cs : List Value} (h : CellsAt w b o cs) (i : Nat) {v : Value} (hi : cs[i]? = some v) : w.cell? ⟨b, o + i, none⟩ = some v := h i v hi
theorem CellsAt.head {w : World} {b o : Nat} {v : Value} {cs : List Value} (h : CellsAt w b o (v :: cs)) : w.cell? ⟨b, o, none⟩ = some v := h 0 v rfl
/-- the element at a place -/
theorem RdL.at_ {α : Type} {w : World} {sz : Nat} {A : Option Addr} {xs : List α} {f : α → List Value} (h : RdL w sz A (xs.map f)) {j : Nat} (hj : j < xs.length) :
    ∃ b off, A = some ⟨b, off, none⟩ ∧ CellsAt w b (off + j * sz) (f (xs[j]'hj)) :=
  h j _ (by rw [List.getElem?_map, List.getElem?_eq_getElem hj]; rfl)

/-- the first place from j on of which p holds; -1: none -/
def idxF {α : Type} (p : α → Bool) : List α → Nat → Int
  | [], _ => -1
  | x :: r, j => if p x = true then (j : Int) else idxF p r (j + 1)
theorem idxF_drop_yes {α : Type} {p : α → Bool} {xs : List α} {j : Nat} (hj : j < xs.length) (h : p (xs[j]'hj) = true) : idxF p (xs.drop j) j = j := by
  rw [List.drop_eq_getElem_cons hj]
  exact if_pos h
theorem idxF_drop_no {α : Type} {p : α → Bool} {xs : List α} {j : Nat} (hj : j < xs.length) (h : p (xs[j]'hj) = false) : idxF p (xs.drop j) j = idxF p (xs.drop (j + 1)) (j + 1) := by
  rw [List.drop_eq_getElem_cons hj]
  exact if_neg (by rw [h]; simp)
theorem idxF_drop_end {α : Type} {p : α → Bool} {xs : List α} {j : Nat} (hj : ¬ j < xs.length) : idxF p (xs.drop j) j = -1 := by
  rw [List.drop_eq_nil_of_le (by omega)]
  rfl
theorem idxF_any {α : Type} (p : α → Bool) : ∀ (xs : List α) (j : Nat), decide (0 ≤ idxF p xs j) = xs.any p
  | [], _ => rfl
  | x :: r, j => by
    show decide (0 ≤ (if p x = true then (j : Int) else idxF p r (j + 1))) = (p x || r.any p)
    cases h : p x
    · rw [if_neg (by simp), idxF_any p r (j + 1)]; rfl
    · rw [if_pos rfl]; simp
end Go.Proofs.YthicilfhnakhmaaGreatDoor

/- When are two values equal? and how the code asks it. -/
set_option linter.unusedSimpArgs false
set_option linter.unusedVariables false
namespace Go.Proofs.YthicilfhnakhmaaGreatDoor
open Go.RowKit

theorem toList_inj {a b : ByteArray} (h : a.toList = b.toList) : a = b := by
  rw [ByteArray.toList_eq, ByteArray.toList_eq] at h
  obtain ⟨x⟩ := a
  obtain ⟨y⟩ := b
  exact congrArg ByteArray.mk (Array.ext' h)

/-- are two values equal? -/
def eqB (a b : Vl) : Bool := a.k == b.k && a.n == b.n && a.s == b.s && a.t.toList == b.t.toList && a.i == b.i
theorem eqB_iff (a b : Vl) : eqB a b = true ↔ a = b := by
  obtain ⟨k, n, s, t, i⟩ := a
  obtain ⟨k', n', s', t', i'⟩ := b
  simp only [eqB, Bool.and_eq_true, beq_iff_eq, Vl.mk.injEq]
  constructor
  · rintro ⟨⟨⟨⟨h1, h2⟩, h3⟩, h4⟩, h5⟩
    exact ⟨h1, h2, h3, toList_inj h4, h5⟩
  · rintro ⟨rfl, rfl, rfl, rfl, rfl⟩
    exact ⟨⟨⟨⟨rfl, rfl⟩, rfl⟩, rfl⟩, rfl⟩

theorem eqV_run (a b : Vl) (w : World) : (binOp .eql 25 (.agg #[.int .i64 a.k, .int .i64 a.n, .int .i64 a.s, .string a.t, .int .i64 a.i]) (.agg #[.int .i64 b.k, .int .i64 b.n, .int .i64 b.s, .string b.t, .int .i64 b.i])).run Tryz.prog w =
    .ok (.bool (eqB a b)) w := by
  obtain ⟨k, n, s, t, i⟩ := a
  obtain ⟨k', n', s', t', i'⟩ := b
  unfold eqB
  go_simp
  repeat' split
  all_goals simp_all

theorem neV_run (a b : Vl) (w : World) : (binOp .neq 25 (.agg #[.int .i64 a.k, .int .i64 a.n, .int .i64 a.s, .string a.t, .int .i64 a.i]) (.agg #[.int .i64 b.k, .int .i64 b.n, .int .i64 b.s, .string b.t, .int .i64 b.i])).run Tryz.prog w =
    .ok (.bool (!eqB a b)) w := by
  obtain ⟨k, n, s, t, i⟩ := a
  obtain ⟨k', n', s', t', i'⟩ := b
  unfold eqB
  go_simp
  repeat' split
  all_goals simp_all

theorem rdL_one {W : World} {sz b : Nat} {cs : List Value} (h : ∀ o, W.cell? ⟨b, o, none⟩ = cs.toArray[o]?) : RdL W sz (some ⟨b, 0, none⟩) [cs] := by
  intro j c hc
  rcases j with _ | j
  · obtain rfl : cs = c := by simpa using hc
    exact ⟨b, 0, rfl, fun i v hv => by rw [show (0 + 0 * sz + i) = i by omega, h]; simpa using hv⟩
  · simp at hc
theorem rdL_two {W : World} {sz b : Nat} {cs ds : List Value} (hl : cs.length = sz) (h : ∀ o, W.cell? ⟨b, o, none⟩ = (cs ++ ds).toArray[o]?) : RdL W sz (some ⟨b, 0, none⟩) [cs, ds] := by
  intro j c hc
  rcases j with _ | _ | j
  · obtain rfl : cs = c := by simpa using hc
    exact ⟨b, 0, rfl, fun i v hv => by
      rw [show (0 + 0 * sz + i) = i by omega, h]
      have hi : i < cs.length := (List.getElem?_eq_some_iff.mp hv).1
      simp only [List.getElem?_toArray]
      rw [List.getElem?_append_left hi]; exact hv⟩
  · obtain rfl : ds = c := by simpa using hc
    exact ⟨b, 0, rfl, fun i v hv => by
      rw [show (0 + (0 + 1) * sz + i) = cs.length + i by omega, h]
      simp only [List.getElem?_toArray]
      rw [List.getElem?_append_right (by omega), Nat.add_sub_cancel_left]; exact hv⟩
  · simp at hc

end Go.Proofs.YthicilfhnakhmaaGreatDoor

/- The order of values, plain; equal neighbours left out, plain. -/
set_option linter.unusedSimpArgs false
set_option linter.unusedVariables false
namespace Go.Proofs.YthicilfhnakhmaaGreatDoor
open Go.RowKit Go.Sort

def lexB {α : Type} (l1 l2 : α → α → Bool) (x y : α) : Bool := l1 x y || (!l1 y x && l2 x y)
theorem swo_lex {α : Type} {l1 l2 : α → α → Bool} (h1 : SWO l1) (h2 : SWO l2) : SWO (lexB l1 l2) where
  irrefl x := by unfold lexB; rw [h1.irrefl, h2.irrefl]; rfl
  trans x y z a b := by
    unfold lexB at *
    have t1 := h1.trans x y z
    have t2 := h2.trans x y z
    have n1 := h1.ntrans z y x
    have t3 := h1.trans x y z
    have p1 := h1.trans z x y
    have p2 := h1.trans y z x
    have q1 := h1.ntrans x y z
    have q2 := h1.ntrans y x z
    have q3 := h1.ntrans x z y
    cases e1 : l1 x y <;> cases e2 : l1 y x <;> cases e3 : l1 y z <;> cases e4 : l1 z y <;> cases e5 : l1 x z <;> cases e6 : l1 z x <;> simp_all
  ntrans x y z a b := by
    unfold lexB at *
    have t1 := h1.trans x y z
    have t2 := h2.ntrans x y z
    have n1 := h1.ntrans x y z
    have p1 := h1.ntrans z y x
    have p2 := h1.trans z x y
    have p3 := h1.trans x z y
    have p4 := h1.trans y z x
    have p5 := h1.trans y x z
    have p6 := h1.ntrans z x y
    have p7 := h1.ntrans y z x
    cases e1 : l1 x y <;> cases e2 : l1 y x <;> cases e3 : l1 y z <;> cases e4 : l1 z y <;> cases e5 : l1 x z <;> cases e6 : l1 z x <;> simp_all
theorem swo_key {α : Type} (f : α → Int) : SWO (fun a b => decide (f a < f b)) where
  irrefl x := by simp
  trans x y z a b := by simp at *; omega
  ntrans x y z a b := by simp at *; omega
theorem swo_pull {α β : Type} {l : β → β → Bool} (h : SWO l) (f : α → β) : SWO (fun a b => l (f a) (f b)) where
  irrefl x := h.irrefl _
  trans x y z a b := h.trans _ _ _ a b
  ntrans x y z a b := h.ntrans _ _ _ a b
def vU (v : Vl) : Int := if v.k = 1 then unitsI v.n v.s else 0
def vT (v : Vl) : List UInt8 := if v.k = 1 then [] else v.t.toList
def vI (v : Vl) : Int := if v.k = 1 then 0 else v.i
/-- before another one -/
def ltV : Vl → Vl → Bool := lexB (fun a b => decide (a.k < b.k)) (lexB (fun a b => decide (vU a < vU b)) (lexB (fun a b => ltStr (vT a) (vT b)) (fun a b => decide (vI a < vI b))))
theorem swo_ltV : SWO ltV := swo_lex (swo_key (fun v : Vl => v.k)) (swo_lex (swo_key vU) (swo_lex (swo_pull swo_ltStr vT) (swo_key vI)))
theorem bytesLess_lt (x y : List UInt8) : Op.bytesLess x y = ltStr x y := by rw [Go.Proofs.bytesLess_eq]; rfl
theorem ltStr_irrefl (x : List UInt8) : ltStr x x = false := swo_ltStr.irrefl x
theorem ltStr_tri {x y : List UInt8} (h1 : ltStr x y = false) (h2 : ltStr y x = false) : x = y := by
  unfold ltStr at h1 h2
  have a : ¬ x < y := by simpa using h1
  have b : ¬ y < x := by simpa using h2
  exact List.le_antisymm (List.not_lt.1 b) (List.not_lt.1 a)
theorem ltOf_cmpV (a b : Vl) : ltOf cmpV a b = ltV a b := by
  unfold ltOf cmpV ltV lexB
  simp only []
  by_cases hk : a.k = b.k
  · rw [if_pos hk]
    have hk1 : decide (a.k < b.k) = false := decide_eq_false (by omega)
    have hk2 : decide (b.k < a.k) = false := decide_eq_false (by omega)
    rw [hk1, hk2]
    by_cases h1 : a.k = 1
    · have h2 : b.k = 1 := by omega
      rw [if_pos h1]
      unfold vU vT vI cmpD cmpI
      rw [if_pos h1, if_pos h2, if_pos h1, if_pos h2, if_pos h1, if_pos h2, ltStr_irrefl]
      by_cases u1 : unitsI a.n a.s < unitsI b.n b.s
      · simp [u1]
      · by_cases u2 : unitsI b.n b.s < unitsI a.n a.s <;> simp [u1, u2]
    · have h2 : ¬ b.k = 1 := by omega
      rw [if_neg h1]
      unfold vU vT vI cmpT cmpI orI
      rw [if_neg h1, if_neg h2, if_neg h1, if_neg h2, if_neg h1, if_neg h2, bytesLess_lt]
      cases e1 : ltStr a.t.toList b.t.toList
      · cases e2 : ltStr b.t.toList a.t.toList
        · have e := ltStr_tri e1 e2
          by_cases i1 : a.i < b.i
          · simp [e, i1]
          · by_cases i2 : b.i < a.i <;> simp [e, i1, i2]
        · have e : ¬ a.t.toList = b.t.toList := by intro h; rw [h, ltStr_irrefl] at e2; cases e2
          simp [e]
      · simp
  · rw [if_neg hk]
    unfold cmpI
    by_cases u1 : a.k < b.k
    · simp [u1]
    · have u2 : b.k < a.k := by omega
      simp [u1, u2]

def eqO (o : Option Vl) (x : Vl) : Bool := match o with
  | none => false
  | some y => eqB y x
theorem eqO_iff (o : Option Vl) (x : Vl) : eqO o x = true ↔ o = some x := by
  cases o with
  | none => simp [eqO]
  | some y => simp [eqO, eqB_iff]
/-- the first of each run of equal ones, up to a place -/
def cpT (l : List Vl) : Nat → List Vl
  | 0 => []
  | r + 1 => match l[r]? with
    | none => cpT l r
    | some x => if (decide (0 < r) && eqO l[r - 1]? x) = true then cpT l r else cpT l r ++ [x]
theorem cpT_new {l : List Vl} {r : Nat} {x : Vl} (h : l[r]? = some x) (hn : ¬ (0 < r ∧ l[r - 1]? = some x)) : cpT l (r + 1) = cpT l r ++ [x] := by
  rw [cpT, h]; exact if_neg (by rw [Bool.and_eq_true, decide_eq_true_iff, eqO_iff]; exact hn)
theorem cpT_old {l : List Vl} {r : Nat} {x : Vl} (h : l[r]? = some x) (hn : 0 < r ∧ l[r - 1]? = some x) : cpT l (r + 1) = cpT l r := by
  rw [cpT, h]; exact if_pos (by rw [Bool.and_eq_true, decide_eq_true_iff, eqO_iff]; exact hn)
theorem cpT_mem (l : List Vl) : ∀ (r : Nat) (v : Vl), v ∈ cpT l r → v ∈ l
  | 0, v, h => by cases h
  | r + 1, v, h => by
    cases e : l[r]? with
    | none => rw [cpT, e] at h; exact cpT_mem l r v h
    | some x =>
      by_cases hn : 0 < r ∧ l[r - 1]? = some x
      · rw [cpT_old e hn] at h; exact cpT_mem l r v h
      · rw [cpT_new e hn] at h
        rcases List.mem_append.1 h with h | h
        · exact cpT_mem l r v h
        · obtain rfl := List.mem_singleton.1 h; exact List.mem_of_getElem? e
theorem cpT_len (l : List Vl) : ∀ (r : Nat), (cpT l r).length ≤ r
  | 0 => by simp [cpT]
  | r + 1 => by
    have := cpT_len l r
    cases e : l[r]? with
    | none => rw [cpT, e]; exact Nat.le_succ_of_le this
    | some x =>
      by_cases hn : 0 < r ∧ l[r - 1]? = some x
      · rw [cpT_old e hn]; omega
      · rw [cpT_new e hn, List.length_append]; simp; omega
theorem cpT_last (l : List Vl) : ∀ (r : Nat), r < l.length → (cpT l (r + 1)).getLast? = l[r]?
  | 0, h => by
    have e := List.getElem?_eq_getElem h
    rw [cpT_new e (by omega), e]; simp [cpT]
  | r + 1, h => by
    have e := List.getElem?_eq_getElem h
    by_cases hn : 0 < r + 1 ∧ l[r + 1 - 1]? = some (l[r + 1]'h)
    · rw [cpT_old e hn, cpT_last l r (by omega), e]; exact hn.2
    · rw [cpT_new e hn, e]; simp
theorem cpT_head (l : List Vl) : ∀ (r : Nat), r < l.length → (cpT l (r + 1))[0]? = l[0]?
  | 0, h => by
    have e := List.getElem?_eq_getElem h
    rw [cpT_new e (by omega), e]; simp [cpT]
  | r + 1, h => by
    have e := List.getElem?_eq_getElem h
    have ih := cpT_head l r (by omega)
    by_cases hn : 0 < r + 1 ∧ l[r + 1 - 1]? = some (l[r + 1]'h)
    · rw [cpT_old e hn, ih]
    · rw [cpT_new e hn]
      cases hc : cpT l (r + 1) with
      | nil => rw [hc, List.getElem?_eq_getElem (show 0 < l.length by omega)] at ih; cases ih
      | cons y q => rw [hc] at ih; simpa using ih
theorem cpT_all (l : List Vl) : ∀ (r : Nat), r ≤ l.length → (∀ t, 0 < t → t < r → ∀ (h : t < l.length), l[t - 1]? ≠ some (l[t]'h)) → cpT l r = l.take r
  | 0, _, _ => by simp [cpT]
  | r + 1, h, hd => by
    have e := List.getElem?_eq_getElem (show r < l.length by omega)
    have ih := cpT_all l r (by omega) (fun t h1 h2 => hd t h1 (by omega))
    rw [cpT_new e (fun hn => hd r hn.1 (by omega) (by omega) hn.2), ih, List.take_succ_eq_append_getElem]
end Go.Proofs.YthicilfhnakhmaaGreatDoor

/- Lists of values: slices.IndexFunc, ContainsFunc at them; soffit/policy.sound. -/
set_option linter.unusedSimpArgs false
set_option linter.unusedVariables false
namespace Go.Proofs.YthicilfhnakhmaaGreatDoor
open Go.RowKit

def Vl.cells5 (v : Vl) : List Value := [.int .i64 v.k, .int .i64 v.n, .int .i64 v.s, .string v.t, .int .i64 v.i]

/-- what a predicate owes: at each of some things, in every world that has all that was there -/
def valGives (g : Nat) (fv : Array Value) (p : Vl → Bool) (xs : List Vl) (w : World) : Prop :=
  ∀ x ∈ xs, ∀ W : World, Below w.heap.size w W → Calls Tryz.prog g (#[.agg #[.int .i64 x.k, .int .i64 x.n, .int .i64 x.s, .string x.t, .int .i64 x.i]] ++ fv) W fun e w' => e = .returned (.bool (p x)) ∧ Below W.heap.size W w'

set_option maxRecDepth 100000 in
set_option maxHeartbeats 800000 in
theorem valIndex (g : Nat) (p : Vl → Bool) (xs : List Vl) (A : Option Addr) (c : Nat) (w : World) (hr : RdL w 5 A (xs.map Vl.cells5)) (hn : xs.length ≤ 9223372036854775807)
    (hg : valGives g #[] p xs w) (he : ∀ args W, (callFunc g args).run Tryz.prog W = .ok (.enter g args) W) :
    Calls Tryz.prog 59 #[.slice A xs.length c, .func (.func g) #[] #[]] w fun e w' => e = .returned (.int .i64 (idxF p xs 0)) ∧ Below w.heap.size w w' := by
  go_enter Tryz.func59, Tryz.ntmps59
  go_wp2_with fail
  go_loopg [8] xs.length (fun k i wr => ∃ j : Nat, j ≤ xs.length ∧ xs.length - j ≤ k ∧ Hid (idxF p xs 0 = idxF p (xs.drop j) j) ∧ i = .int .i64 j ∧ Below w.heap.size w wr)
  case atStart => exact ⟨0, by omega, by omega, rfl, rfl, Below.refl _ _⟩
  case round =>
    obtain ⟨j, hj, hjk, hi, rfl, hbel⟩ := hrel
    by_cases hlt : j < xs.length
    · obtain ⟨b, off, rfl, hx⟩ := (hr.below hbel).at_ hlt
      have hmem : xs[j]'hlt ∈ xs := List.getElem_mem hlt
      have hyes := fun h => idxF_drop_yes (p := p) hlt h
      have hno := fun h => idxF_drop_no (p := p) hlt h
      generalize hX : xs[j]'hlt = x at *
      have hgx := hg x hmem
      have g0 : wr.cell? ⟨b, off + j * 5, none⟩ = some (.int .i64 x.k) := hx.get 0 rfl
      have g1 : wr.cell? ⟨b, off + j * 5 + 1, none⟩ = some (.int .i64 x.n) := hx.get 1 rfl
      have g2 : wr.cell? ⟨b, off + j * 5 + 2, none⟩ = some (.int .i64 x.s) := hx.get 2 rfl
      have g3 : wr.cell? ⟨b, off + j * 5 + 3, none⟩ = some (.string x.t) := hx.get 3 rfl
      have g4 : wr.cell? ⟨b, off + j * 5 + 4, none⟩ = some (.int .i64 x.i) := hx.get 4 rfl
      have HG := Lib.hid hgx
      have HYES := Lib.hid hyes
      have HNO := Lib.hid hno
      have hsz := hbel.size
      clear hgx hyes hno hX hmem hx
      cases hp : p x
      · have HN := Lib.hid (HNO.out hp)
        go_wp2_with fail
        refine (HG.out _ bel).mono ?_
        rintro e w1 ⟨rfl, hb1⟩
        rw [hp]
        clear hp
        go_wp2_with fail
        go_roundg (gk - 1)
        case measure => omega
        case rel => exact ⟨j + 1, by omega, by omega, hi.out.trans HN.out, by go_num, bel⟩
      · have HY := Lib.hid (HYES.out hp)
        go_wp2_with fail
        refine (HG.out _ bel).mono ?_
        rintro e w1 ⟨rfl, hb1⟩
        rw [hp]
        clear hp
        go_wp2_with fail
        go_ret
        exact ⟨ret_int (by rw [hi.out, HY.out]), bel⟩
    · have HE := Lib.hid (idxF_drop_end (p := p) hlt)
      go_wp2_with fail
      go_ret
      exact ⟨ret_int (by rw [hi.out, HE.out]), hbel⟩

set_option maxHeartbeats 400000 in
theorem valContains (g : Nat) (p : Vl → Bool) (xs : List Vl) (A : Option Addr) (c : Nat) (w : World) (hr : RdL w 5 A (xs.map Vl.cells5)) (hn : xs.length ≤ 9223372036854775807)
    (hg : valGives g #[] p xs w) (he : ∀ args W, (callFunc g args).run Tryz.prog W = .ok (.enter g args) W) :
    Calls Tryz.prog 33 #[.slice A xs.length c, .func (.func g) #[] #[]] w fun e w' => e = .returned (.bool (xs.any p)) ∧ Below w.heap.size w w' := by
  have HA := Lib.hid (idxF_any p xs 0)
  go_enter Tryz.func33, Tryz.ntmps33
  go_wp2_with fail
  refine (valIndex g p xs A c _ hr hn hg he).mono ?_
  rintro e w1 ⟨rfl, hb1⟩
  generalize idxF p xs 0 = r at *
  go_wp2_with fail
  go_ret
  exact ⟨ret_bool HA.out, hb1⟩

def allSnd (vs : List Vl) : Bool := !vs.any (fun v => !sndB v)
end Go.Proofs.YthicilfhnakhmaaGreatDoor

/- Rows of values of a walk's own: a value set; the tail cleared. -/
set_option linter.unusedSimpArgs false
set_option linter.unusedVariables false
namespace Go.Proofs.YthicilfhnakhmaaGreatDoor
open Go.RowKit

theorem cells5_len (v : Vl) : v.cells5.length = 5 := rfl
theorem below_cells {base g : Nat} (hg : base ≤ g) {a : World} : ∀ (vs : List Value) (o : Nat) {w : World}, Below base a w → Below base a (w.setCells g o vs)
  | [], _, _, h => h
  | v :: r, o, _, h => below_cells hg r (o + 1) (h.setCell (by exact hg) _)
theorem size_setCells (g : Nat) : ∀ (vs : List Value) (o : Nat) (w : World), (w.setCells g o vs).heap.size = w.heap.size
  | [], _, _ => rfl
  | v :: r, o, w => (size_setCells g r (o + 1) _).trans (sz_set _ _ _)
/-- a value set in a row -/
theorem rd_set5 {w : World} {g : Nat} {rows : List Vl} (h : RdL w 5 (some ⟨g, 0, none⟩) (rows.map Vl.cells5)) (i : Nat) (hi : i < rows.length) (x : Vl) : RdL (w.setCells g (i * 5) x.cells5) 5 (some ⟨g, 0, none⟩) ((rows.set i x).map Vl.cells5) := by
  intro j c hc
  rw [List.getElem?_map, Option.map_eq_some_iff] at hc
  obtain ⟨y, hy, rfl⟩ := hc
  have hj : j < rows.length := by have := (List.getElem?_eq_some_iff.1 hy).1; simpa using this
  refine ⟨g, 0, rfl, fun q u hu => ?_⟩
  have hq : q < 5 := (List.getElem?_eq_some_iff.1 hu).1
  by_cases e : i = j
  · subst e
    rw [List.getElem?_set_self hi] at hy
    obtain rfl := Option.some.inj hy
    have hin := World.cell?_setCells_in g x.cells5 (i * 5) w (fun t ht => by
      obtain ⟨b, off, e, hx⟩ := h.at_ hj
      cases e
      have h2 := hx t (((rows[i]'hj).cells5)[t]'(by rw [cells5_len] at *; exact ht)) (List.getElem?_eq_getElem _)
      rw [Nat.zero_add] at h2
      rw [h2]; rfl) q (by rw [cells5_len]; exact hq)
    rw [Nat.zero_add, hin, ← hu, List.getElem?_eq_getElem]
  · rw [List.getElem?_set_ne e] at hy
    rw [World.cell?_setCells_out g _ _ _ _ (fun _ _ => by rw [cells5_len]; show 0 + j * 5 + q < i * 5 ∨ i * 5 + 5 ≤ 0 + j * 5 + q; omega)]
    obtain ⟨b, off, e2, hx⟩ := h j y.cells5 (by rw [List.getElem?_map, hy]; rfl)
    cases e2
    exact hx q u hu
/-- what is behind a place cleared: what is ahead of it stays -/
theorem rd_front {w : World} {g n : Nat} {rows pre : List Vl} (h : RdL w 5 (some ⟨g, 0, none⟩) (rows.map Vl.cells5)) (vs : List Value) (k : Nat) (hp : pre.length ≤ k) (hpre : ∀ t, t < pre.length → rows[t]? = pre[t]?) : RdL (w.setCells g (k * 5) vs) 5 (some ⟨g, 0, none⟩) (pre.map Vl.cells5) := by
  intro j c hc
  rw [List.getElem?_map, Option.map_eq_some_iff] at hc
  obtain ⟨y, hy, rfl⟩ := hc
  have hj := (List.getElem?_eq_some_iff.1 hy).1
  refine ⟨g, 0, rfl, fun q u hu => ?_⟩
  have hq : q < 5 := (List.getElem?_eq_some_iff.1 hu).1
  rw [World.cell?_setCells_out g _ _ _ _ (fun _ _ => Or.inl (by show 0 + j * 5 + q < k * 5; omega))]
  obtain ⟨b, off, e2, hx⟩ := h j y.cells5 (by rw [List.getElem?_map, hpre j hj, hy]; rfl)
  cases e2
  exact hx q u hu
theorem run_clear5 (w : World) (g o n c : Nat) (hn : 0 < n) (hc : ∀ j, j < n * 5 → (w.cell? ⟨g, o + j, none⟩).isSome = true) (hf : ∀ j, j < n * 5 → w.frozen? ⟨g, o + j, none⟩ = false) (ty : TypeId) :
    ∃ vs, (Builtin.clear_ #[36] ty #[.slice (some ⟨g, o, none⟩) n c]).run Tryz.prog w = .ok (.tuple #[]) (w.setCells g o vs) := by
  have hv : ∀ w, (zeroValue 25).run Tryz.prog w = .ok (.agg #[.int .i64 0, .int .i64 0, .int .i64 0, .string ⟨#[]⟩, .int .i64 0]) w := Tryz.zeroValue25
  obtain ⟨vs, hvs⟩ : ∃ vs, (Builtin.zeroCells (Value.agg #[.int .i64 0, .int .i64 0, .int .i64 0, .string ⟨#[]⟩, .int .i64 0]).cells n).toList = vs := ⟨_, rfl⟩
  have hlen : vs.length = n * 5 := by rw [← hvs]; simp [Builtin.zeroCells, Value.cells]
  have hone : ∀ v ∈ vs, v.oneCell' = true := by
    intro v hv'
    rw [← hvs] at hv'
    simp [Builtin.zeroCells, Value.cells] at hv'
    obtain ⟨i, _, rfl⟩ := hv'
    have : i % 5 = 0 ∨ i % 5 = 1 ∨ i % 5 = 2 ∨ i % 5 = 3 ∨ i % 5 = 4 := by omega
    rcases this with h | h | h | h | h <;> simp [h] <;> rfl
  have hst := run_storeCells_cells (P := Tryz.prog) g o vs 0 w (by simpa [hlen] using hc) (by simpa [hlen] using hf) hone
  simp only [Nat.add_zero] at hst
  obtain ⟨m, rfl⟩ : ∃ m, n = m + 1 := ⟨n - 1, by omega⟩
  exact ⟨vs, by simp [Builtin.clear_, run_underlying Tryz.underlying36, hv, hvs, hst]⟩
end Go.Proofs.YthicilfhnakhmaaGreatDoor

/- Rows of a walk's own: an append that tells where the new row lies, and what stays beside it. -/
set_option linter.unusedSimpArgs false
set_option linter.unusedVariables false
namespace Go.Proofs.YthicilfhnakhmaaGreatDoor
open Go.RowKit

theorem own_base {w : World} {base base' : Nat} {e : TypeId} {size : Nat} {v : Value} {n : Nat} {xs : List Value} (h : w.ownsRow base' e size v n xs) (hb : base ≤ base') : w.ownsRow base e size v n xs :=
  ⟨h.1, h.2.imp id (fun ⟨g, cap, cur, e1, hg, r⟩ => ⟨g, cap, cur, e1, Nat.le_trans hb hg, r⟩)⟩
theorem own_below {w w' : World} {base : Nat} {e : TypeId} {size : Nat} {v : Value} {n : Nat} {xs : List Value} (h : w.ownsRow base e size v n xs) (hb : Below w.heap.size w w') : w'.ownsRow base e size v n xs :=
  h.kept (row := none) ⟨hb.os, hb.tape, hb.output, hb.size, fun k hk _ => hb.block k hk⟩ (by cases hv : v.ownBlock <;> simp)
theorem own_setCell {w : World} {base : Nat} {e : TypeId} {size : Nat} {v : Value} {n : Nat} {xs : List Value} (h : w.ownsRow base e size v n xs) (a : Addr) (u : Value) (hne : v.ownBlock ≠ some a.block) : (w.setCell a u).ownsRow base e size v n xs :=
  h.kept (row := some a.block) ⟨rfl, rfl, rfl, by simp [World.setCell], fun k _ hk => heap_setCell_other w a k u (fun e => hk (by simp [e]))⟩ (Or.inr hne)
theorem RdL.of_block {w w' : World} {sz : Nat} {A : Option Addr} {css : List (List Value)} (h : RdL w sz A css) (hb : ∀ p, A = some p → w'.heap[p.block]? = w.heap[p.block]?) : RdL w' sz A css := by
  intro j c hc
  obtain ⟨b, off, rfl, hx⟩ := h j c hc
  refine ⟨b, off, rfl, fun i v hv => ?_⟩
  exact (World.cell?_of_block (a := ⟨b, off + j * sz + i, none⟩) (hb ⟨b, off, none⟩ rfl)).trans (hx i v hv)

/-- as the kit's law for an own row, and where the row lies behind it: where it lay, or in a new block -/
theorem wpList_append_own2 {P : Program} (w : World) {ops : Array Oper} {rest : List Oper} {o : Oper} {a : Act} {Q : Exit → Act → World → Prop} (hgd : o.guard = none) (s x : Operand) (t : TypeId)
    (ho : o.op = .call { callee := .builtin .append, args := #[s, x], argTypes := #[t, t] })
    (base : Nat) (e : TypeId) (i : TypeInfo) (z : Value) (size bytes : Nat) (ht : P.underlying t = some (.slice e)) (hi : P.info? e = some i) (hz : i.zero = some z)
    (hsize : i.size = size) (hby : i.bytes = bytes) (hzs : z.cells.size = size) (hsz : 0 < size)
    (v : Value) (n : Nat) (xs : List Value) (hs : a.eval s = v) (hown : w.ownsRow base e size v n xs)
    (ad : Addr) (m c : Nat) (news : List Value) (hx : a.eval x = .slice (some ad) m c) (hl : news.length = m * size) (hnews : ∀ j u, news[j]? = some u → w.cell? (ad.add j) = some u) (h1 : ∀ u ∈ news, u.oneCell' = true)
    (h63 : n + m ≤ maxLen) (hbytes : (n + m) * bytes ≤ 140737488355328) (hbase : base ≤ w.heap.size)
    (h : ∀ v' w', w'.ownsRow base e size v' (n + m) (xs ++ news) → w.grownBy w' v.ownBlock → (∀ g, v'.ownBlock = some g → v.ownBlock = some g ∨ w.heap.size ≤ g) → wpList P ops Q rest (a.put o.dst v') w') : wpList P ops Q (o :: rest) a w := by
  have hup : ∀ (v' : Value) (w' : World), w'.ownsRow w.heap.size e size v' (n + m) (xs ++ news) → ∀ g, v'.ownBlock = some g → v.ownBlock = some g ∨ w.heap.size ≤ g := fun v' w' h2 g hg => Or.inr (h2.lt g hg).1
  rcases hown.2 with ⟨rfl, rfl⟩ | ⟨g, cap, cur, rfl, hbg, hg, hnc, hcm, hcs, htake⟩
  · obtain rfl : xs = [] := List.eq_nil_of_length_eq_zero (by simpa using hown.1)
    exact wpList_append_own w hgd s x t ho w.heap.size e i z size bytes ht hi hz hsize hby hzs hsz _ 0 [] hs (World.ownsRow_nil w _ e size) ad m c news hx hl hnews h1 h63 hbytes (Nat.le_refl _)
      (fun v' w' h2 h3 _ => h v' w' (own_base h2 hbase) h3 (hup v' w' h2))
  · by_cases hroom : n + m ≤ cap
    · refine wpList_plain hgd fun K hK' => ?_
      obtain ⟨w', hrun, r1, r2⟩ := run_append_fits (P := P) w base t o.type e i size ht hi hsize g n cap xs hown ad m c news hl hnews h1 hroom
      unfold Oper.wp
      simp [execOp, ho, resolve, invoke, builtin, hs, hx, hrun, Result.andThen]
      exact hK' _ _ (h _ _ r1 r2 (fun k hk => Or.inl hk))
    · exact wpList_append_grows w hgd s x t ho e i z size bytes ht hi hz hsize hby hzs hsz (some ⟨g, 0, none⟩) n cap xs hs (fun h => by cases h) hown.1
        (fun b hb j u hu => by cases hb; exact hown.cells (g := g) rfl j u hu) ad m c news hx hl hnews h1 (by omega) h63 hbytes
        (fun v' w' h2 h3 => h v' w' (own_base h2 hbase) ⟨h3.os, h3.tape, h3.output, h3.size, fun k hk _ => h3.block k hk (by simp)⟩ (hup v' w' h2))
end Go.Proofs.YthicilfhnakhmaaGreatDoor

/- append(own, list...): the spread of a slice behind a row of one's own, guarded or not, empty or not. -/
set_option linter.unusedSimpArgs false
set_option linter.unusedVariables false
namespace Go.Proofs.YthicilfhnakhmaaGreatDoor
open Go.RowKit

theorem run_append_zero {P : Program} (w : World) (base : Nat) (t ty e : TypeId) (i : TypeInfo) (size : Nat) (ht : P.underlying t = some (.slice e)) (hi : P.info? e = some i)
    (v : Value) (n : Nat) (xs : List Value) (hown : w.ownsRow base e size v n xs) (A0 : Option Addr) (c0 : Nat) :
    (Builtin.append_ #[t, t] ty #[v, .slice A0 0 c0]).run P w = .ok v w := by
  rcases hown.2 with ⟨rfl, rfl⟩ | ⟨g, cap, cur, rfl, _, _, hnc, _⟩
  · cases A0 <;> simp [Builtin.append_, run_underlying ht, sizeOf, typeInfo, hi, Builtin.lenOf, Builtin.firstCells, loadCells, loadCellsFrom]
  · cases A0 <;> simp [Builtin.append_, run_underlying ht, sizeOf, typeInfo, hi, Builtin.lenOf, Builtin.firstCells, hnc, storeCells, loadCells, loadCellsFrom]

theorem wpList_spread {P : Program} (w : World) {ops : Array Oper} {rest : List Oper} {o : Oper} {a : Act} {Q : Exit → Act → World → Prop} (hw : Region.wanted o (yielded ops a.tmps) = true) (s x : Operand) (t : TypeId)
    (ho : o.op = .call { callee := .builtin .append, args := #[s, x], argTypes := #[t, t] })
    (base : Nat) (e : TypeId) (i : TypeInfo) (z : Value) (size bytes : Nat) (ht : P.underlying t = some (.slice e)) (hi : P.info? e = some i) (hz : i.zero = some z)
    (hsize : i.size = size) (hby : i.bytes = bytes) (hzs : z.cells.size = size) (hsz : 0 < size)
    (v : Value) (n : Nat) (xs : List Value) (hs : a.eval s = v) (hown : w.ownsRow base e size v n xs)
    (A0 : Option Addr) (m c : Nat) (news : List Value) (hx : a.eval x = .slice A0 m c) (hl : news.length = m * size) (hA : A0 = none → m = 0)
    (hnews : ∀ ad, A0 = some ad → ∀ j u, news[j]? = some u → w.cell? (ad.add j) = some u) (h1 : ∀ u ∈ news, u.oneCell' = true)
    (h63 : n + m ≤ maxLen) (hbytes : (n + m) * bytes ≤ 140737488355328) (hbase : base ≤ w.heap.size)
    (h : ∀ v' w', w'.ownsRow base e size v' (n + m) (xs ++ news) → w.grownBy w' v.ownBlock → wpList P ops Q rest (a.put o.dst v') w') : wpList P ops Q (o :: rest) a w := by
  obtain ⟨v', w', hr, h2, h3⟩ : ∃ v' w', (Builtin.append_ #[t, t] o.type #[v, .slice A0 m c]).run P w = .ok v' w' ∧ w'.ownsRow base e size v' (n + m) (xs ++ news) ∧ w.grownBy w' v.ownBlock := by
    by_cases hm : m = 0
    · subst hm
      obtain rfl : news = [] := List.eq_nil_of_length_eq_zero (by simpa using hl)
      exact ⟨v, w, run_append_zero w base t o.type e i size ht hi v n xs hown A0 c, by simpa using hown, ⟨rfl, rfl, rfl, Nat.le_refl _, fun _ _ _ => rfl⟩⟩
    · cases A0 with
      | none => exact absurd (hA rfl) hm
      | some ad =>
        obtain ⟨v', w', hr, h2, h3, _⟩ := run_append_own (P := P) w base t o.type e i z size bytes ht hi hz hsize hby hzs hsz v n xs hown ad m c news hl (hnews ad rfl) h1 h63 hbytes hbase
        exact ⟨v', w', hr, h2, h3⟩
  refine BigFrame.wpList_want hw fun K hK => ?_
  unfold Oper.wp execOp
  simp only [ho, resolve, invoke, builtin, Sem.run_bind, Sem.run_pure, Result.andThen_ok, List.map_toArray, List.map_cons, List.map_nil, hs, hx, hr]
  exact hK _ _ (h v' w' h2 h3)
/-- the same at a step of a region that draws its order -/
theorem step_spread {P : Program} {ops : Array Oper} {o : Oper} {a : Act} {w : World} {K : Act → World → Prop} {Q : Exit → Act → World → Prop} {E : Prop} (hgd : o.guard = none) (s x : Operand) (t : TypeId)
    (ho : o.op = .call { callee := .builtin .append, args := #[s, x], argTypes := #[t, t] })
    (base : Nat) (e : TypeId) (i : TypeInfo) (z : Value) (size bytes : Nat) (ht : P.underlying t = some (.slice e)) (hi : P.info? e = some i) (hz : i.zero = some z)
    (hsize : i.size = size) (hby : i.bytes = bytes) (hzs : z.cells.size = size) (hsz : 0 < size)
    (v : Value) (n : Nat) (xs : List Value) (hs : a.eval s = v) (hown : w.ownsRow base e size v n xs)
    (A0 : Option Addr) (m c : Nat) (news : List Value) (hx : a.eval x = .slice A0 m c) (hl : news.length = m * size) (hA : A0 = none → m = 0)
    (hnews : ∀ ad, A0 = some ad → ∀ j u, news[j]? = some u → w.cell? (ad.add j) = some u) (h1 : ∀ u ∈ news, u.oneCell' = true)
    (h63 : n + m ≤ maxLen) (hbytes : (n + m) * bytes ≤ 140737488355328) (hbase : base ≤ w.heap.size)
    (h : ∀ v' w', w'.ownsRow base e size v' (n + m) (xs ++ news) → w.grownBy w' v.ownBlock → K (a.put o.dst v') w') :
    if Region.wanted o (yielded ops a.tmps) = true then Oper.wp P o a w K Q else E := by
  obtain ⟨v', w', hr, h2, h3⟩ : ∃ v' w', (Builtin.append_ #[t, t] o.type #[v, .slice A0 m c]).run P w = .ok v' w' ∧ w'.ownsRow base e size v' (n + m) (xs ++ news) ∧ w.grownBy w' v.ownBlock := by
    by_cases hm : m = 0
    · subst hm
      obtain rfl : news = [] := List.eq_nil_of_length_eq_zero (by simpa using hl)
      exact ⟨v, w, run_append_zero w base t o.type e i size ht hi v n xs hown A0 c, by simpa using hown, ⟨rfl, rfl, rfl, Nat.le_refl _, fun _ _ _ => rfl⟩⟩
    · cases A0 with
      | none => exact absurd (hA rfl) hm
      | some ad =>
        obtain ⟨v', w', hr, h2, h3, _⟩ := run_append_own (P := P) w base t o.type e i z size bytes ht hi hz hsize hby hzs hsz v n xs hown ad m c news hl (hnews ad rfl) h1 h63 hbytes hbase
        exact ⟨v', w', hr, h2, h3⟩
  have hw : Region.wanted o (yielded ops a.tmps) = true := by simp [Region.wanted, hgd]
  rw [if_pos hw]
  unfold Oper.wp execOp
  simp only [ho, resolve, invoke, builtin, Sem.run_bind, Sem.run_pure, Result.andThen_ok, List.map_toArray, List.map_cons, List.map_nil, hs, hx, hr]
  exact h v' w' h2 h3
/-- an empty row laid by a literal -/
theorem own_lit0 {w : World} {base g : Nat} {t : TypeId} {size : Nat} (hg : w.heap[g]? = some (.cells #[] t)) (hb : base ≤ g) : w.ownsRow base t size (.slice (some ⟨g, 0, none⟩) 0 0) 0 [] :=
  ⟨by simp, Or.inr ⟨g, 0, #[], rfl, hb, hg, Nat.le_refl _, by unfold maxLen; omega, by simp, by simp⟩⟩
theorem own_lit1 {w : World} {base g : Nat} {t : TypeId} {size : Nat} (hg : g = w.heap.size) (hb : base ≤ g) : (w.alloc (.cells #[] t)).ownsRow base t size (.slice (some ⟨g, 0, none⟩) 0 0) 0 [] := by
  subst hg
  exact ⟨by simp, Or.inr ⟨_, 0, #[], rfl, hb, (MapKept.heap_alloc w _).1, Nat.le_refl _, by unfold maxLen; omega, by simp, by simp⟩⟩
/-- an element of a list laid end to end -/
theorem flat_at {α : Type} {sz : Nat} : ∀ (l : List (List α)) (j i : Nat) (c : List α), (∀ c ∈ l, c.length = sz) → l[j]? = some c → i < sz → l.flatten[j * sz + i]? = c[i]?
  | [], j, i, c, _, h, _ => by simp at h
  | d :: r, 0, i, c, hs, h, hi => by
    obtain rfl : d = c := by simpa using h
    have := hs d (by simp)
    rw [List.flatten_cons, Nat.zero_mul, Nat.zero_add, List.getElem?_append_left (by omega)]
  | d :: r, j + 1, i, c, hs, h, hi => by
    have hd := hs d (by simp)
    have ih := flat_at r j i c (fun c hc => hs c (List.mem_cons_of_mem _ hc)) (by simpa using h) hi
    have e : (j + 1) * sz + i = d.length + (j * sz + i) := by rw [Nat.succ_mul, hd]; omega
    rw [List.flatten_cons, e, List.getElem?_append_right (by omega), Nat.add_sub_cancel_left, ih]
theorem rd_flat {w : World} {sz : Nat} {css : List (List Value)} {ad : Addr} (h : RdL w sz (some ad) css) (hs : ∀ c ∈ css, c.length = sz) (hsz : 0 < sz) (j : Nat) (u : Value) (hu : css.flatten[j]? = some u) : w.cell? (ad.add j) = some u := by
  have hj : j < css.flatten.length := (List.getElem?_eq_some_iff.1 hu).1
  have hlen : ∀ l : List (List Value), (∀ c ∈ l, c.length = sz) → l.flatten.length = l.length * sz := by
    intro l
    induction l with
    | nil => intro _; simp
    | cons d r ih => intro hh; rw [List.flatten_cons, List.length_append, ih (fun c hc => hh c (List.mem_cons_of_mem _ hc)), hh d (by simp), List.length_cons, Nat.succ_mul]; omega
  rw [hlen css hs] at hj
  have hq : j / sz < css.length := Nat.div_lt_of_lt_mul (by rw [Nat.mul_comm]; exact hj)
  obtain ⟨b, off, e, hx⟩ := h (j / sz) _ (List.getElem?_eq_getElem hq)
  cases e
  have hm : j % sz < sz := Nat.mod_lt _ hsz
  have he : j / sz * sz + j % sz = j := by rw [Nat.mul_comm]; exact Nat.div_add_mod j sz
  have h1 := flat_at css (j / sz) (j % sz) _ hs (List.getElem?_eq_getElem hq) hm
  rw [he, hu] at h1
  have h2 := hx (j % sz) u h1.symm
  rw [show off + j / sz * sz + j % sz = off + j by omega] at h2
  rw [Addr.add_lit]
  exact h2
end Go.Proofs.YthicilfhnakhmaaGreatDoor

/- A row that a call has made reads as a list. -/
set_option linter.unusedSimpArgs false
set_option linter.unusedVariables false
namespace Go.Proofs.YthicilfhnakhmaaGreatDoor
open Go.RowKit

/-- a row of its own reads as a list -/
theorem own_rd {w : World} {base : Nat} {e : TypeId} {sz : Nat} {v : Value} {n : Nat} {xs : List Value} {css : List (List Value)} (h : w.ownsRow base e sz v n xs) (hx : xs = css.flatten) (hs : ∀ c ∈ css, c.length = sz) (hn : css.length = n) :
    ∃ A c, v = .slice A n c ∧ RdL w sz A css := by
  obtain ⟨hl, h⟩ := h
  rcases h with ⟨rfl, rfl⟩ | ⟨g, cap, cur, rfl, hb, hg, h1, h2, h3, h4⟩
  · refine ⟨none, 0, rfl, ?_⟩
    obtain rfl : css = [] := List.length_eq_zero_iff.1 hn
    exact RdL.nil_ _ _ _
  · refine ⟨some ⟨g, 0, none⟩, cap, rfl, fun j c hj => ⟨g, 0, rfl, fun i u hu => ?_⟩⟩
    have hjl := (List.getElem?_eq_some_iff.1 hj).1
    have hc : c ∈ css := List.mem_of_getElem? hj
    have hil := (List.getElem?_eq_some_iff.1 hu).1
    have hcl := hs c hc
    have key : ∀ (l : List (List Value)) (j : Nat), (∀ c ∈ l, c.length = sz) → l[j]? = some c → l.flatten[j * sz + i]? = c[i]? := by
      intro l
      induction l with
      | nil => intro j _ h; simp at h
      | cons d r ih =>
        intro j hs' hj'
        cases j with
        | zero =>
          obtain rfl : d = c := by simpa using hj'
          simp only [List.flatten_cons, Nat.zero_mul, Nat.zero_add]
          exact List.getElem?_append_left hil
        | succ j =>
          have hd : d.length = sz := hs' d (by simp)
          simp only [List.flatten_cons]
          rw [List.getElem?_append_right (by rw [hd, Nat.succ_mul]; omega)]
          rw [show (j + 1) * sz + i - d.length = j * sz + i by rw [hd, Nat.succ_mul]; omega]
          exact ih j (fun c hc => hs' c (List.mem_cons_of_mem _ hc)) (by simpa using hj')
    have h5 := key css j hs hj
    rw [← hx, hu] at h5
    rw [← h4] at h5
    have h6 : cur.toList[j * sz + i]? = some u := by
      rw [List.getElem?_take] at h5
      split at h5
      · exact h5
      · cases h5
    rw [show (0 + j * sz + i) = j * sz + i by omega, cell_of_block hg]
    rw [← Array.getElem?_toList]
    exact h6

end Go.Proofs.YthicilfhnakhmaaGreatDoor
