/- Spans: slices.DeleteFunc as Join calls it, walked. -/
import Derived.Test.YthdbbefiebolbaaSpans1
import Derived.Lib.SliceRun
set_option linter.unusedSimpArgs false
set_option linter.unusedVariables false
namespace Go.Proofs.Ythdbbefiebolbaa
open Go.RowKit Go.Sort

/-- a row of numbers at the head of a block -/
def RowIs (w : World) (g : Nat) (f : Nat → Int) (n : Nat) : Prop := ∀ j, j < n → w.cell? ⟨g, j, none⟩ = some (.int .i64 (f j))
theorem RowIs.below {w w' : World} {g n : Nat} {f : Nat → Int} (h : RowIs w g f n) (hb : Below w.heap.size w w') : RowIs w' g f n := fun j hj => cell_below hb (h j hj)
theorem RowIs.set_ {w : World} {g n : Nat} {f : Nat → Int} (h : RowIs w g f n) (i : Nat) (hi : i < n) (x : Int) : RowIs (w.setCell ⟨g, i, none⟩ (.int .i64 x)) g (fun j => if j = i then x else f j) n := by
  intro j hj
  by_cases e : j = i
  · subst e
    rw [World.cell?_setCell_same _ _ _ (h j hj)]
    show _ = some (Value.int .i64 (if j = j then x else f j))
    rw [if_pos rfl]
  · rw [World.cell?_setCell_other _ _ _ _ (by intro hh; injection hh with _ h2; omega), h j hj]
    show _ = some (Value.int .i64 (if j = i then x else f j))
    rw [if_neg e]
theorem frozen_setCell (w : World) (a b : Addr) (v : Value) : (w.setCell a v).frozen? b = w.frozen? b := by
  simp only [World.setCell, World.frozen?, Array.getElem?_modify]
  by_cases hb : a.block = b.block
  · rw [if_pos hb]
    cases hh : w.heap[b.block]? with
    | none => rfl
    | some o => cases o <;> rfl
  · rw [if_neg hb]


/-- what a predicate owes: at each of some things, in every world that has all that was there -/
def spGives (g : Nat) (fv : Array Value) (p : Sp → Bool) (xs : List Sp) (w : World) : Prop :=
  ∀ x ∈ xs, ∀ W : World, Below w.heap.size w W → Calls Try.prog g (#[.agg #[.int .i64 x.1, .int .i64 x.2]] ++ fv) W fun e w' => e = .returned (.bool (p x)) ∧ Below W.heap.size W w'

set_option maxRecDepth 100000 in
set_option maxHeartbeats 800000 in
theorem spIndex (g : Nat) (p : Sp → Bool) (xs : List Sp) (A : Option Addr) (c : Nat) (w : World) (hr : RdL w 2 A (xs.map spC)) (hn : xs.length ≤ 9223372036854775807)
    (hg : spGives g #[] p xs w) (he : ∀ args W, (callFunc g args).run Try.prog W = .ok (.enter g args) W) :
    Calls Try.prog 30 #[.slice A xs.length c, .func (.func g) #[] #[]] w fun e w' => e = .returned (.int .i64 (idxF p xs 0)) ∧ Below w.heap.size w w' := by
  go_enter Try.func30, Try.ntmps30
  go_wp2_with fail
  go_loopg [8] xs.length (fun k i wr => ∃ j : Nat, j ≤ xs.length ∧ xs.length - j ≤ k ∧ Hid (idxF p xs 0 = idxF p (xs.drop j) j) ∧ i = .int .i64 j ∧ Below w.heap.size w wr)
  case atStart => exact ⟨0, by omega, by omega, rfl, rfl, Below.refl _ _⟩
  case round =>
    obtain ⟨j, hj, hjk, hi, rfl, hbel⟩ := hrel
    by_cases hlt : j < xs.length
    · obtain ⟨b, off, rfl, hx⟩ := (hr.below hbel).at_ hlt
      have hmem : xs[j]'hlt ∈ xs := List.getElem_mem hlt
      have hyes := fun h => idxF_drop_yes (p := p) hlt h
      have hno := fun h => idxF_drop_no (p := p) hlt h
      generalize hX : xs[j]'hlt = x at *
      have hgx := hg x hmem
      have g0 : wr.cell? ⟨b, off + j * 2, none⟩ = some (.int .i64 x.1) := hx.get 0 rfl
      have g1 : wr.cell? ⟨b, off + j * 2 + 1, none⟩ = some (.int .i64 x.2) := hx.get 1 rfl
      have HG := Lib.hid hgx
      have HYES := Lib.hid hyes
      have HNO := Lib.hid hno
      have hsz := hbel.size
      clear hgx hyes hno hX hmem hx
      cases hp : p x
      · have HN := Lib.hid (HNO.out hp)
        go_wp2_with fail
        refine (HG.out _ (by repeat' (first | (with_reducible exact Below.refl _ _) | (with_reducible assumption) | (with_reducible refine Below.drew ?_) | (with_reducible refine below_drewN ?_ _) | (with_reducible refine below_iterAt ?_ ?_ _ _) | (with_reducible refine below_iter ?_ ?_ _ _) | (with_reducible refine Below.alloc ?_ ?_ _) | (with_reducible refine Below.setCell ?_ ?_ _) | (with_reducible refine Below.trans ?_ (Below.mono (by assumption) ?_)) | (simp only [sz_alloc, sz_set, sz_drew, sz_drewN, sz_iterAt, sz_iter] at *; omega) | omega | (simp; done) | (simp; omega) | (apply Below.size; assumption) | (simp only [sz_drew, sz_drewN]; apply Below.size; assumption) | (refine Nat.le_trans ?_ (Below.size (by assumption)))))).mono ?_
        rintro e w1 ⟨rfl, hb1⟩
        rw [hp]
        clear hp
        go_wp2_with fail
        go_roundg (gk - 1)
        case measure => omega
        case rel => exact ⟨j + 1, by omega, by omega, hi.out.trans HN.out, by go_num, (by repeat' (first | (with_reducible exact Below.refl _ _) | (with_reducible assumption) | (with_reducible refine Below.drew ?_) | (with_reducible refine below_drewN ?_ _) | (with_reducible refine below_iterAt ?_ ?_ _ _) | (with_reducible refine below_iter ?_ ?_ _ _) | (with_reducible refine Below.alloc ?_ ?_ _) | (with_reducible refine Below.setCell ?_ ?_ _) | (with_reducible refine Below.trans ?_ (Below.mono (by assumption) ?_)) | (simp only [sz_alloc, sz_set, sz_drew, sz_drewN, sz_iterAt, sz_iter] at *; omega) | omega | (simp; done) | (simp; omega) | (apply Below.size; assumption) | (simp only [sz_drew, sz_drewN]; apply Below.size; assumption) | (refine Nat.le_trans ?_ (Below.size (by assumption)))))⟩
      · have HY := Lib.hid (HYES.out hp)
        go_wp2_with fail
        refine (HG.out _ (by repeat' (first | (with_reducible exact Below.refl _ _) | (with_reducible assumption) | (with_reducible refine Below.drew ?_) | (with_reducible refine below_drewN ?_ _) | (with_reducible refine below_iterAt ?_ ?_ _ _) | (with_reducible refine below_iter ?_ ?_ _ _) | (with_reducible refine Below.alloc ?_ ?_ _) | (with_reducible refine Below.setCell ?_ ?_ _) | (with_reducible refine Below.trans ?_ (Below.mono (by assumption) ?_)) | (simp only [sz_alloc, sz_set, sz_drew, sz_drewN, sz_iterAt, sz_iter] at *; omega) | omega | (simp; done) | (simp; omega) | (apply Below.size; assumption) | (simp only [sz_drew, sz_drewN]; apply Below.size; assumption) | (refine Nat.le_trans ?_ (Below.size (by assumption)))))).mono ?_
        rintro e w1 ⟨rfl, hb1⟩
        rw [hp]
        clear hp
        go_wp2_with fail
        go_ret
        exact ⟨ret_int (by rw [hi.out, HY.out]), (by repeat' (first | (with_reducible exact Below.refl _ _) | (with_reducible assumption) | (with_reducible refine Below.drew ?_) | (with_reducible refine below_drewN ?_ _) | (with_reducible refine below_iterAt ?_ ?_ _ _) | (with_reducible refine below_iter ?_ ?_ _ _) | (with_reducible refine Below.alloc ?_ ?_ _) | (with_reducible refine Below.setCell ?_ ?_ _) | (with_reducible refine Below.trans ?_ (Below.mono (by assumption) ?_)) | (simp only [sz_alloc, sz_set, sz_drew, sz_drewN, sz_iterAt, sz_iter] at *; omega) | omega | (simp; done) | (simp; omega) | (apply Below.size; assumption) | (simp only [sz_drew, sz_drewN]; apply Below.size; assumption) | (refine Nat.le_trans ?_ (Below.size (by assumption)))))⟩
    · have HE := Lib.hid (idxF_drop_end (p := p) hlt)
      go_wp2_with fail
      go_ret
      exact ⟨ret_int (by rw [hi.out, HE.out]), hbel⟩


theorem idxF_spec {p : Sp → Bool} : ∀ (l : List Sp) (k : Nat), (idxF p l k = -1 ∧ ∀ t (h : t < l.length), p (l[t]'h) = false) ∨ (∃ i, ∃ h : i < l.length, idxF p l k = ((k + i : Nat) : Int) ∧ p (l[i]'h) = true ∧ ∀ t (h2 : t < l.length), t < i → p (l[t]'h2) = false)
  | [], k => Or.inl ⟨rfl, fun t h => by simp at h⟩
  | x :: r, k => by
    cases hp : p x
    · have e : idxF p (x :: r) k = idxF p r (k + 1) := by show (if p x = true then _ else _) = _; rw [if_neg (by rw [hp]; simp)]
      rw [e]
      rcases idxF_spec r (k + 1) with ⟨h1, h2⟩ | ⟨i, h, h1, h2, h3⟩
      · refine Or.inl ⟨h1, fun t h => ?_⟩
        cases t with
        | zero => exact hp
        | succ t => exact h2 t (by simpa using h)
      · refine Or.inr ⟨i + 1, by simpa using h, by rw [h1]; congr 1; omega, h2, fun t h4 h5 => ?_⟩
        cases t with
        | zero => exact hp
        | succ t => exact h3 t (by simpa using h4) (by omega)
    · have e : idxF p (x :: r) k = (k : Int) := by show (if p x = true then _ else _) = _; rw [if_pos hp]
      exact Or.inr ⟨0, by simp, by rw [e]; simp, hp, fun t _ h => absurd h (by omega)⟩

/-- the row on the way -/
structure KInv (l : List Sp) (f : Nat → Int) (i j : Nat) : Prop where
  len : ((l.take j).filter okS).length = i
  low : ∀ t (h : t < ((l.take j).filter okS).length), f (t * 2) = (((l.take j).filter okS)[t]'h).1 ∧ f (t * 2 + 1) = (((l.take j).filter okS)[t]'h).2
  high : ∀ t (h : t < l.length), j ≤ t → f (t * 2) = (l[t]'h).1 ∧ f (t * 2 + 1) = (l[t]'h).2
  lt : i < j
  le : j ≤ l.length
theorem filter_all {l : List Sp} (h : ∀ t (h : t < l.length), okS (l[t]'h) = true) : l.filter okS = l := List.filter_eq_self.2 fun x hx => by
  obtain ⟨t, ht, rfl⟩ := List.getElem_of_mem hx
  exact h t ht
theorem KInv.start {l : List Sp} {f : Nat → Int} {i : Nat} (hi : i < l.length) (hb : okS (l[i]'hi) = false) (ha : ∀ t (h : t < l.length), t < i → okS (l[t]'h) = true) (hf : ∀ t (h : t < l.length), f (t * 2) = (l[t]'h).1 ∧ f (t * 2 + 1) = (l[t]'h).2) : KInv l f i (i + 1) := by
  have e : (l.take (i + 1)).filter okS = l.take i := by
    rw [List.take_succ_eq_append_getElem hi, List.filter_append]
    have h1 : (l.take i).filter okS = l.take i := filter_all fun t h => by
      rw [List.getElem_take]
      exact ha t (by simp at h; omega) (by simp at h; omega)
    rw [h1]
    simp [hb]
  refine ⟨by rw [e]; simp; omega, fun t h => ?_, fun t h _ => hf t h, by omega, by omega⟩
  have ht : t < (l.take i).length := by rw [← e]; exact h
  have hl : t < l.length := by simp at ht; omega
  have hg : ((l.take (i + 1)).filter okS)[t]'h = l[t]'hl := by
    have : ((l.take (i + 1)).filter okS)[t]? = (l.take i)[t]? := by rw [e]
    rw [List.getElem?_eq_getElem h, List.getElem?_eq_getElem ht, List.getElem_take] at this
    exact Option.some.inj this
  rw [hg]; exact hf t hl
theorem KInv.skip {l : List Sp} {f : Nat → Int} {i j : Nat} (h : KInv l f i j) (hj : j < l.length) (hb : okS (l[j]'hj) = false) : KInv l f i (j + 1) := by
  have e : (l.take (j + 1)).filter okS = (l.take j).filter okS := by
    rw [List.take_succ_eq_append_getElem hj, List.filter_append]; simp [hb]
  refine ⟨by rw [e]; exact h.len, ?_, fun t ht hh => h.high t ht (by omega), by have := h.lt; omega, by omega⟩
  rw [e]; exact h.low
theorem KInv.keep {l : List Sp} {f : Nat → Int} {i j : Nat} (h : KInv l f i j) (hj : j < l.length) (hb : okS (l[j]'hj) = true) :
    KInv l (fun t => if t = i * 2 + 1 then (l[j]'hj).2 else if t = i * 2 then (l[j]'hj).1 else f t) (i + 1) (j + 1) := by
  have e : (l.take (j + 1)).filter okS = (l.take j).filter okS ++ [l[j]'hj] := by
    rw [List.take_succ_eq_append_getElem hj, List.filter_append]; simp [hb]
  have hlen := h.len
  have hlt := h.lt
  refine ⟨by rw [e]; simp [hlen], fun t ht => ?_, fun t ht hh => ?_, by omega, by omega⟩
  · have hg : ∀ (hq : t < ((l.take j).filter okS ++ [l[j]'hj]).length), ((l.take (j + 1)).filter okS)[t]'ht = ((l.take j).filter okS ++ [l[j]'hj])[t]'hq := fun hq => by
      have : ((l.take (j + 1)).filter okS)[t]? = ((l.take j).filter okS ++ [l[j]'hj])[t]? := by rw [e]
      rw [List.getElem?_eq_getElem ht, List.getElem?_eq_getElem hq] at this
      exact Option.some.inj this
    have hq : t < ((l.take j).filter okS ++ [l[j]'hj]).length := by rw [← e]; exact ht
    rw [hg hq]
    by_cases h1 : t < ((l.take j).filter okS).length
    · rw [List.getElem_append_left h1]
      have := h.low t h1
      show (if t * 2 = i * 2 + 1 then _ else if t * 2 = i * 2 then _ else _) = _ ∧ (if t * 2 + 1 = i * 2 + 1 then _ else if t * 2 + 1 = i * 2 then _ else _) = _
      rw [if_neg (by omega), if_neg (by omega), if_neg (by omega), if_neg (by omega)]
      exact this
    · have h2 : t = i := by simp [hlen] at hq; omega
      subst h2
      rw [List.getElem_append_right (by omega)]
      simp [hlen]
  · have := h.high t ht (by omega)
    show (if t * 2 = i * 2 + 1 then _ else if t * 2 = i * 2 then _ else _) = _ ∧ (if t * 2 + 1 = i * 2 + 1 then _ else if t * 2 + 1 = i * 2 then _ else _) = _
    rw [if_neg (by omega), if_neg (by omega), if_neg (by omega), if_neg (by omega)]
    exact this

theorem run_clear2 (w : World) (g o n c : Nat) (hn : 0 < n) (hc : ∀ j, j < n * 2 → (w.cell? ⟨g, o + j, none⟩).isSome = true) (hf : ∀ j, j < n * 2 → w.frozen? ⟨g, o + j, none⟩ = false) (ty : TypeId) :
    (Builtin.clear_ #[22] ty #[.slice (some ⟨g, o, none⟩) n c]).run Try.prog w = .ok (.tuple #[]) (w.setCells g o (List.replicate (n * 2) (.int .i64 0))) := by
  have hv : ∀ w, (zeroValue 35).run Try.prog w = .ok (.agg #[.int .i64 0, .int .i64 0]) w := Try.zeroValue35
  have hzc : (Builtin.zeroCells (Value.agg #[.int .i64 0, .int .i64 0]).cells n).toList = List.replicate (n * 2) (.int .i64 0) := by
    simp [Builtin.zeroCells, Value.cells]
    apply List.ext_getElem
    · simp; try omega
    · intro i h1 h2
      simp
      rcases Nat.mod_two_eq_zero_or_one i with h | h <;> simp [h]
  have hst := run_storeCells_cells (P := Try.prog) g o (List.replicate (n * 2) (.int .i64 0)) 0 w (by simpa using hc) (by simpa using hf) (by intro v hv'; rw [List.eq_of_mem_replicate hv']; rfl)
  simp only [Nat.add_zero] at hst
  obtain ⟨m, rfl⟩ : ∃ m, n = m + 1 := ⟨n - 1, by omega⟩
  simp [Builtin.clear_, run_underlying Try.underlying22, hv, hzc, hst]
end Go.Proofs.Ythdbbefiebolbaa
