import Derived.Test.YtankkadnhdfpfaaGreatDoorPk16
import Derived.Lib.SliceRun
import Derived.Test.YtankkadnhdfpfaaGreatDoorShelfV
import Derived.Test.YtankkadnhdfpfaaGreatDoorPk10
/- Spans: slices.DeleteFunc as Join calls it, walked. -/
set_option linter.unusedSimpArgs false
set_option linter.unusedVariables false
namespace Go.Proofs.YtankkadnhdfpfaaGreatDoor.Sp
open Go.RowKit Go.Sort

def RowIs (w : World) (g : Nat) (f : Nat → Int) (n : Nat) : Prop := ∀ j, j < n → w.cell? ⟨g, j, none⟩ = some (.int .i64 (f j))
theorem RowIs.below {w w' : World} {g n : Nat} {f : Nat → Int} (h : RowIs w g f n) (hb : Below w.heap.size w w') : RowIs w' g f n := fun j hj => cell_below hb (h j hj)
theorem RowIs.set_ {w : World} {g n : Nat} {f : Nat → Int} (h : RowIs w g f n) (i : Nat) (hi : i < n) (x : Int) : RowIs (w.setCell ⟨g, i, none⟩ (.int .i64 x)) g (fun j => if j = i then x else f j) n := by
  intro j hj
  by_cases e : j = i
  · subst e
    rw [World.cell?_setCell_same _ _ _ (h j hj)]
    show _ = some (Value.int .i64 (if j = j then x else f j))
    rw [if_pos rfl]
  · rw [World.cell?_setCell_other _ _ _ _ (by intro hh; injection hh with _ h2; omega), h j hj]
    show _ = some (Value.int .i64 (if j = i then x else f j))
    rw [if_neg e]
theorem frozen_setCell (w : World) (a b : Addr) (v : Value) : (w.setCell a v).frozen? b = w.frozen? b := by
  simp only [World.setCell, World.frozen?, Array.getElem?_modify]
  by_cases hb : a.block = b.block
  · rw [if_pos hb]
    cases hh : w.heap[b.block]? with
    | none => rfl
    | some o => cases o <;> rfl
  · rw [if_neg hb]


def spGives (g : Nat) (fv : Array Value) (p : Sp → Bool) (xs : List Sp) (w : World) : Prop :=
  ∀ x ∈ xs, ∀ W : World, Below w.heap.size w W → Calls Tryz.prog g (#[.agg #[.int .i64 x.1, .int .i64 x.2]] ++ fv) W fun e w' => e = .returned (.bool (p x)) ∧ Below W.heap.size W w'

set_option maxRecDepth 100000 in
set_option maxHeartbeats 800000 in
theorem spIndex (g : Nat) (p : Sp → Bool) (xs : List Sp) (A : Option Addr) (c : Nat) (w : World) (hr : RdL w 2 A (xs.map spC)) (hn : xs.length ≤ 9223372036854775807)
    (hg : spGives g #[] p xs w) (he : ∀ args W, (callFunc g args).run Tryz.prog W = .ok (.enter g args) W) :
    Calls Tryz.prog 139 #[.slice A xs.length c, .func (.func g) #[] #[]] w fun e w' => e = .returned (.int .i64 (idxF p xs 0)) ∧ Below w.heap.size w w' := by
  go_enter Tryz.func139, Tryz.ntmps139
  go_wp2_with fail
  go_loopg [8] xs.length (fun k i wr => ∃ j : Nat, j ≤ xs.length ∧ xs.length - j ≤ k ∧ Hid (idxF p xs 0 = idxF p (xs.drop j) j) ∧ i = .int .i64 j ∧ Below w.heap.size w wr)
  case atStart => exact ⟨0, by omega, by omega, rfl, rfl, Below.refl _ _⟩
  case round =>
    obtain ⟨j, hj, hjk, hi, rfl, hbel⟩ := hrel
    by_cases hlt : j < xs.length
    · obtain ⟨b, off, rfl, hx⟩ := (hr.below hbel).at_ hlt
      have hmem : xs[j]'hlt ∈ xs := List.getElem_mem hlt
      have hyes := fun h => idxF_drop_yes (p := p) hlt h
      have hno := fun h => idxF_drop_no (p := p) hlt h
      generalize hX : xs[j]'hlt = x at *
      have hgx := hg x hmem
      have g0 : wr.cell? ⟨b, off + j * 2, none⟩ = some (.int .i64 x.1) := hx.get 0 rfl
      have g1 : wr.cell? ⟨b, off + j * 2 + 1, none⟩ = some (.int .i64 x.2) := hx.get 1 rfl
      have HG := Lib.hid hgx
      have HYES := Lib.hid hyes
      have HNO := Lib.hid hno
      have hsz := hbel.size
      clear hgx hyes hno hX hmem hx
      cases hp : p x
      · have HN := Lib.hid (HNO.out hp)
        go_wp2_with fail
        refine (HG.out _ bel).mono ?_
        rintro e w1 ⟨rfl, hb1⟩
        rw [hp]
        clear hp
        go_wp2_with fail
        go_roundg (gk - 1)
        case measure => omega
        case rel => exact ⟨j + 1, by omega, by omega, hi.out.trans HN.out, by go_num, bel⟩
      · have HY := Lib.hid (HYES.out hp)
        go_wp2_with fail
        refine (HG.out _ bel).mono ?_
        rintro e w1 ⟨rfl, hb1⟩
        rw [hp]
        clear hp
        go_wp2_with fail
        go_ret
        exact ⟨ret_int (by rw [hi.out, HY.out]), bel⟩
    · have HE := Lib.hid (idxF_drop_end (p := p) hlt)
      go_wp2_with fail
      go_ret
      exact ⟨ret_int (by rw [hi.out, HE.out]), hbel⟩


theorem idxF_spec {p : Sp → Bool} : ∀ (l : List Sp) (k : Nat), (idxF p l k = -1 ∧ ∀ t (h : t < l.length), p (l[t]'h) = false) ∨ (∃ i, ∃ h : i < l.length, idxF p l k = ((k + i : Nat) : Int) ∧ p (l[i]'h) = true ∧ ∀ t (h2 : t < l.length), t < i → p (l[t]'h2) = false)
  | [], k => Or.inl ⟨rfl, fun t h => by simp at h⟩
  | x :: r, k => by
    cases hp : p x
    · have e : idxF p (x :: r) k = idxF p r (k + 1) := by show (if p x = true then _ else _) = _; rw [if_neg (by rw [hp]; simp)]
      rw [e]
      rcases idxF_spec r (k + 1) with ⟨h1, h2⟩ | ⟨i, h, h1, h2, h3⟩
      · refine Or.inl ⟨h1, fun t h => ?_⟩
        cases t with
        | zero => exact hp
        | succ t => exact h2 t (by simpa using h)
      · refine Or.inr ⟨i + 1, by simpa using h, by rw [h1]; congr 1; omega, h2, fun t h4 h5 => ?_⟩
        cases t with
        | zero => exact hp
        | succ t => exact h3 t (by simpa using h4) (by omega)
    · have e : idxF p (x :: r) k = (k : Int) := by show (if p x = true then _ else _) = _; rw [if_pos hp]
      exact Or.inr ⟨0, by simp, by rw [e]; simp, hp, fun t _ h => absurd h (by omega)⟩

structure KInv (l : List Sp) (f : Nat → Int) (i j : Nat) : Prop where
  len : ((l.take j).filter okS).length = i
  low : ∀ t (h : t < ((l.take j).filter okS).length), f (t * 2) = (((l.take j).filter okS)[t]'h).1 ∧ f (t * 2 + 1) = (((l.take j).filter okS)[t]'h).2
  high : ∀ t (h : t < l.length), j ≤ t → f (t * 2) = (l[t]'h).1 ∧ f (t * 2 + 1) = (l[t]'h).2
  lt : i < j
  le : j ≤ l.length
theorem filter_all {l : List Sp} (h : ∀ t (h : t < l.length), okS (l[t]'h) = true) : l.filter okS = l := List.filter_eq_self.2 fun x hx => by
  obtain ⟨t, ht, rfl⟩ := List.getElem_of_mem hx
  exact h t ht
theorem KInv.start {l : List Sp} {f : Nat → Int} {i : Nat} (hi : i < l.length) (hb : okS (l[i]'hi) = false) (ha : ∀ t (h : t < l.length), t < i → okS (l[t]'h) = true) (hf : ∀ t (h : t < l.length), f (t * 2) = (l[t]'h).1 ∧ f (t * 2 + 1) = (l[t]'h).2) : KInv l f i (i + 1) := by
  have e : (l.take (i + 1)).filter okS = l.take i := by
    rw [List.take_succ_eq_append_getElem hi, List.filter_append]
    have h1 : (l.take i).filter okS = l.take i := filter_all fun t h => by
      rw [List.getElem_take]
      exact ha t (by simp at h; omega) (by simp at h; omega)
    rw [h1]
    simp [hb]
  refine ⟨by rw [e]; simp; omega, fun t h => ?_, fun t h _ => hf t h, by omega, by omega⟩
  have ht : t < (l.take i).length := by rw [← e]; exact h
  have hl : t < l.length := by simp at ht; omega
  have hg : ((l.take (i + 1)).filter okS)[t]'h = l[t]'hl := by
    have : ((l.take (i + 1)).filter okS)[t]? = (l.take i)[t]? := by rw [e]
    rw [List.getElem?_eq_getElem h, List.getElem?_eq_getElem ht, List.getElem_take] at this
    exact Option.some.inj this
  rw [hg]; exact hf t hl
theorem KInv.skip {l : List Sp} {f : Nat → Int} {i j : Nat} (h : KInv l f i j) (hj : j < l.length) (hb : okS (l[j]'hj) = false) : KInv l f i (j + 1) := by
  have e : (l.take (j + 1)).filter okS = (l.take j).filter okS := by
    rw [List.take_succ_eq_append_getElem hj, List.filter_append]; simp [hb]
  refine ⟨by rw [e]; exact h.len, ?_, fun t ht hh => h.high t ht (by omega), by have := h.lt; omega, by omega⟩
  rw [e]; exact h.low
theorem KInv.keep {l : List Sp} {f : Nat → Int} {i j : Nat} (h : KInv l f i j) (hj : j < l.length) (hb : okS (l[j]'hj) = true) :
    KInv l (fun t => if t = i * 2 + 1 then (l[j]'hj).2 else if t = i * 2 then (l[j]'hj).1 else f t) (i + 1) (j + 1) := by
  have e : (l.take (j + 1)).filter okS = (l.take j).filter okS ++ [l[j]'hj] := by
    rw [List.take_succ_eq_append_getElem hj, List.filter_append]; simp [hb]
  have hlen := h.len
  have hlt := h.lt
  refine ⟨by rw [e]; simp [hlen], fun t ht => ?_, fun t ht hh => ?_, by omega, by omega⟩
  · have hg : ∀ (hq : t < ((l.take j).filter okS ++ [l[j]'hj]).length), ((l.take (j + 1)).filter okS)[t]'ht = ((l.take j).filter okS ++ [l[j]'hj])[t]'hq := fun hq => by
      have : ((l.take (j + 1)).filter okS)[t]? = ((l.take j).filter okS ++ [l[j]'hj])[t]? := by rw [e]
      rw [List.getElem?_eq_getElem ht, List.getElem?_eq_getElem hq] at this
      exact Option.some.inj this
    have hq : t < ((l.take j).filter okS ++ [l[j]'hj]).length := by rw [← e]; exact ht
    rw [hg hq]
    by_cases h1 : t < ((l.take j).filter okS).length
    · rw [List.getElem_append_left h1]
      have := h.low t h1
      show (if t * 2 = i * 2 + 1 then _ else if t * 2 = i * 2 then _ else _) = _ ∧ (if t * 2 + 1 = i * 2 + 1 then _ else if t * 2 + 1 = i * 2 then _ else _) = _
      rw [if_neg (by omega), if_neg (by omega), if_neg (by omega), if_neg (by omega)]
      exact this
    · have h2 : t = i := by simp [hlen] at hq; omega
      subst h2
      rw [List.getElem_append_right (by omega)]
      simp [hlen]
  · have := h.high t ht (by omega)
    show (if t * 2 = i * 2 + 1 then _ else if t * 2 = i * 2 then _ else _) = _ ∧ (if t * 2 + 1 = i * 2 + 1 then _ else if t * 2 + 1 = i * 2 then _ else _) = _
    rw [if_neg (by omega), if_neg (by omega), if_neg (by omega), if_neg (by omega)]
    exact this

theorem run_clear2 (w : World) (g o n c : Nat) (hn : 0 < n) (hc : ∀ j, j < n * 2 → (w.cell? ⟨g, o + j, none⟩).isSome = true) (hf : ∀ j, j < n * 2 → w.frozen? ⟨g, o + j, none⟩ = false) (ty : TypeId) :
    (Builtin.clear_ #[31] ty #[.slice (some ⟨g, o, none⟩) n c]).run Tryz.prog w = .ok (.tuple #[]) (w.setCells g o (List.replicate (n * 2) (.int .i64 0))) := by
  have hv : ∀ w, (zeroValue 86).run Tryz.prog w = .ok (.agg #[.int .i64 0, .int .i64 0]) w := Tryz.zeroValue86
  have hzc : (Builtin.zeroCells (Value.agg #[.int .i64 0, .int .i64 0]).cells n).toList = List.replicate (n * 2) (.int .i64 0) := by
    simp [Builtin.zeroCells, Value.cells]
    apply List.ext_getElem
    · simp; try omega
    · intro i h1 h2
      simp
      rcases Nat.mod_two_eq_zero_or_one i with h | h <;> simp [h]
  have hst := run_storeCells_cells (P := Tryz.prog) g o (List.replicate (n * 2) (.int .i64 0)) 0 w (by simpa using hc) (by simpa using hf) (by intro v hv'; rw [List.eq_of_mem_replicate hv']; rfl)
  simp only [Nat.add_zero] at hst
  obtain ⟨m, rfl⟩ : ∃ m, n = m + 1 := ⟨n - 1, by omega⟩
  simp [Builtin.clear_, run_underlying Tryz.underlying31, hv, hzc, hst]
end Go.Proofs.YtankkadnhdfpfaaGreatDoor.Sp

/- Spans: slices.DeleteFunc as Join calls it, walked. -/
set_option linter.unusedSimpArgs false
set_option linter.unusedVariables false
namespace Go.Proofs.YtankkadnhdfpfaaGreatDoor.Sp
open Go.RowKit Go.Sort

theorem row_rd {w : World} {g : Nat} {f : Nat → Int} {l : List Sp} (hf : RowIs w g f (l.length * 2)) (hfl : ∀ t (h : t < l.length), f (t * 2) = (l[t]'h).1 ∧ f (t * 2 + 1) = (l[t]'h).2) : RdL w 2 (some ⟨g, 0, none⟩) (l.map spC) := by
  intro j c hc
  rw [List.getElem?_map, Option.map_eq_some_iff] at hc
  obtain ⟨x, hx, rfl⟩ := hc
  obtain ⟨hj, rfl⟩ := List.getElem?_eq_some_iff.1 hx
  refine ⟨g, 0, rfl, fun i v hv => ?_⟩
  have h := hfl j hj
  match i, hv with
  | 0, hv =>
    have e : v = .int .i64 (l[j]'hj).1 := by simpa [spC] using hv.symm
    rw [show 0 + j * 2 + 0 = j * 2 by omega, hf (j * 2) (by omega), e, h.1]
  | 1, hv =>
    have e : v = .int .i64 (l[j]'hj).2 := by simpa [spC] using hv.symm
    rw [show 0 + j * 2 + 1 = j * 2 + 1 by omega, hf (j * 2 + 1) (by omega), e, h.2]
  | i + 2, hv => simp [spC] at hv
theorem RowIs.less {w : World} {g n m : Nat} {f : Nat → Int} (h : RowIs w g f n) (hm : m ≤ n) : RowIs w g f m := fun j hj => h j (by omega)

theorem below_setCells {base g : Nat} (hg : base ≤ g) {a : World} : ∀ (vs : List Value) (o : Nat) {w : World}, Below base a w → Below base a (w.setCells g o vs)
  | [], _, _, h => h
  | v :: r, o, _, h => below_setCells hg r (o + 1) (h.setCell (by exact hg) _)

set_option maxRecDepth 100000 in
set_option maxHeartbeats 1600000 in
theorem delete_any (l : List Sp) (f : Nat → Int) (g cap base : Nat) (w : World) (hbase : base ≤ g) (hbw : base ≤ w.heap.size) (hg : g < w.heap.size) (hf : RowIs w g f (l.length * 2)) (hfr : ∀ o, w.frozen? ⟨g, o, none⟩ = false)
    (hfl : ∀ t (h : t < l.length), f (t * 2) = (l[t]'h).1 ∧ f (t * 2 + 1) = (l[t]'h).2) (hcap : l.length ≤ cap) (hn : l.length ≤ 4611686018427387903) :
    Calls Tryz.prog 121 #[.slice (some ⟨g, 0, none⟩) l.length cap, .func (.func 123) #[] #[]] w fun e w' =>
      e = .returned (.slice (some ⟨g, 0, none⟩) (l.filter okS).length cap) ∧ ∃ f', RowIs w' g f' ((l.filter okS).length * 2) ∧ (∀ o, w'.frozen? ⟨g, o, none⟩ = false) ∧
        (∀ t (h : t < (l.filter okS).length), f' (t * 2) = ((l.filter okS)[t]'h).1 ∧ f' (t * 2 + 1) = ((l.filter okS)[t]'h).2) ∧ Below base w w' := by
  have hgives : spGives 123 #[] (fun x => !okS x) l w := fun x _ W _ => join1_any x W
  have eg : ∀ args W, (callFunc 123 args).run Tryz.prog W = .ok (.enter 123 args) W := enters_of Tryz.func123 (by kernel_rfl) rfl
  have hix := spIndex 123 (fun x => !okS x) l _ cap w (row_rd hf hfl) (by omega) hgives eg
  have HFL := Lib.hid hfl
  clear hfl hgives
  rcases idxF_spec (p := fun x => !okS x) l 0 with ⟨h1, h2⟩ | ⟨i0, hi0, h1, h2, h3⟩
  · have hall : l.filter okS = l := filter_all fun t h => by simpa using h2 t h
    rw [hall]
    rw [h1] at hix
    have HF := Lib.hid hf
    clear h1 h2 hall hf eg
    go_enter Tryz.func121, Tryz.ntmps121
    go_wp2_with fail
    refine hix.mono ?_
    rintro e w1 ⟨rfl, hb1⟩
    clear hix
    go_wp2_with fail
    go_ret
    exact ⟨rfl, f, HF.out.below hb1, fun o => (hb1.frozen (p := ⟨g, o, none⟩) hg).trans (hfr o), HFL.out, hb1.mono hbw⟩
  · rw [h1, Nat.zero_add] at hix
    have hstart := KInv.start hi0 (by simpa using h2) (fun t h h' => by simpa using h3 t h h') HFL.out
    have HS := Lib.hid hstart
    have HF := Lib.hid hf
    have HEG := Lib.hid eg
    have hne : ((i0 : Int) == -1) = false := beq_eq_false_iff_ne.2 (by omega)
    clear h1 h2 h3 hf hstart eg
    go_enter Tryz.func121, Tryz.ntmps121
    go_wp2_with fail
    refine hix.mono ?_
    rintro e w1 ⟨rfl, hb1⟩
    clear hix
    have hz1 := hb1.size
    have hbm1 : Below base w w1 := hb1.mono hbw
    have hrow1 : RowIs w1 g f (l.length * 2) := HF.out.below hb1
    have hfr1 : ∀ o, w1.frozen? ⟨g, o, none⟩ = false := fun o => (hb1.frozen (p := ⟨g, o, none⟩) hg).trans (hfr o)
    have HR1 := Lib.hid hrow1
    have HFR1 := Lib.hid hfr1
    clear hrow1 hfr1 hfr hb1
    go_wp2_with fail
    clear hne
    go_loopg [5, 6] l.length (fun k iv jv wr => ∃ (i j : Nat) (f' : Nat → Int), iv = .int .i64 i ∧ jv = .int .i64 j ∧ l.length - j ≤ k ∧ Hid (KInv l f' i j) ∧ Hid (RowIs wr g f' (l.length * 2)) ∧ Hid (∀ o, wr.frozen? ⟨g, o, none⟩ = false) ∧ g < wr.heap.size ∧ base ≤ wr.heap.size ∧ Below base w wr)
    case atStart => exact ⟨i0, i0 + 1, f, rfl, by go_num, by omega, HS, HR1, HFR1, by omega, by omega, hbm1⟩
    case round =>
      obtain ⟨i, j, f', rfl, rfl, hjk, hK, hR, hFR, hgr, hbr, hbel⟩ := hrel
      have hKo := hK.out
      have hij := hKo.lt
      have hjl := hKo.le
      clear hKo
      by_cases hlt : j < l.length
      · have hx := hK.out.high j hlt (Nat.le_refl _)
        have hok : okS (l[j]'hlt) = okS (l[j]'hlt) := rfl
        obtain ⟨x, hxe⟩ : ∃ x, l[j]'hlt = x := ⟨_, rfl⟩
        rw [hxe] at hx
        have c0 : wr.cell? ⟨g, j * 2, none⟩ = some (.int .i64 x.1) := by rw [hR.out (j * 2) (by omega), hx.1]
        have c1 : wr.cell? ⟨g, j * 2 + 1, none⟩ = some (.int .i64 x.2) := by rw [hR.out (j * 2 + 1) (by omega), hx.2]
        have HX := Lib.hid hxe
        clear hx hok hxe
        have a1 : (0 : Int) ≤ (j : Int) := by omega
        have a2 : (j : Int) < (l.length : Int) := by omega
        have a3 : (0 : Int) ≤ (i : Int) := by omega
        have a4 : (i : Int) < (l.length : Int) := by omega
        cases hk : okS x
        · go_wp2_with fail
          refine (join1_any x _).mono ?_
          rintro e w2 ⟨rfl, hb2⟩
          rw [hk]
          have hz2 := hb2.size
          try simp at hz2
          go_wp2_with fail
          go_roundg (l.length - (j + 1))
          case measure => omega
          case rel =>
            refine ⟨i, j + 1, f', by go_num, by go_num, by omega, hK.out.skip hlt (by rw [HX.out]; exact hk), ?_, ?_, by omega, by omega, ?_⟩
            · exact (hR.out.below (by exact bel : Below wr.heap.size wr w2))
            · exact fun o => ((by exact bel : Below wr.heap.size wr w2).frozen (p := ⟨g, o, none⟩) hgr).trans (hFR.out o)
            · exact hbel.trans ((by exact bel : Below wr.heap.size wr w2).mono hbr)
        · go_wp2_with fail
          refine (join1_any x _).mono ?_
          rintro e w2 ⟨rfl, hb2⟩
          rw [hk]
          have hz2 := hb2.size
          try simp at hz2
          obtain ⟨q2_0, l2_0, r2_0⟩ := aft hb2 (wr.heap.size)
          have hbz : Below wr.heap.size wr w2 := bel
          have hzz := hbz.size
          have hR2 : RowIs w2 g f' (l.length * 2) := hR.out.below hbz
          have hF2 : ∀ o, w2.frozen? ⟨g, o, none⟩ = false := fun o => (hbz.frozen (p := ⟨g, o, none⟩) hgr).trans (hFR.out o)
          have d0 := hR2 (i * 2) (by omega)
          have d1 := hR2 (i * 2 + 1) (by omega)
          have e0 := hF2 (i * 2)
          have e1 := hF2 (i * 2 + 1)
          have HR2 := Lib.hid hR2
          have HF2 := Lib.hid hF2
          clear hR2 hF2
          go_wp2_with fail
          go_roundg (l.length - (j + 1))
          case measure => omega
          case rel =>
            have hk2 := hK.out.keep hlt (by rw [HX.out]; exact hk)
            rw [HX.out] at hk2
            refine ⟨i + 1, j + 1, _, by go_num, by go_num, by omega, hk2, ?_, ?_, by simp; omega, by simp; omega, ?_⟩
            · have := (HR2.out.set_ (i * 2) (by omega) x.1).set_ (i * 2 + 1) (by omega) x.2
              exact this
            · intro o
              rw [frozen_setCell, frozen_setCell]
              exact HF2.out o
            · have h0 : Below base w w2 := hbel.trans (hbz.mono hbr)
              exact (h0.setCell (by exact hbase) _).setCell (by exact hbase) _
      · have hje : j = l.length := by omega
        subst hje
        have hK2 := hK.out
        have hlen : (l.filter okS).length = i := by have := hK2.len; rw [List.take_length] at this; exact this
        have hlow : ∀ t (h : t < (l.filter okS).length), f' (t * 2) = ((l.filter okS)[t]'h).1 ∧ f' (t * 2 + 1) = ((l.filter okS)[t]'h).2 := by
          intro t h
          have hq : t < ((l.take l.length).filter okS).length := by rw [List.take_length]; exact h
          have := hK2.low t hq
          simp only [List.take_length] at this
          exact this
        have a2 : ¬ ((l.length : Int) < (l.length : Int)) := by omega
        have a3 : (0 : Int) ≤ (i : Int) := by omega
        have a4 : (i : Int) ≤ (l.length : Int) := by omega
        have a5 : (l.length : Int) ≤ (cap : Int) := by omega
        have a6 : (i : Int) ≤ (cap : Int) := by omega
        have hcl := run_clear2 wr g (i * 2) (l.length - i) (cap - i) (by omega) (fun t ht => by rw [hR.out (i * 2 + t) (by omega)]; rfl) (fun t ht => hFR.out _)
        have HL := Lib.hid hlen
        have HLOW := Lib.hid hlow
        clear hK2 hlen hlow
        go_wp2_with fail
        go_ret
        refine ⟨by rw [HL.out]; rfl, f', ?_, ?_, HLOW.out, below_setCells hbase _ _ hbel⟩
        · rw [HL.out]
          intro t ht
          rw [World.cell?_setCells_out g _ _ _ _ (fun _ _ => Or.inl (show t < i * 2 by omega))]
          exact hR.out t (by omega)
        · intro o
          rw [World.frozen?_setCells]
          exact hFR.out o
end Go.Proofs.YtankkadnhdfpfaaGreatDoor.Sp

/- Spans: slices.Clone, SortFunc and Clip as Join calls them. -/
set_option linter.unusedSimpArgs false
set_option linter.unusedVariables false
namespace Go.Proofs.YtankkadnhdfpfaaGreatDoor.Sp
open Go.RowKit Go.Sort

theorem ltS (x y : Sp) : ltOf cmpS x y = decide (x.1 < y.1) := by
  unfold ltOf cmpS Lib.compareInt
  by_cases h1 : x.1 < y.1
  · simp [h1]
  · by_cases h2 : y.1 < x.1 <;> simp [h1, h2]
theorem swoS : SWO (ltOf cmpS) where
  irrefl x := by rw [ltS]; simp
  trans x y z h1 h2 := by rw [ltS] at *; simp at *; omega
  ntrans x y z h1 h2 := by rw [ltS] at *; simp at *; omega
theorem cmpLaysS (blk off size : Nat) (w : World) : Go.Proofs.CmpLays Tryz.prog 125 #[] spC 2 cmpS blk off size w :=
  fun _ _ _ _ x y => join2_any x y _

theorem below_sortWorld {base g n : Nat} {w : World} {d : Array Sp} {os : Array Obj} (hg : base ≤ g) (hb : base ≤ w.heap.size) : Below base w (Go.Proofs.sortWorldK spC 2 w g 0 n d os) := by
  refine ⟨rfl, rfl, rfl, ?_, fun k hk => ?_⟩
  · show w.heap.size ≤ (_ ++ os).size
    simp [Go.Proofs.sortWorldK, putRowK, putRow, mapBlock, Go.Sort.ahead, grow]
  · have hk2 : k < w.heap.size := by omega
    simp [Go.Proofs.sortWorldK, putRowK, putRow, mapBlock, Go.Sort.ahead, grow, Array.getElem?_append, hk2, Array.getElem?_modify]
    rw [Array.getElem_modify, if_neg (by omega)]
theorem holds_rd {w : World} {g : Nat} {d : Array Sp} (h : HoldsK spC 2 w g 0 d) : RdL w 2 (some ⟨g, 0, none⟩) (d.toList.map spC) := by
  intro j c hc
  rw [List.getElem?_map, Option.map_eq_some_iff] at hc
  obtain ⟨x, hx, rfl⟩ := hc
  obtain ⟨hj, rfl⟩ := List.getElem?_eq_some_iff.1 hx
  have hj' : j < d.size := by simpa using hj
  refine ⟨g, 0, rfl, fun i v hv => ?_⟩
  have hi : i < 2 := by have := (List.getElem?_eq_some_iff.1 hv).1; simpa [spC] using this
  have h1 := (h (j * 2 + i) (by rw [size_flatK]; omega)).1
  rw [get_flatK _ _ _ _ (by omega), show (j * 2 + i) / 2 = j by omega, show (j * 2 + i) % 2 = i by omega] at h1
  rw [show 0 + j * 2 + i = 0 + (j * 2 + i) by omega, h1]
  have h2 : d[j]! = d.toList[j]'hj := by rw [getElem!_pos d j hj']; simp
  rw [h2]
  match i, hi, hv with
  | 0, _, hv => have : v = .int .i64 (d.toList[j]'hj).1 := by simpa [spC] using hv.symm
                rw [this]; rfl
  | 1, _, hv => have : v = .int .i64 (d.toList[j]'hj).2 := by simpa [spC] using hv.symm
                rw [this]; rfl
theorem row_holds {w : World} {g : Nat} {f : Nat → Int} {l : List Sp} (hf : RowIs w g f (l.length * 2)) (hfr : ∀ o, w.frozen? ⟨g, o, none⟩ = false) (hfl : ∀ t (h : t < l.length), f (t * 2) = (l[t]'h).1 ∧ f (t * 2 + 1) = (l[t]'h).2) : HoldsK spC 2 w g 0 l.toArray := by
  intro t ht
  rw [size_flatK] at ht
  have ht' : t < l.length * 2 := by simpa using ht
  refine ⟨?_, hfr _⟩
  rw [get_flatK _ _ _ _ (by simpa using ht), Nat.zero_add, hf t ht']
  obtain ⟨q, hq⟩ : ∃ q, t = q * 2 ∨ t = q * 2 + 1 := ⟨t / 2, by omega⟩
  rcases hq with rfl | rfl
  · have hj : q < l.length := by omega
    have h2 : (l.toArray)[q]! = l[q]'hj := by rw [getElem!_pos l.toArray q (by simpa using hj)]; simp
    rw [show q * 2 / 2 = q by omega, show q * 2 % 2 = 0 by omega, h2, (hfl q hj).1]
    rfl
  · have hj : q < l.length := by omega
    have h2 : (l.toArray)[q]! = l[q]'hj := by rw [getElem!_pos l.toArray q (by simpa using hj)]; simp
    rw [show (q * 2 + 1) / 2 = q by omega, show (q * 2 + 1) % 2 = 1 by omega, h2, (hfl q hj).2]
    rfl

theorem sorted_pair {d : Array Sp} (h : SortedIn (ltOf cmpS) 0 d.size d) : d.toList.Pairwise (fun a b => a.1 ≤ b.1) := by
  rw [List.pairwise_iff_getElem]
  intro i j hi hj hij
  have h1 := h i j (Nat.zero_le _) hij (by simpa using hj)
  rw [ltS, getElem!_pos d i (by simpa using hi), getElem!_pos d j (by simpa using hj)] at h1
  simp at h1
  simpa using h1

set_option maxHeartbeats 800000 in
theorem sort_any (d : List Sp) (f : Nat → Int) (g cap base : Nat) (w : World) (hbase : base ≤ g) (hbw : base ≤ w.heap.size) (hg : g < w.heap.size) (hf : RowIs w g f (d.length * 2)) (hfr : ∀ o, w.frozen? ⟨g, o, none⟩ = false)
    (hfl : ∀ t (h : t < d.length), f (t * 2) = (d[t]'h).1 ∧ f (t * 2 + 1) = (d[t]'h).2) (hn : d.length ≤ 4611686018427387903) :
    Calls Tryz.prog 124 #[.slice (some ⟨g, 0, none⟩) d.length cap, .func (.func 125) #[] #[]] w fun e w' =>
      e = .returned (.tuple #[]) ∧ ∃ d' : List Sp, d'.Perm d ∧ d'.Pairwise (fun a b => a.1 ≤ b.1) ∧ RdL w' 2 (some ⟨g, 0, none⟩) (d'.map spC) ∧ Below base w w' := by
  have eg : ∀ args w, (callFunc 125 args).run Tryz.prog w = .ok (.enter 125 args) w := enters_of Tryz.func125 (by kernel_rfl) rfl
  have hH := row_holds hf hfr hfl
  have hcon := Go.Proofs.AnyQ.slices_SortFunc Tryz.laysSort 2 Tryz.isAgg86 Tryz.sizeOf86 spC (fun _ => rfl) (fun x v hv => by simp [spC] at hv; rcases hv with rfl | rfl <;> rfl) cmpS swoS 125 #[] g 0 cap d.toArray w eg (cmpLaysS g 0 _ w) hH hg (by simp; omega)
  have hsz : d.toArray.size = d.length := by simp
  change Calls Tryz.prog 124 _ _ _ at hcon
  rw [hsz] at hcon
  refine hcon.mono ?_
  rintro e w' ⟨rfl, d', n, os, hp, hs, rfl⟩
  have hsize : d'.size = d.length := by rw [hp.1, hsz]
  have hperm : d'.toList.Perm d := by
    have := hp.2.2
    have e1 : (d'.extract 0 d.length).toList = d'.toList := by rw [← hsize]; simp
    have e2 : (d.toArray.extract 0 d.length).toList = d := by simp
    rw [e1, e2] at this
    exact this
  refine ⟨rfl, d'.toList, hperm, sorted_pair (by rw [hsize]; exact hs), ?_, below_sortWorld hbase hbw⟩
  have h1 : HoldsK spC 2 (putRowK spC 2 (Go.Sort.ahead w n) g 0 d') g 0 d' := holdsK_putRowK spC 2 (Go.Sort.ahead w n) g 0 d.toArray d' hH (by rw [hsize, hsz])
  have h2 := holds_rd h1
  have hb : Below (putRowK spC 2 (Go.Sort.ahead w n) g 0 d').heap.size (putRowK spC 2 (Go.Sort.ahead w n) g 0 d') (grow (putRowK spC 2 (Go.Sort.ahead w n) g 0 d') os) :=
    ⟨rfl, rfl, rfl, by simp [grow], fun k hk => by simp [grow, Array.getElem?_append, hk]⟩
  exact h2.below hb

set_option maxHeartbeats 400000 in
theorem clip_any (v : Value) (w : World) (n c : Nat) (a : Option Addr) (hv : v = .slice a n c) (hn : a = none → n = 0) (hc : n ≤ c) :
    Calls Tryz.prog 127 #[v] w fun e w' => e = .returned (.slice a n n) ∧ w' = w := by
  subst hv
  cases a with
  | none =>
    have hn0 := hn rfl
    subst hn0
    go_enter Tryz.func127, Tryz.ntmps127
    go_wp2_with fail
    go_ret
    exact ⟨rfl, rfl⟩
  | some a =>
    have h1 : (n : Int) ≤ (c : Int) := by omega
    have h2 : (0 : Int) ≤ (n : Int) := by omega
    go_enter Tryz.func127, Tryz.ntmps127
    go_wp2_with fail
    go_ret
    exact ⟨rfl, rfl⟩
end Go.Proofs.YtankkadnhdfpfaaGreatDoor.Sp

/- Spans: Has and near, walked. -/
set_option linter.unusedSimpArgs false
set_option linter.unusedVariables false
namespace Go.Proofs.YtankkadnhdfpfaaGreatDoor.Sp
open Go.RowKit Go.Sort

def spqGives (g : Nat) (fv : Array Value) (p : Sp → Bool) (xs : List Sp) (w : World) : Prop :=
  ∀ x ∈ xs, ∀ W : World, Below w.heap.size w W → Calls Tryz.prog g (#[.agg #[.int .i64 x.1, .int .i64 x.2]] ++ fv) W fun e w' => e = .returned (.bool (p x)) ∧ Below W.heap.size W w'

set_option maxRecDepth 100000 in
set_option maxHeartbeats 800000 in
theorem spqIndex (g : Nat) (q : Addr) (p : Sp → Bool) (xs : List Sp) (A : Option Addr) (c : Nat) (w : World) (hr : RdL w 2 A (xs.map spC)) (hn : xs.length ≤ 9223372036854775807)
    (hg : spqGives g #[.pointer (some q)] p xs w) (he : ∀ args W, (callFunc g args).run Tryz.prog W = .ok (.enter g args) W) :
    Calls Tryz.prog 139 #[.slice A xs.length c, .func (.func g) #[] #[.pointer (some q)]] w fun e w' => e = .returned (.int .i64 (idxF p xs 0)) ∧ Below w.heap.size w w' := by
  go_enter Tryz.func139, Tryz.ntmps139
  go_wp2_with fail
  go_loopg [8] xs.length (fun k i wr => ∃ j : Nat, j ≤ xs.length ∧ xs.length - j ≤ k ∧ Hid (idxF p xs 0 = idxF p (xs.drop j) j) ∧ i = .int .i64 j ∧ Below w.heap.size w wr)
  case atStart => exact ⟨0, by omega, by omega, rfl, rfl, Below.refl _ _⟩
  case round =>
    obtain ⟨j, hj, hjk, hi, rfl, hbel⟩ := hrel
    by_cases hlt : j < xs.length
    · obtain ⟨b, off, rfl, hx⟩ := (hr.below hbel).at_ hlt
      have hmem : xs[j]'hlt ∈ xs := List.getElem_mem hlt
      have hyes := fun h => idxF_drop_yes (p := p) hlt h
      have hno := fun h => idxF_drop_no (p := p) hlt h
      generalize hX : xs[j]'hlt = x at *
      have hgx := hg x hmem
      have g0 : wr.cell? ⟨b, off + j * 2, none⟩ = some (.int .i64 x.1) := hx.get 0 rfl
      have g1 : wr.cell? ⟨b, off + j * 2 + 1, none⟩ = some (.int .i64 x.2) := hx.get 1 rfl
      have HG := Lib.hid hgx
      have HYES := Lib.hid hyes
      have HNO := Lib.hid hno
      have hsz := hbel.size
      clear hgx hyes hno hX hmem hx
      cases hp : p x
      · have HN := Lib.hid (HNO.out hp)
        go_wp2_with fail
        refine (HG.out _ bel).mono ?_
        rintro e w1 ⟨rfl, hb1⟩
        rw [hp]
        clear hp
        go_wp2_with fail
        go_roundg (gk - 1)
        case measure => omega
        case rel => exact ⟨j + 1, by omega, by omega, hi.out.trans HN.out, by go_num, bel⟩
      · have HY := Lib.hid (HYES.out hp)
        go_wp2_with fail
        refine (HG.out _ bel).mono ?_
        rintro e w1 ⟨rfl, hb1⟩
        rw [hp]
        clear hp
        go_wp2_with fail
        go_ret
        exact ⟨ret_int (by rw [hi.out, HY.out]), bel⟩
    · have HE := Lib.hid (idxF_drop_end (p := p) hlt)
      go_wp2_with fail
      go_ret
      exact ⟨ret_int (by rw [hi.out, HE.out]), hbel⟩

set_option maxHeartbeats 400000 in
theorem spqContains (g : Nat) (q : Addr) (p : Sp → Bool) (xs : List Sp) (A : Option Addr) (c : Nat) (w : World) (hr : RdL w 2 A (xs.map spC)) (hn : xs.length ≤ 9223372036854775807)
    (hg : spqGives g #[.pointer (some q)] p xs w) (he : ∀ args W, (callFunc g args).run Tryz.prog W = .ok (.enter g args) W) :
    Calls Tryz.prog 94 #[.slice A xs.length c, .func (.func g) #[] #[.pointer (some q)]] w fun e w' => e = .returned (.bool (xs.any p)) ∧ Below w.heap.size w w' := by
  have HA := Lib.hid (idxF_any p xs 0)
  go_enter Tryz.func94, Tryz.ntmps94
  go_wp2_with fail
  refine (spqIndex g q p xs A c _ hr hn hg he).mono ?_
  rintro e w1 ⟨rfl, hb1⟩
  generalize idxF p xs 0 = r at *
  go_wp2_with fail
  go_ret
  exact ⟨ret_bool HA.out, hb1⟩

set_option maxHeartbeats 400000 in
theorem has1_any (x : Sp) (n : Int) (b : Nat) (w : World) (hq : w.cell? ⟨b, 0, none⟩ = some (.int .i64 n)) :
    Calls Tryz.prog 95 #[.agg #[.int .i64 x.1, .int .i64 x.2], .pointer (some ⟨b, 0, none⟩)] w fun e w' => e = .returned (.bool (hasS x n)) ∧ Below w.heap.size w w' := by
  have hb : b < w.heap.size := cell_lt hq
  have hne : ¬ (b = w.heap.size) := by omega
  by_cases h1 : x.1 ≤ n
  · by_cases h2 : n ≤ x.2
    · have e : hasS x n = true := by simp [hasS, h1, h2]
      rw [e]
      clear e
      go_enter Tryz.func95, Tryz.ntmps95
      go_wp2_with fail
      go_ret
      exact ⟨ret_bool rfl, bel⟩
    · have e : hasS x n = false := by simp [hasS, h2]
      rw [e]
      clear e
      go_enter Tryz.func95, Tryz.ntmps95
      go_wp2_with fail
      go_ret
      exact ⟨ret_bool rfl, bel⟩
  · have e : hasS x n = false := by simp [hasS, h1]
    rw [e]
    clear e
    go_enter Tryz.func95, Tryz.ntmps95
    go_wp2_with fail
    go_ret
    exact ⟨ret_bool rfl, bel⟩

set_option maxHeartbeats 400000 in
theorem has_any (xs : List Sp) (n : Int) (A : Option Addr) (c : Nat) (w : World) (hr : RdL w 2 A (xs.map spC)) (hn : xs.length ≤ 9223372036854775807) :
    Calls Tryz.prog 54 #[.slice A xs.length c, .int .i64 n] w fun e w' => e = .returned (.bool (inS xs n)) ∧ Below w.heap.size w w' := by
  have eg : ∀ args W, (callFunc 95 args).run Tryz.prog W = .ok (.enter 95 args) W := enters_of Tryz.func95 (by kernel_rfl) rfl
  have HEG := Lib.hid eg
  obtain ⟨B, hB⟩ : ∃ B, inS xs n = B := ⟨_, rfl⟩
  rw [hB]
  have HB := Lib.hid hB
  clear eg hB
  go_enter Tryz.func54, Tryz.ntmps54
  go_wp2_with fail
  generalize hEW0 : w.alloc _ = W0
  have hbW0 : Below w.heap.size w W0 := (by rw [← hEW0]; exact bel)
  have lW0_0 : w.heap.size < W0.heap.size := lsz hEW0
  have qW0_0 : ∀ o, W0.cell? ⟨w.heap.size, o, none⟩ = _ := fun o => congrArg (fun W : World => W.cell? ⟨w.heap.size, o, none⟩) hEW0.symm
  have rW0_0 : ∀ o, W0.frozen? ⟨w.heap.size, o, none⟩ = _ := fun o => congrArg (fun W : World => W.frozen? ⟨w.heap.size, o, none⟩) hEW0.symm
  clear hEW0
  have k0 : W0.cell? ⟨w.heap.size, 0, none⟩ = some (.int .i64 n) := (by first | (simp [go_sem]; done) | (simp [go_sem, *]; done))
  have hgives : spqGives 95 #[.pointer (some ⟨w.heap.size, 0, none⟩)] (fun x => hasS x n) xs W0 := fun x _ W hW => has1_any x n _ W (cell_below hW k0)
  refine (spqContains 95 ⟨w.heap.size, 0, none⟩ (fun x => hasS x n) xs A c _ (hr.below hbW0) hn hgives HEG.out).mono ?_
  rintro e w1 ⟨rfl, hb1⟩
  rw [show (xs.any fun x => hasS x n) = B from HB.out]
  clear hgives k0
  go_wp2_with fail
  go_ret
  exact ⟨ret_bool rfl, bel⟩

def intC (i : Int) : List Value := [.int .i64 i]
theorem flat_intC : ∀ fs : List Int, (fs.map intC).flatten = fs.map (Value.int .i64)
  | [] => rfl
  | x :: r => by rw [List.map_cons, List.flatten_cons, flat_intC r]; rfl
theorem own_rd {w : World} {base : Nat} {e : TypeId} {sz : Nat} {v : Value} {n : Nat} {xs : List Value} {css : List (List Value)} (h : w.ownsRow base e sz v n xs) (hx : xs = css.flatten) (hs : ∀ c ∈ css, c.length = sz) (hn : css.length = n) :
    ∃ A c, v = .slice A n c ∧ RdL w sz A css := by
  obtain ⟨hl, h⟩ := h
  rcases h with ⟨rfl, rfl⟩ | ⟨g, cap, cur, rfl, hb, hg, h1, h2, h3, h4⟩
  · refine ⟨none, 0, rfl, ?_⟩
    obtain rfl : css = [] := List.length_eq_zero_iff.1 hn
    exact RdL.nil_ _ _ _
  · refine ⟨some ⟨g, 0, none⟩, cap, rfl, fun j c hj => ⟨g, 0, rfl, fun i u hu => ?_⟩⟩
    have hjl := (List.getElem?_eq_some_iff.1 hj).1
    have hc : c ∈ css := List.mem_of_getElem? hj
    have hil := (List.getElem?_eq_some_iff.1 hu).1
    have hcl := hs c hc
    have key : ∀ (l : List (List Value)) (j : Nat), (∀ c ∈ l, c.length = sz) → l[j]? = some c → l.flatten[j * sz + i]? = c[i]? := by
      intro l
      induction l with
      | nil => intro j _ h; simp at h
      | cons d r ih =>
        intro j hs' hj'
        cases j with
        | zero =>
          obtain rfl : d = c := by simpa using hj'
          simp only [List.flatten_cons, Nat.zero_mul, Nat.zero_add]
          exact List.getElem?_append_left hil
        | succ j =>
          have hd : d.length = sz := hs' d (by simp)
          simp only [List.flatten_cons]
          rw [List.getElem?_append_right (by rw [hd, Nat.succ_mul]; omega)]
          rw [show (j + 1) * sz + i - d.length = j * sz + i by rw [hd, Nat.succ_mul]; omega]
          exact ih j (fun c hc => hs' c (List.mem_cons_of_mem _ hc)) (by simpa using hj')
    have h5 := key css j hs hj
    rw [← hx, hu] at h5
    rw [← h4] at h5
    have h6 : cur.toList[j * sz + i]? = some u := by
      rw [List.getElem?_take] at h5
      split at h5
      · exact h5
      · cases h5
    rw [show (0 + j * sz + i) = j * sz + i by omega, cell_of_block hg]
    rw [← Array.getElem?_toList]
    exact h6


structure SpAt where
  xs : List Sp
  A : Option Addr
  cap : Nat
def SpAt.cells (x : SpAt) : List Value := [.slice x.A x.xs.length x.cap]
structure SpAt.ok (x : SpAt) (w : World) : Prop where
  rd : RdL w 2 x.A (x.xs.map spC)
  wf : ∀ s ∈ x.xs, SpWf s
  len : x.xs.length ≤ 9223372036854775807
theorem alloc_old {w : World} {k : Nat} (o : Obj) (_u : Unit) (h : k < w.heap.size) : (w.alloc o).heap[k]? = w.heap[k]? := by
  simp only [World.alloc, Array.getElem?_push, if_neg (Nat.ne_of_lt h)]
theorem lt_of_block {w : World} {k : Nat} {o : Obj} (h : w.heap[k]? = some o) : k < w.heap.size := (Array.getElem?_eq_some_iff.1 h).1
theorem own_ne {w : World} {base k : Nat} {v : Value} {q : Nat} {xs : List Value} {cs : Array Value} {fr : Nat × Nat} (h : w.ownsRow base 3 1 v q xs) (hb : w.heap[k]? = some (.cells cs 86 fr)) : some k ≠ v.ownBlock := by
  intro e
  rcases h.2 with ⟨rfl, _⟩ | ⟨g, cap, cur, rfl, _, hg, _⟩
  · cases e
  · have e2 : k = g := by simpa [Value.ownBlock] using e
    subst e2
    rw [hb] at hg
    have := Option.some.inj hg
    injection this with _ h2 _
    exact absurd h2 (by decide)
end Go.Proofs.YtankkadnhdfpfaaGreatDoor.Sp

/- Spans: Join, walked. -/
set_option linter.unusedSimpArgs false
set_option linter.unusedVariables false
namespace Go.Proofs.YtankkadnhdfpfaaGreatDoor.Sp
open Go.RowKit Go.Sort

def spF (l : List Sp) (t : Nat) : Int := if t % 2 = 0 then (l[t / 2]?.getD (0, 0)).1 else (l[t / 2]?.getD (0, 0)).2
theorem spF_even {l : List Sp} {q : Nat} (h : q < l.length) : spF l (q * 2) = (l[q]'h).1 := by
  unfold spF
  rw [if_pos (by omega), show q * 2 / 2 = q by omega, List.getElem?_eq_getElem h]; rfl
theorem spF_odd {l : List Sp} {q : Nat} (h : q < l.length) : spF l (q * 2 + 1) = (l[q]'h).2 := by
  unfold spF
  rw [if_neg (by omega), show (q * 2 + 1) / 2 = q by omega, List.getElem?_eq_getElem h]; rfl

set_option maxHeartbeats 400000 in
theorem clone_empty (A : Option Addr) (c : Nat) (w : World) :
    Calls Tryz.prog 122 #[.slice A 0 c] w fun e w' => ∃ A', e = .returned (.slice A' 0 0) ∧ Below w.heap.size w w' := by
  have q22 : ∀ (w : World) (a : Option Addr) (n c n' c' : Nat), (binOp .eql 31 (.slice a n c) (.slice none n' c')).run Tryz.prog w = .ok (.bool a.isNone) w := fun w a n c n' c' => Lib.run_eql_slice_nil w _ _ a n c n' c' Tryz.underlying31
  cases A with
  | none =>
    go_enter Tryz.func122, Tryz.ntmps122
    go_wp2_with fail
    go_ret
    exact ⟨_, rfl, bel⟩
  | some a =>
    have h0 : (0 : Int) ≤ (c : Int) := by omega
    go_enter Tryz.func122, Tryz.ntmps122
    go_wp2_with fail
    go_ret
    exact ⟨_, rfl, bel⟩

set_option maxHeartbeats 800000 in
theorem clone_any (l : List Sp) (b off c : Nat) (w : World) (hr : RdL w 2 (some ⟨b, off, none⟩) (l.map spC)) (hn : l.length ≤ 8000000000000) :
    Calls Tryz.prog 122 #[.slice (some ⟨b, off, none⟩) l.length c] w fun e w' =>
      ∃ (g cap : Nat) (f : Nat → Int), e = .returned (.slice (some ⟨g, 0, none⟩) l.length cap) ∧ w.heap.size ≤ g ∧ g < w'.heap.size ∧ l.length ≤ cap ∧ RowIs w' g f (l.length * 2) ∧ (∀ o, w'.frozen? ⟨g, o, none⟩ = false) ∧
        (∀ t (h : t < l.length), f (t * 2) = (l[t]'h).1 ∧ f (t * 2 + 1) = (l[t]'h).2) ∧ Below w.heap.size w w' := by
  obtain ⟨i0, hinf, hza, hzb, hzc⟩ := info_parts (show (Tryz.prog.info? 86).map (fun i => (i.zero, i.size, i.bytes)) = some (some (.agg #[.int .i64 0, .int .i64 0]), 2, 16) by kernel_rfl)
  have hlen : ∀ l : List Sp, (l.flatMap spC).length = l.length * 2 := by
    intro l
    induction l with
    | nil => rfl
    | cons x r ih => rw [List.flatMap_cons, List.length_append, ih]; simp [spC]; omega
  have hget : ∀ (l : List Sp) (j : Nat) (h : j < l.length), (l.flatMap spC)[j * 2]? = some (.int .i64 (l[j]'h).1) ∧ (l.flatMap spC)[j * 2 + 1]? = some (.int .i64 (l[j]'h).2) := by
    intro l
    induction l with
    | nil => intro j h; simp at h
    | cons x r ih =>
      intro j h
      cases j with
      | zero => simp [spC]
      | succ j =>
        have h2 := ih j (by simpa using h)
        have e0 : (j + 1) * 2 = j * 2 + 2 := by omega
        rw [List.flatMap_cons, e0]
        refine ⟨?_, ?_⟩
        · rw [List.getElem?_append_right (by simp [spC])]
          simpa [spC] using h2.1
        · rw [List.getElem?_append_right (by simp [spC])]
          simpa [spC] using h2.2
  have hcon := Go.Proofs.AnyE.slices_Clone Tryz.laysClone i0 (.agg #[.int .i64 0, .int .i64 0]) 2 16 hinf hza hzb hzc rfl (by decide) Tryz.sizeOf86 b off l.length c (l.flatMap spC) w (hlen l) (by unfold maxLen; omega) (by omega)
    (fun j u hj => by
      have hjl : j < l.length * 2 := by have := (List.getElem?_eq_some_iff.1 hj).1; rw [hlen] at this; exact this
      obtain ⟨q, hq⟩ : ∃ q, j = q * 2 ∨ j = q * 2 + 1 := ⟨j / 2, by omega⟩
      have hql : q < l.length := by rcases hq with rfl | rfl <;> omega
      obtain ⟨b2, o2, e, hx⟩ := hr.at_ hql
      cases e
      rcases hq with rfl | rfl
      · have h1 := (hget l q hql).1
        rw [h1] at hj
        have := hx.get 0 (v := .int .i64 (l[q]'hql).1) rfl
        rw [← Option.some.inj hj]
        exact this
      · have h1 := (hget l q hql).2
        rw [h1] at hj
        have := hx.get 1 (v := .int .i64 (l[q]'hql).2) rfl
        rw [← Option.some.inj hj]
        rw [show off + (q * 2 + 1) = off + q * 2 + 1 by omega]
        exact this)
    (fun u hu => by
      obtain ⟨x, _, hx⟩ := List.mem_flatMap.1 hu
      simp [spC] at hx
      rcases hx with rfl | rfl <;> rfl)
  change Calls Tryz.prog 122 _ _ _ at hcon
  refine hcon.mono ?_
  rintro e w' ⟨v', rfl, hown, hne, hb⟩
  rcases hown.2 with ⟨h1, _⟩ | ⟨g, cap, cur, rfl, hg, hc, hnc, hcm, hcs, htake⟩
  · exact absurd h1 hne
  have hrow : ∀ j (hj : j < l.length), cur[j * 2]? = some (.int .i64 (l[j]'hj).1) ∧ cur[j * 2 + 1]? = some (.int .i64 (l[j]'hj).2) := by
    intro j hj
    have h1 := hget l j hj
    rw [← htake] at h1
    rw [List.getElem?_take, if_pos (by omega), List.getElem?_take, if_pos (by omega)] at h1
    simpa using h1
  refine ⟨g, cap, spF l, rfl, hg, lt_of_block hc, hnc, ?_, ?_, fun t ht => ⟨spF_even ht, spF_odd ht⟩, hb⟩
  · intro t ht
    rw [cell_of_block hc]
    obtain ⟨q, hq⟩ : ∃ q, t = q * 2 ∨ t = q * 2 + 1 := ⟨t / 2, by omega⟩
    have hql : q < l.length := by rcases hq with rfl | rfl <;> omega
    rcases hq with rfl | rfl
    · rw [spF_even hql]; exact (hrow q hql).1
    · rw [spF_odd hql]; exact (hrow q hql).2
  · intro o
    simp [World.frozen?, hc]

set_option maxHeartbeats 400000 in
theorem delete_empty (A : Option Addr) (w : World) :
    Calls Tryz.prog 121 #[.slice A 0 0, .func (.func 123) #[] #[]] w fun e w' => e = .returned (.slice A 0 0) ∧ Below w.heap.size w w' := by
  have eg : ∀ args W, (callFunc 123 args).run Tryz.prog W = .ok (.enter 123 args) W := enters_of Tryz.func123 (by kernel_rfl) rfl
  have hix := spIndex 123 (fun x => !okS x) [] A 0 w (RdL.nil_ _ _ _) (by simp) (fun x hx => by cases hx) eg
  have hix2 : Calls Tryz.prog 139 #[.slice A 0 0, .func (.func 123) #[] #[]] w fun e w' => e = .returned (.int .i64 (-1)) ∧ Below w.heap.size w w' := hix
  clear hix eg
  go_enter Tryz.func121, Tryz.ntmps121
  go_wp2_with fail
  refine hix2.mono ?_
  rintro e w1 ⟨rfl, hb1⟩
  clear hix2
  go_wp2_with fail
  go_ret
  exact ⟨rfl, hb1⟩
end Go.Proofs.YtankkadnhdfpfaaGreatDoor.Sp
