import Derived.Test.YtankkadnhdfpfaaGreatDoorPk11
import Derived.Test.YtankkadnhdfpfaaGreatDoorPk01
import Derived.Lib.SliceRun
/- Rows of texts; slices.IndexFunc and DeleteFunc at []string, walked, at predicates that make memory. -/
set_option linter.unusedSimpArgs false
set_option linter.unusedVariables false
namespace Go.Proofs.YtankkadnhdfpfaaGreatDoor.Wd
open Go.RowKit Go.Sort

def tC (t : Tx) : List Value := [encStr t]
def RowT (w : World) (g : Nat) (f : Nat → Tx) (n : Nat) : Prop := ∀ j, j < n → w.cell? ⟨g, j, none⟩ = some (encStr (f j))
theorem RowT.below {w w' : World} {g n : Nat} {f : Nat → Tx} (h : RowT w g f n) (hb : Below w.heap.size w w') : RowT w' g f n := fun j hj => cell_below hb (h j hj)
theorem RowT.set_ {w : World} {g n : Nat} {f : Nat → Tx} (h : RowT w g f n) (i : Nat) (hi : i < n) (x : Tx) : RowT (w.setCell ⟨g, i, none⟩ (encStr x)) g (fun j => if j = i then x else f j) n := by
  intro j hj
  by_cases e : j = i
  · subst e
    rw [World.cell?_setCell_same _ _ _ (h j hj)]
    show _ = some (encStr (if j = j then x else f j))
    rw [if_pos rfl]
  · rw [World.cell?_setCell_other _ _ _ _ (by intro hh; injection hh with _ h2; omega), h j hj]
    show _ = some (encStr (if j = i then x else f j))
    rw [if_neg e]
theorem frozen_setCell (w : World) (a b : Addr) (v : Value) : (w.setCell a v).frozen? b = w.frozen? b := by
  simp only [World.setCell, World.frozen?, Array.getElem?_modify]
  by_cases hb : a.block = b.block
  · rw [if_pos hb]
    cases hh : w.heap[b.block]? with
    | none => rfl
    | some o => cases o <;> rfl
  · rw [if_neg hb]
theorem row_rd {w : World} {g : Nat} {f : Nat → Tx} {l : List Tx} (hf : RowT w g f l.length) (hfl : ∀ t (h : t < l.length), f t = l[t]'h) : RdL w 1 (some ⟨g, 0, none⟩) (l.map tC) := by
  intro j c hc
  rw [List.getElem?_map, Option.map_eq_some_iff] at hc
  obtain ⟨x, hx, rfl⟩ := hc
  obtain ⟨hj, rfl⟩ := List.getElem?_eq_some_iff.1 hx
  refine ⟨g, 0, rfl, fun i v hv => ?_⟩
  match i, hv with
  | 0, hv =>
    have e : v = encStr (l[j]'hj) := by simpa [tC] using hv.symm
    rw [show 0 + j * 1 + 0 = j by omega, hf j hj, e, hfl j hj]
  | i + 1, hv => simp [tC] at hv
theorem below_setCells {base g : Nat} (hg : base ≤ g) {a : World} : ∀ (vs : List Value) (o : Nat) {w : World}, Below base a w → Below base a (w.setCells g o vs)
  | [], _, _, h => h
  | v :: r, o, _, h => below_setCells hg r (o + 1) (h.setCell (by exact hg) _)
theorem idxF_spec {p : Tx → Bool} : ∀ (l : List Tx) (k : Nat), (idxF p l k = -1 ∧ ∀ t (h : t < l.length), p (l[t]'h) = false) ∨ (∃ i, ∃ h : i < l.length, idxF p l k = ((k + i : Nat) : Int) ∧ p (l[i]'h) = true ∧ ∀ t (h2 : t < l.length), t < i → p (l[t]'h2) = false)
  | [], k => Or.inl ⟨rfl, fun t h => by simp at h⟩
  | x :: r, k => by
    cases hp : p x
    · have e : idxF p (x :: r) k = idxF p r (k + 1) := by show (if p x = true then _ else _) = _; rw [if_neg (by rw [hp]; simp)]
      rw [e]
      rcases idxF_spec r (k + 1) with ⟨h1, h2⟩ | ⟨i, h, h1, h2, h3⟩
      · refine Or.inl ⟨h1, fun t h => ?_⟩
        cases t with
        | zero => exact hp
        | succ t => exact h2 t (by simpa using h)
      · refine Or.inr ⟨i + 1, by simpa using h, by rw [h1]; congr 1; omega, h2, fun t h4 h5 => ?_⟩
        cases t with
        | zero => exact hp
        | succ t => exact h3 t (by simpa using h4) (by omega)
    · have e : idxF p (x :: r) k = (k : Int) := by show (if p x = true then _ else _) = _; rw [if_pos hp]
      exact Or.inr ⟨0, by simp, by rw [e]; simp, hp, fun t _ h => absurd h (by omega)⟩

structure KInv (ok : Tx → Bool) (l : List Tx) (f : Nat → Tx) (i j : Nat) : Prop where
  len : ((l.take j).filter ok).length = i
  low : ∀ t (h : t < ((l.take j).filter ok).length), f t = ((l.take j).filter ok)[t]'h
  high : ∀ t (h : t < l.length), j ≤ t → f t = l[t]'h
  lt : i < j
  le : j ≤ l.length
theorem filter_all {ok : Tx → Bool} {l : List Tx} (h : ∀ t (h : t < l.length), ok (l[t]'h) = true) : l.filter ok = l := List.filter_eq_self.2 fun x hx => by
  obtain ⟨t, ht, rfl⟩ := List.getElem_of_mem hx
  exact h t ht
theorem KInv.start {ok : Tx → Bool} {l : List Tx} {f : Nat → Tx} {i : Nat} (hi : i < l.length) (hb : ok (l[i]'hi) = false) (ha : ∀ t (h : t < l.length), t < i → ok (l[t]'h) = true) (hf : ∀ t (h : t < l.length), f t = l[t]'h) : KInv ok l f i (i + 1) := by
  have e : (l.take (i + 1)).filter ok = l.take i := by
    rw [List.take_succ_eq_append_getElem hi, List.filter_append]
    have h1 : (l.take i).filter ok = l.take i := filter_all fun t h => by
      rw [List.getElem_take]
      exact ha t (by simp at h; omega) (by simp at h; omega)
    rw [h1]
    simp [hb]
  refine ⟨by rw [e]; simp; omega, fun t h => ?_, fun t h _ => hf t h, by omega, by omega⟩
  have ht : t < (l.take i).length := by rw [← e]; exact h
  have hl : t < l.length := by simp at ht; omega
  have hg : ((l.take (i + 1)).filter ok)[t]'h = l[t]'hl := by
    have : ((l.take (i + 1)).filter ok)[t]? = (l.take i)[t]? := by rw [e]
    rw [List.getElem?_eq_getElem h, List.getElem?_eq_getElem ht, List.getElem_take] at this
    exact Option.some.inj this
  rw [hg]; exact hf t hl
theorem KInv.skip {ok : Tx → Bool} {l : List Tx} {f : Nat → Tx} {i j : Nat} (h : KInv ok l f i j) (hj : j < l.length) (hb : ok (l[j]'hj) = false) : KInv ok l f i (j + 1) := by
  have e : (l.take (j + 1)).filter ok = (l.take j).filter ok := by
    rw [List.take_succ_eq_append_getElem hj, List.filter_append]; simp [hb]
  refine ⟨by rw [e]; exact h.len, ?_, fun t ht hh => h.high t ht (by omega), by have := h.lt; omega, by omega⟩
  rw [e]; exact h.low
theorem KInv.keep {ok : Tx → Bool} {l : List Tx} {f : Nat → Tx} {i j : Nat} (h : KInv ok l f i j) (hj : j < l.length) (hb : ok (l[j]'hj) = true) :
    KInv ok l (fun t => if t = i then l[j]'hj else f t) (i + 1) (j + 1) := by
  have e : (l.take (j + 1)).filter ok = (l.take j).filter ok ++ [l[j]'hj] := by
    rw [List.take_succ_eq_append_getElem hj, List.filter_append]; simp [hb]
  have hlen := h.len
  have hlt := h.lt
  refine ⟨by rw [e]; simp [hlen], fun t ht => ?_, fun t ht hh => ?_, by omega, by omega⟩
  · have hg : ∀ (hq : t < ((l.take j).filter ok ++ [l[j]'hj]).length), ((l.take (j + 1)).filter ok)[t]'ht = ((l.take j).filter ok ++ [l[j]'hj])[t]'hq := fun hq => by
      have : ((l.take (j + 1)).filter ok)[t]? = ((l.take j).filter ok ++ [l[j]'hj])[t]? := by rw [e]
      rw [List.getElem?_eq_getElem ht, List.getElem?_eq_getElem hq] at this
      exact Option.some.inj this
    have hq : t < ((l.take j).filter ok ++ [l[j]'hj]).length := by rw [← e]; exact ht
    rw [hg hq]
    by_cases h1 : t < ((l.take j).filter ok).length
    · rw [List.getElem_append_left h1]
      have := h.low t h1
      show (if t = i then _ else _) = _
      rw [if_neg (by omega)]
      exact this
    · have h2 : t = i := by simp [hlen] at hq; omega
      subst h2
      rw [List.getElem_append_right (by omega)]
      simp [hlen]
  · have := h.high t ht (by omega)
    show (if t = i then _ else _) = _
    rw [if_neg (by omega)]
    exact this

theorem run_clear1 (w : World) (g o n c : Nat) (hn : 0 < n) (hc : ∀ j, j < n → (w.cell? ⟨g, o + j, none⟩).isSome = true) (hf : ∀ j, j < n → w.frozen? ⟨g, o + j, none⟩ = false) (ty : TypeId) :
    (Builtin.clear_ #[32] ty #[.slice (some ⟨g, o, none⟩) n c]).run Tryz.prog w = .ok (.tuple #[]) (w.setCells g o (List.replicate n (.string ⟨#[]⟩))) := by
  have hv : ∀ w, (zeroValue 9).run Tryz.prog w = .ok (.string ⟨#[]⟩) w := Tryz.zeroValue9
  have hzc : (Builtin.zeroCells (Value.string ⟨#[]⟩).cells n).toList = List.replicate n (.string ⟨#[]⟩) := by
    simp [Builtin.zeroCells, Value.cells]
    apply List.ext_getElem
    · simp
    · intro i h1 h2
      simp [Nat.mod_one]
  have hst := run_storeCells_cells (P := Tryz.prog) g o (List.replicate n (.string ⟨#[]⟩)) 0 w (by simpa using hc) (by simpa using hf) (by intro v hv'; rw [List.eq_of_mem_replicate hv']; rfl)
  simp only [Nat.add_zero] at hst
  obtain ⟨m, rfl⟩ : ∃ m, n = m + 1 := ⟨n - 1, by omega⟩
  simp [Builtin.clear_, run_underlying Tryz.underlying32, hv, hzc, hst]

set_option maxHeartbeats 400000 in
theorem clip_any (v : Value) (w : World) (n c : Nat) (a : Option Addr) (hv : v = .slice a n c) (hn : a = none → n = 0) (hc : n ≤ c) :
    Calls Tryz.prog 132 #[v] w fun e w' => e = .returned (.slice a n n) ∧ w' = w := by
  subst hv
  cases a with
  | none =>
    have hn0 := hn rfl
    subst hn0
    go_enter Tryz.func132, Tryz.ntmps132
    go_wp2_with fail
    go_ret
    exact ⟨rfl, rfl⟩
  | some a =>
    have h1 : (n : Int) ≤ (c : Int) := by omega
    have h2 : (0 : Int) ≤ (n : Int) := by omega
    go_enter Tryz.func132, Tryz.ntmps132
    go_wp2_with fail
    go_ret
    exact ⟨rfl, rfl⟩

def txGives (g : Nat) (fv : Array Value) (p : Tx → Bool) (xs : List Tx) (base : Nat) (w : World) : Prop :=
  ∀ x ∈ xs, ∀ W : World, Below base w W → base ≤ W.heap.size → Calls Tryz.prog g (#[encStr x] ++ fv) W fun e w' => e = .returned (.bool (p x)) ∧ Below W.heap.size W w'

theorem size_setCells (g : Nat) : ∀ (vs : List Value) (o : Nat) (w : World), (w.setCells g o vs).heap.size = w.heap.size
  | [], _, _ => rfl
  | v :: r, o, w => by
    show ((w.setCell ⟨g, o, none⟩ v).setCells g (o + 1) r).heap.size = _
    rw [size_setCells g r (o + 1) _]
    simp [World.setCell]
theorem lt_setCells {g h : Nat} {vs : List Value} {o : Nat} {w : World} (hh : h < w.heap.size) : h < (w.setCells g o vs).heap.size := by rw [size_setCells]; exact hh

set_option maxRecDepth 100000 in
set_option maxHeartbeats 800000 in
theorem index0 (g base : Nat) (p : Tx → Bool) (xs : List Tx) (A : Option Addr) (c : Nat) (w : World) (hbw : base ≤ w.heap.size) (hr : RdL w 1 A (xs.map tC)) (hn : xs.length ≤ 9223372036854775807)
    (hg : txGives g #[] p xs base w) (he : ∀ args W, (callFunc g args).run Tryz.prog W = .ok (.enter g args) W) :
    Calls Tryz.prog 158 #[.slice A xs.length c, .func (.func g) #[] #[]] w fun e w' => e = .returned (.int .i64 (idxF p xs 0)) ∧ Below w.heap.size w w' := by
  go_enter Tryz.func158, Tryz.ntmps158
  go_wp2_with fail
  go_loopg [8] xs.length (fun k i wr => ∃ j : Nat, j ≤ xs.length ∧ xs.length - j ≤ k ∧ Hid (idxF p xs 0 = idxF p (xs.drop j) j) ∧ i = .int .i64 j ∧ Below w.heap.size w wr)
  case atStart => exact ⟨0, by omega, by omega, rfl, rfl, Below.refl _ _⟩
  case round =>
    obtain ⟨j, hj, hjk, hi, rfl, hbel⟩ := hrel
    have hszr := hbel.size
    by_cases hlt : j < xs.length
    · obtain ⟨b, off, rfl, hx⟩ := (hr.below hbel).at_ hlt
      have hmem : xs[j]'hlt ∈ xs := List.getElem_mem hlt
      have hyes := fun h => idxF_drop_yes (p := p) hlt h
      have hno := fun h => idxF_drop_no (p := p) hlt h
      generalize hX : xs[j]'hlt = x at *
      have hgx := hg x hmem
      have g0 : wr.cell? ⟨b, off + j, none⟩ = some (encStr x) := by have := hx.get 0 (v := encStr x) rfl; simpa using this
      have HG := Lib.hid hgx
      have HYES := Lib.hid hyes
      have HNO := Lib.hid hno
      clear hgx hyes hno hX hmem hx
      cases hp : p x
      · have HN := Lib.hid (HNO.out hp)
        go_wp2_with fail
        refine (HG.out _ (Below.mono (by exact bel : Below w.heap.size w _) hbw) (by first | omega | (simp only [sz_alloc, sz_set, sz_drew, sz_drewN, sz_iterAt, sz_iter] at *; omega) | (simp; done) | (simp; omega) | (simp at *; omega))).mono ?_
        rintro e w1 ⟨rfl, hb1⟩
        rw [hp]
        clear hp
        go_wp2_with fail
        go_roundg (gk - 1)
        case measure => omega
        case rel => exact ⟨j + 1, by omega, by omega, hi.out.trans HN.out, by go_num, bel⟩
      · have HY := Lib.hid (HYES.out hp)
        go_wp2_with fail
        refine (HG.out _ (Below.mono (by exact bel : Below w.heap.size w _) hbw) (by first | omega | (simp only [sz_alloc, sz_set, sz_drew, sz_drewN, sz_iterAt, sz_iter] at *; omega) | (simp; done) | (simp; omega) | (simp at *; omega))).mono ?_
        rintro e w1 ⟨rfl, hb1⟩
        rw [hp]
        clear hp
        go_wp2_with fail
        go_ret
        exact ⟨ret_int (by rw [hi.out, HY.out]), bel⟩
    · have HE := Lib.hid (idxF_drop_end (p := p) hlt)
      go_wp2_with fail
      go_ret
      exact ⟨ret_int (by rw [hi.out, HE.out]), hbel⟩

set_option maxRecDepth 100000 in
set_option maxHeartbeats 1600000 in
theorem delete0 (fn : Nat) (ok : Tx → Bool) (l : List Tx) (f : Nat → Tx) (g cap base : Nat) (w : World) (hbase : base ≤ g) (hbw : base ≤ w.heap.size) (hg : g < w.heap.size) (hf : RowT w g f l.length) (hfr : ∀ o, w.frozen? ⟨g, o, none⟩ = false)
    (hfl : ∀ t (h : t < l.length), f t = l[t]'h) (hcap : l.length ≤ cap) (hn : l.length ≤ 4611686018427387903)
    (hgv : txGives fn #[] (fun x => !ok x) l base w) (eg : ∀ args W, (callFunc fn args).run Tryz.prog W = .ok (.enter fn args) W) :
    Calls Tryz.prog 128 #[.slice (some ⟨g, 0, none⟩) l.length cap, .func (.func fn) #[] #[]] w fun e w' =>
      e = .returned (.slice (some ⟨g, 0, none⟩) (l.filter ok).length cap) ∧ g < w'.heap.size ∧ ∃ f', RowT w' g f' (l.filter ok).length ∧ (∀ o, w'.frozen? ⟨g, o, none⟩ = false) ∧
        (∀ t (h : t < (l.filter ok).length), f' t = (l.filter ok)[t]'h) ∧ Below base w w' := by
  have hix := index0 fn base (fun x => !ok x) l _ cap w hbw (row_rd hf hfl) (by omega) hgv eg
  have HFL := Lib.hid hfl
  have HGV := Lib.hid hgv
  clear hfl hgv
  rcases idxF_spec (p := fun x => !ok x) l 0 with ⟨h1, h2⟩ | ⟨i0, hi0, h1, h2, h3⟩
  · have hall : l.filter ok = l := filter_all fun t h => by simpa using h2 t h
    rw [hall]
    rw [h1] at hix
    have HF := Lib.hid hf
    clear h1 h2 hall hf eg
    go_enter Tryz.func128, Tryz.ntmps128
    go_wp2_with fail
    refine hix.mono ?_
    rintro e w1 ⟨rfl, hb1⟩
    clear hix
    go_wp2_with fail
    go_ret
    exact ⟨rfl, Nat.lt_of_lt_of_le hg hb1.size, f, HF.out.below hb1, fun o => (hb1.frozen (p := ⟨g, o, none⟩) hg).trans (hfr o), HFL.out, hb1.mono hbw⟩
  · rw [h1, Nat.zero_add] at hix
    have hstart := KInv.start (ok := ok) hi0 (by simpa using h2) (fun t h h' => by simpa using h3 t h h') HFL.out
    have HS := Lib.hid hstart
    have HF := Lib.hid hf
    have hne : ((i0 : Int) == -1) = false := beq_eq_false_iff_ne.2 (by omega)
    clear h1 h2 h3 hf hstart
    go_enter Tryz.func128, Tryz.ntmps128
    go_wp2_with fail
    refine hix.mono ?_
    rintro e w1 ⟨rfl, hb1⟩
    clear hix
    have hz1 := hb1.size
    have hbm1 : Below base w w1 := hb1.mono hbw
    have hrow1 : RowT w1 g f l.length := HF.out.below hb1
    have hfr1 : ∀ o, w1.frozen? ⟨g, o, none⟩ = false := fun o => (hb1.frozen (p := ⟨g, o, none⟩) hg).trans (hfr o)
    have HR1 := Lib.hid hrow1
    have HFR1 := Lib.hid hfr1
    clear hrow1 hfr1 hfr hb1
    go_wp2_with fail
    clear hne
    go_loopg [5, 6] l.length (fun k iv jv wr => ∃ (i j : Nat) (f' : Nat → Tx), iv = .int .i64 i ∧ jv = .int .i64 j ∧ l.length - j ≤ k ∧ Hid (KInv ok l f' i j) ∧ Hid (RowT wr g f' l.length) ∧ Hid (∀ o, wr.frozen? ⟨g, o, none⟩ = false) ∧ g < wr.heap.size ∧ base ≤ wr.heap.size ∧ Below base w wr)
    case atStart => exact ⟨i0, i0 + 1, f, rfl, by go_num, by omega, HS, HR1, HFR1, by omega, by omega, hbm1⟩
    case round =>
      obtain ⟨i, j, f', rfl, rfl, hjk, hK, hR, hFR, hgr, hbr, hbel⟩ := hrel
      have hKo := hK.out
      have hij := hKo.lt
      have hjl := hKo.le
      clear hKo
      by_cases hlt : j < l.length
      · have hx := hK.out.high j hlt (Nat.le_refl _)
        have hmem : l[j]'hlt ∈ l := List.getElem_mem hlt
        obtain ⟨x, hxe⟩ : ∃ x, l[j]'hlt = x := ⟨_, rfl⟩
        rw [hxe] at hx hmem
        have hgx := HGV.out x hmem
        have c0 : wr.cell? ⟨g, j, none⟩ = some (encStr x) := by rw [hR.out j (by omega), hx]
        have HX := Lib.hid hxe
        have HG := Lib.hid hgx
        clear hx hxe hgx hmem
        have a1 : (0 : Int) ≤ (j : Int) := by omega
        have a2 : (j : Int) < (l.length : Int) := by omega
        have a3 : (0 : Int) ≤ (i : Int) := by omega
        have a4 : (i : Int) < (l.length : Int) := by omega
        cases hk : ok x
        · go_wp2_with fail
          refine (HG.out _ bel (by first | omega | (simp only [sz_alloc, sz_set, sz_drew, sz_drewN, sz_iterAt, sz_iter] at *; omega) | (simp; done) | (simp; omega) | (simp at *; omega))).mono ?_
          rintro e w2 ⟨rfl, hb2⟩
          rw [hk]
          have hz2 := hb2.size
          try simp at hz2
          go_wp2_with fail
          go_roundg (l.length - (j + 1))
          case measure => omega
          case rel =>
            refine ⟨i, j + 1, f', by go_num, by go_num, by omega, hK.out.skip hlt (by rw [HX.out]; exact hk), ?_, ?_, by omega, by omega, ?_⟩
            · exact (hR.out.below (by exact bel : Below wr.heap.size wr w2))
            · exact fun o => ((by exact bel : Below wr.heap.size wr w2).frozen (p := ⟨g, o, none⟩) hgr).trans (hFR.out o)
            · exact hbel.trans ((by exact bel : Below wr.heap.size wr w2).mono hbr)
        · go_wp2_with fail
          refine (HG.out _ bel (by first | omega | (simp only [sz_alloc, sz_set, sz_drew, sz_drewN, sz_iterAt, sz_iter] at *; omega) | (simp; done) | (simp; omega) | (simp at *; omega))).mono ?_
          rintro e w2 ⟨rfl, hb2⟩
          rw [hk]
          have hz2 := hb2.size
          try simp at hz2
          have hbz : Below wr.heap.size wr w2 := bel
          have hzz := hbz.size
          have hR2 : RowT w2 g f' l.length := hR.out.below hbz
          have hF2 : ∀ o, w2.frozen? ⟨g, o, none⟩ = false := fun o => (hbz.frozen (p := ⟨g, o, none⟩) hgr).trans (hFR.out o)
          have d0 := hR2 i (by omega)
          have e0 := hF2 i
          have HR2 := Lib.hid hR2
          have HF2 := Lib.hid hF2
          clear hR2 hF2
          go_wp2_with fail
          go_roundg (l.length - (j + 1))
          case measure => omega
          case rel =>
            have hk2 := hK.out.keep hlt (by rw [HX.out]; exact hk)
            rw [HX.out] at hk2
            refine ⟨i + 1, j + 1, _, by go_num, by go_num, by omega, hk2, ?_, ?_, by simp; omega, by simp; omega, ?_⟩
            · exact HR2.out.set_ i (by omega) x
            · intro o
              rw [frozen_setCell]
              exact HF2.out o
            · have h0 : Below base w w2 := hbel.trans (hbz.mono hbr)
              exact h0.setCell (by exact hbase) _
      · have hje : j = l.length := by omega
        subst hje
        have hK2 := hK.out
        have hlen : (l.filter ok).length = i := by have := hK2.len; rw [List.take_length] at this; exact this
        have hlow : ∀ t (h : t < (l.filter ok).length), f' t = (l.filter ok)[t]'h := by
          intro t h
          have hq : t < ((l.take l.length).filter ok).length := by rw [List.take_length]; exact h
          have := hK2.low t hq
          simp only [List.take_length] at this
          exact this
        have a2 : ¬ ((l.length : Int) < (l.length : Int)) := by omega
        have a3 : (0 : Int) ≤ (i : Int) := by omega
        have a4 : (i : Int) ≤ (l.length : Int) := by omega
        have a5 : (l.length : Int) ≤ (cap : Int) := by omega
        have a6 : (i : Int) ≤ (cap : Int) := by omega
        have hcl := run_clear1 wr g i (l.length - i) (cap - i) (by omega) (fun t ht => by rw [hR.out (i + t) (by omega)]; rfl) (fun t ht => hFR.out _)
        have HL := Lib.hid hlen
        have HLOW := Lib.hid hlow
        clear hK2 hlen hlow
        go_wp2_with fail
        go_ret
        refine ⟨by rw [HL.out]; rfl, ?_, f', ?_, ?_, HLOW.out, below_setCells hbase _ _ hbel⟩
        · exact lt_setCells hgr
        · rw [HL.out]
          intro t ht
          rw [World.cell?_setCells_out g _ _ _ _ (fun _ _ => Or.inl (show t < i by omega))]
          exact hR.out t (by omega)
        · intro o
          rw [World.frozen?_setCells]
          exact hFR.out o

set_option maxRecDepth 100000 in
set_option maxHeartbeats 800000 in
theorem index1 (g base : Nat) (q : Addr) (p : Tx → Bool) (xs : List Tx) (A : Option Addr) (c : Nat) (w : World) (hbw : base ≤ w.heap.size) (hr : RdL w 1 A (xs.map tC)) (hn : xs.length ≤ 9223372036854775807)
    (hg : txGives g #[.pointer (some q)] p xs base w) (he : ∀ args W, (callFunc g args).run Tryz.prog W = .ok (.enter g args) W) :
    Calls Tryz.prog 158 #[.slice A xs.length c, .func (.func g) #[] #[.pointer (some q)]] w fun e w' => e = .returned (.int .i64 (idxF p xs 0)) ∧ Below w.heap.size w w' := by
  go_enter Tryz.func158, Tryz.ntmps158
  go_wp2_with fail
  go_loopg [8] xs.length (fun k i wr => ∃ j : Nat, j ≤ xs.length ∧ xs.length - j ≤ k ∧ Hid (idxF p xs 0 = idxF p (xs.drop j) j) ∧ i = .int .i64 j ∧ Below w.heap.size w wr)
  case atStart => exact ⟨0, by omega, by omega, rfl, rfl, Below.refl _ _⟩
  case round =>
    obtain ⟨j, hj, hjk, hi, rfl, hbel⟩ := hrel
    have hszr := hbel.size
    by_cases hlt : j < xs.length
    · obtain ⟨b, off, rfl, hx⟩ := (hr.below hbel).at_ hlt
      have hmem : xs[j]'hlt ∈ xs := List.getElem_mem hlt
      have hyes := fun h => idxF_drop_yes (p := p) hlt h
      have hno := fun h => idxF_drop_no (p := p) hlt h
      generalize hX : xs[j]'hlt = x at *
      have hgx := hg x hmem
      have g0 : wr.cell? ⟨b, off + j, none⟩ = some (encStr x) := by have := hx.get 0 (v := encStr x) rfl; simpa using this
      have HG := Lib.hid hgx
      have HYES := Lib.hid hyes
      have HNO := Lib.hid hno
      clear hgx hyes hno hX hmem hx
      cases hp : p x
      · have HN := Lib.hid (HNO.out hp)
        go_wp2_with fail
        refine (HG.out _ (Below.mono (by exact bel : Below w.heap.size w _) hbw) (by first | omega | (simp only [sz_alloc, sz_set, sz_drew, sz_drewN, sz_iterAt, sz_iter] at *; omega) | (simp; done) | (simp; omega) | (simp at *; omega))).mono ?_
        rintro e w1 ⟨rfl, hb1⟩
        rw [hp]
        clear hp
        go_wp2_with fail
        go_roundg (gk - 1)
        case measure => omega
        case rel => exact ⟨j + 1, by omega, by omega, hi.out.trans HN.out, by go_num, bel⟩
      · have HY := Lib.hid (HYES.out hp)
        go_wp2_with fail
        refine (HG.out _ (Below.mono (by exact bel : Below w.heap.size w _) hbw) (by first | omega | (simp only [sz_alloc, sz_set, sz_drew, sz_drewN, sz_iterAt, sz_iter] at *; omega) | (simp; done) | (simp; omega) | (simp at *; omega))).mono ?_
        rintro e w1 ⟨rfl, hb1⟩
        rw [hp]
        clear hp
        go_wp2_with fail
        go_ret
        exact ⟨ret_int (by rw [hi.out, HY.out]), bel⟩
    · have HE := Lib.hid (idxF_drop_end (p := p) hlt)
      go_wp2_with fail
      go_ret
      exact ⟨ret_int (by rw [hi.out, HE.out]), hbel⟩

set_option maxRecDepth 100000 in
set_option maxHeartbeats 1600000 in
theorem delete1 (fn : Nat) (q : Addr) (ok : Tx → Bool) (l : List Tx) (f : Nat → Tx) (g cap base : Nat) (w : World) (hbase : base ≤ g) (hbw : base ≤ w.heap.size) (hg : g < w.heap.size) (hf : RowT w g f l.length) (hfr : ∀ o, w.frozen? ⟨g, o, none⟩ = false)
    (hfl : ∀ t (h : t < l.length), f t = l[t]'h) (hcap : l.length ≤ cap) (hn : l.length ≤ 4611686018427387903)
    (hgv : txGives fn #[.pointer (some q)] (fun x => !ok x) l base w) (eg : ∀ args W, (callFunc fn args).run Tryz.prog W = .ok (.enter fn args) W) :
    Calls Tryz.prog 128 #[.slice (some ⟨g, 0, none⟩) l.length cap, .func (.func fn) #[] #[.pointer (some q)]] w fun e w' =>
      e = .returned (.slice (some ⟨g, 0, none⟩) (l.filter ok).length cap) ∧ g < w'.heap.size ∧ ∃ f', RowT w' g f' (l.filter ok).length ∧ (∀ o, w'.frozen? ⟨g, o, none⟩ = false) ∧
        (∀ t (h : t < (l.filter ok).length), f' t = (l.filter ok)[t]'h) ∧ Below base w w' := by
  have hix := index1 fn base q (fun x => !ok x) l _ cap w hbw (row_rd hf hfl) (by omega) hgv eg
  have HFL := Lib.hid hfl
  have HGV := Lib.hid hgv
  clear hfl hgv
  rcases idxF_spec (p := fun x => !ok x) l 0 with ⟨h1, h2⟩ | ⟨i0, hi0, h1, h2, h3⟩
  · have hall : l.filter ok = l := filter_all fun t h => by simpa using h2 t h
    rw [hall]
    rw [h1] at hix
    have HF := Lib.hid hf
    clear h1 h2 hall hf eg
    go_enter Tryz.func128, Tryz.ntmps128
    go_wp2_with fail
    refine hix.mono ?_
    rintro e w1 ⟨rfl, hb1⟩
    clear hix
    go_wp2_with fail
    go_ret
    exact ⟨rfl, Nat.lt_of_lt_of_le hg hb1.size, f, HF.out.below hb1, fun o => (hb1.frozen (p := ⟨g, o, none⟩) hg).trans (hfr o), HFL.out, hb1.mono hbw⟩
  · rw [h1, Nat.zero_add] at hix
    have hstart := KInv.start (ok := ok) hi0 (by simpa using h2) (fun t h h' => by simpa using h3 t h h') HFL.out
    have HS := Lib.hid hstart
    have HF := Lib.hid hf
    have hne : ((i0 : Int) == -1) = false := beq_eq_false_iff_ne.2 (by omega)
    clear h1 h2 h3 hf hstart
    go_enter Tryz.func128, Tryz.ntmps128
    go_wp2_with fail
    refine hix.mono ?_
    rintro e w1 ⟨rfl, hb1⟩
    clear hix
    have hz1 := hb1.size
    have hbm1 : Below base w w1 := hb1.mono hbw
    have hrow1 : RowT w1 g f l.length := HF.out.below hb1
    have hfr1 : ∀ o, w1.frozen? ⟨g, o, none⟩ = false := fun o => (hb1.frozen (p := ⟨g, o, none⟩) hg).trans (hfr o)
    have HR1 := Lib.hid hrow1
    have HFR1 := Lib.hid hfr1
    clear hrow1 hfr1 hfr hb1
    go_wp2_with fail
    clear hne
    go_loopg [5, 6] l.length (fun k iv jv wr => ∃ (i j : Nat) (f' : Nat → Tx), iv = .int .i64 i ∧ jv = .int .i64 j ∧ l.length - j ≤ k ∧ Hid (KInv ok l f' i j) ∧ Hid (RowT wr g f' l.length) ∧ Hid (∀ o, wr.frozen? ⟨g, o, none⟩ = false) ∧ g < wr.heap.size ∧ base ≤ wr.heap.size ∧ Below base w wr)
    case atStart => exact ⟨i0, i0 + 1, f, rfl, by go_num, by omega, HS, HR1, HFR1, by omega, by omega, hbm1⟩
    case round =>
      obtain ⟨i, j, f', rfl, rfl, hjk, hK, hR, hFR, hgr, hbr, hbel⟩ := hrel
      have hKo := hK.out
      have hij := hKo.lt
      have hjl := hKo.le
      clear hKo
      by_cases hlt : j < l.length
      · have hx := hK.out.high j hlt (Nat.le_refl _)
        have hmem : l[j]'hlt ∈ l := List.getElem_mem hlt
        obtain ⟨x, hxe⟩ : ∃ x, l[j]'hlt = x := ⟨_, rfl⟩
        rw [hxe] at hx hmem
        have hgx := HGV.out x hmem
        have c0 : wr.cell? ⟨g, j, none⟩ = some (encStr x) := by rw [hR.out j (by omega), hx]
        have HX := Lib.hid hxe
        have HG := Lib.hid hgx
        clear hx hxe hgx hmem
        have a1 : (0 : Int) ≤ (j : Int) := by omega
        have a2 : (j : Int) < (l.length : Int) := by omega
        have a3 : (0 : Int) ≤ (i : Int) := by omega
        have a4 : (i : Int) < (l.length : Int) := by omega
        cases hk : ok x
        · go_wp2_with fail
          refine (HG.out _ bel (by first | omega | (simp only [sz_alloc, sz_set, sz_drew, sz_drewN, sz_iterAt, sz_iter] at *; omega) | (simp; done) | (simp; omega) | (simp at *; omega))).mono ?_
          rintro e w2 ⟨rfl, hb2⟩
          rw [hk]
          have hz2 := hb2.size
          try simp at hz2
          go_wp2_with fail
          go_roundg (l.length - (j + 1))
          case measure => omega
          case rel =>
            refine ⟨i, j + 1, f', by go_num, by go_num, by omega, hK.out.skip hlt (by rw [HX.out]; exact hk), ?_, ?_, by omega, by omega, ?_⟩
            · exact (hR.out.below (by exact bel : Below wr.heap.size wr w2))
            · exact fun o => ((by exact bel : Below wr.heap.size wr w2).frozen (p := ⟨g, o, none⟩) hgr).trans (hFR.out o)
            · exact hbel.trans ((by exact bel : Below wr.heap.size wr w2).mono hbr)
        · go_wp2_with fail
          refine (HG.out _ bel (by first | omega | (simp only [sz_alloc, sz_set, sz_drew, sz_drewN, sz_iterAt, sz_iter] at *; omega) | (simp; done) | (simp; omega) | (simp at *; omega))).mono ?_
          rintro e w2 ⟨rfl, hb2⟩
          rw [hk]
          have hz2 := hb2.size
          try simp at hz2
          have hbz : Below wr.heap.size wr w2 := bel
          have hzz := hbz.size
          have hR2 : RowT w2 g f' l.length := hR.out.below hbz
          have hF2 : ∀ o, w2.frozen? ⟨g, o, none⟩ = false := fun o => (hbz.frozen (p := ⟨g, o, none⟩) hgr).trans (hFR.out o)
          have d0 := hR2 i (by omega)
          have e0 := hF2 i
          have HR2 := Lib.hid hR2
          have HF2 := Lib.hid hF2
          clear hR2 hF2
          go_wp2_with fail
          go_roundg (l.length - (j + 1))
          case measure => omega
          case rel =>
            have hk2 := hK.out.keep hlt (by rw [HX.out]; exact hk)
            rw [HX.out] at hk2
            refine ⟨i + 1, j + 1, _, by go_num, by go_num, by omega, hk2, ?_, ?_, by simp; omega, by simp; omega, ?_⟩
            · exact HR2.out.set_ i (by omega) x
            · intro o
              rw [frozen_setCell]
              exact HF2.out o
            · have h0 : Below base w w2 := hbel.trans (hbz.mono hbr)
              exact h0.setCell (by exact hbase) _
      · have hje : j = l.length := by omega
        subst hje
        have hK2 := hK.out
        have hlen : (l.filter ok).length = i := by have := hK2.len; rw [List.take_length] at this; exact this
        have hlow : ∀ t (h : t < (l.filter ok).length), f' t = (l.filter ok)[t]'h := by
          intro t h
          have hq : t < ((l.take l.length).filter ok).length := by rw [List.take_length]; exact h
          have := hK2.low t hq
          simp only [List.take_length] at this
          exact this
        have a2 : ¬ ((l.length : Int) < (l.length : Int)) := by omega
        have a3 : (0 : Int) ≤ (i : Int) := by omega
        have a4 : (i : Int) ≤ (l.length : Int) := by omega
        have a5 : (l.length : Int) ≤ (cap : Int) := by omega
        have a6 : (i : Int) ≤ (cap : Int) := by omega
        have hcl := run_clear1 wr g i (l.length - i) (cap - i) (by omega) (fun t ht => by rw [hR.out (i + t) (by omega)]; rfl) (fun t ht => hFR.out _)
        have HL := Lib.hid hlen
        have HLOW := Lib.hid hlow
        clear hK2 hlen hlow
        go_wp2_with fail
        go_ret
        refine ⟨by rw [HL.out]; rfl, ?_, f', ?_, ?_, HLOW.out, below_setCells hbase _ _ hbel⟩
        · exact lt_setCells hgr
        · rw [HL.out]
          intro t ht
          rw [World.cell?_setCells_out g _ _ _ _ (fun _ _ => Or.inl (show t < i by omega))]
          exact hR.out t (by omega)
        · intro o
          rw [World.frozen?_setCells]
          exact hFR.out o
end Go.Proofs.YtankkadnhdfpfaaGreatDoor.Wd
