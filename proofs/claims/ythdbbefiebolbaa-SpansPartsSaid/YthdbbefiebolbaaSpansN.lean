/- Spans: Has and near, walked. -/
import Derived.Test.YthdbbefiebolbaaSpans2
set_option linter.unusedSimpArgs false
set_option linter.unusedVariables false
namespace Go.Proofs.Ythdbbefiebolbaa
open Go.RowKit Go.Sort

/-- what a predicate owes: at each of some things, in every world that has all that was there -/
def spqGives (g : Nat) (fv : Array Value) (p : Sp → Bool) (xs : List Sp) (w : World) : Prop :=
  ∀ x ∈ xs, ∀ W : World, Below w.heap.size w W → Calls Try.prog g (#[.agg #[.int .i64 x.1, .int .i64 x.2]] ++ fv) W fun e w' => e = .returned (.bool (p x)) ∧ Below W.heap.size W w'

set_option maxRecDepth 100000 in
set_option maxHeartbeats 800000 in
theorem spqIndex (g : Nat) (q : Addr) (p : Sp → Bool) (xs : List Sp) (A : Option Addr) (c : Nat) (w : World) (hr : RdL w 2 A (xs.map spC)) (hn : xs.length ≤ 9223372036854775807)
    (hg : spqGives g #[.pointer (some q)] p xs w) (he : ∀ args W, (callFunc g args).run Try.prog W = .ok (.enter g args) W) :
    Calls Try.prog 30 #[.slice A xs.length c, .func (.func g) #[] #[.pointer (some q)]] w fun e w' => e = .returned (.int .i64 (idxF p xs 0)) ∧ Below w.heap.size w w' := by
  go_enter Try.func30, Try.ntmps30
  go_wp2_with fail
  go_loopg [8] xs.length (fun k i wr => ∃ j : Nat, j ≤ xs.length ∧ xs.length - j ≤ k ∧ Hid (idxF p xs 0 = idxF p (xs.drop j) j) ∧ i = .int .i64 j ∧ Below w.heap.size w wr)
  case atStart => exact ⟨0, by omega, by omega, rfl, rfl, Below.refl _ _⟩
  case round =>
    obtain ⟨j, hj, hjk, hi, rfl, hbel⟩ := hrel
    by_cases hlt : j < xs.length
    · obtain ⟨b, off, rfl, hx⟩ := (hr.below hbel).at_ hlt
      have hmem : xs[j]'hlt ∈ xs := List.getElem_mem hlt
      have hyes := fun h => idxF_drop_yes (p := p) hlt h
      have hno := fun h => idxF_drop_no (p := p) hlt h
      generalize hX : xs[j]'hlt = x at *
      have hgx := hg x hmem
      have g0 : wr.cell? ⟨b, off + j * 2, none⟩ = some (.int .i64 x.1) := hx.get 0 rfl
      have g1 : wr.cell? ⟨b, off + j * 2 + 1, none⟩ = some (.int .i64 x.2) := hx.get 1 rfl
      have HG := Lib.hid hgx
      have HYES := Lib.hid hyes
      have HNO := Lib.hid hno
      have hsz := hbel.size
      clear hgx hyes hno hX hmem hx
      cases hp : p x
      · have HN := Lib.hid (HNO.out hp)
        go_wp2_with fail
        refine (HG.out _ (by repeat' (first | (with_reducible exact Below.refl _ _) | (with_reducible assumption) | (with_reducible refine Below.drew ?_) | (with_reducible refine below_drewN ?_ _) | (with_reducible refine below_iterAt ?_ ?_ _ _) | (with_reducible refine below_iter ?_ ?_ _ _) | (with_reducible refine Below.alloc ?_ ?_ _) | (with_reducible refine Below.setCell ?_ ?_ _) | (with_reducible refine Below.trans ?_ (Below.mono (by assumption) ?_)) | (simp only [sz_alloc, sz_set, sz_drew, sz_drewN, sz_iterAt, sz_iter] at *; omega) | omega | (simp; done) | (simp; omega) | (apply Below.size; assumption) | (simp only [sz_drew, sz_drewN]; apply Below.size; assumption) | (refine Nat.le_trans ?_ (Below.size (by assumption)))))).mono ?_
        rintro e w1 ⟨rfl, hb1⟩
        rw [hp]
        clear hp
        go_wp2_with fail
        go_roundg (gk - 1)
        case measure => omega
        case rel => exact ⟨j + 1, by omega, by omega, hi.out.trans HN.out, by go_num, (by repeat' (first | (with_reducible exact Below.refl _ _) | (with_reducible assumption) | (with_reducible refine Below.drew ?_) | (with_reducible refine below_drewN ?_ _) | (with_reducible refine below_iterAt ?_ ?_ _ _) | (with_reducible refine below_iter ?_ ?_ _ _) | (with_reducible refine Below.alloc ?_ ?_ _) | (with_reducible refine Below.setCell ?_ ?_ _) | (with_reducible refine Below.trans ?_ (Below.mono (by assumption) ?_)) | (simp only [sz_alloc, sz_set, sz_drew, sz_drewN, sz_iterAt, sz_iter] at *; omega) | omega | (simp; done) | (simp; omega) | (apply Below.size; assumption) | (simp only [sz_drew, sz_drewN]; apply Below.size; assumption) | (refine Nat.le_trans ?_ (Below.size (by assumption)))))⟩
      · have HY := Lib.hid (HYES.out hp)
        go_wp2_with fail
        refine (HG.out _ (by repeat' (first | (with_reducible exact Below.refl _ _) | (with_reducible assumption) | (with_reducible refine Below.drew ?_) | (with_reducible refine below_drewN ?_ _) | (with_reducible refine below_iterAt ?_ ?_ _ _) | (with_reducible refine below_iter ?_ ?_ _ _) | (with_reducible refine Below.alloc ?_ ?_ _) | (with_reducible refine Below.setCell ?_ ?_ _) | (with_reducible refine Below.trans ?_ (Below.mono (by assumption) ?_)) | (simp only [sz_alloc, sz_set, sz_drew, sz_drewN, sz_iterAt, sz_iter] at *; omega) | omega | (simp; done) | (simp; omega) | (apply Below.size; assumption) | (simp only [sz_drew, sz_drewN]; apply Below.size; assumption) | (refine Nat.le_trans ?_ (Below.size (by assumption)))))).mono ?_
        rintro e w1 ⟨rfl, hb1⟩
        rw [hp]
        clear hp
        go_wp2_with fail
        go_ret
        exact ⟨ret_int (by rw [hi.out, HY.out]), (by repeat' (first | (with_reducible exact Below.refl _ _) | (with_reducible assumption) | (with_reducible refine Below.drew ?_) | (with_reducible refine below_drewN ?_ _) | (with_reducible refine below_iterAt ?_ ?_ _ _) | (with_reducible refine below_iter ?_ ?_ _ _) | (with_reducible refine Below.alloc ?_ ?_ _) | (with_reducible refine Below.setCell ?_ ?_ _) | (with_reducible refine Below.trans ?_ (Below.mono (by assumption) ?_)) | (simp only [sz_alloc, sz_set, sz_drew, sz_drewN, sz_iterAt, sz_iter] at *; omega) | omega | (simp; done) | (simp; omega) | (apply Below.size; assumption) | (simp only [sz_drew, sz_drewN]; apply Below.size; assumption) | (refine Nat.le_trans ?_ (Below.size (by assumption)))))⟩
    · have HE := Lib.hid (idxF_drop_end (p := p) hlt)
      go_wp2_with fail
      go_ret
      exact ⟨ret_int (by rw [hi.out, HE.out]), hbel⟩

set_option maxHeartbeats 400000 in
theorem spqContains (g : Nat) (q : Addr) (p : Sp → Bool) (xs : List Sp) (A : Option Addr) (c : Nat) (w : World) (hr : RdL w 2 A (xs.map spC)) (hn : xs.length ≤ 9223372036854775807)
    (hg : spqGives g #[.pointer (some q)] p xs w) (he : ∀ args W, (callFunc g args).run Try.prog W = .ok (.enter g args) W) :
    Calls Try.prog 27 #[.slice A xs.length c, .func (.func g) #[] #[.pointer (some q)]] w fun e w' => e = .returned (.bool (xs.any p)) ∧ Below w.heap.size w w' := by
  have HA := Lib.hid (idxF_any p xs 0)
  go_enter Try.func27, Try.ntmps27
  go_wp2_with fail
  refine (spqIndex g q p xs A c _ hr hn hg he).mono ?_
  rintro e w1 ⟨rfl, hb1⟩
  generalize idxF p xs 0 = r at *
  go_wp2_with fail
  go_ret
  exact ⟨ret_bool HA.out, hb1⟩

set_option maxHeartbeats 400000 in
theorem has1_any (x : Sp) (n : Int) (b : Nat) (w : World) (hq : w.cell? ⟨b, 0, none⟩ = some (.int .i64 n)) :
    Calls Try.prog 28 #[.agg #[.int .i64 x.1, .int .i64 x.2], .pointer (some ⟨b, 0, none⟩)] w fun e w' => e = .returned (.bool (hasS x n)) ∧ Below w.heap.size w w' := by
  have hb : b < w.heap.size := cell_lt hq
  have hne : ¬ (b = w.heap.size) := by omega
  by_cases h1 : x.1 ≤ n
  · by_cases h2 : n ≤ x.2
    · have e : hasS x n = true := by simp [hasS, h1, h2]
      rw [e]
      clear e
      go_enter Try.func28, Try.ntmps28
      go_wp2_with fail
      go_ret
      exact ⟨ret_bool rfl, (by repeat' (first | (with_reducible exact Below.refl _ _) | (with_reducible assumption) | (with_reducible refine Below.drew ?_) | (with_reducible refine below_drewN ?_ _) | (with_reducible refine below_iterAt ?_ ?_ _ _) | (with_reducible refine below_iter ?_ ?_ _ _) | (with_reducible refine Below.alloc ?_ ?_ _) | (with_reducible refine Below.setCell ?_ ?_ _) | (with_reducible refine Below.trans ?_ (Below.mono (by assumption) ?_)) | (simp only [sz_alloc, sz_set, sz_drew, sz_drewN, sz_iterAt, sz_iter] at *; omega) | omega | (simp; done) | (simp; omega) | (apply Below.size; assumption) | (simp only [sz_drew, sz_drewN]; apply Below.size; assumption) | (refine Nat.le_trans ?_ (Below.size (by assumption)))))⟩
    · have e : hasS x n = false := by simp [hasS, h2]
      rw [e]
      clear e
      go_enter Try.func28, Try.ntmps28
      go_wp2_with fail
      go_ret
      exact ⟨ret_bool rfl, (by repeat' (first | (with_reducible exact Below.refl _ _) | (with_reducible assumption) | (with_reducible refine Below.drew ?_) | (with_reducible refine below_drewN ?_ _) | (with_reducible refine below_iterAt ?_ ?_ _ _) | (with_reducible refine below_iter ?_ ?_ _ _) | (with_reducible refine Below.alloc ?_ ?_ _) | (with_reducible refine Below.setCell ?_ ?_ _) | (with_reducible refine Below.trans ?_ (Below.mono (by assumption) ?_)) | (simp only [sz_alloc, sz_set, sz_drew, sz_drewN, sz_iterAt, sz_iter] at *; omega) | omega | (simp; done) | (simp; omega) | (apply Below.size; assumption) | (simp only [sz_drew, sz_drewN]; apply Below.size; assumption) | (refine Nat.le_trans ?_ (Below.size (by assumption)))))⟩
  · have e : hasS x n = false := by simp [hasS, h1]
    rw [e]
    clear e
    go_enter Try.func28, Try.ntmps28
    go_wp2_with fail
    go_ret
    exact ⟨ret_bool rfl, (by repeat' (first | (with_reducible exact Below.refl _ _) | (with_reducible assumption) | (with_reducible refine Below.drew ?_) | (with_reducible refine below_drewN ?_ _) | (with_reducible refine below_iterAt ?_ ?_ _ _) | (with_reducible refine below_iter ?_ ?_ _ _) | (with_reducible refine Below.alloc ?_ ?_ _) | (with_reducible refine Below.setCell ?_ ?_ _) | (with_reducible refine Below.trans ?_ (Below.mono (by assumption) ?_)) | (simp only [sz_alloc, sz_set, sz_drew, sz_drewN, sz_iterAt, sz_iter] at *; omega) | omega | (simp; done) | (simp; omega) | (apply Below.size; assumption) | (simp only [sz_drew, sz_drewN]; apply Below.size; assumption) | (refine Nat.le_trans ?_ (Below.size (by assumption)))))⟩

set_option maxHeartbeats 400000 in
theorem has_any (xs : List Sp) (n : Int) (A : Option Addr) (c : Nat) (w : World) (hr : RdL w 2 A (xs.map spC)) (hn : xs.length ≤ 9223372036854775807) :
    Calls Try.prog 14 #[.slice A xs.length c, .int .i64 n] w fun e w' => e = .returned (.bool (inS xs n)) ∧ Below w.heap.size w w' := by
  have eg : ∀ args W, (callFunc 28 args).run Try.prog W = .ok (.enter 28 args) W := enters_of Try.func28 (by kernel_rfl) rfl
  have HEG := Lib.hid eg
  obtain ⟨B, hB⟩ : ∃ B, inS xs n = B := ⟨_, rfl⟩
  rw [hB]
  have HB := Lib.hid hB
  clear eg hB
  go_enter Try.func14, Try.ntmps14
  go_wp2_with fail
  generalize hEW0 : w.alloc _ = W0
  have hbW0 : Below w.heap.size w W0 := (by rw [← hEW0]; exact (by repeat' (first | (with_reducible exact Below.refl _ _) | (with_reducible assumption) | (with_reducible refine Below.drew ?_) | (with_reducible refine below_drewN ?_ _) | (with_reducible refine below_iterAt ?_ ?_ _ _) | (with_reducible refine below_iter ?_ ?_ _ _) | (with_reducible refine Below.alloc ?_ ?_ _) | (with_reducible refine Below.setCell ?_ ?_ _) | (with_reducible refine Below.trans ?_ (Below.mono (by assumption) ?_)) | (simp only [sz_alloc, sz_set, sz_drew, sz_drewN, sz_iterAt, sz_iter] at *; omega) | omega | (simp; done) | (simp; omega) | (apply Below.size; assumption) | (simp only [sz_drew, sz_drewN]; apply Below.size; assumption) | (refine Nat.le_trans ?_ (Below.size (by assumption))))))
  have lW0_0 : w.heap.size < W0.heap.size := (by rw [← hEW0]; first | omega | (simp only [sz_alloc, sz_set, sz_drew, sz_drewN, sz_iterAt, sz_iter] at *; omega) | (simp; done) | (simp; omega) | (simp at *; omega))
  have qW0_0 : ∀ o, W0.cell? ⟨w.heap.size, o, none⟩ = _ := fun o => congrArg (fun W : World => W.cell? ⟨w.heap.size, o, none⟩) hEW0.symm
  have rW0_0 : ∀ o, W0.frozen? ⟨w.heap.size, o, none⟩ = _ := fun o => congrArg (fun W : World => W.frozen? ⟨w.heap.size, o, none⟩) hEW0.symm
  clear hEW0
  have k0 : W0.cell? ⟨w.heap.size, 0, none⟩ = some (.int .i64 n) := (by first | (simp [go_sem]; done) | (simp [go_sem, *]; done))
  have hgives : spqGives 28 #[.pointer (some ⟨w.heap.size, 0, none⟩)] (fun x => hasS x n) xs W0 := fun x _ W hW => has1_any x n _ W (cell_below hW k0)
  refine (spqContains 28 ⟨w.heap.size, 0, none⟩ (fun x => hasS x n) xs A c _ (hr.below hbW0) hn hgives HEG.out).mono ?_
  rintro e w1 ⟨rfl, hb1⟩
  rw [show (xs.any fun x => hasS x n) = B from HB.out]
  clear hgives k0
  go_wp2_with fail
  go_ret
  exact ⟨ret_bool rfl, (by repeat' (first | (with_reducible exact Below.refl _ _) | (with_reducible assumption) | (with_reducible refine Below.drew ?_) | (with_reducible refine below_drewN ?_ _) | (with_reducible refine below_iterAt ?_ ?_ _ _) | (with_reducible refine below_iter ?_ ?_ _ _) | (with_reducible refine Below.alloc ?_ ?_ _) | (with_reducible refine Below.setCell ?_ ?_ _) | (with_reducible refine Below.trans ?_ (Below.mono (by assumption) ?_)) | (simp only [sz_alloc, sz_set, sz_drew, sz_drewN, sz_iterAt, sz_iter] at *; omega) | omega | (simp; done) | (simp; omega) | (apply Below.size; assumption) | (simp only [sz_drew, sz_drewN]; apply Below.size; assumption) | (refine Nat.le_trans ?_ (Below.size (by assumption)))))⟩

def intC (i : Int) : List Value := [.int .i64 i]
theorem flat_intC : ∀ fs : List Int, (fs.map intC).flatten = fs.map (Value.int .i64)
  | [] => rfl
  | x :: r => by rw [List.map_cons, List.flatten_cons, flat_intC r]; rfl
/-- a row of its own reads as a list -/
theorem own_rd {w : World} {base : Nat} {e : TypeId} {sz : Nat} {v : Value} {n : Nat} {xs : List Value} {css : List (List Value)} (h : w.ownsRow base e sz v n xs) (hx : xs = css.flatten) (hs : ∀ c ∈ css, c.length = sz) (hn : css.length = n) :
    ∃ A c, v = .slice A n c ∧ RdL w sz A css := by
  obtain ⟨hl, h⟩ := h
  rcases h with ⟨rfl, rfl⟩ | ⟨g, cap, cur, rfl, hb, hg, h1, h2, h3, h4⟩
  · refine ⟨none, 0, rfl, ?_⟩
    obtain rfl : css = [] := List.length_eq_zero_iff.1 hn
    exact RdL.nil_ _ _ _
  · refine ⟨some ⟨g, 0, none⟩, cap, rfl, fun j c hj => ⟨g, 0, rfl, fun i u hu => ?_⟩⟩
    have hjl := (List.getElem?_eq_some_iff.1 hj).1
    have hc : c ∈ css := List.mem_of_getElem? hj
    have hil := (List.getElem?_eq_some_iff.1 hu).1
    have hcl := hs c hc
    have key : ∀ (l : List (List Value)) (j : Nat), (∀ c ∈ l, c.length = sz) → l[j]? = some c → l.flatten[j * sz + i]? = c[i]? := by
      intro l
      induction l with
      | nil => intro j _ h; simp at h
      | cons d r ih =>
        intro j hs' hj'
        cases j with
        | zero =>
          obtain rfl : d = c := by simpa using hj'
          simp only [List.flatten_cons, Nat.zero_mul, Nat.zero_add]
          exact List.getElem?_append_left hil
        | succ j =>
          have hd : d.length = sz := hs' d (by simp)
          simp only [List.flatten_cons]
          rw [List.getElem?_append_right (by rw [hd, Nat.succ_mul]; omega)]
          rw [show (j + 1) * sz + i - d.length = j * sz + i by rw [hd, Nat.succ_mul]; omega]
          exact ih j (fun c hc => hs' c (List.mem_cons_of_mem _ hc)) (by simpa using hj')
    have h5 := key css j hs hj
    rw [← hx, hu] at h5
    rw [← h4] at h5
    have h6 : cur.toList[j * sz + i]? = some u := by
      rw [List.getElem?_take] at h5
      split at h5
      · exact h5
      · cases h5
    rw [show (0 + j * sz + i) = j * sz + i by omega, cell_of_block hg]
    rw [← Array.getElem?_toList]
    exact h6


/-- a list of spans where it lies -/
structure SpAt where
  xs : List Sp
  A : Option Addr
  cap : Nat
def SpAt.cells (x : SpAt) : List Value := [.slice x.A x.xs.length x.cap]
structure SpAt.ok (x : SpAt) (w : World) : Prop where
  rd : RdL w 2 x.A (x.xs.map spC)
  wf : ∀ s ∈ x.xs, SpWf s
  len : x.xs.length ≤ 9223372036854775807

theorem alloc_old {w : World} {k : Nat} (o : Obj) (_u : Unit) (h : k < w.heap.size) : (w.alloc o).heap[k]? = w.heap[k]? := by
  simp only [World.alloc, Array.getElem?_push, if_neg (Nat.ne_of_lt h)]
theorem lt_of_block {w : World} {k : Nat} {o : Obj} (h : w.heap[k]? = some o) : k < w.heap.size := (Array.getElem?_eq_some_iff.1 h).1
theorem own_ne {w : World} {base k : Nat} {v : Value} {q : Nat} {xs : List Value} {cs : Array Value} {fr : Nat × Nat} (h : w.ownsRow base 3 1 v q xs) (hb : w.heap[k]? = some (.cells cs 35 fr)) : some k ≠ v.ownBlock := by
  intro e
  rcases h.2 with ⟨rfl, _⟩ | ⟨g, cap, cur, rfl, _, hg, _⟩
  · cases e
  · have e2 : k = g := by simpa [Value.ownBlock] using e
    subst e2
    rw [hb] at hg
    have := Option.some.inj hg
    injection this with _ h2 _
    exact absurd h2 (by decide)
set_option maxRecDepth 100000 in
set_option maxHeartbeats 3200000 in
theorem near_any (n : Int) (ls : List SpAt) (L : Option Addr) (cl : Nat) (w : World) (hL : RdL w 1 L (ls.map SpAt.cells)) (hls : ∀ x ∈ ls, x.ok w) (h3 : ls.length ≤ 3) :
    Calls Try.prog 12 #[.int .i64 n, .slice L ls.length cl] w fun e w' =>
      ∃ (ns : List Int) (N : Option Addr) (cn : Nat), e = .returned (.slice N ns.length cn) ∧ RdL w' 1 N (ns.map intC) ∧ ns.length ≤ 1000 ∧ Below w.heap.size w w' := by
  obtain ⟨i0, hinf, hza, hzb, hzc⟩ := info_parts (show (Try.prog.info? 3).map (fun i => (i.zero, i.size, i.bytes)) = some (some (.int .i64 0), 1, 8) by kernel_rfl)
  go_enter Try.func12, Try.ntmps12
  go_wp2_with fail
  go_loopg [5, 6] ls.length (fun k ov iv wr => ∃ (i : Nat) (ns : List Int), i ≤ ls.length ∧ ls.length - i ≤ k ∧ iv = .int .i64 i ∧ wr.ownsRow w.heap.size 3 1 ov ns.length (ns.map (Value.int .i64)) ∧ ns.length ≤ 1 + 120 * i ∧ Below w.heap.size w wr)
  case atStart => exact ⟨0, [n], by omega, by omega, rfl, ⟨rfl, Or.inr ⟨w.heap.size, 1, #[.int .i64 n], rfl, Nat.le_refl _, (MapKept.heap_alloc w _).1, Nat.le_refl _, by unfold maxLen; omega, rfl, rfl⟩⟩, by simp, (by repeat' (first | (with_reducible exact Below.refl _ _) | (with_reducible assumption) | (with_reducible refine Below.drew ?_) | (with_reducible refine below_drewN ?_ _) | (with_reducible refine below_iterAt ?_ ?_ _ _) | (with_reducible refine below_iter ?_ ?_ _ _) | (with_reducible refine Below.alloc ?_ ?_ _) | (with_reducible refine Below.setCell ?_ ?_ _) | (with_reducible refine Below.trans ?_ (Below.mono (by assumption) ?_)) | (simp only [sz_alloc, sz_set, sz_drew, sz_drewN, sz_iterAt, sz_iter] at *; omega) | omega | (simp; done) | (simp; omega) | (apply Below.size; assumption) | (simp only [sz_drew, sz_drewN]; apply Below.size; assumption) | (refine Nat.le_trans ?_ (Below.size (by assumption)))))⟩
  case round =>
    obtain ⟨i, ns, hi, hik, rfl, hown, hlen, hbel⟩ := hrel
    have hsz := hbel.size
    by_cases hil : i < ls.length
    · have h1 : (i : Int) < (ls.length : Int) := by omega
      have h2 : (0 : Int) ≤ (i : Int) := by omega
      obtain ⟨x, hx⟩ : ∃ x, ls[i]'hil = x := ⟨_, rfl⟩
      have hxm : x ∈ ls := by rw [← hx]; exact List.getElem_mem hil
      have hxo := hls x hxm
      have HX := Lib.hid hx
      clear hx hxm
      go_wp2_with fail
      go_loopg [5, 7] 30 (fun k ov kv wq => ∃ (j : Nat) (ms : List Int), j ≤ 30 ∧ 30 - j ≤ k ∧ kv = .int .i64 j ∧ wq.ownsRow w.heap.size 3 1 ov ms.length (ms.map (Value.int .i64)) ∧ ms.length ≤ 1 + 120 * i + 4 * j ∧ Below w.heap.size w wq)
      case atStart => exact ⟨0, ns, by omega, by omega, rfl, hown, by omega, hbel⟩
      case round =>
        clear hown hlen hsz
        obtain ⟨j, ms, hj, hjk, rfl, hown, hlen, hbq⟩ := hrel
        have hsq := hbq.size
        obtain ⟨bL, oL, rfl, hxL⟩ := (hL.below hbq).at_ hil
        have g0 := hxL.get 0 rfl
        rw [Nat.mul_one, Nat.add_zero, HX.out] at g0
        by_cases hjx : j < x.xs.length
        · by_cases hj3 : j < 30
          · have h4 : (j : Int) < (x.xs.length : Int) := by omega
            have h5 : (j : Int) < 30 := by omega
            have h6 : (0 : Int) ≤ (j : Int) := by omega
            obtain ⟨b, off, hA, hxA⟩ := (hxo.rd.below hbq).at_ hjx
            rw [hA] at g0
            have hwf := hxo.wf _ (List.getElem_mem hjx)
            generalize x.xs[j]'hjx = s at *
            have a0 : World.cell? _ ⟨b, off + j * 2, none⟩ = some (.int .i64 s.1) := hxA.get 0 rfl
            have a1 : World.cell? _ ⟨b, off + j * 2 + 1, none⟩ = some (.int .i64 s.2) := hxA.get 1 rfl
            have w1 : IntKind.i64.wrap (s.1 - 1) = s.1 - 1 ∨ ¬ (-4611686018427387904 < s.1) := by
              by_cases h : -4611686018427387904 < s.1
              · exact Or.inl (IntWalk.i64_in _ (by have := hwf.l2; omega))
              · exact Or.inr h
            have w2 : IntKind.i64.wrap (s.2 + 1) = s.2 + 1 ∨ ¬ (s.2 < 4611686018427387904) := by
              by_cases h : s.2 < 4611686018427387904
              · exact Or.inl (IntWalk.i64_in _ (by have := hwf.h1; omega))
              · exact Or.inr h
            have HW := Lib.hid hwf
            clear hwf hxA hA hxL
            by_cases hc1 : -4611686018427387904 < s.1 <;> by_cases hc2 : s.2 < 4611686018427387904
            · skip
              have f1 : IntKind.i64.wrap (s.1 - 1) = s.1 - 1 := w1.resolve_right (fun h => h hc1)
              have f2 : IntKind.i64.wrap (s.2 + 1) = s.2 + 1 := w2.resolve_right (fun h => h hc2)
              clear w1 w2
              go_wp2_with (first
                | (at_builtin; refine wpList_append_own _ rfl _ _ 27 rfl w.heap.size 3 i0 (.int .i64 0) 1 8 Try.underlying27 hinf hza hzb hzc rfl (by decide) _ _ _ rfl ((hown.alloc _).alloc _) ⟨wr.heap.size + 1, 0, none⟩ 2 2 [.int .i64 (s.1), .int .i64 (s.2)] rfl rfl ?c1_1 ?c2_1 ?c3_1 ?c4_1 ?c5_1 ?_)
                | fail)
              try case c1_1 =>
                intro i u hu
                match i, hu with
                | 0, hu => simp at hu; subst hu; simp [Addr.add]
                | 1, hu => simp at hu; subst hu; simp [Addr.add]
              case c2_1 => first | exact ⟨rfl, rfl⟩ | (intro u hu; simp at hu; rcases hu with rfl | rfl <;> rfl)
              case c3_1 => unfold maxLen; (try simp); omega
              case c4_1 => (try simp); omega
              case c5_1 => (try simp); omega
              · intro v1 w1 hown1 hg1 _
                have b1 : Below w.heap.size w w1 := ((hbq.alloc hsq _).alloc (by simp; omega) _).grown hg1 (by simp; omega) (fun g hg => (hown.lt g hg).1)
                have B1 : w1.heap[wr.heap.size]? = some (.cells #[.int .i64 s.1, .int .i64 s.2] 35) := (hg1.block wr.heap.size (by simp; omega) (by intro e; have := (hown.lt _ e.symm).2; omega)).trans ((alloc_old _ () (by simp)).trans (MapKept.heap_alloc wr _).1)
                have x0 : w1.cell? ⟨wr.heap.size, 0, none⟩ = some (.int .i64 s.1) := (cell_of_block B1 0).trans rfl
                have x1 : w1.cell? ⟨wr.heap.size, 1, none⟩ = some (.int .i64 s.2) := (cell_of_block B1 1).trans rfl
                have o1 : w1.ownsRow w.heap.size 3 1 v1 (ms ++ [s.1, s.2]).length ((ms ++ [s.1, s.2]).map (Value.int .i64)) := by simpa using hown1
                have z1 := lt_of_block B1
                have HB1 := Lib.hid B1
                clear hown1 hg1 hown hbq hsq g0 a0 a1 B1
                go_wp2_with (first
                  | (at_builtin; refine wpList_append_own _ rfl _ _ 27 rfl w.heap.size 3 i0 (.int .i64 0) 1 8 Try.underlying27 hinf hza hzb hzc rfl (by decide) _ _ _ rfl (o1.alloc _) ⟨w1.heap.size, 0, none⟩ 1 1 [.int .i64 (s.1 - 1)] rfl rfl ?c1_2 ?c2_2 ?c3_2 ?c4_2 ?c5_2 ?_)
                  | fail)
                try case c1_2 =>
                  intro i u hu
                  match i, hu with
                  | 0, hu => simp at hu; subst hu; simp [Addr.add]
                case c2_2 => first | exact ⟨rfl, rfl⟩ | (intro u hu; simp at hu; subst hu; rfl)
                case c3_2 => unfold maxLen; (try simp); omega
                case c4_2 => (try simp); omega
                case c5_2 => have := b1.size; (try simp); omega
                · intro v2 w2 hown2 hg2 _
                  have b2 : Below w.heap.size w w2 := (b1.alloc b1.size _).grown hg2 (by have := b1.size; simp; omega) (fun g hg => (o1.lt g hg).1)
                  have B2 : w2.heap[wr.heap.size]? = some (.cells #[.int .i64 s.1, .int .i64 s.2] 35) := (hg2.block wr.heap.size (by simp; omega) (own_ne o1 HB1.out)).trans ((alloc_old _ () z1).trans HB1.out)
                  clear x0 x1
                  have x0 : w2.cell? ⟨wr.heap.size, 0, none⟩ = some (.int .i64 s.1) := (cell_of_block B2 0).trans rfl
                  have x1 : w2.cell? ⟨wr.heap.size, 1, none⟩ = some (.int .i64 s.2) := (cell_of_block B2 1).trans rfl
                  have o2 : w2.ownsRow w.heap.size 3 1 v2 ((ms ++ [s.1, s.2]) ++ [s.1 - 1]).length (((ms ++ [s.1, s.2]) ++ [s.1 - 1]).map (Value.int .i64)) := by simpa using hown2
                  have z2 := lt_of_block B2
                  have HB2 := Lib.hid B2
                  clear hown2 hg2 o1 b1 B2 z1 HB1
                  go_wp2_with (first
                    | (at_builtin; refine wpList_append_own _ rfl _ _ 27 rfl w.heap.size 3 i0 (.int .i64 0) 1 8 Try.underlying27 hinf hza hzb hzc rfl (by decide) _ _ _ rfl (o2.alloc _) ⟨w2.heap.size, 0, none⟩ 1 1 [.int .i64 (s.2 + 1)] rfl rfl ?c1_3 ?c2_3 ?c3_3 ?c4_3 ?c5_3 ?_)
                    | fail)
                  try case c1_3 =>
                    intro i u hu
                    match i, hu with
                    | 0, hu => simp at hu; subst hu; simp [Addr.add]
                  case c2_3 => first | exact ⟨rfl, rfl⟩ | (intro u hu; simp at hu; subst hu; rfl)
                  case c3_3 => unfold maxLen; (try simp); omega
                  case c4_3 => (try simp); omega
                  case c5_3 => have := b2.size; (try simp); omega
                  · intro v3 w3 hown3 hg3 _
                    have b3 : Below w.heap.size w w3 := (b2.alloc b2.size _).grown hg3 (by have := b2.size; simp; omega) (fun g hg => (o2.lt g hg).1)
                    have B3 : w3.heap[wr.heap.size]? = some (.cells #[.int .i64 s.1, .int .i64 s.2] 35) := (hg3.block wr.heap.size (by simp; omega) (own_ne o2 HB2.out)).trans ((alloc_old _ () z2).trans HB2.out)
                    clear x0 x1
                    have x0 : w3.cell? ⟨wr.heap.size, 0, none⟩ = some (.int .i64 s.1) := (cell_of_block B3 0).trans rfl
                    have x1 : w3.cell? ⟨wr.heap.size, 1, none⟩ = some (.int .i64 s.2) := (cell_of_block B3 1).trans rfl
                    have o3 : w3.ownsRow w.heap.size 3 1 v3 (((ms ++ [s.1, s.2]) ++ [s.1 - 1]) ++ [s.2 + 1]).length ((((ms ++ [s.1, s.2]) ++ [s.1 - 1]) ++ [s.2 + 1]).map (Value.int .i64)) := by simpa using hown3
                    have z3 := lt_of_block B3
                    have HB3 := Lib.hid B3
                    clear hown3 hg3 o2 b2 B3 z2 HB2
                    go_wp2_with fail
                    go_roundg (30 - (j + 1))
                    case measure => omega
                    case rel => exact ⟨j + 1, (((ms ++ [s.1, s.2]) ++ [s.1 - 1]) ++ [s.2 + 1]), by omega, by omega, by go_num, o3, by simp; omega, b3⟩
            · skip
              have f1 : IntKind.i64.wrap (s.1 - 1) = s.1 - 1 := w1.resolve_right (fun h => h hc1)
              clear w1 w2
              go_wp2_with (first
                | (at_builtin; refine wpList_append_own _ rfl _ _ 27 rfl w.heap.size 3 i0 (.int .i64 0) 1 8 Try.underlying27 hinf hza hzb hzc rfl (by decide) _ _ _ rfl ((hown.alloc _).alloc _) ⟨wr.heap.size + 1, 0, none⟩ 2 2 [.int .i64 (s.1), .int .i64 (s.2)] rfl rfl ?c1_4 ?c2_4 ?c3_4 ?c4_4 ?c5_4 ?_)
                | fail)
              try case c1_4 =>
                intro i u hu
                match i, hu with
                | 0, hu => simp at hu; subst hu; simp [Addr.add]
                | 1, hu => simp at hu; subst hu; simp [Addr.add]
              case c2_4 => first | exact ⟨rfl, rfl⟩ | (intro u hu; simp at hu; rcases hu with rfl | rfl <;> rfl)
              case c3_4 => unfold maxLen; (try simp); omega
              case c4_4 => (try simp); omega
              case c5_4 => (try simp); omega
              · intro v1 w1 hown1 hg1 _
                have b1 : Below w.heap.size w w1 := ((hbq.alloc hsq _).alloc (by simp; omega) _).grown hg1 (by simp; omega) (fun g hg => (hown.lt g hg).1)
                have B1 : w1.heap[wr.heap.size]? = some (.cells #[.int .i64 s.1, .int .i64 s.2] 35) := (hg1.block wr.heap.size (by simp; omega) (by intro e; have := (hown.lt _ e.symm).2; omega)).trans ((alloc_old _ () (by simp)).trans (MapKept.heap_alloc wr _).1)
                have x0 : w1.cell? ⟨wr.heap.size, 0, none⟩ = some (.int .i64 s.1) := (cell_of_block B1 0).trans rfl
                have x1 : w1.cell? ⟨wr.heap.size, 1, none⟩ = some (.int .i64 s.2) := (cell_of_block B1 1).trans rfl
                have o1 : w1.ownsRow w.heap.size 3 1 v1 (ms ++ [s.1, s.2]).length ((ms ++ [s.1, s.2]).map (Value.int .i64)) := by simpa using hown1
                have z1 := lt_of_block B1
                have HB1 := Lib.hid B1
                clear hown1 hg1 hown hbq hsq g0 a0 a1 B1
                go_wp2_with (first
                  | (at_builtin; refine wpList_append_own _ rfl _ _ 27 rfl w.heap.size 3 i0 (.int .i64 0) 1 8 Try.underlying27 hinf hza hzb hzc rfl (by decide) _ _ _ rfl (o1.alloc _) ⟨w1.heap.size, 0, none⟩ 1 1 [.int .i64 (s.1 - 1)] rfl rfl ?c1_5 ?c2_5 ?c3_5 ?c4_5 ?c5_5 ?_)
                  | fail)
                try case c1_5 =>
                  intro i u hu
                  match i, hu with
                  | 0, hu => simp at hu; subst hu; simp [Addr.add]
                case c2_5 => first | exact ⟨rfl, rfl⟩ | (intro u hu; simp at hu; subst hu; rfl)
                case c3_5 => unfold maxLen; (try simp); omega
                case c4_5 => (try simp); omega
                case c5_5 => have := b1.size; (try simp); omega
                · intro v2 w2 hown2 hg2 _
                  have b2 : Below w.heap.size w w2 := (b1.alloc b1.size _).grown hg2 (by have := b1.size; simp; omega) (fun g hg => (o1.lt g hg).1)
                  have B2 : w2.heap[wr.heap.size]? = some (.cells #[.int .i64 s.1, .int .i64 s.2] 35) := (hg2.block wr.heap.size (by simp; omega) (own_ne o1 HB1.out)).trans ((alloc_old _ () z1).trans HB1.out)
                  clear x0 x1
                  have x0 : w2.cell? ⟨wr.heap.size, 0, none⟩ = some (.int .i64 s.1) := (cell_of_block B2 0).trans rfl
                  have x1 : w2.cell? ⟨wr.heap.size, 1, none⟩ = some (.int .i64 s.2) := (cell_of_block B2 1).trans rfl
                  have o2 : w2.ownsRow w.heap.size 3 1 v2 ((ms ++ [s.1, s.2]) ++ [s.1 - 1]).length (((ms ++ [s.1, s.2]) ++ [s.1 - 1]).map (Value.int .i64)) := by simpa using hown2
                  have z2 := lt_of_block B2
                  have HB2 := Lib.hid B2
                  clear hown2 hg2 o1 b1 B2 z1 HB1
                  go_wp2_with fail
                  go_roundg (30 - (j + 1))
                  case measure => omega
                  case rel => exact ⟨j + 1, ((ms ++ [s.1, s.2]) ++ [s.1 - 1]), by omega, by omega, by go_num, o2, by simp; omega, b2⟩
            · skip
              have f2 : IntKind.i64.wrap (s.2 + 1) = s.2 + 1 := w2.resolve_right (fun h => h hc2)
              clear w1 w2
              go_wp2_with (first
                | (at_builtin; refine wpList_append_own _ rfl _ _ 27 rfl w.heap.size 3 i0 (.int .i64 0) 1 8 Try.underlying27 hinf hza hzb hzc rfl (by decide) _ _ _ rfl ((hown.alloc _).alloc _) ⟨wr.heap.size + 1, 0, none⟩ 2 2 [.int .i64 (s.1), .int .i64 (s.2)] rfl rfl ?c1_6 ?c2_6 ?c3_6 ?c4_6 ?c5_6 ?_)
                | fail)
              try case c1_6 =>
                intro i u hu
                match i, hu with
                | 0, hu => simp at hu; subst hu; simp [Addr.add]
                | 1, hu => simp at hu; subst hu; simp [Addr.add]
              case c2_6 => first | exact ⟨rfl, rfl⟩ | (intro u hu; simp at hu; rcases hu with rfl | rfl <;> rfl)
              case c3_6 => unfold maxLen; (try simp); omega
              case c4_6 => (try simp); omega
              case c5_6 => (try simp); omega
              · intro v1 w1 hown1 hg1 _
                have b1 : Below w.heap.size w w1 := ((hbq.alloc hsq _).alloc (by simp; omega) _).grown hg1 (by simp; omega) (fun g hg => (hown.lt g hg).1)
                have B1 : w1.heap[wr.heap.size]? = some (.cells #[.int .i64 s.1, .int .i64 s.2] 35) := (hg1.block wr.heap.size (by simp; omega) (by intro e; have := (hown.lt _ e.symm).2; omega)).trans ((alloc_old _ () (by simp)).trans (MapKept.heap_alloc wr _).1)
                have x0 : w1.cell? ⟨wr.heap.size, 0, none⟩ = some (.int .i64 s.1) := (cell_of_block B1 0).trans rfl
                have x1 : w1.cell? ⟨wr.heap.size, 1, none⟩ = some (.int .i64 s.2) := (cell_of_block B1 1).trans rfl
                have o1 : w1.ownsRow w.heap.size 3 1 v1 (ms ++ [s.1, s.2]).length ((ms ++ [s.1, s.2]).map (Value.int .i64)) := by simpa using hown1
                have z1 := lt_of_block B1
                have HB1 := Lib.hid B1
                clear hown1 hg1 hown hbq hsq g0 a0 a1 B1
                go_wp2_with (first
                  | (at_builtin; refine wpList_append_own _ rfl _ _ 27 rfl w.heap.size 3 i0 (.int .i64 0) 1 8 Try.underlying27 hinf hza hzb hzc rfl (by decide) _ _ _ rfl (o1.alloc _) ⟨w1.heap.size, 0, none⟩ 1 1 [.int .i64 (s.2 + 1)] rfl rfl ?c1_7 ?c2_7 ?c3_7 ?c4_7 ?c5_7 ?_)
                  | fail)
                try case c1_7 =>
                  intro i u hu
                  match i, hu with
                  | 0, hu => simp at hu; subst hu; simp [Addr.add]
                case c2_7 => first | exact ⟨rfl, rfl⟩ | (intro u hu; simp at hu; subst hu; rfl)
                case c3_7 => unfold maxLen; (try simp); omega
                case c4_7 => (try simp); omega
                case c5_7 => have := b1.size; (try simp); omega
                · intro v2 w2 hown2 hg2 _
                  have b2 : Below w.heap.size w w2 := (b1.alloc b1.size _).grown hg2 (by have := b1.size; simp; omega) (fun g hg => (o1.lt g hg).1)
                  have B2 : w2.heap[wr.heap.size]? = some (.cells #[.int .i64 s.1, .int .i64 s.2] 35) := (hg2.block wr.heap.size (by simp; omega) (own_ne o1 HB1.out)).trans ((alloc_old _ () z1).trans HB1.out)
                  clear x0 x1
                  have x0 : w2.cell? ⟨wr.heap.size, 0, none⟩ = some (.int .i64 s.1) := (cell_of_block B2 0).trans rfl
                  have x1 : w2.cell? ⟨wr.heap.size, 1, none⟩ = some (.int .i64 s.2) := (cell_of_block B2 1).trans rfl
                  have o2 : w2.ownsRow w.heap.size 3 1 v2 ((ms ++ [s.1, s.2]) ++ [s.2 + 1]).length (((ms ++ [s.1, s.2]) ++ [s.2 + 1]).map (Value.int .i64)) := by simpa using hown2
                  have z2 := lt_of_block B2
                  have HB2 := Lib.hid B2
                  clear hown2 hg2 o1 b1 B2 z1 HB1
                  go_wp2_with fail
                  go_roundg (30 - (j + 1))
                  case measure => omega
                  case rel => exact ⟨j + 1, ((ms ++ [s.1, s.2]) ++ [s.2 + 1]), by omega, by omega, by go_num, o2, by simp; omega, b2⟩
            · skip
              clear w1 w2
              go_wp2_with (first
                | (at_builtin; refine wpList_append_own _ rfl _ _ 27 rfl w.heap.size 3 i0 (.int .i64 0) 1 8 Try.underlying27 hinf hza hzb hzc rfl (by decide) _ _ _ rfl ((hown.alloc _).alloc _) ⟨wr.heap.size + 1, 0, none⟩ 2 2 [.int .i64 (s.1), .int .i64 (s.2)] rfl rfl ?c1_8 ?c2_8 ?c3_8 ?c4_8 ?c5_8 ?_)
                | fail)
              try case c1_8 =>
                intro i u hu
                match i, hu with
                | 0, hu => simp at hu; subst hu; simp [Addr.add]
                | 1, hu => simp at hu; subst hu; simp [Addr.add]
              case c2_8 => first | exact ⟨rfl, rfl⟩ | (intro u hu; simp at hu; rcases hu with rfl | rfl <;> rfl)
              case c3_8 => unfold maxLen; (try simp); omega
              case c4_8 => (try simp); omega
              case c5_8 => (try simp); omega
              · intro v1 w1 hown1 hg1 _
                have b1 : Below w.heap.size w w1 := ((hbq.alloc hsq _).alloc (by simp; omega) _).grown hg1 (by simp; omega) (fun g hg => (hown.lt g hg).1)
                have B1 : w1.heap[wr.heap.size]? = some (.cells #[.int .i64 s.1, .int .i64 s.2] 35) := (hg1.block wr.heap.size (by simp; omega) (by intro e; have := (hown.lt _ e.symm).2; omega)).trans ((alloc_old _ () (by simp)).trans (MapKept.heap_alloc wr _).1)
                have x0 : w1.cell? ⟨wr.heap.size, 0, none⟩ = some (.int .i64 s.1) := (cell_of_block B1 0).trans rfl
                have x1 : w1.cell? ⟨wr.heap.size, 1, none⟩ = some (.int .i64 s.2) := (cell_of_block B1 1).trans rfl
                have o1 : w1.ownsRow w.heap.size 3 1 v1 (ms ++ [s.1, s.2]).length ((ms ++ [s.1, s.2]).map (Value.int .i64)) := by simpa using hown1
                have z1 := lt_of_block B1
                have HB1 := Lib.hid B1
                clear hown1 hg1 hown hbq hsq g0 a0 a1 B1
                go_wp2_with fail
                go_roundg (30 - (j + 1))
                case measure => omega
                case rel => exact ⟨j + 1, (ms ++ [s.1, s.2]), by omega, by omega, by go_num, o1, by simp; omega, b1⟩
          · have h4 : (j : Int) < (x.xs.length : Int) := by omega
            have h5 : ¬ ((j : Int) < 30) := by omega
            go_wp2_with fail
            go_roundg (ls.length - (i + 1))
            case measure => omega
            case rel => exact ⟨i + 1, ms, by omega, by omega, by go_num, hown, by omega, hbq⟩
        · have h4 : ¬ ((j : Int) < (x.xs.length : Int)) := by omega
          go_wp2_with fail
          go_roundg (ls.length - (i + 1))
          case measure => omega
          case rel => exact ⟨i + 1, ms, by omega, by omega, by go_num, hown, by omega, hbq⟩
    · obtain ⟨N, cn, rfl, hrd⟩ := own_rd (css := ns.map intC) hown (flat_intC ns).symm (by intro c hc; obtain ⟨x, _, rfl⟩ := List.mem_map.1 hc; rfl) (by simp)
      have h1 : ¬ ((i : Int) < (ls.length : Int)) := by omega
      go_wp2_with fail
      go_ret
      exact ⟨ns, N, ⟨cn, rfl⟩, hrd, by omega, hbel⟩
end Go.Proofs.Ythdbbefiebolbaa
