import Derived.Test.YtfhmjkdpohepaaaDoorPk19
import Derived.Test.YtfhmjkdpohepaaaDoorPk07
/- soffit/value.Sort at sound values, walked. -/
set_option linter.unusedSimpArgs false
set_option linter.unusedVariables false
namespace Go.Proofs.YtfhmjkdpohepaaaDoor
open Go.RowKit Go.Sort

set_option maxHeartbeats 400000 in
theorem vsort1_any (v : Vl) (w : World) (hv : v.wf) (hE : Env w) :
    Calls Tryd.prog 52 #[.agg #[.int .i64 v.k, .int .i64 v.n, .int .i64 v.s, .string v.t, .int .i64 v.i]] w fun e w' => e = .returned (.bool (!sndB v)) ∧ Below w.heap.size w w' := by
  obtain ⟨B, hB⟩ : ∃ B, sndB v = B := ⟨_, rfl⟩
  rw [hB]
  go_enter Tryd.func52, Tryd.ntmps52
  go_wp2_with fail
  refine (vSound_any v _ hv (hE.below bel)).mono ?_
  rintro e w1 ⟨rfl, hb1⟩
  rw [hB]
  clear hB
  go_wp2_with fail
  go_ret
  exact ⟨ret_bool rfl, bel⟩

/-- what Sort makes: the values, rising, each once -/
structure SortOf (l R : List Vl) : Prop where
  mem : ∀ v, v ∈ R ↔ v ∈ l
  low : ∀ v ∈ l, ∀ x, R[0]? = some x → ltV v x = false
  high : ∀ v ∈ l, ∀ x, R.getLast? = some x → ltV x v = false
  pos : 0 < R.length
  len : R.length ≤ l.length
theorem cpT_has (l : List Vl) : ∀ (r : Nat), r ≤ l.length → ∀ t, t < r → ∀ (h : t < l.length), l[t]'h ∈ cpT l r
  | 0, _, t, ht, _ => by omega
  | r + 1, hr, t, ht, h => by
    have e := List.getElem?_eq_getElem (show r < l.length by omega)
    by_cases htr : t = r
    · subst htr
      have := cpT_last l t h
      rw [e] at this
      exact List.mem_of_getLast? this
    · have ih := cpT_has l r (by omega) t (by omega) h
      by_cases hn : 0 < r ∧ l[r - 1]? = some (l[r]'(by omega))
      · rw [cpT_old e hn]; exact ih
      · rw [cpT_new e hn]; exact List.mem_append_left _ ih
theorem sort_of {l d : List Vl} (h0 : 0 < l.length) (hp : d.Perm l) (hs : d.Pairwise (fun a b => ltV b a = false)) : SortOf l (cpT d d.length) := by
  have hl : d.length = l.length := hp.length_eq
  obtain ⟨m, hm⟩ : ∃ m, d.length = m + 1 := ⟨d.length - 1, by omega⟩
  have hpw := List.pairwise_iff_getElem.1 hs
  have hmem : ∀ v, v ∈ cpT d d.length ↔ v ∈ l := fun v => ⟨fun h => hp.mem_iff.1 (cpT_mem d _ v h), fun h => by
    obtain ⟨t, ht, rfl⟩ := List.getElem_of_mem (hp.mem_iff.2 h)
    exact cpT_has d d.length (Nat.le_refl _) t ht ht⟩
  refine ⟨hmem, fun v hv x hx => ?_, fun v hv x hx => ?_, ?_, by rw [← hl]; exact cpT_len d _⟩
  · rw [hm, cpT_head d m (by omega)] at hx
    obtain ⟨h1, rfl⟩ := List.getElem?_eq_some_iff.1 hx
    obtain ⟨t, ht, rfl⟩ := List.getElem_of_mem (hp.mem_iff.2 hv)
    by_cases h : t = 0
    · subst h; exact swo_ltV.irrefl _
    · exact hpw 0 t h1 ht (by omega)
  · rw [hm, cpT_last d m (by omega)] at hx
    obtain ⟨h1, rfl⟩ := List.getElem?_eq_some_iff.1 hx
    obtain ⟨t, ht, rfl⟩ := List.getElem_of_mem (hp.mem_iff.2 hv)
    by_cases h : t = m
    · subst h; exact swo_ltV.irrefl _
    · exact hpw t m ht h1 (by omega)
  · have := cpT_head d m (by omega)
    rw [← hm, List.getElem?_eq_getElem (show 0 < d.length by omega)] at this
    have := (List.getElem?_eq_some_iff.1 this).1
    exact this

set_option maxRecDepth 100000 in
set_option maxHeartbeats 1600000 in
theorem vsortD_any (l : List Vl) (A : Option Addr) (c : Nat) (w : World) (hr : RdL w 5 A (l.map Vl.cells5)) (hw : ∀ v ∈ l, v.wf) (hs : ∀ v ∈ l, sndB v = true) (h0 : 0 < l.length) (hn : l.length ≤ 1000000) (hE : Env w) :
    Calls Tryd.prog 37 #[.slice A l.length c] w fun e w' =>
      ∃ (R : List Vl) (B : Option Addr), e = .returned (.tuple #[.slice B R.length R.length, .int .i64 0]) ∧ RdL w' 5 B (R.map Vl.cells5) ∧ SortOf l R ∧ (∃ d : List Vl, d.Perm l ∧ d.Pairwise (fun a b => ltV b a = false) ∧ R = cpT d d.length) ∧ Below w.heap.size w w' := by
  obtain ⟨L, hL⟩ := sv_list l hw hs
  have hLl : L.length = l.length := by rw [← hL, List.length_map]
  have hgives : valGives 52 #[] (fun v => !sndB v) l w := fun v hv W hW => vsort1_any v W (hw v hv) (hE.below hW)
  have eg : ∀ args W, (callFunc 52 args).run Tryd.prog W = .ok (.enter 52 args) W := enters_of Tryd.func52 (by kernel_rfl) rfl
  have hany : l.any (fun v => !sndB v) = false := by rw [List.any_eq_false]; intro v hv; rw [hs v hv]; simp
  have hcon := valContains 52 (fun v => !sndB v) l A c w hr (by omega) hgives eg
  rw [hany] at hcon
  have HC := Lib.hid hcon
  have HLL := Lib.hid hL
  have HW := Lib.hid hw
  clear hgives eg hany hcon hs hw hL
  obtain ⟨b0, o0, rfl, _⟩ := hr.at_ h0
  have HR := Lib.hid hr
  clear hr
  go_enter Tryd.func37, Tryd.ntmps37
  go_wp2_with fail
  refine HC.out.mono ?_
  rintro e w1 ⟨rfl, hb1⟩
  go_wp2_with fail
  refine (vclone_any l b0 o0 c _ (HR.out.below hb1) (by omega)).mono ?_
  rintro e w2 ⟨g, cap, rfl, hg, hg2, hcap, hcapm, hr2, hf2, hb2⟩
  have hz1 := hb1.size
  have hz2 := hb2.size
  have hb12 : Below w.heap.size w w2 := hb1.trans (hb2.mono hz1)
  have hmapE : L.map encV = l.map Vl.cells5 := by rw [← HLL.out, List.map_map]; rfl
  have hsort := vsortf_any L g cap w.heap.size w2 (by omega) (by omega) hg2 (by rw [hmapE]; exact hr2) (fun t _ => hf2 t) (by omega)
  rw [hLl] at hsort
  have HS := Lib.hid hsort
  clear hsort hr2 hf2 hmapE
  go_wp2_with fail
  refine HS.out.mono ?_
  rintro e w3 ⟨rfl, D, hperm, hpair, hr3, hf3, hb3⟩
  have hdl : (D.map (fun x => x.1)).length = l.length := by rw [List.length_map, hperm.length_eq, hLl]
  have hdperm : (D.map (fun x => x.1)).Perm l := by have := hperm.map (fun x : SV => x.1); rw [HLL.out] at this; exact this
  have hdpair : (D.map (fun x => x.1)).Pairwise (fun a b => ltV b a = false) := List.pairwise_map.2 hpair
  have hrd : RdL w3 5 (some ⟨g, 0, none⟩) ((D.map (fun x => x.1)).map Vl.cells5) := by rw [List.map_map]; exact hr3
  have hfd : ∀ t, t < (D.map (fun x => x.1)).length * 5 → w3.frozen? ⟨g, t, none⟩ = false := fun t ht => hf3 t (by simpa using ht)
  generalize D.map (fun x => x.1) = d at hdl hdperm hdpair hrd hfd
  have hso := sort_of h0 hdperm hdpair
  have hz3 := hb3.size
  have hg3 : g < w3.heap.size := by omega
  have hcomp := vcompact_any d g cap w.heap.size w3 (by omega) (by omega) (by omega) hg3 hrd hfd (by omega) (by omega) hcapm
  rw [hdl] at hcomp
  rw [hdl] at hso
  have HCO := Lib.hid hcomp
  have HDD : Hid (∃ d' : List Vl, d'.Perm l ∧ d'.Pairwise (fun a b => ltV b a = false) ∧ cpT d l.length = cpT d' d'.length) := Lib.hid ⟨d, hdperm, hdpair, by rw [hdl]⟩
  have HSO := Lib.hid hso
  clear hcomp hso hrd hfd hperm hpair hr3 hf3 HS HC
  go_wp2_with fail
  refine HCO.out.mono ?_
  rintro e w4 ⟨rfl, hr4, hb4⟩
  have hlen := HSO.out.len
  generalize cpT d l.length = R at *
  clear HCO
  go_wp2_with fail
  refine (vclip_any R.length cap ⟨g, 0, none⟩ _ (by omega)).mono ?_
  rintro e w5 ⟨rfl, rfl⟩
  go_wp2_with fail
  go_ret2
  exact ⟨R, _, rfl, hr4, HSO.out, HDD.out, hb12.trans (hb3.trans hb4)⟩
theorem vsort_any (l : List Vl) (A : Option Addr) (c : Nat) (w : World) (hr : RdL w 5 A (l.map Vl.cells5)) (hw : ∀ v ∈ l, v.wf) (hs : ∀ v ∈ l, sndB v = true) (h0 : 0 < l.length) (hn : l.length ≤ 1000000) (hE : Env w) :
    Calls Tryd.prog 37 #[.slice A l.length c] w fun e w' =>
      ∃ (R : List Vl) (B : Option Addr), e = .returned (.tuple #[.slice B R.length R.length, .int .i64 0]) ∧ RdL w' 5 B (R.map Vl.cells5) ∧ SortOf l R ∧ Below w.heap.size w w' :=
  (vsortD_any l A c w hr hw hs h0 hn hE).mono fun _ _ ⟨R, B, h1, h2, h3, _, h5⟩ => ⟨R, B, h1, h2, h3, h5⟩
end Go.Proofs.YtfhmjkdpohepaaaDoor

/- (soffit/policy.outs).one and .end, walked. -/
set_option linter.unusedSimpArgs false
set_option linter.unusedVariables false
namespace Go.Proofs.YtfhmjkdpohepaaaDoor
open Go.RowKit

/-- what a predicate owes: at each of some things, in every world that has all that was there -/
def outGives (g : Nat) (fv : Array Value) (p : Vl → Bool) (xs : List Vl) (w : World) : Prop :=
  ∀ x ∈ xs, ∀ W : World, Below w.heap.size w W → Calls Tryd.prog g (#[.agg #[.int .i64 x.k, .int .i64 x.n, .int .i64 x.s, .string x.t, .int .i64 x.i]] ++ fv) W fun e w' => e = .returned (.bool (p x)) ∧ Below W.heap.size W w'

set_option maxRecDepth 100000 in
set_option maxHeartbeats 800000 in
theorem outIndexF (g : Nat) (q : Addr) (p : Vl → Bool) (xs : List Vl) (A : Option Addr) (c : Nat) (w : World) (hr : RdL w 5 A (xs.map Vl.cells5)) (hn : xs.length ≤ 9223372036854775807)
    (hg : outGives g #[.pointer (some q)] p xs w) (he : ∀ args W, (callFunc g args).run Tryd.prog W = .ok (.enter g args) W) :
    Calls Tryd.prog 48 #[.slice A xs.length c, .func (.func g) #[] #[.pointer (some q)]] w fun e w' => e = .returned (.int .i64 (idxF p xs 0)) ∧ Below w.heap.size w w' := by
  go_enter Tryd.func48, Tryd.ntmps48
  go_wp2_with fail
  go_loopg [8] xs.length (fun k i wr => ∃ j : Nat, j ≤ xs.length ∧ xs.length - j ≤ k ∧ Hid (idxF p xs 0 = idxF p (xs.drop j) j) ∧ i = .int .i64 j ∧ Below w.heap.size w wr)
  case atStart => exact ⟨0, by omega, by omega, rfl, rfl, Below.refl _ _⟩
  case round =>
    obtain ⟨j, hj, hjk, hi, rfl, hbel⟩ := hrel
    by_cases hlt : j < xs.length
    · obtain ⟨b, off, rfl, hx⟩ := (hr.below hbel).at_ hlt
      have hmem : xs[j]'hlt ∈ xs := List.getElem_mem hlt
      have hyes := fun h => idxF_drop_yes (p := p) hlt h
      have hno := fun h => idxF_drop_no (p := p) hlt h
      generalize hX : xs[j]'hlt = x at *
      have hgx := hg x hmem
      have g0 : wr.cell? ⟨b, off + j * 5, none⟩ = some (.int .i64 x.k) := hx.get 0 rfl
      have g1 : wr.cell? ⟨b, off + j * 5 + 1, none⟩ = some (.int .i64 x.n) := hx.get 1 rfl
      have g2 : wr.cell? ⟨b, off + j * 5 + 2, none⟩ = some (.int .i64 x.s) := hx.get 2 rfl
      have g3 : wr.cell? ⟨b, off + j * 5 + 3, none⟩ = some (.string x.t) := hx.get 3 rfl
      have g4 : wr.cell? ⟨b, off + j * 5 + 4, none⟩ = some (.int .i64 x.i) := hx.get 4 rfl
      have HG := Lib.hid hgx
      have HYES := Lib.hid hyes
      have HNO := Lib.hid hno
      have hsz := hbel.size
      clear hgx hyes hno hX hmem hx
      cases hp : p x
      · have HN := Lib.hid (HNO.out hp)
        go_wp2_with fail
        refine (HG.out _ bel).mono ?_
        rintro e w1 ⟨rfl, hb1⟩
        rw [hp]
        clear hp
        go_wp2_with fail
        go_roundg (gk - 1)
        case measure => omega
        case rel => exact ⟨j + 1, by omega, by omega, hi.out.trans HN.out, by go_num, bel⟩
      · have HY := Lib.hid (HYES.out hp)
        go_wp2_with fail
        refine (HG.out _ bel).mono ?_
        rintro e w1 ⟨rfl, hb1⟩
        rw [hp]
        clear hp
        go_wp2_with fail
        go_ret
        exact ⟨ret_int (by rw [hi.out, HY.out]), bel⟩
    · have HE := Lib.hid (idxF_drop_end (p := p) hlt)
      go_wp2_with fail
      go_ret
      exact ⟨ret_int (by rw [hi.out, HE.out]), hbel⟩

set_option maxHeartbeats 400000 in
theorem outContainsF (g : Nat) (q : Addr) (p : Vl → Bool) (xs : List Vl) (A : Option Addr) (c : Nat) (w : World) (hr : RdL w 5 A (xs.map Vl.cells5)) (hn : xs.length ≤ 9223372036854775807)
    (hg : outGives g #[.pointer (some q)] p xs w) (he : ∀ args W, (callFunc g args).run Tryd.prog W = .ok (.enter g args) W) :
    Calls Tryd.prog 32 #[.slice A xs.length c, .func (.func g) #[] #[.pointer (some q)]] w fun e w' => e = .returned (.bool (xs.any p)) ∧ Below w.heap.size w w' := by
  have HA := Lib.hid (idxF_any p xs 0)
  go_enter Tryd.func32, Tryd.ntmps32
  go_wp2_with fail
  refine (outIndexF g q p xs A c _ hr hn hg he).mono ?_
  rintro e w1 ⟨rfl, hb1⟩
  generalize idxF p xs 0 = r at *
  go_wp2_with fail
  go_ret
  exact ⟨ret_bool HA.out, hb1⟩


set_option maxHeartbeats 400000 in
theorem one1_any (v o : Vl) (q b off n c : Nat) (w : World) (hq : w.cell? ⟨q, 0, none⟩ = some (.slice (some ⟨b, off, none⟩) n c)) (hn : 0 < n) (hx : CellsAt w b off o.cells5) :
    Calls Tryd.prog 33 #[.agg #[.int .i64 v.k, .int .i64 v.n, .int .i64 v.s, .string v.t, .int .i64 v.i], .pointer (some ⟨q, 0, none⟩)] w fun e w' => e = .returned (.bool (!eqB v o)) ∧ Below w.heap.size w w' := by
  have y0 : w.cell? ⟨b, off, none⟩ = some (.int .i64 o.k) := by have := hx.get 0 rfl; simpa using this
  have y1 : w.cell? ⟨b, off + 1, none⟩ = some (.int .i64 o.n) := by have := hx.get 1 rfl; simpa using this
  have y2 : w.cell? ⟨b, off + 2, none⟩ = some (.int .i64 o.s) := by have := hx.get 2 rfl; simpa using this
  have y3 : w.cell? ⟨b, off + 3, none⟩ = some (.string o.t) := by have := hx.get 3 rfl; simpa using this
  have y4 : w.cell? ⟨b, off + 4, none⟩ = some (.int .i64 o.i) := by have := hx.get 4 rfl; simpa using this
  have i0 : (0 : Int) < (n : Int) := by omega
  have hl : q < w.heap.size := cell_lt hq
  have hlb : b < w.heap.size := cell_lt y0
  have hne : ¬ q = w.heap.size := by omega
  have hnb : ¬ b = w.heap.size := by omega
  obtain ⟨B, hB⟩ : ∃ B, eqB v o = B := ⟨_, rfl⟩
  have hnq : ∀ W : World, _ := fun W => (neV_run v o W).trans (by rw [hB])
  rw [hB]
  clear hx hB
  go_enter Tryd.func33, Tryd.ntmps33
  go_wp2_with fail
  all_goals try go_quiet (fail)
  all_goals go_wp2_with fail
  all_goals go_ret
  all_goals exact ⟨ret_bool rfl, bel⟩

/-- of another kind than the first, or none -/
def badK (o v : Vl) : Bool := (v.k != o.k) || (v.k == 0)
set_option maxHeartbeats 400000 in
theorem end1_any (v o : Vl) (q b off n c : Nat) (w : World) (hq : w.cell? ⟨q, 0, none⟩ = some (.slice (some ⟨b, off, none⟩) n c)) (hn : 0 < n) (hx : CellsAt w b off o.cells5) :
    Calls Tryd.prog 36 #[.agg #[.int .i64 v.k, .int .i64 v.n, .int .i64 v.s, .string v.t, .int .i64 v.i], .pointer (some ⟨q, 0, none⟩)] w fun e w' => e = .returned (.bool (badK o v)) ∧ Below w.heap.size w w' := by
  have y0 : w.cell? ⟨b, off, none⟩ = some (.int .i64 o.k) := by have := hx.get 0 rfl; simpa using this
  have y1 : w.cell? ⟨b, off + 1, none⟩ = some (.int .i64 o.n) := by have := hx.get 1 rfl; simpa using this
  have y2 : w.cell? ⟨b, off + 2, none⟩ = some (.int .i64 o.s) := by have := hx.get 2 rfl; simpa using this
  have y3 : w.cell? ⟨b, off + 3, none⟩ = some (.string o.t) := by have := hx.get 3 rfl; simpa using this
  have y4 : w.cell? ⟨b, off + 4, none⟩ = some (.int .i64 o.i) := by have := hx.get 4 rfl; simpa using this
  have i0 : (0 : Int) < (n : Int) := by omega
  have hl : q < w.heap.size := cell_lt hq
  have hlb : b < w.heap.size := cell_lt y0
  have hne : ¬ q = w.heap.size := by omega
  have hnb : ¬ b = w.heap.size := by omega
  have four : ((v.k != o.k) = true ∧ badK o v = true) ∨ ((v.k != o.k) = false ∧ (v.k == 0) = true ∧ badK o v = true) ∨ ((v.k != o.k) = false ∧ (v.k == 0) = false ∧ badK o v = false) := by
    unfold badK
    cases (v.k != o.k) <;> cases (v.k == 0) <;> simp
  clear hx
  rcases four with ⟨e1, e3⟩ | ⟨e1, e2, e3⟩ | ⟨e1, e2, e3⟩
  all_goals
    rw [e3]
    clear e3
    go_enter Tryd.func36, Tryd.ntmps36
    go_wp2_with fail
    try go_quiet (fail)
    go_wp2_with fail
    go_ret
    exact ⟨ret_bool rfl, bel⟩
end Go.Proofs.YtfhmjkdpohepaaaDoor

/- (soffit/policy.outs).one and .end, walked: the whole. -/
set_option linter.unusedSimpArgs false
set_option linter.unusedVariables false
namespace Go.Proofs.YtfhmjkdpohepaaaDoor
open Go.RowKit

def oneV (o : Vl) (os : List Vl) : Vl := if os.any (fun v => !eqB v o) = true then Vl.zero else o
set_option maxRecDepth 100000 in
set_option maxHeartbeats 1600000 in
theorem one_any (o : Vl) (r : List Vl) (A : Option Addr) (c : Nat) (w : World) (hr : RdL w 5 A ((o :: r).map Vl.cells5)) (hn : (o :: r).length ≤ 1000000) :
    Calls Tryd.prog 18 #[.slice A (o :: r).length c] w fun e w' => e = .returned (.agg #[.int .i64 (oneV o (o :: r)).k, .int .i64 (oneV o (o :: r)).n, .int .i64 (oneV o (o :: r)).s, .string (oneV o (o :: r)).t, .int .i64 (oneV o (o :: r)).i]) ∧ Below w.heap.size w w' := by
  obtain ⟨R, hR⟩ : ∃ R, oneV o (o :: r) = R := ⟨_, rfl⟩
  rw [hR]
  have hRR : R = if (o :: r).any (fun v => !eqB v o) = true then Vl.zero else o := hR.symm
  clear hR
  obtain ⟨os, hos⟩ : ∃ os, o :: r = os := ⟨_, rfl⟩
  have h0 : os[0]? = some o := by rw [← hos]; rfl
  have hpos : 0 < os.length := by rw [← hos]; simp
  rw [hos] at hRR hr hn ⊢
  clear hos
  obtain ⟨b, off, hA, hx⟩ := hr.at_ hpos
  have he : os[0]'hpos = o := Option.some.inj ((List.getElem?_eq_getElem hpos).symm.trans h0)
  rw [he] at hx
  rw [hA] at hr ⊢
  have eg : ∀ args W, (callFunc 33 args).run Tryd.prog W = .ok (.enter 33 args) W := enters_of Tryd.func33 (by kernel_rfl) rfl
  have HX : Hid (CellsAt w b off o.cells5) := by have := hx; rw [Nat.zero_mul, Nat.add_zero] at this; exact this
  have HEG := Lib.hid eg
  have HR := Lib.hid hr
  have HPOS := Lib.hid hpos
  have i0 : (0 : Int) < (os.length : Int) := by omega
  clear eg hx he h0 hA hr
  go_enter Tryd.func18, Tryd.ntmps18
  go_wp2_with fail
  generalize hEW0 : (w.alloc _).alloc _ = W0
  have hbW0 : Below w.heap.size w W0 := (by rw [← hEW0]; exact bel)
  have lW0_0 : w.heap.size < W0.heap.size := lsz hEW0
  have qW0_0 : ∀ o, W0.cell? ⟨w.heap.size, o, none⟩ = _ := fun o => congrArg (fun W : World => W.cell? ⟨w.heap.size, o, none⟩) hEW0.symm
  have rW0_0 : ∀ o, W0.frozen? ⟨w.heap.size, o, none⟩ = _ := fun o => congrArg (fun W : World => W.frozen? ⟨w.heap.size, o, none⟩) hEW0.symm
  have lW0_1 : w.heap.size + 1 < W0.heap.size := lsz hEW0
  have qW0_1 : ∀ o, W0.cell? ⟨w.heap.size + 1, o, none⟩ = _ := fun o => congrArg (fun W : World => W.cell? ⟨w.heap.size + 1, o, none⟩) hEW0.symm
  have rW0_1 : ∀ o, W0.frozen? ⟨w.heap.size + 1, o, none⟩ = _ := fun o => congrArg (fun W : World => W.frozen? ⟨w.heap.size + 1, o, none⟩) hEW0.symm
  clear hEW0
  have k0 : W0.cell? ⟨w.heap.size, 0, none⟩ = some (.slice (some ⟨b, off, none⟩) os.length c) := (by first | (simp [go_sem]; done) | (simp [go_sem, *]; done))
  have hgives : outGives 33 #[.pointer (some ⟨w.heap.size, 0, none⟩)] (fun v => !eqB v o) os W0 := fun x _ W hW => one1_any x o w.heap.size b off os.length c W (cell_below hW k0) HPOS.out ((HX.out.below hbW0).below hW)
  have hcall := outContainsF 33 ⟨w.heap.size, 0, none⟩ (fun v => !eqB v o) os _ c W0 (HR.out.below hbW0) (by omega) hgives HEG.out
  cases hany : os.any (fun v => !eqB v o)
  · have HV : Hid (R = o) := by show R = o; rw [hRR, hany]; rfl
    rw [hany] at hcall
    have HCALL := Lib.hid hcall
    clear hany hRR hcall hgives
    refine HCALL.out.mono ?_
    rintro e w1 ⟨rfl, hb1⟩
    have hx1 := (HX.out.below hbW0).below hb1
    have k1 := cell_below hb1 k0
    have hbw1 : Below w.heap.size w w1 := hbW0.trans (hb1.mono (by have := hbW0.size; omega))
    have hz1 := hb1.size
    try simp at hz1
    obtain ⟨q1_0, l1_0, r1_0⟩ := aft hb1 (w.heap.size)
    obtain ⟨q1_1, l1_1, r1_1⟩ := aft hb1 (w.heap.size + 1)
    have y0 : w1.cell? ⟨b, off, none⟩ = some (.int .i64 o.k) := by have := hx1.get 0 rfl; simpa using this
    have y1 : w1.cell? ⟨b, off + 1, none⟩ = some (.int .i64 o.n) := by have := hx1.get 1 rfl; simpa using this
    have y2 : w1.cell? ⟨b, off + 2, none⟩ = some (.int .i64 o.s) := by have := hx1.get 2 rfl; simpa using this
    have y3 : w1.cell? ⟨b, off + 3, none⟩ = some (.string o.t) := by have := hx1.get 3 rfl; simpa using this
    have y4 : w1.cell? ⟨b, off + 4, none⟩ = some (.int .i64 o.i) := by have := hx1.get 4 rfl; simpa using this
    clear hx1 HCALL
    go_wp2_with fail
    try go_quiet (fail)
    go_wp2_with fail
    refine bodyPost_ret (v := .agg #[.int .i64 o.k, .int .i64 o.n, .int .i64 o.s, .string o.t, .int .i64 o.i]) (by simp [results, Tryd.results18, go_sem, *]) rfl ⟨?_, bel⟩
    rw [HV.out]
  · have HV : Hid (R = Vl.zero) := by show R = _; rw [hRR, hany]; rfl
    rw [hany] at hcall
    have HCALL := Lib.hid hcall
    clear hany hRR hcall hgives
    refine HCALL.out.mono ?_
    rintro e w1 ⟨rfl, hb1⟩
    have k1 := cell_below hb1 k0
    have hbw1 : Below w.heap.size w w1 := hbW0.trans (hb1.mono (by have := hbW0.size; omega))
    have hz1 := hb1.size
    try simp at hz1
    obtain ⟨q1_0, l1_0, r1_0⟩ := aft hb1 (w.heap.size)
    obtain ⟨q1_1, l1_1, r1_1⟩ := aft hb1 (w.heap.size + 1)
    clear HCALL
    go_wp2_with fail
    refine bodyPost_ret (v := .agg #[.int .i64 0, .int .i64 0, .int .i64 0, .string ⟨#[]⟩, .int .i64 0]) (by simp [results, Tryd.results18, go_sem, *]) rfl ⟨?_, bel⟩
    rw [HV.out]
    rfl

/-- the least of some, or the greatest; none, if they are not of one kind -/
def EndOf (o : Vl) (os : List Vl) (gr : Bool) (R : Vl) : Prop := (os.any (badK o) = true ∧ R = Vl.zero) ∨ (os.any (badK o) = false ∧ R ∈ os ∧ ∀ y ∈ os, (if gr = true then ltV R y else ltV y R) = false)
set_option maxRecDepth 100000 in
set_option maxHeartbeats 3200000 in
theorem end_any (o : Vl) (r : List Vl) (gr : Bool) (A : Option Addr) (c : Nat) (w : World) (hr : RdL w 5 A ((o :: r).map Vl.cells5)) (hn : (o :: r).length ≤ 1000000) (hw : ∀ v ∈ o :: r, v.wf) (hs : ∀ v ∈ o :: r, sndB v = true) (hE : Env w) :
    Calls Tryd.prog 21 #[.slice A (o :: r).length c, .bool gr] w fun e w' => ∃ R : Vl, e = .returned (.agg #[.int .i64 R.k, .int .i64 R.n, .int .i64 R.s, .string R.t, .int .i64 R.i]) ∧ EndOf o (o :: r) gr R ∧ Below w.heap.size w w' := by
  obtain ⟨os, hos⟩ : ∃ os, o :: r = os := ⟨_, rfl⟩
  have h0 : os[0]? = some o := by rw [← hos]; rfl
  have hpos : 0 < os.length := by rw [← hos]; simp
  rw [hos] at hw hs hr hn ⊢
  clear hos
  obtain ⟨b, off, hA, hx⟩ := hr.at_ hpos
  have he : os[0]'hpos = o := Option.some.inj ((List.getElem?_eq_getElem hpos).symm.trans h0)
  rw [he] at hx
  rw [hA] at hr ⊢
  have eg : ∀ args W, (callFunc 36 args).run Tryd.prog W = .ok (.enter 36 args) W := enters_of Tryd.func36 (by kernel_rfl) rfl
  have HX : Hid (CellsAt w b off o.cells5) := by have := hx; rw [Nat.zero_mul, Nat.add_zero] at this; exact this
  have HEG := Lib.hid eg
  have HR := Lib.hid hr
  have HPOS := Lib.hid hpos
  have i0 : (0 : Int) < (os.length : Int) := by omega
  clear eg hx he h0 hA hr
  go_enter Tryd.func21, Tryd.ntmps21
  go_wp2_with fail
  generalize hEW0 : (w.alloc _).alloc _ = W0
  have hbW0 : Below w.heap.size w W0 := (by rw [← hEW0]; exact bel)
  have lW0_0 : w.heap.size < W0.heap.size := lsz hEW0
  have qW0_0 : ∀ o, W0.cell? ⟨w.heap.size, o, none⟩ = _ := fun o => congrArg (fun W : World => W.cell? ⟨w.heap.size, o, none⟩) hEW0.symm
  have rW0_0 : ∀ o, W0.frozen? ⟨w.heap.size, o, none⟩ = _ := fun o => congrArg (fun W : World => W.frozen? ⟨w.heap.size, o, none⟩) hEW0.symm
  have lW0_1 : w.heap.size + 1 < W0.heap.size := lsz hEW0
  have qW0_1 : ∀ o, W0.cell? ⟨w.heap.size + 1, o, none⟩ = _ := fun o => congrArg (fun W : World => W.cell? ⟨w.heap.size + 1, o, none⟩) hEW0.symm
  have rW0_1 : ∀ o, W0.frozen? ⟨w.heap.size + 1, o, none⟩ = _ := fun o => congrArg (fun W : World => W.frozen? ⟨w.heap.size + 1, o, none⟩) hEW0.symm
  clear hEW0
  have k0 : W0.cell? ⟨w.heap.size, 0, none⟩ = some (.slice (some ⟨b, off, none⟩) os.length c) := (by first | (simp [go_sem]; done) | (simp [go_sem, *]; done))
  have hgives : outGives 36 #[.pointer (some ⟨w.heap.size, 0, none⟩)] (badK o) os W0 := fun x _ W hW => end1_any x o w.heap.size b off os.length c W (cell_below hW k0) HPOS.out ((HX.out.below hbW0).below hW)
  have hcall := outContainsF 36 ⟨w.heap.size, 0, none⟩ (badK o) os _ c W0 (HR.out.below hbW0) (by omega) hgives HEG.out
  have HW := Lib.hid hw
  have HSN := Lib.hid hs
  clear hw hs
  cases hany : os.any (badK o)
  · rw [hany] at hcall
    have HCALL := Lib.hid hcall
    have HANY := Lib.hid hany
    clear hany hcall hgives
    refine HCALL.out.mono ?_
    rintro e w1 ⟨rfl, hb1⟩
    have k1 := cell_below hb1 k0
    have hbw1 : Below w.heap.size w w1 := hbW0.trans (hb1.mono (by have := hbW0.size; omega))
    have hz1 := hb1.size
    try simp at hz1
    obtain ⟨q1_0, l1_0, r1_0⟩ := aft hb1 (w.heap.size)
    obtain ⟨q1_1, l1_1, r1_1⟩ := aft hb1 (w.heap.size + 1)
    clear HCALL
    go_wp2_with fail
    refine (vsort_any os _ c _ (HR.out.below hbw1) HW.out HSN.out HPOS.out (by omega) (hE.below hbw1)).mono ?_
    rintro e w2 ⟨L, B, rfl, hL, hso, hb2⟩
    have hbw2 : Below w.heap.size w w2 := hbw1.trans (hb2.mono hbw1.size)
    have hz0 := hbw1.size
    have hz2 := hb2.size
    try simp at hz2
    obtain ⟨q2_0, l2_0, r2_0⟩ := aft hb2 (w.heap.size)
    obtain ⟨q2_1, l2_1, r2_1⟩ := aft hb2 (w.heap.size + 1)
    obtain ⟨m, hm⟩ : ∃ m, L.length = m + 1 := ⟨L.length - 1, by have := hso.pos; omega⟩
    have hle : m + 1 ≤ 1000000 := by rw [← hm]; exact Nat.le_trans hso.len hn
    cases gr
    · obtain ⟨b2, o2, rfl, hx2⟩ := hL.at_ (show 0 < L.length by omega)
      obtain ⟨x, hxe⟩ : ∃ x, L[0]'(by omega) = x := ⟨_, rfl⟩
      rw [hxe] at hx2
      have hend : EndOf o os false x := Or.inr ⟨HANY.out, (hso.mem x).1 (by rw [← hxe]; exact List.getElem_mem _), fun y hy => hso.low y hy x (by rw [← hxe]; exact List.getElem?_eq_getElem _)⟩
      have y0 : w2.cell? ⟨b2, o2, none⟩ = some (.int .i64 x.k) := by have := hx2.get 0 rfl; simpa using this
      have y1 : w2.cell? ⟨b2, o2 + 1, none⟩ = some (.int .i64 x.n) := by have := hx2.get 1 rfl; simpa using this
      have y2 : w2.cell? ⟨b2, o2 + 2, none⟩ = some (.int .i64 x.s) := by have := hx2.get 2 rfl; simpa using this
      have y3 : w2.cell? ⟨b2, o2 + 3, none⟩ = some (.string x.t) := by have := hx2.get 3 rfl; simpa using this
      have y4 : w2.cell? ⟨b2, o2 + 4, none⟩ = some (.int .i64 x.i) := by have := hx2.get 4 rfl; simpa using this
      have HEND := Lib.hid hend
      rw [hm]
      have j1 : (0 : Int) < (m : Int) + 1 := by omega
      clear hx2 hxe hso hL hm hend
      go_wp2_with fail
      try go_quiet (fail)
      go_wp2_with fail
      refine bodyPost_ret (v := .agg #[.int .i64 x.k, .int .i64 x.n, .int .i64 x.s, .string x.t, .int .i64 x.i]) (by simp [results, Tryd.results21, go_sem, *]) rfl ⟨x, rfl, HEND.out, ?_⟩
      exact bel
    · obtain ⟨b2, o2, rfl, hx2⟩ := hL.at_ (show m < L.length by omega)
      obtain ⟨x, hxe⟩ : ∃ x, L[m]'(by omega) = x := ⟨_, rfl⟩
      rw [hxe] at hx2
      have hlast : L.getLast? = some x := by rw [List.getLast?_eq_getElem?, hm, Nat.add_sub_cancel, ← hxe]; exact List.getElem?_eq_getElem _
      have hend : EndOf o os true x := Or.inr ⟨HANY.out, (hso.mem x).1 (by rw [← hxe]; exact List.getElem_mem _), fun y hy => hso.high y hy x hlast⟩
      have y0 : w2.cell? ⟨b2, o2 + m * 5, none⟩ = some (.int .i64 x.k) := by have := hx2.get 0 rfl; simpa using this
      have y1 : w2.cell? ⟨b2, o2 + m * 5 + 1, none⟩ = some (.int .i64 x.n) := by have := hx2.get 1 rfl; simpa using this
      have y2 : w2.cell? ⟨b2, o2 + m * 5 + 2, none⟩ = some (.int .i64 x.s) := by have := hx2.get 2 rfl; simpa using this
      have y3 : w2.cell? ⟨b2, o2 + m * 5 + 3, none⟩ = some (.string x.t) := by have := hx2.get 3 rfl; simpa using this
      have y4 : w2.cell? ⟨b2, o2 + m * 5 + 4, none⟩ = some (.int .i64 x.i) := by have := hx2.get 4 rfl; simpa using this
      have HEND := Lib.hid hend
      rw [hm]
      have j1 : (m : Int) < (m : Int) + 1 := by omega
      have j2 : (0 : Int) ≤ (m : Int) := by omega
      have j3 : (m : Int) + 1 - 1 = (m : Int) := by omega
      have j4 : IntKind.i64.wrap ((m : Int) + 1 - 1) = (m : Int) := by rw [j3]; exact IntWalk.i64_in _ (by omega)
      clear hx2 hxe hso hL hm hend hlast
      go_wp2_with fail
      try go_quiet (fail)
      go_wp2_with fail
      refine bodyPost_ret (v := .agg #[.int .i64 x.k, .int .i64 x.n, .int .i64 x.s, .string x.t, .int .i64 x.i]) (by simp [results, Tryd.results21, go_sem, *]) rfl ⟨x, rfl, HEND.out, ?_⟩
      exact bel
  · rw [hany] at hcall
    have HCALL := Lib.hid hcall
    have hend : EndOf o os gr Vl.zero := Or.inl ⟨hany, rfl⟩
    have HEND := Lib.hid hend
    clear hany hcall hgives hend
    refine HCALL.out.mono ?_
    rintro e w1 ⟨rfl, hb1⟩
    have k1 := cell_below hb1 k0
    have hbw1 : Below w.heap.size w w1 := hbW0.trans (hb1.mono (by have := hbW0.size; omega))
    have hz1 := hb1.size
    try simp at hz1
    obtain ⟨q1_0, l1_0, r1_0⟩ := aft hb1 (w.heap.size)
    obtain ⟨q1_1, l1_1, r1_1⟩ := aft hb1 (w.heap.size + 1)
    clear HCALL
    go_wp2_with fail
    refine bodyPost_ret (v := .agg #[.int .i64 0, .int .i64 0, .int .i64 0, .string ⟨#[]⟩, .int .i64 0]) (by simp [results, Tryd.results21, go_sem, *]) rfl ⟨Vl.zero, rfl, HEND.out, ?_⟩
    exact bel
end Go.Proofs.YtfhmjkdpohepaaaDoor
