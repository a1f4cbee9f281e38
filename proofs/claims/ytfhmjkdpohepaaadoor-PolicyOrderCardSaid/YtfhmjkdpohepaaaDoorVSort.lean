/- soffit/value.Sort at sound values, walked. -/
import Derived.Test.YtfhmjkdpohepaaaDoorVComp
set_option linter.unusedSimpArgs false
set_option linter.unusedVariables false
namespace Go.Proofs.YtfhmjkdpohepaaaDoor
open Go.RowKit Go.Sort

set_option maxHeartbeats 400000 in
theorem vsort1_any (v : Vl) (w : World) (hv : v.wf) (hE : Env w) :
    Calls Tryd.prog 52 #[.agg #[.int .i64 v.k, .int .i64 v.n, .int .i64 v.s, .string v.t, .int .i64 v.i]] w fun e w' => e = .returned (.bool (!sndB v)) ∧ Below w.heap.size w w' := by
  obtain ⟨B, hB⟩ : ∃ B, sndB v = B := ⟨_, rfl⟩
  rw [hB]
  go_enter Tryd.func52, Tryd.ntmps52
  go_wp2_with fail
  refine (vSound_any v _ hv (hE.below (by repeat' (first | (with_reducible exact Below.refl _ _) | (with_reducible assumption) | (with_reducible refine Below.drew ?_) | (with_reducible refine below_drewN ?_ _) | (with_reducible refine below_iterAt ?_ ?_ _ _) | (with_reducible refine below_iter ?_ ?_ _ _) | (with_reducible refine Below.alloc ?_ ?_ _) | (with_reducible refine Below.setCell ?_ ?_ _) | (with_reducible refine Below.trans ?_ (Below.mono (by assumption) ?_)) | (simp only [sz_alloc, sz_set, sz_drew, sz_drewN, sz_iterAt, sz_iter] at *; omega) | omega | (simp; done) | (simp; omega) | (apply Below.size; assumption) | (simp only [sz_drew, sz_drewN]; apply Below.size; assumption) | (refine Nat.le_trans ?_ (Below.size (by assumption))))))).mono ?_
  rintro e w1 ⟨rfl, hb1⟩
  rw [hB]
  clear hB
  go_wp2_with fail
  go_ret
  exact ⟨ret_bool rfl, (by repeat' (first | (with_reducible exact Below.refl _ _) | (with_reducible assumption) | (with_reducible refine Below.drew ?_) | (with_reducible refine below_drewN ?_ _) | (with_reducible refine below_iterAt ?_ ?_ _ _) | (with_reducible refine below_iter ?_ ?_ _ _) | (with_reducible refine Below.alloc ?_ ?_ _) | (with_reducible refine Below.setCell ?_ ?_ _) | (with_reducible refine Below.trans ?_ (Below.mono (by assumption) ?_)) | (simp only [sz_alloc, sz_set, sz_drew, sz_drewN, sz_iterAt, sz_iter] at *; omega) | omega | (simp; done) | (simp; omega) | (apply Below.size; assumption) | (simp only [sz_drew, sz_drewN]; apply Below.size; assumption) | (refine Nat.le_trans ?_ (Below.size (by assumption)))))⟩

/-- what Sort makes: the values, rising, each once -/
structure SortOf (l R : List Vl) : Prop where
  mem : ∀ v, v ∈ R ↔ v ∈ l
  low : ∀ v ∈ l, ∀ x, R[0]? = some x → ltV v x = false
  high : ∀ v ∈ l, ∀ x, R.getLast? = some x → ltV x v = false
  pos : 0 < R.length
  len : R.length ≤ l.length
theorem cpT_has (l : List Vl) : ∀ (r : Nat), r ≤ l.length → ∀ t, t < r → ∀ (h : t < l.length), l[t]'h ∈ cpT l r
  | 0, _, t, ht, _ => by omega
  | r + 1, hr, t, ht, h => by
    have e := List.getElem?_eq_getElem (show r < l.length by omega)
    by_cases htr : t = r
    · subst htr
      have := cpT_last l t h
      rw [e] at this
      exact List.mem_of_getLast? this
    · have ih := cpT_has l r (by omega) t (by omega) h
      by_cases hn : 0 < r ∧ l[r - 1]? = some (l[r]'(by omega))
      · rw [cpT_old e hn]; exact ih
      · rw [cpT_new e hn]; exact List.mem_append_left _ ih
theorem sort_of {l d : List Vl} (h0 : 0 < l.length) (hp : d.Perm l) (hs : d.Pairwise (fun a b => ltV b a = false)) : SortOf l (cpT d d.length) := by
  have hl : d.length = l.length := hp.length_eq
  obtain ⟨m, hm⟩ : ∃ m, d.length = m + 1 := ⟨d.length - 1, by omega⟩
  have hpw := List.pairwise_iff_getElem.1 hs
  have hmem : ∀ v, v ∈ cpT d d.length ↔ v ∈ l := fun v => ⟨fun h => hp.mem_iff.1 (cpT_mem d _ v h), fun h => by
    obtain ⟨t, ht, rfl⟩ := List.getElem_of_mem (hp.mem_iff.2 h)
    exact cpT_has d d.length (Nat.le_refl _) t ht ht⟩
  refine ⟨hmem, fun v hv x hx => ?_, fun v hv x hx => ?_, ?_, by rw [← hl]; exact cpT_len d _⟩
  · rw [hm, cpT_head d m (by omega)] at hx
    obtain ⟨h1, rfl⟩ := List.getElem?_eq_some_iff.1 hx
    obtain ⟨t, ht, rfl⟩ := List.getElem_of_mem (hp.mem_iff.2 hv)
    by_cases h : t = 0
    · subst h; exact swo_ltV.irrefl _
    · exact hpw 0 t h1 ht (by omega)
  · rw [hm, cpT_last d m (by omega)] at hx
    obtain ⟨h1, rfl⟩ := List.getElem?_eq_some_iff.1 hx
    obtain ⟨t, ht, rfl⟩ := List.getElem_of_mem (hp.mem_iff.2 hv)
    by_cases h : t = m
    · subst h; exact swo_ltV.irrefl _
    · exact hpw t m ht h1 (by omega)
  · have := cpT_head d m (by omega)
    rw [← hm, List.getElem?_eq_getElem (show 0 < d.length by omega)] at this
    have := (List.getElem?_eq_some_iff.1 this).1
    exact this

set_option maxRecDepth 100000 in
set_option maxHeartbeats 1600000 in
theorem vsort_any (l : List Vl) (A : Option Addr) (c : Nat) (w : World) (hr : RdL w 5 A (l.map Vl.cells5)) (hw : ∀ v ∈ l, v.wf) (hs : ∀ v ∈ l, sndB v = true) (h0 : 0 < l.length) (hn : l.length ≤ 1000000) (hE : Env w) :
    Calls Tryd.prog 37 #[.slice A l.length c] w fun e w' =>
      ∃ (R : List Vl) (B : Option Addr), e = .returned (.tuple #[.slice B R.length R.length, .int .i64 0]) ∧ RdL w' 5 B (R.map Vl.cells5) ∧ SortOf l R ∧ Below w.heap.size w w' := by
  obtain ⟨L, hL⟩ := sv_list l hw hs
  have hLl : L.length = l.length := by rw [← hL, List.length_map]
  have hgives : valGives 52 #[] (fun v => !sndB v) l w := fun v hv W hW => vsort1_any v W (hw v hv) (hE.below hW)
  have eg : ∀ args W, (callFunc 52 args).run Tryd.prog W = .ok (.enter 52 args) W := enters_of Tryd.func52 (by kernel_rfl) rfl
  have hany : l.any (fun v => !sndB v) = false := by rw [List.any_eq_false]; intro v hv; rw [hs v hv]; simp
  have hcon := valContains 52 (fun v => !sndB v) l A c w hr (by omega) hgives eg
  rw [hany] at hcon
  have HC := Lib.hid hcon
  have HLL := Lib.hid hL
  have HW := Lib.hid hw
  clear hgives eg hany hcon hs hw hL
  obtain ⟨b0, o0, rfl, _⟩ := hr.at_ h0
  have HR := Lib.hid hr
  clear hr
  go_enter Tryd.func37, Tryd.ntmps37
  go_wp2_with fail
  refine HC.out.mono ?_
  rintro e w1 ⟨rfl, hb1⟩
  go_wp2_with fail
  refine (vclone_any l b0 o0 c _ (HR.out.below hb1) (by omega)).mono ?_
  rintro e w2 ⟨g, cap, rfl, hg, hg2, hcap, hcapm, hr2, hf2, hb2⟩
  have hz1 := hb1.size
  have hz2 := hb2.size
  have hb12 : Below w.heap.size w w2 := hb1.trans (hb2.mono hz1)
  have hmapE : L.map encV = l.map Vl.cells5 := by rw [← HLL.out, List.map_map]; rfl
  have hsort := vsortf_any L g cap w.heap.size w2 (by omega) (by omega) hg2 (by rw [hmapE]; exact hr2) (fun t _ => hf2 t) (by omega)
  rw [hLl] at hsort
  have HS := Lib.hid hsort
  clear hsort hr2 hf2 hmapE
  go_wp2_with fail
  refine HS.out.mono ?_
  rintro e w3 ⟨rfl, D, hperm, hpair, hr3, hf3, hb3⟩
  have hdl : (D.map (fun x => x.1)).length = l.length := by rw [List.length_map, hperm.length_eq, hLl]
  have hdperm : (D.map (fun x => x.1)).Perm l := by have := hperm.map (fun x : SV => x.1); rw [HLL.out] at this; exact this
  have hdpair : (D.map (fun x => x.1)).Pairwise (fun a b => ltV b a = false) := List.pairwise_map.2 hpair
  have hrd : RdL w3 5 (some ⟨g, 0, none⟩) ((D.map (fun x => x.1)).map Vl.cells5) := by rw [List.map_map]; exact hr3
  have hfd : ∀ t, t < (D.map (fun x => x.1)).length * 5 → w3.frozen? ⟨g, t, none⟩ = false := fun t ht => hf3 t (by simpa using ht)
  generalize D.map (fun x => x.1) = d at hdl hdperm hdpair hrd hfd
  have hso := sort_of h0 hdperm hdpair
  have hz3 := hb3.size
  have hg3 : g < w3.heap.size := by omega
  have hcomp := vcompact_any d g cap w.heap.size w3 (by omega) (by omega) (by omega) hg3 hrd hfd (by omega) (by omega) hcapm
  rw [hdl] at hcomp
  rw [hdl] at hso
  have HCO := Lib.hid hcomp
  have HSO := Lib.hid hso
  clear hcomp hso hrd hfd hperm hpair hr3 hf3 HS HC
  go_wp2_with fail
  refine HCO.out.mono ?_
  rintro e w4 ⟨rfl, hr4, hb4⟩
  have hlen := HSO.out.len
  generalize cpT d l.length = R at *
  clear HCO
  go_wp2_with fail
  refine (vclip_any R.length cap ⟨g, 0, none⟩ _ (by omega)).mono ?_
  rintro e w5 ⟨rfl, rfl⟩
  go_wp2_with fail
  go_ret2
  exact ⟨R, _, rfl, hr4, HSO.out, hb12.trans (hb3.trans hb4)⟩
end Go.Proofs.YtfhmjkdpohepaaaDoor
