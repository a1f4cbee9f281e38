/- slices.Clone of up to 2^48 bytes, Make of it; slices.Grow, Concat; Meet of two that are both "all but some". -/
import Derived.Test.YtgbapmhdhbfhnaaDoorWd9
import Derived.Lib.AppendZeros
set_option linter.unusedSimpArgs false
set_option linter.unusedVariables false
namespace Go.Proofs.YtgbapmhdhbfhnaaDoor
open Go.RowKit Go.Sort Go.Lib

theorem infoStr : ∃ i0, Tryd.prog.info? 9 = some i0 ∧ i0.zero = some (.string ⟨#[]⟩) ∧ i0.size = 1 ∧ i0.bytes = 16 := by
  obtain ⟨i0, h1, h2, h3, h4⟩ := info_parts (show (Tryd.prog.info? 9).map (fun i => (i.zero, i.size, i.bytes)) = some (some (.string ⟨#[]⟩), 1, 16) by kernel_rfl)
  exact ⟨i0, h1, h2, h3, h4⟩
theorem enc_at (l : List Tx) {j : Nat} {v : Value} (h : (l.map encStr)[j]? = some v) : ∃ h2 : j < l.length, v = encStr (l[j]'h2) := by
  rw [List.getElem?_map, Option.map_eq_some_iff] at h
  obtain ⟨x, hx, rfl⟩ := h
  obtain ⟨h2, rfl⟩ := List.getElem?_eq_some_iff.1 hx
  exact ⟨h2, rfl⟩
theorem news_of {w : World} {b off : Nat} {l : List Tx} (hr : RdL w 1 (some ⟨b, off, none⟩) (l.map tC)) (j : Nat) (v : Value) (h : (l.map encStr)[j]? = some v) : w.cell? ((⟨b, off, none⟩ : Addr).add j) = some v := by
  obtain ⟨h2, rfl⟩ := enc_at l h
  obtain ⟨b2, o2, e, hx⟩ := hr.at_ h2
  cases e
  have := hx.get 0 (v := encStr (l[j]'h2)) rfl
  rw [Nat.mul_one, Nat.add_zero] at this
  unfold Addr.add
  split
  · rename_i h0; subst h0; simpa using this
  · exact this

set_option maxRecDepth 100000 in
set_option maxHeartbeats 800000 in
theorem cloneN (b off : Nat) (l : List Tx) (c : Nat) (w : World) (hr : RdL w 1 (some ⟨b, off, none⟩) (l.map tC)) (hne : 0 < l.length) (hn : l.length * 16 ≤ 281474976710656) :
    Calls Tryd.prog 20 #[.slice (some ⟨b, off, none⟩) l.length c] w fun e w' => ∃ cap, e = .returned (.slice (some ⟨w.heap.size + 1, 0, none⟩) l.length cap) ∧ l.length ≤ cap ∧ OwnF w' w.heap.size (some ⟨w.heap.size + 1, 0, none⟩) l ∧ Below w.heap.size w w' := by
  obtain ⟨i0, hinf, hz, hsz, hby⟩ := infoStr
  have HN := Lib.hid (news_of (hr.below (show Below w.heap.size w (w.alloc (.cells #[] 9)) from (by repeat' (first | (with_reducible exact Below.refl _ _) | (with_reducible assumption) | (with_reducible refine Below.drew ?_) | (with_reducible refine below_drewN ?_ _) | (with_reducible refine below_iterAt ?_ ?_ _ _) | (with_reducible refine below_iter ?_ ?_ _ _) | (with_reducible refine Below.alloc ?_ ?_ _) | (with_reducible refine Below.setCell ?_ ?_ _) | (with_reducible refine Below.trans ?_ (Below.mono (by assumption) ?_)) | (simp only [sz_alloc, sz_set, sz_drew, sz_drewN, sz_iterAt, sz_iter] at *; omega) | omega | (simp; done) | (simp; omega) | (apply Below.size; assumption) | (simp only [sz_drew, sz_drewN]; apply Below.size; assumption) | (refine Nat.le_trans ?_ (Below.size (by assumption))))))))
  have HFT : Hid (Builtin.nextslicecap (0 + l.length) 0 * i0.bytes ≤ 281474976710656) := Lib.hid (by rw [Nat.zero_add, nextslicecap_zero hne, hby]; exact hn)
  clear hr
  have q22 : ∀ (w : World) (a : Option Addr) (n c n' c' : Nat), (binOp .eql 22 (.slice a n c) (.slice none n' c')).run Tryd.prog w = .ok (.bool a.isNone) w := fun w a n c n' c' => Lib.run_eql_slice_nil w _ _ a n c n' c' Tryd.underlying22
  go_enter Tryd.func20, Tryd.ntmps20
  go_wp2_with (first
    | (at_builtin; refine Lib.wpList_append_run _ rfl _ _ _ _ rfl _ _ rfl rfl _ _ (run_append_grow _ 22 _ 9 i0 (.string ⟨#[]⟩) Tryd.underlying22 hinf hz ⟨w.heap.size, 0, none⟩ 0 0 [] (by simp) (by simp) ⟨b, off, none⟩ l.length c (l.map encStr) (by rw [hsz]; simp) HN.out (by omega) (by omega) HFT.out) ?_)
    | fail)
  have hge := grownCap_ge (w.alloc (.cells #[] 9)) l.length 0 9
  generalize grownCap (w.alloc (.cells #[] 9)) l.length 0 9 = cap at *
  generalize Builtin.zeroCells #[Value.string ⟨#[]⟩] (cap - l.length) = Z at *
  have hb2 : ((w.alloc (.cells #[] 9)).alloc (.cells ((l.map encStr).toArray ++ Z) 9)).drew.heap[w.heap.size + 1]? = some (.cells ((l.map encStr).toArray ++ Z) 9) := by
    have := heap_alloc_new (w.alloc (.cells #[] 9)) (.cells ((l.map encStr).toArray ++ Z) 9)
    rw [show (w.alloc (.cells #[] 9)).heap.size = w.heap.size + 1 by simp] at this
    exact this
  have hbw : Below w.heap.size w ((w.alloc (.cells #[] 9)).alloc (.cells ((l.map encStr).toArray ++ Z) 9)).drew := (by repeat' (first | (with_reducible exact Below.refl _ _) | (with_reducible assumption) | (with_reducible refine Below.drew ?_) | (with_reducible refine below_drewN ?_ _) | (with_reducible refine below_iterAt ?_ ?_ _ _) | (with_reducible refine below_iter ?_ ?_ _ _) | (with_reducible refine Below.alloc ?_ ?_ _) | (with_reducible refine Below.setCell ?_ ?_ _) | (with_reducible refine Below.trans ?_ (Below.mono (by assumption) ?_)) | (simp only [sz_alloc, sz_set, sz_drew, sz_drewN, sz_iterAt, sz_iter] at *; omega) | omega | (simp; done) | (simp; omega) | (apply Below.size; assumption) | (simp only [sz_drew, sz_drewN]; apply Below.size; assumption) | (refine Nat.le_trans ?_ (Below.size (by assumption)))))
  generalize ((w.alloc (.cells #[] 9)).alloc (.cells ((l.map encStr).toArray ++ Z) 9)).drew = w9 at *
  have hown : OwnF w9 w.heap.size (some ⟨w.heap.size + 1, 0, none⟩) l := by
    refine .inr ⟨w.heap.size + 1, rfl, by omega, lt_of_block hb2, fun j hj => ?_, fun o => by simp [World.frozen?, hb2]⟩
    show _ = some (encStr (l[j]?.getD []))
    rw [cell_of_block hb2, getD_at hj, Array.getElem?_append_left (by simpa using hj)]
    simp [hj]
  refine bodyPost_ret (v := .slice (some ⟨w.heap.size + 1, 0, none⟩) l.length cap) (by simp [results, Tryd.results20, go_sem]) rfl ⟨cap, rfl, hge, hown, hbw⟩
theorem cloneB (A : Option Addr) (l : List Tx) (c : Nat) (w : World) (hr : RdL w 1 A (l.map tC)) (hn : l.length * 16 ≤ 281474976710656) :
    Calls Tryd.prog 20 #[.slice A l.length c] w fun e w' => ∃ A' cap, e = .returned (.slice A' l.length cap) ∧ l.length ≤ cap ∧ OwnF w' w.heap.size A' l ∧ Below w.heap.size w w' ∧ (A' = none → l.length = 0) := by
  by_cases hne : l = []
  · subst hne
    exact cloneT A [] c w hr (by decide)
  · obtain ⟨b, off, rfl, _⟩ := cellsOf_rd hr hne
    refine (cloneN b off l c w hr (List.length_pos_iff.2 hne) hn).mono ?_
    rintro e w' ⟨cap, rfl, h1, h2, h3⟩
    exact ⟨_, cap, rfl, h1, h2, h3, fun h => by cases h⟩

set_option maxHeartbeats 800000 in
theorem makeBig (all : Bool) (A : Option Addr) (l : List Tx) (c : Nat) (w : World) (hE : Env w) (hr : RdL w 1 A (l.map tC)) (hs : ∀ t ∈ l, t.length ≤ 9223372036854775807) (hn : l.length * 16 ≤ 281474976710656) :
    Calls Tryd.prog 8 #[.bool all, .slice A l.length c] w fun e w' => ∃ A', e = .returned (.agg #[.bool all, .slice A' (norm l).length (norm l).length]) ∧ OwnT w' w.heap.size A' (norm l) ∧ Below w.heap.size w w' := by
  have eg : ∀ args W, (callFunc 21 args).run Tryd.prog W = .ok (.enter 21 args) W := enters_of Tryd.func21 (by kernel_rfl) rfl
  have HEG := Lib.hid eg
  have HS := Lib.hid hs
  have HR := Lib.hid hr
  clear eg hs hr
  go_enter Tryd.func8, Tryd.ntmps8
  go_wp2_with fail
  generalize hEu : w.alloc _ = u
  have hbu : Below w.heap.size w u := (by rw [← hEu]; exact (by repeat' (first | (with_reducible exact Below.refl _ _) | (with_reducible assumption) | (with_reducible refine Below.drew ?_) | (with_reducible refine below_drewN ?_ _) | (with_reducible refine below_iterAt ?_ ?_ _ _) | (with_reducible refine below_iter ?_ ?_ _ _) | (with_reducible refine Below.alloc ?_ ?_ _) | (with_reducible refine Below.setCell ?_ ?_ _) | (with_reducible refine Below.trans ?_ (Below.mono (by assumption) ?_)) | (simp only [sz_alloc, sz_set, sz_drew, sz_drewN, sz_iterAt, sz_iter] at *; omega) | omega | (simp; done) | (simp; omega) | (apply Below.size; assumption) | (simp only [sz_drew, sz_drewN]; apply Below.size; assumption) | (refine Nat.le_trans ?_ (Below.size (by assumption))))))
  have lu_0 : w.heap.size < u.heap.size := (by rw [← hEu]; first | omega | (simp only [sz_alloc, sz_set, sz_drew, sz_drewN, sz_iterAt, sz_iter] at *; omega) | (simp; done) | (simp; omega) | (simp at *; omega))
  have qu_0 : ∀ o, u.cell? ⟨w.heap.size, o, none⟩ = _ := fun o => congrArg (fun W : World => W.cell? ⟨w.heap.size, o, none⟩) hEu.symm
  have ru_0 : ∀ o, u.frozen? ⟨w.heap.size, o, none⟩ = _ := fun o => congrArg (fun W : World => W.frozen? ⟨w.heap.size, o, none⟩) hEu.symm
  clear hEu
  have hszu : w.heap.size ≤ u.heap.size := hbu.size
  refine (cloneB A l c u (HR.out.below hbu) hn).mono ?_
  rintro e w1 ⟨A1, cap, rfl, hcap, ho, hb1, hA1⟩
  have hz1 := hb1.size
  have HO := Lib.hid ho
  clear ho
  go_wp2_with fail
  refine (deleteT 21 textB A1 l cap u.heap.size w1 hz1 HO.out hcap (by omega) (fun x hx W hW hsz => make1_any x W (hE.below (hbu.trans ((hb1.trans hW).mono hszu))) (HS.out x hx)) HEG.out).mono ?_
  rintro e w2 ⟨rfl, ho2, hb2⟩
  have hz2 := hb2.size
  have hl2 : (l.filter textB).length ≤ l.length := List.length_filter_le _ _
  have HO2 := Lib.hid ho2
  clear ho2
  go_wp2_with fail
  refine (sortT A1 _ cap u.heap.size w2 (by omega) HO2.out (by omega)).mono ?_
  rintro e w3 ⟨rfl, ho3, hb3⟩
  have hz3 := hb3.size
  have HO3 := Lib.hid ho3
  clear ho3
  have hl3 : (srt (l.filter textB)).length = (l.filter textB).length := by simp [srt]
  have hl4 := norm_length l
  go_wp2_with fail
  refine ((hl3 ▸ compactT A1 _ cap u.heap.size w3 (by omega) HO3.out (by omega) (by omega) :)).mono ?_
  rintro e w4 ⟨rfl, ho4, hb4⟩
  have hz4 := hb4.size
  have HO4 : Hid (OwnT w4 u.heap.size A1 (norm l)) := ho4
  clear ho4
  have hA4 : A1 = none → (norm l).length = 0 := fun h => by have := hA1 h; omega
  go_wp2_with fail
  refine (clip_any _ _ (norm l).length cap A1 rfl hA4 (by omega)).mono ?_
  rintro e w5 ⟨rfl, rfl⟩
  have hbx : Below u.heap.size u w5 := ((hb1.trans hb2).trans hb3).trans hb4
  have q5 := fun o => (hbx.cell (p := ⟨w.heap.size, o, none⟩) lu_0).trans (qu_0 o)
  have r5 := fun o => (hbx.frozen (p := ⟨w.heap.size, o, none⟩) lu_0).trans (ru_0 o)
  have l5 : w.heap.size < w5.heap.size := by omega
  have hb5 : Below w.heap.size w w5 := hbu.trans (hbx.mono hszu)
  clear hbx qu_0 ru_0 hb1 hb2 hb3 hb4 hA4 hA1
  go_wp2_with fail
  have hfin : OwnT ((w5.setCell ⟨w.heap.size, 0, none⟩ (.bool all)).setCell ⟨w.heap.size, 1, none⟩ (.slice A1 (norm l).length (norm l).length)) u.heap.size A1 (norm l) := by
    exact (HO4.out.set_ lu_0 0 _).set_ lu_0 1 _
  refine bodyPost_ret (v := .agg #[.bool all, .slice A1 (norm l).length (norm l).length]) (by simp [results, Tryd.results8, go_sem, *]) rfl ⟨A1, rfl, hfin.base hszu, (by repeat' (first | (with_reducible exact Below.refl _ _) | (with_reducible assumption) | (with_reducible refine Below.drew ?_) | (with_reducible refine below_drewN ?_ _) | (with_reducible refine below_iterAt ?_ ?_ _ _) | (with_reducible refine below_iter ?_ ?_ _ _) | (with_reducible refine Below.alloc ?_ ?_ _) | (with_reducible refine Below.setCell ?_ ?_ _) | (with_reducible refine Below.trans ?_ (Below.mono (by assumption) ?_)) | (simp only [sz_alloc, sz_set, sz_drew, sz_drewN, sz_iterAt, sz_iter] at *; omega) | omega | (simp; done) | (simp; omega) | (apply Below.size; assumption) | (simp only [sz_drew, sz_drewN]; apply Below.size; assumption) | (refine Nat.le_trans ?_ (Below.size (by assumption)))))⟩
end Go.Proofs.YtgbapmhdhbfhnaaDoor
