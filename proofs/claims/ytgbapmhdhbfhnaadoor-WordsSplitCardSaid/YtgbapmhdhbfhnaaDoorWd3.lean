/- words.Has, Other, Empty and the reference's Words and Rising, walked. -/
import Derived.Test.YtgbapmhdhbfhnaaDoorWd2
set_option linter.unusedSimpArgs false
set_option linter.unusedVariables false
namespace Go.Proofs.YtgbapmhdhbfhnaaDoor
open Go.RowKit Go.Sort Go.Lib

theorem bs_inj {a b : Tx} (h : bs a = bs b) : a = b := by
  have : (bs a).data.toList = (bs b).data.toList := by rw [h]
  simpa [bs] using this
theorem containsS_bs (l : List Tx) (t : Tx) : containsS ((l.map bs).take l.length) (bs t) = l.contains t := by
  rw [List.take_of_length_le (by simp), Bool.eq_iff_iff, containsS_iff, List.contains_iff_mem, List.mem_map]
  constructor
  · rintro ⟨x, hx, e⟩
    rw [← bs_inj e]; exact hx
  · intro h
    exact ⟨t, h, rfl⟩
theorem containsT (A : Option Addr) (l : List Tx) (c : Nat) (t : Tx) (w : World) (hr : RdL w 1 A (l.map tC)) (hn : l.length ≤ 9223372036854775807) :
    Calls Tryd.prog 26 #[.slice A l.length c, encStr t] w fun e w' => e = .returned (.bool (l.contains t)) ∧ w' = w := by
  by_cases hne : l = []
  · subst hne
    refine (Tryd.slices_Contains_string_empty A c (bs t) w).mono ?_
    rintro e w' ⟨rfl, rfl⟩
    exact ⟨rfl, rfl⟩
  · obtain ⟨b, off, rfl, hc⟩ := cellsOf_rd hr hne
    refine (Tryd.slices_Contains_string b off l.length c (l.map bs) (bs t) w (by simp) hn hc).mono ?_
    rintro e w' ⟨rfl, rfl⟩
    exact ⟨by rw [containsS_bs], rfl⟩

set_option maxHeartbeats 800000 in
theorem has_any (all : Bool) (A : Option Addr) (l : List Tx) (c : Nat) (t : Tx) (w : World) (hE : Env w) (hr : RdL w 1 A (l.map tC)) (hn : l.length ≤ 9223372036854775807) (ht : t.length ≤ 9223372036854775807) :
    Calls Tryd.prog 14 #[.agg #[.bool all, .slice A l.length c], encStr t] w fun e w' => e = .returned (.bool (inW all l t)) ∧ Below w.heap.size w w' := by
  obtain ⟨R, hR⟩ : ∃ R, inW all l t = R := ⟨_, rfl⟩
  rw [hR]
  have HR := Lib.hid hR
  clear hR
  cases hx : textB t
  · have H0 : Hid (R = false) := by
      have : R = false := by rw [← HR.out]; unfold inW; rw [hx]; rfl
      exact Lib.hid this
    go_enter Tryd.func14, Tryd.ntmps14
    go_wp2_with fail
    generalize hEu : w.alloc _ = u
    have hbu : Below w.heap.size w u := (by rw [← hEu]; exact (by repeat' (first | (with_reducible exact Below.refl _ _) | (with_reducible assumption) | (with_reducible refine Below.drew ?_) | (with_reducible refine below_drewN ?_ _) | (with_reducible refine below_iterAt ?_ ?_ _ _) | (with_reducible refine below_iter ?_ ?_ _ _) | (with_reducible refine Below.alloc ?_ ?_ _) | (with_reducible refine Below.setCell ?_ ?_ _) | (with_reducible refine Below.trans ?_ (Below.mono (by assumption) ?_)) | (simp only [sz_alloc, sz_set, sz_drew, sz_drewN, sz_iterAt, sz_iter] at *; omega) | omega | (simp; done) | (simp; omega) | (apply Below.size; assumption) | (simp only [sz_drew, sz_drewN]; apply Below.size; assumption) | (refine Nat.le_trans ?_ (Below.size (by assumption))))))
    have lu_0 : w.heap.size < u.heap.size := (by rw [← hEu]; first | omega | (simp only [sz_alloc, sz_set, sz_drew, sz_drewN, sz_iterAt, sz_iter] at *; omega) | (simp; done) | (simp; omega) | (simp at *; omega))
    have qu_0 : ∀ o, u.cell? ⟨w.heap.size, o, none⟩ = _ := fun o => congrArg (fun W : World => W.cell? ⟨w.heap.size, o, none⟩) hEu.symm
    have ru_0 : ∀ o, u.frozen? ⟨w.heap.size, o, none⟩ = _ := fun o => congrArg (fun W : World => W.frozen? ⟨w.heap.size, o, none⟩) hEu.symm
    clear hEu
    first | (go_region_with (go_at_call 22; refine (text_any t _ (hE.below (by repeat' (first | (with_reducible exact Below.refl _ _) | (with_reducible assumption) | (with_reducible refine Below.drew ?_) | (with_reducible refine below_drewN ?_ _) | (with_reducible refine below_iterAt ?_ ?_ _ _) | (with_reducible refine below_iter ?_ ?_ _ _) | (with_reducible refine Below.alloc ?_ ?_ _) | (with_reducible refine Below.setCell ?_ ?_ _) | (with_reducible refine Below.trans ?_ (Below.mono (by assumption) ?_)) | (simp only [sz_alloc, sz_set, sz_drew, sz_drewN, sz_iterAt, sz_iter] at *; omega) | omega | (simp; done) | (simp; omega) | (apply Below.size; assumption) | (simp only [sz_drew, sz_drewN]; apply Below.size; assumption) | (refine Nat.le_trans ?_ (Below.size (by assumption)))))) ht).mono ?_; rintro e w' ⟨rfl, hb'⟩; rw [hx])) | fail
    all_goals
      go_wp2_with fail
      go_ret
      exact ⟨ret_bool H0.out.symm, (by repeat' (first | (with_reducible exact Below.refl _ _) | (with_reducible assumption) | (with_reducible refine Below.drew ?_) | (with_reducible refine below_drewN ?_ _) | (with_reducible refine below_iterAt ?_ ?_ _ _) | (with_reducible refine below_iter ?_ ?_ _ _) | (with_reducible refine Below.alloc ?_ ?_ _) | (with_reducible refine Below.setCell ?_ ?_ _) | (with_reducible refine Below.trans ?_ (Below.mono (by assumption) ?_)) | (simp only [sz_alloc, sz_set, sz_drew, sz_drewN, sz_iterAt, sz_iter] at *; omega) | omega | (simp; done) | (simp; omega) | (apply Below.size; assumption) | (simp only [sz_drew, sz_drewN]; apply Below.size; assumption) | (refine Nat.le_trans ?_ (Below.size (by assumption)))))⟩
  · obtain ⟨C, hC⟩ : ∃ C, l.contains t = C := ⟨_, rfl⟩
    have H0 : Hid (R = (C != all)) := by
      have : R = (C != all) := by rw [← HR.out, ← hC]; unfold inW; rw [hx, Bool.true_and]
      exact Lib.hid this
    have HC := Lib.hid hC
    clear hC
    go_enter Tryd.func14, Tryd.ntmps14
    go_wp2_with fail
    generalize hEu : w.alloc _ = u
    have hbu : Below w.heap.size w u := (by rw [← hEu]; exact (by repeat' (first | (with_reducible exact Below.refl _ _) | (with_reducible assumption) | (with_reducible refine Below.drew ?_) | (with_reducible refine below_drewN ?_ _) | (with_reducible refine below_iterAt ?_ ?_ _ _) | (with_reducible refine below_iter ?_ ?_ _ _) | (with_reducible refine Below.alloc ?_ ?_ _) | (with_reducible refine Below.setCell ?_ ?_ _) | (with_reducible refine Below.trans ?_ (Below.mono (by assumption) ?_)) | (simp only [sz_alloc, sz_set, sz_drew, sz_drewN, sz_iterAt, sz_iter] at *; omega) | omega | (simp; done) | (simp; omega) | (apply Below.size; assumption) | (simp only [sz_drew, sz_drewN]; apply Below.size; assumption) | (refine Nat.le_trans ?_ (Below.size (by assumption))))))
    have lu_0 : w.heap.size < u.heap.size := (by rw [← hEu]; first | omega | (simp only [sz_alloc, sz_set, sz_drew, sz_drewN, sz_iterAt, sz_iter] at *; omega) | (simp; done) | (simp; omega) | (simp at *; omega))
    have qu_0 : ∀ o, u.cell? ⟨w.heap.size, o, none⟩ = _ := fun o => congrArg (fun W : World => W.cell? ⟨w.heap.size, o, none⟩) hEu.symm
    have ru_0 : ∀ o, u.frozen? ⟨w.heap.size, o, none⟩ = _ := fun o => congrArg (fun W : World => W.frozen? ⟨w.heap.size, o, none⟩) hEu.symm
    clear hEu
    have kk0 : u.cell? ⟨w.heap.size, 0, none⟩ = some (.bool all) := (by first | (simp [go_sem]; done) | (simp [go_sem, *]; done))
    have kk1 : u.cell? ⟨w.heap.size, 1, none⟩ = some (.slice A l.length c) := (by first | (simp [go_sem]; done) | (simp [go_sem, *]; done))
    go_region_held3 (fun w' => Below u.heap.size u w' ∧ w'.cell? ⟨w.heap.size, 0, none⟩ = some (.bool all) ∧ w'.cell? ⟨w.heap.size, 1, none⟩ = some (.slice A l.length c)) ((refine and_keep ?_ (fun hk => ⟨keep_cell hk lu_0 kk0, keep_cell hk lu_0 kk1⟩); exact (by repeat' (first | (with_reducible exact Below.refl _ _) | (with_reducible assumption) | (with_reducible refine Below.drew ?_) | (with_reducible refine below_drewN ?_ _) | (with_reducible refine below_iterAt ?_ ?_ _ _) | (with_reducible refine below_iter ?_ ?_ _ _) | (with_reducible refine Below.alloc ?_ ?_ _) | (with_reducible refine Below.setCell ?_ ?_ _) | (with_reducible refine Below.trans ?_ (Below.mono (by assumption) ?_)) | (simp only [sz_alloc, sz_set, sz_drew, sz_drewN, sz_iterAt, sz_iter] at *; omega) | omega | (simp; done) | (simp; omega) | (apply Below.size; assumption) | (simp only [sz_drew, sz_drewN]; apply Below.size; assumption) | (refine Nat.le_trans ?_ (Below.size (by assumption)))))))
      (first
        | (go_at_call 22; refine (text_any t _ (hE.below (hbu.trans (Below.mono (And.left (by assumption)) hbu.size))) ht).mono ?_; rintro e w' ⟨rfl, hb'⟩; rw [hx])
        | (go_at_call 26; refine (containsT A l c t _ ((hr.below hbu).below (And.left (by assumption))) hn).mono ?_; rintro e w' ⟨rfl, rfl⟩; rw [HC.out]))
    have hS : Below u.heap.size u _ ∧ _ := (by assumption)
    have hbz := hS.1
    clear hS
    go_wp2_with fail
    go_ret
    exact ⟨ret_bool H0.out.symm, hbu.trans (hbz.mono hbu.size)⟩

end Go.Proofs.YtgbapmhdhbfhnaaDoor
