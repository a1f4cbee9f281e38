/- awake, walked. -/
import Derived.Test.YtgbapmhdhbfhnaaDoorWd7
set_option linter.unusedSimpArgs false
set_option linter.unusedVariables false
namespace Go.Proofs.YtgbapmhdhbfhnaaDoor
open Go.RowKit Go.Sort Go.Lib

theorem textB_one (x : UInt8) (h1 : 32 ≤ x.toNat) (h2 : x.toNat < 127) : textB [x] = true := by
  rw [textB_ascii _ (fun y hy => by rw [List.mem_singleton.1 hy]; exact ⟨h1, h2⟩)]; rfl
theorem textB_nil : textB [] = true := by
  rw [textB_ascii _ (fun y hy => by cases hy)]; rfl
theorem norm_bab : norm [[98], [97], [98]] = [[97], [98]] := by
  refine rise_eq (norm_lt _) (by decide) (fun x => ?_)
  rw [mem_norm]
  constructor
  · rintro ⟨h, _⟩
    simp at h ⊢
    rcases h with h | h | h
    · exact .inr h
    · exact .inl h
    · exact .inr h
  · intro h
    simp at h
    rcases h with rfl | rfl
    · exact ⟨by simp, textB_one 97 (by decide) (by decide)⟩
    · exact ⟨by simp, textB_one 98 (by decide) (by decide)⟩
theorem norm_ab : norm [[97], [98]] = [[97], [98]] := by rw [← norm_bab, norm_norm]
theorem norm_ea : norm [[], [97]] = [[], [97]] := by
  refine rise_eq (norm_lt _) (by decide) (fun x => ?_)
  rw [mem_norm]
  constructor
  · exact fun h => h.1
  · intro h
    refine ⟨h, ?_⟩
    simp at h
    rcases h with rfl | rfl
    · exact textB_nil
    · exact textB_one 97 (by decide) (by decide)
theorem norm_nil : norm [] = [] := by
  cases h : norm [] with
  | nil => rfl
  | cons x r => have := (mem_norm (l := [])).1 (show x ∈ norm [] by rw [h]; simp); cases this.1
theorem pick_one {s : Tx} {n : Int} (h : PickIs true [[97], [98]] s n) : s = [] ∧ n = 0 := by
  rcases h with ⟨_, hn, _, _, h⟩ | ⟨h, _⟩
  · refine ⟨?_, hn⟩
    rcases h with ⟨k, _, hs, hk⟩ | h
    · cases k with
      | zero => exact hs
      | succ k => exact absurd (hk 0 (by omega)) (by decide)
    · exact absurd (h 0 (by omega)) (by decide)
  · cases h
theorem pick_two {s : Tx} {n : Int} (h : PickIs true [[], [97]] s n) : s = [97, 97] ∧ n = 0 := by
  rcases h with ⟨_, hn, _, hc, h⟩ | ⟨h, _⟩
  · refine ⟨?_, hn⟩
    rcases h with ⟨k, _, hs, hk⟩ | h
    · subst hs
      match k, hk with
      | 0, _ => exact absurd hc (by decide)
      | 1, _ => exact absurd hc (by decide)
      | 2, _ => rfl
      | k + 3, hk => exact absurd (hk 2 (by omega)) (by decide)
    · exact absurd (h 2 (by omega)) (by decide)
  · cases h

set_option maxRecDepth 100000 in
set_option maxHeartbeats 3200000 in
theorem awake_any (w : World) (hE : EnvP w) :
    Calls Tryd.prog 9 #[] w fun e w' => e = .returned (.bool true) ∧ Below w.heap.size w w' := by
  have HE := Lib.hid hE
  clear hE
  go_enter Tryd.func9, Tryd.ntmps9
  go_wp2_with fail
  have hown := World.ownsRow_lit (base := w.heap.size) (e := 9) (size := 1) w #[encStr [98], encStr [97], encStr [98]] 3 (Nat.le_refl _) (by decide) rfl
  obtain ⟨L, cL, e, hL⟩ := own_rdT (l := [[98], [97], [98]]) hown
  cases e
  refine (make_any true _ [[98], [97], [98]] 3 _ (HE.out.env.below (by repeat' (first | (with_reducible exact Below.refl _ _) | (with_reducible assumption) | (with_reducible refine Below.drew ?_) | (with_reducible refine below_drewN ?_ _) | (with_reducible refine below_iterAt ?_ ?_ _ _) | (with_reducible refine below_iter ?_ ?_ _ _) | (with_reducible refine Below.alloc ?_ ?_ _) | (with_reducible refine Below.setCell ?_ ?_ _) | (with_reducible refine Below.trans ?_ (Below.mono (by assumption) ?_)) | (simp only [sz_alloc, sz_set, sz_drew, sz_drewN, sz_iterAt, sz_iter] at *; omega) | omega | (simp; done) | (simp; omega) | (apply Below.size; assumption) | (simp only [sz_drew, sz_drewN]; apply Below.size; assumption) | (refine Nat.le_trans ?_ (Below.size (by assumption)))))) hL (by decide) (by decide)).mono ?_
  rw [norm_bab]
  rintro e w1 ⟨A1, rfl, ho1, hb1⟩
  have hr1 := Lib.hid ho1.rd
  have hbw1 : Below w.heap.size w w1 := (by repeat' (first | (with_reducible exact Below.refl _ _) | (with_reducible assumption) | (with_reducible refine Below.drew ?_) | (with_reducible refine below_drewN ?_ _) | (with_reducible refine below_iterAt ?_ ?_ _ _) | (with_reducible refine below_iter ?_ ?_ _ _) | (with_reducible refine Below.alloc ?_ ?_ _) | (with_reducible refine Below.setCell ?_ ?_ _) | (with_reducible refine Below.trans ?_ (Below.mono (by assumption) ?_)) | (simp only [sz_alloc, sz_set, sz_drew, sz_drewN, sz_iterAt, sz_iter] at *; omega) | omega | (simp; done) | (simp; omega) | (apply Below.size; assumption) | (simp only [sz_drew, sz_drewN]; apply Below.size; assumption) | (refine Nat.le_trans ?_ (Below.size (by assumption)))))
  clear ho1 hL hown hb1
  go_wp2_with fail
  have hba : Below w1.heap.size w1 (w1.alloc (.cells #[.bool true, .slice A1 2 2] 24)) := (by repeat' (first | (with_reducible exact Below.refl _ _) | (with_reducible assumption) | (with_reducible refine Below.drew ?_) | (with_reducible refine below_drewN ?_ _) | (with_reducible refine below_iterAt ?_ ?_ _ _) | (with_reducible refine below_iter ?_ ?_ _ _) | (with_reducible refine Below.alloc ?_ ?_ _) | (with_reducible refine Below.setCell ?_ ?_ _) | (with_reducible refine Below.trans ?_ (Below.mono (by assumption) ?_)) | (simp only [sz_alloc, sz_set, sz_drew, sz_drewN, sz_iterAt, sz_iter] at *; omega) | omega | (simp; done) | (simp; omega) | (apply Below.size; assumption) | (simp only [sz_drew, sz_drewN]; apply Below.size; assumption) | (refine Nat.le_trans ?_ (Below.size (by assumption)))))
  have hbu : Below w.heap.size w (w1.alloc (.cells #[.bool true, .slice A1 2 2] 24)) := (by repeat' (first | (with_reducible exact Below.refl _ _) | (with_reducible assumption) | (with_reducible refine Below.drew ?_) | (with_reducible refine below_drewN ?_ _) | (with_reducible refine below_iterAt ?_ ?_ _ _) | (with_reducible refine below_iter ?_ ?_ _ _) | (with_reducible refine Below.alloc ?_ ?_ _) | (with_reducible refine Below.setCell ?_ ?_ _) | (with_reducible refine Below.trans ?_ (Below.mono (by assumption) ?_)) | (simp only [sz_alloc, sz_set, sz_drew, sz_drewN, sz_iterAt, sz_iter] at *; omega) | omega | (simp; done) | (simp; omega) | (apply Below.size; assumption) | (simp only [sz_drew, sz_drewN]; apply Below.size; assumption) | (refine Nat.le_trans ?_ (Below.size (by assumption)))))
  have k0 : (w1.alloc (.cells #[.bool true, .slice A1 2 2] 24)).cell? ⟨w1.heap.size, 0, none⟩ = some (.bool true) := by simp [go_sem]
  have k1 : (w1.alloc (.cells #[.bool true, .slice A1 2 2] 24)).cell? ⟨w1.heap.size, 1, none⟩ = some (.slice A1 2 2) := by simp [go_sem]
  generalize w1.alloc (.cells #[.bool true, .slice A1 2 2] 24) = u at *
  have hr2 : Hid (RdL u 1 A1 (([[97], [98]] : List Tx).map tC)) := Lib.hid (hr1.out.below hba)
  refine (pick_any true A1 [[97], [98]] 2 u (HE.out.below (by repeat' (first | (with_reducible exact Below.refl _ _) | (with_reducible assumption) | (with_reducible refine Below.drew ?_) | (with_reducible refine below_drewN ?_ _) | (with_reducible refine below_iterAt ?_ ?_ _ _) | (with_reducible refine below_iter ?_ ?_ _ _) | (with_reducible refine Below.alloc ?_ ?_ _) | (with_reducible refine Below.setCell ?_ ?_ _) | (with_reducible refine Below.trans ?_ (Below.mono (by assumption) ?_)) | (simp only [sz_alloc, sz_set, sz_drew, sz_drewN, sz_iterAt, sz_iter] at *; omega) | omega | (simp; done) | (simp; omega) | (apply Below.size; assumption) | (simp only [sz_drew, sz_drewN]; apply Below.size; assumption) | (refine Nat.le_trans ?_ (Below.size (by assumption)))))) hr2.out (by decide) (by decide)).mono ?_
  rw [norm_ab]
  rintro e w2 ⟨s, n, rfl, hp, hb2⟩
  obtain ⟨rfl, rfl⟩ := pick_one hp
  have k2 := cell_below hb2 k0
  have k3 := cell_below hb2 k1
  have hr3 : Hid (RdL w2 1 A1 (([[97], [98]] : List Tx).map tC)) := Lib.hid (hr2.out.below hb2)
  have hbw2 : Below w.heap.size w w2 := (by repeat' (first | (with_reducible exact Below.refl _ _) | (with_reducible assumption) | (with_reducible refine Below.drew ?_) | (with_reducible refine below_drewN ?_ _) | (with_reducible refine below_iterAt ?_ ?_ _ _) | (with_reducible refine below_iter ?_ ?_ _ _) | (with_reducible refine Below.alloc ?_ ?_ _) | (with_reducible refine Below.setCell ?_ ?_ _) | (with_reducible refine Below.trans ?_ (Below.mono (by assumption) ?_)) | (simp only [sz_alloc, sz_set, sz_drew, sz_drewN, sz_iterAt, sz_iter] at *; omega) | omega | (simp; done) | (simp; omega) | (apply Below.size; assumption) | (simp only [sz_drew, sz_drewN]; apply Below.size; assumption) | (refine Nat.le_trans ?_ (Below.size (by assumption)))))
  clear hp k0 k1 hr1 hr2 hb2
  go_wp2_with fail
  have hown := World.ownsRow_lit (base := w2.heap.size) (e := 9) (size := 1) w2 #[encStr [], encStr [97]] 2 (Nat.le_refl _) (by decide) rfl
  obtain ⟨L, cL, e, hL⟩ := own_rdT (l := [[], [97]]) hown
  cases e
  have hba2 : Below w2.heap.size w2 (w2.alloc (.cells #[.string ⟨#[]⟩, .string ⟨#[97]⟩] 9)) := (by repeat' (first | (with_reducible exact Below.refl _ _) | (with_reducible assumption) | (with_reducible refine Below.drew ?_) | (with_reducible refine below_drewN ?_ _) | (with_reducible refine below_iterAt ?_ ?_ _ _) | (with_reducible refine below_iter ?_ ?_ _ _) | (with_reducible refine Below.alloc ?_ ?_ _) | (with_reducible refine Below.setCell ?_ ?_ _) | (with_reducible refine Below.trans ?_ (Below.mono (by assumption) ?_)) | (simp only [sz_alloc, sz_set, sz_drew, sz_drewN, sz_iterAt, sz_iter] at *; omega) | omega | (simp; done) | (simp; omega) | (apply Below.size; assumption) | (simp only [sz_drew, sz_drewN]; apply Below.size; assumption) | (refine Nat.le_trans ?_ (Below.size (by assumption)))))
  have hEa : EnvP (w2.alloc (.cells #[.string ⟨#[]⟩, .string ⟨#[97]⟩] 9)) := HE.out.below (hbw2.trans (hba2.mono hbw2.size))
  refine (make_any true _ [[], [97]] 2 _ hEa.env hL (by decide) (by decide)).mono ?_
  rw [norm_ea]
  rintro e w3 ⟨A3, rfl, ho3, hb3⟩
  have hE3 : EnvP w3 := hEa.below hb3
  have hb23 : Below w2.heap.size w2 w3 := hba2.trans (hb3.mono hba2.size)
  have HR3 := Lib.hid ho3.rd
  clear ho3 hL hown hEa hba2 hb3
  go_wp2_with fail
  refine (pick_any true A3 [[], [97]] 2 w3 hE3 HR3.out (by decide) (by decide)).mono ?_
  rw [norm_ea]
  rintro e w4 ⟨s, n, rfl, hp, hb4⟩
  obtain ⟨rfl, rfl⟩ := pick_two hp
  have hb24 : Below w2.heap.size w2 w4 := hb23.trans (hb4.mono hb23.size)
  have k4 := cell_below hb24 k2
  have k5 := cell_below hb24 k3
  have hr4 : Hid (RdL w4 1 A1 (([[97], [98]] : List Tx).map tC)) := Lib.hid (hr3.out.below hb24)
  have hE4 : EnvP w4 := hE3.below hb4
  have hbw4 : Below w.heap.size w w4 := hbw2.trans (hb24.mono hbw2.size)
  clear hp k2 k3 hr3 hb24 hb4 hE3 HR3 hb23 hbw2
  have i2 : inW true [[97], [98]] [98] = false := by
    unfold inW; rw [textB_one 98 (by decide) (by decide)]; decide
  have i3 : inW true [[97], [98]] [99] = true := by
    unfold inW; rw [textB_one 99 (by decide) (by decide)]; decide
  go_wp2_with fail
  refine (has_any true A1 [[97], [98]] 2 [98] w4 hE4.env hr4.out (by decide) (by decide)).mono ?_
  rw [i2]
  rintro e w5 ⟨rfl, hb5⟩
  have k6 := cell_below hb5 k4
  have k7 := cell_below hb5 k5
  go_wp2_with fail
  refine (has_any true A1 [[97], [98]] 2 [99] w5 (hE4.env.below hb5) (hr4.out.below hb5) (by decide) (by decide)).mono ?_
  rw [i3]
  rintro e w6 ⟨rfl, hb6⟩
  have hb46 : Below w4.heap.size w4 w6 := hb5.trans (hb6.mono hb5.size)
  clear k6 k7 k4 k5 i2 i3
  go_wp2_with fail
  refine (make_any false none [] 0 w6 (hE4.env.below hb46) (RdL.nil_ _ _ _) (by decide) (by decide)).mono ?_
  rw [norm_nil]
  rintro e w7 ⟨A7, rfl, ho7, hb7⟩
  have hb47 : Below w4.heap.size w4 w7 := hb46.trans (hb7.mono hb46.size)
  go_wp2_with fail
  refine (empty_any false A7 [] 0 w7 (hE4.env.below hb47) ho7.rd (by decide) (by decide)).mono ?_
  have he : emptyW false [] = true := by unfold emptyW; rw [norm_nil]; rfl
  rw [he]
  rintro e w8 ⟨rfl, hb8⟩
  go_wp2_with fail
  go_ret
  exact ⟨ret_bool rfl, hbw4.trans ((hb47.trans (hb8.mono hb47.size)).mono hbw4.size)⟩
end Go.Proofs.YtgbapmhdhbfhnaaDoor
