/- WordsMakes, walked: it gives true. -/
import Derived.Test.YtgbapmhdhbfhnaaDoorWd8
set_option linter.unusedSimpArgs false
set_option linter.unusedVariables false
namespace Go.Proofs.YtgbapmhdhbfhnaaDoor
open Go.RowKit Go.Sort Go.Lib

theorem emptyW_len (all : Bool) (l : List Tx) : emptyW all (norm l) = (!all && (((norm l).length : Int) == 0)) := by
  unfold emptyW
  rw [norm_norm]
  congr 1
  cases norm l with
  | nil => rfl
  | cons x r => simp; omega
set_option maxRecDepth 100000 in
set_option maxHeartbeats 3200000 in
theorem lawMakes_any (all : Bool) (A : Option Addr) (l : List Tx) (c : Nat) (s : Tx) (w : World) (hE : EnvP w) (hr : RdL w 1 A (l.map tC)) (hs : ∀ t ∈ l, t.length ≤ 9223372036854775807) (hss : s.length ≤ 9223372036854775807) (hn : l.length * 16 ≤ 140737488355328) :
    Calls Tryd.prog 3 #[.bool all, .slice A l.length c, encStr s] w fun e w' => e = .returned (.bool true) ∧ Below w.heap.size w w' := by
  have hnl := norm_length l
  have hms : ∀ t ∈ norm l, t.length ≤ 9223372036854775807 := fun t ht => hs t (mem_norm.1 ht).1
  have hmt : ∀ t ∈ norm l, textB t = true := fun t ht => (mem_norm.1 ht).2
  have hml := norm_lt l
  have hem := emptyW_len all l
  have hin : ∀ t, inW all (norm l) t = inW all l t := inW_norm all l
  obtain ⟨m, hm⟩ : ∃ m, norm l = m := ⟨_, rfl⟩
  rw [hm] at hnl hms hmt hml hem hin
  have HM := Lib.hid hm
  have HS := Lib.hid hs
  have HR := Lib.hid hr
  have HE := Lib.hid hE
  have HMS := Lib.hid hms
  have HMT := Lib.hid hmt
  have HML := Lib.hid hml
  have HIN := Lib.hid hin
  have HEM := Lib.hid hem
  clear hm hs hr hE hms hmt hml hin hem
  go_enter Tryd.func3, Tryd.ntmps3
  go_wp2_with fail
  refine (make_any all A l c w HE.out.env HR.out HS.out hn).mono ?_
  rintro e w1 ⟨A1, rfl, ho1, hb1⟩
  rw [HM.out] at ho1 ⊢
  have HR1 := Lib.hid ho1.rd
  clear ho1
  obtain ⟨B, hB⟩ : ∃ B, w1.heap.size = B := ⟨_, rfl⟩
  go_wp2_with fail
  try rw [hB]
  have hba : Below w1.heap.size w1 (w1.alloc (.cells #[.bool all, .slice A1 m.length m.length] 24)) := (by repeat' (first | (with_reducible exact Below.refl _ _) | (with_reducible assumption) | (with_reducible refine Below.drew ?_) | (with_reducible refine below_drewN ?_ _) | (with_reducible refine below_iterAt ?_ ?_ _ _) | (with_reducible refine below_iter ?_ ?_ _ _) | (with_reducible refine Below.alloc ?_ ?_ _) | (with_reducible refine Below.setCell ?_ ?_ _) | (with_reducible refine Below.trans ?_ (Below.mono (by assumption) ?_)) | (simp only [sz_alloc, sz_set, sz_drew, sz_drewN, sz_iterAt, sz_iter] at *; omega) | omega | (simp; done) | (simp; omega) | (apply Below.size; assumption) | (simp only [sz_drew, sz_drewN]; apply Below.size; assumption) | (refine Nat.le_trans ?_ (Below.size (by assumption)))))
  have hbu : Below w.heap.size w (w1.alloc (.cells #[.bool all, .slice A1 m.length m.length] 24)) := (by repeat' (first | (with_reducible exact Below.refl _ _) | (with_reducible assumption) | (with_reducible refine Below.drew ?_) | (with_reducible refine below_drewN ?_ _) | (with_reducible refine below_iterAt ?_ ?_ _ _) | (with_reducible refine below_iter ?_ ?_ _ _) | (with_reducible refine Below.alloc ?_ ?_ _) | (with_reducible refine Below.setCell ?_ ?_ _) | (with_reducible refine Below.trans ?_ (Below.mono (by assumption) ?_)) | (simp only [sz_alloc, sz_set, sz_drew, sz_drewN, sz_iterAt, sz_iter] at *; omega) | omega | (simp; done) | (simp; omega) | (apply Below.size; assumption) | (simp only [sz_drew, sz_drewN]; apply Below.size; assumption) | (refine Nat.le_trans ?_ (Below.size (by assumption)))))
  have k0 : (w1.alloc (.cells #[.bool all, .slice A1 m.length m.length] 24)).cell? ⟨B, 0, none⟩ = some (.bool all) := by rw [← hB]; simp [go_sem]
  have k1 : (w1.alloc (.cells #[.bool all, .slice A1 m.length m.length] 24)).cell? ⟨B, 1, none⟩ = some (.slice A1 m.length m.length) := by rw [← hB]; simp [go_sem]
  have hr2 : Hid (RdL (w1.alloc (.cells #[.bool all, .slice A1 m.length m.length] 24)) 1 A1 (m.map tC)) := Lib.hid (HR1.out.below hba)
  generalize w1.alloc (.cells #[.bool all, .slice A1 m.length m.length] 24) = u at *
  refine (awake_any u (HE.out.below hbu)).mono ?_
  rintro e w2 ⟨rfl, hb2⟩
  have k2 := cell_below hb2 k0
  have k3 := cell_below hb2 k1
  have hr3 := Lib.hid (hr2.out.below hb2)
  have hbw2 : Below w.heap.size w w2 := hbu.trans (hb2.mono hbu.size)
  clear k0 k1 hr2 hb2 hbu hba HR1 hb1 hB
  go_wp2_with fail
  refine (rising_any A1 m m.length w2 hr3.out (by omega) HML.out HMT.out).mono ?_
  rintro e w3 ⟨rfl, hb3⟩
  have k4 := cell_below hb3 k2
  have k5 := cell_below hb3 k3
  have hr4 := Lib.hid (hr3.out.below hb3)
  have hbw3 : Below w.heap.size w w3 := hbw2.trans (hb3.mono hbw2.size)
  clear k2 k3 hr3 hb3 hbw2
  go_wp2_with fail
  refine (empty_any all A1 m m.length w3 (HE.out.env.below hbw3) hr4.out HMS.out (by omega)).mono ?_
  rintro e w4 ⟨rfl, hb4⟩
  rw [HEM.out]
  have k6 := cell_below hb4 k4
  have k7 := cell_below hb4 k5
  have hr5 := Lib.hid (hr4.out.below hb4)
  have hbw4 : Below w.heap.size w w4 := hbw3.trans (hb4.mono hbw3.size)
  have lB : B < w4.heap.size := cell_lt k6
  clear k4 k5 hr4 hb4 hbw3
  cases all
  · simp only [Bool.not_true, Bool.not_false, Bool.true_and, Bool.false_and]
    go_wp2_with fail
    refine (asks_any s A none l [] c 0 w4 (HR.out.below hbw4) (RdL.nil_ _ _ _) hss HS.out (fun t ht => by cases ht) (by omega) (by decide)).mono ?_
    rintro e w5 ⟨ms, N, cn, rfl, hN, hml, hmt, hb5⟩
    have k8 := cell_below hb5 k6
    have k9 := cell_below hb5 k7
    have HN := Lib.hid hN
    have HMX := Lib.hid hmt
    have HR5 := Lib.hid (hr5.out.below hb5)
    have hbw5 : Below w.heap.size w w5 := hbw4.trans (hb5.mono hbw4.size)
    have lB5 : B < w5.heap.size := cell_lt k8
    clear k6 k7 hr5 hb5 hbw4 hN hmt lB
    go_wp2_with fail
    go_loopg [9] ms.length (fun k iv wr => ∃ i : Nat, i ≤ ms.length ∧ ms.length - i ≤ k ∧ iv = .int .i64 i ∧ Below w5.heap.size w5 wr)
    case atStart => exact ⟨0, by omega, by omega, rfl, Below.refl _ _⟩
    case round =>
      obtain ⟨i, hi, hik, rfl, hbel⟩ := hrel
      have hsz := hbel.size
      by_cases hlt : i < ms.length
      · obtain ⟨b, off, hbN, hxN⟩ := (HN.out.below hbel).at_ hlt
        subst hbN
        have hxl := HMX.out _ (List.getElem_mem hlt)
        have g0 : wr.cell? ⟨b, off + i, none⟩ = some (encStr (ms[i]'hlt)) := by have := hxN.get 0 (v := encStr (ms[i]'hlt)) rfl; simpa using this
        clear hxN
        generalize ms[i]'hlt = x at *
        have hbl : b < wr.heap.size := cell_lt g0
        have i0 : (0 : Int) ≤ (i : Int) := by omega
        have i1 : (i : Int) < (ms.length : Int) := by omega
        have k10 := cell_below hbel k8
        have k11 := cell_below hbel k9
        have hbw : Below w.heap.size w wr := hbw5.trans (hbel.mono hbw5.size)
        obtain ⟨V, hV⟩ : ∃ V, inW false l x = V := ⟨_, rfl⟩
        have hHas : ∀ (v : Value) (W : World), (v = .agg #[.bool false, .slice A1 m.length m.length] ∨ v = .agg #[.bool false, .slice A l.length c]) → Below w5.heap.size w5 W →
            Calls Tryd.prog 14 #[v, encStr x] W fun e w' => e = .returned (.bool V) ∧ Below W.heap.size W w' := by
          intro v W hv hW
          have hbW := hbw5.trans (hW.mono hbw5.size)
          rcases hv with rfl | rfl
          · rw [← hV, ← HIN.out x]
            exact has_any false A1 m m.length x W (HE.out.env.below hbW) (HR5.out.below hW) (by omega) hxl
          · rw [← hV]
            exact has_any false A l c x W (HE.out.env.below hbW) (HR.out.below hbW) (by omega) hxl
        cases V
        all_goals
          go_wp2_with fail
          refine (rWords_any false A l c x _ (HR.out.below hbw) (by omega)).mono ?_
          rintro e w6 ⟨rfl, hb6⟩
          rw [hV]
          have k12 := cell_below hb6 k10
          have k13 := cell_below hb6 k11
          have g1 := cell_below hb6 g0
          have hbx : Below w.heap.size w w6 := hbw.trans (hb6.mono hbw.size)
          have hby : Below w5.heap.size w5 w6 := hbel.trans (hb6.mono hbel.size)
          have l1 : B < w6.heap.size := cell_lt k12
          have l2 : b < w6.heap.size := cell_lt g1
          go_wp2_with fail
          have kk0 : w6.cell? ⟨B, 0, none⟩ = some (.bool false) := (by first | (simp [go_sem]; done) | (simp [go_sem, *]; done))
          have kk1 : w6.cell? ⟨B, 1, none⟩ = some (.slice A1 m.length m.length) := (by first | (simp [go_sem]; done) | (simp [go_sem, *]; done))
          have kk2 : w6.cell? ⟨b, off + i, none⟩ = some (encStr x) := (by first | (simp [go_sem]; done) | (simp [go_sem, *]; done))
          go_region_held3 (fun w' => Below w6.heap.size w6 w' ∧ w'.cell? ⟨B, 0, none⟩ = some (.bool false) ∧ w'.cell? ⟨B, 1, none⟩ = some (.slice A1 m.length m.length) ∧ w'.cell? ⟨b, off + i, none⟩ = some (encStr x)) ((refine and_keep ?_ (fun hk => ⟨keep_cell hk l1 kk0, keep_cell hk l1 kk1, keep_cell hk l2 kk2⟩); exact (by repeat' (first | (with_reducible exact Below.refl _ _) | (with_reducible assumption) | (with_reducible refine Below.drew ?_) | (with_reducible refine below_drewN ?_ _) | (with_reducible refine below_iterAt ?_ ?_ _ _) | (with_reducible refine below_iter ?_ ?_ _ _) | (with_reducible refine Below.alloc ?_ ?_ _) | (with_reducible refine Below.setCell ?_ ?_ _) | (with_reducible refine Below.trans ?_ (Below.mono (by assumption) ?_)) | (simp only [sz_alloc, sz_set, sz_drew, sz_drewN, sz_iterAt, sz_iter] at *; omega) | omega | (simp; done) | (simp; omega) | (apply Below.size; assumption) | (simp only [sz_drew, sz_drewN]; apply Below.size; assumption) | (refine Nat.le_trans ?_ (Below.size (by assumption)))))))
            (first
              | (go_at_call 14; refine (hHas _ _ (by first | exact Or.inl rfl | exact Or.inr rfl) (hby.trans (Below.mono (And.left (by assumption)) hby.size))).mono ?_; rintro e w' ⟨rfl, hb'⟩))
          have hS : Below w6.heap.size w6 _ ∧ _ := (by assumption)
          have hbz := hS.1
          clear hS
          go_wp2_with fail
          go_roundg (ms.length - (i + 1))
          case measure => omega
          case rel => exact ⟨i + 1, by omega, by omega, by go_num, hby.trans (hbz.mono hby.size)⟩
      · have i1 : ¬ ((i : Int) < (ms.length : Int)) := by omega
        go_wp2_with fail
        go_ret
        exact ⟨ret_bool rfl, hbw5.trans (hbel.mono hbw5.size)⟩
  · simp only [Bool.not_true, Bool.not_false, Bool.true_and, Bool.false_and]
    go_wp2_with fail
    refine (asks_any s A none l [] c 0 w4 (HR.out.below hbw4) (RdL.nil_ _ _ _) hss HS.out (fun t ht => by cases ht) (by omega) (by decide)).mono ?_
    rintro e w5 ⟨ms, N, cn, rfl, hN, hml, hmt, hb5⟩
    have k8 := cell_below hb5 k6
    have k9 := cell_below hb5 k7
    have HN := Lib.hid hN
    have HMX := Lib.hid hmt
    have HR5 := Lib.hid (hr5.out.below hb5)
    have hbw5 : Below w.heap.size w w5 := hbw4.trans (hb5.mono hbw4.size)
    have lB5 : B < w5.heap.size := cell_lt k8
    clear k6 k7 hr5 hb5 hbw4 hN hmt lB
    go_wp2_with fail
    go_loopg [9] ms.length (fun k iv wr => ∃ i : Nat, i ≤ ms.length ∧ ms.length - i ≤ k ∧ iv = .int .i64 i ∧ Below w5.heap.size w5 wr)
    case atStart => exact ⟨0, by omega, by omega, rfl, Below.refl _ _⟩
    case round =>
      obtain ⟨i, hi, hik, rfl, hbel⟩ := hrel
      have hsz := hbel.size
      by_cases hlt : i < ms.length
      · obtain ⟨b, off, hbN, hxN⟩ := (HN.out.below hbel).at_ hlt
        subst hbN
        have hxl := HMX.out _ (List.getElem_mem hlt)
        have g0 : wr.cell? ⟨b, off + i, none⟩ = some (encStr (ms[i]'hlt)) := by have := hxN.get 0 (v := encStr (ms[i]'hlt)) rfl; simpa using this
        clear hxN
        generalize ms[i]'hlt = x at *
        have hbl : b < wr.heap.size := cell_lt g0
        have i0 : (0 : Int) ≤ (i : Int) := by omega
        have i1 : (i : Int) < (ms.length : Int) := by omega
        have k10 := cell_below hbel k8
        have k11 := cell_below hbel k9
        have hbw : Below w.heap.size w wr := hbw5.trans (hbel.mono hbw5.size)
        obtain ⟨V, hV⟩ : ∃ V, inW true l x = V := ⟨_, rfl⟩
        have hHas : ∀ (v : Value) (W : World), (v = .agg #[.bool true, .slice A1 m.length m.length] ∨ v = .agg #[.bool true, .slice A l.length c]) → Below w5.heap.size w5 W →
            Calls Tryd.prog 14 #[v, encStr x] W fun e w' => e = .returned (.bool V) ∧ Below W.heap.size W w' := by
          intro v W hv hW
          have hbW := hbw5.trans (hW.mono hbw5.size)
          rcases hv with rfl | rfl
          · rw [← hV, ← HIN.out x]
            exact has_any true A1 m m.length x W (HE.out.env.below hbW) (HR5.out.below hW) (by omega) hxl
          · rw [← hV]
            exact has_any true A l c x W (HE.out.env.below hbW) (HR.out.below hbW) (by omega) hxl
        cases V
        all_goals
          go_wp2_with fail
          refine (rWords_any true A l c x _ (HR.out.below hbw) (by omega)).mono ?_
          rintro e w6 ⟨rfl, hb6⟩
          rw [hV]
          have k12 := cell_below hb6 k10
          have k13 := cell_below hb6 k11
          have g1 := cell_below hb6 g0
          have hbx : Below w.heap.size w w6 := hbw.trans (hb6.mono hbw.size)
          have hby : Below w5.heap.size w5 w6 := hbel.trans (hb6.mono hbel.size)
          have l1 : B < w6.heap.size := cell_lt k12
          have l2 : b < w6.heap.size := cell_lt g1
          go_wp2_with fail
          have kk0 : w6.cell? ⟨B, 0, none⟩ = some (.bool true) := (by first | (simp [go_sem]; done) | (simp [go_sem, *]; done))
          have kk1 : w6.cell? ⟨B, 1, none⟩ = some (.slice A1 m.length m.length) := (by first | (simp [go_sem]; done) | (simp [go_sem, *]; done))
          have kk2 : w6.cell? ⟨b, off + i, none⟩ = some (encStr x) := (by first | (simp [go_sem]; done) | (simp [go_sem, *]; done))
          go_region_held3 (fun w' => Below w6.heap.size w6 w' ∧ w'.cell? ⟨B, 0, none⟩ = some (.bool true) ∧ w'.cell? ⟨B, 1, none⟩ = some (.slice A1 m.length m.length) ∧ w'.cell? ⟨b, off + i, none⟩ = some (encStr x)) ((refine and_keep ?_ (fun hk => ⟨keep_cell hk l1 kk0, keep_cell hk l1 kk1, keep_cell hk l2 kk2⟩); exact (by repeat' (first | (with_reducible exact Below.refl _ _) | (with_reducible assumption) | (with_reducible refine Below.drew ?_) | (with_reducible refine below_drewN ?_ _) | (with_reducible refine below_iterAt ?_ ?_ _ _) | (with_reducible refine below_iter ?_ ?_ _ _) | (with_reducible refine Below.alloc ?_ ?_ _) | (with_reducible refine Below.setCell ?_ ?_ _) | (with_reducible refine Below.trans ?_ (Below.mono (by assumption) ?_)) | (simp only [sz_alloc, sz_set, sz_drew, sz_drewN, sz_iterAt, sz_iter] at *; omega) | omega | (simp; done) | (simp; omega) | (apply Below.size; assumption) | (simp only [sz_drew, sz_drewN]; apply Below.size; assumption) | (refine Nat.le_trans ?_ (Below.size (by assumption)))))))
            (first
              | (go_at_call 14; refine (hHas _ _ (by first | exact Or.inl rfl | exact Or.inr rfl) (hby.trans (Below.mono (And.left (by assumption)) hby.size))).mono ?_; rintro e w' ⟨rfl, hb'⟩))
          have hS : Below w6.heap.size w6 _ ∧ _ := (by assumption)
          have hbz := hS.1
          clear hS
          go_wp2_with fail
          go_roundg (ms.length - (i + 1))
          case measure => omega
          case rel => exact ⟨i + 1, by omega, by omega, by go_num, hby.trans (hbz.mono hby.size)⟩
      · have i1 : ¬ ((i : Int) < (ms.length : Int)) := by omega
        go_wp2_with fail
        go_ret
        exact ⟨ret_bool rfl, hbw5.trans (hbel.mono hbw5.size)⟩
end Go.Proofs.YtgbapmhdhbfhnaaDoor
