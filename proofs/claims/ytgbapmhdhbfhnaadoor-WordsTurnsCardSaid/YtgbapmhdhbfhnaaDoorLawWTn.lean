/- WordsTurns, walked: it gives true. (printed by gen_wturn.py) -/
import Derived.Test.YtgbapmhdhbfhnaaDoorWd9
set_option linter.unusedSimpArgs false
set_option linter.unusedVariables false
namespace Go.Proofs.YtgbapmhdhbfhnaaDoor
open Go.RowKit Go.Sort Go.Lib

theorem meetW_lenA {bA : Bool} (la lb : List Tx) : (meetW false la bA lb).2.length ≤ la.length := Nat.le_trans (norm_length _) (List.length_filter_le _ _)
theorem meetW_lenB (la lb : List Tx) : (meetW true la false lb).2.length ≤ lb.length := Nat.le_trans (norm_length _) (List.length_filter_le _ _)
theorem meetW_sub {aA bA : Bool} {la lb : List Tx} {t : Tx} (h : t ∈ (meetW aA la bA lb).2) : t ∈ la ∨ t ∈ lb := by
  unfold meetW at h
  cases aA <;> cases bA
  · exact .inl (List.mem_filter.1 (mem_norm.1 h).1).1
  · exact .inl (List.mem_filter.1 (mem_norm.1 h).1).1
  · exact .inr (List.mem_filter.1 (mem_norm.1 h).1).1
  · exact List.mem_append.1 (mem_norm.1 h).1

set_option maxRecDepth 100000 in
set_option maxHeartbeats 3200000 in
theorem lawTurns_f (A : Option Addr) (l : List Tx) (c : Nat) (w : World) (hE : EnvP w) (hr : RdL w 1 A (l.map tC)) (hs : ∀ t ∈ l, t.length ≤ 9223372036854775807) (hn : l.length * 16 ≤ 140737488355328) :
    Calls Tryd.prog 6 #[.agg #[.bool false, .slice A l.length c]] w fun e w' => e = .returned (.bool true) ∧ Below w.heap.size w w' := by
  have hnl := norm_length l
  have hms : ∀ t ∈ norm l, t.length ≤ 9223372036854775807 := fun t ht => hs t (mem_norm.1 ht).1
  have hmm := norm_norm l
  obtain ⟨m, hm⟩ : ∃ m, norm l = m := ⟨_, rfl⟩
  rw [hm] at hnl hms hmm
  have HM := Lib.hid hm
  have HMM := Lib.hid hmm
  have HS := Lib.hid hs
  have HR := Lib.hid hr
  have HE := Lib.hid hE
  have HMS := Lib.hid hms
  clear hm hs hr hE hms hmm
  go_enter Tryd.func6, Tryd.ntmps6
  go_wp2_with fail
  generalize hEu : w.alloc _ = u
  have hbu : Below w.heap.size w u := (by rw [← hEu]; exact (by repeat' (first | (with_reducible exact Below.refl _ _) | (with_reducible assumption) | (with_reducible refine Below.drew ?_) | (with_reducible refine below_drewN ?_ _) | (with_reducible refine below_iterAt ?_ ?_ _ _) | (with_reducible refine below_iter ?_ ?_ _ _) | (with_reducible refine Below.alloc ?_ ?_ _) | (with_reducible refine Below.setCell ?_ ?_ _) | (with_reducible refine Below.trans ?_ (Below.mono (by assumption) ?_)) | (simp only [sz_alloc, sz_set, sz_drew, sz_drewN, sz_iterAt, sz_iter] at *; omega) | omega | (simp; done) | (simp; omega) | (apply Below.size; assumption) | (simp only [sz_drew, sz_drewN]; apply Below.size; assumption) | (refine Nat.le_trans ?_ (Below.size (by assumption))))))
  have lu_0 : w.heap.size < u.heap.size := (by rw [← hEu]; first | omega | (simp only [sz_alloc, sz_set, sz_drew, sz_drewN, sz_iterAt, sz_iter] at *; omega) | (simp; done) | (simp; omega) | (simp at *; omega))
  have qu_0 : ∀ o, u.cell? ⟨w.heap.size, o, none⟩ = _ := fun o => congrArg (fun W : World => W.cell? ⟨w.heap.size, o, none⟩) hEu.symm
  have ru_0 : ∀ o, u.frozen? ⟨w.heap.size, o, none⟩ = _ := fun o => congrArg (fun W : World => W.frozen? ⟨w.heap.size, o, none⟩) hEu.symm
  clear hEu
  have a0 : u.cell? ⟨w.heap.size, 0, none⟩ = some (.bool false) := (qu_0 0).trans (by simp [go_sem])
  have a1 : u.cell? ⟨w.heap.size, 1, none⟩ = some (.slice A l.length c) := (qu_0 1).trans (by simp [go_sem])
  clear qu_0 ru_0 lu_0
  have HRu := Lib.hid (HR.out.below hbu)
  clear HR
  have h1 := other_any false A l c u (HE.out.env.below hbu) HRu.out HS.out hn
  simp only [Bool.not_true, Bool.not_false] at h1
  rw [HM.out] at h1
  refine h1.mono ?_
  clear h1
  rintro e w1 ⟨A1, rfl, ho1, hb1⟩
  have f1 := cell_below hb1 a0
  clear a0
  have f2 := cell_below hb1 a1
  clear a1
  have f3 := Lib.hid (HRu.out.below hb1)
  clear HRu
  have hw4 : Below w.heap.size w w1 := hbu.trans (hb1.mono hbu.size)
  have R1 := Lib.hid ho1.rd
  clear ho1 hb1
  have l5 := cell_lt f1
  go_wp2_with fail
  have hbau1 : Below w1.heap.size w1 (w1.alloc (.cells #[.bool true, .slice A1 m.length m.length] 24)) := (by repeat' (first | (with_reducible exact Below.refl _ _) | (with_reducible assumption) | (with_reducible refine Below.drew ?_) | (with_reducible refine below_drewN ?_ _) | (with_reducible refine below_iterAt ?_ ?_ _ _) | (with_reducible refine below_iter ?_ ?_ _ _) | (with_reducible refine Below.alloc ?_ ?_ _) | (with_reducible refine Below.setCell ?_ ?_ _) | (with_reducible refine Below.trans ?_ (Below.mono (by assumption) ?_)) | (simp only [sz_alloc, sz_set, sz_drew, sz_drewN, sz_iterAt, sz_iter] at *; omega) | omega | (simp; done) | (simp; omega) | (apply Below.size; assumption) | (simp only [sz_drew, sz_drewN]; apply Below.size; assumption) | (refine Nat.le_trans ?_ (Below.size (by assumption)))))
  have z0 : (w1.alloc (.cells #[.bool true, .slice A1 m.length m.length] 24)).cell? ⟨w1.heap.size, 0, none⟩ = some (.bool true) := by simp [go_sem]
  have z1 : (w1.alloc (.cells #[.bool true, .slice A1 m.length m.length] 24)).cell? ⟨w1.heap.size, 1, none⟩ = some (.slice A1 m.length m.length) := by simp [go_sem]
  generalize w1.alloc (.cells #[.bool true, .slice A1 m.length m.length] 24) = u1 at *
  have f6 := cell_below hbau1 f1
  clear f1
  have f7 := cell_below hbau1 f2
  clear f2
  have f8 := Lib.hid (f3.out.below hbau1)
  clear f3
  have f9 := Lib.hid (R1.out.below hbau1)
  clear R1
  have hw10 : Below w.heap.size w u1 := hw4.trans (hbau1.mono hw4.size)
  have o0 := z0
  have o1 := z1
  clear z0 z1
  clear hbau1 l5
  have h1 := other_any true A1 m m.length u1 (HE.out.env.below hw10) f9.out HMS.out (by omega)
  simp only [Bool.not_true, Bool.not_false] at h1
  rw [HMM.out] at h1
  refine h1.mono ?_
  clear h1
  rintro e w2 ⟨A2, rfl, ho2, hb2⟩
  have f11 := cell_below hb2 f6
  clear f6
  have f12 := cell_below hb2 f7
  clear f7
  have f13 := Lib.hid (f8.out.below hb2)
  clear f8
  have f14 := Lib.hid (f9.out.below hb2)
  clear f9
  have f15 := cell_below hb2 o0
  clear o0
  have f16 := cell_below hb2 o1
  clear o1
  have hw17 : Below w.heap.size w w2 := hw10.trans (hb2.mono hw10.size)
  have R2 := Lib.hid ho2.rd
  clear ho2 hb2
  have l18 := cell_lt f11
  have l19 := cell_lt f15
  go_wp2_with fail
  have hbau2 : Below w2.heap.size w2 (w2.alloc (.cells #[.bool false, .slice A2 m.length m.length] 24)) := (by repeat' (first | (with_reducible exact Below.refl _ _) | (with_reducible assumption) | (with_reducible refine Below.drew ?_) | (with_reducible refine below_drewN ?_ _) | (with_reducible refine below_iterAt ?_ ?_ _ _) | (with_reducible refine below_iter ?_ ?_ _ _) | (with_reducible refine Below.alloc ?_ ?_ _) | (with_reducible refine Below.setCell ?_ ?_ _) | (with_reducible refine Below.trans ?_ (Below.mono (by assumption) ?_)) | (simp only [sz_alloc, sz_set, sz_drew, sz_drewN, sz_iterAt, sz_iter] at *; omega) | omega | (simp; done) | (simp; omega) | (apply Below.size; assumption) | (simp only [sz_drew, sz_drewN]; apply Below.size; assumption) | (refine Nat.le_trans ?_ (Below.size (by assumption)))))
  have z0 : (w2.alloc (.cells #[.bool false, .slice A2 m.length m.length] 24)).cell? ⟨w2.heap.size, 0, none⟩ = some (.bool false) := by simp [go_sem]
  have z1 : (w2.alloc (.cells #[.bool false, .slice A2 m.length m.length] 24)).cell? ⟨w2.heap.size, 1, none⟩ = some (.slice A2 m.length m.length) := by simp [go_sem]
  generalize w2.alloc (.cells #[.bool false, .slice A2 m.length m.length] 24) = u2 at *
  have f20 := cell_below hbau2 f11
  clear f11
  have f21 := cell_below hbau2 f12
  clear f12
  have f22 := Lib.hid (f13.out.below hbau2)
  clear f13
  have f23 := Lib.hid (f14.out.below hbau2)
  clear f14
  have f24 := cell_below hbau2 f15
  clear f15
  have f25 := cell_below hbau2 f16
  clear f16
  have f26 := Lib.hid (R2.out.below hbau2)
  clear R2
  have hw27 : Below w.heap.size w u2 := hw17.trans (hbau2.mono hw17.size)
  have b0 := z0
  have b1 := z1
  clear z0 z1
  clear hbau2 l18 l19
  have h1 := make_any false A l c u2 (HE.out.env.below hw27) f22.out HS.out hn
  rw [HM.out] at h1
  refine h1.mono ?_
  clear h1
  rintro e w3 ⟨A3, rfl, ho3, hb3⟩
  have f28 := cell_below hb3 f20
  clear f20
  have f29 := cell_below hb3 f21
  clear f21
  have f30 := Lib.hid (f22.out.below hb3)
  clear f22
  have f31 := Lib.hid (f23.out.below hb3)
  clear f23
  have f32 := cell_below hb3 f24
  clear f24
  have f33 := cell_below hb3 f25
  clear f25
  have f34 := Lib.hid (f26.out.below hb3)
  clear f26
  have f35 := cell_below hb3 b0
  clear b0
  have f36 := cell_below hb3 b1
  clear b1
  have hw37 : Below w.heap.size w w3 := hw27.trans (hb3.mono hw27.size)
  have R3 := Lib.hid ho3.rd
  clear ho3 hb3
  have l38 := cell_lt f28
  have l39 := cell_lt f32
  have l40 := cell_lt f35
  go_wp2_with fail
  have hbau3 : Below w3.heap.size w3 (w3.alloc (.cells #[.bool false, .slice A3 m.length m.length] 24)) := (by repeat' (first | (with_reducible exact Below.refl _ _) | (with_reducible assumption) | (with_reducible refine Below.drew ?_) | (with_reducible refine below_drewN ?_ _) | (with_reducible refine below_iterAt ?_ ?_ _ _) | (with_reducible refine below_iter ?_ ?_ _ _) | (with_reducible refine Below.alloc ?_ ?_ _) | (with_reducible refine Below.setCell ?_ ?_ _) | (with_reducible refine Below.trans ?_ (Below.mono (by assumption) ?_)) | (simp only [sz_alloc, sz_set, sz_drew, sz_drewN, sz_iterAt, sz_iter] at *; omega) | omega | (simp; done) | (simp; omega) | (apply Below.size; assumption) | (simp only [sz_drew, sz_drewN]; apply Below.size; assumption) | (refine Nat.le_trans ?_ (Below.size (by assumption)))))
  have z0 : (w3.alloc (.cells #[.bool false, .slice A3 m.length m.length] 24)).cell? ⟨w3.heap.size, 0, none⟩ = some (.bool false) := by simp [go_sem]
  have z1 : (w3.alloc (.cells #[.bool false, .slice A3 m.length m.length] 24)).cell? ⟨w3.heap.size, 1, none⟩ = some (.slice A3 m.length m.length) := by simp [go_sem]
  generalize w3.alloc (.cells #[.bool false, .slice A3 m.length m.length] 24) = u3 at *
  have f41 := cell_below hbau3 f28
  clear f28
  have f42 := cell_below hbau3 f29
  clear f29
  have f43 := Lib.hid (f30.out.below hbau3)
  clear f30
  have f44 := Lib.hid (f31.out.below hbau3)
  clear f31
  have f45 := cell_below hbau3 f32
  clear f32
  have f46 := cell_below hbau3 f33
  clear f33
  have f47 := Lib.hid (f34.out.below hbau3)
  clear f34
  have f48 := cell_below hbau3 f35
  clear f35
  have f49 := cell_below hbau3 f36
  clear f36
  have f50 := Lib.hid (R3.out.below hbau3)
  clear R3
  have hw51 : Below w.heap.size w u3 := hw37.trans (hbau3.mono hw37.size)
  have c0 := z0
  have c1 := z1
  clear z0 z1
  clear hbau3 l38 l39 l40
  refine (meetA_any true A A1 l m c m.length u3 (HE.out.env.below hw51) f43.out f44.out HS.out HMS.out hn (by omega)).mono ?_
  rintro e w4 ⟨A4, rfl, ho4, hb4⟩
  have hf1 : (meetW false l true m).1 = false := meet_all _ _ _ _
  obtain ⟨n, hn4⟩ : ∃ n, (meetW false l true m).2 = n := ⟨_, rfl⟩
  have hnl4 : n.length ≤ l.length := by rw [← hn4]; exact Nat.le_trans (meetW_lenA l m) (by omega)
  have hns4 : ∀ t ∈ n, t.length ≤ 9223372036854775807 := by
    rw [← hn4]; intro t ht
    rcases meetW_sub ht with h | h
    · exact HS.out t h
    · exact HMS.out t h
  have hem4 : emptyW false n = true := by
    have hi := inW_meet false l true m
    rw [hf1, hn4] at hi
    refine emptyW_of (fun t => ?_)
    rw [hi t, ← HM.out]
    have ho := inW_other false l t
    rw [show (!false) = true from rfl] at ho
    rw [ho]
    cases inW false l t <;> rfl
  rw [hn4] at ho4
  rw [hf1, hn4]
  have HNS := Lib.hid hns4
  have HEM := Lib.hid hem4
  clear hns4 hem4 hf1 hn4
  have f52 := cell_below hb4 f41
  clear f41
  have f53 := cell_below hb4 f42
  clear f42
  have f54 := Lib.hid (f43.out.below hb4)
  clear f43
  have f55 := Lib.hid (f44.out.below hb4)
  clear f44
  have f56 := cell_below hb4 f45
  clear f45
  have f57 := cell_below hb4 f46
  clear f46
  have f58 := Lib.hid (f47.out.below hb4)
  clear f47
  have f59 := cell_below hb4 f48
  clear f48
  have f60 := cell_below hb4 f49
  clear f49
  have f61 := Lib.hid (f50.out.below hb4)
  clear f50
  have f62 := cell_below hb4 c0
  clear c0
  have f63 := cell_below hb4 c1
  clear c1
  have hw64 : Below w.heap.size w w4 := hw51.trans (hb4.mono hw51.size)
  have R4 := Lib.hid ho4.rd
  clear ho4 hb4
  have l65 := cell_lt f52
  have l66 := cell_lt f56
  have l67 := cell_lt f59
  have l68 := cell_lt f62
  go_wp2_with fail
  have hbau4 : Below w4.heap.size w4 (w4.alloc (.cells #[.bool false, .slice A4 n.length n.length] 24)) := (by repeat' (first | (with_reducible exact Below.refl _ _) | (with_reducible assumption) | (with_reducible refine Below.drew ?_) | (with_reducible refine below_drewN ?_ _) | (with_reducible refine below_iterAt ?_ ?_ _ _) | (with_reducible refine below_iter ?_ ?_ _ _) | (with_reducible refine Below.alloc ?_ ?_ _) | (with_reducible refine Below.setCell ?_ ?_ _) | (with_reducible refine Below.trans ?_ (Below.mono (by assumption) ?_)) | (simp only [sz_alloc, sz_set, sz_drew, sz_drewN, sz_iterAt, sz_iter] at *; omega) | omega | (simp; done) | (simp; omega) | (apply Below.size; assumption) | (simp only [sz_drew, sz_drewN]; apply Below.size; assumption) | (refine Nat.le_trans ?_ (Below.size (by assumption)))))
  have z0 : (w4.alloc (.cells #[.bool false, .slice A4 n.length n.length] 24)).cell? ⟨w4.heap.size, 0, none⟩ = some (.bool false) := by simp [go_sem]
  have z1 : (w4.alloc (.cells #[.bool false, .slice A4 n.length n.length] 24)).cell? ⟨w4.heap.size, 1, none⟩ = some (.slice A4 n.length n.length) := by simp [go_sem]
  generalize w4.alloc (.cells #[.bool false, .slice A4 n.length n.length] 24) = u4 at *
  have f69 := cell_below hbau4 f52
  clear f52
  have f70 := cell_below hbau4 f53
  clear f53
  have f71 := Lib.hid (f54.out.below hbau4)
  clear f54
  have f72 := Lib.hid (f55.out.below hbau4)
  clear f55
  have f73 := cell_below hbau4 f56
  clear f56
  have f74 := cell_below hbau4 f57
  clear f57
  have f75 := Lib.hid (f58.out.below hbau4)
  clear f58
  have f76 := cell_below hbau4 f59
  clear f59
  have f77 := cell_below hbau4 f60
  clear f60
  have f78 := Lib.hid (f61.out.below hbau4)
  clear f61
  have f79 := cell_below hbau4 f62
  clear f62
  have f80 := cell_below hbau4 f63
  clear f63
  have f81 := Lib.hid (R4.out.below hbau4)
  clear R4
  have hw82 : Below w.heap.size w u4 := hw64.trans (hbau4.mono hw64.size)
  have n0 := z0
  have n1 := z1
  clear z0 z1
  clear hbau4 l65 l66 l67 l68
  refine (awake_any u4 (HE.out.below hw82)).mono ?_
  rintro e w5 ⟨rfl, hb5⟩
  have f83 := cell_below hb5 f69
  clear f69
  have f84 := cell_below hb5 f70
  clear f70
  have f85 := Lib.hid (f71.out.below hb5)
  clear f71
  have f86 := Lib.hid (f72.out.below hb5)
  clear f72
  have f87 := cell_below hb5 f73
  clear f73
  have f88 := cell_below hb5 f74
  clear f74
  have f89 := Lib.hid (f75.out.below hb5)
  clear f75
  have f90 := cell_below hb5 f76
  clear f76
  have f91 := cell_below hb5 f77
  clear f77
  have f92 := Lib.hid (f78.out.below hb5)
  clear f78
  have f93 := cell_below hb5 f79
  clear f79
  have f94 := cell_below hb5 f80
  clear f80
  have f95 := Lib.hid (f81.out.below hb5)
  clear f81
  have f96 := cell_below hb5 n0
  clear n0
  have f97 := cell_below hb5 n1
  clear n1
  have hw98 : Below w.heap.size w w5 := hw82.trans (hb5.mono hw82.size)
  clear hb5
  go_wp2_with fail
  refine (empty_any false A4 n n.length w5 (HE.out.env.below hw98) f95.out HNS.out (by omega)).mono ?_
  rintro e w6 ⟨rfl, hb6⟩
  rw [HEM.out]
  have f99 := cell_below hb6 f83
  clear f83
  have f100 := cell_below hb6 f84
  clear f84
  have f101 := Lib.hid (f85.out.below hb6)
  clear f85
  have f102 := Lib.hid (f86.out.below hb6)
  clear f86
  have f103 := cell_below hb6 f87
  clear f87
  have f104 := cell_below hb6 f88
  clear f88
  have f105 := Lib.hid (f89.out.below hb6)
  clear f89
  have f106 := cell_below hb6 f90
  clear f90
  have f107 := cell_below hb6 f91
  clear f91
  have f108 := Lib.hid (f92.out.below hb6)
  clear f92
  have f109 := cell_below hb6 f93
  clear f93
  have f110 := cell_below hb6 f94
  clear f94
  have f111 := Lib.hid (f95.out.below hb6)
  clear f95
  have f112 := cell_below hb6 f96
  clear f96
  have f113 := cell_below hb6 f97
  clear f97
  have hw114 : Below w.heap.size w w6 := hw98.trans (hb6.mono hw98.size)
  clear hb6
  go_wp2_with fail
  go_loopg [7] m.length (fun kk iv wr => ∃ i : Nat, i ≤ m.length ∧ m.length - i ≤ kk ∧ iv = .int .i64 i ∧ Below w6.heap.size w6 wr)
  case atStart => exact ⟨0, by omega, by omega, rfl, Below.refl _ _⟩
  case round =>
    obtain ⟨i, hi, hik, rfl, hbel⟩ := hrel
    have hsz := hbel.size
    have f115 := cell_below hbel f99
    clear f99
    have f116 := cell_below hbel f100
    clear f100
    have f117 := Lib.hid (f101.out.below hbel)
    clear f101
    have f118 := Lib.hid (f102.out.below hbel)
    clear f102
    have f119 := cell_below hbel f103
    clear f103
    have f120 := cell_below hbel f104
    clear f104
    have f121 := Lib.hid (f105.out.below hbel)
    clear f105
    have f122 := cell_below hbel f106
    clear f106
    have f123 := cell_below hbel f107
    clear f107
    have f124 := Lib.hid (f108.out.below hbel)
    clear f108
    have f125 := cell_below hbel f109
    clear f109
    have f126 := cell_below hbel f110
    clear f110
    have f127 := Lib.hid (f111.out.below hbel)
    clear f111
    have f128 := cell_below hbel f112
    clear f112
    have f129 := cell_below hbel f113
    clear f113
    by_cases hlt : i < m.length
    · obtain ⟨b, off, hbe, hx0⟩ := (f121.out).at_ hlt
      subst hbe
      have g0 : wr.cell? ⟨b, off + i, none⟩ = some (encStr (m[i]'hlt)) := by have := hx0.get 0 (v := encStr (m[i]'hlt)) rfl; simpa using this
      obtain ⟨b', off', hbe, hx1⟩ := (f124.out).at_ hlt
      subst hbe
      have g1 : wr.cell? ⟨b', off' + i, none⟩ = some (encStr (m[i]'hlt)) := by have := hx1.get 0 (v := encStr (m[i]'hlt)) rfl; simpa using this
      generalize m[i]'hlt = x at *
      clear hx0 hx1
      have i0 : (0 : Int) ≤ (i : Int) := by omega
      have i1 : (i : Int) < (m.length : Int) := by omega
      have hxx : (x == x) = true := by simp
      go_wp2_with fail
      go_quiet (fail)
      go_wp2_with fail
      go_roundg (m.length - (i + 1))
      case measure => omega
      case rel => exact ⟨i + 1, by omega, by omega, by go_num, (by repeat' (first | (with_reducible exact Below.refl _ _) | (with_reducible assumption) | (with_reducible refine Below.drew ?_) | (with_reducible refine below_drewN ?_ _) | (with_reducible refine below_iterAt ?_ ?_ _ _) | (with_reducible refine below_iter ?_ ?_ _ _) | (with_reducible refine Below.alloc ?_ ?_ _) | (with_reducible refine Below.setCell ?_ ?_ _) | (with_reducible refine Below.trans ?_ (Below.mono (by assumption) ?_)) | (simp only [sz_alloc, sz_set, sz_drew, sz_drewN, sz_iterAt, sz_iter] at *; omega) | omega | (simp; done) | (simp; omega) | (apply Below.size; assumption) | (simp only [sz_drew, sz_drewN]; apply Below.size; assumption) | (refine Nat.le_trans ?_ (Below.size (by assumption)))))⟩
    · have i1 : ¬ ((i : Int) < (m.length : Int)) := by omega
      go_wp2_with fail
      go_ret
      exact ⟨ret_bool rfl, hw114.trans (hbel.mono hw114.size)⟩

set_option maxRecDepth 100000 in
set_option maxHeartbeats 3200000 in
theorem lawTurns_t (A : Option Addr) (l : List Tx) (c : Nat) (w : World) (hE : EnvP w) (hr : RdL w 1 A (l.map tC)) (hs : ∀ t ∈ l, t.length ≤ 9223372036854775807) (hn : l.length * 16 ≤ 140737488355328) :
    Calls Tryd.prog 6 #[.agg #[.bool true, .slice A l.length c]] w fun e w' => e = .returned (.bool true) ∧ Below w.heap.size w w' := by
  have hnl := norm_length l
  have hms : ∀ t ∈ norm l, t.length ≤ 9223372036854775807 := fun t ht => hs t (mem_norm.1 ht).1
  have hmm := norm_norm l
  obtain ⟨m, hm⟩ : ∃ m, norm l = m := ⟨_, rfl⟩
  rw [hm] at hnl hms hmm
  have HM := Lib.hid hm
  have HMM := Lib.hid hmm
  have HS := Lib.hid hs
  have HR := Lib.hid hr
  have HE := Lib.hid hE
  have HMS := Lib.hid hms
  clear hm hs hr hE hms hmm
  go_enter Tryd.func6, Tryd.ntmps6
  go_wp2_with fail
  generalize hEu : w.alloc _ = u
  have hbu : Below w.heap.size w u := (by rw [← hEu]; exact (by repeat' (first | (with_reducible exact Below.refl _ _) | (with_reducible assumption) | (with_reducible refine Below.drew ?_) | (with_reducible refine below_drewN ?_ _) | (with_reducible refine below_iterAt ?_ ?_ _ _) | (with_reducible refine below_iter ?_ ?_ _ _) | (with_reducible refine Below.alloc ?_ ?_ _) | (with_reducible refine Below.setCell ?_ ?_ _) | (with_reducible refine Below.trans ?_ (Below.mono (by assumption) ?_)) | (simp only [sz_alloc, sz_set, sz_drew, sz_drewN, sz_iterAt, sz_iter] at *; omega) | omega | (simp; done) | (simp; omega) | (apply Below.size; assumption) | (simp only [sz_drew, sz_drewN]; apply Below.size; assumption) | (refine Nat.le_trans ?_ (Below.size (by assumption))))))
  have lu_0 : w.heap.size < u.heap.size := (by rw [← hEu]; first | omega | (simp only [sz_alloc, sz_set, sz_drew, sz_drewN, sz_iterAt, sz_iter] at *; omega) | (simp; done) | (simp; omega) | (simp at *; omega))
  have qu_0 : ∀ o, u.cell? ⟨w.heap.size, o, none⟩ = _ := fun o => congrArg (fun W : World => W.cell? ⟨w.heap.size, o, none⟩) hEu.symm
  have ru_0 : ∀ o, u.frozen? ⟨w.heap.size, o, none⟩ = _ := fun o => congrArg (fun W : World => W.frozen? ⟨w.heap.size, o, none⟩) hEu.symm
  clear hEu
  have a0 : u.cell? ⟨w.heap.size, 0, none⟩ = some (.bool true) := (qu_0 0).trans (by simp [go_sem])
  have a1 : u.cell? ⟨w.heap.size, 1, none⟩ = some (.slice A l.length c) := (qu_0 1).trans (by simp [go_sem])
  clear qu_0 ru_0 lu_0
  have HRu := Lib.hid (HR.out.below hbu)
  clear HR
  have h1 := other_any true A l c u (HE.out.env.below hbu) HRu.out HS.out hn
  simp only [Bool.not_true, Bool.not_false] at h1
  rw [HM.out] at h1
  refine h1.mono ?_
  clear h1
  rintro e w1 ⟨A1, rfl, ho1, hb1⟩
  have f1 := cell_below hb1 a0
  clear a0
  have f2 := cell_below hb1 a1
  clear a1
  have f3 := Lib.hid (HRu.out.below hb1)
  clear HRu
  have hw4 : Below w.heap.size w w1 := hbu.trans (hb1.mono hbu.size)
  have R1 := Lib.hid ho1.rd
  clear ho1 hb1
  have l5 := cell_lt f1
  go_wp2_with fail
  have hbau1 : Below w1.heap.size w1 (w1.alloc (.cells #[.bool false, .slice A1 m.length m.length] 24)) := (by repeat' (first | (with_reducible exact Below.refl _ _) | (with_reducible assumption) | (with_reducible refine Below.drew ?_) | (with_reducible refine below_drewN ?_ _) | (with_reducible refine below_iterAt ?_ ?_ _ _) | (with_reducible refine below_iter ?_ ?_ _ _) | (with_reducible refine Below.alloc ?_ ?_ _) | (with_reducible refine Below.setCell ?_ ?_ _) | (with_reducible refine Below.trans ?_ (Below.mono (by assumption) ?_)) | (simp only [sz_alloc, sz_set, sz_drew, sz_drewN, sz_iterAt, sz_iter] at *; omega) | omega | (simp; done) | (simp; omega) | (apply Below.size; assumption) | (simp only [sz_drew, sz_drewN]; apply Below.size; assumption) | (refine Nat.le_trans ?_ (Below.size (by assumption)))))
  have z0 : (w1.alloc (.cells #[.bool false, .slice A1 m.length m.length] 24)).cell? ⟨w1.heap.size, 0, none⟩ = some (.bool false) := by simp [go_sem]
  have z1 : (w1.alloc (.cells #[.bool false, .slice A1 m.length m.length] 24)).cell? ⟨w1.heap.size, 1, none⟩ = some (.slice A1 m.length m.length) := by simp [go_sem]
  generalize w1.alloc (.cells #[.bool false, .slice A1 m.length m.length] 24) = u1 at *
  have f6 := cell_below hbau1 f1
  clear f1
  have f7 := cell_below hbau1 f2
  clear f2
  have f8 := Lib.hid (f3.out.below hbau1)
  clear f3
  have f9 := Lib.hid (R1.out.below hbau1)
  clear R1
  have hw10 : Below w.heap.size w u1 := hw4.trans (hbau1.mono hw4.size)
  have o0 := z0
  have o1 := z1
  clear z0 z1
  clear hbau1 l5
  have h1 := other_any false A1 m m.length u1 (HE.out.env.below hw10) f9.out HMS.out (by omega)
  simp only [Bool.not_true, Bool.not_false] at h1
  rw [HMM.out] at h1
  refine h1.mono ?_
  clear h1
  rintro e w2 ⟨A2, rfl, ho2, hb2⟩
  have f11 := cell_below hb2 f6
  clear f6
  have f12 := cell_below hb2 f7
  clear f7
  have f13 := Lib.hid (f8.out.below hb2)
  clear f8
  have f14 := Lib.hid (f9.out.below hb2)
  clear f9
  have f15 := cell_below hb2 o0
  clear o0
  have f16 := cell_below hb2 o1
  clear o1
  have hw17 : Below w.heap.size w w2 := hw10.trans (hb2.mono hw10.size)
  have R2 := Lib.hid ho2.rd
  clear ho2 hb2
  have l18 := cell_lt f11
  have l19 := cell_lt f15
  go_wp2_with fail
  have hbau2 : Below w2.heap.size w2 (w2.alloc (.cells #[.bool true, .slice A2 m.length m.length] 24)) := (by repeat' (first | (with_reducible exact Below.refl _ _) | (with_reducible assumption) | (with_reducible refine Below.drew ?_) | (with_reducible refine below_drewN ?_ _) | (with_reducible refine below_iterAt ?_ ?_ _ _) | (with_reducible refine below_iter ?_ ?_ _ _) | (with_reducible refine Below.alloc ?_ ?_ _) | (with_reducible refine Below.setCell ?_ ?_ _) | (with_reducible refine Below.trans ?_ (Below.mono (by assumption) ?_)) | (simp only [sz_alloc, sz_set, sz_drew, sz_drewN, sz_iterAt, sz_iter] at *; omega) | omega | (simp; done) | (simp; omega) | (apply Below.size; assumption) | (simp only [sz_drew, sz_drewN]; apply Below.size; assumption) | (refine Nat.le_trans ?_ (Below.size (by assumption)))))
  have z0 : (w2.alloc (.cells #[.bool true, .slice A2 m.length m.length] 24)).cell? ⟨w2.heap.size, 0, none⟩ = some (.bool true) := by simp [go_sem]
  have z1 : (w2.alloc (.cells #[.bool true, .slice A2 m.length m.length] 24)).cell? ⟨w2.heap.size, 1, none⟩ = some (.slice A2 m.length m.length) := by simp [go_sem]
  generalize w2.alloc (.cells #[.bool true, .slice A2 m.length m.length] 24) = u2 at *
  have f20 := cell_below hbau2 f11
  clear f11
  have f21 := cell_below hbau2 f12
  clear f12
  have f22 := Lib.hid (f13.out.below hbau2)
  clear f13
  have f23 := Lib.hid (f14.out.below hbau2)
  clear f14
  have f24 := cell_below hbau2 f15
  clear f15
  have f25 := cell_below hbau2 f16
  clear f16
  have f26 := Lib.hid (R2.out.below hbau2)
  clear R2
  have hw27 : Below w.heap.size w u2 := hw17.trans (hbau2.mono hw17.size)
  have b0 := z0
  have b1 := z1
  clear z0 z1
  clear hbau2 l18 l19
  have h1 := make_any true A l c u2 (HE.out.env.below hw27) f22.out HS.out hn
  rw [HM.out] at h1
  refine h1.mono ?_
  clear h1
  rintro e w3 ⟨A3, rfl, ho3, hb3⟩
  have f28 := cell_below hb3 f20
  clear f20
  have f29 := cell_below hb3 f21
  clear f21
  have f30 := Lib.hid (f22.out.below hb3)
  clear f22
  have f31 := Lib.hid (f23.out.below hb3)
  clear f23
  have f32 := cell_below hb3 f24
  clear f24
  have f33 := cell_below hb3 f25
  clear f25
  have f34 := Lib.hid (f26.out.below hb3)
  clear f26
  have f35 := cell_below hb3 b0
  clear b0
  have f36 := cell_below hb3 b1
  clear b1
  have hw37 : Below w.heap.size w w3 := hw27.trans (hb3.mono hw27.size)
  have R3 := Lib.hid ho3.rd
  clear ho3 hb3
  have l38 := cell_lt f28
  have l39 := cell_lt f32
  have l40 := cell_lt f35
  go_wp2_with fail
  have hbau3 : Below w3.heap.size w3 (w3.alloc (.cells #[.bool true, .slice A3 m.length m.length] 24)) := (by repeat' (first | (with_reducible exact Below.refl _ _) | (with_reducible assumption) | (with_reducible refine Below.drew ?_) | (with_reducible refine below_drewN ?_ _) | (with_reducible refine below_iterAt ?_ ?_ _ _) | (with_reducible refine below_iter ?_ ?_ _ _) | (with_reducible refine Below.alloc ?_ ?_ _) | (with_reducible refine Below.setCell ?_ ?_ _) | (with_reducible refine Below.trans ?_ (Below.mono (by assumption) ?_)) | (simp only [sz_alloc, sz_set, sz_drew, sz_drewN, sz_iterAt, sz_iter] at *; omega) | omega | (simp; done) | (simp; omega) | (apply Below.size; assumption) | (simp only [sz_drew, sz_drewN]; apply Below.size; assumption) | (refine Nat.le_trans ?_ (Below.size (by assumption)))))
  have z0 : (w3.alloc (.cells #[.bool true, .slice A3 m.length m.length] 24)).cell? ⟨w3.heap.size, 0, none⟩ = some (.bool true) := by simp [go_sem]
  have z1 : (w3.alloc (.cells #[.bool true, .slice A3 m.length m.length] 24)).cell? ⟨w3.heap.size, 1, none⟩ = some (.slice A3 m.length m.length) := by simp [go_sem]
  generalize w3.alloc (.cells #[.bool true, .slice A3 m.length m.length] 24) = u3 at *
  have f41 := cell_below hbau3 f28
  clear f28
  have f42 := cell_below hbau3 f29
  clear f29
  have f43 := Lib.hid (f30.out.below hbau3)
  clear f30
  have f44 := Lib.hid (f31.out.below hbau3)
  clear f31
  have f45 := cell_below hbau3 f32
  clear f32
  have f46 := cell_below hbau3 f33
  clear f33
  have f47 := Lib.hid (f34.out.below hbau3)
  clear f34
  have f48 := cell_below hbau3 f35
  clear f35
  have f49 := cell_below hbau3 f36
  clear f36
  have f50 := Lib.hid (R3.out.below hbau3)
  clear R3
  have hw51 : Below w.heap.size w u3 := hw37.trans (hbau3.mono hw37.size)
  have c0 := z0
  have c1 := z1
  clear z0 z1
  clear hbau3 l38 l39 l40
  refine (meetB_any A A1 l m c m.length u3 (HE.out.env.below hw51) f43.out f44.out HS.out HMS.out hn (by omega)).mono ?_
  rintro e w4 ⟨A4, rfl, ho4, hb4⟩
  have hf1 : (meetW true l false m).1 = false := meet_all _ _ _ _
  obtain ⟨n, hn4⟩ : ∃ n, (meetW true l false m).2 = n := ⟨_, rfl⟩
  have hnl4 : n.length ≤ l.length := by rw [← hn4]; exact Nat.le_trans (meetW_lenB l m) (by omega)
  have hns4 : ∀ t ∈ n, t.length ≤ 9223372036854775807 := by
    rw [← hn4]; intro t ht
    rcases meetW_sub ht with h | h
    · exact HS.out t h
    · exact HMS.out t h
  have hem4 : emptyW false n = true := by
    have hi := inW_meet true l false m
    rw [hf1, hn4] at hi
    refine emptyW_of (fun t => ?_)
    rw [hi t, ← HM.out]
    have ho := inW_other true l t
    rw [show (!true) = false from rfl] at ho
    rw [ho]
    cases inW true l t <;> rfl
  rw [hn4] at ho4
  rw [hf1, hn4]
  have HNS := Lib.hid hns4
  have HEM := Lib.hid hem4
  clear hns4 hem4 hf1 hn4
  have f52 := cell_below hb4 f41
  clear f41
  have f53 := cell_below hb4 f42
  clear f42
  have f54 := Lib.hid (f43.out.below hb4)
  clear f43
  have f55 := Lib.hid (f44.out.below hb4)
  clear f44
  have f56 := cell_below hb4 f45
  clear f45
  have f57 := cell_below hb4 f46
  clear f46
  have f58 := Lib.hid (f47.out.below hb4)
  clear f47
  have f59 := cell_below hb4 f48
  clear f48
  have f60 := cell_below hb4 f49
  clear f49
  have f61 := Lib.hid (f50.out.below hb4)
  clear f50
  have f62 := cell_below hb4 c0
  clear c0
  have f63 := cell_below hb4 c1
  clear c1
  have hw64 : Below w.heap.size w w4 := hw51.trans (hb4.mono hw51.size)
  have R4 := Lib.hid ho4.rd
  clear ho4 hb4
  have l65 := cell_lt f52
  have l66 := cell_lt f56
  have l67 := cell_lt f59
  have l68 := cell_lt f62
  go_wp2_with fail
  have hbau4 : Below w4.heap.size w4 (w4.alloc (.cells #[.bool false, .slice A4 n.length n.length] 24)) := (by repeat' (first | (with_reducible exact Below.refl _ _) | (with_reducible assumption) | (with_reducible refine Below.drew ?_) | (with_reducible refine below_drewN ?_ _) | (with_reducible refine below_iterAt ?_ ?_ _ _) | (with_reducible refine below_iter ?_ ?_ _ _) | (with_reducible refine Below.alloc ?_ ?_ _) | (with_reducible refine Below.setCell ?_ ?_ _) | (with_reducible refine Below.trans ?_ (Below.mono (by assumption) ?_)) | (simp only [sz_alloc, sz_set, sz_drew, sz_drewN, sz_iterAt, sz_iter] at *; omega) | omega | (simp; done) | (simp; omega) | (apply Below.size; assumption) | (simp only [sz_drew, sz_drewN]; apply Below.size; assumption) | (refine Nat.le_trans ?_ (Below.size (by assumption)))))
  have z0 : (w4.alloc (.cells #[.bool false, .slice A4 n.length n.length] 24)).cell? ⟨w4.heap.size, 0, none⟩ = some (.bool false) := by simp [go_sem]
  have z1 : (w4.alloc (.cells #[.bool false, .slice A4 n.length n.length] 24)).cell? ⟨w4.heap.size, 1, none⟩ = some (.slice A4 n.length n.length) := by simp [go_sem]
  generalize w4.alloc (.cells #[.bool false, .slice A4 n.length n.length] 24) = u4 at *
  have f69 := cell_below hbau4 f52
  clear f52
  have f70 := cell_below hbau4 f53
  clear f53
  have f71 := Lib.hid (f54.out.below hbau4)
  clear f54
  have f72 := Lib.hid (f55.out.below hbau4)
  clear f55
  have f73 := cell_below hbau4 f56
  clear f56
  have f74 := cell_below hbau4 f57
  clear f57
  have f75 := Lib.hid (f58.out.below hbau4)
  clear f58
  have f76 := cell_below hbau4 f59
  clear f59
  have f77 := cell_below hbau4 f60
  clear f60
  have f78 := Lib.hid (f61.out.below hbau4)
  clear f61
  have f79 := cell_below hbau4 f62
  clear f62
  have f80 := cell_below hbau4 f63
  clear f63
  have f81 := Lib.hid (R4.out.below hbau4)
  clear R4
  have hw82 : Below w.heap.size w u4 := hw64.trans (hbau4.mono hw64.size)
  have n0 := z0
  have n1 := z1
  clear z0 z1
  clear hbau4 l65 l66 l67 l68
  refine (awake_any u4 (HE.out.below hw82)).mono ?_
  rintro e w5 ⟨rfl, hb5⟩
  have f83 := cell_below hb5 f69
  clear f69
  have f84 := cell_below hb5 f70
  clear f70
  have f85 := Lib.hid (f71.out.below hb5)
  clear f71
  have f86 := Lib.hid (f72.out.below hb5)
  clear f72
  have f87 := cell_below hb5 f73
  clear f73
  have f88 := cell_below hb5 f74
  clear f74
  have f89 := Lib.hid (f75.out.below hb5)
  clear f75
  have f90 := cell_below hb5 f76
  clear f76
  have f91 := cell_below hb5 f77
  clear f77
  have f92 := Lib.hid (f78.out.below hb5)
  clear f78
  have f93 := cell_below hb5 f79
  clear f79
  have f94 := cell_below hb5 f80
  clear f80
  have f95 := Lib.hid (f81.out.below hb5)
  clear f81
  have f96 := cell_below hb5 n0
  clear n0
  have f97 := cell_below hb5 n1
  clear n1
  have hw98 : Below w.heap.size w w5 := hw82.trans (hb5.mono hw82.size)
  clear hb5
  go_wp2_with fail
  refine (empty_any false A4 n n.length w5 (HE.out.env.below hw98) f95.out HNS.out (by omega)).mono ?_
  rintro e w6 ⟨rfl, hb6⟩
  rw [HEM.out]
  have f99 := cell_below hb6 f83
  clear f83
  have f100 := cell_below hb6 f84
  clear f84
  have f101 := Lib.hid (f85.out.below hb6)
  clear f85
  have f102 := Lib.hid (f86.out.below hb6)
  clear f86
  have f103 := cell_below hb6 f87
  clear f87
  have f104 := cell_below hb6 f88
  clear f88
  have f105 := Lib.hid (f89.out.below hb6)
  clear f89
  have f106 := cell_below hb6 f90
  clear f90
  have f107 := cell_below hb6 f91
  clear f91
  have f108 := Lib.hid (f92.out.below hb6)
  clear f92
  have f109 := cell_below hb6 f93
  clear f93
  have f110 := cell_below hb6 f94
  clear f94
  have f111 := Lib.hid (f95.out.below hb6)
  clear f95
  have f112 := cell_below hb6 f96
  clear f96
  have f113 := cell_below hb6 f97
  clear f97
  have hw114 : Below w.heap.size w w6 := hw98.trans (hb6.mono hw98.size)
  clear hb6
  go_wp2_with fail
  go_loopg [7] m.length (fun kk iv wr => ∃ i : Nat, i ≤ m.length ∧ m.length - i ≤ kk ∧ iv = .int .i64 i ∧ Below w6.heap.size w6 wr)
  case atStart => exact ⟨0, by omega, by omega, rfl, Below.refl _ _⟩
  case round =>
    obtain ⟨i, hi, hik, rfl, hbel⟩ := hrel
    have hsz := hbel.size
    have f115 := cell_below hbel f99
    clear f99
    have f116 := cell_below hbel f100
    clear f100
    have f117 := Lib.hid (f101.out.below hbel)
    clear f101
    have f118 := Lib.hid (f102.out.below hbel)
    clear f102
    have f119 := cell_below hbel f103
    clear f103
    have f120 := cell_below hbel f104
    clear f104
    have f121 := Lib.hid (f105.out.below hbel)
    clear f105
    have f122 := cell_below hbel f106
    clear f106
    have f123 := cell_below hbel f107
    clear f107
    have f124 := Lib.hid (f108.out.below hbel)
    clear f108
    have f125 := cell_below hbel f109
    clear f109
    have f126 := cell_below hbel f110
    clear f110
    have f127 := Lib.hid (f111.out.below hbel)
    clear f111
    have f128 := cell_below hbel f112
    clear f112
    have f129 := cell_below hbel f113
    clear f113
    by_cases hlt : i < m.length
    · obtain ⟨b, off, hbe, hx0⟩ := (f121.out).at_ hlt
      subst hbe
      have g0 : wr.cell? ⟨b, off + i, none⟩ = some (encStr (m[i]'hlt)) := by have := hx0.get 0 (v := encStr (m[i]'hlt)) rfl; simpa using this
      obtain ⟨b', off', hbe, hx1⟩ := (f124.out).at_ hlt
      subst hbe
      have g1 : wr.cell? ⟨b', off' + i, none⟩ = some (encStr (m[i]'hlt)) := by have := hx1.get 0 (v := encStr (m[i]'hlt)) rfl; simpa using this
      generalize m[i]'hlt = x at *
      clear hx0 hx1
      have i0 : (0 : Int) ≤ (i : Int) := by omega
      have i1 : (i : Int) < (m.length : Int) := by omega
      have hxx : (x == x) = true := by simp
      go_wp2_with fail
      go_quiet (fail)
      go_wp2_with fail
      go_roundg (m.length - (i + 1))
      case measure => omega
      case rel => exact ⟨i + 1, by omega, by omega, by go_num, (by repeat' (first | (with_reducible exact Below.refl _ _) | (with_reducible assumption) | (with_reducible refine Below.drew ?_) | (with_reducible refine below_drewN ?_ _) | (with_reducible refine below_iterAt ?_ ?_ _ _) | (with_reducible refine below_iter ?_ ?_ _ _) | (with_reducible refine Below.alloc ?_ ?_ _) | (with_reducible refine Below.setCell ?_ ?_ _) | (with_reducible refine Below.trans ?_ (Below.mono (by assumption) ?_)) | (simp only [sz_alloc, sz_set, sz_drew, sz_drewN, sz_iterAt, sz_iter] at *; omega) | omega | (simp; done) | (simp; omega) | (apply Below.size; assumption) | (simp only [sz_drew, sz_drewN]; apply Below.size; assumption) | (refine Nat.le_trans ?_ (Below.size (by assumption)))))⟩
    · have i1 : ¬ ((i : Int) < (m.length : Int)) := by omega
      go_wp2_with fail
      go_ret
      exact ⟨ret_bool rfl, hw114.trans (hbel.mono hw114.size)⟩
end Go.Proofs.YtgbapmhdhbfhnaaDoor
