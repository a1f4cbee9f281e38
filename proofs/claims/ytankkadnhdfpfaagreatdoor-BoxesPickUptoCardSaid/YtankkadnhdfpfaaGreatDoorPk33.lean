import Derived.Test.YtankkadnhdfpfaaGreatDoorPk18
import Derived.Test.YtankkadnhdfpfaaGreatDoorPk32
import Derived.Lib.AppendZeros
/- slices.Grow from nil, Concat of two rows of spans. -/
set_option linter.unusedSimpArgs false
set_option linter.unusedVariables false
namespace Go.Proofs.YtankkadnhdfpfaaGreatDoor.Sp
open Go.RowKit Go.Sort Go.Lib

theorem infoSp : ∃ i0, Tryz.prog.info? 86 = some i0 ∧ i0.zero = some (.agg #[.int .i64 0, .int .i64 0]) ∧ i0.size = 2 ∧ i0.bytes = 16 := by
  obtain ⟨i0, h1, h2, h3, h4⟩ := info_parts (show (Tryz.prog.info? 86).map (fun i => (i.zero, i.size, i.bytes)) = some (some (.agg #[.int .i64 0, .int .i64 0]), 2, 16) by kernel_rfl)
  exact ⟨i0, h1, h2, h3, h4⟩
theorem spC_len : ∀ (l : List Sp), ∀ c ∈ l.map spC, c.length = 2 := by intro l c hc; obtain ⟨x, _, rfl⟩ := List.mem_map.1 hc; rfl
theorem news_ofS {w : World} {b off : Nat} {l : List Sp} (hr : RdL w 2 (some ⟨b, off, none⟩) (l.map spC)) (j : Nat) (v : Value) (h : (l.flatMap spC)[j]? = some v) : w.cell? ((⟨b, off, none⟩ : Addr).add j) = some v :=
  rd_flat hr (spC_len l) (by decide) j v (by rw [← List.flatMap_def]; exact h)
theorem flat_one (l : List Sp) : ∀ u ∈ l.flatMap spC, u.oneCell' = true := by
  intro u hu
  obtain ⟨x, _, hx⟩ := List.mem_flatMap.1 hu
  simp [spC] at hx
  rcases hx with rfl | rfl <;> rfl
def RoomS (w : World) (base : Nat) (v : Value) (l : List Sp) (n : Nat) : Prop :=
  (n = 0 ∧ l = [] ∧ v = .slice none 0 0) ∨ ∃ g cap, v = .slice (some ⟨g, 0, none⟩) l.length cap ∧ n ≤ cap ∧ w.ownsRow base 86 2 v l.length (l.flatMap spC)

set_option maxRecDepth 100000 in
set_option maxHeartbeats 800000 in
theorem growS0 (w : World) : Calls Tryz.prog 161 #[.slice none 0 0, .int .i64 0] w fun e w' => e = .returned (.slice none 0 0) ∧ w = w' := by
  go_enter Tryz.func161, Tryz.ntmps161
  go_wp2_with fail
  go_ret
  exact ⟨rfl, rfl⟩
set_option maxRecDepth 100000 in
set_option maxHeartbeats 800000 in
theorem growS1 (n : Nat) (w : World) (h0 : 0 < n) (hn : n * 16 ≤ 281474976710656) :
    Calls Tryz.prog 161 #[.slice none 0 0, .int .i64 n] w fun e w' => ∃ cap, e = .returned (.slice (some ⟨w.heap.size, 0, none⟩) 0 cap) ∧ n ≤ cap ∧ w'.ownsRow w.heap.size 86 2 (.slice (some ⟨w.heap.size, 0, none⟩) 0 cap) 0 [] ∧ Below w.heap.size w w' := by
  obtain ⟨i0, hinf, hz, hsz, hby⟩ := infoSp
  have HB : Hid (n * i0.bytes ≤ 281474976710656) := Lib.hid (by rw [hby]; exact hn)
  have HSZ : Hid (0 < i0.size) := Lib.hid (by omega)
  have hw : IntKind.i64.wrap (n : Int) = n := IntWalk.i64_in _ (by omega)
  have e1 : ¬ (n : Int) < 0 := by omega
  have e2 : (0 : Int) < (n : Int) := by omega
  have HM : Hid ((n : Int) ≤ 9223372036854775807) := Lib.hid (by omega)
  clear hn
  go_enter Tryz.func161, Tryz.ntmps161
  go_wp2_with (at_builtin; refine Lib.wpList_append_run _ rfl _ _ _ _ rfl _ _ rfl rfl _ _ (run_append_nil_zeros _ 31 3 _ 86 i0 (.agg #[.int .i64 0, .int .i64 0]) .i64 .i64 Tryz.underlying31 Tryz.underlying3 hinf hz n h0 HSZ.out HM.out HB.out) ?_)
  have hge := grownCap_ge w n 0 86
  have hle := grownCap_le_maxLen w n 0 86 (by have := HM.out; unfold maxLen; omega)
  generalize grownCap w n 0 86 = cap at *
  obtain ⟨Z, hZ⟩ : ∃ Z, Builtin.zeroCells #[Value.int .i64 0, Value.int .i64 0] n ++ Builtin.zeroCells #[Value.int .i64 0, Value.int .i64 0] (cap - n) = Z := ⟨_, rfl⟩
  rw [hZ]
  have hZs : Z.size = cap * 2 := by rw [← hZ]; simp [size_zeroCells]; omega
  have hb2 : (w.alloc (.cells Z 86)).drew.heap[w.heap.size]? = some (.cells Z 86) := heap_alloc_new w _
  have hbw : Below w.heap.size w (w.alloc (.cells Z 86)).drew := bel
  have hown : (w.alloc (.cells Z 86)).drew.ownsRow w.heap.size 86 2 (.slice (some ⟨w.heap.size, 0, none⟩) 0 cap) 0 [] :=
    ⟨rfl, .inr ⟨w.heap.size, cap, Z, rfl, Nat.le_refl _, hb2, Nat.zero_le _, hle, by omega, rfl⟩⟩
  generalize (w.alloc (.cells Z 86)).drew = w9 at *
  refine bodyPost_ret (v := .slice (some ⟨w.heap.size, 0, none⟩) 0 cap) (by simp [results, Tryz.results161, go_sem]) rfl ⟨cap, rfl, hge, hown, hbw⟩

set_option maxRecDepth 100000 in
theorem appendS (base : Nat) (v : Value) (acc l : List Sp) (A : Option Addr) (c n : Nat) (ty : TypeId) (w : World) (hb : base ≤ w.heap.size) (hv : RoomS w base v acc n) (hr : RdL w 2 A (l.map spC)) (hn : acc.length + l.length ≤ n) :
    ∃ v' w', (Builtin.append_ #[31, 31] ty #[v, .slice A l.length c]).run Tryz.prog w = .ok v' w' ∧ RoomS w' base v' (acc ++ l) n ∧ Below base w w' := by
  obtain ⟨i0, hinf, hz, hsz, hby⟩ := infoSp
  have ht := Tryz.underlying31
  by_cases hl : l = []
  · subst hl
    rcases hv with ⟨rfl, rfl, rfl⟩ | ⟨g, cap, rfl, h1, h2⟩
    · refine ⟨.slice none 0 0, w, ?_, .inl ⟨rfl, rfl, rfl⟩, Below.refl _ _⟩
      cases A <;> simp [Builtin.append_, run_underlying ht, sizeOf, typeInfo, hinf, Builtin.lenOf, Builtin.firstCells, loadCells, loadCellsFrom]
    · cases A with
      | none => exact ⟨_, w, run_append_owned_none (P := Tryz.prog) w base _ ty _ i0 2 ht hinf _ _ _ h2, .inr ⟨g, cap, by rw [List.append_nil], h1, by rw [List.append_nil]; exact h2⟩, Below.refl _ _⟩
      | some a =>
        obtain ⟨w', hrun, ho, hg⟩ := run_append_fits (P := Tryz.prog) w base 31 ty 86 i0 2 ht hinf hsz g acc.length cap (acc.flatMap spC) h2 a 0 c [] (by simp) (by simp) (by simp) (by
          rcases h2.2 with ⟨h, _⟩ | ⟨g', cap', cur, h, _, _, hnc, _⟩
          · cases h
          · injection h with _ _ h3; omega)
        refine ⟨_, w', hrun, .inr ⟨g, cap, by simp, h1, by simpa using ho⟩, (Below.refl _ w).grown hg hb (fun k hk => by cases hk; exact (h2.lt _ rfl).1)⟩
  · have hl0 := List.length_pos_iff.2 hl
    obtain ⟨b, off, rfl, _⟩ := hr.at_ hl0
    rcases hv with ⟨rfl, rfl, rfl⟩ | ⟨g, cap, rfl, h1, h2⟩
    · exact absurd (show l = [] by simpa using hn) hl
    · obtain ⟨w', hrun, ho, hg⟩ := run_append_fits (P := Tryz.prog) w base 31 ty 86 i0 2 ht hinf hsz g acc.length cap (acc.flatMap spC) h2 ⟨b, off, none⟩ l.length c (l.flatMap spC) (flat_len l) (news_ofS hr) (flat_one l) (by omega)
      refine ⟨_, w', hrun, .inr ⟨g, cap, by rw [List.length_append], h1, ?_⟩, ?_⟩
      · rw [List.length_append, List.flatMap_append]; exact ho
      · exact (Below.refl _ w).grown hg hb (fun k hk => by cases hk; exact (h2.lt _ rfl).1)

theorem growS (n : Nat) (w : World) (hn : n * 16 ≤ 281474976710656) :
    Calls Tryz.prog 161 #[.slice none 0 0, .int .i64 n] w fun e w' => ∃ v, e = .returned v ∧ RoomS w' w.heap.size v [] n ∧ Below w.heap.size w w' := by
  by_cases h0 : n = 0
  · subst h0
    refine (growS0 w).mono ?_
    rintro e w' ⟨rfl, rfl⟩
    exact ⟨_, rfl, .inl ⟨rfl, rfl, rfl⟩, Below.refl _ _⟩
  · refine (growS1 n w (by omega) hn).mono ?_
    rintro e w' ⟨cap, rfl, h1, h2, h3⟩
    exact ⟨_, rfl, .inr ⟨w.heap.size, cap, rfl, h1, h2⟩, h3⟩
def twoS (la lb : List Sp) : Nat → List Sp
  | 0 => []
  | 1 => la
  | _ => la ++ lb
set_option maxRecDepth 100000 in
set_option maxHeartbeats 1600000 in
theorem concatS (B : Nat) (A D : Option Addr) (la lb : List Sp) (ca cb : Nat) (w : World) (p0 : w.cell? ⟨B, 0, none⟩ = some (.slice A la.length ca)) (p1 : w.cell? ⟨B, 1, none⟩ = some (.slice D lb.length cb)) (hA : RdL w 2 A (la.map spC)) (hB : RdL w 2 D (lb.map spC)) (hn : (la.length + lb.length) * 16 ≤ 281474976710656) :
    Calls Tryz.prog 136 #[.slice (some ⟨B, 0, none⟩) 2 2] w fun e w' => ∃ A' c', e = .returned (.slice A' (la ++ lb).length c') ∧ RdL w' 2 A' ((la ++ lb).map spC) ∧ Below w.heap.size w w' := by
  have HA := Lib.hid hA
  have HB := Lib.hid hB
  clear hA hB
  have hw1 : IntKind.i64.wrap (la.length : Int) = la.length := IntWalk.i64_in _ (by omega)
  have hw2 : IntKind.i64.wrap ((la.length : Int) + (lb.length : Int)) = (la.length : Int) + (lb.length : Int) := IntWalk.i64_in _ (by omega)
  have hn1 : ¬ ((la.length : Int) < 0) := by omega
  have hn2 : ¬ ((la.length : Int) + (lb.length : Int) < 0) := by omega
  go_enter Tryz.func136, Tryz.ntmps136
  go_wp2_with fail
  go_loopg [3, 11] 2 (fun k sv iv wr => ∃ j : Nat, j ≤ 2 ∧ 2 - j ≤ k ∧ iv = .int .i64 j ∧ sv = .int .i64 ((twoS la lb j).length : Nat) ∧ w = wr)
  case atStart => exact ⟨0, by omega, by omega, rfl, rfl, rfl⟩
  case round =>
    obtain ⟨j, hj, hjk, rfl, rfl, rfl⟩ := hrel
    match j, hj with
    | 0, _ =>
      simp only [twoS, List.length_nil, Int.natCast_zero] at *
      go_wp2_with fail
      go_roundg 1
      case measure => omega
      case rel => exact ⟨1, by omega, by omega, by go_num, rfl, rfl⟩
    | 1, _ =>
      simp only [twoS, Int.natCast_one] at *
      go_wp2_with fail
      go_roundg 0
      case measure => omega
      case rel => exact ⟨2, by omega, by omega, by go_num, by simp [twoS], rfl⟩
    | 2, _ =>
      obtain ⟨N, hN⟩ : ∃ N, (twoS la lb 2).length = N := ⟨_, rfl⟩
      have hN2 : la.length + lb.length = N := by rw [← hN]; simp [twoS]
      rw [hN]
      clear hw1 hw2 hn1 hn2 hN
      go_wp2_with fail
      refine (growS N w (by omega)).mono ?_
      rintro e w1 ⟨v0, rfl, hv0, hb1⟩
      have hz1 := hb1.size
      have HV := Lib.hid hv0
      clear hv0
      go_wp2_with fail
      go_loopg [6, 27] 2 (fun k v iv wr => ∃ j : Nat, j ≤ 2 ∧ 2 - j ≤ k ∧ iv = .int .i64 j ∧ Hid (RoomS wr w.heap.size v (twoS la lb j) N) ∧ Below w.heap.size w wr)
      case atStart => exact ⟨0, by omega, by omega, rfl, HV, hb1⟩
      case round =>
        clear HV hb1 hz1 hj hjk
        obtain ⟨j, hj, hjk, rfl, HV, hbel⟩ := hrel
        have hz := hbel.size
        have q0 := cell_below hbel p0
        have q1 := cell_below hbel p1
        match j, hj with
        | 0, _ =>
          obtain ⟨v', w', hrun, hrm, hbl⟩ := appendS w.heap.size _ _ la A ca N 31 wr hz HV.out (HA.out.below hbel) (by simp [twoS]; omega)
          have HRM : Hid (RoomS w' w.heap.size v' (twoS la lb 1) N) := Lib.hid (by simpa [twoS] using hrm)
          have HRUN := Lib.hid hrun
          have hb' : Below w.heap.size w w' := hbel.trans hbl
          clear hrm hrun hbl HV
          go_wp2_with (first
            | (at_builtin; refine Lib.wpList_append_run _ rfl _ _ _ _ rfl _ _ rfl rfl _ _ HRUN.out ?_)
            | fail)
          go_roundg 1
          case measure => omega
          case rel => exact ⟨1, by omega, by omega, by go_num, HRM, hb'⟩
        | 1, _ =>
          obtain ⟨v', w', hrun, hrm, hbl⟩ := appendS w.heap.size _ _ lb D cb N 31 wr hz HV.out (HB.out.below hbel) (by simp [twoS]; omega)
          have HRM : Hid (RoomS w' w.heap.size v' (twoS la lb 2) N) := Lib.hid (by simpa [twoS] using hrm)
          have HRUN := Lib.hid hrun
          have hb' : Below w.heap.size w w' := hbel.trans hbl
          clear hrm hrun hbl HV
          go_wp2_with (first
            | (at_builtin; refine Lib.wpList_append_run _ rfl _ _ _ _ rfl _ _ rfl rfl _ _ HRUN.out ?_)
            | fail)
          go_roundg 0
          case measure => omega
          case rel => exact ⟨2, by omega, by omega, by go_num, HRM, hb'⟩
        | 2, _ =>
          rcases HV.out with ⟨h1, h2, rfl⟩ | ⟨g, cap, rfl, h1, h2⟩
          · have hl : la ++ lb = [] := h2
            go_wp2_with fail
            refine bodyPost_ret (v := .slice none 0 0) (by simp [results, Tryz.results136, go_sem]) rfl ⟨none, 0, by rw [hl]; rfl, by rw [hl]; exact RdL.nil_ _ _ _, hbel⟩
          · obtain ⟨A', c', e, hrd⟩ := own_rd (css := (twoS la lb 2).map spC) h2 (by rw [List.flatMap_def]) (spC_len _) (by simp)
            have hl : twoS la lb 2 = la ++ lb := rfl
            rw [hl] at e hrd ⊢
            rw [e]
            have HRD := Lib.hid hrd
            clear hrd h2 HV e hl h1
            go_wp2_with fail
            refine bodyPost_ret (v := .slice A' (la ++ lb).length c') (by simp [results, Tryz.results136, go_sem]) rfl ⟨A', c', rfl, HRD.out, hbel⟩
end Go.Proofs.YtankkadnhdfpfaaGreatDoor.Sp
