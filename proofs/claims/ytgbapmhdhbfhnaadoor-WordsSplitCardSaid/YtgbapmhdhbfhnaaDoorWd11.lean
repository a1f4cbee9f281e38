/- slices.Grow from nil, Concat of two rows of texts. -/
import Derived.Test.YtgbapmhdhbfhnaaDoorWd10
set_option linter.unusedSimpArgs false
set_option linter.unusedVariables false
namespace Go.Proofs.YtgbapmhdhbfhnaaDoor
open Go.RowKit Go.Sort Go.Lib

/-- a row of one's own with room for so many -/
def RoomT (w : World) (base : Nat) (v : Value) (l : List Tx) (n : Nat) : Prop :=
  (n = 0 ∧ l = [] ∧ v = .slice none 0 0) ∨ ∃ g cap, v = .slice (some ⟨g, 0, none⟩) l.length cap ∧ n ≤ cap ∧ w.ownsRow base 9 1 v l.length (l.map encStr)

set_option maxRecDepth 100000 in
set_option maxHeartbeats 800000 in
theorem grow0_any (w : World) : Calls Tryd.prog 38 #[.slice none 0 0, .int .i64 0] w fun e w' => e = .returned (.slice none 0 0) ∧ w = w' := by
  go_enter Tryd.func38, Tryd.ntmps38
  go_wp2_with fail
  go_ret
  exact ⟨rfl, rfl⟩
set_option maxRecDepth 100000 in
set_option maxHeartbeats 800000 in
theorem grow_any (n : Nat) (w : World) (h0 : 0 < n) (hn : n * 16 ≤ 281474976710656) :
    Calls Tryd.prog 38 #[.slice none 0 0, .int .i64 n] w fun e w' => ∃ cap, e = .returned (.slice (some ⟨w.heap.size, 0, none⟩) 0 cap) ∧ n ≤ cap ∧ w'.ownsRow w.heap.size 9 1 (.slice (some ⟨w.heap.size, 0, none⟩) 0 cap) 0 [] ∧ Below w.heap.size w w' := by
  obtain ⟨i0, hinf, hz, hsz, hby⟩ := infoStr
  have HB : Hid (n * i0.bytes ≤ 281474976710656) := Lib.hid (by rw [hby]; exact hn)
  have HSZ : Hid (0 < i0.size) := Lib.hid (by omega)
  have hw : IntKind.i64.wrap (n : Int) = n := IntWalk.i64_in _ (by omega)
  have e1 : ¬ (n : Int) < 0 := by omega
  have e2 : (0 : Int) < (n : Int) := by omega
  have HM : Hid ((n : Int) ≤ 9223372036854775807) := Lib.hid (by omega)
  clear hn
  go_enter Tryd.func38, Tryd.ntmps38
  go_wp2_with (at_builtin; refine Lib.wpList_append_run _ rfl _ _ _ _ rfl _ _ rfl rfl _ _ (run_append_nil_zeros _ 22 3 _ 9 i0 (.string ⟨#[]⟩) .i64 .i64 Tryd.underlying22 Tryd.underlying3 hinf hz n h0 HSZ.out HM.out HB.out) ?_)
  have hge := grownCap_ge w n 0 9
  have hle := grownCap_le_maxLen w n 0 9 (by have := HM.out; unfold maxLen; omega)
  generalize grownCap w n 0 9 = cap at *
  obtain ⟨Z, hZ⟩ : ∃ Z, Builtin.zeroCells #[Value.string ⟨#[]⟩] n ++ Builtin.zeroCells #[Value.string ⟨#[]⟩] (cap - n) = Z := ⟨_, rfl⟩
  rw [hZ]
  have hZs : Z.size = cap := by rw [← hZ]; simp [size_zeroCells]; omega
  have hb2 : (w.alloc (.cells Z 9)).drew.heap[w.heap.size]? = some (.cells Z 9) := heap_alloc_new w _
  have hbw : Below w.heap.size w (w.alloc (.cells Z 9)).drew := (by repeat' (first | (with_reducible exact Below.refl _ _) | (with_reducible assumption) | (with_reducible refine Below.drew ?_) | (with_reducible refine below_drewN ?_ _) | (with_reducible refine below_iterAt ?_ ?_ _ _) | (with_reducible refine below_iter ?_ ?_ _ _) | (with_reducible refine Below.alloc ?_ ?_ _) | (with_reducible refine Below.setCell ?_ ?_ _) | (with_reducible refine Below.trans ?_ (Below.mono (by assumption) ?_)) | (simp only [sz_alloc, sz_set, sz_drew, sz_drewN, sz_iterAt, sz_iter] at *; omega) | omega | (simp; done) | (simp; omega) | (apply Below.size; assumption) | (simp only [sz_drew, sz_drewN]; apply Below.size; assumption) | (refine Nat.le_trans ?_ (Below.size (by assumption)))))
  have hown : (w.alloc (.cells Z 9)).drew.ownsRow w.heap.size 9 1 (.slice (some ⟨w.heap.size, 0, none⟩) 0 cap) 0 [] :=
    ⟨rfl, .inr ⟨w.heap.size, cap, Z, rfl, Nat.le_refl _, hb2, Nat.zero_le _, hle, by omega, rfl⟩⟩
  generalize (w.alloc (.cells Z 9)).drew = w9 at *
  refine bodyPost_ret (v := .slice (some ⟨w.heap.size, 0, none⟩) 0 cap) (by simp [results, Tryd.results38, go_sem]) rfl ⟨cap, rfl, hge, hown, hbw⟩

theorem appendT (base : Nat) (v : Value) (acc l : List Tx) (A : Option Addr) (c n : Nat) (ty : TypeId) (w : World) (hb : base ≤ w.heap.size) (hv : RoomT w base v acc n) (hr : RdL w 1 A (l.map tC)) (hn : acc.length + l.length ≤ n) :
    ∃ v' w', (Builtin.append_ #[22, 22] ty #[v, .slice A l.length c]).run Tryd.prog w = .ok v' w' ∧ RoomT w' base v' (acc ++ l) n ∧ Below base w w' := by
  obtain ⟨i0, hinf, hz, hsz, hby⟩ := infoStr
  have ht := Tryd.underlying22
  by_cases hl : l = []
  · subst hl
    rcases hv with ⟨rfl, rfl, rfl⟩ | ⟨g, cap, rfl, h1, h2⟩
    · refine ⟨.slice none 0 0, w, ?_, .inl ⟨rfl, rfl, rfl⟩, Below.refl _ _⟩
      cases A <;> simp [Builtin.append_, run_underlying ht, sizeOf, typeInfo, hinf, Builtin.lenOf, Builtin.firstCells, loadCells, loadCellsFrom]
    · cases A with
      | none => exact ⟨_, w, run_append_owned_none (P := Tryd.prog) w base _ ty _ i0 1 ht hinf _ _ _ h2, .inr ⟨g, cap, by rw [List.append_nil], h1, by rw [List.append_nil]; exact h2⟩, Below.refl _ _⟩
      | some a =>
        obtain ⟨w', hrun, ho, hg⟩ := run_append_fits (P := Tryd.prog) w base 22 ty 9 i0 1 ht hinf hsz g acc.length cap (acc.map encStr) h2 a 0 c [] (by simp) (by simp) (by simp) (by
          rcases h2.2 with ⟨h, _⟩ | ⟨g', cap', cur, h, _, _, hnc, _⟩
          · cases h
          · injection h with _ _ h3; omega)
        refine ⟨_, w', hrun, .inr ⟨g, cap, by simp, h1, by simpa using ho⟩, (Below.refl _ w).grown hg hb (fun k hk => by cases hk; exact (h2.lt _ rfl).1)⟩
  · obtain ⟨b, off, rfl, _⟩ := cellsOf_rd hr hl
    have hl0 := List.length_pos_iff.2 hl
    rcases hv with ⟨rfl, rfl, rfl⟩ | ⟨g, cap, rfl, h1, h2⟩
    · exact absurd (show l = [] by simpa using hn) hl
    · obtain ⟨w', hrun, ho, hg⟩ := run_append_fits (P := Tryd.prog) w base 22 ty 9 i0 1 ht hinf hsz g acc.length cap (acc.map encStr) h2 ⟨b, off, none⟩ l.length c (l.map encStr) (by simp) (news_of hr) (by intro u hu; obtain ⟨x, _, rfl⟩ := List.mem_map.1 hu; rfl) (by omega)
      refine ⟨_, w', hrun, .inr ⟨g, cap, by rw [List.length_append], h1, ?_⟩, ?_⟩
      · rw [List.length_append, List.map_append]; exact ho
      · exact (Below.refl _ w).grown hg hb (fun k hk => by cases hk; exact (h2.lt _ rfl).1)

theorem growT (n : Nat) (w : World) (hn : n * 16 ≤ 281474976710656) :
    Calls Tryd.prog 38 #[.slice none 0 0, .int .i64 n] w fun e w' => ∃ v, e = .returned v ∧ RoomT w' w.heap.size v [] n ∧ Below w.heap.size w w' := by
  by_cases h0 : n = 0
  · subst h0
    refine (grow0_any w).mono ?_
    rintro e w' ⟨rfl, rfl⟩
    exact ⟨_, rfl, .inl ⟨rfl, rfl, rfl⟩, Below.refl _ _⟩
  · refine (grow_any n w (by omega) hn).mono ?_
    rintro e w' ⟨cap, rfl, h1, h2, h3⟩
    exact ⟨_, rfl, .inr ⟨w.heap.size, cap, rfl, h1, h2⟩, h3⟩
/-- the two rows, so far -/
def twoR (la lb : List Tx) : Nat → List Tx
  | 0 => []
  | 1 => la
  | _ => la ++ lb
set_option maxRecDepth 100000 in
set_option maxHeartbeats 1600000 in
theorem concat_any (B : Nat) (A D : Option Addr) (la lb : List Tx) (ca cb : Nat) (w : World) (p0 : w.cell? ⟨B, 0, none⟩ = some (.slice A la.length ca)) (p1 : w.cell? ⟨B, 1, none⟩ = some (.slice D lb.length cb)) (hA : RdL w 1 A (la.map tC)) (hB : RdL w 1 D (lb.map tC)) (hn : (la.length + lb.length) * 16 ≤ 281474976710656) :
    Calls Tryd.prog 29 #[.slice (some ⟨B, 0, none⟩) 2 2] w fun e w' => ∃ A' c', e = .returned (.slice A' (la ++ lb).length c') ∧ RdL w' 1 A' ((la ++ lb).map tC) ∧ Below w.heap.size w w' := by
  have HA := Lib.hid hA
  have HB := Lib.hid hB
  clear hA hB
  have hw1 : IntKind.i64.wrap (la.length : Int) = la.length := IntWalk.i64_in _ (by omega)
  have hw2 : IntKind.i64.wrap ((la.length : Int) + (lb.length : Int)) = (la.length : Int) + (lb.length : Int) := IntWalk.i64_in _ (by omega)
  have hn1 : ¬ ((la.length : Int) < 0) := by omega
  have hn2 : ¬ ((la.length : Int) + (lb.length : Int) < 0) := by omega
  go_enter Tryd.func29, Tryd.ntmps29
  go_wp2_with fail
  go_loopg [3, 11] 2 (fun k sv iv wr => ∃ j : Nat, j ≤ 2 ∧ 2 - j ≤ k ∧ iv = .int .i64 j ∧ sv = .int .i64 ((twoR la lb j).length : Nat) ∧ w = wr)
  case atStart => exact ⟨0, by omega, by omega, rfl, rfl, rfl⟩
  case round =>
    obtain ⟨j, hj, hjk, rfl, rfl, rfl⟩ := hrel
    match j, hj with
    | 0, _ =>
      simp only [twoR, List.length_nil, Int.natCast_zero] at *
      go_wp2_with fail
      go_roundg 1
      case measure => omega
      case rel => exact ⟨1, by omega, by omega, by go_num, rfl, rfl⟩
    | 1, _ =>
      simp only [twoR, Int.natCast_one] at *
      go_wp2_with fail
      go_roundg 0
      case measure => omega
      case rel => exact ⟨2, by omega, by omega, by go_num, by simp [twoR], rfl⟩
    | 2, _ =>
      obtain ⟨N, hN⟩ : ∃ N, (twoR la lb 2).length = N := ⟨_, rfl⟩
      have hN2 : la.length + lb.length = N := by rw [← hN]; simp [twoR]
      rw [hN]
      clear hw1 hw2 hn1 hn2 hN
      go_wp2_with fail
      refine (growT N w (by omega)).mono ?_
      rintro e w1 ⟨v0, rfl, hv0, hb1⟩
      have hz1 := hb1.size
      have HV := Lib.hid hv0
      clear hv0
      go_wp2_with fail
      go_loopg [6, 27] 2 (fun k v iv wr => ∃ j : Nat, j ≤ 2 ∧ 2 - j ≤ k ∧ iv = .int .i64 j ∧ Hid (RoomT wr w.heap.size v (twoR la lb j) N) ∧ Below w.heap.size w wr)
      case atStart => exact ⟨0, by omega, by omega, rfl, HV, hb1⟩
      case round =>
        clear HV hb1 hz1 hj hjk
        obtain ⟨j, hj, hjk, rfl, HV, hbel⟩ := hrel
        have hz := hbel.size
        have q0 := cell_below hbel p0
        have q1 := cell_below hbel p1
        match j, hj with
        | 0, _ =>
          obtain ⟨v', w', hrun, hrm, hbl⟩ := appendT w.heap.size _ _ la A ca N 22 wr hz HV.out (HA.out.below hbel) (by simp [twoR]; omega)
          have HRM : Hid (RoomT w' w.heap.size v' (twoR la lb 1) N) := Lib.hid (by simpa [twoR] using hrm)
          have HRUN := Lib.hid hrun
          have hb' : Below w.heap.size w w' := hbel.trans hbl
          clear hrm hrun hbl HV
          go_wp2_with (first
            | (at_builtin; refine Lib.wpList_append_run _ rfl _ _ _ _ rfl _ _ rfl rfl _ _ HRUN.out ?_)
            | fail)
          go_roundg 1
          case measure => omega
          case rel => exact ⟨1, by omega, by omega, by go_num, HRM, hb'⟩
        | 1, _ =>
          obtain ⟨v', w', hrun, hrm, hbl⟩ := appendT w.heap.size _ _ lb D cb N 22 wr hz HV.out (HB.out.below hbel) (by simp [twoR]; omega)
          have HRM : Hid (RoomT w' w.heap.size v' (twoR la lb 2) N) := Lib.hid (by simpa [twoR] using hrm)
          have HRUN := Lib.hid hrun
          have hb' : Below w.heap.size w w' := hbel.trans hbl
          clear hrm hrun hbl HV
          go_wp2_with (first
            | (at_builtin; refine Lib.wpList_append_run _ rfl _ _ _ _ rfl _ _ rfl rfl _ _ HRUN.out ?_)
            | fail)
          go_roundg 0
          case measure => omega
          case rel => exact ⟨2, by omega, by omega, by go_num, HRM, hb'⟩
        | 2, _ =>
          rcases HV.out with ⟨h1, h2, rfl⟩ | ⟨g, cap, rfl, h1, h2⟩
          · have hl : la ++ lb = [] := h2
            go_wp2_with fail
            refine bodyPost_ret (v := .slice none 0 0) (by simp [results, Tryd.results29, go_sem]) rfl ⟨none, 0, by rw [hl]; rfl, by rw [hl]; exact RdL.nil_ _ _ _, hbel⟩
          · obtain ⟨A', c', e, hrd⟩ := own_rdT h2
            have hl : twoR la lb 2 = la ++ lb := rfl
            rw [hl] at e hrd ⊢
            rw [e]
            have HRD := Lib.hid hrd
            clear hrd h2 HV e hl h1
            go_wp2_with fail
            refine bodyPost_ret (v := .slice A' (la ++ lb).length c') (by simp [results, Tryd.results29, go_sem]) rfl ⟨A', c', rfl, HRD.out, hbel⟩
end Go.Proofs.YtgbapmhdhbfhnaaDoor
