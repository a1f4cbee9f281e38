import Derived.Test.YtankkadnhdfpfaaGreatDoorPk36
import Derived.Test.YtankkadnhdfpfaaGreatDoorPk27
import Derived.Test.YtankkadnhdfpfaaGreatDoorPk01
/- soffitlaw15.nearest: walked. -/
set_option linter.unusedSimpArgs false
set_option linter.unusedVariables false
namespace Go.Proofs.YtankkadnhdfpfaaGreatDoor
open Go.RowKit Sp Wd

set_option maxRecDepth 100000 in
set_option maxHeartbeats 6400000 in
theorem nearest_b (t : Ty) (m : St) (v : Vl) (T A B : Option Addr) (ct ca cb : Nat) (w : World) (hk : t.k = 3) (h : v.i = 0 ∨ (v.i ≠ 0 ∧ m.b = 2)) :
    Calls Tryz.prog 44 #[.agg #[.int .i64 t.k, .int .i64 t.sc, .bool t.c.any, .bool t.c.neg, .slice T t.c.ts.length ct], .agg #[.int .i64 m.k, .slice A m.sp.length ca, .bool m.al, .slice B m.ws.length cb, .int .i64 m.b, .bool m.nul], .agg #[.int .i64 v.k, .int .i64 v.n, .int .i64 v.s, .string v.t, .int .i64 v.i]] w fun e w' => e = .returned (.bool true) ∧ Below w.heap.size w w' := by
  have e3 : (t.k == 3) = true := by simp [hk]
  rcases h with h | ⟨h, h2⟩
  · have e1 : (v.i == 0) = true := by simp [h]
    clear hk h
    go_enter Tryz.func44, Tryz.ntmps44
    go_wp2_with fail
    go_ret
    exact ⟨ret_bool (by simp), bel⟩
  · have e1 : (v.i == 0) = false := by simp [h]
    have e2 : (m.b == 2) = true := by simp [h2]
    clear hk h h2
    go_enter Tryz.func44, Tryz.ntmps44
    go_wp2_with fail
    go_ret
    exact ⟨ret_bool (by simp), bel⟩
set_option maxRecDepth 100000 in
set_option maxHeartbeats 6400000 in
theorem nearest_t (t : Ty) (m : St) (v : Vl) (T A B : Option Addr) (ct ca cb : Nat) (w : World) (hk : t.k = 2) :
    Calls Tryz.prog 44 #[.agg #[.int .i64 t.k, .int .i64 t.sc, .bool t.c.any, .bool t.c.neg, .slice T t.c.ts.length ct], .agg #[.int .i64 m.k, .slice A m.sp.length ca, .bool m.al, .slice B m.ws.length cb, .int .i64 m.b, .bool m.nul], .agg #[.int .i64 v.k, .int .i64 v.n, .int .i64 v.s, .string v.t, .int .i64 v.i]] w fun e w' => e = .returned (.bool true) ∧ Below w.heap.size w w' := by
  have e3 : (t.k == 3) = false := by simp [hk]
  have e2 : (t.k == 2) = true := by simp [hk]
  clear hk
  go_enter Tryz.func44, Tryz.ntmps44
  go_wp2_with fail
  go_ret
  exact ⟨rfl, bel⟩
/-- a number of a span, as near as may be: it does not beat n -/
def NoBet (c n x : Int) : Prop := ¬ (farI x c < farI n c ∨ (farI x c = farI n c ∧ x < n))
def Bd12 (x : Int) : Prop := -999999999999 ≤ x ∧ x ≤ 999999999999
set_option maxRecDepth 100000 in
set_option maxHeartbeats 6400000 in
theorem nearest_n (t : Ty) (m : St) (v : Vl) (n : Int) (T A B : Option Addr) (ct ca cb : Nat) (w : World) (hk : t.k = 1) (hS : StAt w m A B) (hl : m.sp.length ≤ 9223372036854775807) (hv : v.wf) (hn : unitsR t.sc v = n) (hb : Bd12 n)
    (hsp : ∀ s ∈ m.sp, s.1 ≤ s.2 ∧ Bd12 s.1 ∧ Bd12 s.2 ∧ NoBet 0 n (clampS s 0)) :
    Calls Tryz.prog 44 #[.agg #[.int .i64 t.k, .int .i64 t.sc, .bool t.c.any, .bool t.c.neg, .slice T t.c.ts.length ct], .agg #[.int .i64 m.k, .slice A m.sp.length ca, .bool m.al, .slice B m.ws.length cb, .int .i64 m.b, .bool m.nul], .agg #[.int .i64 v.k, .int .i64 v.n, .int .i64 v.s, .string v.t, .int .i64 v.i]] w fun e w' => e = .returned (.bool true) ∧ Below w.heap.size w w' := by
  have e3 : (t.k == 3) = false := by simp [hk]
  have e2 : (t.k == 2) = false := by simp [hk]
  have e4 : (t.k == 4) = false := by simp [hk]
  have HN := Lib.hid hn
  have HS := Lib.hid hS
  have HSP := Lib.hid hsp
  have HV := Lib.hid hv
  have HB := Lib.hid hb
  obtain ⟨q, hq⟩ : ∃ q, m.sp.length = q := ⟨_, rfl⟩
  have HQ := Lib.hid hq
  rw [hq] at hl ⊢
  clear hk hn hS hsp hq hv hb
  go_enter Tryz.func44, Tryz.ntmps44
  go_wp2_with fail
  generalize hW0 : ((w.alloc _).alloc _).alloc _ = W0
  have hb0 : Below w.heap.size w W0 := (by rw [← hW0]; exact bel)
  have K1 : BoxIs W0 (w.heap.size + 1) #[.int .i64 m.k, .slice A q ca, .bool m.al, .slice B m.ws.length cb, .int .i64 m.b, .bool m.nul] := (by rw [← hW0]; exact (BoxIs.new (t := 36) (by simp)).alloc _)
  clear hW0
  refine (rUnits_any t v T ct _ HV.out).mono ?_
  rintro e W1 ⟨rfl, hb1⟩
  rw [HN.out]
  have K1 := K1.below hb1
  have hbw : Below w.heap.size w W1 := hb0.trans (hb1.mono hb0.size)
  have c1 := K1.c
  have l1 := K1.lt
  have hS1 := HS.out.below hbw
  clear hb0 hb1
  go_wp2_with fail
  go_loopg [9] q (fun k iv wr => ∃ i : Nat, i ≤ q ∧ q - i ≤ k ∧ iv = .int .i64 i ∧ wr = W1)
  case atStart => exact ⟨0, by omega, by omega, rfl, rfl⟩
  case round =>
    obtain ⟨i, hi, hik, rfl, rfl⟩ := hrel
    by_cases hlt : i < q
    · have i1 : (i : Int) < (q : Int) := by omega
      have i3 : (0 : Int) ≤ (i : Int) := by omega
      have hil : i < m.sp.length := by rw [HQ.out]; omega
      obtain ⟨b, off, hAe, hx⟩ := hS1.sp.at_ hil
      have hs := HSP.out _ (List.getElem_mem hil)
      have hqq := HQ.out
      generalize m.sp[i]'hil = s at *
      obtain ⟨lo, hi'⟩ := s
      subst hAe
      have x0 : wr.cell? ⟨b, off + i * 2, none⟩ = some (.int .i64 lo) := hx.get 0 rfl
      have x1 : wr.cell? ⟨b, off + i * 2 + 1, none⟩ = some (.int .i64 hi') := hx.get 1 rfl
      obtain ⟨h1, h2, h3, h4⟩ := hs
      have h5 := HB.out
      have h1 : lo ≤ hi' := h1
      have h2 : -999999999999 ≤ lo ∧ lo ≤ 999999999999 := h2
      have h3 : -999999999999 ≤ hi' ∧ hi' ≤ 999999999999 := h3
      have h5 : -999999999999 ≤ n ∧ n ≤ 999999999999 := h5
      clear hx hil hqq
      have three : (0 < lo ∧ clampS (lo, hi') 0 = lo) ∨ (¬ 0 < lo ∧ hi' < 0 ∧ clampS (lo, hi') 0 = hi') ∨ (¬ 0 < lo ∧ ¬ hi' < 0 ∧ clampS (lo, hi') 0 = 0) := by unfold clampS; simp only; omega
      rcases three with ⟨g1, g2⟩ | ⟨g1, g3, g2⟩ | ⟨g1, g3, g2⟩
      all_goals
        rw [g2] at h4
        clear g2
        unfold NoBet farI at h4
        by_cases g5 : n = 0
        · subst g5
          go_wp2_with fail
          all_goals first
            | (exfalso; omega)
            | (go_roundg (q - (i + 1)); (case measure => omega); (case rel => exact ⟨i + 1, by omega, Nat.le_refl _, by go_num, rfl⟩))
        by_cases g4 : n < 0
        all_goals
          go_wp2_with fail
          all_goals first
            | (exfalso; omega)
            | (go_roundg (q - (i + 1)); (case measure => omega); (case rel => exact ⟨i + 1, by omega, Nat.le_refl _, by go_num, rfl⟩))
    · have i1 : ¬ (i : Int) < (q : Int) := by omega
      go_wp2_with fail
      go_ret
      exact ⟨rfl, hbw⟩
set_option maxRecDepth 100000 in
set_option maxHeartbeats 6400000 in
theorem nearest_d (t : Ty) (m : St) (v : Vl) (n : Int) (T A B : Option Addr) (ct ca cb : Nat) (w : World) (hk : t.k = 4) (hS : StAt w m A B) (hl : m.sp.length ≤ 9223372036854775807) (hv : v.wf) (hn : unitsR t.sc v = n) (hb : Bd12 n)
    (hsp : ∀ s ∈ m.sp, s.1 ≤ s.2 ∧ Bd12 s.1 ∧ Bd12 s.2 ∧ NoBet 730119 n (clampS s 730119)) :
    Calls Tryz.prog 44 #[.agg #[.int .i64 t.k, .int .i64 t.sc, .bool t.c.any, .bool t.c.neg, .slice T t.c.ts.length ct], .agg #[.int .i64 m.k, .slice A m.sp.length ca, .bool m.al, .slice B m.ws.length cb, .int .i64 m.b, .bool m.nul], .agg #[.int .i64 v.k, .int .i64 v.n, .int .i64 v.s, .string v.t, .int .i64 v.i]] w fun e w' => e = .returned (.bool true) ∧ Below w.heap.size w w' := by
  have e3 : (t.k == 3) = false := by simp [hk]
  have e2 : (t.k == 2) = false := by simp [hk]
  have e4 : (t.k == 4) = true := by simp [hk]
  have HN := Lib.hid hn
  have HS := Lib.hid hS
  have HSP := Lib.hid hsp
  have HV := Lib.hid hv
  have HB := Lib.hid hb
  obtain ⟨q, hq⟩ : ∃ q, m.sp.length = q := ⟨_, rfl⟩
  have HQ := Lib.hid hq
  rw [hq] at hl ⊢
  clear hk hn hS hsp hq hv hb
  go_enter Tryz.func44, Tryz.ntmps44
  go_wp2_with fail
  generalize hW0 : ((w.alloc _).alloc _).alloc _ = W0
  have hb0 : Below w.heap.size w W0 := (by rw [← hW0]; exact bel)
  have K1 : BoxIs W0 (w.heap.size + 1) #[.int .i64 m.k, .slice A q ca, .bool m.al, .slice B m.ws.length cb, .int .i64 m.b, .bool m.nul] := (by rw [← hW0]; exact (BoxIs.new (t := 36) (by simp)).alloc _)
  clear hW0
  refine (rUnits_any t v T ct _ HV.out).mono ?_
  rintro e W1 ⟨rfl, hb1⟩
  rw [HN.out]
  have K1 := K1.below hb1
  have hbw : Below w.heap.size w W1 := hb0.trans (hb1.mono hb0.size)
  have c1 := K1.c
  have l1 := K1.lt
  have hS1 := HS.out.below hbw
  clear hb0 hb1
  go_wp2_with fail
  go_loopg [9] q (fun k iv wr => ∃ i : Nat, i ≤ q ∧ q - i ≤ k ∧ iv = .int .i64 i ∧ wr = W1)
  case atStart => exact ⟨0, by omega, by omega, rfl, rfl⟩
  case round =>
    obtain ⟨i, hi, hik, rfl, rfl⟩ := hrel
    by_cases hlt : i < q
    · have i1 : (i : Int) < (q : Int) := by omega
      have i3 : (0 : Int) ≤ (i : Int) := by omega
      have hil : i < m.sp.length := by rw [HQ.out]; omega
      obtain ⟨b, off, hAe, hx⟩ := hS1.sp.at_ hil
      have hs := HSP.out _ (List.getElem_mem hil)
      have hqq := HQ.out
      generalize m.sp[i]'hil = s at *
      obtain ⟨lo, hi'⟩ := s
      subst hAe
      have x0 : wr.cell? ⟨b, off + i * 2, none⟩ = some (.int .i64 lo) := hx.get 0 rfl
      have x1 : wr.cell? ⟨b, off + i * 2 + 1, none⟩ = some (.int .i64 hi') := hx.get 1 rfl
      obtain ⟨h1, h2, h3, h4⟩ := hs
      have h5 := HB.out
      have h1 : lo ≤ hi' := h1
      have h2 : -999999999999 ≤ lo ∧ lo ≤ 999999999999 := h2
      have h3 : -999999999999 ≤ hi' ∧ hi' ≤ 999999999999 := h3
      have h5 : -999999999999 ≤ n ∧ n ≤ 999999999999 := h5
      clear hx hil hqq
      have three : (730119 < lo ∧ clampS (lo, hi') 730119 = lo) ∨ (¬ 730119 < lo ∧ hi' < 730119 ∧ clampS (lo, hi') 730119 = hi') ∨ (¬ 730119 < lo ∧ ¬ hi' < 730119 ∧ clampS (lo, hi') 730119 = 730119) := by unfold clampS; simp only; omega
      rcases three with ⟨g1, g2⟩ | ⟨g1, g3, g2⟩ | ⟨g1, g3, g2⟩
      all_goals
        rw [g2] at h4
        clear g2
        unfold NoBet farI at h4
        by_cases g5 : n = 730119
        · subst g5
          go_wp2_with fail
          all_goals first
            | (exfalso; omega)
            | (go_roundg (q - (i + 1)); (case measure => omega); (case rel => exact ⟨i + 1, by omega, Nat.le_refl _, by go_num, rfl⟩))
        by_cases g4 : n < 730119
        all_goals
          go_wp2_with fail
          all_goals first
            | (exfalso; omega)
            | (go_roundg (q - (i + 1)); (case measure => omega); (case rel => exact ⟨i + 1, by omega, Nat.le_refl _, by go_num, rfl⟩))
    · have i1 : ¬ (i : Int) < (q : Int) := by omega
      go_wp2_with fail
      go_ret
      exact ⟨rfl, hbw⟩
end Go.Proofs.YtankkadnhdfpfaaGreatDoor
