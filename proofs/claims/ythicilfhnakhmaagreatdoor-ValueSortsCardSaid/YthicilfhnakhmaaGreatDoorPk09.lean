import Derived.Test.YthicilfhnakhmaaGreatDoorPk07
import Derived.Test.YthicilfhnakhmaaGreatDoorPk08
/- Days and dates: plain. -/
set_option linter.unusedSimpArgs false
set_option linter.unusedVariables false
namespace Go.Proofs.YthicilfhnakhmaaGreatDoor
open Go.Lib

def leapB (y : Int) : Bool := decide (y % 4 = 0) && (decide (y % 100 ≠ 0) || decide (y % 400 = 0))
/-- the days of a year ahead of its first, since the first of all -/
def fstY (y : Int) : Int := 365 * (y - 1) + (y - 1) / 4 - (y - 1) / 100 + (y - 1) / 400
def yearL (y : Int) : Int := if leapB y = true then 366 else 365
theorem fstY_succ (y : Int) : fstY (y + 1) = fstY y + yearL y := by
  unfold fstY yearL leapB
  simp only [Bool.and_eq_true, Bool.or_eq_true, decide_eq_true_eq]
  split <;> omega
theorem fstY_mono {a b : Int} (h : a ≤ b) : fstY a ≤ fstY b := by
  unfold fstY
  omega
def mLen (y m : Int) : Int := if m = 2 then (if leapB y = true then 29 else 28) else if m = 4 ∨ m = 6 ∨ m = 9 ∨ m = 11 then 30 else 31
theorem mLen_bd (y m : Int) : 28 ≤ mLen y m ∧ mLen y m ≤ 31 := by
  unfold mLen; split <;> (try split) <;> omega
/-- the days of the first months of a year -/
def mCum (y : Int) : Nat → Int
  | 0 => 0
  | k + 1 => mCum y k + mLen y (k + 1)
theorem mCum_year (y : Int) : mCum y 12 = yearL y := by
  simp only [mCum, mLen, yearL]
  cases leapB y <;> simp <;> omega
theorem mCum_mono (y : Int) : ∀ {a b : Nat}, a ≤ b → mCum y a ≤ mCum y b := by
  intro a b h
  induction b with
  | zero => rw [show a = 0 by omega]; exact Int.le_refl _
  | succ b ih =>
    by_cases hb : a ≤ b
    · have := ih hb
      have := mLen_bd y (b + 1)
      rw [mCum]; omega
    · rw [show a = b + 1 by omega]; exact Int.le_refl _
/-- the date of a day: month m + 1 -/
structure IsDate (n y : Int) (m : Nat) (d : Int) : Prop where
  y1 : 1 ≤ y
  y2 : y ≤ 9999
  m2 : m < 12
  lo : fstY y ≤ n
  hi : n < fstY (y + 1)
  ml : mCum y m ≤ n - fstY y
  mh : n - fstY y < mCum y (m + 1)
  dd : d = n - fstY y - mCum y m + 1
theorem IsDate.unique {n y y' d d' : Int} {m m' : Nat} (h : IsDate n y m d) (h' : IsDate n y' m' d') : y = y' ∧ m = m' ∧ d = d' := by
  have hy : y = y' := by
    rcases Int.lt_trichotomy y y' with hl | rfl | hl
    · have := fstY_mono (show y + 1 ≤ y' by omega); have := h.hi; have := h'.lo; omega
    · rfl
    · have := fstY_mono (show y' + 1 ≤ y by omega); have := h'.hi; have := h.lo; omega
  subst hy
  have hm : m = m' := by
    rcases Nat.lt_trichotomy m m' with hl | rfl | hl
    · have := mCum_mono y (show m + 1 ≤ m' by omega); have := h.mh; have := h'.ml; omega
    · rfl
    · have := mCum_mono y (show m' + 1 ≤ m by omega); have := h'.mh; have := h.ml; omega
  subst hm
  exact ⟨rfl, rfl, h.dd.trans h'.dd.symm⟩
theorem IsDate.same {n n' y d : Int} {m : Nat} (h : IsDate n y m d) (h' : IsDate n' y m d) : n = n' := by
  have := h.dd; have := h'.dd; omega
theorem IsDate.d_bd {n y d : Int} {m : Nat} (h : IsDate n y m d) : 1 ≤ d ∧ d ≤ 31 := by
  have h1 := h.dd; have h2 := h.ml; have h3 := h.mh
  rw [mCum] at h3
  have := mLen_bd y (m + 1)
  omega
/-- a date's text -/
def dateL (y : Int) (m : Nat) (d : Int) : List UInt8 := padD y.toNat 4 ++ 45 :: (padD (m + 1) 2 ++ 45 :: padD d.toNat 2)
theorem padD_len {u k : Nat} (h : (decDigits u).length ≤ k) : (padD u k).length = k := by
  unfold padD; rw [List.length_append, List.length_replicate]; omega
theorem padD_inj {u v k : Nat} (h : padD u k = padD v k) (hu : (decDigits u).length ≤ k) (hv : (decDigits v).length ≤ k) : u = v := by
  have key : ∀ (k u v : Nat), padD u (k + 1) = padD v (k + 1) → u < 10 ^ (k + 1) → v < 10 ^ (k + 1) → u = v := by
    intro k
    induction k with
    | zero =>
      intro u v h hu hv
      rw [padD_split, padD_split] at h
      simp [lowD] at h
      exact decDigits_inj h
    | succ k ih =>
      intro u v h hu hv
      rw [padD_succ, padD_succ] at h
      obtain ⟨h1, h2⟩ := List.append_inj' h rfl
      have e1 := ih (u / 10) (v / 10) h1 (by rw [Nat.pow_succ] at hu; omega) (by rw [Nat.pow_succ] at hv; omega)
      have e2 := dig_inj (Nat.mod_lt _ (by decide)) (Nat.mod_lt _ (by decide)) (List.cons.inj h2).1
      omega
  have lt : ∀ (k u : Nat), (decDigits u).length ≤ k → u < 10 ^ k := by
    intro k
    induction k with
    | zero => intro u h; have := decDigits_pos u; omega
    | succ k ih =>
      intro u h
      by_cases hu : u < 10
      · have : 10 ^ 1 ≤ 10 ^ (k + 1) := Nat.pow_le_pow_right (by decide) (by omega)
        omega
      · rw [decDigits_big hu, List.length_append, List.length_singleton] at h
        have := ih (u / 10) (by omega)
        rw [Nat.pow_succ]; omega
  cases k with
  | zero => have := decDigits_pos u; omega
  | succ k => exact key k u v h (lt _ _ hu) (lt _ _ hv)
theorem dateL_inj {n n' y y' d d' : Int} {m m' : Nat} (h : IsDate n y m d) (h' : IsDate n' y' m' d') (e : dateL y m d = dateL y' m' d') : n = n' := by
  have l4 : ∀ {y : Int}, 1 ≤ y → y ≤ 9999 → (decDigits y.toNat).length ≤ 4 := fun h1 h2 => dec_len_lt (k := 3) (by omega)
  have l2 : ∀ {u : Nat}, u < 100 → (decDigits u).length ≤ 2 := fun h1 => dec_len_lt (k := 1) (by omega)
  have hd := h.d_bd
  have hd' := h'.d_bd
  have hm := h.m2
  have hm' := h'.m2
  unfold dateL at e
  obtain ⟨e1, e2⟩ := List.append_inj e (by rw [padD_len (l4 h.y1 h.y2), padD_len (l4 h'.y1 h'.y2)])
  obtain ⟨e3, e4⟩ := List.append_inj (List.cons.inj e2).2 (by rw [padD_len (l2 (by omega)), padD_len (l2 (by omega))])
  have a := padD_inj e1 (l4 h.y1 h.y2) (l4 h'.y1 h'.y2)
  have b := padD_inj e3 (l2 (by omega)) (l2 (by omega))
  have c := padD_inj (List.cons.inj e4).2 (l2 (by omega)) (l2 (by omega))
  have ey : y = y' := by have := h.y1; have := h'.y1; omega
  have em : m = m' := by omega
  have ed : d = d' := by omega
  subst ey em ed
  exact h.same h'
theorem fstY_one : fstY 1 = 0 := by decide
theorem fstY_end : fstY 10000 = 3652059 := by decide
/-- each day has its date -/
theorem IsDate.of {n y : Int} {m : Nat} (y1 : 1 ≤ y) (lo : fstY y ≤ n) (hi : n < fstY (y + 1)) (hn : n < 3652059) (ml : mCum y m ≤ n - fstY y) (mh : n - fstY y < mCum y (m + 1)) : IsDate n y m (n - fstY y - mCum y m + 1) := by
  refine ⟨y1, ?_, ?_, lo, hi, ml, mh, rfl⟩
  · rcases (by omega : 9999 < y ∨ y ≤ 9999) with h | h
    · have := fstY_mono (show (10000 : Int) ≤ y by omega)
      rw [fstY_end] at this; omega
    · exact h
  · rcases Nat.lt_or_ge m 12 with h | h
    · exact h
    · have := mCum_mono y h
      rw [mCum_year] at this
      rw [fstY_succ] at hi
      omega
open Classical in
/-- a day's text -/
noncomputable def dayL (n : Int) : List UInt8 := if h : ∃ l, ∃ y m d, IsDate n y m d ∧ l = dateL y m d then h.choose else []
theorem dayL_eq {n y d : Int} {m : Nat} (h : IsDate n y m d) : dayL n = dateL y m d := by
  have hx : ∃ l, ∃ y m d, IsDate n y m d ∧ l = dateL y m d := ⟨_, _, _, _, h, rfl⟩
  unfold dayL
  rw [dif_pos hx]
  obtain ⟨y', m', d', h', e⟩ := hx.choose_spec
  obtain ⟨rfl, rfl, rfl⟩ := h.unique h'
  exact e
end Go.Proofs.YthicilfhnakhmaaGreatDoor

/- soffit/days: Leap, length, first, Date, pad, Text, walked. -/
set_option linter.unusedSimpArgs false
set_option linter.unusedVariables false
namespace Go.Proofs.YthicilfhnakhmaaGreatDoor
open Go.RowKit Go.Sort Go.Lib

set_option maxHeartbeats 800000 in
theorem dLeap_any (y : Int) (w : World) (h1 : 0 ≤ y) (h2 : y ≤ 100000) :
    Calls Tryz.prog 111 #[.int .i64 y] w fun e w' => e = .returned (.bool (leapB y)) ∧ w = w' := by
  obtain ⟨B, hB⟩ : ∃ B, leapB y = B := ⟨_, rfl⟩
  rw [hB]
  have HB := Lib.hid hB
  clear hB
  have t4 : y.tmod 4 = y % 4 := Int.tmod_eq_emod_of_nonneg h1
  have t100 : y.tmod 100 = y % 100 := Int.tmod_eq_emod_of_nonneg h1
  have t400 : y.tmod 400 = y % 400 := Int.tmod_eq_emod_of_nonneg h1
  by_cases c4 : y % 4 = 0
  · have e4 : (y % 4 == 0) = true := by rw [beq_iff_eq]; exact c4
    by_cases c100 : y % 100 = 0
    · have e100 : (y % 100 != 0) = false := by rw [c100]; rfl
      by_cases c400 : y % 400 = 0
      · have e400 : (y % 400 == 0) = true := by rw [beq_iff_eq]; exact c400
        have hr : B = true := by rw [← HB.out]; unfold leapB; simp [c4, c100, c400]
        clear c4 c100 c400
        go_enter Tryz.func111, Tryz.ntmps111
        go_wp2_with fail
        go_ret
        exact ⟨ret_bool hr.symm, rfl⟩
      · have e400 : (y % 400 == 0) = false := by rw [beq_eq_false_iff_ne]; exact c400
        have hr : B = false := by rw [← HB.out]; unfold leapB; simp [c4, c100, c400]
        clear c4 c100 c400
        go_enter Tryz.func111, Tryz.ntmps111
        go_wp2_with fail
        go_ret
        exact ⟨ret_bool hr.symm, rfl⟩
    · have e100 : (y % 100 != 0) = true := by rw [bne_iff_ne]; exact c100
      have hr : B = true := by rw [← HB.out]; unfold leapB; simp [c4, c100]
      clear c4 c100
      go_enter Tryz.func111, Tryz.ntmps111
      go_wp2_with fail
      go_ret
      exact ⟨ret_bool hr.symm, rfl⟩
  · have e4 : (y % 4 == 0) = false := by rw [beq_eq_false_iff_ne]; exact c4
    have hr : B = false := by rw [← HB.out]; unfold leapB; simp [c4]
    clear c4
    go_enter Tryz.func111, Tryz.ntmps111
    go_wp2_with fail
    go_ret
    exact ⟨ret_bool hr.symm, rfl⟩

set_option maxHeartbeats 800000 in
theorem dLength_any (y m : Int) (w : World) (h1 : 0 ≤ y) (h2 : y ≤ 100000) :
    Calls Tryz.prog 77 #[.int .i64 y, .int .i64 m] w fun e w' => e = .returned (.int .i64 (mLen y m)) ∧ w = w' := by
  obtain ⟨R, hR⟩ : ∃ R, mLen y m = R := ⟨_, rfl⟩
  rw [hR]
  have HR := Lib.hid hR
  clear hR
  by_cases m2 : m = 2
  · have e2 : (m == 2) = true := by rw [beq_iff_eq]; exact m2
    cases hl : leapB y
    · have hr : R = 28 := by rw [← HR.out]; unfold mLen; rw [if_pos m2, hl]; rfl
      clear m2
      go_enter Tryz.func77, Tryz.ntmps77
      go_wp2_with fail
      refine (dLeap_any y _ h1 h2).mono ?_
      rintro e w1 ⟨rfl, rfl⟩
      rw [hl]
      go_wp2_with fail
      go_ret
      exact ⟨ret_int hr.symm, rfl⟩
    · have hr : R = 29 := by rw [← HR.out]; unfold mLen; rw [if_pos m2, hl]; rfl
      clear m2
      go_enter Tryz.func77, Tryz.ntmps77
      go_wp2_with fail
      refine (dLeap_any y _ h1 h2).mono ?_
      rintro e w1 ⟨rfl, rfl⟩
      rw [hl]
      go_wp2_with fail
      go_ret
      exact ⟨ret_int hr.symm, rfl⟩
  · have e2 : (m == 2) = false := by rw [beq_eq_false_iff_ne]; exact m2
    by_cases m4 : m = 4
    · have hr : R = 30 := by rw [← HR.out]; unfold mLen; rw [if_neg m2, if_pos (.inl m4)]
      have e4 : (m == 4) = true := by rw [beq_iff_eq]; exact m4
      clear m2 m4
      go_enter Tryz.func77, Tryz.ntmps77
      go_wp2_with fail
      go_ret
      exact ⟨ret_int hr.symm, rfl⟩
    have e4 : (m == 4) = false := by rw [beq_eq_false_iff_ne]; exact m4
    by_cases m6 : m = 6
    · have hr : R = 30 := by rw [← HR.out]; unfold mLen; rw [if_neg m2, if_pos (.inr (.inl m6))]
      have e6 : (m == 6) = true := by rw [beq_iff_eq]; exact m6
      clear m2 m4 m6
      go_enter Tryz.func77, Tryz.ntmps77
      go_wp2_with fail
      go_ret
      exact ⟨ret_int hr.symm, rfl⟩
    have e6 : (m == 6) = false := by rw [beq_eq_false_iff_ne]; exact m6
    by_cases m9 : m = 9
    · have hr : R = 30 := by rw [← HR.out]; unfold mLen; rw [if_neg m2, if_pos (.inr (.inr (.inl m9)))]
      have e9 : (m == 9) = true := by rw [beq_iff_eq]; exact m9
      clear m2 m4 m6 m9
      go_enter Tryz.func77, Tryz.ntmps77
      go_wp2_with fail
      go_ret
      exact ⟨ret_int hr.symm, rfl⟩
    have e9 : (m == 9) = false := by rw [beq_eq_false_iff_ne]; exact m9
    by_cases m11 : m = 11
    · have hr : R = 30 := by rw [← HR.out]; unfold mLen; rw [if_neg m2, if_pos (.inr (.inr (.inr m11)))]
      have e11 : (m == 11) = true := by rw [beq_iff_eq]; exact m11
      clear m2 m4 m6 m9 m11
      go_enter Tryz.func77, Tryz.ntmps77
      go_wp2_with fail
      go_ret
      exact ⟨ret_int hr.symm, rfl⟩
    have e11 : (m == 11) = false := by rw [beq_eq_false_iff_ne]; exact m11
    have hr : R = 31 := by rw [← HR.out]; unfold mLen; rw [if_neg m2, if_neg (by rintro (h | h | h | h) <;> contradiction)]
    clear m2 m4 m6 m9 m11
    go_enter Tryz.func77, Tryz.ntmps77
    go_wp2_with fail
    go_ret
    exact ⟨ret_int hr.symm, rfl⟩

set_option maxHeartbeats 800000 in
theorem dFirst_any (y : Int) (w : World) (h1 : 1 ≤ y) (h2 : y ≤ 100000) :
    Calls Tryz.prog 76 #[.int .i64 y] w fun e w' => e = .returned (.int .i64 (fstY y)) ∧ w = w' := by
  obtain ⟨x, hx⟩ : ∃ x : Int, y - 1 = x := ⟨_, rfl⟩
  have hR : fstY y = 365 * x + x / 4 - x / 100 + x / 400 := by unfold fstY; rw [hx]
  obtain ⟨R, hR2⟩ : ∃ R, fstY y = R := ⟨_, rfl⟩
  rw [hR2] at hR ⊢
  have HR := Lib.hid hR
  clear hR hR2
  have hw1 : IntKind.i64.wrap (y - 1) = x := by rw [IntWalk.i64_in _ (by omega), hx]
  have x0 : 0 ≤ x := by omega
  have x1 : x ≤ 100000 := by omega
  clear hx
  have d4 : x.tdiv 4 = x / 4 := Int.tdiv_eq_ediv_of_nonneg x0
  have d100 : x.tdiv 100 = x / 100 := Int.tdiv_eq_ediv_of_nonneg x0
  have d400 : x.tdiv 400 = x / 400 := Int.tdiv_eq_ediv_of_nonneg x0
  have w1 : IntKind.i64.wrap (365 * x) = 365 * x := IntWalk.i64_in _ (by omega)
  have w2 : IntKind.i64.wrap (x / 4) = x / 4 := IntWalk.i64_in _ (by omega)
  have w3 : IntKind.i64.wrap (x / 100) = x / 100 := IntWalk.i64_in _ (by omega)
  have w4 : IntKind.i64.wrap (x / 400) = x / 400 := IntWalk.i64_in _ (by omega)
  have w5 : IntKind.i64.wrap (365 * x + x / 4) = 365 * x + x / 4 := IntWalk.i64_in _ (by omega)
  have w6 : IntKind.i64.wrap (365 * x + x / 4 - x / 100) = 365 * x + x / 4 - x / 100 := IntWalk.i64_in _ (by omega)
  have w7 : IntKind.i64.wrap (365 * x + x / 4 - x / 100 + x / 400) = 365 * x + x / 4 - x / 100 + x / 400 := IntWalk.i64_in _ (by omega)
  go_enter Tryz.func76, Tryz.ntmps76
  go_wp2_with fail
  go_ret
  exact ⟨ret_int HR.out.symm, rfl⟩
end Go.Proofs.YthicilfhnakhmaaGreatDoor

/- soffit/days: Date, pad, Text, walked. -/
set_option linter.unusedSimpArgs false
set_option linter.unusedVariables false
namespace Go.Proofs.YthicilfhnakhmaaGreatDoor
open Go.RowKit Go.Sort Go.Lib

set_option maxHeartbeats 800000 in
theorem dDate_no (n : Int) (w : World) (h : n < 0 ∨ 3652058 < n) :
    Calls Tryz.prog 51 #[.int .i64 n] w fun e w' => e = .returned (.tuple #[.int .i64 0, .int .i64 0, .int .i64 0, .int .i64 3]) ∧ w = w' := by
  rcases h with h | h
  · skip
    go_enter Tryz.func51, Tryz.ntmps51
    go_wp2_with fail
    refine bodyPost_ret (v := .tuple #[.int .i64 0, .int .i64 0, .int .i64 0, .int .i64 3]) (by simp [results, Tryz.results51, go_sem, *]) rfl ⟨rfl, rfl⟩
  · have h0 : ¬ n < 0 := by omega
    go_enter Tryz.func51, Tryz.ntmps51
    go_wp2_with fail
    refine bodyPost_ret (v := .tuple #[.int .i64 0, .int .i64 0, .int .i64 0, .int .i64 3]) (by simp [results, Tryz.results51, go_sem, *]) rfl ⟨rfl, rfl⟩

set_option maxRecDepth 100000 in
set_option maxHeartbeats 1600000 in
theorem dDate_yes (n : Int) (w : World) (h1 : 0 ≤ n) (h2 : n ≤ 3652058) :
    Calls Tryz.prog 51 #[.int .i64 n] w fun e w' => ∃ y m d, e = .returned (.tuple #[.int .i64 y, .int .i64 ((m : Nat) + 1 : Int), .int .i64 d, .int .i64 0]) ∧ IsDate n y m d ∧ w = w' := by
  have c1 : ¬ n < 0 := by omega
  have c2 : ¬ 3652058 < n := by omega
  obtain ⟨q, hq⟩ : ∃ q : Int, n / 365 = q := ⟨_, rfl⟩
  have d1 : n.tdiv 365 = q := by rw [Int.tdiv_eq_ediv_of_nonneg h1, hq]
  obtain ⟨y0, hy0⟩ : ∃ y0 : Int, min (q + 1) 9999 = y0 := ⟨_, rfl⟩
  have q1 : 0 ≤ q := by omega
  have q2 : q ≤ 10005 := by omega
  have hw0 : IntKind.i64.wrap q = q := IntWalk.i64_in _ (by omega)
  have hw1 : IntKind.i64.wrap (q + 1) = q + 1 := IntWalk.i64_in _ (by omega)
  have hy1 : 1 ≤ y0 ∧ y0 ≤ 9999 := by omega
  have HY0 : Hid (n < fstY (y0 + 1)) := Lib.hid (by
    by_cases h : q + 1 ≤ 9999
    · have e : y0 = q + 1 := by omega
      rw [e]
      unfold fstY
      omega
    · have e : y0 = 9999 := by omega
      rw [e]
      have := fstY_end
      rw [show (9999 : Int) + 1 = 10000 by decide]
      omega)
  clear hq
  go_enter Tryz.func51, Tryz.ntmps51
  go_wp2_with fail
  go_loopg [2] 10000 (fun k yv wr => ∃ y : Int, yv = .int .i64 y ∧ 1 ≤ y ∧ y ≤ 9999 ∧ y ≤ k ∧ Hid (n < fstY (y + 1)) ∧ w = wr)
  case atStart => exact ⟨y0, by first | rfl | (simp [*]; done), hy1.1, hy1.2, by omega, HY0, rfl⟩
  case round =>
    obtain ⟨y, rfl, y1, y2, yk, HY, rfl⟩ := hrel
    obtain ⟨f, hf⟩ : ∃ f, fstY y = f := ⟨_, rfl⟩
    have hfm : 0 ≤ f := by
      have := fstY_mono (show (1 : Int) ≤ y by omega)
      rw [fstY_one] at this; omega
    have HF := Lib.hid hf
    by_cases hlt : n < f
    · have y3 : 2 ≤ y := by
        rcases (by omega : y = 1 ∨ 2 ≤ y) with h | h
        · rw [h, fstY_one] at hf; omega
        · exact h
      have hwy : IntKind.i64.wrap (y - 1) = y - 1 := IntWalk.i64_in _ (by omega)
      clear hf hy0 hy1 HY0
      go_wp2_with fail
      refine (dFirst_any y _ y1 (by omega)).mono ?_
      rintro e w1 ⟨rfl, rfl⟩
      rw [HF.out]
      go_wp2_with fail
      go_roundg (gk - 1)
      case measure => omega
      case rel => exact ⟨y - 1, by first | rfl | go_num, by omega, by omega, by omega, Lib.hid (by rw [show y - 1 + 1 = y by omega, HF.out]; exact hlt), rfl⟩
    · have hwn : IntKind.i64.wrap (n - f) = n - f := IntWalk.i64_in _ (by omega)
      have HN : Hid (n - f < mCum y 12) := Lib.hid (by
        rw [mCum_year]
        have := HY.out
        rw [fstY_succ, hf] at this
        omega)
      clear hf hy0 hy1 HY0
      go_wp2_with fail
      refine (dFirst_any y _ y1 (by omega)).mono ?_
      rintro e w1 ⟨rfl, rfl⟩
      rw [HF.out]
      go_wp2_with fail
      refine (dFirst_any y _ y1 (by omega)).mono ?_
      rintro e w1 ⟨rfl, rfl⟩
      rw [HF.out]
      go_wp2_with fail
      go_loopg [0, 3] 12 (fun k nv mv wr => ∃ (m : Nat) (c : Int), nv = .int .i64 c ∧ mv = .int .i64 ((m : Int) + 1) ∧ m < 12 ∧ 12 - m ≤ k ∧ Hid (c = n - f - mCum y m) ∧ 0 ≤ c ∧ c ≤ 5000000 ∧ w = wr)
      case atStart => exact ⟨0, n - f, rfl, by first | rfl | (simp; done), by omega, by omega, Lib.hid (by rw [mCum]; omega), by omega, by omega, rfl⟩
      case round =>
        obtain ⟨m, c, rfl, rfl, m12, mk, HC, c0, c5, rfl⟩ := hrel
        obtain ⟨l, hl⟩ : ∃ l, mLen y ((m : Int) + 1) = l := ⟨_, rfl⟩
        have hlb := mLen_bd y ((m : Int) + 1)
        rw [hl] at hlb
        have HL := Lib.hid hl
        clear hl hwn
        have hwm : IntKind.i64.wrap ((m : Int) + 1 + 1) = (m : Int) + 1 + 1 := IntWalk.i64_in _ (by omega)
        by_cases hge : l ≤ c
        · have m11 : m + 1 < 12 := by
            rcases (by omega : m + 1 < 12 ∨ m = 11) with h | h
            · exact h
            · have h3 := HN.out
              have h4 := HC.out
              have h5 := HL.out
              subst h
              rw [mCum] at h3
              have h6 : mLen y (((11 : Nat) : Int) + 1) = l := h5
              rw [h6] at h3
              omega
          have hwc : IntKind.i64.wrap (c - l) = c - l := IntWalk.i64_in _ (by omega)
          go_wp2_with fail
          refine (dLength_any y ((m : Int) + 1) _ (by omega) (by omega)).mono ?_
          rintro e w1 ⟨rfl, rfl⟩
          rw [HL.out]
          go_wp2_with fail
          refine (dLength_any y ((m : Int) + 1) _ (by omega) (by omega)).mono ?_
          rintro e w1 ⟨rfl, rfl⟩
          rw [HL.out]
          go_wp2_with fail
          go_roundg (gk - 1)
          case measure => omega
          case rel => exact ⟨m + 1, c - l, by first | rfl | go_num, by first | rfl | go_num, m11, by omega, Lib.hid (by rw [mCum, HL.out, HC.out]; omega), by omega, by omega, rfl⟩
        · have hwd : IntKind.i64.wrap (c + 1) = c + 1 := IntWalk.i64_in _ (by omega)
          have HD : Hid (IsDate n y m (c + 1)) := Lib.hid (by
            have h := IsDate.of (n := n) (y := y) (m := m) y1 (by rw [HF.out]; omega) HY.out (by omega) (by rw [HF.out]; have := HC.out; omega) (by rw [HF.out, mCum, HL.out]; have := HC.out; omega)
            rw [HF.out] at h
            rw [HC.out]
            exact h)
          go_wp2_with fail
          refine (dLength_any y ((m : Int) + 1) _ (by omega) (by omega)).mono ?_
          rintro e w1 ⟨rfl, rfl⟩
          rw [HL.out]
          go_wp2_with fail
          exact bodyPost_ret (v := .tuple #[.int .i64 y, .int .i64 ((m : Int) + 1), .int .i64 (c + 1), .int .i64 0]) (by simp [results, Tryz.results51, go_sem, *]) rfl ⟨y, m, c + 1, rfl, HD.out, rfl⟩

theorem itoaP (n : Nat) (hn : (n : Int) ≤ 9223372036854775807) (w : World) (hE : EnvP w) :
    Calls Tryz.prog 78 #[.int .i64 n] w fun e w' => e = .returned (.string ⟨(decDigits n).toArray⟩) ∧ Below w.heap.size w w' := by
  refine (Tryz.strconv_Itoa n (by omega) hn w hE.pow).mono ?_
  rintro e w' ⟨rfl, k, os, rfl⟩
  refine ⟨?_, below_grow (below_drewN (Below.refl _ _) k) (Nat.le_refl _) os⟩
  unfold itoa
  rw [if_neg (by omega), Int.toNat_natCast]

set_option maxHeartbeats 1600000 in
theorem dPad_any (u k : Nat) (w : World) (hu : (decDigits u).length ≤ k) (hk : k ≤ 4) (hE : EnvP w) (hn : u ≤ 99999) :
    Calls Tryz.prog 52 #[.int .i64 u, .int .i64 k] w fun e w' => e = .returned (.string ⟨(padD u k).toArray⟩) ∧ Below w.heap.size w w' := by
  obtain ⟨R, hR⟩ : ∃ R : ByteArray, ⟨(decDigits u).toArray⟩ = R := ⟨_, rfl⟩
  have hsz : R.size = (decDigits u).length := by rw [← hR, ba_size]
  obtain ⟨c, hc⟩ : ∃ c, k = R.size + c := ⟨k - R.size, by omega⟩
  have hw1 : IntKind.i64.wrap ((k : Int) - (R.size : Int)) = (c : Int) := by rw [IntWalk.i64_in _ (by omega)]; omega
  have hRs : R.size ≤ 4 := by omega
  have hc4 : c ≤ 4 := by omega
  obtain ⟨Z, hZ⟩ : ∃ Z : ByteArray, ⟨(repeatL (⟨#[48]⟩ : ByteArray).data.toList c).toArray⟩ = Z := ⟨_, rfl⟩
  have hZs : Z.size = c := by rw [← hZ, ba_size]; simp [repeatL_one]
  have HP : Hid (Z ++ R = ⟨(padD u k).toArray⟩) := Lib.hid (by
    rw [← hZ, ← hR, ba_append, repeatL_one]
    unfold padD
    rw [show k - (decDigits u).length = c by omega])
  have hov : ¬ 9223372036854775807 < Z.size + R.size := by omega
  have HR := Lib.hid hR
  have HZ := Lib.hid hZ
  clear hR hZ hsz hc hZs hu
  go_enter Tryz.func52, Tryz.ntmps52
  go_wp2_with fail
  refine (itoaP u (by omega) _ hE).mono ?_
  rintro e w1 ⟨rfl, hb1⟩
  rw [HR.out]
  go_wp2_with fail
  refine (Tryz.strings_Repeat ⟨#[48]⟩ c _ (by omega) (by rw [show (⟨#[48]⟩ : ByteArray).size = 1 from rfl]; omega)).mono ?_
  rintro e w2 ⟨rfl, hb2⟩
  rw [HZ.out]
  go_wp2_with fail
  go_ret
  exact ⟨by rw [← HP.out]; rfl, bel⟩

open Classical in
/-- a day's text, or none -/
noncomputable def dayRes (n : Int) : Value := if 0 ≤ n ∧ n ≤ 3652058 then .tuple #[.string ⟨(dayL n).toArray⟩, .int .i64 0] else .tuple #[.string ⟨#[]⟩, .int .i64 3]
theorem dateL_ba {y d : Int} {m : Nat} (Y M D : ByteArray) (hY : Y = ⟨(padD y.toNat 4).toArray⟩) (hM : M = ⟨(padD (m + 1) 2).toArray⟩) (hD : D = ⟨(padD d.toNat 2).toArray⟩) :
    Y ++ ⟨#[45]⟩ ++ M ++ ⟨#[45]⟩ ++ D = ⟨(dateL y m d).toArray⟩ := by
  rw [hY, hM, hD, show (⟨#[45]⟩ : ByteArray) = ⟨[45].toArray⟩ from rfl, ba_append, ba_append, ba_append, ba_append]
  unfold dateL
  congr 2
  simp
set_option maxHeartbeats 1600000 in
theorem dText_any (n : Int) (w : World) (hE : EnvP w) :
    Calls Tryz.prog 25 #[.int .i64 n] w fun e w' => e = .returned (dayRes n) ∧ Below w.heap.size w w' := by
  by_cases h : 0 ≤ n ∧ n ≤ 3652058
  · have HRES : Hid (dayRes n = .tuple #[.string ⟨(dayL n).toArray⟩, .int .i64 0]) := Lib.hid (by unfold dayRes; rw [if_pos h])
    obtain ⟨h1, h2⟩ := h
    go_enter Tryz.func25, Tryz.ntmps25
    go_wp2_with fail
    refine (dDate_yes n _ h1 h2).mono ?_
    rintro e w1 ⟨y, m, d, rfl, hdt, rfl⟩
    have y1 := hdt.y1
    have y2 := hdt.y2
    have m2 := hdt.m2
    have d1 := hdt.d_bd
    obtain ⟨yn, rfl⟩ : ∃ yn : Nat, y = (yn : Int) := ⟨y.toNat, by omega⟩
    obtain ⟨dn, rfl⟩ : ∃ dn : Nat, d = (dn : Int) := ⟨d.toNat, by omega⟩
    obtain ⟨mn, hmn⟩ : ∃ mn : Nat, m + 1 = mn := ⟨_, rfl⟩
    have hmi : (m : Int) + 1 = (mn : Int) := by omega
    rw [hmi]
    have hmn9 : mn ≤ 99999 := by omega
    have HDL : Hid (dayL n = dateL yn m dn) := Lib.hid (dayL_eq hdt)
    obtain ⟨Y, hY⟩ : ∃ Y : ByteArray, ⟨(padD yn 4).toArray⟩ = Y := ⟨_, rfl⟩
    obtain ⟨M, hM⟩ : ∃ M : ByteArray, ⟨(padD mn 2).toArray⟩ = M := ⟨_, rfl⟩
    obtain ⟨D, hD⟩ : ∃ D : ByteArray, ⟨(padD dn 2).toArray⟩ = D := ⟨_, rfl⟩
    have l4 : (decDigits yn).length ≤ 4 := dec_len_lt (k := 3) (by omega)
    have l2 : (decDigits mn).length ≤ 2 := dec_len_lt (k := 1) (by omega)
    have l3 : (decDigits dn).length ≤ 2 := dec_len_lt (k := 1) (by omega)
    have sY : Y.size = 4 := by rw [← hY, ba_size, padD_len l4]
    have sM : M.size = 2 := by rw [← hM, ba_size, padD_len l2]
    have sD : D.size = 2 := by rw [← hD, ba_size, padD_len l3]
    have HY := Lib.hid hY
    have HM := Lib.hid hM
    have HD := Lib.hid hD
    have HDA : Hid (Y ++ ⟨#[45]⟩ ++ M ++ ⟨#[45]⟩ ++ D = ⟨(dayL n).toArray⟩) := Lib.hid (by
      rw [HDL.out]
      exact dateL_ba Y M D (by rw [← hY, Int.toNat_natCast]) (by rw [← hM, hmn]) (by rw [← hD, Int.toNat_natCast]))
    clear hY hM hD hdt hmi hmn
    go_wp2_with fail
    refine (dPad_any yn 4 _ l4 (by omega) (hE.below bel) (by omega)).mono ?_
    rintro e w2 ⟨rfl, hb2⟩
    rw [HY.out]
    go_wp2_with fail
    refine (dPad_any mn 2 _ l2 (by omega) (hE.below bel) (by omega)).mono ?_
    rintro e w3 ⟨rfl, hb3⟩
    rw [HM.out]
    go_wp2_with fail
    refine (dPad_any dn 2 _ l3 (by omega) (hE.below bel) (by omega)).mono ?_
    rintro e w4 ⟨rfl, hb4⟩
    rw [HD.out]
    go_wp2_with fail
    go_ret2
    exact ⟨by rw [HRES.out, ← HDA.out]; rfl, bel⟩
  · have HRES : Hid (dayRes n = .tuple #[.string ⟨#[]⟩, .int .i64 3]) := Lib.hid (by unfold dayRes; rw [if_neg h])
    have h3 : n < 0 ∨ 3652058 < n := by omega
    clear h
    go_enter Tryz.func25, Tryz.ntmps25
    go_wp2_with fail
    refine (dDate_no n _ h3).mono ?_
    rintro e w1 ⟨rfl, rfl⟩
    go_wp2_with fail
    go_ret2
    exact ⟨by rw [HRES.out]; rfl, bel⟩
end Go.Proofs.YthicilfhnakhmaaGreatDoor

/- soffitref02: Leap, Length, years, Date, padded, Text; soffitref01.Number: walked. -/
set_option linter.unusedSimpArgs false
set_option linter.unusedVariables false
namespace Go.Proofs.YthicilfhnakhmaaGreatDoor
open Go.RowKit Go.Sort Go.Lib

set_option maxHeartbeats 800000 in
theorem rLeap_any (y : Int) (w : World) (h1 : 0 ≤ y) (h2 : y ≤ 100000) :
    Calls Tryz.prog 113 #[.int .i64 y] w fun e w' => e = .returned (.bool (leapB y)) ∧ w = w' := by
  obtain ⟨B, hB⟩ : ∃ B, leapB y = B := ⟨_, rfl⟩
  rw [hB]
  have HB := Lib.hid hB
  clear hB
  have t4 : y.tmod 4 = y % 4 := Int.tmod_eq_emod_of_nonneg h1
  have t100 : y.tmod 100 = y % 100 := Int.tmod_eq_emod_of_nonneg h1
  have t400 : y.tmod 400 = y % 400 := Int.tmod_eq_emod_of_nonneg h1
  by_cases c400 : y % 400 = 0
  · have e400 : (y % 400 == 0) = true := by rw [beq_iff_eq]; exact c400
    have hr : B = true := by
      rw [← HB.out]; unfold leapB
      have c4 : y % 4 = 0 := by omega
      simp [c4, c400]
    clear c400
    go_enter Tryz.func113, Tryz.ntmps113
    go_wp2_with fail
    go_ret
    exact ⟨ret_bool hr.symm, rfl⟩
  · have e400 : (y % 400 == 0) = false := by rw [beq_eq_false_iff_ne]; exact c400
    by_cases c4 : y % 4 = 0
    · have e4 : (y % 4 == 0) = true := by rw [beq_iff_eq]; exact c4
      by_cases c100 : y % 100 = 0
      · have e100 : (y % 100 != 0) = false := by rw [c100]; rfl
        have hr : B = false := by rw [← HB.out]; unfold leapB; simp [c4, c100, c400]
        clear c4 c100 c400
        go_enter Tryz.func113, Tryz.ntmps113
        go_wp2_with fail
        go_ret
        exact ⟨ret_bool hr.symm, rfl⟩
      · have e100 : (y % 100 != 0) = true := by rw [bne_iff_ne]; exact c100
        have hr : B = true := by rw [← HB.out]; unfold leapB; simp [c4, c100]
        clear c4 c100 c400
        go_enter Tryz.func113, Tryz.ntmps113
        go_wp2_with fail
        go_ret
        exact ⟨ret_bool hr.symm, rfl⟩
    · have e4 : (y % 4 == 0) = false := by rw [beq_eq_false_iff_ne]; exact c4
      have hr : B = false := by rw [← HB.out]; unfold leapB; simp [c4]
      clear c4 c400
      go_enter Tryz.func113, Tryz.ntmps113
      go_wp2_with fail
      go_ret
      exact ⟨ret_bool hr.symm, rfl⟩

set_option maxHeartbeats 800000 in
theorem rYears_any (y : Int) (w : World) (h1 : 0 ≤ y) (h2 : y ≤ 100000) :
    Calls Tryz.prog 79 #[.int .i64 y] w fun e w' => e = .returned (.int .i64 (yearL y)) ∧ w = w' := by
  cases hl : leapB y
  · have hr : yearL y = 365 := by unfold yearL; rw [hl]; rfl
    rw [hr]
    go_enter Tryz.func79, Tryz.ntmps79
    go_wp2_with fail
    refine (rLeap_any y _ h1 h2).mono ?_
    rintro e w1 ⟨rfl, rfl⟩
    rw [hl]
    go_wp2_with fail
    go_ret
    exact ⟨rfl, rfl⟩
  · have hr : yearL y = 366 := by unfold yearL; rw [hl]; rfl
    rw [hr]
    go_enter Tryz.func79, Tryz.ntmps79
    go_wp2_with fail
    refine (rLeap_any y _ h1 h2).mono ?_
    rintro e w1 ⟨rfl, rfl⟩
    rw [hl]
    go_wp2_with fail
    go_ret
    exact ⟨rfl, rfl⟩

set_option maxRecDepth 100000 in
set_option maxHeartbeats 3200000 in
theorem rLength_any (y : Int) (m : Nat) (w : World) (h1 : 0 ≤ y) (h2 : y ≤ 100000) (hm : m < 12) :
    Calls Tryz.prog 80 #[.int .i64 y, .int .i64 ((m : Int) + 1)] w fun e w' => e = .returned (.int .i64 (mLen y ((m : Int) + 1))) ∧ Below w.heap.size w w' := by
  by_cases m1 : m = 1
  · subst m1
    have hm2 : (((1 : Nat) : Int) + 1) = 2 := rfl
    rw [hm2]
    cases hl : leapB y
    · have hr : mLen y 2 = 28 := by unfold mLen; rw [if_pos rfl, hl]; rfl
      rw [hr]
      go_enter Tryz.func80, Tryz.ntmps80
      go_wp2_with fail
      refine (rLeap_any y _ h1 h2).mono ?_
      rintro e w1 ⟨rfl, rfl⟩
      rw [hl]
      go_wp2_with fail
      go_ret
      exact ⟨rfl, bel⟩
    · have hr : mLen y 2 = 29 := by unfold mLen; rw [if_pos rfl, hl]; rfl
      rw [hr]
      go_enter Tryz.func80, Tryz.ntmps80
      go_wp2_with fail
      refine (rLeap_any y _ h1 h2).mono ?_
      rintro e w1 ⟨rfl, rfl⟩
      rw [hl]
      go_wp2_with fail
      go_ret
      exact ⟨rfl, bel⟩
  · obtain ⟨M, hM⟩ : ∃ M : Int, (m : Int) + 1 = M := ⟨_, rfl⟩
    rw [hM]
    have h12 : M = 1 ∨ M = 3 ∨ M = 4 ∨ M = 5 ∨ M = 6 ∨ M = 7 ∨ M = 8 ∨ M = 9 ∨ M = 10 ∨ M = 11 ∨ M = 12 := by omega
    clear m1 hm hM
    rcases h12 with rfl | rfl | rfl | rfl | rfl | rfl | rfl | rfl | rfl | rfl | rfl
    all_goals
      go_enter Tryz.func80, Tryz.ntmps80
      go_wp2_with fail
      go_ret
      refine ⟨ret_int ?_, bel⟩
      unfold mLen
      simp
end Go.Proofs.YthicilfhnakhmaaGreatDoor
