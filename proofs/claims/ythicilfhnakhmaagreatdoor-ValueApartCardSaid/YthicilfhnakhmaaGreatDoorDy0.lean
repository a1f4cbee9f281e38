/- Days and dates: plain. -/
import Derived.Test.YthicilfhnakhmaaGreatDoorTx0
set_option linter.unusedSimpArgs false
set_option linter.unusedVariables false
namespace Go.Proofs.YthicilfhnakhmaaGreatDoor
open Go.Lib

def leapB (y : Int) : Bool := decide (y % 4 = 0) && (decide (y % 100 ≠ 0) || decide (y % 400 = 0))
/-- the days of a year ahead of its first, since the first of all -/
def fstY (y : Int) : Int := 365 * (y - 1) + (y - 1) / 4 - (y - 1) / 100 + (y - 1) / 400
def yearL (y : Int) : Int := if leapB y = true then 366 else 365
theorem fstY_succ (y : Int) : fstY (y + 1) = fstY y + yearL y := by
  unfold fstY yearL leapB
  simp only [Bool.and_eq_true, Bool.or_eq_true, decide_eq_true_eq]
  split <;> omega
theorem fstY_mono {a b : Int} (h : a ≤ b) : fstY a ≤ fstY b := by
  unfold fstY
  omega
def mLen (y m : Int) : Int := if m = 2 then (if leapB y = true then 29 else 28) else if m = 4 ∨ m = 6 ∨ m = 9 ∨ m = 11 then 30 else 31
theorem mLen_bd (y m : Int) : 28 ≤ mLen y m ∧ mLen y m ≤ 31 := by
  unfold mLen; split <;> (try split) <;> omega
/-- the days of the first months of a year -/
def mCum (y : Int) : Nat → Int
  | 0 => 0
  | k + 1 => mCum y k + mLen y (k + 1)
theorem mCum_year (y : Int) : mCum y 12 = yearL y := by
  simp only [mCum, mLen, yearL]
  cases leapB y <;> simp <;> omega
theorem mCum_mono (y : Int) : ∀ {a b : Nat}, a ≤ b → mCum y a ≤ mCum y b := by
  intro a b h
  induction b with
  | zero => rw [show a = 0 by omega]; exact Int.le_refl _
  | succ b ih =>
    by_cases hb : a ≤ b
    · have := ih hb
      have := mLen_bd y (b + 1)
      rw [mCum]; omega
    · rw [show a = b + 1 by omega]; exact Int.le_refl _
/-- the date of a day: month m + 1 -/
structure IsDate (n y : Int) (m : Nat) (d : Int) : Prop where
  y1 : 1 ≤ y
  y2 : y ≤ 9999
  m2 : m < 12
  lo : fstY y ≤ n
  hi : n < fstY (y + 1)
  ml : mCum y m ≤ n - fstY y
  mh : n - fstY y < mCum y (m + 1)
  dd : d = n - fstY y - mCum y m + 1
theorem IsDate.unique {n y y' d d' : Int} {m m' : Nat} (h : IsDate n y m d) (h' : IsDate n y' m' d') : y = y' ∧ m = m' ∧ d = d' := by
  have hy : y = y' := by
    rcases Int.lt_trichotomy y y' with hl | rfl | hl
    · have := fstY_mono (show y + 1 ≤ y' by omega); have := h.hi; have := h'.lo; omega
    · rfl
    · have := fstY_mono (show y' + 1 ≤ y by omega); have := h'.hi; have := h.lo; omega
  subst hy
  have hm : m = m' := by
    rcases Nat.lt_trichotomy m m' with hl | rfl | hl
    · have := mCum_mono y (show m + 1 ≤ m' by omega); have := h.mh; have := h'.ml; omega
    · rfl
    · have := mCum_mono y (show m' + 1 ≤ m by omega); have := h'.mh; have := h.ml; omega
  subst hm
  exact ⟨rfl, rfl, h.dd.trans h'.dd.symm⟩
theorem IsDate.same {n n' y d : Int} {m : Nat} (h : IsDate n y m d) (h' : IsDate n' y m d) : n = n' := by
  have := h.dd; have := h'.dd; omega
theorem IsDate.d_bd {n y d : Int} {m : Nat} (h : IsDate n y m d) : 1 ≤ d ∧ d ≤ 31 := by
  have h1 := h.dd; have h2 := h.ml; have h3 := h.mh
  rw [mCum] at h3
  have := mLen_bd y (m + 1)
  omega
/-- a date's text -/
def dateL (y : Int) (m : Nat) (d : Int) : List UInt8 := padD y.toNat 4 ++ 45 :: (padD (m + 1) 2 ++ 45 :: padD d.toNat 2)
theorem padD_len {u k : Nat} (h : (decDigits u).length ≤ k) : (padD u k).length = k := by
  unfold padD; rw [List.length_append, List.length_replicate]; omega
theorem padD_inj {u v k : Nat} (h : padD u k = padD v k) (hu : (decDigits u).length ≤ k) (hv : (decDigits v).length ≤ k) : u = v := by
  have key : ∀ (k u v : Nat), padD u (k + 1) = padD v (k + 1) → u < 10 ^ (k + 1) → v < 10 ^ (k + 1) → u = v := by
    intro k
    induction k with
    | zero =>
      intro u v h hu hv
      rw [padD_split, padD_split] at h
      simp [lowD] at h
      exact decDigits_inj h
    | succ k ih =>
      intro u v h hu hv
      rw [padD_succ, padD_succ] at h
      obtain ⟨h1, h2⟩ := List.append_inj' h rfl
      have e1 := ih (u / 10) (v / 10) h1 (by rw [Nat.pow_succ] at hu; omega) (by rw [Nat.pow_succ] at hv; omega)
      have e2 := dig_inj (Nat.mod_lt _ (by decide)) (Nat.mod_lt _ (by decide)) (List.cons.inj h2).1
      omega
  have lt : ∀ (k u : Nat), (decDigits u).length ≤ k → u < 10 ^ k := by
    intro k
    induction k with
    | zero => intro u h; have := decDigits_pos u; omega
    | succ k ih =>
      intro u h
      by_cases hu : u < 10
      · have : 10 ^ 1 ≤ 10 ^ (k + 1) := Nat.pow_le_pow_right (by decide) (by omega)
        omega
      · rw [decDigits_big hu, List.length_append, List.length_singleton] at h
        have := ih (u / 10) (by omega)
        rw [Nat.pow_succ]; omega
  cases k with
  | zero => have := decDigits_pos u; omega
  | succ k => exact key k u v h (lt _ _ hu) (lt _ _ hv)
theorem dateL_inj {n n' y y' d d' : Int} {m m' : Nat} (h : IsDate n y m d) (h' : IsDate n' y' m' d') (e : dateL y m d = dateL y' m' d') : n = n' := by
  have l4 : ∀ {y : Int}, 1 ≤ y → y ≤ 9999 → (decDigits y.toNat).length ≤ 4 := fun h1 h2 => dec_len_lt (k := 3) (by omega)
  have l2 : ∀ {u : Nat}, u < 100 → (decDigits u).length ≤ 2 := fun h1 => dec_len_lt (k := 1) (by omega)
  have hd := h.d_bd
  have hd' := h'.d_bd
  have hm := h.m2
  have hm' := h'.m2
  unfold dateL at e
  obtain ⟨e1, e2⟩ := List.append_inj e (by rw [padD_len (l4 h.y1 h.y2), padD_len (l4 h'.y1 h'.y2)])
  obtain ⟨e3, e4⟩ := List.append_inj (List.cons.inj e2).2 (by rw [padD_len (l2 (by omega)), padD_len (l2 (by omega))])
  have a := padD_inj e1 (l4 h.y1 h.y2) (l4 h'.y1 h'.y2)
  have b := padD_inj e3 (l2 (by omega)) (l2 (by omega))
  have c := padD_inj (List.cons.inj e4).2 (l2 (by omega)) (l2 (by omega))
  have ey : y = y' := by have := h.y1; have := h'.y1; omega
  have em : m = m' := by omega
  have ed : d = d' := by omega
  subst ey em ed
  exact h.same h'
theorem fstY_one : fstY 1 = 0 := by decide
theorem fstY_end : fstY 10000 = 3652059 := by decide
/-- each day has its date -/
theorem IsDate.of {n y : Int} {m : Nat} (y1 : 1 ≤ y) (lo : fstY y ≤ n) (hi : n < fstY (y + 1)) (hn : n < 3652059) (ml : mCum y m ≤ n - fstY y) (mh : n - fstY y < mCum y (m + 1)) : IsDate n y m (n - fstY y - mCum y m + 1) := by
  refine ⟨y1, ?_, ?_, lo, hi, ml, mh, rfl⟩
  · rcases (by omega : 9999 < y ∨ y ≤ 9999) with h | h
    · have := fstY_mono (show (10000 : Int) ≤ y by omega)
      rw [fstY_end] at this; omega
    · exact h
  · rcases Nat.lt_or_ge m 12 with h | h
    · exact h
    · have := mCum_mono y h
      rw [mCum_year] at this
      rw [fstY_succ] at hi
      omega
open Classical in
/-- a day's text -/
noncomputable def dayL (n : Int) : List UInt8 := if h : ∃ l, ∃ y m d, IsDate n y m d ∧ l = dateL y m d then h.choose else []
theorem dayL_eq {n y d : Int} {m : Nat} (h : IsDate n y m d) : dayL n = dateL y m d := by
  have hx : ∃ l, ∃ y m d, IsDate n y m d ∧ l = dateL y m d := ⟨_, _, _, _, h, rfl⟩
  unfold dayL
  rw [dif_pos hx]
  obtain ⟨y', m', d', h', e⟩ := hx.choose_spec
  obtain ⟨rfl, rfl, rfl⟩ := h.unique h'
  exact e
end Go.Proofs.YthicilfhnakhmaaGreatDoor
