import Derived.Test.YtankkadnhdfpfaaGreatDoorPk13
/- Whether a set has a value, kind by kind; a set in order: plain. -/
set_option linter.unusedSimpArgs false
set_option linter.unusedVariables false
namespace Go.Proofs.YtankkadnhdfpfaaGreatDoor
open Go.RowKit Sp Wd

theorem has_no {t : Ty} {s : St} {v : Vl} (h : inTy t v = false) : hasSt t s v = false := by unfold hasSt; rw [h]; rfl
theorem has_ne {t : Ty} {s : St} {v : Vl} (h : (s.k == t.k) = false) : hasSt t s v = false := by unfold hasSt; rw [h]; simp
theorem has_in {t : Ty} {s : St} {v : Vl} (h : inTy t v = true) (hk : s.k = t.k) : hasSt t s v = hasV t.sc s.sg v := by
  unfold hasSt; rw [h, show (s.k == t.k) = true by simp [hk]]; rfl
theorem has_0 {t : Ty} {s : St} {v : Vl} (h : inTy t v = true) (hk : s.k = t.k) (h0 : v.k = 0) : hasSt t s v = s.nul := by
  have h1 := (ty_of (in_fit h).1).1
  rw [has_in h hk]; unfold hasV St.sg
  rw [if_pos h0]
  show (decide (1 ≤ s.k ∧ s.k ≤ 4) && s.nul) = s.nul
  rw [decide_eq_true (by omega)]; rfl
theorem has_2 {t : Ty} {s : St} {v : Vl} (h : inTy t v = true) (hk : s.k = t.k) (h2 : v.k = 2) : hasSt t s v = inW s.al s.ws (txt v) := by
  have h1 := (in_fit h).2.2.1
  rw [has_in h hk]; unfold hasV St.sg
  rw [if_neg (by omega), if_pos h2]
  show (s.k == 2 && inW s.al s.ws (txt v)) = _
  rw [show (s.k == 2) = true by simp; omega]; rfl
theorem has_3 {t : Ty} {s : St} {v : Vl} (h : inTy t v = true) (hk : s.k = t.k) (h3 : v.k = 3) : (v.i = 0 ∧ hasSt t s v = bit0 s.b) ∨ (v.i = 1 ∧ hasSt t s v = bit1 s.b) := by
  have h1 := (in_fit h).2.2.1
  have hi := (sndThree (in_fit h).2.2.2.1 h3).2.2.2
  have e : (s.k == 3) = true := by simp; omega
  rw [has_in h hk]; unfold hasV St.sg
  rw [if_neg (by omega), if_neg (by omega), if_pos h3]
  rcases hi with hi | hi
  · left
    refine ⟨hi, ?_⟩
    show (v.i == 0 && (s.k == 3 && bit0 s.b) || v.i == 1 && (s.k == 3 && bit1 s.b)) = _
    rw [hi, e]; simp
  · right
    refine ⟨hi, ?_⟩
    show (v.i == 0 && (s.k == 3 && bit0 s.b) || v.i == 1 && (s.k == 3 && bit1 s.b)) = _
    rw [hi, e]; simp
theorem has_14 {t : Ty} {s : St} {v : Vl} (h : inTy t v = true) (hk : s.k = t.k) (h0 : v.k ≠ 0) (h2 : v.k ≠ 2) (h3 : v.k ≠ 3) : hasSt t s v = inS s.sp (unitsV t.sc v) ∧ (0 ≤ t.sc ∧ t.sc ≤ 6) ∧ (v.k = 1 → decSnd v.n v.s = true) := by
  obtain ⟨a1, a2, a3, a4, -⟩ := in_fit h
  have h1 := (ty_of a1).1
  refine ⟨?_, (ty_of a1).2.1, fun e => (sndOne a4 e).2.2⟩
  rw [has_in h hk]; unfold hasV St.sg
  rw [if_neg h0, if_neg h2, if_neg h3]
  show (numK s.k && inS s.sp _) = _
  have e : numK s.k = true := by unfold numK; simp; omega
  rw [e]; rfl
theorem five_k {t : Ty} {v : Vl} (h : inTy t v = true) : v.k = 0 ∨ v.k = 2 ∨ v.k = 3 ∨ (v.k ≠ 0 ∧ v.k ≠ 2 ∧ v.k ≠ 3) := by omega
theorem norm_id {l : List Tx} (h : l.Pairwise (· < ·)) (h2 : ∀ x ∈ l, textB x = true) : norm l = l :=
  rise_eq (norm_lt l) h (fun x => by rw [mem_norm]; exact ⟨fun q => q.1, fun q => ⟨q, h2 x q⟩⟩)
/-- the kinds of a set in order -/
theorem is_kinds {g : Sg} {s : St} (h : Is g s) (hk : 1 ≤ g.k ∧ g.k ≤ 4) :
    ((s.k = 1 ∨ s.k = 4) ∧ s.al = false ∧ s.ws = [] ∧ s.b = 0) ∨ (s.k = 2 ∧ s.sp = [] ∧ s.b = 0) ∨ (s.k = 3 ∧ s.sp = [] ∧ s.al = false ∧ s.ws = [] ∧ (s.b = 0 ∨ s.b = 1 ∨ s.b = 2 ∨ s.b = 3)) := by
  have e := h.k
  have four : g.k = 1 ∨ g.k = 4 ∨ g.k = 2 ∨ g.k = 3 := by omega
  rcases four with h1 | h1 | h1 | h1
  · left
    have c := h.c3 (by omega)
    refine ⟨.inl (by omega), (h.c2 (by omega)).1, (h.c2 (by omega)).2, ?_⟩
    rw [h.b, c.1, c.2]; rfl
  · left
    have c := h.c3 (by omega)
    refine ⟨.inr (by omega), (h.c2 (by omega)).1, (h.c2 (by omega)).2, ?_⟩
    rw [h.b, c.1, c.2]; rfl
  · right; left
    have c := h.c3 (by omega)
    refine ⟨by omega, h.c1 (by rw [h1]; rfl), ?_⟩
    rw [h.b, c.1, c.2]; rfl
  · right; right
    refine ⟨by omega, h.c1 (by rw [h1]; rfl), (h.c2 (by omega)).1, (h.c2 (by omega)).2, ?_⟩
    rw [h.b]; cases g.f <;> cases g.t <;> simp [bN]
theorem i64_and2 (n : Int) : (bits .and .i64 n 2 == 2) = (n / 2 % 2 == 1) := by
  have h2 : (BitVec.ofInt 64 2).toNat = 2 ^ 1 := by decide
  have key : (BitVec.ofInt 64 n &&& BitVec.ofInt 64 2).toNat = ((n % ((2 ^ 64 : Nat) : Int)).toNat.testBit 1).toNat * 2 ^ 1 := by
    rw [BitVec.toNat_and, BitVec.toNat_ofInt, h2]
    apply Nat.eq_of_testBit_eq
    intro i
    rw [Nat.testBit_and, Nat.testBit_two_pow]
    have h3 : ∀ b : Bool, (b.toNat * 2 ^ 1).testBit i = (b && decide (1 = i)) := by
      intro b
      cases b
      · simp
      · rw [show true.toNat * 2 ^ 1 = 2 ^ 1 by decide, Nat.testBit_two_pow]; rfl
    rw [h3]
    by_cases hi : 1 = i
    · subst hi; simp
    · rw [decide_eq_false hi]; simp
  have e : (n % ((2 ^ 64 : Nat) : Int)).toNat.testBit 1 = (n / 2 % 2 == 1) := by
    rw [Nat.testBit_eq_decide_div_mod_eq, Bool.eq_iff_iff, decide_eq_true_eq, beq_iff_eq]
    omega
  show (IntKind.i64.wrap ((BitVec.ofInt 64 n &&& BitVec.ofInt 64 2).toNat : Nat) == 2) = _
  rw [key, e, IntKind.wrap_i64]
  cases (n / 2 % 2 == 1) <;> rfl
end Go.Proofs.YtankkadnhdfpfaaGreatDoor
