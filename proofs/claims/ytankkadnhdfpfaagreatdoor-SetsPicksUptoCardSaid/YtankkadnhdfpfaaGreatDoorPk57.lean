import Derived.Test.YtankkadnhdfpfaaGreatDoorPk45
/- The value that is picked of a set: plain. -/
set_option linter.unusedSimpArgs false
set_option linter.unusedVariables false
namespace Go.Proofs.YtankkadnhdfpfaaGreatDoor
open Go.RowKit Sp Wd Go.Lib Go.Sort

theorem shU_end1 (s : Nat) : ∀ n, (shU s n).2 = 0 ∨ (shU s n).1 % 10 ≠ 0 := by
  induction s with
  | zero => intro n; exact .inl rfl
  | succ s ih =>
    intro n
    by_cases h : n % 10 = 0
    · rw [shU_cut s n h]; exact ih _
    · rw [shU_stop s n h]; exact .inr h
theorem mk_all {n sc : Int} (h : decIn n sc = true) : decSnd (mkN n sc) (mkS n sc) = true ∧ atI (mkN n sc) (mkS n sc) sc = n ∧ atE (mkN n sc) (mkS n sc) sc = true := by
  obtain ⟨h1, h2, h3, h4⟩ := decIn_of h
  have hl := shU_le sc.toNat n.natAbs
  have he := shU_end1 sc.toNat n.natAbs
  have hv := shU_val sc.toNat n.natAbs
  have hsN : sgn (decide (n < 0)) (shU sc.toNat n.natAbs).1 = if n < 0 then -((shU sc.toNat n.natAbs).1 : Int) else ((shU sc.toNat n.natAbs).1 : Int) := by
    unfold sgn; by_cases hn : n < 0 <;> simp [hn]
  have hs0 : 0 ≤ mkS n sc := by unfold mkS; omega
  have hs1 : mkS n sc ≤ sc := by unfold mkS; omega
  obtain ⟨u1, u2⟩ := at_up (n := mkN n sc) hs0 hs1 h2
  refine ⟨?_, ?_, u2⟩
  · unfold decSnd mkN
    rw [hsN]
    refine decide_eq_true ⟨hs0, by omega, ?_, ?_, ?_⟩
    · split <;> omega
    · split <;> omega
    · rcases he with he | he
      · left; unfold mkS; omega
      · right; split <;> omega
  · rw [u1]
    have e : sc.toNat - (mkS n sc).toNat = sc.toNat - (shU sc.toNat n.natAbs).2 := by unfold mkS; omega
    rw [e]
    unfold mkN
    rw [hsN]
    have hvI : (((shU sc.toNat n.natAbs).1 : Nat) : Int) * (10 : Int) ^ (sc.toNat - (shU sc.toNat n.natAbs).2) = (n.natAbs : Int) := by
      have := congrArg (fun x : Nat => (x : Int)) hv
      simpa using this
    split
    · rw [Int.neg_mul, hvI]; omega
    · rw [hvI]; omega
theorem bs_data (s : Tx) : txt ⟨2, 0, 0, bs s, 0⟩ = s := by unfold txt bs; simp
theorem nil_list : (⟨#[]⟩ : ByteArray).toList = [] := by rw [ByteArray.toList_eq]
theorem joinsG_txt (t : Ty) : ∀ (l : List Tst) (g : Sg), (∀ x, g.Q x = true → textB x = true) → ∀ x, (joinsG t l g).Q x = true → textB x = true
  | [], _, h => h
  | y :: r, g, h => by
    refine joinsG_txt t r (g.join (testG t y)) (fun x hx => ?_)
    have hx' : (g.Q x || (testG t y).Q x) = true := hx
    rw [Bool.or_eq_true] at hx'
    rcases hx' with h1 | h1
    · exact h x h1
    · unfold testG at h1
      split at h1
      · cases h1
      · split at h1
        · have h2 : (t.k == 2 && (textB x && x == txt y.lo)) = true := h1
          rw [Bool.and_eq_true, Bool.and_eq_true] at h2
          exact h2.2.1
        · cases h1
theorem holdsG_txt (t : Ty) (c : Cel) (x : Tx) (h : (holdsG t c).Q x = true) : textB x = true := by
  unfold holdsG at h
  split at h
  · have h2 : (t.k == 2 && textB x) = true := h
    rw [Bool.and_eq_true] at h2; exact h2.2
  · split at h
    · have h2 : (((joinsG t c.ts (noneG t.k)).k == 2 && textB x) && _) = true := h
      rw [Bool.and_eq_true, Bool.and_eq_true] at h2; exact h2.1.2
    · exact joinsG_txt t c.ts (noneG t.k) (fun x hx => by cases hx) x h
/-- the picked value is of the type, and in the set -/
theorem best_in {t : Ty} {h : Sg} {v : Vl} (ht : tySnd t = true) (hb : BestV t ((fullG t).meet h) v) : inTy t v = true ∧ hasV t.sc h v = true ∧ v.k = t.k := by
  obtain ⟨kd, scb, -, hu⟩ := ty_of ht
  have key : ∀ v : Vl, v.k = t.k → fitT t v = true → hasV t.sc ((fullG t).meet h) v = true → inTy t v = true ∧ hasV t.sc h v = true ∧ v.k = t.k := fun v hk hf hV => by
    rw [hasV_meet, Bool.and_eq_true] at hV
    refine ⟨?_, hV.2, hk⟩
    have h1 := hV.1
    rw [full_has kd hu hf] at h1
    unfold inTy
    rw [ht, hf, h1]; rfl
  rcases hb with ⟨hk, n, ⟨hP, -⟩, rfl⟩ | ⟨hk, n, ⟨hP, -⟩, rfl⟩ | ⟨hk, s, hQ, rfl⟩ | ⟨hk, hb⟩
  · have hP1 : (fullG t).P n = true := by
      have h2 : ((fullG t).P n && h.P n) = true := hP
      rw [Bool.and_eq_true] at h2; exact h2.1
    have hext := fullG_ext t n hP1
    have hbd := ext_bd hext
    obtain ⟨m1, m2, m3⟩ := mk_all (show decIn n t.sc = true from decide_eq_true ⟨scb.1, scb.2, hbd.1, hbd.2⟩)
    refine key _ hk.symm ?_ ?_
    · unfold fitT sndB
      simp only
      simp [m1, m2, m3, hk, nil_list]
      omega
    · unfold hasV
      rw [if_neg (by show (1 : Int) ≠ 0; decide), if_neg (by show (1 : Int) ≠ 2; decide), if_neg (by show (1 : Int) ≠ 3; decide)]
      unfold unitsV
      rw [if_pos rfl]
      show ((fullG t).meet h).P (atI (mkN n t.sc) (mkS n t.sc) t.sc) = true
      rw [m2]; exact hP
  · have hP1 : (fullG t).P n = true := by
      have h2 : ((fullG t).P n && h.P n) = true := hP
      rw [Bool.and_eq_true] at h2; exact h2.1
    have hext := fullG_ext t n hP1
    have hx : 0 ≤ n ∧ n ≤ 3652058 := by
      unfold extP lowK topK at hext
      rw [if_pos hk, if_pos hk] at hext
      simpa using hext
    refine key _ hk.symm ?_ ?_
    · unfold fitT sndB
      simp only
      simp [hk, nil_list]
      exact hx
    · unfold hasV
      rw [if_neg (by show (4 : Int) ≠ 0; decide), if_neg (by show (4 : Int) ≠ 2; decide), if_neg (by show (4 : Int) ≠ 3; decide)]
      unfold unitsV
      rw [if_neg (by show (4 : Int) ≠ 1; decide)]
      exact hP
  · have hQ1 : textB s = true := by
      have h2 : ((fullG t).Q s && h.Q s) = true := hQ
      rw [Bool.and_eq_true] at h2
      have h3 := h2.1
      have h4 : (holdsG t t.c).Q s = true := h3
      exact holdsG_txt t t.c s h4
    have hT : textB s = true := hQ1
    unfold textB at hQ1
    rw [Bool.and_eq_true, decide_eq_true_eq] at hQ1
    refine key _ hk.symm ?_ ?_
    · unfold fitT sndB
      simp only
      have : (bs s).size ≤ 256 := by rw [bs_size']; exact hQ1.1
      simp [this, hk, hQ1.2]
    · unfold hasV
      rw [if_neg (by show (2 : Int) ≠ 0; decide), if_pos rfl, bs_data]
      exact hQ
  · rcases hb with ⟨hf, rfl⟩ | ⟨hf, htt, rfl⟩
    · refine key _ hk.symm ?_ ?_
      · unfold fitT sndB
        simp only
        simp [hk, nil_list]
      · unfold hasV
        rw [if_neg (by show (3 : Int) ≠ 0; decide), if_neg (by show (3 : Int) ≠ 2; decide), if_pos rfl, hf]; rfl
    · refine key _ hk.symm ?_ ?_
      · unfold fitT sndB
        simp only
        simp [hk, nil_list]
      · unfold hasV
        rw [if_neg (by show (3 : Int) ≠ 0; decide), if_neg (by show (3 : Int) ≠ 2; decide), if_pos rfl, hf, htt]; rfl
/-- of all but some texts there is one -/
theorem none_al {g : Sg} {s : St} (is : Is g s) (h : ∀ x, g.Q x = false) (hl : s.ws.length ≤ 10000000000000000) : s.al = false := by
  cases hal : s.al
  · rfl
  · exfalso
    have h1 : ∀ m, m < s.ws.length + 1 → decDigits m ∈ s.ws := fun m hm => by
      have h2 := is.ws (decDigits m)
      rw [h, hal] at h2
      unfold inW at h2
      rw [textB_dec m (by omega), Bool.true_and] at h2
      cases hc : s.ws.contains (decDigits m)
      · rw [hc] at h2; cases h2
      · exact List.contains_iff_mem.1 hc
    have := decs_le _ _ h1
    omega
end Go.Proofs.YtankkadnhdfpfaaGreatDoor
