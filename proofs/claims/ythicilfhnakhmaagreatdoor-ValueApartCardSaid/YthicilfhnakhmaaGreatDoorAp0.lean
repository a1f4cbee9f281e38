/- Values apart: the order and the texts: plain. -/
import Derived.Test.YthicilfhnakhmaaGreatDoorTx5
import Derived.Test.YthicilfhnakhmaaGreatDoorVCmp
set_option linter.unusedSimpArgs false
set_option linter.unusedVariables false
namespace Go.Proofs.YthicilfhnakhmaaGreatDoor
open Go.RowKit Go.Sort Go.Lib

theorem nil_toList : (⟨#[]⟩ : ByteArray).toList = [] := by rw [ByteArray.toList_eq]
theorem snd_dec {v : Vl} (h : sndB v = true) : decSnd v.n v.s = true := by
  have hz : decSnd 0 0 = true := by decide
  unfold sndB at h
  split at h
  · have := of_decide_eq_true h; rw [this.1, this.2.1]; exact hz
  · split at h
    · simp only [Bool.and_eq_true] at h; exact h.2
    · split at h
      · simp only [Bool.and_eq_true] at h
        have := of_decide_eq_true h.1; rw [this.1, this.2.1]; exact hz
      · split at h
        · have := of_decide_eq_true h; rw [this.1, this.2.1]; exact hz
        · split at h
          · have := of_decide_eq_true h; rw [this.1, this.2.1]; exact hz
          · cases h
theorem units_inj {n s n' s' : Int} (h : decSnd n s = true) (h' : decSnd n' s' = true) (hu : unitsI n s = unitsI n' s') : n = n' ∧ s = s' := by
  obtain ⟨a1, a2, a3, a4, a5⟩ := decSnd_of h
  obtain ⟨b1, b2, b3, b4, b5⟩ := decSnd_of h'
  have hs : s = 0 ∨ s = 1 ∨ s = 2 ∨ s = 3 ∨ s = 4 ∨ s = 5 ∨ s = 6 := by omega
  have hs' : s' = 0 ∨ s' = 1 ∨ s' = 2 ∨ s' = 3 ∨ s' = 4 ∨ s' = 5 ∨ s' = 6 := by omega
  unfold unitsI at hu
  rcases hs with rfl | rfl | rfl | rfl | rfl | rfl | rfl <;> rcases hs' with rfl | rfl | rfl | rfl | rfl | rfl | rfl <;>
    (simp only [show (0 : Int).toNat = 0 from rfl, show (1 : Int).toNat = 1 from rfl, show (2 : Int).toNat = 2 from rfl, show (3 : Int).toNat = 3 from rfl, show (4 : Int).toNat = 4 from rfl, show (5 : Int).toNat = 5 from rfl, show (6 : Int).toNat = 6 from rfl] at hu
     simp only [Nat.reduceSub, Int.reducePow] at hu
     omega)
theorem lexB_no {α : Type} {l1 l2 : α → α → Bool} {a b : α} (h1 : lexB l1 l2 a b = false) (h2 : lexB l1 l2 b a = false) : l1 a b = false ∧ l1 b a = false ∧ l2 a b = false ∧ l2 b a = false := by
  unfold lexB at h1 h2
  cases e1 : l1 a b <;> cases e2 : l1 b a <;> simp_all
theorem nil_of_len {t : ByteArray} (h : t.toList = []) : t = ⟨#[]⟩ := toList_inj (h.trans nil_toList.symm)
theorem snd_ns {v : Vl} (h : sndB v = true) (hk : v.k ≠ 1) : v.n = 0 ∧ v.s = 0 := by
  unfold sndB at h
  by_cases h0 : v.k = 0
  · rw [if_pos h0] at h; have := of_decide_eq_true h; exact ⟨this.1, this.2.1⟩
  rw [if_neg h0, if_neg hk] at h
  by_cases h2 : v.k = 2
  · rw [if_pos h2, Bool.and_eq_true] at h; have := of_decide_eq_true h.1; exact ⟨this.1, this.2.1⟩
  rw [if_neg h2] at h
  by_cases h3 : v.k = 3
  · rw [if_pos h3] at h; have := of_decide_eq_true h; exact ⟨this.1, this.2.1⟩
  rw [if_neg h3] at h
  by_cases h4 : v.k = 4
  · rw [if_pos h4] at h; have := of_decide_eq_true h; exact ⟨this.1, this.2.1⟩
  rw [if_neg h4] at h
  cases h
theorem snd_oneV {v : Vl} (h : sndB v = true) (hk : v.k = 1) : v.t.toList = [] ∧ v.i = 0 := by
  unfold sndB at h
  rw [if_neg (by omega), if_pos hk] at h
  simp only [Bool.and_eq_true, decide_eq_true_eq] at h
  exact ⟨h.1.1, h.1.2⟩
/-- values of which none stands before the other are one -/
theorem tri_ltV {a b : Vl} (sa : sndB a = true) (sb : sndB b = true) (h1 : ltV a b = false) (h2 : ltV b a = false) : a = b := by
  unfold ltV at h1 h2
  obtain ⟨k1, k2, h1, h2⟩ := lexB_no h1 h2
  obtain ⟨u1, u2, h1, h2⟩ := lexB_no h1 h2
  obtain ⟨t1, t2, i1, i2⟩ := lexB_no h1 h2
  have hk : a.k = b.k := by have := of_decide_eq_false k1; have := of_decide_eq_false k2; omega
  have hu : vU a = vU b := by have := of_decide_eq_false u1; have := of_decide_eq_false u2; omega
  have ht : vT a = vT b := ltStr_tri t1 t2
  have hi : vI a = vI b := by have := of_decide_eq_false i1; have := of_decide_eq_false i2; omega
  have da := snd_dec sa
  have db := snd_dec sb
  obtain ⟨k, n, s, t, i⟩ := a
  obtain ⟨k', n', s', t', i'⟩ := b
  dsimp only at hk da db
  subst hk
  unfold vU at hu
  unfold vT at ht
  unfold vI at hi
  dsimp only at hu ht hi
  by_cases h1 : k = 1
  · subst h1
    rw [if_pos rfl, if_pos rfl] at hu
    obtain ⟨rfl, rfl⟩ := units_inj da db hu
    have a1 := snd_oneV sa rfl
    have b1 := snd_oneV sb rfl
    dsimp only at a1 b1
    rw [a1.2, b1.2, nil_of_len a1.1, nil_of_len b1.1]
  · rw [if_neg h1, if_neg h1] at ht hi
    have hn := snd_ns sa h1
    have hn' := snd_ns sb h1
    dsimp only at hn hn'
    rw [hn.1, hn.2, hn'.1, hn'.2, hi, toList_inj ht]
theorem cmpI_anti (x y : Int) : cmpI x y = -cmpI y x := by
  unfold cmpI
  by_cases h1 : x < y
  · rw [if_pos h1, if_neg (by omega), if_pos h1]
  · by_cases h2 : y < x
    · rw [if_neg h1, if_pos h2, if_pos h2]; rfl
    · rw [if_neg h1, if_neg h2, if_neg h2, if_neg h1]; rfl
theorem cmpT_anti (a b : ByteArray) : cmpT a b = -cmpT b a := by
  unfold cmpT
  rw [bytesLess_lt, bytesLess_lt]
  cases e1 : ltStr a.toList b.toList
  · cases e2 : ltStr b.toList a.toList
    · have e := ltStr_tri e1 e2
      rw [e]; simp
    · have hne : (a.toList == b.toList) = false := by
        rw [beq_eq_false_iff_ne]; intro h; rw [h, ltStr_irrefl] at e2; cases e2
      rw [hne]; simp
  · cases e2 : ltStr b.toList a.toList
    · have hne : (b.toList == a.toList) = false := by
        rw [beq_eq_false_iff_ne]; intro h; rw [h, ltStr_irrefl] at e1; cases e1
      rw [hne]; simp
    · have := swo_ltStr.trans _ _ _ e1 e2
      rw [ltStr_irrefl] at this; cases this
theorem orI_anti {x y x' y' : Int} (h1 : x = -x') (h2 : y = -y') : orI x y = -orI x' y' := by
  unfold orI
  by_cases h : x = 0
  · rw [if_pos h, if_pos (by omega), h2]
  · rw [if_neg h, if_neg (by omega), h1]
theorem cmpV_anti (a b : Vl) : cmpV a b = -cmpV b a := by
  unfold cmpV
  by_cases hk : a.k = b.k
  · rw [if_pos hk, if_pos hk.symm]
    by_cases h1 : a.k = 1
    · rw [if_pos h1, if_pos (by omega)]
      exact cmpI_anti _ _
    · rw [if_neg h1, if_neg (by omega)]
      exact orI_anti (cmpT_anti _ _) (cmpI_anti _ _)
  · rw [if_neg hk, if_neg (fun h => hk h.symm)]
    exact cmpI_anti _ _
theorem cmpV_self (a : Vl) : cmpV a a = 0 := by have := cmpV_anti a a; omega
theorem cmpV_zero {a b : Vl} (sa : sndB a = true) (sb : sndB b = true) : cmpV a b = 0 ↔ a = b := by
  constructor
  · intro h
    refine tri_ltV sa sb ?_ ?_
    · rw [← ltOf_cmpV]; unfold ltOf; exact decide_eq_false (by omega)
    · rw [← ltOf_cmpV]; unfold ltOf; have := cmpV_anti a b; exact decide_eq_false (by omega)
  · rintro rfl; exact cmpV_self a
theorem cmpV_tri (a b c : Vl) (h1 : ¬ 0 < cmpV a b) (h2 : ¬ 0 < cmpV b c) : cmpV a c ≤ 0 := by
  have e1 : ltV b a = false := by rw [← ltOf_cmpV]; unfold ltOf; have := cmpV_anti a b; exact decide_eq_false (by omega)
  have e2 : ltV c b = false := by rw [← ltOf_cmpV]; unfold ltOf; have := cmpV_anti b c; exact decide_eq_false (by omega)
  have e3 := swo_ltV.ntrans _ _ _ e2 e1
  rcases (by omega : cmpV a c ≤ 0 ∨ 0 < cmpV a c) with h | h
  · exact h
  · rw [cmpV_pos h] at e3; cases e3
/-- the first sign of a value's text -/
theorem valL_head {v : Vl} (h : sndB v = true) : ∃ x r, valL v = x :: r ∧ (v.k = 0 → x = 110) ∧ (v.k = 1 → x = 45 ∨ (48 ≤ x.toNat ∧ x.toNat < 58)) ∧ (v.k = 2 → x = 34) ∧ (v.k = 3 → x = 116 ∨ x = 102) ∧ (v.k = 4 → x = 64) := by
  rcases snd_k h with h0 | h0 | h0 | h0 | h0
  · exact ⟨110, [117, 108, 108], by unfold valL; rw [if_neg (by omega), if_neg (by omega), if_neg (by omega), if_neg (by omega)], fun _ => rfl, by omega, by omega, by omega, by omega⟩
  · obtain ⟨x, r, e, hx⟩ := decL_head v.n v.s
    exact ⟨x, r, by unfold valL; rw [if_pos h0]; exact e, by omega, fun _ => hx, by omega, by omega, by omega⟩
  · exact ⟨34, _, by unfold valL; rw [if_neg (by omega), if_pos h0]; rfl, by omega, by omega, fun _ => rfl, by omega, by omega⟩
  · by_cases hi : v.i = 1
    · exact ⟨116, [114, 117, 101], by unfold valL; rw [if_neg (by omega), if_neg (by omega), if_pos h0, if_pos hi], by omega, by omega, by omega, fun _ => .inl rfl, by omega⟩
    · exact ⟨102, [97, 108, 115, 101], by unfold valL; rw [if_neg (by omega), if_neg (by omega), if_pos h0, if_neg hi], by omega, by omega, by omega, fun _ => .inr rfl, by omega⟩
  · exact ⟨64, _, by unfold valL; rw [if_neg (by omega), if_neg (by omega), if_neg (by omega), if_pos h0], by omega, by omega, by omega, by omega, fun _ => rfl⟩
theorem valL_inj {a b : Vl} (sa : sndB a = true) (sb : sndB b = true) (h : valL a = valL b) : a = b := by
  have hk : a.k = b.k := by
    obtain ⟨x, r, e, x0, x1, x2, x3, x4⟩ := valL_head sa
    obtain ⟨y, r', e', y0, y1, y2, y3, y4⟩ := valL_head sb
    rw [e, e'] at h
    obtain rfl := (List.cons.inj h).1
    have d0 : (110 : UInt8).toNat = 110 := rfl
    have d1 : (45 : UInt8).toNat = 45 := rfl
    have d2 : (34 : UInt8).toNat = 34 := rfl
    have d3 : (116 : UInt8).toNat = 116 := rfl
    have d4 : (102 : UInt8).toNat = 102 := rfl
    have d5 : (64 : UInt8).toNat = 64 := rfl
    have cls : ∀ {v : Vl}, sndB v = true → (v.k = 0 → x = 110) → (v.k = 1 → x = 45 ∨ (48 ≤ x.toNat ∧ x.toNat < 58)) → (v.k = 2 → x = 34) → (v.k = 3 → x = 116 ∨ x = 102) → (v.k = 4 → x = 64) →
        v.k = (if x.toNat = 110 then 0 else if x.toNat = 34 then 2 else if x.toNat = 116 ∨ x.toNat = 102 then 3 else if x.toNat = 64 then 4 else 1) := by
      intro v sv z0 z1 z2 z3 z4
      rcases snd_k sv with h | h | h | h | h
      · rw [h, z0 h]; rfl
      · rw [h]
        rcases z1 h with e | ⟨e1, e2⟩
        · rw [e]; rfl
        · rw [if_neg (by omega), if_neg (by omega), if_neg (by omega), if_neg (by omega)]
      · rw [h, z2 h]; rfl
      · rw [h]; rcases z3 h with e | e <;> (rw [e]; rfl)
      · rw [h, z4 h]; rfl
    exact (cls sa x0 x1 x2 x3 x4).trans (cls sb y0 y1 y2 y3 y4).symm
  have sa' := sa
  have sb' := sb
  obtain ⟨k, n, s, t, i⟩ := a
  obtain ⟨k', n', s', t', i'⟩ := b
  dsimp only at hk
  subst hk
  unfold sndB at sa' sb'
  unfold valL at h
  dsimp only at sa' sb' h
  have bn : ∀ {u u' : ByteArray}, u.toList = [] → u'.toList = [] → u = u' := fun h h' => toList_inj (h.trans h'.symm)
  rcases snd_k sa with hk | hk | hk | hk | hk <;> dsimp only at hk <;> subst hk
  · simp at sa' sb'
    obtain ⟨rfl, rfl, a3, rfl⟩ := sa'
    obtain ⟨rfl, rfl, b3, rfl⟩ := sb'
    rw [bn a3 b3]
  · simp at sa' sb' h
    obtain ⟨⟨a1, rfl⟩, a2⟩ := sa'
    obtain ⟨⟨b1, rfl⟩, b2⟩ := sb'
    have p := decSnd_of a2
    have q := decSnd_of b2
    obtain ⟨rfl, rfl⟩ := decL_inj p.1 q.1 h
    rw [bn a1 b1]
  · simp at sa' sb' h
    obtain ⟨⟨rfl, rfl, rfl, _⟩, _⟩ := sa'
    obtain ⟨⟨rfl, rfl, rfl, _⟩, _⟩ := sb'
    have e := quoL_inj h
    have e2 : t = t' := by
      apply ByteArray.ext
      exact Array.toList_inj.1 e
    rw [e2]
  · simp at sa' sb' h
    obtain ⟨rfl, rfl, a3, a4⟩ := sa'
    obtain ⟨rfl, rfl, b3, b4⟩ := sb'
    have : i = i' := by
      rcases a4 with rfl | rfl <;> rcases b4 with rfl | rfl <;> simp_all
    rw [this, bn a3 b3]
  · simp at sa' sb' h
    obtain ⟨rfl, rfl, a3, a4, a5⟩ := sa'
    obtain ⟨rfl, rfl, b3, b4, b5⟩ := sb'
    obtain ⟨y, m, d, h1⟩ := date_of a4 a5
    obtain ⟨y', m', d', h2⟩ := date_of b4 b5
    rw [dayL_eq h1, dayL_eq h2] at h
    have e := dateL_inj h1 h2 h
    rw [e, bn a3 b3]
end Go.Proofs.YthicilfhnakhmaaGreatDoor
