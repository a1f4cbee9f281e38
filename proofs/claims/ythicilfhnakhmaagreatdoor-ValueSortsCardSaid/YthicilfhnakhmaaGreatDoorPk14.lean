import Derived.Test.YthicilfhnakhmaaGreatDoorPk05
import Derived.Test.YthicilfhnakhmaaGreatDoorPk13
import Derived.Test.YthicilfhnakhmaaGreatDoorPk06
import Derived.Deep.Quiet
import Derived.Deep.QuietTactic
import Derived.Test.YthicilfhnakhmaaGreatDoorPk08
import Derived.Test.YthicilfhnakhmaaGreatDoorPk03
/- The order of values: the signs. -/
set_option linter.unusedSimpArgs false
set_option linter.unusedVariables false
namespace Go.Proofs.YthicilfhnakhmaaGreatDoor
open Go.RowKit Go.Sort

theorem cmpV_pos {a b : Vl} (h : 0 < cmpV a b) : ltV b a = true := by
  cases hb : ltV b a
  · exfalso
    have h2 : ltV a b = false := by
      rw [← ltOf_cmpV]
      unfold ltOf
      exact decide_eq_false (by omega)
    have h3 : ¬ cmpV b a < 0 := by rw [← ltOf_cmpV] at hb; unfold ltOf at hb; exact of_decide_eq_false hb
    have h4 : cmpV a b = -cmpV b a ∨ cmpV a b = 0 := by
      unfold cmpV at h h3 ⊢
      by_cases hk : a.k = b.k
      · rw [if_pos hk, if_pos hk.symm] at *
        by_cases h1 : a.k = 1
        · have h1' : b.k = 1 := by omega
          rw [if_pos h1, if_pos h1'] at *
          unfold cmpD cmpI at *
          by_cases u1 : unitsI a.n a.s < unitsI b.n b.s
          · simp [u1] at h
          · by_cases u2 : unitsI b.n b.s < unitsI a.n a.s
            · simp [u2] at h3
            · simp [u1, u2] at h
        · have h1' : ¬ b.k = 1 := by omega
          rw [if_neg h1, if_neg h1'] at *
          unfold cmpT cmpI orI at *
          rw [bytesLess_lt, bytesLess_lt] at *
          cases e1 : ltStr a.t.toList b.t.toList
          · cases e2 : ltStr b.t.toList a.t.toList
            · have e := ltStr_tri e1 e2
              rw [e] at h h3
              rw [ltStr_irrefl] at h h3
              by_cases i1 : a.i < b.i
              · simp [i1] at h
              · by_cases i2 : b.i < a.i
                · simp [i2] at h3
                · simp [i1, i2] at h
            · rw [e2] at h3
              simp at h3
          · rw [e1] at h
            simp at h
      · have hk' : ¬ b.k = a.k := fun h => hk h.symm
        rw [if_neg hk, if_neg hk'] at *
        unfold cmpI at *
        by_cases u1 : a.k < b.k
        · simp [u1] at h
        · have u2 : b.k < a.k := by omega
          simp [u2] at h3
    omega
  · rfl
theorem cmpV_neg {a b : Vl} (h : cmpV a b < 0) : ltV a b = true := by rw [← ltOf_cmpV]; unfold ltOf; exact decide_eq_true h
end Go.Proofs.YthicilfhnakhmaaGreatDoor

/- Values apart: the order and the texts: plain. -/
set_option linter.unusedSimpArgs false
set_option linter.unusedVariables false
namespace Go.Proofs.YthicilfhnakhmaaGreatDoor
open Go.RowKit Go.Sort Go.Lib

theorem nil_toList : (⟨#[]⟩ : ByteArray).toList = [] := by rw [ByteArray.toList_eq]
theorem snd_dec {v : Vl} (h : sndB v = true) : decSnd v.n v.s = true := by
  have hz : decSnd 0 0 = true := by decide
  unfold sndB at h
  split at h
  · have := of_decide_eq_true h; rw [this.1, this.2.1]; exact hz
  · split at h
    · simp only [Bool.and_eq_true] at h; exact h.2
    · split at h
      · simp only [Bool.and_eq_true] at h
        have := of_decide_eq_true h.1; rw [this.1, this.2.1]; exact hz
      · split at h
        · have := of_decide_eq_true h; rw [this.1, this.2.1]; exact hz
        · split at h
          · have := of_decide_eq_true h; rw [this.1, this.2.1]; exact hz
          · cases h
theorem units_inj {n s n' s' : Int} (h : decSnd n s = true) (h' : decSnd n' s' = true) (hu : unitsI n s = unitsI n' s') : n = n' ∧ s = s' := by
  obtain ⟨a1, a2, a3, a4, a5⟩ := decSnd_of h
  obtain ⟨b1, b2, b3, b4, b5⟩ := decSnd_of h'
  have hs : s = 0 ∨ s = 1 ∨ s = 2 ∨ s = 3 ∨ s = 4 ∨ s = 5 ∨ s = 6 := by omega
  have hs' : s' = 0 ∨ s' = 1 ∨ s' = 2 ∨ s' = 3 ∨ s' = 4 ∨ s' = 5 ∨ s' = 6 := by omega
  unfold unitsI at hu
  rcases hs with rfl | rfl | rfl | rfl | rfl | rfl | rfl <;> rcases hs' with rfl | rfl | rfl | rfl | rfl | rfl | rfl <;>
    (simp only [show (0 : Int).toNat = 0 from rfl, show (1 : Int).toNat = 1 from rfl, show (2 : Int).toNat = 2 from rfl, show (3 : Int).toNat = 3 from rfl, show (4 : Int).toNat = 4 from rfl, show (5 : Int).toNat = 5 from rfl, show (6 : Int).toNat = 6 from rfl] at hu
     simp only [Nat.reduceSub, Int.reducePow] at hu
     omega)
theorem lexB_no {α : Type} {l1 l2 : α → α → Bool} {a b : α} (h1 : lexB l1 l2 a b = false) (h2 : lexB l1 l2 b a = false) : l1 a b = false ∧ l1 b a = false ∧ l2 a b = false ∧ l2 b a = false := by
  unfold lexB at h1 h2
  cases e1 : l1 a b <;> cases e2 : l1 b a <;> simp_all
theorem nil_of_len {t : ByteArray} (h : t.toList = []) : t = ⟨#[]⟩ := toList_inj (h.trans nil_toList.symm)
theorem snd_ns {v : Vl} (h : sndB v = true) (hk : v.k ≠ 1) : v.n = 0 ∧ v.s = 0 := by
  unfold sndB at h
  by_cases h0 : v.k = 0
  · rw [if_pos h0] at h; have := of_decide_eq_true h; exact ⟨this.1, this.2.1⟩
  rw [if_neg h0, if_neg hk] at h
  by_cases h2 : v.k = 2
  · rw [if_pos h2, Bool.and_eq_true] at h; have := of_decide_eq_true h.1; exact ⟨this.1, this.2.1⟩
  rw [if_neg h2] at h
  by_cases h3 : v.k = 3
  · rw [if_pos h3] at h; have := of_decide_eq_true h; exact ⟨this.1, this.2.1⟩
  rw [if_neg h3] at h
  by_cases h4 : v.k = 4
  · rw [if_pos h4] at h; have := of_decide_eq_true h; exact ⟨this.1, this.2.1⟩
  rw [if_neg h4] at h
  cases h
theorem snd_oneV {v : Vl} (h : sndB v = true) (hk : v.k = 1) : v.t.toList = [] ∧ v.i = 0 := by
  unfold sndB at h
  rw [if_neg (by omega), if_pos hk] at h
  simp only [Bool.and_eq_true, decide_eq_true_eq] at h
  exact ⟨h.1.1, h.1.2⟩
/-- values of which none stands before the other are one -/
theorem tri_ltV {a b : Vl} (sa : sndB a = true) (sb : sndB b = true) (h1 : ltV a b = false) (h2 : ltV b a = false) : a = b := by
  unfold ltV at h1 h2
  obtain ⟨k1, k2, h1, h2⟩ := lexB_no h1 h2
  obtain ⟨u1, u2, h1, h2⟩ := lexB_no h1 h2
  obtain ⟨t1, t2, i1, i2⟩ := lexB_no h1 h2
  have hk : a.k = b.k := by have := of_decide_eq_false k1; have := of_decide_eq_false k2; omega
  have hu : vU a = vU b := by have := of_decide_eq_false u1; have := of_decide_eq_false u2; omega
  have ht : vT a = vT b := ltStr_tri t1 t2
  have hi : vI a = vI b := by have := of_decide_eq_false i1; have := of_decide_eq_false i2; omega
  have da := snd_dec sa
  have db := snd_dec sb
  obtain ⟨k, n, s, t, i⟩ := a
  obtain ⟨k', n', s', t', i'⟩ := b
  dsimp only at hk da db
  subst hk
  unfold vU at hu
  unfold vT at ht
  unfold vI at hi
  dsimp only at hu ht hi
  by_cases h1 : k = 1
  · subst h1
    rw [if_pos rfl, if_pos rfl] at hu
    obtain ⟨rfl, rfl⟩ := units_inj da db hu
    have a1 := snd_oneV sa rfl
    have b1 := snd_oneV sb rfl
    dsimp only at a1 b1
    rw [a1.2, b1.2, nil_of_len a1.1, nil_of_len b1.1]
  · rw [if_neg h1, if_neg h1] at ht hi
    have hn := snd_ns sa h1
    have hn' := snd_ns sb h1
    dsimp only at hn hn'
    rw [hn.1, hn.2, hn'.1, hn'.2, hi, toList_inj ht]
theorem cmpI_anti (x y : Int) : cmpI x y = -cmpI y x := by
  unfold cmpI
  by_cases h1 : x < y
  · rw [if_pos h1, if_neg (by omega), if_pos h1]
  · by_cases h2 : y < x
    · rw [if_neg h1, if_pos h2, if_pos h2]; rfl
    · rw [if_neg h1, if_neg h2, if_neg h2, if_neg h1]; rfl
theorem cmpT_anti (a b : ByteArray) : cmpT a b = -cmpT b a := by
  unfold cmpT
  rw [bytesLess_lt, bytesLess_lt]
  cases e1 : ltStr a.toList b.toList
  · cases e2 : ltStr b.toList a.toList
    · have e := ltStr_tri e1 e2
      rw [e]; simp
    · have hne : (a.toList == b.toList) = false := by
        rw [beq_eq_false_iff_ne]; intro h; rw [h, ltStr_irrefl] at e2; cases e2
      rw [hne]; simp
  · cases e2 : ltStr b.toList a.toList
    · have hne : (b.toList == a.toList) = false := by
        rw [beq_eq_false_iff_ne]; intro h; rw [h, ltStr_irrefl] at e1; cases e1
      rw [hne]; simp
    · have := swo_ltStr.trans _ _ _ e1 e2
      rw [ltStr_irrefl] at this; cases this
theorem orI_anti {x y x' y' : Int} (h1 : x = -x') (h2 : y = -y') : orI x y = -orI x' y' := by
  unfold orI
  by_cases h : x = 0
  · rw [if_pos h, if_pos (by omega), h2]
  · rw [if_neg h, if_neg (by omega), h1]
theorem cmpV_anti (a b : Vl) : cmpV a b = -cmpV b a := by
  unfold cmpV
  by_cases hk : a.k = b.k
  · rw [if_pos hk, if_pos hk.symm]
    by_cases h1 : a.k = 1
    · rw [if_pos h1, if_pos (by omega)]
      exact cmpI_anti _ _
    · rw [if_neg h1, if_neg (by omega)]
      exact orI_anti (cmpT_anti _ _) (cmpI_anti _ _)
  · rw [if_neg hk, if_neg (fun h => hk h.symm)]
    exact cmpI_anti _ _
theorem cmpV_self (a : Vl) : cmpV a a = 0 := by have := cmpV_anti a a; omega
theorem cmpV_zero {a b : Vl} (sa : sndB a = true) (sb : sndB b = true) : cmpV a b = 0 ↔ a = b := by
  constructor
  · intro h
    refine tri_ltV sa sb ?_ ?_
    · rw [← ltOf_cmpV]; unfold ltOf; exact decide_eq_false (by omega)
    · rw [← ltOf_cmpV]; unfold ltOf; have := cmpV_anti a b; exact decide_eq_false (by omega)
  · rintro rfl; exact cmpV_self a
theorem cmpV_tri (a b c : Vl) (h1 : ¬ 0 < cmpV a b) (h2 : ¬ 0 < cmpV b c) : cmpV a c ≤ 0 := by
  have e1 : ltV b a = false := by rw [← ltOf_cmpV]; unfold ltOf; have := cmpV_anti a b; exact decide_eq_false (by omega)
  have e2 : ltV c b = false := by rw [← ltOf_cmpV]; unfold ltOf; have := cmpV_anti b c; exact decide_eq_false (by omega)
  have e3 := swo_ltV.ntrans _ _ _ e2 e1
  rcases (by omega : cmpV a c ≤ 0 ∨ 0 < cmpV a c) with h | h
  · exact h
  · rw [cmpV_pos h] at e3; cases e3
/-- the first sign of a value's text -/
theorem valL_head {v : Vl} (h : sndB v = true) : ∃ x r, valL v = x :: r ∧ (v.k = 0 → x = 110) ∧ (v.k = 1 → x = 45 ∨ (48 ≤ x.toNat ∧ x.toNat < 58)) ∧ (v.k = 2 → x = 34) ∧ (v.k = 3 → x = 116 ∨ x = 102) ∧ (v.k = 4 → x = 64) := by
  rcases snd_k h with h0 | h0 | h0 | h0 | h0
  · exact ⟨110, [117, 108, 108], by unfold valL; rw [if_neg (by omega), if_neg (by omega), if_neg (by omega), if_neg (by omega)], fun _ => rfl, by omega, by omega, by omega, by omega⟩
  · obtain ⟨x, r, e, hx⟩ := decL_head v.n v.s
    exact ⟨x, r, by unfold valL; rw [if_pos h0]; exact e, by omega, fun _ => hx, by omega, by omega, by omega⟩
  · exact ⟨34, _, by unfold valL; rw [if_neg (by omega), if_pos h0]; rfl, by omega, by omega, fun _ => rfl, by omega, by omega⟩
  · by_cases hi : v.i = 1
    · exact ⟨116, [114, 117, 101], by unfold valL; rw [if_neg (by omega), if_neg (by omega), if_pos h0, if_pos hi], by omega, by omega, by omega, fun _ => .inl rfl, by omega⟩
    · exact ⟨102, [97, 108, 115, 101], by unfold valL; rw [if_neg (by omega), if_neg (by omega), if_pos h0, if_neg hi], by omega, by omega, by omega, fun _ => .inr rfl, by omega⟩
  · exact ⟨64, _, by unfold valL; rw [if_neg (by omega), if_neg (by omega), if_neg (by omega), if_pos h0], by omega, by omega, by omega, by omega, fun _ => rfl⟩
theorem valL_inj {a b : Vl} (sa : sndB a = true) (sb : sndB b = true) (h : valL a = valL b) : a = b := by
  have hk : a.k = b.k := by
    obtain ⟨x, r, e, x0, x1, x2, x3, x4⟩ := valL_head sa
    obtain ⟨y, r', e', y0, y1, y2, y3, y4⟩ := valL_head sb
    rw [e, e'] at h
    obtain rfl := (List.cons.inj h).1
    have d0 : (110 : UInt8).toNat = 110 := rfl
    have d1 : (45 : UInt8).toNat = 45 := rfl
    have d2 : (34 : UInt8).toNat = 34 := rfl
    have d3 : (116 : UInt8).toNat = 116 := rfl
    have d4 : (102 : UInt8).toNat = 102 := rfl
    have d5 : (64 : UInt8).toNat = 64 := rfl
    have cls : ∀ {v : Vl}, sndB v = true → (v.k = 0 → x = 110) → (v.k = 1 → x = 45 ∨ (48 ≤ x.toNat ∧ x.toNat < 58)) → (v.k = 2 → x = 34) → (v.k = 3 → x = 116 ∨ x = 102) → (v.k = 4 → x = 64) →
        v.k = (if x.toNat = 110 then 0 else if x.toNat = 34 then 2 else if x.toNat = 116 ∨ x.toNat = 102 then 3 else if x.toNat = 64 then 4 else 1) := by
      intro v sv z0 z1 z2 z3 z4
      rcases snd_k sv with h | h | h | h | h
      · rw [h, z0 h]; rfl
      · rw [h]
        rcases z1 h with e | ⟨e1, e2⟩
        · rw [e]; rfl
        · rw [if_neg (by omega), if_neg (by omega), if_neg (by omega), if_neg (by omega)]
      · rw [h, z2 h]; rfl
      · rw [h]; rcases z3 h with e | e <;> (rw [e]; rfl)
      · rw [h, z4 h]; rfl
    exact (cls sa x0 x1 x2 x3 x4).trans (cls sb y0 y1 y2 y3 y4).symm
  have sa' := sa
  have sb' := sb
  obtain ⟨k, n, s, t, i⟩ := a
  obtain ⟨k', n', s', t', i'⟩ := b
  dsimp only at hk
  subst hk
  unfold sndB at sa' sb'
  unfold valL at h
  dsimp only at sa' sb' h
  have bn : ∀ {u u' : ByteArray}, u.toList = [] → u'.toList = [] → u = u' := fun h h' => toList_inj (h.trans h'.symm)
  rcases snd_k sa with hk | hk | hk | hk | hk <;> dsimp only at hk <;> subst hk
  · simp at sa' sb'
    obtain ⟨rfl, rfl, a3, rfl⟩ := sa'
    obtain ⟨rfl, rfl, b3, rfl⟩ := sb'
    rw [bn a3 b3]
  · simp at sa' sb' h
    obtain ⟨⟨a1, rfl⟩, a2⟩ := sa'
    obtain ⟨⟨b1, rfl⟩, b2⟩ := sb'
    have p := decSnd_of a2
    have q := decSnd_of b2
    obtain ⟨rfl, rfl⟩ := decL_inj p.1 q.1 h
    rw [bn a1 b1]
  · simp at sa' sb' h
    obtain ⟨⟨rfl, rfl, rfl, _⟩, _⟩ := sa'
    obtain ⟨⟨rfl, rfl, rfl, _⟩, _⟩ := sb'
    have e := quoL_inj h
    have e2 : t = t' := by
      apply ByteArray.ext
      exact Array.toList_inj.1 e
    rw [e2]
  · simp at sa' sb' h
    obtain ⟨rfl, rfl, a3, a4⟩ := sa'
    obtain ⟨rfl, rfl, b3, b4⟩ := sb'
    have : i = i' := by
      rcases a4 with rfl | rfl <;> rcases b4 with rfl | rfl <;> simp_all
    rw [this, bn a3 b3]
  · simp at sa' sb' h
    obtain ⟨rfl, rfl, a3, a4, a5⟩ := sa'
    obtain ⟨rfl, rfl, b3, b4, b5⟩ := sb'
    obtain ⟨y, m, d, h1⟩ := date_of a4 a5
    obtain ⟨y', m', d', h2⟩ := date_of b4 b5
    rw [dayL_eq h1, dayL_eq h2] at h
    have e := dateL_inj h1 h2 h
    rw [e, bn a3 b3]
end Go.Proofs.YthicilfhnakhmaaGreatDoor

/- Values in order, each once: plain. -/
set_option linter.unusedSimpArgs false
set_option linter.unusedVariables false
namespace Go.Proofs.YthicilfhnakhmaaGreatDoor
open Go.RowKit Go.Sort Go.Lib

def upV (l : List Vl) : Prop := l.Pairwise fun x y => ltV x y = true
theorem up_eq : ∀ {l m : List Vl}, upV l → upV m → (∀ x, x ∈ l ↔ x ∈ m) → l = m
  | [], [], _, _, _ => rfl
  | [], y :: m, _, _, h => absurd ((h y).2 (by simp)) (by simp)
  | x :: l, [], _, _, h => absurd ((h x).1 (by simp)) (by simp)
  | x :: l, y :: m, hl, hm, h => by
    obtain ⟨l1, l2⟩ := List.pairwise_cons.1 hl
    obtain ⟨m1, m2⟩ := List.pairwise_cons.1 hm
    have hxy : x = y := by
      rcases List.mem_cons.1 ((h x).1 (by simp)) with e | e
      · exact e
      · rcases List.mem_cons.1 ((h y).2 (by simp)) with e' | e'
        · exact e'.symm
        · have := swo_ltV.trans _ _ _ (m1 x e) (l1 y e')
          rw [swo_ltV.irrefl] at this; cases this
    subst hxy
    have hx1 : x ∉ l := fun hx => by have := l1 x hx; rw [swo_ltV.irrefl] at this; cases this
    have hx2 : x ∉ m := fun hx => by have := m1 x hx; rw [swo_ltV.irrefl] at this; cases this
    rw [up_eq l2 m2 (fun z => ⟨fun hz => by
      rcases List.mem_cons.1 ((h z).1 (List.mem_cons_of_mem _ hz)) with e | e
      · subst e; exact absurd hz hx1
      · exact e, fun hz => by
      rcases List.mem_cons.1 ((h z).2 (List.mem_cons_of_mem _ hz)) with e | e
      · subst e; exact absurd hz hx2
      · exact e⟩)]
/-- a value put in where it belongs -/
theorem up_insert {l : List Vl} {x : Vl} {k : Nat} (hl : upV l) (h1 : ∀ v ∈ l.take k, ltV v x = true) (h2 : ∀ v ∈ l.drop k, ltV x v = true) : upV (l.take k ++ x :: l.drop k) := by
  unfold upV at *
  have hp : (l.take k ++ l.drop k).Pairwise fun x y => ltV x y = true := by rw [List.take_append_drop]; exact hl
  obtain ⟨a, b, c⟩ := List.pairwise_append.1 hp
  refine List.pairwise_append.2 ⟨a, List.pairwise_cons.2 ⟨h2, b⟩, fun u hu v hv => ?_⟩
  rcases List.mem_cons.1 hv with rfl | hv
  · exact h1 u hu
  · exact c u hu v hv
/-- a list in order, each once -/
theorem cpT_up {l : List Vl} (hs : ∀ v ∈ l, sndB v = true) (hl : l.Pairwise fun a b => ltV b a = false) : ∀ r, r ≤ l.length → upV (cpT l r) ∧ ∀ v ∈ cpT l r, ∀ x, 0 < r → l[r - 1]? = some x → v = x ∨ ltV v x = true
  | 0, _ => by
    have e : cpT l 0 = [] := List.eq_nil_of_length_eq_zero (by have := cpT_len l 0; omega)
    rw [e]
    exact ⟨List.Pairwise.nil, fun v hv => by cases hv⟩
  | r + 1, hr => by
    obtain ⟨ih1, ih2⟩ := cpT_up hs hl r (by omega)
    have hrl : r < l.length := by omega
    obtain ⟨x, hx⟩ : ∃ x, l[r]? = some x := ⟨_, List.getElem?_eq_getElem hrl⟩
    have hxm : x ∈ l := List.mem_of_getElem? hx
    by_cases hn : 0 < r ∧ l[r - 1]? = some x
    · rw [cpT_old hx hn]
      refine ⟨ih1, fun v hv y _ hy => ?_⟩
      rw [show r + 1 - 1 = r by omega, hx] at hy
      cases hy
      exact ih2 v hv x hn.1 hn.2
    · rw [cpT_new hx hn]
      have key : ∀ v ∈ cpT l r, ltV v x = true := by
        intro v hv
        have hr0 : 0 < r := by
          rcases Nat.eq_zero_or_pos r with h | h
          · subst h
            have := cpT_len l 0
            have e : cpT l 0 = [] := List.eq_nil_of_length_eq_zero (by omega)
            rw [e] at hv; cases hv
          · exact h
        obtain ⟨y, hy⟩ : ∃ y, l[r - 1]? = some y := ⟨_, List.getElem?_eq_getElem (by omega)⟩
        have hyx : y ≠ x := fun e => hn ⟨hr0, by rw [hy, e]⟩
        have hym : y ∈ l := List.mem_of_getElem? hy
        obtain ⟨g1, g2⟩ := List.getElem?_eq_some_iff.1 hy
        obtain ⟨g3, g4⟩ := List.getElem?_eq_some_iff.1 hx
        have hle : ltV x y = false := by
          have := List.pairwise_iff_getElem.1 hl (r - 1) r g1 g3 (by omega)
          rw [g2, g4] at this; exact this
        have hlt : ltV y x = true := by
          cases h : ltV y x
          · exact absurd (tri_ltV (hs y hym) (hs x hxm) h hle) hyx
          · rfl
        rcases ih2 v hv y hr0 hy with rfl | h
        · exact hlt
        · exact swo_ltV.trans _ _ _ h hlt
      refine ⟨List.pairwise_append.2 ⟨ih1, List.pairwise_singleton _ _, fun v hv z hz => ?_⟩, fun v hv y _ hy => ?_⟩
      · have : z = x := by simpa using hz
        subst this; exact key v hv
      · rw [show r + 1 - 1 = r by omega, hx] at hy
        cases hy
        rcases List.mem_append.1 hv with h | h
        · exact .inr (key v h)
        · exact .inl (by simpa using h)
end Go.Proofs.YthicilfhnakhmaaGreatDoor

/- soffit/value.Sort at all lists. -/
set_option linter.unusedSimpArgs false
set_option linter.unusedVariables false
namespace Go.Proofs.YthicilfhnakhmaaGreatDoor
open Go.RowKit Go.Sort

set_option maxHeartbeats 400000 in
theorem vclone_empty (A : Option Addr) (c : Nat) (w : World) :
    Calls Tryz.prog 35 #[.slice A 0 c] w fun e w' => ∃ A', e = .returned (.slice A' 0 0) ∧ Below w.heap.size w w' := by
  have q22 : ∀ (w : World) (a : Option Addr) (n c n' c' : Nat), (binOp .eql 36 (.slice a n c) (.slice none n' c')).run Tryz.prog w = .ok (.bool a.isNone) w := fun w a n c n' c' => Lib.run_eql_slice_nil w _ _ a n c n' c' Tryz.underlying36
  cases A with
  | none =>
    go_enter Tryz.func35, Tryz.ntmps35
    go_wp2_with fail
    go_ret
    exact ⟨_, rfl, bel⟩
  | some a =>
    have h0 : (0 : Int) ≤ (c : Int) := by omega
    go_enter Tryz.func35, Tryz.ntmps35
    go_wp2_with fail
    go_ret
    exact ⟨_, rfl, bel⟩
set_option maxHeartbeats 400000 in
theorem vcompact_empty (A : Option Addr) (c : Nat) (w : World) :
    Calls Tryz.prog 38 #[.slice A 0 c] w fun e w' => e = .returned (.slice A 0 c) ∧ Below w.heap.size w w' := by
  obtain ⟨n, hn⟩ : ∃ n : Nat, n = 0 := ⟨_, rfl⟩
  rw [← hn]
  have i1 : (n : Int) < 2 := by omega
  clear hn
  go_enter Tryz.func38, Tryz.ntmps38
  go_wp2_with fail
  go_ret
  exact ⟨rfl, Below.refl _ _⟩
set_option maxHeartbeats 400000 in
theorem vclip_empty (A : Option Addr) (w : World) :
    Calls Tryz.prog 37 #[.slice A 0 0] w fun e w' => ∃ B c, e = .returned (.slice B 0 c) ∧ Below w.heap.size w w' := by
  cases A with
  | none =>
    go_enter Tryz.func37, Tryz.ntmps37
    go_wp2_with fail
    go_ret
    exact ⟨_, _, rfl, bel⟩
  | some a =>
    go_enter Tryz.func37, Tryz.ntmps37
    go_wp2_with fail
    go_ret
    exact ⟨_, _, rfl, bel⟩
set_option maxHeartbeats 1600000 in
theorem vsort_nil (A : Option Addr) (c : Nat) (w : World) (hE : Env w) :
    Calls Tryz.prog 17 #[.slice A 0 c] w fun e w' => ∃ (B : Option Addr) (cb : Nat), e = .returned (.tuple #[.slice B 0 cb, .int .i64 0]) ∧ Below w.heap.size w w' := by
  have hgives : valGives 34 #[] (fun v => !sndB v) [] w := fun v hv W hW => by cases hv
  have eg : ∀ args W, (callFunc 34 args).run Tryz.prog W = .ok (.enter 34 args) W := enters_of Tryz.func34 (by kernel_rfl) rfl
  have hcon := valContains 34 (fun v => !sndB v) [] A c w (RdL.nil_ _ _ _) (by simp) hgives eg
  rw [List.any_nil, List.length_nil] at hcon
  have HC := Lib.hid hcon
  have hsn := fun (p : Option Addr) (cap : Nat) (fv : Value) (W : World) => Go.Proofs.AnyF.slices_SortFunc_none Tryz.laysSort p cap fv W
  change ∀ (p : Option Addr) (cap : Nat) (fv : Value) (W : World), Calls Tryz.prog 36 _ _ _ at hsn
  have HSN := Lib.hid hsn
  clear hgives eg hcon hsn hE
  go_enter Tryz.func17, Tryz.ntmps17
  go_wp2_with fail
  refine HC.out.mono ?_
  rintro e w1 ⟨rfl, hb1⟩
  go_wp2_with fail
  refine (vclone_empty A c _).mono ?_
  rintro e w2 ⟨A1, rfl, hb2⟩
  go_wp2_with fail
  refine (HSN.out _ _ _ _).mono ?_
  rintro e w3 ⟨rfl, rfl⟩
  go_wp2_with fail
  refine (vcompact_empty A1 0 _).mono ?_
  rintro e w4 ⟨rfl, hb4⟩
  go_wp2_with fail
  refine (vclip_empty A1 _).mono ?_
  rintro e w5 ⟨B, cb, rfl, hb5⟩
  go_wp2_with fail
  go_ret2
  exact ⟨B, cb, rfl, bel⟩
set_option maxHeartbeats 1600000 in
theorem vsort_bad (l : List Vl) (A : Option Addr) (c : Nat) (w : World) (hr : RdL w 5 A (l.map Vl.cells5)) (hw : ∀ v ∈ l, v.wf) (hs : allSnd l = false) (hn : l.length ≤ 1000000) (hE : Env w) :
    Calls Tryz.prog 17 #[.slice A l.length c] w fun e w' => e = .returned (.tuple #[.slice none 0 0, .int .i64 2]) ∧ Below w.heap.size w w' := by
  have hgives : valGives 34 #[] (fun v => !sndB v) l w := fun v hv W hW => vsort1_any v W (hw v hv) (hE.below hW)
  have eg : ∀ args W, (callFunc 34 args).run Tryz.prog W = .ok (.enter 34 args) W := enters_of Tryz.func34 (by kernel_rfl) rfl
  have hcon := valContains 34 (fun v => !sndB v) l A c w hr (by omega) hgives eg
  rw [show l.any (fun v => !sndB v) = true by unfold allSnd at hs; simpa using hs] at hcon
  have HC := Lib.hid hcon
  clear hgives eg hcon hE hw hs hr
  go_enter Tryz.func17, Tryz.ntmps17
  go_wp2_with fail
  refine HC.out.mono ?_
  rintro e w1 ⟨rfl, hb1⟩
  go_wp2_with fail
  go_ret2
  exact ⟨rfl, bel⟩
/-- what Sort hands back of sound values: their order, each once -/
theorem vsort_all (l : List Vl) (A : Option Addr) (c : Nat) (w : World) (hr : RdL w 5 A (l.map Vl.cells5)) (hw : ∀ v ∈ l, v.wf) (hs : ∀ v ∈ l, sndB v = true) (hn : l.length ≤ 1000000) (hE : Env w) :
    Calls Tryz.prog 17 #[.slice A l.length c] w fun e w' =>
      ∃ (R : List Vl) (B : Option Addr) (cb : Nat), e = .returned (.tuple #[.slice B R.length cb, .int .i64 0]) ∧ RdL w' 5 B (R.map Vl.cells5) ∧ upV R ∧ (∀ v, v ∈ R ↔ v ∈ l) ∧ Below w.heap.size w w' := by
  by_cases h0 : 0 < l.length
  · refine (vsortD_any l A c w hr hw hs h0 hn hE).mono ?_
    rintro e w' ⟨R, B, rfl, h2, h3, ⟨d, hp, hpw, rfl⟩, h5⟩
    exact ⟨_, B, _, rfl, h2, (cpT_up (fun v hv => hs v (hp.mem_iff.1 hv)) hpw _ (Nat.le_refl _)).1, h3.mem, h5⟩
  · have hl0 : l = [] := List.eq_nil_of_length_eq_zero (by omega)
    subst hl0
    refine (vsort_nil A c w hE).mono ?_
    rintro e w' ⟨B, cb, rfl, hb⟩
    exact ⟨[], B, cb, rfl, RdL.nil_ _ _ _, List.Pairwise.nil, fun v => Iff.rfl, hb⟩
end Go.Proofs.YthicilfhnakhmaaGreatDoor

/- Insertion into a list of values in order: plain. -/
set_option linter.unusedSimpArgs false
set_option linter.unusedVariables false
namespace Go.Proofs.YthicilfhnakhmaaGreatDoor
open Go.RowKit Go.Sort Go.Lib

/-- looking through the first k of a list for a value's place -/
structure AtOf (R : List Vl) (x : Vl) (k at_ : Nat) (there : Bool) : Prop where
  le : at_ ≤ k
  lo : ∀ y ∈ R.take at_, ltV y x = true
  hi : ∀ t, at_ ≤ t → t < k → ∀ y, R[t]? = some y → ltV y x = false
  is : there = (R.take k).any (fun y => eqB y x)
theorem AtOf.zero (R : List Vl) (x : Vl) : AtOf R x 0 0 false := ⟨Nat.le_refl _, by simp, fun t h1 h2 => by omega, by simp⟩
theorem take_any {R : List Vl} {p : Vl → Bool} {k : Nat} {y : Vl} (h : R[k]? = some y) : (R.take (k + 1)).any p = ((R.take k).any p || p y) := by
  rw [List.take_add_one, h, List.any_append]; simp
theorem AtOf.less {R : List Vl} {x y : Vl} {k a : Nat} {b : Bool} (hR : upV R) (h : AtOf R x k a b) (hk : R[k]? = some y) (hl : ltV y x = true) (b' : Bool) (hb : b' = (b || eqB y x)) : AtOf R x (k + 1) (k + 1) b' := by
  refine ⟨Nat.le_refl _, fun z hz => ?_, fun t h1 h2 => by omega, by rw [hb, h.is, take_any hk]⟩
  obtain ⟨j, hj, rfl⟩ := List.getElem_of_mem hz
  rw [List.length_take] at hj
  rw [List.getElem_take]
  obtain ⟨hkl, rfl⟩ := List.getElem?_eq_some_iff.1 hk
  by_cases e : j = k
  · subst e; exact hl
  · exact swo_ltV.trans _ _ _ (List.pairwise_iff_getElem.1 hR j k (by omega) hkl (by omega)) hl
theorem AtOf.more {R : List Vl} {x y : Vl} {k a : Nat} {b : Bool} (h : AtOf R x k a b) (hk : R[k]? = some y) (hl : ltV y x = false) (b' : Bool) (hb : b' = (b || eqB y x)) : AtOf R x (k + 1) a b' := by
  refine ⟨by have := h.le; omega, h.lo, fun t h1 h2 z hz => ?_, by rw [hb, h.is, take_any hk]⟩
  by_cases e : t = k
  · subst e; rw [hk] at hz; cases hz; exact hl
  · exact h.hi t h1 (by omega) z hz
/-- a list in order of the first values -/
structure RowOf (l : List Vl) (i : Nat) (R : List Vl) : Prop where
  up : upV R
  mem : ∀ v, v ∈ R ↔ v ∈ l.take i
  len : R.length ≤ i
theorem RowOf.zero (l : List Vl) : RowOf l 0 [] := ⟨List.Pairwise.nil, by simp, Nat.le_refl _⟩
theorem RowOf.old {l R : List Vl} {i a : Nat} {x : Vl} (h : RowOf l i R) (hx : l[i]? = some x) (ha : AtOf R x R.length a true) : RowOf l (i + 1) R := by
  have h1 := ha.is
  rw [List.take_length] at h1
  obtain ⟨y, hy, he⟩ := List.any_eq_true.1 h1.symm
  have he : y = x := (eqB_iff _ _).1 he
  subst he
  refine ⟨h.up, fun v => ?_, by have := h.len; omega⟩
  rw [List.take_add_one, hx, h.mem]
  constructor
  · intro hv; exact List.mem_append_left _ hv
  · intro hv
    rcases List.mem_append.1 hv with hv | hv
    · exact hv
    · have : v = y := by simpa using hv
      subst this; exact (h.mem v).1 hy
theorem RowOf.new {l R : List Vl} {i a : Nat} {x : Vl} (h : RowOf l i R) (hx : l[i]? = some x) (ha : AtOf R x R.length a false) (hs : ∀ v ∈ l, sndB v = true) : RowOf l (i + 1) (R.take a ++ x :: R.drop a) := by
  have h1 := ha.is
  rw [List.take_length] at h1
  have hno : ∀ y ∈ R, y ≠ x := fun y hy e => by
    have := List.any_eq_false.1 h1.symm y hy
    rw [e, (eqB_iff x x).2 rfl] at this; simp at this
  have hRs : ∀ y ∈ R, sndB y = true := fun y hy => hs y (List.mem_of_mem_take ((h.mem y).1 hy))
  have hxs : sndB x = true := hs x (List.mem_of_getElem? hx)
  refine ⟨up_insert h.up ha.lo (fun v hv => ?_), fun v => ?_, ?_⟩
  · obtain ⟨j, hj, rfl⟩ := List.getElem_of_mem hv
    have hjl : a + j < R.length := by rw [List.length_drop] at hj; omega
    rw [List.getElem_drop]
    have h2 := ha.hi (a + j) (by omega) hjl _ (List.getElem?_eq_getElem hjl)
    have hm : R[a + j]'hjl ∈ R := List.getElem_mem hjl
    cases h3 : ltV x (R[a + j]'hjl)
    · exact absurd (tri_ltV (hRs _ hm) hxs h2 h3) (hno _ hm)
    · rfl
  · rw [List.take_add_one, hx]
    have e : v ∈ R.take a ++ x :: R.drop a ↔ v ∈ R ∨ v = x := by
      rw [List.mem_append, List.mem_cons]
      constructor
      · rintro (hv | rfl | hv)
        · exact .inl (List.mem_of_mem_take hv)
        · exact .inr rfl
        · exact .inl (List.mem_of_mem_drop hv)
      · rintro (hv | rfl)
        · rw [← List.take_append_drop a R] at hv
          rcases List.mem_append.1 hv with hv | hv
          · exact .inl hv
          · exact .inr (.inr hv)
        · exact .inr (.inl rfl)
    rw [e, h.mem]
    simp
  · have := h.len
    simp only [List.length_append, List.length_cons, List.length_take, List.length_drop]
    omega
end Go.Proofs.YthicilfhnakhmaaGreatDoor

/- Regions that draw their order, read, and call what makes memory of its own. -/
set_option linter.unusedSimpArgs false
set_option linter.unusedVariables false
namespace Go.Proofs.YthicilfhnakhmaaGreatDoor
open Go.RowKit Go.Lib

theorem belowU_call {u w w' : World} (h : RowKit.Below u.heap.size u w) (hb : RowKit.Below w.heap.size w w') : RowKit.Below u.heap.size u w' := h.trans (hb.mono h.size)
/-- a world that lies behind u: for a region that draws its order, reads, and calls what makes memory of its own -/
structure AtB (u : World) where
  w : World
  hb : RowKit.Below u.heap.size u w
instance (u : World) : Inhabited (AtB u) := ⟨⟨u, Below.refl _ u⟩⟩
theorem wp_region_quiet_at {P : Program} {id : Nat} {Q : Exit → Act → World → Prop} {a : Act} {w : World} {l : List Oper} (hm : P.follows .mixedOrders = true) (hB : Region.lexB .any l.toArray = true)
    (h : wpQuiet P l.toArray (fun w' => ∃ p : AtB w, w' = p.w) (fun a' => ∀ w', (∃ p : AtB w, w' = p.w) → Q .normal a' w') l a) : (Code.region id l.toArray true).wp P Q a w :=
  wp_region_quiet (C := fun w' => ∃ p : AtB w, w' = p.w) hm hB ⟨⟨w.drew, (Below.refl _ w).drew⟩, rfl⟩ (by simpa using h)
theorem AtB.quiet {P : Program} {u : World} (p : AtB u) {f : FuncId} {args : Array Value} {v : Value} (h : ∀ W, RowKit.Below u.heap.size u W → Calls P f args W fun e w' => e = .returned v ∧ RowKit.Below W.heap.size W w') :
    Calls P f args p.w fun e w'' => e = .returned v ∧ ∃ q : AtB u, w'' = q.w :=
  (h p.w p.hb).mono fun _ w'' ⟨he, hb⟩ => ⟨he, ⟨w'', belowU_call p.hb hb⟩, rfl⟩
theorem AtB.cell {u : World} {b o : Nat} {v : Value} (h : u.cell? ⟨b, o, none⟩ = some v) (p : AtB u) : p.w.cell? ⟨b, o, none⟩ = some v := cell_below p.hb h
end Go.Proofs.YthicilfhnakhmaaGreatDoor

/- soffitref04.Compare, walked. -/
set_option linter.unusedSimpArgs false
set_option linter.unusedVariables false
namespace Go.Proofs.YthicilfhnakhmaaGreatDoor
open Go.RowKit

theorem bytesLess_irrefl : ∀ l : List UInt8, Op.bytesLess l l = false
  | [] => rfl
  | x :: r => by
    unfold Op.bytesLess
    simp [bytesLess_irrefl r]

/-- of sound values of one kind, not numbers: the texts are one, or the numbers are -/
theorem snd_one {a b : Vl} (ha : sndB a = true) (hb : sndB b = true) (hk : a.k = b.k) (h1 : ¬ a.k = 1) : a.t.toList = b.t.toList ∨ a.i = b.i := by
  unfold sndB at ha hb
  rw [← hk] at hb
  by_cases h0 : a.k = 0
  · rw [if_pos h0] at ha hb
    simp at ha hb
    left; rw [ha.2.2.1, hb.2.2.1]
  · rw [if_neg h0, if_neg h1] at ha hb
    by_cases h2 : a.k = 2
    · rw [if_pos h2] at ha hb
      simp at ha hb
      right; omega
    · rw [if_neg h2] at ha hb
      by_cases h3 : a.k = 3
      · rw [if_pos h3] at ha hb
        simp at ha hb
        left; rw [ha.2.2.1, hb.2.2.1]
      · rw [if_neg h3] at ha hb
        by_cases h4 : a.k = 4
        · rw [if_pos h4] at ha hb
          simp at ha hb
          left; rw [ha.2.2.1, hb.2.2.1]
        · rw [if_neg h4] at ha
          cases ha

theorem cmpT_eq0 {a b : ByteArray} (h : a.toList = b.toList) : cmpT a b = 0 := by
  unfold cmpT; rw [h, bytesLess_irrefl]; simp
theorem oc1 {a b : ByteArray} {i j : Int} (h : Op.bytesLess a.toList b.toList = true) : orI (cmpT a b) (cmpI i j) = -1 := by
  have : cmpT a b = -1 := by unfold cmpT; rw [if_pos h]
  rw [this]; rfl
theorem oc2 {a b : ByteArray} {i j : Int} (hi : i < j) (ho : a.toList = b.toList ∨ i = j) : orI (cmpT a b) (cmpI i j) = -1 := by
  rcases ho with h | h
  · rw [cmpT_eq0 h]; unfold orI cmpI; rw [if_pos rfl, if_pos hi]
  · omega
theorem oc3 {a b : ByteArray} {i j : Int} (h : Op.bytesLess a.toList b.toList = false) (hn : ¬ a.toList = b.toList) : orI (cmpT a b) (cmpI i j) = 1 := by
  have : cmpT a b = 1 := by unfold cmpT; rw [h]; simp [hn]
  rw [this]; rfl
theorem oc4 {a b : ByteArray} {i j : Int} (h : a.toList = b.toList) (hi : j < i) : orI (cmpT a b) (cmpI i j) = 1 := by
  rw [cmpT_eq0 h]; unfold orI cmpI; rw [if_pos rfl, if_neg (by omega), if_pos hi]
theorem oc5 {a b : ByteArray} {i j : Int} (h : a.toList = b.toList) (h1 : i ≤ j) (h2 : j ≤ i) : orI (cmpT a b) (cmpI i j) = 0 := by
  rw [cmpT_eq0 h]; unfold orI cmpI; rw [if_pos rfl, if_neg (by omega), if_neg (by omega)]
theorem ret_cmp {C : Value} {D x : Int} (h : C = .tuple #[.int .i64 D, .int .i64 0]) (hx : D = x) : Ending.returned (.tuple #[.int .i64 x, .int .i64 0]) = .returned C := by rw [h, hx]

set_option maxRecDepth 100000 in
set_option maxHeartbeats 3200000 in
theorem rCompare_any (a b : Vl) (w : World) (ha : a.wf) (hb : b.wf) :
    Calls Tryz.prog 9 #[.agg #[.int .i64 a.k, .int .i64 a.n, .int .i64 a.s, .string a.t, .int .i64 a.i], .agg #[.int .i64 b.k, .int .i64 b.n, .int .i64 b.s, .string b.t, .int .i64 b.i]] w fun e w' =>
      e = .returned (cmpVRes a b) ∧ Below w.heap.size w w' := by
  obtain ⟨C, hC⟩ : ∃ C, cmpVRes a b = C := ⟨_, rfl⟩
  rw [hC]
  cases sa : sndB a
  · have HC : Hid (C = .tuple #[.int .i64 0, .int .i64 2]) := by rw [← hC]; unfold cmpVRes; rw [sa]; exact rfl
    clear hC
    go_enter Tryz.func9, Tryz.ntmps9
    go_wp2_with fail
    refine (rSound_any a _ ha).mono ?_
    rintro e w1 ⟨rfl, hb1⟩
    rw [sa]
    clear sa
    go_wp2_with fail
    go_ret2
    exact ⟨by rw [HC.out]; rfl, bel⟩
  · cases sb : sndB b
    · have HC : Hid (C = .tuple #[.int .i64 0, .int .i64 2]) := by rw [← hC]; unfold cmpVRes; rw [sa, sb]; exact rfl
      clear hC
      go_enter Tryz.func9, Tryz.ntmps9
      go_wp2_with fail
      refine (rSound_any a _ ha).mono ?_
      rintro e w1 ⟨rfl, hb1⟩
      rw [sa]
      clear sa
      have hz1 := hb1.size
      try simp at hz1
      obtain ⟨q1_0, l1_0, r1_0⟩ := aft hb1 (w.heap.size)
      obtain ⟨q1_1, l1_1, r1_1⟩ := aft hb1 (w.heap.size + 1)
      go_wp2_with fail
      refine (rSound_any b _ hb).mono ?_
      rintro e w2 ⟨rfl, hb2⟩
      rw [sb]
      clear sb
      go_wp2_with fail
      go_ret2
      exact ⟨by rw [HC.out]; rfl, bel⟩
    · have HC : Hid (C = .tuple #[.int .i64 (cmpV a b), .int .i64 0]) := by rw [← hC]; unfold cmpVRes; rw [sa, sb]; exact rfl
      clear hC
      have HA := Lib.hid sa
      have HB := Lib.hid sb
      obtain ⟨D, hD⟩ : ∃ D, cmpV a b = D := ⟨_, rfl⟩
      rw [hD] at HC
      by_cases hk : a.k = b.k
      · have e1 : (a.k != b.k) = false := by simp [hk]
        by_cases h1 : a.k = 1
        · have e2 : (a.k == 1) = true := by simp [h1]
          have HD : Hid (cmpRes a.n a.s b.n b.s = .tuple #[.int .i64 D, .int .i64 0]) := by
            show _ = _
            rw [cmpRes_yes (sndB_dec sa h1) (sndB_dec sb (by omega)), ← hD]; unfold cmpV; rw [if_pos hk, if_pos h1]
          clear hD hk h1
          go_enter Tryz.func9, Tryz.ntmps9
          go_wp2_with fail
          refine (rSound_any a _ ha).mono ?_
          rintro e w1 ⟨rfl, hb1⟩
          rw [sa]
          clear sa
          have hz1 := hb1.size
          try simp at hz1
          obtain ⟨q1_0, l1_0, r1_0⟩ := aft hb1 (w.heap.size)
          obtain ⟨q1_1, l1_1, r1_1⟩ := aft hb1 (w.heap.size + 1)
          go_wp2_with fail
          refine (rSound_any b _ hb).mono ?_
          rintro e w2 ⟨rfl, hb2⟩
          rw [sb]
          clear sb
          have hz2 := hb2.size
          try simp at hz2
          obtain ⟨q2_0, l2_0, r2_0⟩ := aft hb2 (w.heap.size)
          obtain ⟨q2_1, l2_1, r2_1⟩ := aft hb2 (w.heap.size + 1)
          go_wp2_with fail
          refine (ref01Cmp_any _ _ _ _ _).mono ?_
          rintro e w3 ⟨rfl, hb3⟩
          rw [HD.out]
          go_wp2_with fail
          go_ret2
          exact ⟨by rw [HC.out]; rfl, bel⟩
        · have e2 : (a.k == 1) = false := by simp [h1]
          have HO := Lib.hid (snd_one sa sb hk h1)
          have HD : Hid (D = orI (cmpT a.t b.t) (cmpI a.i b.i)) := by
            show D = _
            rw [← hD]; unfold cmpV; rw [if_pos hk, if_neg h1]
          clear hD hk h1
          go_enter Tryz.func9, Tryz.ntmps9
          go_wp2_with fail
          refine (rSound_any a _ ha).mono ?_
          rintro e w1 ⟨rfl, hb1⟩
          rw [sa]
          clear sa
          have hz1 := hb1.size
          try simp at hz1
          obtain ⟨q1_0, l1_0, r1_0⟩ := aft hb1 (w.heap.size)
          obtain ⟨q1_1, l1_1, r1_1⟩ := aft hb1 (w.heap.size + 1)
          go_wp2_with fail
          refine (rSound_any b _ hb).mono ?_
          rintro e w2 ⟨rfl, hb2⟩
          rw [sb]
          clear sb
          have hz2 := hb2.size
          try simp at hz2
          obtain ⟨q2_0, l2_0, r2_0⟩ := aft hb2 (w.heap.size)
          obtain ⟨q2_1, l2_1, r2_1⟩ := aft hb2 (w.heap.size + 1)
          go_wp2_with fail
          all_goals go_ret2
          all_goals first
            | exact ⟨ret_cmp HC.out (HD.out.trans (oc1 (by assumption))), bel⟩
            | exact ⟨ret_cmp HC.out (HD.out.trans (oc2 (by assumption) HO.out)), bel⟩
            | exact ⟨ret_cmp HC.out (HD.out.trans (oc3 (by assumption) (by assumption))), bel⟩
            | exact ⟨ret_cmp HC.out (HD.out.trans (oc4 (by assumption) (by assumption))), bel⟩
            | exact ⟨ret_cmp HC.out (HD.out.trans (oc5 (by assumption) (by assumption) (by assumption))), bel⟩
      · have e1 : (a.k != b.k) = true := by simp [hk]
        have HD : Hid (D = cmpI a.k b.k) := by show D = _; rw [← hD]; unfold cmpV; rw [if_neg hk]
        have HK := Lib.hid hk
        clear hD hk
        go_enter Tryz.func9, Tryz.ntmps9
        go_wp2_with fail
        refine (rSound_any a _ ha).mono ?_
        rintro e w1 ⟨rfl, hb1⟩
        rw [sa]
        clear sa
        have hz1 := hb1.size
        try simp at hz1
        obtain ⟨q1_0, l1_0, r1_0⟩ := aft hb1 (w.heap.size)
        obtain ⟨q1_1, l1_1, r1_1⟩ := aft hb1 (w.heap.size + 1)
        go_wp2_with fail
        refine (rSound_any b _ hb).mono ?_
        rintro e w2 ⟨rfl, hb2⟩
        rw [sb]
        clear sb
        have hz2 := hb2.size
        try simp at hz2
        obtain ⟨q2_0, l2_0, r2_0⟩ := aft hb2 (w.heap.size)
        obtain ⟨q2_1, l2_1, r2_1⟩ := aft hb2 (w.heap.size + 1)
        go_wp2_with fail
        all_goals go_ret2
        all_goals exact ⟨ret_cmp HC.out (HD.out.trans (by have := HK.out; unfold cmpI; split <;> (try split) <;> omega)), bel⟩
end Go.Proofs.YthicilfhnakhmaaGreatDoor
