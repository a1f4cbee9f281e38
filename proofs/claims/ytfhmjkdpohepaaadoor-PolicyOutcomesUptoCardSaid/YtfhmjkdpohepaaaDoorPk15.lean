import Derived.Test.YtfhmjkdpohepaaaDoorPk14
import Derived.Test.YtfhmjkdpohepaaaDoorPk04
import Derived.Test.YtfhmjkdpohepaaaDoorShelfV
import Derived.Sort.Walk0
import Derived.Sort.LotA
/- The order of values, plain; equal neighbours left out, plain. -/
set_option linter.unusedSimpArgs false
set_option linter.unusedVariables false
namespace Go.Proofs.YtfhmjkdpohepaaaDoor
open Go.RowKit Go.Sort

def lexB {α : Type} (l1 l2 : α → α → Bool) (x y : α) : Bool := l1 x y || (!l1 y x && l2 x y)
theorem swo_lex {α : Type} {l1 l2 : α → α → Bool} (h1 : SWO l1) (h2 : SWO l2) : SWO (lexB l1 l2) where
  irrefl x := by unfold lexB; rw [h1.irrefl, h2.irrefl]; rfl
  trans x y z a b := by
    unfold lexB at *
    have t1 := h1.trans x y z
    have t2 := h2.trans x y z
    have n1 := h1.ntrans z y x
    have t3 := h1.trans x y z
    have p1 := h1.trans z x y
    have p2 := h1.trans y z x
    have q1 := h1.ntrans x y z
    have q2 := h1.ntrans y x z
    have q3 := h1.ntrans x z y
    cases e1 : l1 x y <;> cases e2 : l1 y x <;> cases e3 : l1 y z <;> cases e4 : l1 z y <;> cases e5 : l1 x z <;> cases e6 : l1 z x <;> simp_all
  ntrans x y z a b := by
    unfold lexB at *
    have t1 := h1.trans x y z
    have t2 := h2.ntrans x y z
    have n1 := h1.ntrans x y z
    have p1 := h1.ntrans z y x
    have p2 := h1.trans z x y
    have p3 := h1.trans x z y
    have p4 := h1.trans y z x
    have p5 := h1.trans y x z
    have p6 := h1.ntrans z x y
    have p7 := h1.ntrans y z x
    cases e1 : l1 x y <;> cases e2 : l1 y x <;> cases e3 : l1 y z <;> cases e4 : l1 z y <;> cases e5 : l1 x z <;> cases e6 : l1 z x <;> simp_all
theorem swo_key {α : Type} (f : α → Int) : SWO (fun a b => decide (f a < f b)) where
  irrefl x := by simp
  trans x y z a b := by simp at *; omega
  ntrans x y z a b := by simp at *; omega
theorem swo_pull {α β : Type} {l : β → β → Bool} (h : SWO l) (f : α → β) : SWO (fun a b => l (f a) (f b)) where
  irrefl x := h.irrefl _
  trans x y z a b := h.trans _ _ _ a b
  ntrans x y z a b := h.ntrans _ _ _ a b
def vU (v : Vl) : Int := if v.k = 1 then unitsI v.n v.s else 0
def vT (v : Vl) : List UInt8 := if v.k = 1 then [] else v.t.toList
def vI (v : Vl) : Int := if v.k = 1 then 0 else v.i
/-- before another one -/
def ltV : Vl → Vl → Bool := lexB (fun a b => decide (a.k < b.k)) (lexB (fun a b => decide (vU a < vU b)) (lexB (fun a b => ltStr (vT a) (vT b)) (fun a b => decide (vI a < vI b))))
theorem swo_ltV : SWO ltV := swo_lex (swo_key (fun v : Vl => v.k)) (swo_lex (swo_key vU) (swo_lex (swo_pull swo_ltStr vT) (swo_key vI)))
theorem bytesLess_lt (x y : List UInt8) : Op.bytesLess x y = ltStr x y := by rw [Go.Proofs.bytesLess_eq]; rfl
theorem ltStr_irrefl (x : List UInt8) : ltStr x x = false := swo_ltStr.irrefl x
theorem ltStr_tri {x y : List UInt8} (h1 : ltStr x y = false) (h2 : ltStr y x = false) : x = y := by
  unfold ltStr at h1 h2
  have a : ¬ x < y := by simpa using h1
  have b : ¬ y < x := by simpa using h2
  exact List.le_antisymm (List.not_lt.1 b) (List.not_lt.1 a)
theorem ltOf_cmpV (a b : Vl) : ltOf cmpV a b = ltV a b := by
  unfold ltOf cmpV ltV lexB
  simp only []
  by_cases hk : a.k = b.k
  · rw [if_pos hk]
    have hk1 : decide (a.k < b.k) = false := decide_eq_false (by omega)
    have hk2 : decide (b.k < a.k) = false := decide_eq_false (by omega)
    rw [hk1, hk2]
    by_cases h1 : a.k = 1
    · have h2 : b.k = 1 := by omega
      rw [if_pos h1]
      unfold vU vT vI cmpD cmpI
      rw [if_pos h1, if_pos h2, if_pos h1, if_pos h2, if_pos h1, if_pos h2, ltStr_irrefl]
      by_cases u1 : unitsI a.n a.s < unitsI b.n b.s
      · simp [u1]
      · by_cases u2 : unitsI b.n b.s < unitsI a.n a.s <;> simp [u1, u2]
    · have h2 : ¬ b.k = 1 := by omega
      rw [if_neg h1]
      unfold vU vT vI cmpT cmpI orI
      rw [if_neg h1, if_neg h2, if_neg h1, if_neg h2, if_neg h1, if_neg h2, bytesLess_lt]
      cases e1 : ltStr a.t.toList b.t.toList
      · cases e2 : ltStr b.t.toList a.t.toList
        · have e := ltStr_tri e1 e2
          by_cases i1 : a.i < b.i
          · simp [e, i1]
          · by_cases i2 : b.i < a.i <;> simp [e, i1, i2]
        · have e : ¬ a.t.toList = b.t.toList := by intro h; rw [h, ltStr_irrefl] at e2; cases e2
          simp [e]
      · simp
  · rw [if_neg hk]
    unfold cmpI
    by_cases u1 : a.k < b.k
    · simp [u1]
    · have u2 : b.k < a.k := by omega
      simp [u1, u2]

def eqO (o : Option Vl) (x : Vl) : Bool := match o with
  | none => false
  | some y => eqB y x
theorem eqO_iff (o : Option Vl) (x : Vl) : eqO o x = true ↔ o = some x := by
  cases o with
  | none => simp [eqO]
  | some y => simp [eqO, eqB_iff]
/-- the first of each run of equal ones, up to a place -/
def cpT (l : List Vl) : Nat → List Vl
  | 0 => []
  | r + 1 => match l[r]? with
    | none => cpT l r
    | some x => if (decide (0 < r) && eqO l[r - 1]? x) = true then cpT l r else cpT l r ++ [x]
theorem cpT_new {l : List Vl} {r : Nat} {x : Vl} (h : l[r]? = some x) (hn : ¬ (0 < r ∧ l[r - 1]? = some x)) : cpT l (r + 1) = cpT l r ++ [x] := by
  rw [cpT, h]; exact if_neg (by rw [Bool.and_eq_true, decide_eq_true_iff, eqO_iff]; exact hn)
theorem cpT_old {l : List Vl} {r : Nat} {x : Vl} (h : l[r]? = some x) (hn : 0 < r ∧ l[r - 1]? = some x) : cpT l (r + 1) = cpT l r := by
  rw [cpT, h]; exact if_pos (by rw [Bool.and_eq_true, decide_eq_true_iff, eqO_iff]; exact hn)
theorem cpT_mem (l : List Vl) : ∀ (r : Nat) (v : Vl), v ∈ cpT l r → v ∈ l
  | 0, v, h => by cases h
  | r + 1, v, h => by
    cases e : l[r]? with
    | none => rw [cpT, e] at h; exact cpT_mem l r v h
    | some x =>
      by_cases hn : 0 < r ∧ l[r - 1]? = some x
      · rw [cpT_old e hn] at h; exact cpT_mem l r v h
      · rw [cpT_new e hn] at h
        rcases List.mem_append.1 h with h | h
        · exact cpT_mem l r v h
        · obtain rfl := List.mem_singleton.1 h; exact List.mem_of_getElem? e
theorem cpT_len (l : List Vl) : ∀ (r : Nat), (cpT l r).length ≤ r
  | 0 => by simp [cpT]
  | r + 1 => by
    have := cpT_len l r
    cases e : l[r]? with
    | none => rw [cpT, e]; exact Nat.le_succ_of_le this
    | some x =>
      by_cases hn : 0 < r ∧ l[r - 1]? = some x
      · rw [cpT_old e hn]; omega
      · rw [cpT_new e hn, List.length_append]; simp; omega
theorem cpT_last (l : List Vl) : ∀ (r : Nat), r < l.length → (cpT l (r + 1)).getLast? = l[r]?
  | 0, h => by
    have e := List.getElem?_eq_getElem h
    rw [cpT_new e (by omega), e]; simp [cpT]
  | r + 1, h => by
    have e := List.getElem?_eq_getElem h
    by_cases hn : 0 < r + 1 ∧ l[r + 1 - 1]? = some (l[r + 1]'h)
    · rw [cpT_old e hn, cpT_last l r (by omega), e]; exact hn.2
    · rw [cpT_new e hn, e]; simp
theorem cpT_head (l : List Vl) : ∀ (r : Nat), r < l.length → (cpT l (r + 1))[0]? = l[0]?
  | 0, h => by
    have e := List.getElem?_eq_getElem h
    rw [cpT_new e (by omega), e]; simp [cpT]
  | r + 1, h => by
    have e := List.getElem?_eq_getElem h
    have ih := cpT_head l r (by omega)
    by_cases hn : 0 < r + 1 ∧ l[r + 1 - 1]? = some (l[r + 1]'h)
    · rw [cpT_old e hn, ih]
    · rw [cpT_new e hn]
      cases hc : cpT l (r + 1) with
      | nil => rw [hc, List.getElem?_eq_getElem (show 0 < l.length by omega)] at ih; cases ih
      | cons y q => rw [hc] at ih; simpa using ih
theorem cpT_all (l : List Vl) : ∀ (r : Nat), r ≤ l.length → (∀ t, 0 < t → t < r → ∀ (h : t < l.length), l[t - 1]? ≠ some (l[t]'h)) → cpT l r = l.take r
  | 0, _, _ => by simp [cpT]
  | r + 1, h, hd => by
    have e := List.getElem?_eq_getElem (show r < l.length by omega)
    have ih := cpT_all l r (by omega) (fun t h1 h2 => hd t h1 (by omega))
    rw [cpT_new e (fun hn => hd r hn.1 (by omega) (by omega) hn.2), ih, List.take_succ_eq_append_getElem]
end Go.Proofs.YtfhmjkdpohepaaaDoor

/- The order of values: the signs. -/
set_option linter.unusedSimpArgs false
set_option linter.unusedVariables false
namespace Go.Proofs.YtfhmjkdpohepaaaDoor
open Go.RowKit Go.Sort

theorem cmpV_pos {a b : Vl} (h : 0 < cmpV a b) : ltV b a = true := by
  cases hb : ltV b a
  · exfalso
    have h2 : ltV a b = false := by
      rw [← ltOf_cmpV]
      unfold ltOf
      exact decide_eq_false (by omega)
    have h3 : ¬ cmpV b a < 0 := by rw [← ltOf_cmpV] at hb; unfold ltOf at hb; exact of_decide_eq_false hb
    have h4 : cmpV a b = -cmpV b a ∨ cmpV a b = 0 := by
      unfold cmpV at h h3 ⊢
      by_cases hk : a.k = b.k
      · rw [if_pos hk, if_pos hk.symm] at *
        by_cases h1 : a.k = 1
        · have h1' : b.k = 1 := by omega
          rw [if_pos h1, if_pos h1'] at *
          unfold cmpD cmpI at *
          by_cases u1 : unitsI a.n a.s < unitsI b.n b.s
          · simp [u1] at h
          · by_cases u2 : unitsI b.n b.s < unitsI a.n a.s
            · simp [u2] at h3
            · simp [u1, u2] at h
        · have h1' : ¬ b.k = 1 := by omega
          rw [if_neg h1, if_neg h1'] at *
          unfold cmpT cmpI orI at *
          rw [bytesLess_lt, bytesLess_lt] at *
          cases e1 : ltStr a.t.toList b.t.toList
          · cases e2 : ltStr b.t.toList a.t.toList
            · have e := ltStr_tri e1 e2
              rw [e] at h h3
              rw [ltStr_irrefl] at h h3
              by_cases i1 : a.i < b.i
              · simp [i1] at h
              · by_cases i2 : b.i < a.i
                · simp [i2] at h3
                · simp [i1, i2] at h
            · rw [e2] at h3
              simp at h3
          · rw [e1] at h
            simp at h
      · have hk' : ¬ b.k = a.k := fun h => hk h.symm
        rw [if_neg hk, if_neg hk'] at *
        unfold cmpI at *
        by_cases u1 : a.k < b.k
        · simp [u1] at h
        · have u2 : b.k < a.k := by omega
          simp [u2] at h3
    omega
  · rfl
theorem cmpV_neg {a b : Vl} (h : cmpV a b < 0) : ltV a b = true := by rw [← ltOf_cmpV]; unfold ltOf; exact decide_eq_true h
end Go.Proofs.YtfhmjkdpohepaaaDoor
