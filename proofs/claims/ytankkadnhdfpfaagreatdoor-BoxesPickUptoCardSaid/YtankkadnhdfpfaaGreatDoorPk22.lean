import Derived.Test.YtankkadnhdfpfaaGreatDoorPk11
import Derived.Lib.ItoaNum
/- Texts of one sign, and of digits: plain. -/
set_option linter.unusedSimpArgs false
set_option linter.unusedVariables false
namespace Go.Proofs.YtankkadnhdfpfaaGreatDoor.Wd
open Go.Lib

theorem bs_size' (t : Tx) : (bs t).size = t.length := by simp [bs, ByteArray.size]
theorem byteAt_bs (t : Tx) (i : Nat) (h : i < t.length) : byteAt (bs t) i = (t[i]'h).toNat := by
  unfold byteAt bs ByteArray.get!
  simp [h]
theorem stepN_ascii (s : ByteArray) (i : Nat) (h1 : 32 ≤ byteAt s i) (h2 : byteAt s i < 127) : stepN s i = 1 := by
  have e : refLen (byteAt s i) = 1 := by unfold refLen; rw [if_pos (by omega)]
  have := stepN_yes s i (by rw [e]; decide) (by rw [e]; rfl) (by
    rw [e, Nat.sub_self, rr0]
    unfold refHead refLeast
    rw [if_pos (by omega), if_pos (by omega)]; omega) (by
    rw [e, Nat.sub_self, rr0]
    unfold refHead signB
    rw [if_pos (by omega)]
    have a : decide (32 ≤ byteAt s i) = true := decide_eq_true h1
    have b : decide (byteAt s i ≤ 55295) = true := decide_eq_true (by omega)
    rw [a, b]; simp)
  rw [this, e]
theorem good_ascii (s : ByteArray) (h : ∀ i, i < s.size → 32 ≤ byteAt s i ∧ byteAt s i < 127) : ∀ f i, goodFrom s f i = true
  | 0, _ => rfl
  | f + 1, i => by
    unfold goodFrom
    split
    · rename_i hi
      rw [stepN_ascii s i (h i hi).1 (h i hi).2]
      rw [if_neg (by decide)]
      exact good_ascii s h f (i + 1)
    · rfl
theorem textB_ascii (t : Tx) (h : ∀ x ∈ t, 32 ≤ x.toNat ∧ x.toNat < 127) : textB t = decide (t.length ≤ 256) := by
  unfold textB goodB
  rw [good_ascii _ (fun i hi => by
    have hi' : i < t.length := by rw [bs_size'] at hi; exact hi
    rw [byteAt_bs t i hi']
    exact h _ (List.getElem_mem hi'))]
  simp

def aK (k : Nat) : Tx := List.replicate k 97
theorem aK_length (k : Nat) : (aK k).length = k := by simp [aK]
theorem aK_succ (k : Nat) : aK (k + 1) = aK k ++ [97] := List.replicate_succ'
theorem textB_aK (k : Nat) : textB (aK k) = decide (k ≤ 256) := by
  rw [textB_ascii, aK_length]
  intro x hx
  have := List.eq_of_mem_replicate hx
  subst this
  decide
theorem aK_inj {i j : Nat} (h : aK i = aK j) : i = j := by rw [← aK_length i, h, aK_length]

def undec (l : List UInt8) : Nat := l.foldl (fun a b => a * 10 + (b.toNat - 48)) 0
theorem dig_toNat (d : Nat) (h : d < 10) : (UInt8.ofNat (48 + d)).toNat = 48 + d := by
  rw [UInt8.toNat_ofNat']; omega
theorem undec_dec (u : Nat) : undec (decDigits u) = u := by
  induction u using Nat.strongRecOn with
  | ind u ih =>
    by_cases h : u < 10
    · rw [decDigits_one h]
      simp only [undec, List.foldl_cons, List.foldl_nil]
      rw [dig_toNat u h]; omega
    · rw [decDigits, dif_neg h]
      unfold undec
      rw [List.foldl_append]
      have := ih (u / 10) (by omega)
      unfold undec at this
      rw [this]
      simp only [List.foldl_cons, List.foldl_nil]
      rw [dig_toNat _ (Nat.mod_lt _ (by decide))]
      omega
theorem dec_inj {u v : Nat} (h : decDigits u = decDigits v) : u = v := by rw [← undec_dec u, h, undec_dec]
theorem dec_ascii (u : Nat) : ∀ x ∈ decDigits u, 32 ≤ x.toNat ∧ x.toNat < 127 := by
  induction u using Nat.strongRecOn with
  | ind u ih =>
    intro x hx
    by_cases h : u < 10
    · rw [decDigits_one h] at hx
      have := List.mem_singleton.1 hx
      subst this
      rw [dig_toNat u h]; omega
    · rw [decDigits, dif_neg h] at hx
      rcases List.mem_append.1 hx with hx | hx
      · exact ih (u / 10) (by omega) x hx
      · have := List.mem_singleton.1 hx
        subst this
        rw [dig_toNat _ (Nat.mod_lt _ (by decide))]; omega
theorem nDigits_le (k : Nat) : ∀ u, u < 10 ^ (k + 1) → nDigits u ≤ k + 1 := by
  induction k with
  | zero => intro u h; rw [nDigits_small (by simpa using h)]
            decide
  | succ k ih =>
    intro u h
    by_cases h2 : u < 10
    · rw [nDigits_small h2]; omega
    · rw [nDigits_big h2]
      have := ih (u / 10) (by rw [Nat.pow_succ] at h; omega)
      omega
theorem textB_dec (u : Nat) (h : u < 100000000000000000000) : textB (decDigits u) = true := by
  rw [textB_ascii _ (dec_ascii u), decDigits_length]
  have := nDigits_le 19 u (by simpa using h)
  exact decide_eq_true (by omega)
theorem itoa_nat (n : Nat) : itoa (n : Int) = decDigits n := by
  unfold itoa
  rw [if_neg (by omega), Int.toNat_natCast]
theorem len_sub : ∀ (a b : List Tx), a.Nodup → (∀ x ∈ a, x ∈ b) → a.length ≤ b.length
  | [], _, _, _ => Nat.zero_le _
  | x :: r, b, h, hs => by
    obtain ⟨h1, h2⟩ := List.nodup_cons.1 h
    have hx := hs x (by simp)
    have := len_sub r (b.erase x) h2 (fun y hy => (List.mem_erase_of_ne (fun e => h1 (by rw [← e]; exact hy))).2 (hs y (List.mem_cons_of_mem _ hy)))
    rw [List.length_erase_of_mem hx] at this
    have := List.length_pos_of_mem hx
    simp; omega
theorem decs_le (l : List Tx) (n : Nat) (h : ∀ m, m < n → decDigits m ∈ l) : n ≤ l.length := by
  have := len_sub ((List.range n).map decDigits) l (by
    refine List.Pairwise.map _ (fun a b (hab : a ≠ b) e => hab (dec_inj e)) List.nodup_range) (by
    intro x hx
    obtain ⟨m, hm, rfl⟩ := List.mem_map.1 hx
    exact h m (List.mem_range.1 hm))
  simpa using this

def PickAll (m : List Tx) (s : Tx) : Prop := textB s = true ∧ m.contains s = false ∧ ((∃ k, k ≤ 256 ∧ s = aK k ∧ ∀ j, j < k → aK j ∈ m) ∨ ((∀ j, j ≤ 256 → aK j ∈ m) ∧ ∃ k, s = decDigits k ∧ ∀ i, i < k → decDigits i ∈ m))
theorem pickAll_uniq {m : List Tx} {s s' : Tx} (h : PickAll m s) (h' : PickAll m s') : s = s' := by
  have no : ∀ {s : Tx}, m.contains s = false → s ∉ m := fun h1 h2 => by rw [List.contains_iff_mem.2 h2] at h1; cases h1
  obtain ⟨-, c, h⟩ := h
  obtain ⟨-, c', h'⟩ := h'
  rcases h with ⟨k, hk, rfl, hj⟩ | ⟨ha, k, rfl, hj⟩ <;> rcases h' with ⟨k', hk', rfl, hj'⟩ | ⟨ha', k', rfl, hj'⟩
  · rcases Nat.lt_trichotomy k k' with h3 | h3 | h3
    · exact absurd (hj' k h3) (no c)
    · rw [h3]
    · exact absurd (hj k' h3) (no c')
  · exact absurd (ha' k hk) (no c)
  · exact absurd (ha k' hk') (no c')
  · rcases Nat.lt_trichotomy k k' with h3 | h3 | h3
    · exact absurd (hj' k h3) (no c)
    · rw [h3]
    · exact absurd (hj k' h3) (no c')
def PickIs (all : Bool) (m : List Tx) (s : Tx) (n : Int) : Prop :=
  (all = true ∧ n = 0 ∧ PickAll m s) ∨ (all = false ∧ ((m = [] ∧ s = [] ∧ n = 16) ∨ (n = 0 ∧ ∃ r, m = s :: r)))
theorem pickIs_uniq {all : Bool} {m : List Tx} {s s' : Tx} {n n' : Int} (h : PickIs all m s n) (h' : PickIs all m s' n') : s = s' ∧ n = n' := by
  rcases h with ⟨a, hn, hp⟩ | ⟨a, ⟨h1, h2, hn⟩ | ⟨hn, r, h1⟩⟩ <;> rcases h' with ⟨a', hn', hp'⟩ | ⟨a', ⟨h1', h2', hn'⟩ | ⟨hn', r', h1'⟩⟩
  · exact ⟨pickAll_uniq hp hp', hn.trans hn'.symm⟩
  · rw [a] at a'; cases a'
  · rw [a] at a'; cases a'
  · rw [a] at a'; cases a'
  · exact ⟨h2.trans h2'.symm, hn.trans hn'.symm⟩
  · rw [h1] at h1'; cases h1'
  · rw [a] at a'; cases a'
  · rw [h1] at h1'; cases h1'
  · rw [h1] at h1'; cases h1'; exact ⟨rfl, hn.trans hn'.symm⟩
end Go.Proofs.YtankkadnhdfpfaaGreatDoor.Wd
