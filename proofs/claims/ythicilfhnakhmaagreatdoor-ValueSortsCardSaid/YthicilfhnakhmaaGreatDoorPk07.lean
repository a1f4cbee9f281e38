import Derived.Test.YthicilfhnakhmaaGreatDoorPk02
import Derived.Lib.ItoaNum
import Derived.Lib.LaidTab
import Derived.Lib.ItoaMem
import Derived.Test.YthicilfhnakhmaaGreatDoorPk01
/- Values as texts: plain: numbers, quotes, one text for one value. -/
set_option linter.unusedSimpArgs false
set_option linter.unusedVariables false
namespace Go.Proofs.YthicilfhnakhmaaGreatDoor
open Go.Lib

/-- so many digits at the end, zeros ahead -/
def lowD : Nat → Nat → List UInt8
  | _, 0 => []
  | N, k + 1 => lowD (N / 10) k ++ [UInt8.ofNat (48 + N % 10)]
theorem lowD_length : ∀ (k N : Nat), (lowD N k).length = k
  | 0, _ => rfl
  | k + 1, N => by rw [lowD, List.length_append, lowD_length k]; rfl
theorem decDigits_pos (u : Nat) : 1 ≤ (decDigits u).length := by
  rw [decDigits]; split <;> simp
theorem decDigits_big {u : Nat} (h : ¬ u < 10) : decDigits u = decDigits (u / 10) ++ [UInt8.ofNat (48 + u % 10)] := by rw [decDigits, dif_neg h]
/-- digits, zeros ahead, at least so many -/
def padD (u k : Nat) : List UInt8 := List.replicate (k - (decDigits u).length) 48 ++ decDigits u
theorem padD_succ (N k : Nat) : padD N (k + 2) = padD (N / 10) (k + 1) ++ [UInt8.ofNat (48 + N % 10)] := by
  unfold padD
  by_cases h : N < 10
  · have e : N / 10 = 0 := by omega
    rw [e, decDigits_one h, decDigits_one (show 0 < 10 by decide), Nat.mod_eq_of_lt h]
    simp only [List.length_singleton]
    rw [show k + 2 - 1 = k + 1 by omega, show k + 1 - 1 = k by omega, List.replicate_succ']
    rfl
  · rw [decDigits_big h, List.length_append, List.length_singleton, show k + 2 - ((decDigits (N / 10)).length + 1) = k + 1 - (decDigits (N / 10)).length by omega]
    simp
theorem padD_split : ∀ (k N : Nat), padD N (k + 1) = decDigits (N / 10 ^ k) ++ lowD N k
  | 0, N => by
    have := decDigits_pos N
    unfold padD
    rw [show 0 + 1 - (decDigits N).length = 0 by omega]
    simp [lowD]
  | k + 1, N => by
    rw [padD_succ, padD_split k (N / 10), lowD, Nat.div_div_eq_div_mul, Nat.pow_succ', List.append_assoc]
/-- a number as a text -/
def decL (n s : Int) : List UInt8 :=
  let b := if 0 < s then decDigits (n.natAbs / 10 ^ s.toNat) ++ 46 :: lowD n.natAbs s.toNat else decDigits n.natAbs
  if n < 0 then 45 :: b else b
theorem dig_nat (d : Nat) (h : d < 10) : (UInt8.ofNat (48 + d)).toNat = 48 + d := by
  rw [UInt8.toNat_ofNat']; omega
theorem dec_digit (u : Nat) : ∀ x ∈ decDigits u, 48 ≤ x.toNat ∧ x.toNat < 58 := by
  induction u using Nat.strongRecOn with
  | ind u ih =>
    intro x hx
    by_cases h : u < 10
    · rw [decDigits_one h] at hx
      have := List.mem_singleton.1 hx
      subst this
      rw [dig_nat u h]; omega
    · rw [decDigits_big h] at hx
      rcases List.mem_append.1 hx with hx | hx
      · exact ih (u / 10) (by omega) x hx
      · have := List.mem_singleton.1 hx
        subst this
        rw [dig_nat _ (Nat.mod_lt _ (by decide))]; omega
theorem low_digit : ∀ (k N : Nat), ∀ x ∈ lowD N k, 48 ≤ x.toNat ∧ x.toNat < 58
  | 0, _, x, hx => by simp [lowD] at hx
  | k + 1, N, x, hx => by
    rw [lowD] at hx
    rcases List.mem_append.1 hx with hx | hx
    · exact low_digit k _ x hx
    · have := List.mem_singleton.1 hx
      subst this
      rw [dig_nat _ (Nat.mod_lt _ (by decide))]; omega
theorem dig_inj {a b : Nat} (ha : a < 10) (hb : b < 10) (h : UInt8.ofNat (48 + a) = UInt8.ofNat (48 + b)) : a = b := by
  have := congrArg UInt8.toNat h
  rw [dig_nat a ha, dig_nat b hb] at this
  omega
theorem lowD_inj : ∀ (k : Nat) {N M : Nat}, lowD N k = lowD M k → N % 10 ^ k = M % 10 ^ k
  | 0, N, M, _ => by rw [Nat.pow_zero, Nat.mod_one, Nat.mod_one]
  | k + 1, N, M, h => by
    rw [lowD, lowD] at h
    obtain ⟨h1, h2⟩ := List.append_inj' h rfl
    have e1 := lowD_inj k h1
    have e2 := dig_inj (Nat.mod_lt _ (by decide)) (Nat.mod_lt _ (by decide)) (List.cons.inj h2).1
    rw [Nat.pow_succ', Nat.mod_mul, Nat.mod_mul, e1, e2]
theorem decDigits_inj : ∀ {u v : Nat}, decDigits u = decDigits v → u = v := by
  intro u
  induction u using Nat.strongRecOn with
  | ind u ih =>
    intro v h
    by_cases hu : u < 10
    · by_cases hv : v < 10
      · rw [decDigits_one hu, decDigits_one hv] at h
        exact dig_inj hu hv (List.cons.inj h).1
      · rw [decDigits_one hu, decDigits_big hv] at h
        have h1 := congrArg List.length h
        have h2 := decDigits_pos (v / 10)
        rw [List.length_append, List.length_singleton, List.length_singleton] at h1
        omega
    · by_cases hv : v < 10
      · rw [decDigits_big hu, decDigits_one hv] at h
        have h1 := congrArg List.length h
        have h2 := decDigits_pos (u / 10)
        rw [List.length_append, List.length_singleton, List.length_singleton] at h1
        omega
      · rw [decDigits_big hu, decDigits_big hv] at h
        obtain ⟨h1, h2⟩ := List.append_inj' h rfl
        have e1 := ih (u / 10) (by omega) h1
        have e2 := dig_inj (Nat.mod_lt _ (by decide)) (Nat.mod_lt _ (by decide)) (List.cons.inj h2).1
        omega
/-- two lists that are one, each up to its first point -/
theorem point_inj : ∀ {a b c d : List UInt8}, (∀ x ∈ a, x ≠ 46) → (∀ x ∈ b, x ≠ 46) → a ++ 46 :: c = b ++ 46 :: d → a = b ∧ c = d
  | [], [], c, d, _, _, h => ⟨rfl, (List.cons.inj h).2⟩
  | [], y :: b, c, d, _, hb, h => absurd (List.cons.inj h).1.symm (hb y (by simp))
  | x :: a, [], c, d, ha, _, h => absurd (List.cons.inj h).1 (ha x (by simp))
  | x :: a, y :: b, c, d, ha, hb, h => by
    obtain ⟨rfl, h2⟩ := List.cons.inj h
    obtain ⟨rfl, rfl⟩ := point_inj (fun z hz => ha z (List.mem_cons_of_mem _ hz)) (fun z hz => hb z (List.mem_cons_of_mem _ hz)) h2
    exact ⟨rfl, rfl⟩
def absL (N k : Nat) : List UInt8 := if 0 < k then decDigits (N / 10 ^ k) ++ 46 :: lowD N k else decDigits N
theorem no_point {x : UInt8} (h : 48 ≤ x.toNat ∧ x.toNat < 58) : x ≠ 46 := by rintro rfl; exact absurd h.1 (by decide)
theorem absL_inj {N k M j : Nat} (h : absL N k = absL M j) : N = M ∧ k = j := by
  unfold absL at h
  by_cases hk : 0 < k
  · by_cases hj : 0 < j
    · rw [if_pos hk, if_pos hj] at h
      obtain ⟨h1, h2⟩ := point_inj (fun x hx => no_point (dec_digit _ x hx)) (fun x hx => no_point (dec_digit _ x hx)) h
      have hkj : k = j := by rw [← lowD_length k N, h2, lowD_length]
      subst hkj
      have e1 := decDigits_inj h1
      have e2 := lowD_inj k h2
      refine ⟨?_, rfl⟩
      rw [← Nat.div_add_mod N (10 ^ k), ← Nat.div_add_mod M (10 ^ k), e1, e2]
    · rw [if_pos hk, if_neg hj] at h
      have : (46 : UInt8) ∈ decDigits M := by rw [← h]; simp
      exact absurd rfl (no_point (dec_digit _ _ this))
  · by_cases hj : 0 < j
    · rw [if_neg hk, if_pos hj] at h
      have : (46 : UInt8) ∈ decDigits N := by rw [h]; simp
      exact absurd rfl (no_point (dec_digit _ _ this))
    · rw [if_neg hk, if_neg hj] at h
      exact ⟨decDigits_inj h, by omega⟩
theorem decL_eq (n s : Int) : decL n s = if n < 0 then 45 :: absL n.natAbs s.toNat else absL n.natAbs s.toNat := by
  unfold decL absL
  by_cases h : 0 < s
  · rw [if_pos h, if_pos (show 0 < s.toNat by omega)]
  · rw [if_neg h, if_neg (show ¬ 0 < s.toNat by omega)]
/-- the first sign of digits -/
theorem decDigits_head (u : Nat) : ∃ x r, decDigits u = x :: r ∧ 48 ≤ x.toNat ∧ x.toNat < 58 := by
  cases h : decDigits u with
  | nil => have := decDigits_pos u; rw [h] at this; simp at this
  | cons x r => exact ⟨x, r, rfl, dec_digit u x (by rw [h]; simp)⟩
theorem absL_head (N k : Nat) : ∃ x r, absL N k = x :: r ∧ 48 ≤ x.toNat ∧ x.toNat < 58 := by
  unfold absL
  split
  · obtain ⟨x, r, h, h1⟩ := decDigits_head (N / 10 ^ k)
    exact ⟨x, r ++ 46 :: lowD N k, by rw [h]; rfl, h1⟩
  · exact decDigits_head N
theorem decL_head (n s : Int) : ∃ x r, decL n s = x :: r ∧ (x = 45 ∨ (48 ≤ x.toNat ∧ x.toNat < 58)) := by
  rw [decL_eq]
  split
  · exact ⟨45, _, rfl, .inl rfl⟩
  · obtain ⟨x, r, h, h1⟩ := absL_head n.natAbs s.toNat
    exact ⟨x, r, h, .inr h1⟩
theorem decL_inj {n s m t : Int} (hs : 0 ≤ s) (ht : 0 ≤ t) (h : decL n s = decL m t) : n = m ∧ s = t := by
  rw [decL_eq, decL_eq] at h
  obtain ⟨x, r, e1, b1⟩ := absL_head n.natAbs s.toNat
  obtain ⟨y, r', e2, b2⟩ := absL_head m.natAbs t.toNat
  have no : ∀ {z : UInt8}, 48 ≤ z.toNat ∧ z.toNat < 58 → z ≠ 45 := by rintro z hz rfl; exact absurd hz.1 (by decide)
  by_cases hn : n < 0
  · by_cases hm : m < 0
    · rw [if_pos hn, if_pos hm] at h
      obtain ⟨h1, h2⟩ := absL_inj (List.cons.inj h).2
      omega
    · rw [if_pos hn, if_neg hm, e2] at h
      exact absurd (List.cons.inj h).1.symm (no b2)
  · by_cases hm : m < 0
    · rw [if_neg hn, if_pos hm, e1] at h
      exact absurd (List.cons.inj h).1 (no b1)
    · rw [if_neg hn, if_neg hm] at h
      obtain ⟨h1, h2⟩ := absL_inj h
      omega
theorem dec_len_lt {u : Nat} : ∀ {k : Nat}, u < 10 ^ (k + 1) → (decDigits u).length ≤ k + 1 := by
  intro k
  induction k generalizing u with
  | zero => intro h; rw [decDigits_one (by omega)]; simp
  | succ k ih =>
    intro h
    by_cases hu : u < 10
    · rw [decDigits_one hu]; simp
    · rw [decDigits_big hu, List.length_append, List.length_singleton]
      have := ih (u := u / 10) (by rw [Nat.pow_succ] at h; omega)
      omega
/-- a text with a sign \ ahead of each \ and " -/
def escL : List UInt8 → List UInt8
  | [] => []
  | x :: r => if x = 34 ∨ x = 92 then 92 :: x :: escL r else x :: escL r
theorem escL_append : ∀ (a b : List UInt8), escL (a ++ b) = escL a ++ escL b
  | [], _ => rfl
  | x :: a, b => by
    rw [List.cons_append, escL, escL, escL_append a b]
    split <;> rfl
theorem escL_inj : ∀ {a b : List UInt8}, escL a = escL b → a = b
  | [], [], _ => rfl
  | [], y :: b, h => by rw [escL, escL] at h; split at h <;> cases h
  | x :: a, [], h => by rw [escL, escL] at h; split at h <;> cases h
  | x :: a, y :: b, h => by
    rw [escL, escL] at h
    by_cases hx : x = 34 ∨ x = 92
    · by_cases hy : y = 34 ∨ y = 92
      · rw [if_pos hx, if_pos hy] at h
        obtain ⟨_, h2⟩ := List.cons.inj h
        obtain ⟨e, h3⟩ := List.cons.inj h2
        rw [e, escL_inj h3]
      · rw [if_pos hx, if_neg hy] at h
        exact absurd (.inr (List.cons.inj h).1.symm) hy
    · by_cases hy : y = 34 ∨ y = 92
      · rw [if_neg hx, if_pos hy] at h
        exact absurd (.inr (List.cons.inj h).1) hx
      · rw [if_neg hx, if_neg hy] at h
        obtain ⟨e, h3⟩ := List.cons.inj h
        rw [e, escL_inj h3]
def quoL (l : List UInt8) : List UInt8 := 34 :: (escL l ++ [34])
theorem quoL_inj {a b : List UInt8} (h : quoL a = quoL b) : a = b := by
  unfold quoL at h
  exact escL_inj (List.append_inj' (List.cons.inj h).2 rfl).1
end Go.Proofs.YthicilfhnakhmaaGreatDoor

/- soffit/deci.Text, walked; strconv.FormatUint at base 10. -/
set_option linter.unusedSimpArgs false
set_option linter.unusedVariables false
namespace Go.Proofs.YthicilfhnakhmaaGreatDoor
open Go.RowKit Go.Sort Go.Lib

theorem tabIs_below {P : Program} {w w' : World} {name : String} {k : IntKind} {zs : List Int} (h : TabIs P w name k zs) (hb : Below w.heap.size w w') : TabIs P w' name k zs := by
  unfold TabIs World.var? at *
  cases hg : P.globalNamed name with
  | none => simp [hg] at h
  | some g =>
    simp only [hg, Option.bind_some] at h ⊢
    have hl : g < w.heap.size := by
      rcases Nat.lt_or_ge g w.heap.size with h' | h'
      · exact h'
      · rw [Array.getElem?_eq_none h'] at h; simp at h
    rw [hb.block g hl]; exact h
/-- the tables of the library, the powers of ten too -/
structure EnvP (w : World) : Prop where
  env : Env w
  pow : TabIs Tryz.prog w "internal/strconv.uint64pow10" .u64 pow10Tab
theorem EnvP.below {w w' : World} (h : EnvP w) (hb : Below w.heap.size w w') : EnvP w' := ⟨h.env.below hb, tabIs_below h.pow hb⟩

theorem below_grow {base : Nat} {a w : World} (h : Below base a w) (hb : base ≤ w.heap.size) (os : Array Obj) : Below base a (grow w os) := by
  refine ⟨h.os, h.tape, h.output, ?_, fun k hk => ?_⟩
  · have := h.size
    simp [grow]; omega
  · rw [← h.block k hk]
    simp only [grow]
    rw [Array.getElem?_append, if_pos (by omega)]

theorem ba_append (a b : List UInt8) : (⟨a.toArray⟩ : ByteArray) ++ ⟨b.toArray⟩ = ⟨(a ++ b).toArray⟩ := by
  apply ByteArray.ext
  simp [ByteArray.data_append]
theorem ba_extract (l : List UInt8) (i j : Nat) : (⟨l.toArray⟩ : ByteArray).extract i j = ⟨((l.take j).drop i).toArray⟩ := by
  apply ByteArray.ext
  rw [ByteArray.data_extract]
  apply Array.toList_inj.1
  simp [List.extract_eq_take_drop, List.drop_take]
theorem ba_size (l : List UInt8) : (⟨l.toArray⟩ : ByteArray).size = l.length := by simp [ByteArray.size]
theorem repeatL_one (x : UInt8) : ∀ c, repeatL [x] c = List.replicate c x
  | 0 => rfl
  | c + 1 => by rw [repeatL, repeatL_one x c]; rfl

theorem holds_zero0 (w : World) (T : TypeId) (nd : Nat) (hs : nd ≤ 24) : Holds (fun (b : UInt8) => Value.int .u8 (b.toNat : Int)) (w.alloc (.cells zeros24 T)) w.heap.size 0 (Array.replicate nd (0 : UInt8)) := fun j hj => by
  have hj' : j < nd := by simpa using hj
  refine ⟨?_, World.frozen?_alloc_new _ _ _ _⟩
  rw [World.cell?_alloc_new, zeros24_at _ (by omega), getElem!_pos _ j hj]
  simp
theorem fin_pos0 (w : World) (o : Obj) (dk : Array UInt8) (k : Nat) : Below w.heap.size w ((putRow (fun (b : UInt8) => Value.int .u8 (b.toNat : Int)) (w.alloc o) w.heap.size 0 dk).drewN k) := by
  rw [alloc_eq_grow]
  obtain ⟨os', _, e⟩ := putRow_grow_new (fun (b : UInt8) => Value.int .u8 (b.toNat : Int)) w #[o] w.heap.size 0 dk (Nat.le_refl _)
  rw [e]
  exact below_drewN (below_grow (Below.refl _ _) (Nat.le_refl _) os') k

set_option maxRecDepth 100000 in
set_option maxHeartbeats 6400000 in
theorem fmtUint0_any (u : Nat) (hu : u < 18446744073709551616) (w : World) (hE : TabIs Tryz.prog w "internal/strconv.uint64pow10" .u64 pow10Tab) :
    Calls Tryz.prog 66 #[.int .u64 u, .int .i64 10] w fun e w' => e = .returned (.string ⟨(decDigits u).toArray⟩) ∧ Below w.heap.size w w' := by
  by_cases hs : u < 100
  · have hs' : (u : Int) < 100 := by omega
    have hcv : IntKind.i64.wrap (u : Int) = (u : Int) := IntWalk.i64_in _ (by omega)
    go_enter Tryz.func66, Tryz.ntmps66
    go_wp2_with fail
    refine (Tryz.internal_strconv_small u hs _).mono ?_
    rintro e w' ⟨rfl, rfl⟩
    go_wp2_with fail
    go_ret
    exact ⟨rfl, bel⟩
  · have hs' : ¬ (u : Int) < 100 := by omega
    have hu1 : 1 ≤ u := by omega
    have hnd20 : nDigits u ≤ 20 := by have := numDigits_eq u hu1 hu; split at this <;> omega
    have hb3 : nDigits u ≤ 24 := by omega
    have hal : Tryz.prog.arrayLen 132 = 24 := by kernel_rfl
    have hsl1 : ∀ W, (Instr.sliceAt 132 (.pointer (some ⟨w.heap.size, 0, none⟩)) none (some (.int .i64 (nDigits u : Int))) none).run Tryz.prog W = .ok (.slice (some ⟨w.heap.size, 0, none⟩) (nDigits u) 24) W := fun W => by
      rw [run_sliceAt_array_h W 132 ⟨w.heap.size, 0, none⟩ (by kernel_rfl) .i64 (nDigits u : Int) (by omega) (by rw [hal]; omega)]
      go_simp
    have hH0 := holds_zero0 w 132 (nDigits u) hb3
    have hfmt := Tryz.internal_strconv_formatBase10 w.heap.size 0 24 u (Array.replicate (nDigits u) 0) (w.alloc (.cells zeros24 132)) hH0 (by rw [Array.size_replicate]; exact lt_pow_nDigits u) hu (by rw [Array.size_replicate]; omega)
    rw [Array.size_replicate] at hfmt
    have HH0 := Lib.hid hH0
    clear hH0 hal
    go_enter Tryz.func66, Tryz.ntmps66
    go_wp2_with fail
    refine (Tryz.internal_strconv_numDigits u hu1 hu _ (tabIs_alloc hE _)).mono ?_
    rintro e w' ⟨rfl, rfl⟩
    go_wp2_with fail
    refine hfmt.mono ?_
    rintro e w' ⟨rfl, k, v', dk, rfl, hF⟩
    have hcv : (convert 87 9 (.slice (some ⟨w.heap.size, 0, none⟩) (nDigits u) 24)).run Tryz.prog ((putRow (fun (b : UInt8) => Value.int .u8 (b.toNat : Int)) (w.alloc (.cells zeros24 132)) w.heap.size 0 dk).drewN k) = .ok (.string ⟨(decDigits u).toArray⟩) ((putRow (fun (b : UInt8) => Value.int .u8 (b.toNat : Int)) (w.alloc (.cells zeros24 132)) w.heap.size 0 dk).drewN k) := by
      have h := run_convert_bytes_back (P := Tryz.prog) ((putRow (fun (b : UInt8) => Value.int .u8 (b.toNat : Int)) (w.alloc (.cells zeros24 132)) w.heap.size 0 dk).drewN k) 87 9 5 ⟨w.heap.size, 0, none⟩ 24 (decDigits u) (by kernel_rfl) (by kernel_rfl) (by kernel_rfl) (fun j hj => by
        rw [row_is_numeral hF j hj, add_plain, World.cell?_drewN]
        exact cell?_putRow (fun (b : UInt8) => Value.int .u8 (b.toNat : Int)) _ w.heap.size 0 _ dk HH0.out (by rw [hF.size, Array.size_replicate]) j (by rw [hF.size]; rw [decDigits_length] at hj; exact hj))
      rw [decDigits_length] at h
      exact h
    have hbel := fin_pos0 w (.cells zeros24 132) dk k
    have HB := Lib.hid hbel
    clear hbel hF
    go_wp2_with fail
    go_ret
    exact ⟨rfl, HB.out⟩
set_option maxRecDepth 100000 in
theorem fmtUint_any (u : Nat) (hu : u < 18446744073709551616) (w : World) (hE : TabIs Tryz.prog w "internal/strconv.uint64pow10" .u64 pow10Tab) :
    Calls Tryz.prog 46 #[.int .u64 u, .int .i64 10] w fun e w' => e = .returned (.string ⟨(decDigits u).toArray⟩) ∧ Below w.heap.size w w' := by
  obtain ⟨R, hR⟩ : ∃ R : ByteArray, ⟨(decDigits u).toArray⟩ = R := ⟨_, rfl⟩
  rw [hR]
  go_enter Tryz.func46, Tryz.ntmps46
  go_wp2_with fail
  refine (fmtUint0_any u hu _ hE).mono ?_
  rintro e w1 ⟨rfl, hb1⟩
  rw [hR]
  go_wp2_with fail
  go_ret
  exact ⟨rfl, bel⟩
theorem dsize_any (n s : Int) (w : World) (h1 : -999999999999 ≤ n) (h2 : n ≤ 999999999999) :
    Calls Tryz.prog 47 #[.agg #[.int .i64 n, .int .i64 s]] w fun e w' => e = .returned (.int .u64 (n.natAbs : Int)) ∧ Below w.heap.size w w' := by
  have hn : IntKind.i64.wrap (-n) = -n := IntWalk.i64_in _ (by omega)
  obtain ⟨M, hM⟩ : ∃ M : Int, (n.natAbs : Int) = M := ⟨_, rfl⟩
  rw [hM]
  have HM := Lib.hid hM
  by_cases h : n < 0
  · have e1 : ¬ (-n ≤ n) := by omega
    have e2 : n < -n := by omega
    have hu : IntKind.u64.wrap (-n) = -n := by rw [IntKind.wrap_u64]; omega
    go_enter Tryz.func47, Tryz.ntmps47
    go_wp2_with fail
    go_ret
    refine ⟨ret_int ?_, bel⟩
    have := HM.out
    first | omega | (simp; omega) | (simp [*]; omega)
  · have e1 : (-n ≤ n) := by omega
    have e2 : ¬ n < -n := by omega
    have hu : IntKind.u64.wrap n = n := by rw [IntKind.wrap_u64]; omega
    go_enter Tryz.func47, Tryz.ntmps47
    go_wp2_with fail
    go_ret
    refine ⟨ret_int ?_, bel⟩
    have := HM.out
    first | omega | (simp; omega) | (simp [*]; omega)
end Go.Proofs.YthicilfhnakhmaaGreatDoor

/- soffit/deci.Text, walked. -/
set_option linter.unusedSimpArgs false
set_option linter.unusedVariables false
namespace Go.Proofs.YthicilfhnakhmaaGreatDoor
open Go.RowKit Go.Sort Go.Lib

def decTxtRes (n s : Int) : Value := if decSnd n s = true then .tuple #[.string ⟨(decL n s).toArray⟩, .int .i64 0] else .tuple #[.string ⟨#[]⟩, .int .i64 2]
theorem dec_len12 {n : Int} (h1 : -999999999999 ≤ n) (h2 : n ≤ 999999999999) : (decDigits n.natAbs).length ≤ 12 := dec_len_lt (k := 11) (by omega)
/-- digits with a point among them -/
theorem point_at (N t q c : Nat) (Z R P : ByteArray) (ht : 0 < t) (hR : R = ⟨(decDigits N).toArray⟩) (hZ : Z = ⟨(repeatL [48] c).toArray⟩) (hc : c = t + 1 - (decDigits N).length) (hP : Z ++ R = P) (hq : P.size = q + t) :
    P.extract 0 q ++ ⟨#[46]⟩ ++ P.extract q P.size = ⟨(absL N t).toArray⟩ := by
  have e : P = ⟨(padD N (t + 1)).toArray⟩ := by
    rw [← hP, hZ, hR, ba_append, repeatL_one, hc]; rfl
  have hl : (padD N (t + 1)).length = q + t := by rw [← hq, e, ba_size]
  subst e
  have h2 := padD_split t N
  have hql : (decDigits (N / 10 ^ t)).length = q := by
    have := congrArg List.length h2
    rw [hl, List.length_append, lowD_length] at this
    omega
  rw [ba_extract, ba_extract, show (⟨#[46]⟩ : ByteArray) = ⟨[46].toArray⟩ from rfl, ba_append, ba_append, ba_size]
  congr 2
  unfold absL
  rw [if_pos ht, List.take_of_length_le (Nat.le_refl _), h2, List.drop_zero]
  rw [← hql]
  rw [List.take_left', List.drop_left'] <;> simp

set_option maxRecDepth 100000 in
set_option maxHeartbeats 6400000 in
theorem decText_any (n s : Int) (w : World) (hn : I64 n) (hs : I64 s) (hE : EnvP w) :
    Calls Tryz.prog 22 #[.agg #[.int .i64 n, .int .i64 s]] w fun e w' => e = .returned (decTxtRes n s) ∧ Below w.heap.size w w' := by
  cases hd : decSnd n s
  · have HF : Hid (decTxtRes n s = .tuple #[.string ⟨#[]⟩, .int .i64 2]) := Lib.hid (by unfold decTxtRes; rw [hd]; rfl)
    go_enter Tryz.func22, Tryz.ntmps22
    go_wp2_with fail
    refine (all1_any _ n s _ (by first | omega | (simp only [sz_alloc, sz_set, sz_drew, sz_drewN, sz_iterAt, sz_iter] at *; omega) | (simp; done) | (simp; omega) | (simp at *; omega)) (by first | (simp [go_sem]; done) | (simp [go_sem, *]; done)) (by first | (simp [go_sem]; done) | (simp [go_sem, *]; done)) hn hs).mono ?_
    rintro e w1 ⟨rfl, hb1⟩
    rw [hd, okE_false]
    clear hd
    go_wp2_with fail
    go_ret2
    exact ⟨by rw [HF.out]; rfl, bel⟩
  · obtain ⟨a1, a2, a3, a4, -⟩ := decSnd_of hd
    obtain ⟨R, hR⟩ : ∃ R : ByteArray, ⟨(decDigits n.natAbs).toArray⟩ = R := ⟨_, rfl⟩
    have hsz : R.size = (decDigits n.natAbs).length := by rw [← hR, ba_size]
    have hL1 : 1 ≤ R.size := by rw [hsz]; exact decDigits_pos _
    have hL2 : R.size ≤ 12 := by rw [hsz]; exact dec_len12 a3 a4
    have HF : Hid (decTxtRes n s = .tuple #[.string ⟨(decL n s).toArray⟩, .int .i64 0]) := Lib.hid (by unfold decTxtRes; rw [hd]; rfl)
    have HR := Lib.hid hR
    have HSZ := Lib.hid hsz
    clear hR hsz
    by_cases ht : 0 < s
    · obtain ⟨t, rfl⟩ : ∃ t : Nat, s = (t : Int) := ⟨s.toNat, by omega⟩
      have hw1 : IntKind.i64.wrap ((t : Int) + 1) = (t : Int) + 1 := IntWalk.i64_in _ (by omega)
      by_cases hp : t + 1 ≤ R.size
      · obtain ⟨x, hx⟩ : ∃ x : Int, (t : Int) + 1 - (R.size : Int) = x := ⟨_, rfl⟩
        have hw2 : IntKind.i64.wrap ((t : Int) + 1 - (R.size : Int)) = x := by rw [IntWalk.i64_in _ (by omega), hx]
        have c1 : x ≤ 0 := by omega
        have c2 : ¬ (0 : Int) < x := by omega
        have c4 : max (0 : Int) x = 0 := by omega
        have HX := Lib.hid hx
        clear hx
        obtain ⟨c, hc⟩ : ∃ c : Nat, c = t + 1 - R.size := ⟨_, rfl⟩
        have hc0 : c = 0 := by omega
        have HC := Lib.hid hc
        clear hc
        subst hc0
        go_enter Tryz.func22, Tryz.ntmps22
        go_wp2_with fail
        refine (all1_any _ n t _ (by first | omega | (simp only [sz_alloc, sz_set, sz_drew, sz_drewN, sz_iterAt, sz_iter] at *; omega) | (simp; done) | (simp; omega) | (simp at *; omega)) (by first | (simp [go_sem]; done) | (simp [go_sem, *]; done)) (by first | (simp [go_sem]; done) | (simp [go_sem, *]; done)) hn hs).mono ?_
        rintro e w1 ⟨rfl, hb1⟩
        rw [hd, okE_true]
        clear hd
        have hz1 := hb1.size
        try simp at hz1
        obtain ⟨q1_0, l1_0, r1_0⟩ := aft hb1 (w.heap.size)
        obtain ⟨q1_1, l1_1, r1_1⟩ := aft hb1 (w.heap.size + 1)
        go_wp2_with fail
        refine (dsize_any n t _ a3 a4).mono ?_
        rintro e w2 ⟨rfl, hb2⟩
        have hz2 := hb2.size
        try simp at hz2
        obtain ⟨q2_0, l2_0, r2_0⟩ := aft hb2 (w.heap.size)
        obtain ⟨q2_1, l2_1, r2_1⟩ := aft hb2 (w.heap.size + 1)
        go_wp2_with fail
        refine (fmtUint_any n.natAbs (by omega) _ (hE.below bel).pow).mono ?_
        rintro e w3 ⟨rfl, hb3⟩
        rw [HR.out]
        have hz3 := hb3.size
        try simp at hz3
        obtain ⟨q3_0, l3_0, r3_0⟩ := aft hb3 (w.heap.size)
        obtain ⟨q3_1, l3_1, r3_1⟩ := aft hb3 (w.heap.size + 1)
        go_wp2_with fail
        refine (Tryz.strings_Repeat_zero ⟨#[48]⟩ _).mono ?_
        rintro e w4 ⟨rfl, rfl⟩
        obtain ⟨Z, hZ⟩ : ∃ Z : ByteArray, ⟨#[]⟩ = Z := ⟨_, rfl⟩
        rw [hZ]
        have hZs : Z.size = 0 := by rw [← hZ]; rfl
        have HZ : Hid (Z = ⟨(repeatL [48] 0).toArray⟩) := Lib.hid (by rw [← hZ]; rfl)
        clear hZ
        go_wp2_with fail
        generalize hPP : Z ++ R = P
        have hPs : P.size = Z.size + R.size := by rw [← hPP]; simp
        obtain ⟨q, hq⟩ : ∃ q, P.size = q + t := ⟨P.size - t, by omega⟩
        have HPA : Hid (P.extract 0 q ++ ⟨#[46]⟩ ++ P.extract q P.size = ⟨(absL n.natAbs t).toArray⟩) := Lib.hid (point_at n.natAbs t q 0 Z R P (by omega) HR.out.symm HZ.out (by rw [HC.out, HSZ.out]) hPP hq)
        have hw5 : IntKind.i64.wrap ((P.size : Int) - (t : Int)) = (q : Int) := by rw [IntWalk.i64_in _ (by omega)]; omega
        have i1 : (0 : Int) ≤ (q : Int) := by omega
        have i2 : (q : Int) ≤ (P.size : Int) := by omega
        have i3 : ¬ (P.size : Int) < (q : Int) := by omega
        have i4 : ¬ (q : Int) < 0 := by omega
        have i5 : q ≤ P.size := by omega
        have i10 : P.size ≤ 100 := by omega
        have i6 : ¬ 9223372036854775807 < q + 1 := by omega
        have i7 : ¬ 9223372036854775807 < q + 1 + (P.size - q) := by omega
        have i8 : ¬ 9223372036854775807 < P.size + 1 := by omega
        have i9 : min q P.size = q := by omega
        clear hPP hPs hq hZs
        go_region
        all_goals
          rw [HPA.out]
          obtain ⟨Q, hQ⟩ : ∃ Q : ByteArray, ⟨(absL n.natAbs t).toArray⟩ = Q := ⟨_, rfl⟩
          have hQs : Q.size = q + 1 + (P.size - q) := by
            rw [← hQ, ← HPA.out, ByteArray.size_append, ByteArray.size_append, ByteArray.size_extract, ByteArray.size_extract, show (⟨#[46]⟩ : ByteArray).size = 1 from rfl]; omega
          rw [hQ]
          have j1 : ¬ 9223372036854775807 < 1 + Q.size := by omega
          have HQ := Lib.hid hQ
          clear hQ hQs HPA
          by_cases hm : n < 0
          · go_wp2_with fail
            go_ret2
            refine ⟨?_, bel⟩
            rw [HF.out, decL_eq, if_pos (by omega), Int.toNat_natCast, show (45 :: absL n.natAbs t) = [45] ++ absL n.natAbs t from rfl, ← ba_append, HQ.out]
            rfl
          · go_wp2_with fail
            go_ret2
            refine ⟨?_, bel⟩
            rw [HF.out, decL_eq, if_neg (by omega), Int.toNat_natCast, HQ.out]
            rfl
      · obtain ⟨c, hc⟩ : ∃ c : Nat, c = t + 1 - R.size := ⟨_, rfl⟩
        have hw2 : IntKind.i64.wrap ((t : Int) + 1 - (R.size : Int)) = (c : Int) := by rw [IntWalk.i64_in _ (by omega)]; omega
        have c1 : ¬ (c : Int) ≤ 0 := by omega
        have c2 : (0 : Int) < (c : Int) := by omega
        have hc7 : c ≤ 7 := by omega
        have hge : t + 1 ≤ c + R.size := by omega
        have HC := Lib.hid hc
        clear hc
        go_enter Tryz.func22, Tryz.ntmps22
        go_wp2_with fail
        refine (all1_any _ n t _ (by first | omega | (simp only [sz_alloc, sz_set, sz_drew, sz_drewN, sz_iterAt, sz_iter] at *; omega) | (simp; done) | (simp; omega) | (simp at *; omega)) (by first | (simp [go_sem]; done) | (simp [go_sem, *]; done)) (by first | (simp [go_sem]; done) | (simp [go_sem, *]; done)) hn hs).mono ?_
        rintro e w1 ⟨rfl, hb1⟩
        rw [hd, okE_true]
        clear hd
        have hz1 := hb1.size
        try simp at hz1
        obtain ⟨q1_0, l1_0, r1_0⟩ := aft hb1 (w.heap.size)
        obtain ⟨q1_1, l1_1, r1_1⟩ := aft hb1 (w.heap.size + 1)
        go_wp2_with fail
        refine (dsize_any n t _ a3 a4).mono ?_
        rintro e w2 ⟨rfl, hb2⟩
        have hz2 := hb2.size
        try simp at hz2
        obtain ⟨q2_0, l2_0, r2_0⟩ := aft hb2 (w.heap.size)
        obtain ⟨q2_1, l2_1, r2_1⟩ := aft hb2 (w.heap.size + 1)
        go_wp2_with fail
        refine (fmtUint_any n.natAbs (by omega) _ (hE.below bel).pow).mono ?_
        rintro e w3 ⟨rfl, hb3⟩
        rw [HR.out]
        have hz3 := hb3.size
        try simp at hz3
        obtain ⟨q3_0, l3_0, r3_0⟩ := aft hb3 (w.heap.size)
        obtain ⟨q3_1, l3_1, r3_1⟩ := aft hb3 (w.heap.size + 1)
        go_wp2_with fail
        refine (Tryz.strings_Repeat ⟨#[48]⟩ c _ (by omega) (by rw [show (⟨#[48]⟩ : ByteArray).size = 1 from rfl]; omega)).mono ?_
        rintro e w4 ⟨rfl, hb4⟩
        have hz4 := hb4.size
        try simp at hz4
        obtain ⟨q4_0, l4_0, r4_0⟩ := aft hb4 (w.heap.size)
        obtain ⟨q4_1, l4_1, r4_1⟩ := aft hb4 (w.heap.size + 1)
        obtain ⟨Z, hZ⟩ : ∃ Z : ByteArray, ⟨(repeatL (⟨#[48]⟩ : ByteArray).data.toList c).toArray⟩ = Z := ⟨_, rfl⟩
        rw [hZ]
        have hZs : Z.size = c := by rw [← hZ, ba_size]; simp [repeatL_one]
        have HZ := Lib.hid hZ
        clear hZ
        go_wp2_with fail
        generalize hPP : Z ++ R = P
        have hPs : P.size = Z.size + R.size := by rw [← hPP]; simp
        obtain ⟨q, hq⟩ : ∃ q, P.size = q + t := ⟨P.size - t, by omega⟩
        have HPA : Hid (P.extract 0 q ++ ⟨#[46]⟩ ++ P.extract q P.size = ⟨(absL n.natAbs t).toArray⟩) := Lib.hid (point_at n.natAbs t q c Z R P (by omega) HR.out.symm (by rw [← HZ.out]) (by rw [HC.out, HSZ.out]) hPP hq)
        have hw5 : IntKind.i64.wrap ((P.size : Int) - (t : Int)) = (q : Int) := by rw [IntWalk.i64_in _ (by omega)]; omega
        have i1 : (0 : Int) ≤ (q : Int) := by omega
        have i2 : (q : Int) ≤ (P.size : Int) := by omega
        have i3 : ¬ (P.size : Int) < (q : Int) := by omega
        have i4 : ¬ (q : Int) < 0 := by omega
        have i5 : q ≤ P.size := by omega
        have i10 : P.size ≤ 100 := by omega
        have i6 : ¬ 9223372036854775807 < q + 1 := by omega
        have i7 : ¬ 9223372036854775807 < q + 1 + (P.size - q) := by omega
        have i8 : ¬ 9223372036854775807 < P.size + 1 := by omega
        have i9 : min q P.size = q := by omega
        clear hPP hPs hq hZs
        go_region
        all_goals
          rw [HPA.out]
          obtain ⟨Q, hQ⟩ : ∃ Q : ByteArray, ⟨(absL n.natAbs t).toArray⟩ = Q := ⟨_, rfl⟩
          have hQs : Q.size = q + 1 + (P.size - q) := by
            rw [← hQ, ← HPA.out, ByteArray.size_append, ByteArray.size_append, ByteArray.size_extract, ByteArray.size_extract, show (⟨#[46]⟩ : ByteArray).size = 1 from rfl]; omega
          rw [hQ]
          have j1 : ¬ 9223372036854775807 < 1 + Q.size := by omega
          have HQ := Lib.hid hQ
          clear hQ hQs HPA
          by_cases hm : n < 0
          · go_wp2_with fail
            go_ret2
            refine ⟨?_, bel⟩
            rw [HF.out, decL_eq, if_pos (by omega), Int.toNat_natCast, show (45 :: absL n.natAbs t) = [45] ++ absL n.natAbs t from rfl, ← ba_append, HQ.out]
            rfl
          · go_wp2_with fail
            go_ret2
            refine ⟨?_, bel⟩
            rw [HF.out, decL_eq, if_neg (by omega), Int.toNat_natCast, HQ.out]
            rfl
    · obtain rfl : s = 0 := by omega
      by_cases hm : n < 0
      · skip
        go_enter Tryz.func22, Tryz.ntmps22
        go_wp2_with fail
        refine (all1_any _ n 0 _ (by first | omega | (simp only [sz_alloc, sz_set, sz_drew, sz_drewN, sz_iterAt, sz_iter] at *; omega) | (simp; done) | (simp; omega) | (simp at *; omega)) (by first | (simp [go_sem]; done) | (simp [go_sem, *]; done)) (by first | (simp [go_sem]; done) | (simp [go_sem, *]; done)) hn hs).mono ?_
        rintro e w1 ⟨rfl, hb1⟩
        rw [hd, okE_true]
        clear hd
        have hz1 := hb1.size
        try simp at hz1
        obtain ⟨q1_0, l1_0, r1_0⟩ := aft hb1 (w.heap.size)
        obtain ⟨q1_1, l1_1, r1_1⟩ := aft hb1 (w.heap.size + 1)
        go_wp2_with fail
        refine (dsize_any n 0 _ a3 a4).mono ?_
        rintro e w2 ⟨rfl, hb2⟩
        have hz2 := hb2.size
        try simp at hz2
        obtain ⟨q2_0, l2_0, r2_0⟩ := aft hb2 (w.heap.size)
        obtain ⟨q2_1, l2_1, r2_1⟩ := aft hb2 (w.heap.size + 1)
        go_wp2_with fail
        refine (fmtUint_any n.natAbs (by omega) _ (hE.below bel).pow).mono ?_
        rintro e w3 ⟨rfl, hb3⟩
        rw [HR.out]
        have hz3 := hb3.size
        try simp at hz3
        obtain ⟨q3_0, l3_0, r3_0⟩ := aft hb3 (w.heap.size)
        obtain ⟨q3_1, l3_1, r3_1⟩ := aft hb3 (w.heap.size + 1)
        go_wp2_with fail
        go_ret2
        refine ⟨?_, bel⟩
        rw [HF.out, decL_eq, if_pos hm, show (0 : Int).toNat = 0 from rfl]
        unfold absL
        rw [if_neg (by simp)]
        rw [show (45 :: decDigits n.natAbs) = [45] ++ decDigits n.natAbs from rfl, ← ba_append, HR.out]; rfl
      · skip
        go_enter Tryz.func22, Tryz.ntmps22
        go_wp2_with fail
        refine (all1_any _ n 0 _ (by first | omega | (simp only [sz_alloc, sz_set, sz_drew, sz_drewN, sz_iterAt, sz_iter] at *; omega) | (simp; done) | (simp; omega) | (simp at *; omega)) (by first | (simp [go_sem]; done) | (simp [go_sem, *]; done)) (by first | (simp [go_sem]; done) | (simp [go_sem, *]; done)) hn hs).mono ?_
        rintro e w1 ⟨rfl, hb1⟩
        rw [hd, okE_true]
        clear hd
        have hz1 := hb1.size
        try simp at hz1
        obtain ⟨q1_0, l1_0, r1_0⟩ := aft hb1 (w.heap.size)
        obtain ⟨q1_1, l1_1, r1_1⟩ := aft hb1 (w.heap.size + 1)
        go_wp2_with fail
        refine (dsize_any n 0 _ a3 a4).mono ?_
        rintro e w2 ⟨rfl, hb2⟩
        have hz2 := hb2.size
        try simp at hz2
        obtain ⟨q2_0, l2_0, r2_0⟩ := aft hb2 (w.heap.size)
        obtain ⟨q2_1, l2_1, r2_1⟩ := aft hb2 (w.heap.size + 1)
        go_wp2_with fail
        refine (fmtUint_any n.natAbs (by omega) _ (hE.below bel).pow).mono ?_
        rintro e w3 ⟨rfl, hb3⟩
        rw [HR.out]
        have hz3 := hb3.size
        try simp at hz3
        obtain ⟨q3_0, l3_0, r3_0⟩ := aft hb3 (w.heap.size)
        obtain ⟨q3_1, l3_1, r3_1⟩ := aft hb3 (w.heap.size + 1)
        go_wp2_with fail
        go_ret2
        refine ⟨?_, bel⟩
        rw [HF.out, decL_eq, if_neg (by omega), show (0 : Int).toNat = 0 from rfl]
        unfold absL
        rw [if_neg (by simp)]
        rw [HR.out]; rfl
end Go.Proofs.YthicilfhnakhmaaGreatDoor

/- The reference's numbers: soffitref01.Make, Sound, walked. -/
set_option linter.unusedSimpArgs false
set_option linter.unusedVariables false
namespace Go.Proofs.YthicilfhnakhmaaGreatDoor
open Go.RowKit

set_option maxHeartbeats 800000 in
theorem ref01Make_pos (m t : Nat) (w : World) (hm : m ≤ 999999999999) (ht : t ≤ 6) :
    Calls Tryz.prog 58 #[.int .i64 m, .int .i64 t] w fun e w' => e = .returned (.tuple #[.agg #[.int .i64 (shU t m).1, .int .i64 (shU t m).2], .int .i64 0]) ∧ Below w.heap.size w w' := by
  have e1 : decide ((t : Int) < 0) = false := by simp
  have e2 : decide (6 < (t : Int)) = false := by simp; omega
  have e3 : decide (999999999999 < (m : Int)) = false := by simp; omega
  go_enter Tryz.func58, Tryz.ntmps58
  go_wp2_with fail
  go_loopg [0, 1] t (fun k nv sv wr => ∃ j : Nat, j ≤ m ∧ k ≤ t ∧ Hid (shU t m = shU k j) ∧ nv = .int .i64 j ∧ sv = .int .i64 k ∧ wr = w.alloc (.cells #[.int .i64 0, .int .i64 0] 23))
  case atStart => exact ⟨m, Nat.le_refl _, Nat.le_refl _, rfl, rfl, rfl, rfl⟩
  case round =>
    obtain ⟨j, hj, hk, hsh, rfl, rfl, rfl⟩ := hrel
    rcases gk with _ | k
    · go_wp2_with fail
      refine bodyPost_ret (v := .tuple #[.agg #[.int .i64 (shU t m).1, .int .i64 (shU t m).2], .int .i64 0]) ?_ rfl ⟨rfl, bel⟩
      rw [hsh.out]
      simp [results, Tryz.results58, go_sem, shU_zero]
    · by_cases h10 : j % 10 = 0
      · have HC := Lib.hid (shU_cut k j h10)
        have hb : ((j : Int) % 10 == 0) = true := by simp; omega
        clear h10
        go_wp2_with fail
        go_roundg k
        case measure => omega
        case rel => exact ⟨j / 10, by omega, by omega, hsh.out.trans HC.out, by go_num, by go_num, rfl⟩
      · have HC := Lib.hid (shU_stop k j h10)
        have hb : ((j : Int) % 10 == 0) = false := by simp; omega
        clear h10
        go_wp2_with fail
        refine bodyPost_ret (v := .tuple #[.agg #[.int .i64 (shU t m).1, .int .i64 (shU t m).2], .int .i64 0]) ?_ rfl ⟨rfl, bel⟩
        rw [hsh.out, HC.out]
        simp [results, Tryz.results58, go_sem]

set_option maxHeartbeats 800000 in
theorem ref01Make_neg (m t : Nat) (w : World) (hm : m ≤ 999999999999) (hp : 0 < m) (ht : t ≤ 6) :
    Calls Tryz.prog 58 #[.int .i64 (-(m : Int)), .int .i64 t] w fun e w' => e = .returned (.tuple #[.agg #[.int .i64 (-((shU t m).1 : Int)), .int .i64 (shU t m).2], .int .i64 0]) ∧ Below w.heap.size w w' := by
  have e1 : decide ((t : Int) < 0) = false := by simp
  have e2 : decide (6 < (t : Int)) = false := by simp; omega
  have e4 : decide (999999999999 < (m : Int)) = false := by simp; omega
  have e6 : (0 : Int) < m := by omega
  go_enter Tryz.func58, Tryz.ntmps58
  go_wp2_with fail
  go_loopg [0, 1] t (fun k nv sv wr => ∃ j : Nat, j ≤ m ∧ k ≤ t ∧ Hid (shU t m = shU k j) ∧ nv = .int .i64 (-(j : Int)) ∧ sv = .int .i64 k ∧ wr = w.alloc (.cells #[.int .i64 0, .int .i64 0] 23))
  case atStart => exact ⟨m, Nat.le_refl _, Nat.le_refl _, rfl, rfl, rfl, rfl⟩
  case round =>
    obtain ⟨j, hj, hk, hsh, rfl, rfl, rfl⟩ := hrel
    rcases gk with _ | k
    · go_wp2_with fail
      refine bodyPost_ret (v := .tuple #[.agg #[.int .i64 (-((shU t m).1 : Int)), .int .i64 (shU t m).2], .int .i64 0]) ?_ rfl ⟨rfl, bel⟩
      rw [hsh.out]
      simp [results, Tryz.results58, go_sem, shU_zero]
    · by_cases h10 : j % 10 = 0
      · have HC := Lib.hid (shU_cut k j h10)
        have hb : (-((j : Int) % 10) == 0) = true := by simp; omega
        clear h10
        go_wp2_with fail
        go_roundg k
        case measure => omega
        case rel => exact ⟨j / 10, by omega, by omega, hsh.out.trans HC.out, by go_num, by go_num, rfl⟩
      · have HC := Lib.hid (shU_stop k j h10)
        have hb : (-((j : Int) % 10) == 0) = false := by simp; omega
        clear h10
        go_wp2_with fail
        refine bodyPost_ret (v := .tuple #[.agg #[.int .i64 (-((shU t m).1 : Int)), .int .i64 (shU t m).2], .int .i64 0]) ?_ rfl ⟨rfl, bel⟩
        rw [hsh.out, HC.out]
        simp [results, Tryz.results58, go_sem]

set_option maxHeartbeats 800000 in
theorem ref01Make_any (n s : Int) (w : World) : 
    Calls Tryz.prog 58 #[.int .i64 n, .int .i64 s] w fun e w' => e = .returned (makeRes n s) ∧ Below w.heap.size w w' := by
  by_cases h : decIn n s = true
  · obtain ⟨h1, h2, h3, h4⟩ := decIn_of h
    obtain ⟨t, rfl⟩ : ∃ t : Nat, s = (t : Int) := ⟨s.toNat, by omega⟩
    by_cases hneg : n < 0
    · obtain ⟨m, rfl⟩ : ∃ m : Nat, n = -(m : Int) := ⟨n.natAbs, by omega⟩
      refine (ref01Make_neg m t w (by omega) (by omega) (by omega)).mono fun e w' ⟨he, hb⟩ => ⟨?_, hb⟩
      rw [he, makeRes_yes h, mkN, mkS, decide_eq_true hneg, Int.natAbs_neg, Int.natAbs_natCast, Int.toNat_natCast]; rfl
    · obtain ⟨m, rfl⟩ : ∃ m : Nat, n = (m : Int) := ⟨n.natAbs, by omega⟩
      refine (ref01Make_pos m t w (by omega) (by omega)).mono fun e w' ⟨he, hb⟩ => ⟨?_, hb⟩
      rw [he, makeRes_yes h, mkN, mkS, decide_eq_false hneg, Int.natAbs_natCast, Int.toNat_natCast]; rfl
  · have h' : decIn n s = false := by simpa using h
    have HF := Lib.hid (makeRes_no h')
    have h0 : s < 0 ∨ (0 ≤ s ∧ 6 < s) ∨ (0 ≤ s ∧ s ≤ 6 ∧ 999999999999 < n) ∨ (0 ≤ s ∧ s ≤ 6 ∧ n ≤ 999999999999 ∧ n < -999999999999) := by
      simp [decIn] at h'; omega
    clear h h'
    rcases h0 with a | ⟨a, b⟩ | ⟨a, b, c⟩ | ⟨a, b, c, d⟩
    · have e1 : decide (s < 0) = true := by simp; omega
      go_enter Tryz.func58, Tryz.ntmps58
      go_wp2_with fail
      refine bodyPost_ret (v := .tuple #[.agg #[.int .i64 0, .int .i64 0], .int .i64 3]) (by simp [results, Tryz.results58, go_sem, *]) rfl ⟨?_, bel⟩
      rw [HF.out]
    · have e1 : decide (s < 0) = false := by simp; omega
      have e2 : decide (6 < s) = true := by simp; omega
      go_enter Tryz.func58, Tryz.ntmps58
      go_wp2_with fail
      refine bodyPost_ret (v := .tuple #[.agg #[.int .i64 0, .int .i64 0], .int .i64 3]) (by simp [results, Tryz.results58, go_sem, *]) rfl ⟨?_, bel⟩
      rw [HF.out]
    · have e1 : decide (s < 0) = false := by simp; omega
      have e2 : decide (6 < s) = false := by simp; omega
      have e3 : decide (999999999999 < n) = true := by simp; omega
      go_enter Tryz.func58, Tryz.ntmps58
      go_wp2_with fail
      refine bodyPost_ret (v := .tuple #[.agg #[.int .i64 0, .int .i64 0], .int .i64 3]) (by simp [results, Tryz.results58, go_sem, *]) rfl ⟨?_, bel⟩
      rw [HF.out]
    · have e1 : decide (s < 0) = false := by simp; omega
      have e2 : decide (6 < s) = false := by simp; omega
      have e3 : decide (999999999999 < n) = false := by simp; omega
      have e4 : decide (n < -999999999999) = true := by simp; omega
      go_enter Tryz.func58, Tryz.ntmps58
      go_wp2_with fail
      refine bodyPost_ret (v := .tuple #[.agg #[.int .i64 0, .int .i64 0], .int .i64 3]) (by simp [results, Tryz.results58, go_sem, *]) rfl ⟨?_, bel⟩
      rw [HF.out]

set_option maxHeartbeats 400000 in
theorem ref01Sound_any (n s : Int) (w : World) :
    Calls Tryz.prog 31 #[.agg #[.int .i64 n, .int .i64 s]] w fun e w' => e = .returned (.bool (decSnd n s)) ∧ Below w.heap.size w w' := by
  obtain ⟨B, hB⟩ : ∃ B, decSnd n s = B := ⟨_, rfl⟩
  rw [hB]
  by_cases h : decIn n s = true
  · have HM := Lib.hid (makeRes_yes h)
    have HF : Hid (B = (mkN n s == n && mkS n s == s)) := by rw [← hB]; exact decIn_snd h
    clear h hB
    generalize mkN n s = N at *
    generalize mkS n s = S at *
    go_enter Tryz.func31, Tryz.ntmps31
    go_wp2_with fail
    refine (ref01Make_any n s _).mono ?_
    rintro e w1 ⟨rfl, hb1⟩
    rw [HM.out]
    have hz1 := hb1.size
    try simp at hz1
    obtain ⟨q1_0, l1_0, r1_0⟩ := aft hb1 (w.heap.size)
    go_wp2_with fail
    all_goals go_ret
    all_goals exact ⟨ret_bool (by first | (rw [HF.out]; done) | (rw [HF.out]; simp [*]; done) | (rw [HF.out]; simp; omega) | (rw [HF.out]; simp [*]; omega) | (rw [HF.out]; simp only [List.isEmpty_iff, List.isEmpty_eq_false_iff] at *; simp [*]; done) | (rw [HF.out]; simp only [List.isEmpty_iff, List.isEmpty_eq_false_iff] at *; simp [*]; omega) | (rw [HF.out, Bool.eq_iff_iff]; simp only [List.isEmpty_iff, List.isEmpty_eq_false_iff] at *; simp [*]; done) | (exfalso; omega)), bel⟩
  · have h' : decIn n s = false := by simpa using h
    have HM := Lib.hid (makeRes_no h')
    have HF : Hid (B = false) := by rw [← hB]; exact not_decIn_snd h'
    clear h h' hB
    go_enter Tryz.func31, Tryz.ntmps31
    go_wp2_with fail
    refine (ref01Make_any n s _).mono ?_
    rintro e w1 ⟨rfl, hb1⟩
    rw [HM.out]
    have hz1 := hb1.size
    try simp at hz1
    obtain ⟨q1_0, l1_0, r1_0⟩ := aft hb1 (w.heap.size)
    go_wp2_with fail
    all_goals go_ret
    all_goals exact ⟨ret_bool (by first | (rw [HF.out]; done) | (rw [HF.out]; simp [*]; done) | (rw [HF.out]; simp; omega) | (rw [HF.out]; simp [*]; omega) | (rw [HF.out]; simp only [List.isEmpty_iff, List.isEmpty_eq_false_iff] at *; simp [*]; done) | (rw [HF.out]; simp only [List.isEmpty_iff, List.isEmpty_eq_false_iff] at *; simp [*]; omega) | (rw [HF.out, Bool.eq_iff_iff]; simp only [List.isEmpty_iff, List.isEmpty_eq_false_iff] at *; simp [*]; done) | (exfalso; omega)), bel⟩
end Go.Proofs.YthicilfhnakhmaaGreatDoor
