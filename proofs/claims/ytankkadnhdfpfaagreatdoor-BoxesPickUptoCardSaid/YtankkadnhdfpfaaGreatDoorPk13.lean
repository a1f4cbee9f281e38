import Derived.Test.YtankkadnhdfpfaaGreatDoorPk10
import Derived.Test.YtankkadnhdfpfaaGreatDoorPk11
import Derived.Test.YtankkadnhdfpfaaGreatDoorPk12
import Derived.Test.YtankkadnhdfpfaaGreatDoorPk02
import Derived.Test.YtankkadnhdfpfaaGreatDoorPk05
/- Sets of values of one type: plain. -/
set_option linter.unusedSimpArgs false
set_option linter.unusedVariables false
namespace Go.Proofs.YtankkadnhdfpfaaGreatDoor
open Go.RowKit Sp Wd

structure St where
  k : Int
  sp : List Sp
  al : Bool
  ws : List Tx
  b : Int
  nul : Bool
structure Ty where
  k : Int
  sc : Int
  c : Cel
structure Sg where
  k : Int
  P : Int → Bool
  Q : Tx → Bool
  f : Bool
  t : Bool
  nul : Bool
def bN (f t : Bool) : Int := (if f = true then 1 else 0) + (if t = true then 2 else 0)
def numK (k : Int) : Bool := k == 1 || k == 4
structure Is (g : Sg) (s : St) : Prop where
  k : s.k = g.k
  wf : ∀ x ∈ s.sp, SpWf x
  ord : ordL s.sp
  sp : ∀ n, inS s.sp n = g.P n
  rise : s.ws.Pairwise (· < ·)
  txt : ∀ x ∈ s.ws, textB x = true
  ws : ∀ x, inW s.al s.ws x = g.Q x
  b : s.b = bN g.f g.t
  nul : s.nul = g.nul
  c1 : numK g.k = false → s.sp = []
  c2 : g.k ≠ 2 → s.al = false ∧ s.ws = []
  c3 : g.k ≠ 3 → g.f = false ∧ g.t = false
def Sg.cut (g : Sg) : Prop := (numK g.k = false → ∀ n, g.P n = false) ∧ (g.k ≠ 2 → ∀ x, g.Q x = false) ∧ (g.k ≠ 3 → g.f = false ∧ g.t = false)
theorem Is.cut {g : Sg} {s : St} (h : Is g s) : g.cut :=
  ⟨fun hk n => by rw [← h.sp n, h.c1 hk]; rfl, fun hk x => by rw [← h.ws x, (h.c2 hk).1, (h.c2 hk).2]; unfold inW; simp, h.c3⟩
def Sg.meet (g h : Sg) : Sg := ⟨g.k, fun n => g.P n && h.P n, fun x => g.Q x && h.Q x, g.f && h.f, g.t && h.t, g.nul && h.nul⟩
def Sg.join (g h : Sg) : Sg := ⟨g.k, fun n => g.P n || h.P n, fun x => g.Q x || h.Q x, g.f || h.f, g.t || h.t, g.nul || h.nul⟩
def lowK (k : Int) : Int := if k = 4 then 0 else -999999999999
def topK (k : Int) : Int := if k = 4 then 3652058 else 999999999999
def extP (k n : Int) : Bool := decide (lowK k ≤ n) && decide (n ≤ topK k)
def allG (k : Int) : Sg := ⟨k, fun n => numK k && extP k n, fun x => k == 2 && textB x, k == 3, k == 3, true⟩
def lessG (g : Sg) : Sg := ⟨g.k, fun n => (allG g.k).P n && !g.P n, fun x => (allG g.k).Q x && !g.Q x, (allG g.k).f && !g.f, (allG g.k).t && !g.t, !g.nul⟩
def noneG (k : Int) : Sg := ⟨k, fun _ => false, fun _ => false, false, false, false⟩
def txt (v : Vl) : Tx := v.t.data.toList
def unitsV (sc : Int) (v : Vl) : Int := if v.k = 1 then atI v.n v.s sc else v.i
def floorV (sc : Int) (v : Vl) : Int := if v.k = 4 then v.i else atI v.n v.s sc
def exactV (sc : Int) (v : Vl) : Bool := if v.k = 4 then true else atE v.n v.s sc
def leastV (sc : Int) (v : Vl) : Int := if exactV sc v = true then floorV sc v else floorV sc v + 1
def mostV (sc : Int) (v : Vl) : Int := floorV sc v
def belowV (sc : Int) (v : Vl) : Int := if exactV sc v = true then floorV sc v - 1 else floorV sc v
def betwLo (t : Ty) (x : Tst) : Int :=
  if x.k = 1 then leastV t.sc x.lo else if x.k = 2 then lowK t.k else if x.k = 3 then lowK t.k
  else if x.k = 4 then floorV t.sc x.lo + 1 else if x.k = 5 then leastV t.sc x.lo
  else if x.ol = true then floorV t.sc x.lo + 1 else leastV t.sc x.lo
def betwHi (t : Ty) (x : Tst) : Int :=
  if x.k = 1 then mostV t.sc x.lo else if x.k = 2 then belowV t.sc x.lo else if x.k = 3 then mostV t.sc x.lo
  else if x.k = 4 then topK t.k else if x.k = 5 then topK t.k
  else if x.oh = true then belowV t.sc x.hi else mostV t.sc x.hi
def testG (t : Ty) (x : Tst) : Sg :=
  if x.lo.k = 0 then ⟨t.k, fun _ => false, fun _ => false, false, false, true⟩
  else if x.lo.k = t.k then ⟨t.k, fun n => numK t.k && (extP t.k n && hasS (betwLo t x, betwHi t x) n), fun y => t.k == 2 && (textB y && y == txt x.lo), t.k == 3 && x.lo.i == 0, t.k == 3 && x.lo.i == 1, false⟩
  else noneG t.k
def joinsG (t : Ty) : List Tst → Sg → Sg
  | [], g => g
  | x :: r, g => joinsG t r (g.join (testG t x))
def holdsG (t : Ty) (c : Cel) : Sg :=
  if c.any = true then allG t.k else if c.neg = true then lessG (joinsG t c.ts (noneG t.k)) else joinsG t c.ts (noneG t.k)
def fullG (t : Ty) : Sg := { holdsG t t.c with nul := true }
def tySnd (t : Ty) : Bool := decide (1 ≤ t.k ∧ t.k ≤ 4 ∧ 0 ≤ t.sc ∧ t.sc ≤ 6 ∧ (t.k = 1 ∨ t.sc = 0)) && uSndB t.c
def fitT (t : Ty) (v : Vl) : Bool := sndB v && (v.k == 0 || (v.k == t.k && (v.k != 1 || (atE v.n v.s t.sc && decide (-999999999999 ≤ atI v.n v.s t.sc ∧ atI v.n v.s t.sc ≤ 999999999999)))))
def inTy (t : Ty) (v : Vl) : Bool := tySnd t && fitT t v && (v.k == 0 || allB t.c v)
def hasV (sc : Int) (g : Sg) (v : Vl) : Bool :=
  if v.k = 0 then g.nul else if v.k = 2 then g.Q (txt v) else if v.k = 3 then (v.i == 0 && g.f || v.i == 1 && g.t) else g.P (unitsV sc v)
def bit0 (b : Int) : Bool := b % 2 == 1
def bit1 (b : Int) : Bool := b / 2 % 2 == 1
def St.sg (s : St) : Sg := ⟨s.k, fun n => numK s.k && inS s.sp n, fun x => s.k == 2 && inW s.al s.ws x, s.k == 3 && bit0 s.b, s.k == 3 && bit1 s.b, decide (1 ≤ s.k ∧ s.k ≤ 4) && s.nul⟩
def hasSt (t : Ty) (s : St) (v : Vl) : Bool := inTy t v && (s.k == t.k && hasV t.sc s.sg v)
theorem hasV_meet (sc : Int) (g h : Sg) (v : Vl) : hasV sc (g.meet h) v = (hasV sc g v && hasV sc h v) := by
  unfold hasV Sg.meet
  split
  · rfl
  · split
    · rfl
    · split
      · skip
        by_cases h0 : v.i = 0
        · rw [h0]; simp
        · by_cases h1 : v.i = 1
          · rw [h1]; simp
          · rw [show (v.i == 0) = false by simpa using h0, show (v.i == 1) = false by simpa using h1]; simp
      · rfl
theorem hasV_join (sc : Int) (g h : Sg) (v : Vl) : hasV sc (g.join h) v = (hasV sc g v || hasV sc h v) := by
  unfold hasV Sg.join
  split
  · rfl
  · split
    · rfl
    · split
      · skip
        by_cases h0 : v.i = 0
        · rw [h0]; simp
        · by_cases h1 : v.i = 1
          · rw [h1]; simp
          · rw [show (v.i == 0) = false by simpa using h0, show (v.i == 1) = false by simpa using h1]; simp
      · rfl
theorem joins_has (t : Ty) (sc : Int) (v : Vl) : ∀ (l : List Tst) (g : Sg), hasV sc (joinsG t l g) v = (hasV sc g v || l.any fun x => hasV sc (testG t x) v)
  | [], g => by simp [joinsG]
  | x :: r, g => by
    show hasV sc (joinsG t r (g.join (testG t x))) v = _
    rw [joins_has t sc v r, hasV_join, List.any_cons, Bool.or_assoc]
theorem testG_k (t : Ty) (x : Tst) : (testG t x).k = t.k := by unfold testG; split; rfl; split <;> rfl
theorem joinsG_k (t : Ty) : ∀ (l : List Tst) (g : Sg), (joinsG t l g).k = g.k
  | [], _ => rfl
  | x :: r, g => by show (joinsG t r (g.join (testG t x))).k = _; rw [joinsG_k t r]; rfl
theorem holdsG_k (t : Ty) (c : Cel) : (holdsG t c).k = t.k := by
  unfold holdsG
  split
  · rfl
  · split
    · show (joinsG t c.ts (noneG t.k)).k = t.k; rw [joinsG_k]; rfl
    · rw [joinsG_k]; rfl
end Go.Proofs.YtankkadnhdfpfaaGreatDoor

/- Sets of values of one type: of which values tests hold: plain. -/
set_option linter.unusedSimpArgs false
set_option linter.unusedVariables false
namespace Go.Proofs.YtankkadnhdfpfaaGreatDoor
open Go.RowKit Sp Wd

theorem sndZero {v : Vl} (h : sndB v = true) (hk : v.k = 0) : v = Vl.zero := by
  unfold sndB at h
  rw [if_pos hk] at h
  obtain ⟨h1, h2, h3, h4⟩ := of_decide_eq_true h
  obtain ⟨k, n, s, t, i⟩ := v
  simp only at hk h1 h2 h3 h4
  subst hk h1 h2 h4
  have : t = ⟨#[]⟩ := toList_inj (h3.trans (by rw [ByteArray.toList_eq]))
  rw [this]; rfl
theorem sndTwo {v : Vl} (h : sndB v = true) (hk : v.k = 2) : v.n = 0 ∧ v.s = 0 ∧ v.i = 0 ∧ v.t.size ≤ 256 ∧ goodB v.t = true := by
  unfold sndB at h
  rw [if_neg (by omega), if_neg (by omega), if_pos hk] at h
  simp only [Bool.and_eq_true, decide_eq_true_eq] at h
  exact ⟨h.1.1, h.1.2.1, h.1.2.2.1, h.1.2.2.2, h.2⟩
theorem sndThree {v : Vl} (h : sndB v = true) (hk : v.k = 3) : v.n = 0 ∧ v.s = 0 ∧ v.t.toList = [] ∧ (v.i = 0 ∨ v.i = 1) := by
  unfold sndB at h
  rw [if_neg (by omega), if_neg (by omega), if_neg (by omega), if_pos hk] at h
  exact of_decide_eq_true h
theorem sndFourI {v : Vl} (h : sndB v = true) (hk : v.k = 4) : 0 ≤ v.i ∧ v.i ≤ 3652058 := by
  unfold sndB at h
  rw [if_neg (by omega), if_neg (by omega), if_neg (by omega), if_neg (by omega), if_pos hk] at h
  simp only [decide_eq_true_eq] at h
  exact ⟨h.2.2.2.1, h.2.2.2.2⟩
theorem bs_txt (v : Vl) : bs (txt v) = v.t := by
  show (⟨v.t.data.toList.toArray⟩ : ByteArray) = v.t
  rw [Array.toArray_toList]
theorem txt_len (v : Vl) : (txt v).length = v.t.size := by
  show v.t.data.toList.length = v.t.data.size
  exact Array.length_toList
theorem txt_snd {v : Vl} (h : sndB v = true) (hk : v.k = 2) : textB (txt v) = true := by
  obtain ⟨_, _, _, h4, h5⟩ := sndTwo h hk
  unfold textB
  rw [bs_txt, h5, txt_len, decide_eq_true h4]; rfl
theorem eqB_two {a b : Vl} (sa : sndB a = true) (sb : sndB b = true) (ha : a.k = 2) (hb : b.k = 2) : eqB a b = (txt a == txt b) := by
  rw [Bool.eq_iff_iff, eqB_iff, beq_iff_eq]
  constructor
  · rintro rfl; rfl
  · intro h
    obtain ⟨a1, a2, a3, _, _⟩ := sndTwo sa ha
    obtain ⟨b1, b2, b3, _, _⟩ := sndTwo sb hb
    have ht : a.t = b.t := by rw [← bs_txt a, ← bs_txt b, h]
    obtain ⟨k, n, s, t, i⟩ := a
    obtain ⟨k', n', s', t', i'⟩ := b
    simp only at *
    rw [ha, a1, a2, a3, hb, b1, b2, b3, ht]
theorem eqB_three {a b : Vl} (sa : sndB a = true) (sb : sndB b = true) (ha : a.k = 3) (hb : b.k = 3) : eqB a b = (a.i == b.i) := by
  rw [Bool.eq_iff_iff, eqB_iff, beq_iff_eq]
  constructor
  · rintro rfl; rfl
  · intro h
    obtain ⟨a1, a2, a3, _⟩ := sndThree sa ha
    obtain ⟨b1, b2, b3, _⟩ := sndThree sb hb
    have ht : a.t = b.t := toList_inj (a3.trans b3.symm)
    obtain ⟨k, n, s, t, i⟩ := a
    obtain ⟨k', n', s', t', i'⟩ := b
    simp only at *
    rw [ha, a1, a2, hb, b1, b2, ht, h]
theorem rk_val {t : Ty} {v : Vl} (hf : fitT t v = true) (hk : v.k = t.k) (hn : numK t.k = true) : rk v = unitsV t.sc v * (if t.k = 1 then byI t.sc else 1) ∧ extP t.k (unitsV t.sc v) = true := by
  unfold fitT at hf
  simp only [Bool.and_eq_true, Bool.or_eq_true, beq_iff_eq, bne_iff_ne, ne_eq, decide_eq_true_eq] at hf
  obtain ⟨hs, hf⟩ := hf
  have h14 : t.k = 1 ∨ t.k = 4 := by simpa [numK] using hn
  rcases h14 with h | h
  · have hv : v.k = 1 := by omega
    rcases hf with hf | ⟨_, hf | ⟨h1, h2, h3⟩⟩
    · omega
    · omega
    · unfold rk unitsV extP lowK topK
      rw [if_pos hv, if_pos hv, if_pos h, if_neg (by omega), if_neg (by omega)]
      exact ⟨units_at h1, by rw [decide_eq_true h2, decide_eq_true h3]; rfl⟩
  · have hv : v.k = 4 := by omega
    obtain ⟨i1, i2⟩ := sndFourI hs hv
    unfold rk unitsV extP lowK topK
    rw [if_neg (by omega), if_neg (by omega), if_neg (by omega), if_pos h, if_pos h]
    exact ⟨by omega, by rw [decide_eq_true i1, decide_eq_true i2]; rfl⟩
theorem rk_end {t : Ty} {x : Vl} (hk : x.k = t.k) (hn : numK t.k = true) : ∃ r, rk x = floorV t.sc x * (if t.k = 1 then byI t.sc else 1) + r ∧ 0 ≤ r ∧ r < (if t.k = 1 then byI t.sc else 1) ∧ (exactV t.sc x = true ↔ r = 0) := by
  have h14 : t.k = 1 ∨ t.k = 4 := by simpa [numK] using hn
  rcases h14 with h | h
  · have hx : x.k = 1 := by omega
    have hp := byI_pos t.sc
    refine ⟨unitsI x.n x.s % byI t.sc, ?_, Int.emod_nonneg _ (by omega), ?_, ?_⟩
    · unfold rk floorV
      rw [if_pos hx, if_neg (by omega), if_pos h]
      unfold atI
      have := Int.mul_ediv_add_emod (unitsI x.n x.s) (byI t.sc)
      rw [Int.mul_comm]; omega
    · rw [if_pos h]; exact Int.emod_lt_of_pos _ hp
    · unfold exactV atE
      rw [if_neg (by omega), beq_iff_eq]
  · have hx : x.k = 4 := by omega
    refine ⟨0, ?_, Int.le_refl _, ?_, ?_⟩
    · unfold rk floorV
      rw [if_neg (by omega), if_pos hx, if_neg (by omega)]; omega
    · rw [if_neg (by omega)]; decide
    · unfold exactV
      rw [if_pos hx]; simp
theorem mul_lt_iff {u m B r : Int} (hB : 0 < B) (h0 : 0 ≤ r) (h1 : r < B) : (u * B < m * B + r ↔ u < m ∨ (u = m ∧ 0 < r)) ∧ (m * B + r < u * B ↔ m < u) ∧ (u * B = m * B + r ↔ u = m ∧ r = 0) := by
  rcases Int.lt_trichotomy u m with h | h | h
  · have h2 : (u + 1) * B ≤ m * B := Int.mul_le_mul_of_nonneg_right (by omega) (by omega)
    rw [Int.add_mul, Int.one_mul] at h2
    refine ⟨⟨fun _ => .inl h, fun _ => by omega⟩, ⟨fun _ => by omega, fun _ => by omega⟩, ⟨fun _ => by omega, fun ⟨_, _⟩ => by omega⟩⟩
  · subst h
    refine ⟨⟨fun _ => .inr ⟨rfl, by omega⟩, fun _ => by omega⟩, ⟨fun _ => by omega, fun _ => by omega⟩, ⟨fun _ => ⟨rfl, by omega⟩, fun ⟨_, _⟩ => by omega⟩⟩
  · have h2 : (m + 1) * B ≤ u * B := Int.mul_le_mul_of_nonneg_right (by omega) (by omega)
    rw [Int.add_mul, Int.one_mul] at h2
    refine ⟨⟨fun _ => by omega, fun _ => by omega⟩, ⟨fun _ => h, fun _ => by omega⟩, ⟨fun _ => by omega, fun ⟨_, _⟩ => by omega⟩⟩
theorem end_lt {t : Ty} {v x : Vl} (hf : fitT t v = true) (hk : v.k = t.k) (hx : x.k = t.k) (hn : numK t.k = true) :
    decide (rk v < rk x) = decide (unitsV t.sc v ≤ belowV t.sc x) ∧ decide (rk x < rk v) = decide (floorV t.sc x + 1 ≤ unitsV t.sc v) ∧
    (decide (rk v < rk x) || decide (rk v = rk x)) = decide (unitsV t.sc v ≤ mostV t.sc x) ∧ (decide (rk x < rk v) || decide (rk v = rk x)) = decide (leastV t.sc x ≤ unitsV t.sc v) ∧
    decide (rk v = rk x) = (decide (leastV t.sc x ≤ unitsV t.sc v) && decide (unitsV t.sc v ≤ mostV t.sc x)) := by
  obtain ⟨e1, _⟩ := rk_val hf hk hn
  obtain ⟨r, e2, r0, r1, r2⟩ := rk_end hx hn
  have hB : (0 : Int) < (if t.k = 1 then byI t.sc else 1) := by split; exact byI_pos _; decide
  generalize (if t.k = 1 then byI t.sc else 1) = B at *
  obtain ⟨a1, a2, a3⟩ := mul_lt_iff (u := unitsV t.sc v) (m := floorV t.sc x) hB r0 r1
  rw [e1, e2]
  unfold belowV mostV leastV
  cases he : exactV t.sc x
  · have hr : ¬ r = 0 := fun h => by rw [r2.2 h] at he; cases he
    simp only [Bool.false_eq_true, if_false]
    refine ⟨?_, ?_, ?_, ?_, ?_⟩
    all_goals rw [Bool.eq_iff_iff]
    all_goals simp only [Bool.or_eq_true, Bool.and_eq_true, decide_eq_true_eq, a1, a2, a3]
    all_goals omega
  · have hr : r = 0 := r2.1 he
    simp only [if_true]
    refine ⟨?_, ?_, ?_, ?_, ?_⟩
    all_goals rw [Bool.eq_iff_iff]
    all_goals simp only [Bool.or_eq_true, Bool.and_eq_true, decide_eq_true_eq, a1, a2, a3]
    all_goals omega
theorem fit_cases {t : Ty} {v : Vl} (hf : fitT t v = true) : sndB v = true ∧ (v.k = 0 ∨ v.k = t.k) := by
  unfold fitT at hf
  simp only [Bool.and_eq_true, Bool.or_eq_true, beq_iff_eq] at hf
  exact ⟨hf.1, hf.2.imp id (fun h => h.1)⟩
theorem oneB_ne {x : Tst} {v : Vl} (hx : uOneB x = true) (hk : v.k ≠ x.lo.k) : oneB x v = false := by
  have hk2 : x.lo.k ≠ v.k := fun h => hk h.symm
  unfold oneB
  rw [lessB_ne hk, lessB_ne hk2, eqB_ne hk]
  have hkk := uOneB_kind hx
  split; rfl
  split; rfl
  split; rfl
  split; rfl
  split; rfl
  rfl
theorem test_has {t : Ty} {x : Tst} {v : Vl} (ht : 1 ≤ t.k ∧ t.k ≤ 4) (hx : uOneB x = true) (hf : fitT t v = true) : hasV t.sc (testG t x) v = oneB x v := by
  obtain ⟨sv, hvk⟩ := fit_cases hf
  have sl := uOneB_lo hx
  have sh := uOneB_hi hx
  by_cases h0 : x.lo.k = 0
  · have hk1 : x.k = 1 := by
      rcases Classical.em (x.k = 1) with h | h
      · exact h
      · have := rank_cases (uOneB_rank hx h); omega
    unfold testG
    rw [if_pos h0]
    unfold oneB
    rw [if_pos hk1]
    rcases hvk with hv | hv
    · rw [show hasV t.sc _ v = true by unfold hasV; rw [if_pos hv]]
      rw [sndZero sv hv, sndZero sl h0, (eqB_iff _ _).2 rfl]
    · rw [eqB_ne (show v.k ≠ x.lo.k by omega)]
      unfold hasV
      rw [if_neg (by omega)]
      split
      · rfl
      · split <;> simp
  · by_cases hkt : x.lo.k = t.k
    · unfold testG
      rw [if_neg h0, if_pos hkt]
      rcases hvk with hv | hv
      · rw [oneB_ne hx (show v.k ≠ x.lo.k by omega)]
        unfold hasV
        rw [if_pos hv]
      · have hcase : t.k = 2 ∨ t.k = 3 ∨ numK t.k = true := by unfold numK; simp only [Bool.or_eq_true, beq_iff_eq]; omega
        rcases hcase with h2 | h3 | hn
        · have hk1 : x.k = 1 := by
            rcases Classical.em (x.k = 1) with h | h
            · exact h
            · have := rank_cases (uOneB_rank hx h); omega
          unfold hasV oneB
          rw [if_neg (by omega), if_pos (by omega), if_pos hk1, eqB_two sv sl (by omega) (by omega)]
          dsimp only
          rw [txt_snd sv (by omega), h2]
          rfl
        · have hk1 : x.k = 1 := by
            rcases Classical.em (x.k = 1) with h | h
            · exact h
            · have := rank_cases (uOneB_rank hx h); omega
          obtain ⟨_, _, _, hi⟩ := sndThree sv (show v.k = 3 by omega)
          obtain ⟨_, _, _, hj⟩ := sndThree sl (show x.lo.k = 3 by omega)
          unfold hasV oneB
          rw [if_neg (by omega), if_neg (by omega), if_pos (by omega), if_pos hk1, eqB_three sv sl (by omega) (by omega), h3]
          rcases hi with hi | hi <;> rcases hj with hj | hj <;> rw [hi, hj] <;> rfl
        · have h14 : t.k = 1 ∨ t.k = 4 := by simpa [numK] using hn
          have hext := (rk_val hf hv hn).2
          have hr : rankB x.lo = true := by unfold rankB; simp only [Bool.or_eq_true, beq_iff_eq]; omega
          have hrv : rankB v = true := by unfold rankB; simp only [Bool.or_eq_true, beq_iff_eq]; omega
          have hvl : v.k = x.lo.k := by omega
          obtain ⟨b1, b2, b3, b4, b5⟩ := end_lt hf hv hkt hn
          rw [show hasV t.sc _ v = hasS (betwLo t x, betwHi t x) (unitsV t.sc v) by
            unfold hasV
            rw [if_neg (by omega), if_neg (by omega), if_neg (by omega)]
            simp only [hn, hext, Bool.true_and]]
          have hlo : decide (lowK t.k ≤ unitsV t.sc v) = true := by
            unfold extP at hext; rw [Bool.and_eq_true] at hext; exact hext.1
          have htop : decide (unitsV t.sc v ≤ topK t.k) = true := by
            unfold extP at hext; rw [Bool.and_eq_true] at hext; exact hext.2
          unfold hasS betwLo betwHi oneB
          rw [lessB_eq sv sl hvl hr, lessB_eq sl sv hvl.symm hrv, eqB_rk sv sl hvl hr]
          have hkk := uOneB_kind hx
          have six : x.k = 1 ∨ x.k = 2 ∨ x.k = 3 ∨ x.k = 4 ∨ x.k = 5 ∨ x.k = 6 := by omega
          rcases six with h | h | h | h | h | h
          · simp only [h, reduceIte, Int.reduceEq]
            rw [b5]
          · simp only [h, reduceIte, Int.reduceEq]
            rw [hlo, b1, Bool.true_and]
          · simp only [h, reduceIte, Int.reduceEq]
            rw [hlo, b3, Bool.true_and]
          · simp only [h, reduceIte, Int.reduceEq]
            rw [htop, b2, Bool.and_true]
          · simp only [h, reduceIte, Int.reduceEq]
            rw [htop, b4, Bool.and_true]
          · have h6 := uOneB_six hx h
            have hkh : x.hi.k = t.k := by omega
            have hrh : rankB x.hi = true := rankB_of hr h6.2
            obtain ⟨d1, d2, d3, d4, d5⟩ := end_lt hf hv hkh hn
            simp only [h, reduceIte, Int.reduceEq]
            rw [lessB_eq sv sh (by omega) hrh, eqB_rk sv sh (by omega) hrh]
            have g1 : decide ((if x.ol = true then floorV t.sc x.lo + 1 else leastV t.sc x.lo) ≤ unitsV t.sc v) = (decide (rk x.lo < rk v) || decide (rk v = rk x.lo) && !x.ol) := by
              cases x.ol
              · rw [if_neg (by decide), Bool.not_false, Bool.and_true, b4]
              · rw [if_pos rfl, Bool.not_true, Bool.and_false, Bool.or_false, b2]
            have g2 : decide (unitsV t.sc v ≤ (if x.oh = true then belowV t.sc x.hi else mostV t.sc x.hi)) = (decide (rk v < rk x.hi) || decide (rk v = rk x.hi) && !x.oh) := by
              cases x.oh
              · rw [if_neg (by decide), Bool.not_false, Bool.and_true, d3]
              · rw [if_pos rfl, Bool.not_true, Bool.and_false, Bool.or_false, d1]
            rw [g1, g2]
    · have hne : v.k ≠ x.lo.k := by omega
      rw [oneB_ne hx hne]
      unfold testG
      rw [if_neg h0, if_neg hkt]
      unfold hasV noneG
      split
      · rfl
      · split
        · rfl
        · split <;> simp
theorem all_has {t : Ty} {v : Vl} (ht : 1 ≤ t.k ∧ t.k ≤ 4) (hf : fitT t v = true) : hasV t.sc (allG t.k) v = true := by
  obtain ⟨sv, hvk⟩ := fit_cases hf
  rcases hvk with hv | hv
  · unfold hasV allG; rw [if_pos hv]
  · have hcase : t.k = 2 ∨ t.k = 3 ∨ numK t.k = true := by unfold numK; simp only [Bool.or_eq_true, beq_iff_eq]; omega
    unfold hasV allG
    rw [if_neg (by omega)]
    rcases hcase with h2 | h3 | hn
    · rw [if_pos (by omega)]
      dsimp only
      rw [h2, txt_snd sv (by omega)]; rfl
    · rw [if_neg (by omega), if_pos (by omega), h3]
      obtain ⟨_, _, _, hi⟩ := sndThree sv (show v.k = 3 by omega)
      rcases hi with hi | hi <;> rw [hi] <;> rfl
    · have h14 : t.k = 1 ∨ t.k = 4 := by simpa [numK] using hn
      rw [if_neg (by omega), if_neg (by omega)]
      simp only
      rw [hn, (rk_val hf hv hn).2]; rfl
theorem hasV_less (sc : Int) (g : Sg) (v : Vl) (hs : sndB v = true) : hasV sc (lessG g) v = ((hasV sc (allG g.k) v) && !hasV sc g v) := by
  unfold hasV lessG
  split
  · rename_i h
    simp only [allG, Bool.true_and]
  · split
    · rfl
    · split
      · rename_i h
        obtain ⟨_, _, _, hi⟩ := sndThree hs h
        simp only
        rcases hi with hi | hi <;> rw [hi] <;> simp
      · rfl
theorem holds_has {t : Ty} {c : Cel} {v : Vl} (ht : 1 ≤ t.k ∧ t.k ≤ 4) (hc : uSndB c = true) (hf : fitT t v = true) : hasV t.sc (holdsG t c) v = allB c v := by
  obtain ⟨sv, _⟩ := fit_cases hf
  have hnone : hasV t.sc (noneG t.k) v = false := by
    unfold hasV noneG
    split
    · rfl
    · split
      · rfl
      · split <;> simp
  have hj : hasV t.sc (joinsG t c.ts (noneG t.k)) v = c.ts.any fun x => oneB x v := by
    rw [joins_has, hnone, Bool.false_or]
    rw [Bool.eq_iff_iff, List.any_eq_true, List.any_eq_true]
    constructor
    · rintro ⟨x, hx, h⟩; exact ⟨x, hx, by rw [← test_has ht (uSndB_mem hc hx) hf]; exact h⟩
    · rintro ⟨x, hx, h⟩; exact ⟨x, hx, by rw [test_has ht (uSndB_mem hc hx) hf]; exact h⟩
  unfold holdsG allB
  by_cases ha : c.any = true
  · rw [if_pos ha, all_has ht hf]
    unfold uSndB at hc
    rw [if_pos ha] at hc
    simp only [Bool.and_eq_true, Bool.not_eq_true', decide_eq_true_eq] at hc
    have : c.ts = [] := List.length_eq_zero_iff.mp hc.2
    rw [this, ha, hc.1]; rfl
  · have ha' : c.any = false := by simpa using ha
    rw [if_neg ha, ha']
    cases hn : c.neg
    · rw [if_neg (by decide), hj]
      cases c.ts.any (fun x => oneB x v) <;> rfl
    · rw [if_pos rfl, hasV_less _ _ _ sv, hj, joinsG_k]
      rw [show (noneG t.k).k = t.k from rfl, all_has ht hf]
      cases c.ts.any (fun x => oneB x v) <;> rfl
theorem full_has {t : Ty} {v : Vl} (ht : 1 ≤ t.k ∧ t.k ≤ 4) (hc : uSndB t.c = true) (hf : fitT t v = true) : hasV t.sc (fullG t) v = (v.k == 0 || allB t.c v) := by
  have h := holds_has ht hc hf
  unfold fullG
  by_cases h0 : v.k = 0
  · rw [show (v.k == 0) = true by simp [h0], Bool.true_or]
    unfold hasV; rw [if_pos h0]
  · rw [show (v.k == 0) = false by simp [h0], Bool.false_or, ← h]
    unfold hasV
    rw [if_neg h0, if_neg h0]
end Go.Proofs.YtankkadnhdfpfaaGreatDoor

/- Sets of values of one type: meet, join, less and tidy keep what they mean: plain. -/
set_option linter.unusedSimpArgs false
set_option linter.unusedVariables false
namespace Go.Proofs.YtankkadnhdfpfaaGreatDoor
open Go.RowKit Sp Wd

/-! bits -/
theorem and3 (n : Int) : bits .and .i64 n 3 = n % 4 := by
  have h127 : (BitVec.ofInt 64 3).toNat = 2 ^ 2 - 1 := by decide
  have key : (BitVec.ofInt 64 n &&& BitVec.ofInt 64 3).toNat = (n % ((2 ^ 64 : Nat) : Int)).toNat % 2 ^ 2 := by
    rw [BitVec.toNat_and, BitVec.toNat_ofInt, h127, Nat.and_two_pow_sub_one_eq_mod]
  show IntKind.i64.wrap ((BitVec.ofInt 64 n &&& BitVec.ofInt 64 3).toNat : Nat) = n % 4
  rw [key, IntKind.wrap_i64]
  omega
theorem and1 (n : Int) : bits .and .i64 n 1 = n % 2 := by
  have h127 : (BitVec.ofInt 64 1).toNat = 2 ^ 1 - 1 := by decide
  have key : (BitVec.ofInt 64 n &&& BitVec.ofInt 64 1).toNat = (n % ((2 ^ 64 : Nat) : Int)).toNat % 2 ^ 1 := by
    rw [BitVec.toNat_and, BitVec.toNat_ofInt, h127, Nat.and_two_pow_sub_one_eq_mod]
  show IntKind.i64.wrap ((BitVec.ofInt 64 n &&& BitVec.ofInt 64 1).toNat : Nat) = n % 2
  rw [key, IntKind.wrap_i64]
  omega
theorem bN_tidy (b : Int) : b % 4 = bN (bit0 b) (bit1 b) := by
  unfold bN bit0 bit1
  have h : b % 4 = 0 ∨ b % 4 = 1 ∨ b % 4 = 2 ∨ b % 4 = 3 := by omega
  rcases h with h | h | h | h
  · have h1 : b % 2 = 0 := by omega
    have h2 : b / 2 % 2 = 0 := by omega
    rw [h, h1, h2]; rfl
  · have h1 : b % 2 = 1 := by omega
    have h2 : b / 2 % 2 = 0 := by omega
    rw [h, h1, h2]; rfl
  · have h1 : b % 2 = 0 := by omega
    have h2 : b / 2 % 2 = 1 := by omega
    rw [h, h1, h2]; rfl
  · have h1 : b % 2 = 1 := by omega
    have h2 : b / 2 % 2 = 1 := by omega
    rw [h, h1, h2]; rfl
theorem bN_and (f t f' t' : Bool) : bits .and .i64 (bN f t) (bN f' t') = bN (f && f') (t && t') := by
  cases f <;> cases t <;> cases f' <;> cases t' <;> decide +kernel
theorem bN_or (f t f' t' : Bool) : bits .or .i64 (bN f t) (bN f' t') = bN (f || f') (t || t') := by
  cases f <;> cases t <;> cases f' <;> cases t' <;> decide +kernel
theorem bN_less (f t f' t' : Bool) : bits .andNot .i64 (bN f t) (bN f' t') = bN (f && !f') (t && !t') := by
  cases f <;> cases t <;> cases f' <;> cases t' <;> decide +kernel
theorem bit0_bN (f t : Bool) : bit0 (bN f t) = f := by cases f <;> cases t <;> rfl
theorem bit1_bN (f t : Bool) : bit1 (bN f t) = t := by cases f <;> cases t <;> rfl
theorem bN_bd (f t : Bool) : 0 ≤ bN f t ∧ bN f t ≤ 3 := by cases f <;> cases t <;> decide

/-! what a set in order means -/
theorem is_has {g : Sg} {s : St} (h : Is g s) (hk : 1 ≤ g.k ∧ g.k ≤ 4) {v : Vl} (hv : v.k = 0 ∨ v.k = g.k) (sc : Int) : hasV sc s.sg v = hasV sc g v := by
  unfold hasV St.sg
  by_cases h0 : v.k = 0
  · rw [if_pos h0, if_pos h0]
    simp only
    rw [h.k, h.nul, decide_eq_true hk]; rfl
  · have hv' : v.k = g.k := by omega
    rw [if_neg h0, if_neg h0]
    by_cases h2 : v.k = 2
    · rw [if_pos h2, if_pos h2]
      simp only
      rw [h.k, h.ws, show (g.k == 2) = true by simp; omega]; rfl
    · rw [if_neg h2, if_neg h2]
      by_cases h3 : v.k = 3
      · rw [if_pos h3, if_pos h3]
        simp only
        rw [h.k, h.b, bit0_bN, bit1_bN, show (g.k == 3) = true by simp; omega]; rfl
      · rw [if_neg h3, if_neg h3]
        simp only
        rw [h.k, h.sp, show numK g.k = true by unfold numK; simp; omega]; rfl
theorem is_uniq {g : Sg} {s s' : St} (h : Is g s) (h' : Is g s') (hal : s.al = s'.al) : s = s' := by
  have e1 : s.sp = s'.sp := ord_uniq _ _ h.ord h'.ord (fun n => by rw [h.sp, h'.sp])
  have e2 : s.ws = s'.ws := rise_eq h.rise h'.rise (fun x => by
    have h1 := h.ws x
    have h2 := h'.ws x
    rw [← h2, hal] at h1
    unfold inW at h1
    constructor
    · intro hx
      have ht := h.txt x hx
      rw [ht, (List.contains_iff_mem).2 hx] at h1
      cases hc : s'.ws.contains x
      · rw [hc] at h1; cases s'.al <;> simp at h1
      · exact List.contains_iff_mem.1 hc
    · intro hx
      have ht := h'.txt x hx
      rw [ht, (List.contains_iff_mem).2 hx] at h1
      cases hc : s.ws.contains x
      · rw [hc] at h1; cases s'.al <;> simp at h1
      · exact List.contains_iff_mem.1 hc)
  have e3 : s.b = s'.b := by rw [h.b, h'.b]
  have e4 : s.k = s'.k := by rw [h.k, h'.k]
  have e5 : s.nul = s'.nul := by rw [h.nul, h'.nul]
  obtain ⟨k, sp, al, ws, b, nul⟩ := s
  obtain ⟨k', sp', al', ws', b', nul'⟩ := s'
  simp only at *
  rw [e1, e2, e3, e4, e5, hal]
theorem inW_false (x : Tx) : inW false [] x = false := by unfold inW; simp
theorem tidy_num {s : St} (hk : numK s.k = true) {R : List Sp} (hR : JoinOf s.sp R) : Is s.sg ⟨s.k, R, false, [], 0, s.nul⟩ := by
  have h14 : s.k = 1 ∨ s.k = 4 := by simpa [numK] using hk
  have e2 : (s.k == 2) = false := by simp; omega
  have e3 : (s.k == 3) = false := by simp; omega
  refine ⟨rfl, hR.wf, hR.ord, fun n => ?_, List.Pairwise.nil, by simp, fun x => ?_, ?_, ?_, fun h => ?_, fun _ => ⟨rfl, rfl⟩, fun _ => ?_⟩
  · show inS R n = (numK s.k && inS s.sp n); rw [hR.same, hk]; rfl
  · show inW false [] x = (s.k == 2 && inW s.al s.ws x); rw [inW_false, e2]; rfl
  · show (0 : Int) = bN (s.k == 3 && bit0 s.b) (s.k == 3 && bit1 s.b); rw [e3]; rfl
  · show s.nul = (decide (1 ≤ s.k ∧ s.k ≤ 4) && s.nul); rw [decide_eq_true (by omega)]; rfl
  · have : numK s.k = false := h; rw [hk] at this; cases this
  · show (s.k == 3 && bit0 s.b) = false ∧ (s.k == 3 && bit1 s.b) = false; rw [e3]; exact ⟨rfl, rfl⟩
theorem tidy_text {s : St} (hk : s.k = 2) : Is s.sg ⟨s.k, [], s.al, norm s.ws, 0, s.nul⟩ := by
  have e2 : (s.k == 2) = true := by simp; omega
  have e3 : (s.k == 3) = false := by simp; omega
  have e1 : numK s.k = false := by unfold numK; simp; omega
  refine ⟨rfl, by simp, trivial, fun n => ?_, norm_lt _, fun x hx => (mem_norm.1 hx).2, fun x => ?_, ?_, ?_, fun _ => rfl, fun h => absurd hk h, fun _ => ?_⟩
  · show inS [] n = (numK s.k && inS s.sp n); rw [e1]; rfl
  · show inW s.al (norm s.ws) x = (s.k == 2 && inW s.al s.ws x); rw [inW_norm, e2]; rfl
  · show (0 : Int) = bN (s.k == 3 && bit0 s.b) (s.k == 3 && bit1 s.b); rw [e3]; rfl
  · show s.nul = (decide (1 ≤ s.k ∧ s.k ≤ 4) && s.nul); rw [decide_eq_true (by omega)]; rfl
  · show (s.k == 3 && bit0 s.b) = false ∧ (s.k == 3 && bit1 s.b) = false; rw [e3]; exact ⟨rfl, rfl⟩
theorem tidy_bool {s : St} (hk : s.k = 3) : Is s.sg ⟨s.k, [], false, [], s.b % 4, s.nul⟩ := by
  have e2 : (s.k == 2) = false := by simp; omega
  have e3 : (s.k == 3) = true := by simp; omega
  have e1 : numK s.k = false := by unfold numK; simp; omega
  refine ⟨rfl, by simp, trivial, fun n => ?_, List.Pairwise.nil, by simp, fun x => ?_, ?_, ?_, fun _ => rfl, fun _ => ⟨rfl, rfl⟩, fun h => absurd hk h⟩
  · show inS [] n = (numK s.k && inS s.sp n); rw [e1]; rfl
  · show inW false [] x = (s.k == 2 && inW s.al s.ws x); rw [inW_false, e2]; rfl
  · show s.b % 4 = bN (s.k == 3 && bit0 s.b) (s.k == 3 && bit1 s.b); rw [e3, bN_tidy]; rfl
  · show s.nul = (decide (1 ≤ s.k ∧ s.k ≤ 4) && s.nul); rw [decide_eq_true (by omega)]; rfl
theorem tidy_none {s : St} (hk : ¬ (1 ≤ s.k ∧ s.k ≤ 4)) : Is s.sg ⟨s.k, [], false, [], 0, false⟩ := by
  have e2 : (s.k == 2) = false := by simp; omega
  have e3 : (s.k == 3) = false := by simp; omega
  have e1 : numK s.k = false := by unfold numK; simp; omega
  refine ⟨rfl, by simp, trivial, fun n => ?_, List.Pairwise.nil, by simp, fun x => ?_, ?_, ?_, fun _ => rfl, fun _ => ⟨rfl, rfl⟩, fun _ => ?_⟩
  · show inS [] n = (numK s.k && inS s.sp n); rw [e1]; rfl
  · show inW false [] x = (s.k == 2 && inW s.al s.ws x); rw [inW_false, e2]; rfl
  · show (0 : Int) = bN (s.k == 3 && bit0 s.b) (s.k == 3 && bit1 s.b); rw [e3]; rfl
  · show false = (decide (1 ≤ s.k ∧ s.k ≤ 4) && s.nul); rw [decide_eq_false hk]; rfl
  · show (s.k == 3 && bit0 s.b) = false ∧ (s.k == 3 && bit1 s.b) = false; rw [e3]; exact ⟨rfl, rfl⟩
theorem Is.sg_eq {g : Sg} {s : St} (h : Is g s) (hk : 1 ≤ g.k ∧ g.k ≤ 4) : s.sg = g := by
  obtain ⟨c1, c2, c3⟩ := h.cut
  obtain ⟨k, P, Q, f, t, nul⟩ := g
  have hk0 := h.k
  simp only at hk hk0
  unfold St.sg
  rw [hk0]
  congr 1
  · funext n
    rw [h.sp]
    cases e : numK k
    · show (false && P n) = P n; rw [show P n = false from c1 e n]; rfl
    · rfl
  · funext x
    rw [h.ws]
    cases e : (k == 2)
    · show (false && Q x) = Q x; rw [show Q x = false from c2 (by intro h; simp only at h; rw [h] at e; cases e) x]; rfl
    · rfl
  · rw [h.b, bit0_bN]
    cases e : (k == 3)
    · show (false && f) = f; rw [show f = false from (c3 (by intro h; simp only at h; rw [h] at e; cases e)).1]; rfl
    · rfl
  · rw [h.b, bit1_bN]
    cases e : (k == 3)
    · show (false && t) = t; rw [show t = false from (c3 (by intro h; simp only at h; rw [h] at e; cases e)).2]; rfl
    · rfl
  · rw [h.nul, decide_eq_true hk]; rfl
theorem meet_is {g h : Sg} {a b : St} (ha : Is g a) (hb : Is h b) (hk : g.k = h.k) {R : List Sp} {m : Nat} (hR : SetOf (fun n => inS a.sp n && inS b.sp n) m R) {al : Bool} {ws : List Tx}
    (h1 : g.k = 2 → al = (meetW a.al a.ws b.al b.ws).1 ∧ ws = (meetW a.al a.ws b.al b.ws).2) (h2 : g.k ≠ 2 → al = false ∧ ws = []) :
    Is (g.meet h) ⟨a.k, R, al, ws, bits .and .i64 a.b b.b, a.nul && b.nul⟩ := by
  obtain ⟨c1, c2, c3⟩ := ha.cut
  refine ⟨ha.k, hR.wf, hR.ord, fun n => ?_, ?_, ?_, fun x => ?_, ?_, ?_, fun e => ?_, h2, fun e => ?_⟩
  · show inS R n = (g.P n && h.P n); rw [hR.same, ha.sp, hb.sp]
  · by_cases e : g.k = 2
    · rw [(h1 e).2]; obtain ⟨l, hl⟩ := meet_rise a.al a.ws b.al b.ws; rw [hl]; exact norm_lt l
    · rw [(h2 e).2]; exact List.Pairwise.nil
  · by_cases e : g.k = 2
    · rw [(h1 e).2]; obtain ⟨l, hl⟩ := meet_rise a.al a.ws b.al b.ws; rw [hl]; exact fun x hx => (mem_norm.1 hx).2
    · rw [(h2 e).2]; simp
  · show inW al ws x = (g.Q x && h.Q x)
    by_cases e : g.k = 2
    · rw [(h1 e).1, (h1 e).2, inW_meet, ha.ws, hb.ws]
    · rw [(h2 e).1, (h2 e).2, inW_false, c2 e]; rfl
  · show bits .and .i64 a.b b.b = bN (g.f && h.f) (g.t && h.t); rw [ha.b, hb.b, bN_and]
  · show (a.nul && b.nul) = (g.nul && h.nul); rw [ha.nul, hb.nul]
  · refine ordL_none hR.ord (fun n => ?_)
    rw [hR.same, ha.c1 e]; rfl
  · show (g.f && h.f) = false ∧ (g.t && h.t) = false
    rw [(c3 e).1, (c3 e).2]; exact ⟨rfl, rfl⟩
theorem inW_join (aA : Bool) (a : List Tx) (bA : Bool) (b : List Tx) (x : Tx) : inW (!(meetW (!aA) (norm a) (!bA) (norm b)).1) (norm (meetW (!aA) (norm a) (!bA) (norm b)).2) x = (inW aA a x || inW bA b x) := by
  rw [inW_other, inW_meet, inW_other, inW_other]
  have h1 : inW aA a x = true → textB x = true := fun h => by unfold inW at h; rw [Bool.and_eq_true] at h; exact h.1
  have h2 : inW bA b x = true → textB x = true := fun h => by unfold inW at h; rw [Bool.and_eq_true] at h; exact h.1
  cases e1 : inW aA a x <;> cases e2 : inW bA b x <;> cases e3 : textB x <;> simp_all
theorem join_is {g h : Sg} {a b : St} (ha : Is g a) (hb : Is h b) (hk : g.k = h.k) {R : List Sp} (hR : JoinOf (a.sp ++ b.sp) R) {al : Bool} {ws : List Tx}
    (h1 : g.k = 2 → al = !(meetW (!a.al) (norm a.ws) (!b.al) (norm b.ws)).1 ∧ ws = norm (meetW (!a.al) (norm a.ws) (!b.al) (norm b.ws)).2) (h2 : g.k ≠ 2 → al = false ∧ ws = []) :
    Is (g.join h) ⟨a.k, R, al, ws, bits .or .i64 a.b b.b, a.nul || b.nul⟩ := by
  obtain ⟨c1, c2, c3⟩ := ha.cut
  obtain ⟨d1, d2, d3⟩ := hb.cut
  refine ⟨ha.k, hR.wf, hR.ord, fun n => ?_, ?_, ?_, fun x => ?_, ?_, ?_, fun e => ?_, h2, fun e => ?_⟩
  · show inS R n = (g.P n || h.P n); rw [hR.same, inS_append, ha.sp, hb.sp]
  · by_cases e : g.k = 2
    · rw [(h1 e).2]; exact norm_lt _
    · rw [(h2 e).2]; exact List.Pairwise.nil
  · by_cases e : g.k = 2
    · rw [(h1 e).2]; exact fun x hx => (mem_norm.1 hx).2
    · rw [(h2 e).2]; simp
  · show inW al ws x = (g.Q x || h.Q x)
    by_cases e : g.k = 2
    · rw [(h1 e).1, (h1 e).2, inW_join, ha.ws, hb.ws]
    · rw [(h2 e).1, (h2 e).2, inW_false, c2 e, d2 (by omega)]; rfl
  · show bits .or .i64 a.b b.b = bN (g.f || h.f) (g.t || h.t); rw [ha.b, hb.b, bN_or]
  · show (a.nul || b.nul) = (g.nul || h.nul); rw [ha.nul, hb.nul]
  · refine ordL_none hR.ord (fun n => ?_)
    have e : numK g.k = false := e
    rw [hR.same, inS_append, ha.c1 e, hb.c1 (by rw [← hk]; exact e)]; rfl
  · show (g.f || h.f) = false ∧ (g.t || h.t) = false
    rw [(c3 e).1, (c3 e).2, (d3 (by have : g.k ≠ 3 := e; omega)).1, (d3 (by have : g.k ≠ 3 := e; omega)).2]; exact ⟨rfl, rfl⟩
theorem all_num {k : Int} (hk : numK k = true) : Is (allG k) ⟨k, [(lowK k, topK k)], false, [], 0, true⟩ := by
  have h14 : k = 1 ∨ k = 4 := by simpa [numK] using hk
  have e2 : (k == 2) = false := by simp; omega
  have e3 : (k == 3) = false := by simp; omega
  have hb : -999999999999 ≤ lowK k ∧ lowK k ≤ topK k ∧ topK k ≤ 999999999999 := by unfold lowK topK; split <;> omega
  refine ⟨rfl, fun x hx => ?_, hb.2.1, fun n => ?_, List.Pairwise.nil, by simp, fun x => ?_, ?_, rfl, fun h => ?_, fun _ => ⟨rfl, rfl⟩, fun _ => ?_⟩
  · have : x = (lowK k, topK k) := by simpa using hx
    subst this; exact ⟨by show _ ≤ lowK k; omega, by show lowK k ≤ _; omega, by show _ ≤ topK k; omega, by show topK k ≤ _; omega⟩
  · show inS [(lowK k, topK k)] n = (numK k && extP k n); rw [hk]; unfold inS hasS extP; simp
  · show inW false [] x = (k == 2 && textB x); rw [inW_false, e2]; rfl
  · show (0 : Int) = bN (k == 3) (k == 3); rw [e3]; rfl
  · have : numK k = false := h; rw [hk] at this; cases this
  · exact ⟨e3, e3⟩
theorem norm_nil : norm [] = [] := List.eq_nil_of_length_eq_zero (by have := norm_length []; simpa using this)
theorem all_text {k : Int} (hk : k = 2) : Is (allG k) ⟨k, [], true, norm [], 0, true⟩ := by
  have e2 : (k == 2) = true := by simp; omega
  have e3 : (k == 3) = false := by simp; omega
  have e1 : numK k = false := by unfold numK; simp; omega
  rw [norm_nil]
  refine ⟨rfl, by simp, trivial, fun n => ?_, List.Pairwise.nil, by simp, fun x => ?_, ?_, rfl, fun _ => rfl, fun h => absurd hk h, fun _ => ⟨e3, e3⟩⟩
  · show inS [] n = (numK k && extP k n); rw [e1]; rfl
  · show inW true [] x = (k == 2 && textB x); rw [e2]; unfold inW; simp
  · show (0 : Int) = bN (k == 3) (k == 3); rw [e3]; rfl
theorem all_bool {k : Int} (hk : k = 3) : Is (allG k) ⟨k, [], false, [], 3, true⟩ := by
  have e2 : (k == 2) = false := by simp; omega
  have e3 : (k == 3) = true := by simp; omega
  have e1 : numK k = false := by unfold numK; simp; omega
  refine ⟨rfl, by simp, trivial, fun n => ?_, List.Pairwise.nil, by simp, fun x => ?_, ?_, rfl, fun _ => rfl, fun _ => ⟨rfl, rfl⟩, fun h => absurd hk h⟩
  · show inS [] n = (numK k && extP k n); rw [e1]; rfl
  · show inW false [] x = (k == 2 && textB x); rw [inW_false, e2]; rfl
  · show (3 : Int) = bN (k == 3) (k == 3); rw [e3]; rfl
theorem less_is {g : Sg} {u s : St} (hu : Is (allG g.k) u) (hs : Is g s) {R : List Sp} {m : Nat} (hR : SetOf (fun n => inS u.sp n && !inS s.sp n) m R) {al : Bool} {ws : List Tx}
    (h1 : g.k = 2 → al = !s.al ∧ ws = norm s.ws) (h2 : g.k ≠ 2 → al = false ∧ ws = []) :
    Is (lessG g) ⟨g.k, R, al, ws, bits .andNot .i64 u.b s.b, !s.nul⟩ := by
  refine ⟨rfl, hR.wf, hR.ord, fun n => ?_, ?_, ?_, fun x => ?_, ?_, ?_, fun e => ?_, h2, fun e => ?_⟩
  · show inS R n = ((allG g.k).P n && !g.P n); rw [hR.same, hu.sp, hs.sp]
  · by_cases e : g.k = 2
    · rw [(h1 e).2]; exact norm_lt _
    · rw [(h2 e).2]; exact List.Pairwise.nil
  · by_cases e : g.k = 2
    · rw [(h1 e).2]; exact fun x hx => (mem_norm.1 hx).2
    · rw [(h2 e).2]; simp
  · show inW al ws x = ((g.k == 2 && textB x) && !g.Q x)
    by_cases e : g.k = 2
    · rw [(h1 e).1, (h1 e).2, inW_other, hs.ws, show (g.k == 2) = true by simp; omega, Bool.true_and, Bool.and_comm]
    · rw [(h2 e).1, (h2 e).2, inW_false, show (g.k == 2) = false by simp; omega]; rfl
  · show bits .andNot .i64 u.b s.b = bN ((allG g.k).f && !g.f) ((allG g.k).t && !g.t); rw [hu.b, hs.b, bN_less]
  · show (!s.nul) = (!g.nul); rw [hs.nul]
  · refine ordL_none hR.ord (fun n => ?_)
    rw [hR.same, hu.c1 e]; rfl
  · have e : g.k ≠ 3 := e
    have e3 : (g.k == 3) = false := by simp; omega
    show ((g.k == 3) && !g.f) = false ∧ ((g.k == 3) && !g.t) = false
    rw [e3]; exact ⟨rfl, rfl⟩
theorem none_is (k : Int) : Is (noneG k) ⟨k, [], false, [], 0, false⟩ :=
  ⟨rfl, by simp, trivial, fun _ => rfl, List.Pairwise.nil, by simp, fun x => inW_false x, rfl, rfl, fun _ => rfl, fun _ => ⟨rfl, rfl⟩, fun _ => ⟨rfl, rfl⟩⟩
end Go.Proofs.YtankkadnhdfpfaaGreatDoor

/- Sets of values of one type: what is of a type: plain. -/
set_option linter.unusedSimpArgs false
set_option linter.unusedVariables false
namespace Go.Proofs.YtankkadnhdfpfaaGreatDoor
open Go.RowKit Sp Wd

theorem ty_of {t : Ty} (h : tySnd t = true) : (1 ≤ t.k ∧ t.k ≤ 4) ∧ (0 ≤ t.sc ∧ t.sc ≤ 6) ∧ (t.k = 1 ∨ t.sc = 0) ∧ uSndB t.c = true := by
  unfold tySnd at h
  rw [Bool.and_eq_true, decide_eq_true_eq] at h
  exact ⟨⟨h.1.1, h.1.2.1⟩, ⟨h.1.2.2.1, h.1.2.2.2.1⟩, h.1.2.2.2.2, h.2⟩
def rngB (x : Int) : Bool := decide (-999999999999 ≤ x) && decide (x ≤ 999999999999)
theorem fit_eq {t : Ty} (hs : 0 ≤ t.sc ∧ t.sc ≤ 6) (v : Vl) : fitT t v = (fitB v t.k t.sc && (v.k != 1 || rngB (unitsV t.sc v))) := by
  unfold fitT fitB
  cases hv : sndB v
  · rfl
  · simp only [Bool.true_and]
    by_cases h0 : v.k = 0
    · have e : (v.k == 0) = true := by simp [h0]
      have e1 : (v.k != 1) = true := by rw [bne_iff_ne]; omega
      rw [e, e1]; rfl
    · have e : (v.k == 0) = false := by simp [h0]
      rw [e]
      by_cases hk : v.k = t.k
      · have e2 : (v.k == t.k) = true := by simp [hk]
        rw [e2]
        by_cases h1 : v.k = 1
        · have e1 : (v.k != 1) = false := by simp [h1]
          have e3 : (t.k != 1) = false := by simp; omega
          rw [e1, e3, at_fit (sndOne hv h1).2.2 hs.1 hs.2]
          unfold rngB unitsV
          rw [if_pos h1]
          simp [Bool.decide_and]
        · have e1 : (v.k != 1) = true := by rw [bne_iff_ne]; exact h1
          have e3 : (t.k != 1) = true := by rw [bne_iff_ne]; omega
          rw [e1, e3]; rfl
      · have e2 : (v.k == t.k) = false := by simp [hk]
        rw [e2]; simp
theorem in_ref {t : Ty} {v : Vl} (ht : tySnd t = true) (hv : sndB v = true) (h0 : v.k ≠ 0) : inTy t v = ((v.k == t.k) && allB t.c v && (v.k != 1 || (atE v.n v.s t.sc && rngB (atI v.n v.s t.sc)))) := by
  unfold inTy fitT
  rw [ht, hv, show (v.k == 0) = false by simp [h0]]
  simp only [Bool.true_and, Bool.false_or]
  unfold rngB
  rw [Bool.decide_and]
  cases (v.k == t.k) <;> cases allB t.c v <;> simp
theorem in_null {t : Ty} {v : Vl} (ht : tySnd t = true) (hv : sndB v = true) (h0 : v.k = 0) : inTy t v = true := by
  unfold inTy fitT
  rw [ht, hv, show (v.k == 0) = true by simp [h0]]; rfl
theorem in_fit {t : Ty} {v : Vl} (h : inTy t v = true) : tySnd t = true ∧ fitT t v = true ∧ (v.k = 0 ∨ v.k = t.k) ∧ sndB v = true ∧ (v.k == 0 || allB t.c v) = true := by
  unfold inTy at h
  rw [Bool.and_eq_true, Bool.and_eq_true] at h
  obtain ⟨⟨h1, h2⟩, h3⟩ := h
  obtain ⟨sv, hk⟩ := fit_cases h2
  exact ⟨h1, h2, hk, sv, h3⟩
theorem fullG_k (t : Ty) : (fullG t).k = t.k := holdsG_k t t.c
theorem in_full {t : Ty} {v : Vl} (h : inTy t v = true) : hasV t.sc (fullG t) v = true := by
  obtain ⟨h1, h2, h3, h4, h5⟩ := in_fit h
  rw [full_has (ty_of h1).1 (ty_of h1).2.2.2 h2, h5]
theorem has_full {t : Ty} {s : St} (hs : Is (fullG t) s) (v : Vl) : hasSt t s v = inTy t v := by
  unfold hasSt
  cases h : inTy t v
  · rfl
  · obtain ⟨h1, h2, h3, h4, h5⟩ := in_fit h
    have hk : s.k = t.k := hs.k.trans (fullG_k t)
    rw [is_has hs (by rw [fullG_k]; exact (ty_of h1).1) (by rw [fullG_k]; exact h3), in_full h, show (s.k == t.k) = true by simp [hk]]; rfl
theorem has_of {t : Ty} {c : Cel} {s : St} (hc : uSndB c = true) (hs : Is ((fullG t).meet (holdsG t c)) s) (v : Vl) : hasSt t s v = (inTy t v && refAllB c v) := by
  unfold hasSt
  cases h : inTy t v
  · rfl
  · obtain ⟨h1, h2, h3, h4, h5⟩ := in_fit h
    have hk : s.k = t.k := hs.k.trans (fullG_k t)
    rw [is_has hs (by show 1 ≤ (fullG t).k ∧ (fullG t).k ≤ 4; rw [fullG_k]; exact (ty_of h1).1) (by show v.k = 0 ∨ v.k = (fullG t).k; rw [fullG_k]; exact h3), hasV_meet, in_full h, holds_has (ty_of h1).1 hc h2, show (s.k == t.k) = true by simp [hk], refAll_all hc h4]; rfl
theorem has_other {t : Ty} {a s : St} (ht : tySnd t = true) (ha : a.k = t.k) (hs : Is ((fullG t).meet (lessG a.sg)) s) (v : Vl) : hasSt t s v = (inTy t v && !hasSt t a v) := by
  unfold hasSt
  cases h : inTy t v
  · rfl
  · obtain ⟨h1, h2, h3, h4, h5⟩ := in_fit h
    have hk : s.k = t.k := hs.k.trans (fullG_k t)
    rw [is_has hs (by show 1 ≤ (fullG t).k ∧ (fullG t).k ≤ 4; rw [fullG_k]; exact (ty_of h1).1) (by show v.k = 0 ∨ v.k = (fullG t).k; rw [fullG_k]; exact h3), hasV_meet, in_full h, hasV_less _ _ _ h4, show (s.k == t.k) = true by simp [hk], show (a.k == t.k) = true by simp [ha]]
    rw [show a.sg.k = t.k from ha, all_has (ty_of h1).1 h2]; simp
theorem has_meet {t : Ty} {a b s : St} {g h : Sg} (ha : Is g a) (hb : Is h b) (hg : g.k = t.k) (hh : h.k = t.k) (hs : Is (g.meet h) s) (v : Vl) : hasSt t s v = (hasSt t a v && hasSt t b v) := by
  unfold hasSt
  cases e : inTy t v
  · rfl
  · obtain ⟨h1, h2, h3, h4, h5⟩ := in_fit e
    have k1 : s.k = t.k := hs.k.trans hg
    have k2 : a.k = t.k := ha.k.trans hg
    have k3 : b.k = t.k := hb.k.trans hh
    have ht := (ty_of h1).1
    rw [is_has hs (by show 1 ≤ g.k ∧ g.k ≤ 4; omega) (by show v.k = 0 ∨ v.k = g.k; omega), is_has ha (by omega) (by omega), is_has hb (by omega) (by omega), hasV_meet, show (s.k == t.k) = true by simp [k1], show (a.k == t.k) = true by simp [k2], show (b.k == t.k) = true by simp [k3]]; rfl
def emptyG (s : St) : Bool := !s.nul && (if s.k = 2 then !s.al && s.ws.isEmpty else s.sp.isEmpty && s.b == 0)
theorem empty_none {g : Sg} {s : St} (hs : Is g s) (he : g.nul = false) (hP : ∀ n, g.P n = false) (hQ : ∀ x, g.Q x = false) (hf : g.f = false) (ht : g.t = false) (hal : g.k = 2 → s.al = false) : emptyG s = true := by
  unfold emptyG
  rw [hs.nul, he]
  split
  · rename_i h
    have hk : g.k = 2 := hs.k.symm.trans h
    rw [hal hk]
    cases hw : s.ws with
    | nil => rfl
    | cons x r =>
      have h1 := hs.ws x
      have h2 := hs.txt x (by rw [hw]; simp)
      rw [hQ x, hal hk, hw] at h1
      unfold inW at h1
      rw [h2] at h1
      simp at h1
  · rw [ordL_none hs.ord (fun n => by rw [hs.sp, hP n]), hs.b, hf, ht]; rfl
def isT (v : Vl) : Tst := ⟨1, v, Vl.zero, false, false⟩
theorem isT_one (v x : Vl) (h : sndB v = true) : uOneB (isT v) = true ∧ oneB (isT v) x = eqB x v := by
  refine ⟨?_, ?_⟩
  · unfold uOneB isT
    simp only
    rw [if_neg (by decide), h]
    have e1 : sndB Vl.zero = true := by unfold sndB Vl.zero; rw [if_pos rfl]; simp [ByteArray.toList_eq]
    have e2 : eqB Vl.zero Vl.zero = true := (eqB_iff _ _).2 rfl
    simp [e1, e2]
  · unfold oneB isT
    simp
end Go.Proofs.YtankkadnhdfpfaaGreatDoor

/- Whether a set has a value, kind by kind; a set in order: plain. -/
set_option linter.unusedSimpArgs false
set_option linter.unusedVariables false
namespace Go.Proofs.YtankkadnhdfpfaaGreatDoor
open Go.RowKit Sp Wd

theorem has_no {t : Ty} {s : St} {v : Vl} (h : inTy t v = false) : hasSt t s v = false := by unfold hasSt; rw [h]; rfl
theorem has_ne {t : Ty} {s : St} {v : Vl} (h : (s.k == t.k) = false) : hasSt t s v = false := by unfold hasSt; rw [h]; simp
theorem has_in {t : Ty} {s : St} {v : Vl} (h : inTy t v = true) (hk : s.k = t.k) : hasSt t s v = hasV t.sc s.sg v := by
  unfold hasSt; rw [h, show (s.k == t.k) = true by simp [hk]]; rfl
theorem has_0 {t : Ty} {s : St} {v : Vl} (h : inTy t v = true) (hk : s.k = t.k) (h0 : v.k = 0) : hasSt t s v = s.nul := by
  have h1 := (ty_of (in_fit h).1).1
  rw [has_in h hk]; unfold hasV St.sg
  rw [if_pos h0]
  show (decide (1 ≤ s.k ∧ s.k ≤ 4) && s.nul) = s.nul
  rw [decide_eq_true (by omega)]; rfl
theorem has_2 {t : Ty} {s : St} {v : Vl} (h : inTy t v = true) (hk : s.k = t.k) (h2 : v.k = 2) : hasSt t s v = inW s.al s.ws (txt v) := by
  have h1 := (in_fit h).2.2.1
  rw [has_in h hk]; unfold hasV St.sg
  rw [if_neg (by omega), if_pos h2]
  show (s.k == 2 && inW s.al s.ws (txt v)) = _
  rw [show (s.k == 2) = true by simp; omega]; rfl
theorem has_3 {t : Ty} {s : St} {v : Vl} (h : inTy t v = true) (hk : s.k = t.k) (h3 : v.k = 3) : (v.i = 0 ∧ hasSt t s v = bit0 s.b) ∨ (v.i = 1 ∧ hasSt t s v = bit1 s.b) := by
  have h1 := (in_fit h).2.2.1
  have hi := (sndThree (in_fit h).2.2.2.1 h3).2.2.2
  have e : (s.k == 3) = true := by simp; omega
  rw [has_in h hk]; unfold hasV St.sg
  rw [if_neg (by omega), if_neg (by omega), if_pos h3]
  rcases hi with hi | hi
  · left
    refine ⟨hi, ?_⟩
    show (v.i == 0 && (s.k == 3 && bit0 s.b) || v.i == 1 && (s.k == 3 && bit1 s.b)) = _
    rw [hi, e]; simp
  · right
    refine ⟨hi, ?_⟩
    show (v.i == 0 && (s.k == 3 && bit0 s.b) || v.i == 1 && (s.k == 3 && bit1 s.b)) = _
    rw [hi, e]; simp
theorem has_14 {t : Ty} {s : St} {v : Vl} (h : inTy t v = true) (hk : s.k = t.k) (h0 : v.k ≠ 0) (h2 : v.k ≠ 2) (h3 : v.k ≠ 3) : hasSt t s v = inS s.sp (unitsV t.sc v) ∧ (0 ≤ t.sc ∧ t.sc ≤ 6) ∧ (v.k = 1 → decSnd v.n v.s = true) := by
  obtain ⟨a1, a2, a3, a4, -⟩ := in_fit h
  have h1 := (ty_of a1).1
  refine ⟨?_, (ty_of a1).2.1, fun e => (sndOne a4 e).2.2⟩
  rw [has_in h hk]; unfold hasV St.sg
  rw [if_neg h0, if_neg h2, if_neg h3]
  show (numK s.k && inS s.sp _) = _
  have e : numK s.k = true := by unfold numK; simp; omega
  rw [e]; rfl
theorem five_k {t : Ty} {v : Vl} (h : inTy t v = true) : v.k = 0 ∨ v.k = 2 ∨ v.k = 3 ∨ (v.k ≠ 0 ∧ v.k ≠ 2 ∧ v.k ≠ 3) := by omega
theorem norm_id {l : List Tx} (h : l.Pairwise (· < ·)) (h2 : ∀ x ∈ l, textB x = true) : norm l = l :=
  rise_eq (norm_lt l) h (fun x => by rw [mem_norm]; exact ⟨fun q => q.1, fun q => ⟨q, h2 x q⟩⟩)
theorem is_kinds {g : Sg} {s : St} (h : Is g s) (hk : 1 ≤ g.k ∧ g.k ≤ 4) :
    ((s.k = 1 ∨ s.k = 4) ∧ s.al = false ∧ s.ws = [] ∧ s.b = 0) ∨ (s.k = 2 ∧ s.sp = [] ∧ s.b = 0) ∨ (s.k = 3 ∧ s.sp = [] ∧ s.al = false ∧ s.ws = [] ∧ (s.b = 0 ∨ s.b = 1 ∨ s.b = 2 ∨ s.b = 3)) := by
  have e := h.k
  have four : g.k = 1 ∨ g.k = 4 ∨ g.k = 2 ∨ g.k = 3 := by omega
  rcases four with h1 | h1 | h1 | h1
  · left
    have c := h.c3 (by omega)
    refine ⟨.inl (by omega), (h.c2 (by omega)).1, (h.c2 (by omega)).2, ?_⟩
    rw [h.b, c.1, c.2]; rfl
  · left
    have c := h.c3 (by omega)
    refine ⟨.inr (by omega), (h.c2 (by omega)).1, (h.c2 (by omega)).2, ?_⟩
    rw [h.b, c.1, c.2]; rfl
  · right; left
    have c := h.c3 (by omega)
    refine ⟨by omega, h.c1 (by rw [h1]; rfl), ?_⟩
    rw [h.b, c.1, c.2]; rfl
  · right; right
    refine ⟨by omega, h.c1 (by rw [h1]; rfl), (h.c2 (by omega)).1, (h.c2 (by omega)).2, ?_⟩
    rw [h.b]; cases g.f <;> cases g.t <;> simp [bN]
theorem i64_and2 (n : Int) : (bits .and .i64 n 2 == 2) = (n / 2 % 2 == 1) := by
  have h2 : (BitVec.ofInt 64 2).toNat = 2 ^ 1 := by decide
  have key : (BitVec.ofInt 64 n &&& BitVec.ofInt 64 2).toNat = ((n % ((2 ^ 64 : Nat) : Int)).toNat.testBit 1).toNat * 2 ^ 1 := by
    rw [BitVec.toNat_and, BitVec.toNat_ofInt, h2]
    apply Nat.eq_of_testBit_eq
    intro i
    rw [Nat.testBit_and, Nat.testBit_two_pow]
    have h3 : ∀ b : Bool, (b.toNat * 2 ^ 1).testBit i = (b && decide (1 = i)) := by
      intro b
      cases b
      · simp
      · rw [show true.toNat * 2 ^ 1 = 2 ^ 1 by decide, Nat.testBit_two_pow]; rfl
    rw [h3]
    by_cases hi : 1 = i
    · subst hi; simp
    · rw [decide_eq_false hi]; simp
  have e : (n % ((2 ^ 64 : Nat) : Int)).toNat.testBit 1 = (n / 2 % 2 == 1) := by
    rw [Nat.testBit_eq_decide_div_mod_eq, Bool.eq_iff_iff, decide_eq_true_eq, beq_iff_eq]
    omega
  show (IntKind.i64.wrap ((BitVec.ofInt 64 n &&& BitVec.ofInt 64 2).toNat : Nat) == 2) = _
  rw [key, e, IntKind.wrap_i64]
  cases (n / 2 % 2 == 1) <;> rfl
end Go.Proofs.YtankkadnhdfpfaaGreatDoor

/- What is empty: plain. -/
set_option linter.unusedSimpArgs false
set_option linter.unusedVariables false
namespace Go.Proofs.YtankkadnhdfpfaaGreatDoor
open Go.RowKit Sp Wd

def noneV (g : Sg) : Prop := (∀ n, g.P n = false) ∧ (∀ x, g.Q x = false) ∧ g.f = false ∧ g.t = false
theorem none_has {g : Sg} (h : noneV g) (sc : Int) {v : Vl} (hk : v.k ≠ 0) : hasV sc g v = false := by
  unfold hasV
  rw [if_neg hk]
  split
  · exact h.2.1 _
  · split
    · rw [h.2.2.1, h.2.2.2]; simp
    · exact h.1 _
theorem empty_no2 {g : Sg} {s : St} (is : Is g s) (hk : 1 ≤ g.k ∧ g.k ≤ 4) (he : emptyG s = true) : g.nul = false ∧ noneV g := by
  unfold emptyG at he
  rw [Bool.and_eq_true, Bool.not_eq_true', is.nul] at he
  obtain ⟨h1, h2⟩ := he
  obtain ⟨d1, d2, d3⟩ := is.cut
  have e := is.k
  refine ⟨h1, ?_⟩
  by_cases h : s.k = 2
  · rw [if_pos h, Bool.and_eq_true, Bool.not_eq_true', List.isEmpty_iff] at h2
    have f3 := d3 (by omega)
    refine ⟨d1 (by unfold numK; simp; omega), fun x => ?_, f3.1, f3.2⟩
    rw [← is.ws, h2.1, h2.2]; exact inW_false x
  · rw [if_neg h, Bool.and_eq_true, List.isEmpty_iff, beq_iff_eq] at h2
    have hb := h2.2
    rw [is.b] at hb
    refine ⟨fun n => by rw [← is.sp, h2.1]; rfl, d2 (by omega), ?_⟩
    cases hf : g.f <;> cases ht : g.t <;> rw [hf, ht] at hb <;> first | exact ⟨rfl, rfl⟩ | (simp [bN] at hb)
theorem zero_wf : Vl.zero.wf := ⟨⟨by decide, by decide⟩, ⟨by decide, by decide⟩, ⟨by decide, by decide⟩, ⟨by decide, by decide⟩, Nat.zero_le _⟩
end Go.Proofs.YtankkadnhdfpfaaGreatDoor
