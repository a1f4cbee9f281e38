import Derived.Test.YtankkadnhdfpfaaGreatDoorPk18
import Derived.Test.YtankkadnhdfpfaaGreatDoorPk10
import Derived.Test.YtankkadnhdfpfaaGreatDoorPk17
import Derived.Test.YtankkadnhdfpfaaGreatDoorPk35
import Derived.Test.YtankkadnhdfpfaaGreatDoorPk25
import Derived.Test.YtankkadnhdfpfaaGreatDoorPk13
/- Spans: gap, far, Near, same, walked. -/
set_option linter.unusedSimpArgs false
set_option linter.unusedVariables false
namespace Go.Proofs.YtankkadnhdfpfaaGreatDoor.Sp
open Go.RowKit Go.Sort

theorem wrapU {p q : Int} (h0 : 0 ≤ p - q) (h1 : p - q < 18446744073709551616) : IntKind.u64.wrap (IntKind.u64.wrap p - IntKind.u64.wrap q) = p - q := by
  simp [IntKind.wrap, IntKind.signed, IntKind.bits]
  omega
def IRng (a : Int) : Prop := -9223372036854775808 ≤ a ∧ a ≤ 9223372036854775807
set_option maxHeartbeats 400000 in
theorem gap_any (a b : Int) (ha : IRng a) (hb : IRng b) (w : World) : Calls Tryz.prog 102 #[.int .i64 a, .int .i64 b] w fun e w' => e = .returned (.int .u64 (farI a b)) ∧ Below w.heap.size w w' := by
  obtain ⟨r, hr⟩ : ∃ r, farI a b = r := ⟨_, rfl⟩
  rw [hr]
  have HR : Hid (farI a b = r) := hr
  clear hr
  have HA : Hid (IRng a) := ha
  have HB : Hid (IRng b) := hb
  clear ha hb
  go_enter Tryz.func102, Tryz.ntmps102
  go_wp2_with fail
  go_ret
  refine ⟨ret_int ?_, bel⟩
  have h1 := HA.out
  have h2 := HB.out
  rw [← HR.out]
  unfold farI IRng at *
  exact wrapU (by omega) (by omega)
theorem clamp_rng {s : Sp} (h : SpWf s) {n : Int} (hn : IRng n) : IRng (clampS s n) := by
  have h1 := h.l1; have h2 := h.l2; have h3 := h.h1; have h4 := h.h2
  unfold IRng at *; unfold clampS; omega
set_option maxRecDepth 100000 in
set_option maxHeartbeats 1600000 in
theorem near0_any (l : List Sp) (n : Int) (hn : IRng n) (A : Option Addr) (c : Nat) (w : World) (hr : RdL w 2 A (l.map spC)) (hw : ∀ s ∈ l, SpWf s) (hlen : l.length ≤ 8000000000000) :
    Calls Tryz.prog 62 #[.slice A l.length c, .int .i64 n] w fun e w' =>
      ∃ m : Option Int, e = .returned (.tuple #[.int .i64 (m.getD 0), .int .i64 (if m.isSome = true then 0 else 16)]) ∧ (∀ k, m = some k → NearOf l n k) ∧ (m = none → ∀ k, inS l k = false) ∧ Below w.heap.size w w' := by
  have HN : Hid (IRng n) := hn
  clear hn
  go_enter Tryz.func62, Tryz.ntmps62
  go_wp2_with fail
  refine (join_any l A c _ hr hw hlen).mono ?_
  rintro e w1 ⟨R, B, cR, rfl, hrR, hJ, hcR, _, hb1⟩
  have hlJ := hJ.len
  obtain ⟨M, hM⟩ : ∃ M, nearF n R none = M := ⟨_, rfl⟩
  have HM : Hid (nearF n R none = M) := hM
  clear hM
  go_wp2_with fail
  go_loopg [6, 7, 14] R.length (fun k bv fv iv wr => ∃ (i : Nat) (b : Option Int), i ≤ R.length ∧ R.length - i ≤ k ∧ bv = .int .i64 (b.getD 0) ∧ fv = .bool b.isSome ∧ iv = .int .i64 i ∧ Hid (∀ m, b = some m → IRng m) ∧ Hid (nearF n (R.drop i) b = M) ∧ Below w1.heap.size w1 wr)
  case atStart => exact ⟨0, none, by omega, by omega, rfl, rfl, rfl, fun m h => (nomatch h), HM.out, Below.refl _ _⟩
  case round =>
    obtain ⟨i, b, hi, hik, rfl, rfl, rfl, hbr, hinv, hbel⟩ := hrel
    have hsz := hbel.size
    by_cases hlt : i < R.length
    · obtain ⟨bJ, oJ, hBJ, hx⟩ := (hrR.below hbel).at_ hlt
      subst hBJ
      have hxw := hJ.wf _ (List.getElem_mem hlt)
      have hdr : R.drop i = R[i]'hlt :: R.drop (i + 1) := List.drop_eq_getElem_cons hlt
      generalize R[i]'hlt = x at *
      rw [hdr] at hinv
      have y0 : wr.cell? ⟨bJ, oJ + i * 2, none⟩ = some (.int .i64 x.1) := hx.get 0 rfl
      have y1 : wr.cell? ⟨bJ, oJ + i * 2 + 1, none⟩ = some (.int .i64 x.2) := hx.get 1 rfl
      have i1 : (i : Int) < (R.length : Int) := by omega
      have i2 : (0 : Int) ≤ (i : Int) := by omega
      have HXR : Hid (IRng (clampS x n)) := clamp_rng hxw HN.out
      have HX := Lib.hid hxw
      clear hx hdr hxw
      obtain ⟨cl, hcl⟩ : ∃ cl, max x.1 (min n x.2) = cl := ⟨_, rfl⟩
      have HCL : Hid (clampS x n = cl) := hcl
      cases b with
      | none =>
        have hn1 : Hid (nearF n (R.drop (i + 1)) (some cl) = M) := by rw [← HCL.out]; exact hinv.out
        go_wp2_with fail
        go_roundg (R.length - (i + 1))
        case measure => omega
        case rel => exact ⟨i + 1, some cl, by omega, by omega, rfl, rfl, by go_num, fun m h => by cases h; rw [← HCL.out]; exact HXR.out, hn1, bel⟩
      | some m =>
        simp only [Option.getD_some, Option.isSome_some] at *
        have hn1 : Hid (nearF n (R.drop (i + 1)) (if farI cl n < farI m n then some cl else some m) = M) := by rw [← HCL.out]; exact hinv.out
        obtain ⟨f1, hf1⟩ : ∃ f1, farI cl n = f1 := ⟨_, rfl⟩
        obtain ⟨f2, hf2⟩ : ∃ f2, farI m n = f2 := ⟨_, rfl⟩
        rw [hf1, hf2] at hn1
        have HF1 := Lib.hid hf1
        have HF2 := Lib.hid hf2
        have HCR : Hid (IRng cl) := by rw [← HCL.out]; exact HXR.out
        have HMR : Hid (IRng m) := hbr.out m rfl
        have hg1 := fun W => gap_any cl n HCR.out HN.out W
        have hg2 := fun W => gap_any m n HMR.out HN.out W
        rw [HF1.out] at hg1
        rw [HF2.out] at hg2
        have HG1 := Lib.hid hg1
        have HG2 := Lib.hid hg2
        clear hf1 hf2 hg1 hg2
        by_cases hf : f1 < f2
        · have hn2 : Hid (nearF n (R.drop (i + 1)) (some cl) = M) := by have := hn1.out; rw [if_pos hf] at this; exact this
          go_wp2_with fail
          refine (HG1.out _).mono ?_
          rintro e w2 ⟨rfl, hb2⟩
          go_wp2_with fail
          refine (HG2.out _).mono ?_
          rintro e w3 ⟨rfl, hb3⟩
          go_wp2_with fail
          go_roundg (R.length - (i + 1))
          case measure => omega
          case rel => exact ⟨i + 1, some cl, by omega, by omega, rfl, rfl, by go_num, fun k h => by cases h; exact HCR.out, hn2, bel⟩
        · have hn2 : Hid (nearF n (R.drop (i + 1)) (some m) = M) := by have := hn1.out; rw [if_neg hf] at this; exact this
          go_wp2_with fail
          refine (HG1.out _).mono ?_
          rintro e w2 ⟨rfl, hb2⟩
          go_wp2_with fail
          refine (HG2.out _).mono ?_
          rintro e w3 ⟨rfl, hb3⟩
          go_wp2_with fail
          go_roundg (R.length - (i + 1))
          case measure => omega
          case rel => exact ⟨i + 1, some m, by omega, by omega, rfl, rfl, by go_num, fun k h => by cases h; exact HMR.out, hn2, bel⟩
    · have hie : i = R.length := by omega
      have hb : Hid (b = M) := by have := hinv.out; rw [hie, List.drop_length] at this; exact this
      have i1 : ¬ ((i : Int) < (R.length : Int)) := by omega
      cases b with
      | none =>
        go_wp2_with fail
        go_ret2
        refine ⟨none, rfl, fun k h => (nomatch h), fun _ k => ?_, hb1.trans (hbel.mono hb1.size)⟩
        have := nearF_none (HM.out.trans hb.out.symm)
        rw [← hJ.same k, this]; rfl
      | some m =>
        go_wp2_with fail
        go_ret2
        refine ⟨some m, rfl, fun k h => ?_, fun h => (nomatch h), hb1.trans (hbel.mono hb1.size)⟩
        cases h
        have := nearF_near hJ.ord (HM.out.trans hb.out.symm)
        exact ⟨by rw [← hJ.same]; exact this.1, fun k hk => this.2 k (by rw [hJ.same]; exact hk)⟩

end Go.Proofs.YtankkadnhdfpfaaGreatDoor.Sp

/- One of a set's values: plain. -/
set_option linter.unusedSimpArgs false
set_option linter.unusedVariables false
namespace Go.Proofs.YtankkadnhdfpfaaGreatDoor
open Go.RowKit Go.Lib Sp Wd

theorem joinsG_ext (t : Ty) : ∀ (l : List Tst) (g : Sg), (∀ n, g.P n = true → extP t.k n = true) → ∀ n, (joinsG t l g).P n = true → extP t.k n = true
  | [], _, h => h
  | x :: r, g, h => by
    refine joinsG_ext t r (g.join (testG t x)) (fun n hn => ?_)
    have hn' : (g.P n || (testG t x).P n) = true := hn
    rw [Bool.or_eq_true] at hn'
    rcases hn' with h1 | h1
    · exact h n h1
    · unfold testG at h1
      split at h1
      · cases h1
      · split at h1
        · have h2 : (numK t.k && (extP t.k n && hasS (betwLo t x, betwHi t x) n)) = true := h1
          rw [Bool.and_eq_true, Bool.and_eq_true] at h2
          exact h2.2.1
        · cases h1
theorem fullG_ext (t : Ty) (n : Int) (h : (fullG t).P n = true) : extP t.k n = true := by
  have h' : (holdsG t t.c).P n = true := h
  unfold holdsG at h'
  split at h'
  · have h2 : (numK t.k && extP t.k n) = true := h'
    rw [Bool.and_eq_true] at h2; exact h2.2
  · split at h'
    · have h2 : ((allG (joinsG t t.c.ts (noneG t.k)).k).P n && _) = true := h'
      rw [Bool.and_eq_true] at h2
      have h3 : (numK (joinsG t t.c.ts (noneG t.k)).k && extP (joinsG t t.c.ts (noneG t.k)).k n) = true := h2.1
      rw [Bool.and_eq_true, joinsG_k] at h3
      exact h3.2
    · exact joinsG_ext t t.c.ts (noneG t.k) (fun n hn => by cases hn) n h'
theorem ext_bd {k n : Int} (h : extP k n = true) : -999999999999 ≤ n ∧ n ≤ 999999999999 := by
  unfold extP at h
  rw [Bool.and_eq_true, decide_eq_true_eq, decide_eq_true_eq] at h
  have : -999999999999 ≤ lowK k ∧ topK k ≤ 999999999999 := by unfold lowK topK; constructor <;> split <;> omega
  omega
def BestV (t : Ty) (g : Sg) (v : Vl) : Prop :=
  (t.k = 1 ∧ ∃ n, (g.P n = true ∧ ∀ k, g.P k = true → farI n 0 < farI k 0 ∨ (farI n 0 = farI k 0 ∧ n ≤ k)) ∧ v = ⟨1, mkN n t.sc, mkS n t.sc, ⟨#[]⟩, 0⟩) ∨
  (t.k = 4 ∧ ∃ n, (g.P n = true ∧ ∀ k, g.P k = true → farI n 730119 < farI k 730119 ∨ (farI n 730119 = farI k 730119 ∧ n ≤ k)) ∧ v = ⟨4, 0, 0, ⟨#[]⟩, n⟩) ∨
  (t.k = 2 ∧ ∃ s, g.Q s = true ∧ v = ⟨2, 0, 0, bs s, 0⟩) ∨
  (t.k = 3 ∧ ((g.f = true ∧ v = ⟨3, 0, 0, ⟨#[]⟩, 0⟩) ∨ (g.f = false ∧ g.t = true ∧ v = ⟨3, 0, 0, ⟨#[]⟩, 1⟩)))
def PickOf (t : Ty) (g : Sg) (v : Vl) (e : Int) : Prop :=
  (e = 0 ∧ BestV t g v) ∨ (e = 0 ∧ v = Vl.zero ∧ g.nul = true ∧ noneV g) ∨ (e = 16 ∧ v = Vl.zero ∧ g.nul = false ∧ noneV g)
theorem pick_none {t : Ty} {g : Sg} (h : noneV g) : (g.nul = true → PickOf t g Vl.zero 0) ∧ (g.nul = false → PickOf t g Vl.zero 16) :=
  ⟨fun h1 => .inr (.inl ⟨rfl, rfl, h1, h⟩), fun h1 => .inr (.inr ⟨rfl, rfl, h1, h⟩)⟩
theorem near_best {g : Sg} {r : St} (ir : Is g r) {n q : Int} (h : NearOf r.sp q n) : g.P n = true ∧ ∀ k, g.P k = true → farI n q < farI k q ∨ (farI n q = farI k q ∧ n ≤ k) :=
  ⟨by rw [← ir.sp]; exact h.1, fun k hk => h.2 k (by rw [ir.sp]; exact hk)⟩
theorem none_num {g : Sg} {r : St} (ir : Is g r) (hk : numK g.k = true) (h : ∀ n, inS r.sp n = false) : noneV g := by
  have h14 : g.k = 1 ∨ g.k = 4 := by simpa [numK] using hk
  obtain ⟨c1, c2, c3⟩ := ir.cut
  exact ⟨fun n => by rw [← ir.sp]; exact h n, c2 (by omega), (c3 (by omega)).1, (c3 (by omega)).2⟩
theorem txt_pick {g : Sg} {r : St} (ir : Is g r) (hk : g.k = 2) {u : Tx} {n : Int} (h : PickIs r.al (norm r.ws) u n) : (n = 0 ∧ g.Q u = true) ∨ (n = 16 ∧ noneV g) := by
  obtain ⟨c1, c2, c3⟩ := ir.cut
  rcases h with ⟨ha, hn, hp⟩ | ⟨ha, ⟨hm, -, hn⟩ | ⟨hn, q, hm⟩⟩
  · left
    refine ⟨hn, ?_⟩
    rw [← ir.ws, ← inW_norm, ha]
    unfold inW
    rw [hp.1, hp.2.1]; rfl
  · right
    refine ⟨hn, c1 (by rw [hk]; rfl), fun x => ?_, (c3 (by omega)).1, (c3 (by omega)).2⟩
    rw [← ir.ws, ← inW_norm, ha, hm]
    exact inW_false x
  · left
    refine ⟨hn, ?_⟩
    have hmem : u ∈ norm r.ws := by rw [hm]; simp
    rw [← ir.ws, ← inW_norm, ha]
    unfold inW
    rw [(mem_norm.1 hmem).2, List.contains_iff_mem.2 hmem]; rfl
theorem best_some {t : Ty} {g : Sg} {v : Vl} (hb : BestV t g v) : ¬ noneV g := by
  intro hno
  rcases hb with ⟨-, n, ⟨hm, -⟩, -⟩ | ⟨-, n, ⟨hm, -⟩, -⟩ | ⟨-, s, hm, -⟩ | ⟨-, ⟨hm, -⟩ | ⟨-, hm, -⟩⟩
  · rw [hno.1] at hm; cases hm
  · rw [hno.1] at hm; cases hm
  · rw [hno.2.1] at hm; cases hm
  · rw [hno.2.2.1] at hm; cases hm
  · rw [hno.2.2.2] at hm; cases hm
theorem al_uniq1 {g : Sg} {r r' : St} (h : Is g r) (h' : Is g r') (l : r.ws.length ≤ 1000000000000000) (l' : r'.ws.length ≤ 1000000000000000) (a : r.al = true) (a' : r'.al = false) : False := by
  have h1 : ∀ m, m < (r.ws ++ r'.ws).length + 1 → decDigits m ∈ r.ws ++ r'.ws := fun m hm => by
    have h2 := h.ws (decDigits m)
    have h3 := h'.ws (decDigits m)
    rw [← h3, a, a'] at h2
    unfold inW at h2
    rw [textB_dec m (by rw [List.length_append] at hm; omega), Bool.true_and, Bool.true_and] at h2
    rw [List.mem_append]
    cases hc : r.ws.contains (decDigits m)
    · right
      rw [hc] at h2
      cases hd : r'.ws.contains (decDigits m)
      · rw [hd] at h2; cases h2
      · exact List.contains_iff_mem.1 hd
    · exact .inl (List.contains_iff_mem.1 hc)
  have := decs_le _ _ h1
  omega
theorem al_uniq {g : Sg} {r r' : St} (h : Is g r) (h' : Is g r') (l : r.ws.length ≤ 1000000000000000) (l' : r'.ws.length ≤ 1000000000000000) : r.al = r'.al := by
  cases a : r.al <;> cases a' : r'.al
  · rfl
  · exact (al_uniq1 h' h l' l a' a).elim
  · exact (al_uniq1 h h' l l' a a').elim
  · rfl
def PickU (t : Ty) (g : Sg) (v : Vl) (n : Int) : Prop := PickOf t g v n ∧ (t.k = 2 → ∃ (r : St) (u : Tx) (m : Int), Is g r ∧ r.ws.length ≤ 1000000000000000 ∧ PickIs r.al (norm r.ws) u m ∧
  ((m = 0 ∧ n = 0 ∧ v = ⟨2, 0, 0, bs u, 0⟩) ∨ (m = 16 ∧ v = Vl.zero ∧ n = if g.nul = true then 0 else 16)))
theorem PickU.ne {t : Ty} {g : Sg} {v : Vl} {n : Int} (h : PickOf t g v n) (hk : t.k ≠ 2) : PickU t g v n := ⟨h, fun h2 => absurd h2 hk⟩
theorem far_uniq {g : Sg} {n n' q : Int} (h : g.P n = true ∧ ∀ k, g.P k = true → farI n q < farI k q ∨ (farI n q = farI k q ∧ n ≤ k)) (h' : g.P n' = true ∧ ∀ k, g.P k = true → farI n' q < farI k q ∨ (farI n' q = farI k q ∧ n' ≤ k)) : n = n' := by
  have a := h.2 n' h'.1
  have b := h'.2 n h.1
  omega
theorem PickU.fun_ {t : Ty} {g : Sg} {v v' : Vl} {n n' : Int} (h : PickU t g v n) (h' : PickU t g v' n') : v = v' ∧ n = n' := by
  by_cases hk : t.k = 2
  · obtain ⟨r, u, m, i1, l1, p1, e1⟩ := h.2 hk
    obtain ⟨r', u', m', i2, l2, p2, e2⟩ := h'.2 hk
    obtain rfl : r = r' := is_uniq i1 i2 (al_uniq i1 i2 l1 l2)
    obtain ⟨rfl, rfl⟩ := pickIs_uniq p1 p2
    rcases e1 with ⟨a, b, c⟩ | ⟨a, b, c⟩ <;> rcases e2 with ⟨a', b', c'⟩ | ⟨a', b', c'⟩
    · exact ⟨c.trans c'.symm, b.trans b'.symm⟩
    · omega
    · omega
    · exact ⟨b.trans b'.symm, c.trans c'.symm⟩
  · rcases h.1 with ⟨e, b⟩ | ⟨e, z, u, no⟩ | ⟨e, z, u, no⟩ <;> rcases h'.1 with ⟨e', b'⟩ | ⟨e', z', u', no'⟩ | ⟨e', z', u', no'⟩
    · refine ⟨?_, e.trans e'.symm⟩
      rcases b with ⟨k, m, hm, rfl⟩ | ⟨k, m, hm, rfl⟩ | ⟨k, _⟩ | ⟨k, c⟩ <;> rcases b' with ⟨k', m', hm', rfl⟩ | ⟨k', m', hm', rfl⟩ | ⟨k', _⟩ | ⟨k', c'⟩
      all_goals first | omega | skip
      · rw [far_uniq hm hm']
      · rw [far_uniq hm hm']
      · rcases c with ⟨f, rfl⟩ | ⟨f, f2, rfl⟩ <;> rcases c' with ⟨f', rfl⟩ | ⟨f', f2', rfl⟩
        · rfl
        · rw [f] at f'; cases f'
        · rw [f] at f'; cases f'
        · rfl
    · exact absurd no' (best_some b)
    · exact absurd no' (best_some b)
    · exact absurd no (best_some b')
    · exact ⟨z.trans z'.symm, e.trans e'.symm⟩
    · rw [u] at u'; cases u'
    · exact absurd no (best_some b')
    · rw [u] at u'; cases u'
    · exact ⟨z.trans z'.symm, e.trans e'.symm⟩
end Go.Proofs.YtankkadnhdfpfaaGreatDoor

/- One value of a type, picked of the set of it: plain. -/
set_option linter.unusedSimpArgs false
set_option linter.unusedVariables false
namespace Go.Proofs.YtankkadnhdfpfaaGreatDoor
open Go.RowKit Sp Wd

theorem shU_mul (k a : Nat) : ∀ j, shU (k + j) (a * 10 ^ j) = shU k a
  | 0 => by simp
  | j + 1 => by
    have e : a * 10 ^ (j + 1) = a * 10 ^ j * 10 := by rw [Nat.pow_succ, Nat.mul_assoc]
    rw [show k + (j + 1) = (k + j) + 1 by omega, e, shU_cut _ _ (Nat.mul_mod_left _ _), Nat.mul_div_cancel _ (by omega)]
    exact shU_mul k a j
theorem mk_at {n s sc : Int} (hd : decSnd n s = true) (he : atE n s sc = true) (h0 : 0 ≤ sc) (h2 : sc ≤ 6) : mkN (atI n s sc) sc = n ∧ mkS (atI n s sc) sc = s := by
  obtain ⟨a1, a2, _, _, a5⟩ := decSnd_of hd
  rw [at_fit hd h0 h2, decide_eq_true_eq] at he
  rw [(at_up a1 he h2).1]
  generalize hj : sc.toNat - s.toNat = j
  have hs : sc.toNat = s.toNat + j := by omega
  have hp : (0 : Int) < 10 ^ j := Int.pow_pos (by decide)
  have hna : (n * 10 ^ j).natAbs = n.natAbs * 10 ^ j := by rw [Int.natAbs_mul, Int.natAbs_pow]; rfl
  have hneg : decide (n * 10 ^ j < 0) = decide (n < 0) := by
    rw [decide_eq_decide]
    constructor
    · intro h
      rcases Int.lt_or_le n 0 with h' | h'
      · exact h'
      · have := Int.mul_nonneg h' (Int.le_of_lt hp); omega
    · intro h; exact Int.mul_neg_of_neg_of_pos h hp
  have hf := (shU_fix s.toNat n.natAbs).2 (by omega)
  unfold mkN mkS
  rw [hneg, hna, hs, shU_mul, hf]
  refine ⟨?_, by show ((s.toNat : Nat) : Int) = s; omega⟩
  unfold sgn
  by_cases hn : n < 0 <;> simp [hn] <;> omega
theorem one_has {t : Ty} {v w : Vl} (hin : inTy t v = true) (hw : inTy t w = true) : hasV t.sc (testG t (isT v)) w = eqB w v := by
  obtain ⟨a1, a2, a3, a4, a5⟩ := in_fit hin
  obtain ⟨h1, h2⟩ := isT_one v w a4
  rw [test_has (ty_of a1).1 h1 (in_fit hw).2.1, h2]
theorem pick_one {t : Ty} {v x : Vl} {r : St} {n : Int} (hin : inTy t v = true) (ir : Is (testG t (isT v)) r) (hp : PickOf t ((fullG t).meet r.sg) x n) : n = 0 ∧ x = v := by
  obtain ⟨a1, a2, a3, a4, a5⟩ := in_fit hin
  obtain ⟨kd, scb, -, -⟩ := ty_of a1
  rw [ir.sg_eq (by rw [testG_k]; exact kd)] at hp
  have hV : hasV t.sc ((fullG t).meet (testG t (isT v))) v = true := by
    rw [hasV_meet, in_full hin, one_has hin hin, (eqB_iff _ _).2 rfl]; rfl
  by_cases h0 : v.k = 0
  · have hz := sndZero a4 h0
    have hg : testG t (isT v) = ⟨t.k, fun _ => false, fun _ => false, false, false, true⟩ := by unfold testG; exact if_pos h0
    rw [hg] at hp
    rcases hp with ⟨rfl, hb⟩ | ⟨rfl, rfl, -, -⟩ | ⟨-, -, hn, -⟩
    · exfalso
      rcases hb with ⟨-, m, ⟨hm, -⟩, -⟩ | ⟨-, m, ⟨hm, -⟩, -⟩ | ⟨-, s, hm, -⟩ | ⟨-, ⟨hm, -⟩ | ⟨-, hm, -⟩⟩
      · have : ((fullG t).P m && false) = true := hm
        simp at this
      · have : ((fullG t).P m && false) = true := hm
        simp at this
      · have : ((fullG t).Q s && false) = true := hm
        simp at this
      · have : ((fullG t).f && false) = true := hm
        simp at this
      · have : ((fullG t).t && false) = true := hm
        simp at this
    · exact ⟨rfl, hz.symm⟩
    · have : (true && true) = false := hn
      cases this
  · have hvk : v.k = t.k := by omega
    have hg : testG t (isT v) = ⟨t.k, fun n => numK t.k && (extP t.k n && hasS (betwLo t (isT v), betwHi t (isT v)) n), fun y => t.k == 2 && (textB y && y == txt v), t.k == 3 && v.i == 0, t.k == 3 && v.i == 1, false⟩ := by
      unfold testG; rw [if_neg (show (isT v).lo.k ≠ 0 from h0), if_pos (show (isT v).lo.k = t.k from hvk)]; rfl
    have hlo : betwLo t (isT v) = leastV t.sc v := by unfold betwLo; exact if_pos rfl
    have hhi : betwHi t (isT v) = mostV t.sc v := by unfold betwHi; exact if_pos rfl
    rcases hp with ⟨rfl, hb⟩ | ⟨-, -, -, hno⟩ | ⟨-, -, -, hno⟩
    rotate_left
    · rw [none_has hno t.sc h0] at hV; cases hV
    · rw [none_has hno t.sc h0] at hV; cases hV
    refine ⟨rfl, ?_⟩
    rw [hg] at hb
    have hP : ∀ m, ((fullG t).P m && (numK t.k && (extP t.k m && hasS (betwLo t (isT v), betwHi t (isT v)) m))) = true → leastV t.sc v ≤ m ∧ m ≤ mostV t.sc v := fun m hm => by
      simp only [Bool.and_eq_true] at hm
      have h := hasS_iff.1 hm.2.2.2
      rw [hlo, hhi] at h
      exact h
    rcases hb with ⟨hk, m, ⟨hm, -⟩, rfl⟩ | ⟨hk, m, ⟨hm, -⟩, rfl⟩ | ⟨hk, s, hm, rfl⟩ | ⟨hk, hb⟩
    · obtain ⟨b1, b2, b3⟩ := sndOne a4 (show v.k = 1 by omega)
      have h := hP m hm
      have hE : atE v.n v.s t.sc = true := by
        unfold fitT at a2
        simp only [Bool.and_eq_true, Bool.or_eq_true, beq_iff_eq, bne_iff_ne, ne_eq, decide_eq_true_eq] at a2
        rcases a2.2 with h' | ⟨-, h' | h'⟩
        · omega
        · omega
        · exact h'.1
      have hx : exactV t.sc v = true := by unfold exactV; rw [if_neg (by omega)]; exact hE
      unfold leastV mostV at h
      rw [if_pos hx] at h
      have hmm : m = atI v.n v.s t.sc := by
        have : floorV t.sc v = atI v.n v.s t.sc := by unfold floorV; rw [if_neg (by omega)]
        omega
      obtain ⟨m1, m2⟩ := mk_at b3 hE scb.1 scb.2
      rw [hmm, m1, m2]
      obtain ⟨k, n, s, tx, i⟩ := v
      simp only at *
      have : tx = ⟨#[]⟩ := toList_inj (b1.trans (by rw [ByteArray.toList_eq]))
      rw [show k = 1 by omega, this, b2]
    · have h := hP m hm
      have b := sndFour a4 (show v.k = 4 by omega)
      have hx : exactV t.sc v = true := by unfold exactV; rw [if_pos (by omega)]
      unfold leastV mostV at h
      rw [if_pos hx] at h
      have hmm : m = v.i := by
        have : floorV t.sc v = v.i := by unfold floorV; rw [if_pos (by omega)]
        omega
      rw [hmm]
      obtain ⟨k, n, s, tx, i⟩ := v
      simp only at *
      have : tx = ⟨#[]⟩ := toList_inj (b.2.2.trans (by rw [ByteArray.toList_eq]))
      rw [show k = 4 by omega, this, b.1, b.2.1]
    · have hm2 : ((fullG t).Q s && (t.k == 2 && (textB s && s == txt v))) = true := hm
      simp only [Bool.and_eq_true, beq_iff_eq] at hm2
      obtain ⟨b1, b2, b3, _, _⟩ := sndTwo a4 (show v.k = 2 by omega)
      rw [hm2.2.2.2, bs_txt]
      obtain ⟨k, n, s, tx, i⟩ := v
      simp only at *
      rw [show k = 2 by omega, b1, b2, b3]
    · obtain ⟨b1, b2, b3, b4⟩ := sndThree a4 (show v.k = 3 by omega)
      have hi : x.k = 3 ∧ x.n = 0 ∧ x.s = 0 ∧ x.t = ⟨#[]⟩ ∧ x.i = v.i := by
        rcases hb with ⟨hf, rfl⟩ | ⟨hf, ht, rfl⟩
        · have hf2 : ((fullG t).f && (t.k == 3 && v.i == 0)) = true := hf
          simp only [Bool.and_eq_true, beq_iff_eq] at hf2
          exact ⟨rfl, rfl, rfl, rfl, hf2.2.2.symm⟩
        · have hf2 : ((fullG t).t && (t.k == 3 && v.i == 1)) = true := ht
          simp only [Bool.and_eq_true, beq_iff_eq] at hf2
          exact ⟨rfl, rfl, rfl, rfl, hf2.2.2.symm⟩
      obtain ⟨k, n, s, tx, i⟩ := v
      obtain ⟨k', n', s', tx', i'⟩ := x
      simp only at *
      have : tx = ⟨#[]⟩ := toList_inj (b3.trans (by rw [ByteArray.toList_eq]))
      rw [show k = 3 by omega, this, b1, b2, hi.1, hi.2.1, hi.2.2.1, hi.2.2.2.1, hi.2.2.2.2]
end Go.Proofs.YtankkadnhdfpfaaGreatDoor

/- The value that is picked of a set: plain. -/
set_option linter.unusedSimpArgs false
set_option linter.unusedVariables false
namespace Go.Proofs.YtankkadnhdfpfaaGreatDoor
open Go.RowKit Sp Wd Go.Lib Go.Sort

theorem shU_end1 (s : Nat) : ∀ n, (shU s n).2 = 0 ∨ (shU s n).1 % 10 ≠ 0 := by
  induction s with
  | zero => intro n; exact .inl rfl
  | succ s ih =>
    intro n
    by_cases h : n % 10 = 0
    · rw [shU_cut s n h]; exact ih _
    · rw [shU_stop s n h]; exact .inr h
theorem mk_all {n sc : Int} (h : decIn n sc = true) : decSnd (mkN n sc) (mkS n sc) = true ∧ atI (mkN n sc) (mkS n sc) sc = n ∧ atE (mkN n sc) (mkS n sc) sc = true := by
  obtain ⟨h1, h2, h3, h4⟩ := decIn_of h
  have hl := shU_le sc.toNat n.natAbs
  have he := shU_end1 sc.toNat n.natAbs
  have hv := shU_val sc.toNat n.natAbs
  have hsN : sgn (decide (n < 0)) (shU sc.toNat n.natAbs).1 = if n < 0 then -((shU sc.toNat n.natAbs).1 : Int) else ((shU sc.toNat n.natAbs).1 : Int) := by
    unfold sgn; by_cases hn : n < 0 <;> simp [hn]
  have hs0 : 0 ≤ mkS n sc := by unfold mkS; omega
  have hs1 : mkS n sc ≤ sc := by unfold mkS; omega
  obtain ⟨u1, u2⟩ := at_up (n := mkN n sc) hs0 hs1 h2
  refine ⟨?_, ?_, u2⟩
  · unfold decSnd mkN
    rw [hsN]
    refine decide_eq_true ⟨hs0, by omega, ?_, ?_, ?_⟩
    · split <;> omega
    · split <;> omega
    · rcases he with he | he
      · left; unfold mkS; omega
      · right; split <;> omega
  · rw [u1]
    have e : sc.toNat - (mkS n sc).toNat = sc.toNat - (shU sc.toNat n.natAbs).2 := by unfold mkS; omega
    rw [e]
    unfold mkN
    rw [hsN]
    have hvI : (((shU sc.toNat n.natAbs).1 : Nat) : Int) * (10 : Int) ^ (sc.toNat - (shU sc.toNat n.natAbs).2) = (n.natAbs : Int) := by
      have := congrArg (fun x : Nat => (x : Int)) hv
      simpa using this
    split
    · rw [Int.neg_mul, hvI]; omega
    · rw [hvI]; omega
theorem bs_data (s : Tx) : txt ⟨2, 0, 0, bs s, 0⟩ = s := by unfold txt bs; simp
theorem nil_list : (⟨#[]⟩ : ByteArray).toList = [] := by rw [ByteArray.toList_eq]
theorem joinsG_txt (t : Ty) : ∀ (l : List Tst) (g : Sg), (∀ x, g.Q x = true → textB x = true) → ∀ x, (joinsG t l g).Q x = true → textB x = true
  | [], _, h => h
  | y :: r, g, h => by
    refine joinsG_txt t r (g.join (testG t y)) (fun x hx => ?_)
    have hx' : (g.Q x || (testG t y).Q x) = true := hx
    rw [Bool.or_eq_true] at hx'
    rcases hx' with h1 | h1
    · exact h x h1
    · unfold testG at h1
      split at h1
      · cases h1
      · split at h1
        · have h2 : (t.k == 2 && (textB x && x == txt y.lo)) = true := h1
          rw [Bool.and_eq_true, Bool.and_eq_true] at h2
          exact h2.2.1
        · cases h1
theorem holdsG_txt (t : Ty) (c : Cel) (x : Tx) (h : (holdsG t c).Q x = true) : textB x = true := by
  unfold holdsG at h
  split at h
  · have h2 : (t.k == 2 && textB x) = true := h
    rw [Bool.and_eq_true] at h2; exact h2.2
  · split at h
    · have h2 : (((joinsG t c.ts (noneG t.k)).k == 2 && textB x) && _) = true := h
      rw [Bool.and_eq_true, Bool.and_eq_true] at h2; exact h2.1.2
    · exact joinsG_txt t c.ts (noneG t.k) (fun x hx => by cases hx) x h
theorem best_in {t : Ty} {h : Sg} {v : Vl} (ht : tySnd t = true) (hb : BestV t ((fullG t).meet h) v) : inTy t v = true ∧ hasV t.sc h v = true ∧ v.k = t.k := by
  obtain ⟨kd, scb, -, hu⟩ := ty_of ht
  have key : ∀ v : Vl, v.k = t.k → fitT t v = true → hasV t.sc ((fullG t).meet h) v = true → inTy t v = true ∧ hasV t.sc h v = true ∧ v.k = t.k := fun v hk hf hV => by
    rw [hasV_meet, Bool.and_eq_true] at hV
    refine ⟨?_, hV.2, hk⟩
    have h1 := hV.1
    rw [full_has kd hu hf] at h1
    unfold inTy
    rw [ht, hf, h1]; rfl
  rcases hb with ⟨hk, n, ⟨hP, -⟩, rfl⟩ | ⟨hk, n, ⟨hP, -⟩, rfl⟩ | ⟨hk, s, hQ, rfl⟩ | ⟨hk, hb⟩
  · have hP1 : (fullG t).P n = true := by
      have h2 : ((fullG t).P n && h.P n) = true := hP
      rw [Bool.and_eq_true] at h2; exact h2.1
    have hext := fullG_ext t n hP1
    have hbd := ext_bd hext
    obtain ⟨m1, m2, m3⟩ := mk_all (show decIn n t.sc = true from decide_eq_true ⟨scb.1, scb.2, hbd.1, hbd.2⟩)
    refine key _ hk.symm ?_ ?_
    · unfold fitT sndB
      simp only
      simp [m1, m2, m3, hk, nil_list]
      omega
    · unfold hasV
      rw [if_neg (by show (1 : Int) ≠ 0; decide), if_neg (by show (1 : Int) ≠ 2; decide), if_neg (by show (1 : Int) ≠ 3; decide)]
      unfold unitsV
      rw [if_pos rfl]
      show ((fullG t).meet h).P (atI (mkN n t.sc) (mkS n t.sc) t.sc) = true
      rw [m2]; exact hP
  · have hP1 : (fullG t).P n = true := by
      have h2 : ((fullG t).P n && h.P n) = true := hP
      rw [Bool.and_eq_true] at h2; exact h2.1
    have hext := fullG_ext t n hP1
    have hx : 0 ≤ n ∧ n ≤ 3652058 := by
      unfold extP lowK topK at hext
      rw [if_pos hk, if_pos hk] at hext
      simpa using hext
    refine key _ hk.symm ?_ ?_
    · unfold fitT sndB
      simp only
      simp [hk, nil_list]
      exact hx
    · unfold hasV
      rw [if_neg (by show (4 : Int) ≠ 0; decide), if_neg (by show (4 : Int) ≠ 2; decide), if_neg (by show (4 : Int) ≠ 3; decide)]
      unfold unitsV
      rw [if_neg (by show (4 : Int) ≠ 1; decide)]
      exact hP
  · have hQ1 : textB s = true := by
      have h2 : ((fullG t).Q s && h.Q s) = true := hQ
      rw [Bool.and_eq_true] at h2
      have h3 := h2.1
      have h4 : (holdsG t t.c).Q s = true := h3
      exact holdsG_txt t t.c s h4
    have hT : textB s = true := hQ1
    unfold textB at hQ1
    rw [Bool.and_eq_true, decide_eq_true_eq] at hQ1
    refine key _ hk.symm ?_ ?_
    · unfold fitT sndB
      simp only
      have : (bs s).size ≤ 256 := by rw [bs_size']; exact hQ1.1
      simp [this, hk, hQ1.2]
    · unfold hasV
      rw [if_neg (by show (2 : Int) ≠ 0; decide), if_pos rfl, bs_data]
      exact hQ
  · rcases hb with ⟨hf, rfl⟩ | ⟨hf, htt, rfl⟩
    · refine key _ hk.symm ?_ ?_
      · unfold fitT sndB
        simp only
        simp [hk, nil_list]
      · unfold hasV
        rw [if_neg (by show (3 : Int) ≠ 0; decide), if_neg (by show (3 : Int) ≠ 2; decide), if_pos rfl, hf]; rfl
    · refine key _ hk.symm ?_ ?_
      · unfold fitT sndB
        simp only
        simp [hk, nil_list]
      · unfold hasV
        rw [if_neg (by show (3 : Int) ≠ 0; decide), if_neg (by show (3 : Int) ≠ 2; decide), if_pos rfl, hf, htt]; rfl
theorem none_al {g : Sg} {s : St} (is : Is g s) (h : ∀ x, g.Q x = false) (hl : s.ws.length ≤ 10000000000000000) : s.al = false := by
  cases hal : s.al
  · rfl
  · exfalso
    have h1 : ∀ m, m < s.ws.length + 1 → decDigits m ∈ s.ws := fun m hm => by
      have h2 := is.ws (decDigits m)
      rw [h, hal] at h2
      unfold inW at h2
      rw [textB_dec m (by omega), Bool.true_and] at h2
      cases hc : s.ws.contains (decDigits m)
      · rw [hc] at h2; cases h2
      · exact List.contains_iff_mem.1 hc
    have := decs_le _ _ h1
    omega
end Go.Proofs.YtankkadnhdfpfaaGreatDoor

/- soffit/sets.Pick: walked. -/
set_option linter.unusedSimpArgs false
set_option linter.unusedVariables false
namespace Go.Proofs.YtankkadnhdfpfaaGreatDoor
open Go.RowKit Sp Wd

set_option maxRecDepth 100000 in
set_option maxHeartbeats 6400000 in
theorem pickU_any (t : Ty) (s : St) (N : Nat) (T A B : Option Addr) (ct ca cb : Nat) (w : World) (hTy : tySnd t = true) (hk : s.k = t.k) (hT : TyAt w t T) (hS : StAt w s A B) (os : StOk N s) (hN : N ≤ 400000000000) (hE : EnvP w) :
    Calls Tryz.prog 26 #[.agg #[.int .i64 t.k, .int .i64 t.sc, .bool t.c.any, .bool t.c.neg, .slice T t.c.ts.length ct], .agg #[.int .i64 s.k, .slice A s.sp.length ca, .bool s.al, .slice B s.ws.length cb, .int .i64 s.b, .bool s.nul]] w fun e w' => ∃ (v : Vl) (n : Int), e = .returned (.tuple #[.agg #[.int .i64 v.k, .int .i64 v.n, .int .i64 v.s, .string v.t, .int .i64 v.i], .int .i64 n]) ∧ PickU t ((fullG t).meet s.sg) v n ∧ Below w.heap.size w w' := by
  obtain ⟨hKd, hSc, hKS, -⟩ := ty_of hTy
  have hN9 : 9 * N ≤ 8000000000000 := by omega
  have hsk : s.sg.k = t.k := hk
  have e1 : (s.k != t.k) = false := by simp [hk]
  have HKK := Lib.hid hk
  have HT := Lib.hid hT
  have HS := Lib.hid hS
  have HE := Lib.hid hE
  clear hT hS hE hk
  go_enter Tryz.func26, Tryz.ntmps26
  go_wp2_with fail
  have K0 : BoxIs (((w.alloc (.cells #[.int .i64 t.k, .int .i64 t.sc, .bool t.c.any, .bool t.c.neg, .slice T t.c.ts.length ct] 26)).alloc (.cells #[.int .i64 s.k, .slice A s.sp.length ca, .bool s.al, .slice B s.ws.length cb, .int .i64 s.b, .bool s.nul] 36)).alloc (.cells #[.int .i64 0, .int .i64 0, .int .i64 0, .string ⟨#[]⟩, .int .i64 0] 30)) w.heap.size #[.int .i64 t.k, .int .i64 t.sc, .bool t.c.any, .bool t.c.neg, .slice T t.c.ts.length ct] := ((BoxIs.new rfl).alloc _).alloc _
  have K1 : BoxIs (((w.alloc (.cells #[.int .i64 t.k, .int .i64 t.sc, .bool t.c.any, .bool t.c.neg, .slice T t.c.ts.length ct] 26)).alloc (.cells #[.int .i64 s.k, .slice A s.sp.length ca, .bool s.al, .slice B s.ws.length cb, .int .i64 s.b, .bool s.nul] 36)).alloc (.cells #[.int .i64 0, .int .i64 0, .int .i64 0, .string ⟨#[]⟩, .int .i64 0] 30)) (w.heap.size + 1) #[.int .i64 s.k, .slice A s.sp.length ca, .bool s.al, .slice B s.ws.length cb, .int .i64 s.b, .bool s.nul] := (BoxIs.new (by simp)).alloc _
  have K2 : BoxIs (((w.alloc (.cells #[.int .i64 t.k, .int .i64 t.sc, .bool t.c.any, .bool t.c.neg, .slice T t.c.ts.length ct] 26)).alloc (.cells #[.int .i64 s.k, .slice A s.sp.length ca, .bool s.al, .slice B s.ws.length cb, .int .i64 s.b, .bool s.nul] 36)).alloc (.cells #[.int .i64 0, .int .i64 0, .int .i64 0, .string ⟨#[]⟩, .int .i64 0] 30)) (w.heap.size + 2) #[.int .i64 0, .int .i64 0, .int .i64 0, .string ⟨#[]⟩, .int .i64 0] := BoxIs.new (by simp)
  refine (setSound_any t T ct _ (HT.out.below bel) (HE.out.env.below bel)).mono ?_
  rintro e W0 ⟨rfl, hb1⟩
  rw [hTy]
  have K0 := K0.below hb1
  have K1 := K1.below hb1
  have K2 := K2.below hb1
  have hbw0 : Below w.heap.size w W0 := bel
  have HS0 : Hid (w.heap.size + 3 ≤ W0.heap.size) := Lib.hid (by have := K2.lt; omega)
  have k0 := K0.c
  have l0 := K0.lt
  have k1 := K1.c
  have l1 := K1.lt
  clear hb1
  go_wp2_with fail
  have hT0 := HT.out.below hbw0
  have hS0 := HS.out.below hbw0
  have hE0' := HE.out.env.below hbw0
  have HK : ∀ w', Below (w.heap.size + 1) W0 w' → Below (w.heap.size + 1) W0 w' ∧ (∀ o, w'.cell? ⟨w.heap.size, o, none⟩ = (#[.int .i64 t.k, .int .i64 t.sc, .bool t.c.any, .bool t.c.neg, .slice T t.c.ts.length ct] : Array Value)[o]?) := fun w' hb => ⟨hb, (K0.low hb (by omega)).c⟩
  have TAIL : ∀ (r1 : St) (X1 Y1 : Option Addr) (cx1 cy1 : Nat) (w1 : World), Below W0.heap.size W0 w1 → StAt w1 r1 X1 Y1 → Is (fullG t) r1 → StOk 9 r1 → (?G : St → Option Addr → Option Addr → Nat → Nat → World → Prop) r1 X1 Y1 cx1 cy1 w1 := ?tail
  refine wp_region_held_drew (S := (fun w' => Below (w.heap.size + 1) W0 w' ∧ (∀ o, w'.cell? ⟨w.heap.size, o, none⟩ = (#[.int .i64 t.k, .int .i64 t.sc, .bool t.c.any, .bool t.c.neg, .slice T t.c.ts.length ct] : Array Value)[o]?))) (by kernel_rfl) (HK _ (Below.drew (Below.refl _ _))) (fun hHeld => ?_)
  refine tkH 0 ?_
  try simp only [shH]
  refine rdH [1, 2] ?_
  refine AllReadyH.cons rfl (fun K hK => ?_) ?_
  · go_simp
    go_at_call 48
    refine (full_any t T ct _ hTy (hT0.below bel) (hE0'.below bel)).mono ?_
    rintro e w1 ⟨r1, X1, Y1, cx1, cy1, rfl, hR1, i1, ok1, hb1⟩
    have hB1 : Below W0.heap.size W0 w1 := (by first | exact hb1 | exact undrew hb1)
    have k1s := (K1.below hB1).c
    refine hK.out _ _ ?_ (fun hH2 => ?_)
    · exact HK _ (Below.mono hB1 (by have := HS0.out; omega))
    clear hK K hHeld
    have hHeld := hH2
    clear hH2
    try simp only [shH]
    refine rdH [2] ?_
    refine AllReadyH.cons rfl (fun K hK => ?_) AllReadyH.nil
    go_simp
    refine hK.out _ _ ?_ (fun hH2 => ?_)
    · exact HK _ (Below.mono hB1 (by have := HS0.out; omega))
    clear hK K hHeld
    have hHeld := hH2
    clear hH2
    try simp only [shH]
    exact TAIL r1 X1 Y1 cx1 cy1 w1 hB1 hR1 i1 ok1
  refine AllReadyH.cons rfl (fun K hK => ?_) AllReadyH.nil
  go_simp
  refine hK.out _ _ ?_ (fun hH2 => ?_)
  · exact HK _ (Below.drew (Below.refl _ _))
  clear hK K hHeld
  have hHeld := hH2
  clear hH2
  try simp only [shH]
  refine rdH [1] ?_
  refine AllReadyH.cons rfl (fun K hK => ?_) AllReadyH.nil
  go_simp
  go_at_call 48
  refine (full_any t T ct _ hTy (hT0.below bel) (hE0'.below bel)).mono ?_
  rintro e w1 ⟨r1, X1, Y1, cx1, cy1, rfl, hR1, i1, ok1, hb1⟩
  have hB1 : Below W0.heap.size W0 w1 := (by first | exact hb1 | exact undrew hb1)
  have k1s := (K1.below hB1).c
  refine hK.out _ _ ?_ (fun hH2 => ?_)
  · exact HK _ (Below.mono hB1 (by have := HS0.out; omega))
  clear hK K hHeld
  have hHeld := hH2
  clear hH2
  try simp only [shH]
  exact TAIL r1 X1 Y1 cx1 cy1 w1 hB1 hR1 i1 ok1
  case tail =>
    intro r1 X1 Y1 cx1 cy1 w1 hB1 hR1 i1 ok1
    have hHeld := HK w1 (Below.mono hB1 (by have := HS0.out; omega))
    refine rdH [3] ?_
    refine AllReadyH.cons rfl (fun K hK => ?_) AllReadyH.nil
    go_simp
    go_at_call 46
    refine (tidy_any s N A B ca cb _ (hS0.below hB1) os (by omega) (hE0'.below hB1)).mono ?_
    rintro e w2 ⟨r2, X2, Y2, cx2, cy2, rfl, hR2, i2, ok2, al2, hb2⟩
    clear al2
    have hB2 : Below W0.heap.size W0 w2 := hB1.trans (hb2.mono hB1.size)
    refine hK.out _ _ ?_ (fun hH2 => ?_)
    · exact HK _ (Below.mono hB2 (by have := HS0.out; omega))
    clear hK K hHeld
    have hHeld := hH2
    clear hH2
    try simp only [shH]
    refine rdH [4] ?_
    refine AllReadyH.cons rfl (fun K hK => ?_) AllReadyH.nil
    go_simp
    go_at_call 47
    refine (setMeet_any r1 r2 (fullG t) s.sg 9 N X1 Y1 X2 Y2 cx1 cy1 cx2 cy2 _ (hR1.below hb2) hR2 i1 i2 ((fullG_k t).trans hsk.symm) ok1 ok2 (by omega) (by omega) hN9 (hE0'.below hB2)).mono ?_
    rintro e w3 ⟨r, X, Y, cx, cy, rfl, hR, ir, okr, al3, hb3⟩
    clear al3
    have hB3 : Below W0.heap.size W0 w3 := hB2.trans (hb3.mono hB2.size)
    have K13 := K1.below hB3
    have c3 := K13.c
    have f3 := K13.f
    have l3 := K13.lt
    have hB4 := hB3.mono (show w.heap.size + 1 ≤ W0.heap.size by have := HS0.out; omega)
    refine hK.out _ _ ?_ (fun hH2 => ?_)
    · exact HK _ hB4
    clear hK K hHeld
    have hHeld := hH2
    clear hH2
    try simp only [shH]
    refine rdH [5] ?_
    refine AllReadyH.cons rfl (fun K hK => ?_) AllReadyH.nil
    go_simp
    refine hK.out _ _ ?_ (fun hH2 => ?_)
    · exact HK _ bel
    clear hK K hHeld
    have hHeld := hH2
    clear hH2
    try simp only [shH]
    refine dnH ?_ _
    clear hHeld
    (try simp only [Exit.then, Exit.inBlock])
    generalize hWz : (((((w3.setCell _ _).setCell _ _).setCell _ _).setCell _ _).setCell _ _).setCell _ _ = Wz
    have KS : BoxIs Wz (w.heap.size + 1) #[.int .i64 r.k, .slice X r.sp.length cx, .bool r.al, .slice Y r.ws.length cy, .int .i64 r.b, .bool r.nul] := by rw [← hWz]; exact (((((K13.set 0 _).set 1 _).set 2 _).set 3 _).set 4 _).set 5 _
    have hSz : StAt Wz r X Y := by rw [← hWz]; exact hR.free K13 (setLike _ _ _ _ _ _ _ _ _ _) six_other
    have hBz : Below (w.heap.size + 1) W0 Wz := by rw [← hWz]; exact bel
    have KT := K0.low hBz (by omega)
    have hs2 : Wz.heap[w.heap.size + 2]? = W0.heap[w.heap.size + 2]? := by rw [← hWz, six_other _ (by omega)]; exact hB3.block _ K2.lt
    have KR : BoxIs Wz (w.heap.size + 2) #[.int .i64 0, .int .i64 0, .int .i64 0, .string ⟨#[]⟩, .int .i64 0] := by obtain ⟨q, hq⟩ := K2; exact ⟨q, hs2.trans hq⟩
    have hbz : Below w.heap.size w Wz := hbw0.trans (hBz.mono (by omega))
    have hEz := HE.out.below hbz
    clear hWz hB1 hB2 hB3 hB4 hb2 hb3 HK K0 K1 K2 K13 c3 f3 l3 hT0 hS0 hE0' hR1 hR2 hR i1 i2 ok1 ok2 hBz hs2 k0 l0 k1 l1
    have hgk : ((fullG t).meet s.sg).k = t.k := fullG_k t
    have hext : ∀ n, ((fullG t).meet s.sg).P n = true → -999999999999 ≤ n ∧ n ≤ 999999999999 := fun n hn => ext_bd (fullG_ext t n (by have h : ((fullG t).P n && s.sg.P n) = true := hn; rw [Bool.and_eq_true] at h; exact h.1))
    obtain ⟨g, hg⟩ : ∃ g, (fullG t).meet s.sg = g := ⟨_, rfl⟩
    rw [hg] at ir hgk hext
    have HG := Lib.hid hg
    clear hg
    have kt := KT.c
    have ltz := KT.lt
    have hvr := KR.lt
    go_upto_region 7 with fail
    generalize hW1 : Wz.alloc _ = W1
    have hB1 : Below Wz.heap.size Wz W1 := (by rw [← hW1]; exact Below.alloc (Below.refl _ _) (Nat.le_refl _) _)
    have KV : BoxIs W1 Wz.heap.size #[.int .i64 t.k, .int .i64 0, .int .i64 0, .string ⟨#[]⟩, .int .i64 0] := (by rw [← hW1]; exact BoxIs.new (t := 30) rfl)
    have KT := KT.below hB1
    have KS := KS.below hB1
    have KR := KR.below hB1
    have hS1 := hSz.below hB1
    have hE1 := hEz.below hB1
    have hbw1 : Below w.heap.size w W1 := hbz.trans (hB1.mono hbz.size)
    obtain ⟨bv, hbv⟩ : ∃ bv, Wz.heap.size = bv := ⟨_, rfl⟩
    rw [hbv] at KV hvr
    rw [hbv]
    have hne : ¬ (bv = w.heap.size + 2) := by omega
    have hne1 : ¬ (bv = w.heap.size + 1) := by omega
    clear hW1 hB1 hbv hSz hbz hEz kt ltz
    have ct := KT.c
    have cs := KS.c
    have cr := KR.c
    have cv := KV.c
    have fr := KR.f
    have fv := KV.f
    have lt := KT.lt
    have ls := KS.lt
    have lr := KR.lt
    have lv := KV.lt
    have four : t.k = 1 ∨ t.k = 4 ∨ t.k = 2 ∨ t.k = 3 := by omega
    rcases four with h | h | h | h
    · have q1 : (t.k == 1) = true := by simp [h]
      have HH := Lib.hid h
      clear h
      go_wp2_with fail
      refine (Sp.near0_any r.sp 0 ⟨by omega, by omega⟩ X cx _ (hS1.sp.below bel) okr.wf (by have := okr.ls; omega)).mono ?_
      rintro e w3 ⟨m, rfl, hn1, hn2, hb3⟩
      have KT3 := KT.below hb3
      have KS3 := KS.below hb3
      have KR3 := KR.below hb3
      have KV3 := KV.below hb3
      have ct3 := KT3.c
      have cs3 := KS3.c
      have cr3 := KR3.c
      have cv3 := KV3.c
      have fr3 := KR3.f
      have fv3 := KV3.f
      have lt3 := KT3.lt
      have ls3 := KS3.lt
      have lr3 := KR3.lt
      have lv3 := KV3.lt
      have hbw3 : Below w.heap.size w w3 := hbw1.trans (hb3.mono hbw1.size)
      clear hb3 ct cs cr cv fr fv lt ls lr lv KT KS KR KV
      rcases m with _ | n
      · have hno := none_num ir (by rw [hgk, HH.out]; rfl) (hn2 rfl)
        have hd0 : decIn 0 t.sc = true := decide_eq_true ⟨hSc.1, hSc.2, by omega, by omega⟩
        go_wp2_with fail
        refine (make_any 0 t.sc _ (by omega) (by omega) (by omega) (by omega)).mono ?_
        rintro e w4 ⟨rfl, hb4⟩
        rw [makeRes_yes hd0]
        clear hd0 hn1 hn2 ct3 cs3 cr3 cv3 fr3 fv3 lt3 ls3 lr3 lv3
        have KT4 := KT3.below hb4
        have KS4 := KS3.below hb4
        have KR4 := KR3.below hb4
        have KV4 := KV3.below hb4
        have ct4 := KT4.c
        have cs4 := KS4.c
        have cr4 := KR4.c
        have cv4 := KV4.c
        have fr4 := KR4.f
        have fv4 := KV4.f
        have lt4 := KT4.lt
        have ls4 := KS4.lt
        have lr4 := KR4.lt
        have lv4 := KV4.lt
        have hbw4 : Below w.heap.size w w4 := hbw3.trans (hb4.mono hbw3.size)
        clear hb4 hbw3
        cases hnul : r.nul
        · rw [hnul] at cs4
          go_wp2_with fail
          refine bodyPost_ret (v := .tuple #[.agg #[.int .i64 0, .int .i64 0, .int .i64 0, .string ⟨#[]⟩, .int .i64 0], .int .i64 16]) (by simp [results, Tryz.results26, go_sem, *]) rfl ⟨Vl.zero, 16, rfl, by rw [HG.out]; exact PickU.ne ((pick_none hno).2 (by rw [← ir.nul]; exact hnul)) (by rw [HH.out]; decide), bel⟩
        · rw [hnul] at cs4
          go_wp2_with fail
          refine bodyPost_ret (v := .tuple #[.agg #[.int .i64 0, .int .i64 0, .int .i64 0, .string ⟨#[]⟩, .int .i64 0], .int .i64 0]) (by simp [results, Tryz.results26, go_sem, *]) rfl ⟨Vl.zero, 0, rfl, by rw [HG.out]; exact PickU.ne ((pick_none hno).1 (by rw [← ir.nul]; exact hnul)) (by rw [HH.out]; decide), bel⟩
      · have hbest := near_best ir (hn1 n rfl)
        have hbd := hext n hbest.1
        have hd0 : decIn n t.sc = true := decide_eq_true ⟨hSc.1, hSc.2, hbd.1, hbd.2⟩
        have HPK : Hid (PickU t g ⟨t.k, mkN n t.sc, mkS n t.sc, ⟨#[]⟩, 0⟩ 0) := Lib.hid (.ne (.inl ⟨rfl, .inl ⟨HH.out, n, hbest, by rw [HH.out]⟩⟩) (by rw [HH.out]; decide))
        clear hbest
        go_wp2_with fail
        refine (make_any n t.sc _ (by omega) (by omega) (by omega) (by omega)).mono ?_
        rintro e w4 ⟨rfl, hb4⟩
        rw [makeRes_yes hd0]
        clear hd0 hn1 hn2 ct3 cs3 cr3 cv3 fr3 fv3 lt3 ls3 lr3 lv3 hbd
        generalize mkN n t.sc = dn at *
        generalize mkS n t.sc = ds at *
        have KT4 := KT3.below hb4
        have KS4 := KS3.below hb4
        have KR4 := KR3.below hb4
        have KV4 := KV3.below hb4
        have ct4 := KT4.c
        have cs4 := KS4.c
        have cr4 := KR4.c
        have cv4 := KV4.c
        have fr4 := KR4.f
        have fv4 := KV4.f
        have lt4 := KT4.lt
        have ls4 := KS4.lt
        have lr4 := KR4.lt
        have lv4 := KV4.lt
        have hbw4 : Below w.heap.size w w4 := hbw3.trans (hb4.mono hbw3.size)
        clear hb4 hbw3
        go_wp2_with fail
        refine bodyPost_ret (v := .tuple #[.agg #[.int .i64 t.k, .int .i64 dn, .int .i64 ds, .string ⟨#[]⟩, .int .i64 0], .int .i64 0]) (by simp [results, Tryz.results26, go_sem, *]) rfl ⟨⟨t.k, dn, ds, ⟨#[]⟩, 0⟩, 0, rfl, by rw [HG.out]; exact HPK.out, bel⟩
    · have q1 : (t.k == 1) = false := by simp [h]
      have q4 : (t.k == 4) = true := by simp [h]
      have HH := Lib.hid h
      clear h
      go_wp2_with fail
      refine (Sp.near0_any r.sp 730119 ⟨by omega, by omega⟩ X cx _ (hS1.sp.below bel) okr.wf (by have := okr.ls; omega)).mono ?_
      rintro e w3 ⟨m, rfl, hn1, hn2, hb3⟩
      have KT3 := KT.below hb3
      have KS3 := KS.below hb3
      have KR3 := KR.below hb3
      have KV3 := KV.below hb3
      have ct3 := KT3.c
      have cs3 := KS3.c
      have cr3 := KR3.c
      have cv3 := KV3.c
      have fr3 := KR3.f
      have fv3 := KV3.f
      have lt3 := KT3.lt
      have ls3 := KS3.lt
      have lr3 := KR3.lt
      have lv3 := KV3.lt
      have hbw3 : Below w.heap.size w w3 := hbw1.trans (hb3.mono hbw1.size)
      clear hb3 ct cs cr cv fr fv lt ls lr lv KT KS KR KV
      rcases m with _ | n
      · have hno := none_num ir (by rw [hgk, HH.out]; rfl) (hn2 rfl)
        clear hn1 hn2
        cases hnul : r.nul
        · rw [hnul] at cs3
          go_wp2_with fail
          refine bodyPost_ret (v := .tuple #[.agg #[.int .i64 0, .int .i64 0, .int .i64 0, .string ⟨#[]⟩, .int .i64 0], .int .i64 16]) (by simp [results, Tryz.results26, go_sem, *]) rfl ⟨Vl.zero, 16, rfl, by rw [HG.out]; exact PickU.ne ((pick_none hno).2 (by rw [← ir.nul]; exact hnul)) (by rw [HH.out]; decide), bel⟩
        · rw [hnul] at cs3
          go_wp2_with fail
          refine bodyPost_ret (v := .tuple #[.agg #[.int .i64 0, .int .i64 0, .int .i64 0, .string ⟨#[]⟩, .int .i64 0], .int .i64 0]) (by simp [results, Tryz.results26, go_sem, *]) rfl ⟨Vl.zero, 0, rfl, by rw [HG.out]; exact PickU.ne ((pick_none hno).1 (by rw [← ir.nul]; exact hnul)) (by rw [HH.out]; decide), bel⟩
      · have HPK : Hid (PickU t g ⟨t.k, 0, 0, ⟨#[]⟩, n⟩ 0) := Lib.hid (.ne (.inl ⟨rfl, .inr (.inl ⟨HH.out, n, near_best ir (hn1 n rfl), by rw [HH.out]⟩)⟩) (by rw [HH.out]; decide))
        clear hn1 hn2
        go_wp2_with fail
        refine bodyPost_ret (v := .tuple #[.agg #[.int .i64 t.k, .int .i64 0, .int .i64 0, .string ⟨#[]⟩, .int .i64 n], .int .i64 0]) (by simp [results, Tryz.results26, go_sem, *]) rfl ⟨⟨t.k, 0, 0, ⟨#[]⟩, n⟩, 0, rfl, by rw [HG.out]; exact HPK.out, bel⟩
    · have q1 : (t.k == 1) = false := by simp [h]
      have q4 : (t.k == 4) = false := by simp [h]
      have q2 : (t.k == 2) = true := by simp [h]
      have HH := Lib.hid h
      clear h
      go_wp2_with fail
      refine (Wd.pick_any r.al Y r.ws cy _ (hE1.below bel) (hS1.ws.below bel) okr.tx (by have := okr.lw; omega)).mono ?_
      rintro e w3 ⟨u, n, rfl, hpk, hb3⟩
      have KT3 := KT.below hb3
      have KS3 := KS.below hb3
      have KR3 := KR.below hb3
      have KV3 := KV.below hb3
      have ct3 := KT3.c
      have cs3 := KS3.c
      have cr3 := KR3.c
      have cv3 := KV3.c
      have fr3 := KR3.f
      have fv3 := KV3.f
      have lt3 := KT3.lt
      have ls3 := KS3.lt
      have lr3 := KR3.lt
      have lv3 := KV3.lt
      have hbw3 : Below w.heap.size w w3 := hbw1.trans (hb3.mono hbw1.size)
      clear hb3 ct cs cr cv fr fv lt ls lr lv KT KS KR KV
      rcases txt_pick ir (by rw [hgk]; exact HH.out) hpk with ⟨rfl, hq⟩ | ⟨rfl, hno⟩
      · have HPK : Hid (PickU t g ⟨t.k, 0, 0, bs u, 0⟩ 0) := Lib.hid ⟨.inl ⟨rfl, .inr (.inr (.inl ⟨HH.out, u, hq, by rw [HH.out]⟩))⟩, fun _ => ⟨r, u, 0, ir, by have := okr.lw; omega, hpk, .inl ⟨rfl, rfl, by rw [HH.out]⟩⟩⟩
        have hes : encStr u = .string (bs u) := rfl
        rw [hes]
        generalize bs u = bu at *
        clear hpk hq hes
        go_wp2_with fail
        refine bodyPost_ret (v := .tuple #[.agg #[.int .i64 t.k, .int .i64 0, .int .i64 0, .string bu, .int .i64 0], .int .i64 0]) (by simp [results, Tryz.results26, go_sem, *]) rfl ⟨⟨t.k, 0, 0, bu, 0⟩, 0, rfl, by rw [HG.out]; exact HPK.out, bel⟩
      · have HPT : Hid (t.k = 2 → ∃ (r : St) (u : Tx) (m : Int), Is g r ∧ r.ws.length ≤ 1000000000000000 ∧ PickIs r.al (norm r.ws) u m ∧ m = 16) := Lib.hid (fun _ => ⟨r, u, 16, ir, by have := okr.lw; omega, hpk, rfl⟩)
        have hes : encStr u = .string (bs u) := rfl
        rw [hes]
        generalize bs u = bu at *
        clear hpk hes
        cases hnul : r.nul
        · rw [hnul] at cs3
          go_wp2_with fail
          refine bodyPost_ret (v := .tuple #[.agg #[.int .i64 0, .int .i64 0, .int .i64 0, .string ⟨#[]⟩, .int .i64 0], .int .i64 16]) (by simp [results, Tryz.results26, go_sem, *]) rfl ⟨Vl.zero, 16, rfl, by rw [HG.out]; exact ⟨(pick_none hno).2 (by rw [← ir.nul]; exact hnul), fun h2 => by obtain ⟨r0, u0, m0, a0, b0, c0, d0⟩ := HPT.out h2; exact ⟨r0, u0, m0, a0, b0, c0, .inr ⟨d0, rfl, by rw [if_neg (by rw [← ir.nul, hnul]; decide)]⟩⟩⟩, bel⟩
        · rw [hnul] at cs3
          go_wp2_with fail
          refine bodyPost_ret (v := .tuple #[.agg #[.int .i64 0, .int .i64 0, .int .i64 0, .string ⟨#[]⟩, .int .i64 0], .int .i64 0]) (by simp [results, Tryz.results26, go_sem, *]) rfl ⟨Vl.zero, 0, rfl, by rw [HG.out]; exact ⟨(pick_none hno).1 (by rw [← ir.nul]; exact hnul), fun h2 => by obtain ⟨r0, u0, m0, a0, b0, c0, d0⟩ := HPT.out h2; exact ⟨r0, u0, m0, a0, b0, c0, .inr ⟨d0, rfl, by rw [if_pos (by rw [← ir.nul, hnul])]⟩⟩⟩, bel⟩
    · have q1 : (t.k == 1) = false := by simp [h]
      have q4 : (t.k == 4) = false := by simp [h]
      have q2 : (t.k == 2) = false := by simp [h]
      have hrb := ir.b
      have HH := Lib.hid h
      clear h
      cases hgf : g.f <;> cases hgt : g.t
      · rw [hgf, hgt] at hrb
        have hrb : r.b = 0 := hrb
        rw [hrb] at cs
        have hno : noneV g := ⟨ir.cut.1 (by rw [hgk, HH.out]; rfl), ir.cut.2.1 (by rw [hgk, HH.out]; omega), hgf, hgt⟩
        clear hrb hgf hgt
        cases hnul : r.nul
        · rw [hnul] at cs
          go_wp2_with fail
          refine bodyPost_ret (v := .tuple #[.agg #[.int .i64 0, .int .i64 0, .int .i64 0, .string ⟨#[]⟩, .int .i64 0], .int .i64 16]) (by simp [results, Tryz.results26, go_sem, *]) rfl ⟨Vl.zero, 16, rfl, by rw [HG.out]; exact PickU.ne ((pick_none hno).2 (by rw [← ir.nul]; exact hnul)) (by rw [HH.out]; decide), bel⟩
        · rw [hnul] at cs
          go_wp2_with fail
          refine bodyPost_ret (v := .tuple #[.agg #[.int .i64 0, .int .i64 0, .int .i64 0, .string ⟨#[]⟩, .int .i64 0], .int .i64 0]) (by simp [results, Tryz.results26, go_sem, *]) rfl ⟨Vl.zero, 0, rfl, by rw [HG.out]; exact PickU.ne ((pick_none hno).1 (by rw [← ir.nul]; exact hnul)) (by rw [HH.out]; decide), bel⟩
      · rw [hgf, hgt] at hrb
        have hrb : r.b = 2 := hrb
        rw [hrb] at cs
        have HPK : Hid (PickU t g ⟨t.k, 0, 0, ⟨#[]⟩, 1⟩ 0) := Lib.hid (.ne (.inl ⟨rfl, .inr (.inr (.inr ⟨HH.out, .inr ⟨hgf, hgt, by rw [HH.out]⟩⟩))⟩) (by rw [HH.out]; decide))
        clear hrb hgf hgt
        go_wp2_with fail
        refine bodyPost_ret (v := .tuple #[.agg #[.int .i64 t.k, .int .i64 0, .int .i64 0, .string ⟨#[]⟩, .int .i64 1], .int .i64 0]) (by simp [results, Tryz.results26, go_sem, *]) rfl ⟨⟨t.k, 0, 0, ⟨#[]⟩, 1⟩, 0, rfl, by rw [HG.out]; exact HPK.out, bel⟩
      all_goals
        have HPK : Hid (PickU t g ⟨t.k, 0, 0, ⟨#[]⟩, 0⟩ 0) := Lib.hid (.ne (.inl ⟨rfl, .inr (.inr (.inr ⟨HH.out, .inl ⟨hgf, by rw [HH.out]⟩⟩))⟩) (by rw [HH.out]; decide))
        rw [hgf, hgt] at hrb
        have hrb' : r.b = 1 ∨ r.b = 3 := by first | exact .inl hrb | exact .inr hrb
        clear hrb hgf hgt
        rcases hrb' with hrb | hrb
        all_goals
          rw [hrb] at cs
          clear hrb
          go_wp2_with fail
          refine bodyPost_ret (v := .tuple #[.agg #[.int .i64 t.k, .int .i64 0, .int .i64 0, .string ⟨#[]⟩, .int .i64 0], .int .i64 0]) (by simp [results, Tryz.results26, go_sem, *]) rfl ⟨⟨t.k, 0, 0, ⟨#[]⟩, 0⟩, 0, rfl, by rw [HG.out]; exact HPK.out, bel⟩
theorem pick_any' (t : Ty) (s : St) (N : Nat) (T A B : Option Addr) (ct ca cb : Nat) (w : World) (hTy : tySnd t = true) (hk : s.k = t.k) (hT : TyAt w t T) (hS : StAt w s A B) (os : StOk N s) (hN : N ≤ 400000000000) (hE : EnvP w) :
    Calls Tryz.prog 26 #[.agg #[.int .i64 t.k, .int .i64 t.sc, .bool t.c.any, .bool t.c.neg, .slice T t.c.ts.length ct], .agg #[.int .i64 s.k, .slice A s.sp.length ca, .bool s.al, .slice B s.ws.length cb, .int .i64 s.b, .bool s.nul]] w fun e w' => ∃ (v : Vl) (n : Int), e = .returned (.tuple #[.agg #[.int .i64 v.k, .int .i64 v.n, .int .i64 v.s, .string v.t, .int .i64 v.i], .int .i64 n]) ∧ PickOf t ((fullG t).meet s.sg) v n ∧ Below w.heap.size w w' :=
  (pickU_any t s N T A B ct ca cb w hTy hk hT hS os hN hE).mono (fun _ _ ⟨v, n, h, p, hb⟩ => ⟨v, n, h, p.1, hb⟩)
end Go.Proofs.YtankkadnhdfpfaaGreatDoor

/- soffit/sets.Pick at an unsound type, at a set of another kind: walked; what is empty. -/
set_option linter.unusedSimpArgs false
set_option linter.unusedVariables false
namespace Go.Proofs.YtankkadnhdfpfaaGreatDoor
open Go.RowKit Go.Lib Sp Wd

set_option maxRecDepth 100000 in
set_option maxHeartbeats 12800000 in
theorem pick_no (t : Ty) (s : St) (T A B : Option Addr) (ct ca cb : Nat) (w : World) (hTy : tySnd t = false) (hT : TyAt w t T) (hE : Env w) :
    Calls Tryz.prog 26 #[.agg #[.int .i64 t.k, .int .i64 t.sc, .bool t.c.any, .bool t.c.neg, .slice T t.c.ts.length ct], .agg #[.int .i64 s.k, .slice A s.sp.length ca, .bool s.al, .slice B s.ws.length cb, .int .i64 s.b, .bool s.nul]] w fun e w' => e = .returned (.tuple #[.agg #[.int .i64 0, .int .i64 0, .int .i64 0, .string ⟨#[]⟩, .int .i64 0], .int .i64 2]) ∧ Below w.heap.size w w' := by
  have HT := Lib.hid hT
  have HE := Lib.hid hE
  clear hT hE
  go_enter Tryz.func26, Tryz.ntmps26
  go_wp2_with fail
  have K2 : BoxIs (((w.alloc (.cells #[.int .i64 t.k, .int .i64 t.sc, .bool t.c.any, .bool t.c.neg, .slice T t.c.ts.length ct] 26)).alloc (.cells #[.int .i64 s.k, .slice A s.sp.length ca, .bool s.al, .slice B s.ws.length cb, .int .i64 s.b, .bool s.nul] 36)).alloc (.cells #[.int .i64 0, .int .i64 0, .int .i64 0, .string ⟨#[]⟩, .int .i64 0] 30)) (w.heap.size + 2) #[.int .i64 0, .int .i64 0, .int .i64 0, .string ⟨#[]⟩, .int .i64 0] := BoxIs.new (by simp)
  refine (setSound_any t T ct _ (HT.out.below bel) (HE.out.below bel)).mono ?_
  rintro e w1 ⟨rfl, hb1⟩
  rw [hTy]
  have K2 := K2.below hb1
  have z1 := K2.c
  have f1 := K2.f
  have l1 := K2.lt
  go_wp2_with fail
  refine bodyPost_ret (v := .tuple #[.agg #[.int .i64 0, .int .i64 0, .int .i64 0, .string ⟨#[]⟩, .int .i64 0], .int .i64 2]) (by simp [results, Tryz.results26, go_sem, *]) rfl ⟨rfl, bel⟩
set_option maxRecDepth 100000 in
set_option maxHeartbeats 12800000 in
theorem pick_arg (t : Ty) (s : St) (T A B : Option Addr) (ct ca cb : Nat) (w : World) (hTy : tySnd t = true) (hk : s.k ≠ t.k) (hT : TyAt w t T) (hE : Env w) :
    Calls Tryz.prog 26 #[.agg #[.int .i64 t.k, .int .i64 t.sc, .bool t.c.any, .bool t.c.neg, .slice T t.c.ts.length ct], .agg #[.int .i64 s.k, .slice A s.sp.length ca, .bool s.al, .slice B s.ws.length cb, .int .i64 s.b, .bool s.nul]] w fun e w' => e = .returned (.tuple #[.agg #[.int .i64 0, .int .i64 0, .int .i64 0, .string ⟨#[]⟩, .int .i64 0], .int .i64 1]) ∧ Below w.heap.size w w' := by
  have HT := Lib.hid hT
  have HE := Lib.hid hE
  have e1 : (s.k != t.k) = true := by simpa using hk
  clear hT hE hk
  go_enter Tryz.func26, Tryz.ntmps26
  go_wp2_with fail
  have K0 : BoxIs (((w.alloc (.cells #[.int .i64 t.k, .int .i64 t.sc, .bool t.c.any, .bool t.c.neg, .slice T t.c.ts.length ct] 26)).alloc (.cells #[.int .i64 s.k, .slice A s.sp.length ca, .bool s.al, .slice B s.ws.length cb, .int .i64 s.b, .bool s.nul] 36)).alloc (.cells #[.int .i64 0, .int .i64 0, .int .i64 0, .string ⟨#[]⟩, .int .i64 0] 30)) w.heap.size #[.int .i64 t.k, .int .i64 t.sc, .bool t.c.any, .bool t.c.neg, .slice T t.c.ts.length ct] := ((BoxIs.new rfl).alloc _).alloc _
  have K1 : BoxIs (((w.alloc (.cells #[.int .i64 t.k, .int .i64 t.sc, .bool t.c.any, .bool t.c.neg, .slice T t.c.ts.length ct] 26)).alloc (.cells #[.int .i64 s.k, .slice A s.sp.length ca, .bool s.al, .slice B s.ws.length cb, .int .i64 s.b, .bool s.nul] 36)).alloc (.cells #[.int .i64 0, .int .i64 0, .int .i64 0, .string ⟨#[]⟩, .int .i64 0] 30)) (w.heap.size + 1) #[.int .i64 s.k, .slice A s.sp.length ca, .bool s.al, .slice B s.ws.length cb, .int .i64 s.b, .bool s.nul] := (BoxIs.new (by simp)).alloc _
  have K2 : BoxIs (((w.alloc (.cells #[.int .i64 t.k, .int .i64 t.sc, .bool t.c.any, .bool t.c.neg, .slice T t.c.ts.length ct] 26)).alloc (.cells #[.int .i64 s.k, .slice A s.sp.length ca, .bool s.al, .slice B s.ws.length cb, .int .i64 s.b, .bool s.nul] 36)).alloc (.cells #[.int .i64 0, .int .i64 0, .int .i64 0, .string ⟨#[]⟩, .int .i64 0] 30)) (w.heap.size + 2) #[.int .i64 0, .int .i64 0, .int .i64 0, .string ⟨#[]⟩, .int .i64 0] := BoxIs.new (by simp)
  refine (setSound_any t T ct _ (HT.out.below bel) (HE.out.below bel)).mono ?_
  rintro e w1 ⟨rfl, hb1⟩
  rw [hTy]
  have K0 := (K0.below hb1)
  have K1 := (K1.below hb1)
  have K2 := K2.below hb1
  have z0 := K0.c
  have z1 := K1.c
  have z2 := K2.c
  have f2 := K2.f
  have l0 := K0.lt
  have l1 := K1.lt
  have l2 := K2.lt
  have hbw : Below w.heap.size w w1 := bel
  clear hb1
  go_wp2_with fail
  refine bodyPost_ret (v := .tuple #[.agg #[.int .i64 0, .int .i64 0, .int .i64 0, .string ⟨#[]⟩, .int .i64 0], .int .i64 1]) (by simp [results, Tryz.results26, go_sem, *]) rfl ⟨rfl, bel⟩
theorem none_empty {g : Sg} {m r4 : St} {N : Nat} (hk : 1 ≤ g.k ∧ g.k ≤ 4) (im : Is g m) (om : StOk N m) (hN : N ≤ 10000000000000000) (hno : noneV g) (hn : g.nul = false) (i4 : Is m.sg r4) (al4 : r4.al = (m.k == 2 && m.al)) : emptyG r4 = true := by
  rw [im.sg_eq hk] at i4
  refine empty_none i4 hn hno.1 hno.2.1 hno.2.2.1 hno.2.2.2 (fun _ => ?_)
  rw [al4, none_al im hno.2.1 (Nat.le_trans om.lw hN)]; simp
theorem some_empty {g : Sg} {m r4 : St} (hk : 1 ≤ g.k ∧ g.k ≤ 4) (im : Is g m) (h : g.nul = true ∨ ¬ noneV g) (i4 : Is m.sg r4) : emptyG r4 = false := by
  cases he : emptyG r4
  · rfl
  · rw [im.sg_eq hk] at i4
    obtain ⟨h1, h2⟩ := empty_no2 i4 hk he
    rcases h with h | h
    · rw [h] at h1; cases h1
    · exact absurd h2 h
theorem best_wf {t : Ty} {h : Sg} {v : Vl} (ht : tySnd t = true) (hb : BestV t ((fullG t).meet h) v) : v.wf := by
  have hi := (best_in ht hb).1
  obtain ⟨a1, a2, a3, a4, -⟩ := in_fit hi
  have h0 : I64 0 := ⟨by decide, by decide⟩
  have five : v.k = 0 ∨ v.k = 1 ∨ v.k = 2 ∨ v.k = 3 ∨ v.k = 4 := by have := (ty_of a1).1; omega
  have hk : I64 v.k := ⟨by omega, by omega⟩
  have hnil : v.t.toList = [] → v.t.size ≤ 9223372036854775807 := fun e => by
    rw [ByteArray.toList_eq] at e
    have : v.t.size = v.t.data.toList.length := Array.length_toList.symm
    rw [this, e]; decide
  rcases five with h | h | h | h | h
  · rw [sndZero a4 h]; exact ⟨h0, h0, h0, h0, Nat.zero_le _⟩
  · obtain ⟨b1, b2, b3⟩ := sndOne a4 h
    obtain ⟨d1, d2, d3, d4, -⟩ := decSnd_of b3
    exact ⟨hk, ⟨by omega, by omega⟩, ⟨by omega, by omega⟩, ⟨by omega, by omega⟩, hnil b1⟩
  · obtain ⟨b1, b2, b3, b4, -⟩ := sndTwo a4 h
    exact ⟨hk, ⟨by omega, by omega⟩, ⟨by omega, by omega⟩, ⟨by omega, by omega⟩, by omega⟩
  · obtain ⟨b1, b2, b3, b4⟩ := sndThree a4 h
    exact ⟨hk, ⟨by omega, by omega⟩, ⟨by omega, by omega⟩, ⟨by omega, by omega⟩, hnil b3⟩
  · obtain ⟨b1, b2, b3⟩ := sndFour a4 h
    obtain ⟨c1, c2⟩ := sndFourI a4 h
    exact ⟨hk, ⟨by omega, by omega⟩, ⟨by omega, by omega⟩, ⟨by omega, by omega⟩, hnil b3⟩
def PickR (t : Ty) (s : St) (v : Vl) (n : Int) : Prop := (s.k = t.k ∧ PickU t ((fullG t).meet s.sg) v n) ∨ (s.k ≠ t.k ∧ v = Vl.zero ∧ n = 1)
theorem PickR.fun_ {t : Ty} {s : St} {v v' : Vl} {n n' : Int} (h : PickR t s v n) (h' : PickR t s v' n') : v = v' ∧ n = n' := by
  rcases h with ⟨k, h⟩ | ⟨k, h1, h2⟩ <;> rcases h' with ⟨k', h'⟩ | ⟨k', h1', h2'⟩
  · exact h.fun_ h'
  · exact absurd k k'
  · exact absurd k' k
  · exact ⟨h1.trans h1'.symm, h2.trans h2'.symm⟩
theorem PickR.wf {t : Ty} {s : St} {v : Vl} {n : Int} (ht : tySnd t = true) (h : PickR t s v n) : v.wf := by
  rcases h with ⟨-, ⟨h, -⟩⟩ | ⟨-, rfl, -⟩
  · rcases h with ⟨-, hb⟩ | ⟨-, rfl, -⟩ | ⟨-, rfl, -⟩
    · exact best_wf ht hb
    · exact zero_wf
    · exact zero_wf
  · exact zero_wf
theorem PickR.has {t : Ty} {s : St} {v : Vl} (ht : tySnd t = true) (h : PickR t s v 0) : hasSt t s v = true := by
  rcases h with ⟨k, ⟨h, -⟩⟩ | ⟨-, -, h⟩
  · rcases h with ⟨-, hb⟩ | ⟨-, rfl, hn, -⟩ | ⟨h, -⟩
    · obtain ⟨h1, h2, -⟩ := best_in ht hb
      rw [has_in h1 k]; exact h2
    · have hs0 : sndB Vl.zero = true := by unfold sndB Vl.zero; rw [if_pos rfl]; simp [ByteArray.toList_eq]
      have h1 : inTy t Vl.zero = true := in_null ht hs0 rfl
      rw [has_0 h1 k rfl]
      have h2 : ((fullG t).nul && s.sg.nul) = true := hn
      rw [Bool.and_eq_true] at h2
      have h3 : (decide (1 ≤ s.k ∧ s.k ≤ 4) && s.nul) = true := h2.2
      rw [Bool.and_eq_true] at h3
      exact h3.2
    · cases h
  · cases h
theorem pickR_any (t : Ty) (s : St) (N : Nat) (T A B : Option Addr) (ct ca cb : Nat) (w : World) (hTy : tySnd t = true) (hT : TyAt w t T) (hS : StAt w s A B) (os : StOk N s) (hN : N ≤ 400000000000) (hE : EnvP w) :
    Calls Tryz.prog 26 #[.agg #[.int .i64 t.k, .int .i64 t.sc, .bool t.c.any, .bool t.c.neg, .slice T t.c.ts.length ct], .agg #[.int .i64 s.k, .slice A s.sp.length ca, .bool s.al, .slice B s.ws.length cb, .int .i64 s.b, .bool s.nul]] w fun e w' => ∃ (v : Vl) (n : Int), e = .returned (.tuple #[.agg #[.int .i64 v.k, .int .i64 v.n, .int .i64 v.s, .string v.t, .int .i64 v.i], .int .i64 n]) ∧ PickR t s v n ∧ Below w.heap.size w w' := by
  by_cases hk : s.k = t.k
  · exact (pickU_any t s N T A B ct ca cb w hTy hk hT hS os hN hE).mono (fun _ _ ⟨v, n, h, p, hb⟩ => ⟨v, n, h, .inl ⟨hk, p⟩, hb⟩)
  · exact (pick_arg t s T A B ct ca cb w hTy hk hT hE.env).mono (fun _ _ ⟨h, hb⟩ => ⟨Vl.zero, 1, h, .inr ⟨hk, rfl, rfl⟩, hb⟩)
end Go.Proofs.YtankkadnhdfpfaaGreatDoor
