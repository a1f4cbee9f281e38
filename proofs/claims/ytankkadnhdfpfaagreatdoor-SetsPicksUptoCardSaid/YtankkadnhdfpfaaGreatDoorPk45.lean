import Derived.Test.YtankkadnhdfpfaaGreatDoorPk32
import Derived.Test.YtankkadnhdfpfaaGreatDoorPk42
import Derived.Test.YtankkadnhdfpfaaGreatDoorPk31
/- One value of a type, picked of the set of it: plain. -/
set_option linter.unusedSimpArgs false
set_option linter.unusedVariables false
namespace Go.Proofs.YtankkadnhdfpfaaGreatDoor
open Go.RowKit Sp Wd

theorem shU_mul (k a : Nat) : ∀ j, shU (k + j) (a * 10 ^ j) = shU k a
  | 0 => by simp
  | j + 1 => by
    have e : a * 10 ^ (j + 1) = a * 10 ^ j * 10 := by rw [Nat.pow_succ, Nat.mul_assoc]
    rw [show k + (j + 1) = (k + j) + 1 by omega, e, shU_cut _ _ (Nat.mul_mod_left _ _), Nat.mul_div_cancel _ (by omega)]
    exact shU_mul k a j
theorem mk_at {n s sc : Int} (hd : decSnd n s = true) (he : atE n s sc = true) (h0 : 0 ≤ sc) (h2 : sc ≤ 6) : mkN (atI n s sc) sc = n ∧ mkS (atI n s sc) sc = s := by
  obtain ⟨a1, a2, _, _, a5⟩ := decSnd_of hd
  rw [at_fit hd h0 h2, decide_eq_true_eq] at he
  rw [(at_up a1 he h2).1]
  generalize hj : sc.toNat - s.toNat = j
  have hs : sc.toNat = s.toNat + j := by omega
  have hp : (0 : Int) < 10 ^ j := Int.pow_pos (by decide)
  have hna : (n * 10 ^ j).natAbs = n.natAbs * 10 ^ j := by rw [Int.natAbs_mul, Int.natAbs_pow]; rfl
  have hneg : decide (n * 10 ^ j < 0) = decide (n < 0) := by
    rw [decide_eq_decide]
    constructor
    · intro h
      rcases Int.lt_or_le n 0 with h' | h'
      · exact h'
      · have := Int.mul_nonneg h' (Int.le_of_lt hp); omega
    · intro h; exact Int.mul_neg_of_neg_of_pos h hp
  have hf := (shU_fix s.toNat n.natAbs).2 (by omega)
  unfold mkN mkS
  rw [hneg, hna, hs, shU_mul, hf]
  refine ⟨?_, by show ((s.toNat : Nat) : Int) = s; omega⟩
  unfold sgn
  by_cases hn : n < 0 <;> simp [hn] <;> omega
theorem none_has {g : Sg} (h : noneV g) (sc : Int) {v : Vl} (hk : v.k ≠ 0) : hasV sc g v = false := by
  unfold hasV
  rw [if_neg hk]
  split
  · exact h.2.1 _
  · split
    · rw [h.2.2.1, h.2.2.2]; simp
    · exact h.1 _
theorem one_has {t : Ty} {v w : Vl} (hin : inTy t v = true) (hw : inTy t w = true) : hasV t.sc (testG t (isT v)) w = eqB w v := by
  obtain ⟨a1, a2, a3, a4, a5⟩ := in_fit hin
  obtain ⟨h1, h2⟩ := isT_one v w a4
  rw [test_has (ty_of a1).1 h1 (in_fit hw).2.1, h2]
/-- of one value's set just that value is picked -/
theorem pick_one {t : Ty} {v x : Vl} {r : St} {n : Int} (hin : inTy t v = true) (ir : Is (testG t (isT v)) r) (hp : PickOf t ((fullG t).meet r.sg) x n) : n = 0 ∧ x = v := by
  obtain ⟨a1, a2, a3, a4, a5⟩ := in_fit hin
  obtain ⟨kd, scb, -, -⟩ := ty_of a1
  rw [ir.sg_eq (by rw [testG_k]; exact kd)] at hp
  have hV : hasV t.sc ((fullG t).meet (testG t (isT v))) v = true := by
    rw [hasV_meet, in_full hin, one_has hin hin, (eqB_iff _ _).2 rfl]; rfl
  by_cases h0 : v.k = 0
  · have hz := sndZero a4 h0
    have hg : testG t (isT v) = ⟨t.k, fun _ => false, fun _ => false, false, false, true⟩ := by unfold testG; exact if_pos h0
    rw [hg] at hp
    rcases hp with ⟨rfl, hb⟩ | ⟨rfl, rfl, -, -⟩ | ⟨-, -, hn, -⟩
    · exfalso
      rcases hb with ⟨-, m, ⟨hm, -⟩, -⟩ | ⟨-, m, ⟨hm, -⟩, -⟩ | ⟨-, s, hm, -⟩ | ⟨-, ⟨hm, -⟩ | ⟨-, hm, -⟩⟩
      · have : ((fullG t).P m && false) = true := hm
        simp at this
      · have : ((fullG t).P m && false) = true := hm
        simp at this
      · have : ((fullG t).Q s && false) = true := hm
        simp at this
      · have : ((fullG t).f && false) = true := hm
        simp at this
      · have : ((fullG t).t && false) = true := hm
        simp at this
    · exact ⟨rfl, hz.symm⟩
    · have : (true && true) = false := hn
      cases this
  · have hvk : v.k = t.k := by omega
    have hg : testG t (isT v) = ⟨t.k, fun n => numK t.k && (extP t.k n && hasS (betwLo t (isT v), betwHi t (isT v)) n), fun y => t.k == 2 && (textB y && y == txt v), t.k == 3 && v.i == 0, t.k == 3 && v.i == 1, false⟩ := by
      unfold testG; rw [if_neg (show (isT v).lo.k ≠ 0 from h0), if_pos (show (isT v).lo.k = t.k from hvk)]; rfl
    have hlo : betwLo t (isT v) = leastV t.sc v := by unfold betwLo; exact if_pos rfl
    have hhi : betwHi t (isT v) = mostV t.sc v := by unfold betwHi; exact if_pos rfl
    rcases hp with ⟨rfl, hb⟩ | ⟨-, -, -, hno⟩ | ⟨-, -, -, hno⟩
    rotate_left
    · rw [none_has hno t.sc h0] at hV; cases hV
    · rw [none_has hno t.sc h0] at hV; cases hV
    refine ⟨rfl, ?_⟩
    rw [hg] at hb
    have hP : ∀ m, ((fullG t).P m && (numK t.k && (extP t.k m && hasS (betwLo t (isT v), betwHi t (isT v)) m))) = true → leastV t.sc v ≤ m ∧ m ≤ mostV t.sc v := fun m hm => by
      simp only [Bool.and_eq_true] at hm
      have h := hasS_iff.1 hm.2.2.2
      rw [hlo, hhi] at h
      exact h
    rcases hb with ⟨hk, m, ⟨hm, -⟩, rfl⟩ | ⟨hk, m, ⟨hm, -⟩, rfl⟩ | ⟨hk, s, hm, rfl⟩ | ⟨hk, hb⟩
    · obtain ⟨b1, b2, b3⟩ := sndOne a4 (show v.k = 1 by omega)
      have h := hP m hm
      have hE : atE v.n v.s t.sc = true := by
        unfold fitT at a2
        simp only [Bool.and_eq_true, Bool.or_eq_true, beq_iff_eq, bne_iff_ne, ne_eq, decide_eq_true_eq] at a2
        rcases a2.2 with h' | ⟨-, h' | h'⟩
        · omega
        · omega
        · exact h'.1
      have hx : exactV t.sc v = true := by unfold exactV; rw [if_neg (by omega)]; exact hE
      unfold leastV mostV at h
      rw [if_pos hx] at h
      have hmm : m = atI v.n v.s t.sc := by
        have : floorV t.sc v = atI v.n v.s t.sc := by unfold floorV; rw [if_neg (by omega)]
        omega
      obtain ⟨m1, m2⟩ := mk_at b3 hE scb.1 scb.2
      rw [hmm, m1, m2]
      obtain ⟨k, n, s, tx, i⟩ := v
      simp only at *
      have : tx = ⟨#[]⟩ := toList_inj (b1.trans (by rw [ByteArray.toList_eq]))
      rw [show k = 1 by omega, this, b2]
    · have h := hP m hm
      have b := sndFour a4 (show v.k = 4 by omega)
      have hx : exactV t.sc v = true := by unfold exactV; rw [if_pos (by omega)]
      unfold leastV mostV at h
      rw [if_pos hx] at h
      have hmm : m = v.i := by
        have : floorV t.sc v = v.i := by unfold floorV; rw [if_pos (by omega)]
        omega
      rw [hmm]
      obtain ⟨k, n, s, tx, i⟩ := v
      simp only at *
      have : tx = ⟨#[]⟩ := toList_inj (b.2.2.trans (by rw [ByteArray.toList_eq]))
      rw [show k = 4 by omega, this, b.1, b.2.1]
    · have hm2 : ((fullG t).Q s && (t.k == 2 && (textB s && s == txt v))) = true := hm
      simp only [Bool.and_eq_true, beq_iff_eq] at hm2
      obtain ⟨b1, b2, b3, _, _⟩ := sndTwo a4 (show v.k = 2 by omega)
      rw [hm2.2.2.2, bs_txt]
      obtain ⟨k, n, s, tx, i⟩ := v
      simp only at *
      rw [show k = 2 by omega, b1, b2, b3]
    · obtain ⟨b1, b2, b3, b4⟩ := sndThree a4 (show v.k = 3 by omega)
      have hi : x.k = 3 ∧ x.n = 0 ∧ x.s = 0 ∧ x.t = ⟨#[]⟩ ∧ x.i = v.i := by
        rcases hb with ⟨hf, rfl⟩ | ⟨hf, ht, rfl⟩
        · have hf2 : ((fullG t).f && (t.k == 3 && v.i == 0)) = true := hf
          simp only [Bool.and_eq_true, beq_iff_eq] at hf2
          exact ⟨rfl, rfl, rfl, rfl, hf2.2.2.symm⟩
        · have hf2 : ((fullG t).t && (t.k == 3 && v.i == 1)) = true := ht
          simp only [Bool.and_eq_true, beq_iff_eq] at hf2
          exact ⟨rfl, rfl, rfl, rfl, hf2.2.2.symm⟩
      obtain ⟨k, n, s, tx, i⟩ := v
      obtain ⟨k', n', s', tx', i'⟩ := x
      simp only at *
      have : tx = ⟨#[]⟩ := toList_inj (b3.trans (by rw [ByteArray.toList_eq]))
      rw [show k = 3 by omega, this, b1, b2, hi.1, hi.2.1, hi.2.2.1, hi.2.2.2.1, hi.2.2.2.2]
end Go.Proofs.YtankkadnhdfpfaaGreatDoor

/- soffit/sets.One: walked. -/
set_option linter.unusedSimpArgs false
set_option linter.unusedVariables false
namespace Go.Proofs.YtankkadnhdfpfaaGreatDoor
open Go.RowKit Sp Wd

set_option maxRecDepth 100000 in
set_option maxHeartbeats 3200000 in
theorem setOne_no (t : Ty) (v : Vl) (T : Option Addr) (ct : Nat) (w : World) (hTy : tySnd t = false) (hT : TyAt w t T) (hv : v.wf) (hE : Env w) :
    Calls Tryz.prog 43 #[.agg #[.int .i64 t.k, .int .i64 t.sc, .bool t.c.any, .bool t.c.neg, .slice T t.c.ts.length ct], .agg #[.int .i64 v.k, .int .i64 v.n, .int .i64 v.s, .string v.t, .int .i64 v.i]] w fun e w' => e = .returned (.tuple #[.agg #[.int .i64 0, .slice none 0 0, .bool false, .slice none 0 0, .int .i64 0, .bool false], .int .i64 2]) ∧ Below w.heap.size w w' := by
  have HT := Lib.hid hT
  have HV := Lib.hid hv
  have HE := Lib.hid hE
  clear hT hv hE
  go_enter Tryz.func43, Tryz.ntmps43
  go_wp2_with fail
  have K0 : BoxIs (((w.alloc (.cells #[.int .i64 t.k, .int .i64 t.sc, .bool t.c.any, .bool t.c.neg, .slice T t.c.ts.length ct] 26)).alloc (.cells #[.int .i64 v.k, .int .i64 v.n, .int .i64 v.s, .string v.t, .int .i64 v.i] 30)).alloc (.cells #[.int .i64 0, .slice none 0 0, .bool false, .slice none 0 0, .int .i64 0, .bool false] 36)) w.heap.size #[.int .i64 t.k, .int .i64 t.sc, .bool t.c.any, .bool t.c.neg, .slice T t.c.ts.length ct] := ((BoxIs.new rfl).alloc _).alloc _
  have K1 : BoxIs (((w.alloc (.cells #[.int .i64 t.k, .int .i64 t.sc, .bool t.c.any, .bool t.c.neg, .slice T t.c.ts.length ct] 26)).alloc (.cells #[.int .i64 v.k, .int .i64 v.n, .int .i64 v.s, .string v.t, .int .i64 v.i] 30)).alloc (.cells #[.int .i64 0, .slice none 0 0, .bool false, .slice none 0 0, .int .i64 0, .bool false] 36)) (w.heap.size + 1) #[.int .i64 v.k, .int .i64 v.n, .int .i64 v.s, .string v.t, .int .i64 v.i] := (BoxIs.new (by simp)).alloc _
  have K2 : BoxIs (((w.alloc (.cells #[.int .i64 t.k, .int .i64 t.sc, .bool t.c.any, .bool t.c.neg, .slice T t.c.ts.length ct] 26)).alloc (.cells #[.int .i64 v.k, .int .i64 v.n, .int .i64 v.s, .string v.t, .int .i64 v.i] 30)).alloc (.cells #[.int .i64 0, .slice none 0 0, .bool false, .slice none 0 0, .int .i64 0, .bool false] 36)) (w.heap.size + 2) #[.int .i64 0, .slice none 0 0, .bool false, .slice none 0 0, .int .i64 0, .bool false] := BoxIs.new (by simp)
  refine (setSound_any t T ct _ (HT.out.below bel) (HE.out.below bel)).mono ?_
  rintro e w1 ⟨rfl, hb1⟩
  rw [hTy]
  have K0 := K0.below hb1
  have K1 := K1.below hb1
  have K2 := K2.below hb1
  have z0 := K0.c
  have z1 := K1.c
  have z2 := K2.c
  have f2 := K2.f
  have l0 := K0.lt
  have l1 := K1.lt
  have l2 := K2.lt
  have hbw : Below w.heap.size w w1 := bel
  clear hb1
  go_wp2_with fail
  refine bodyPost_ret (v := .tuple #[.agg #[.int .i64 0, .slice none 0 0, .bool false, .slice none 0 0, .int .i64 0, .bool false], .int .i64 2]) (by simp [results, Tryz.results43, go_sem, *]) rfl ⟨rfl, bel⟩
set_option maxRecDepth 100000 in
set_option maxHeartbeats 3200000 in
theorem setOne_out (t : Ty) (v : Vl) (T : Option Addr) (ct : Nat) (w : World) (hTy : tySnd t = true) (hin : inTy t v = false) (hT : TyAt w t T) (hv : v.wf) (hE : Env w) :
    Calls Tryz.prog 43 #[.agg #[.int .i64 t.k, .int .i64 t.sc, .bool t.c.any, .bool t.c.neg, .slice T t.c.ts.length ct], .agg #[.int .i64 v.k, .int .i64 v.n, .int .i64 v.s, .string v.t, .int .i64 v.i]] w fun e w' => e = .returned (.tuple #[.agg #[.int .i64 0, .slice none 0 0, .bool false, .slice none 0 0, .int .i64 0, .bool false], .int .i64 3]) ∧ Below w.heap.size w w' := by
  have HT := Lib.hid hT
  have HV := Lib.hid hv
  have HE := Lib.hid hE
  clear hT hv hE
  go_enter Tryz.func43, Tryz.ntmps43
  go_wp2_with fail
  have K0 : BoxIs (((w.alloc (.cells #[.int .i64 t.k, .int .i64 t.sc, .bool t.c.any, .bool t.c.neg, .slice T t.c.ts.length ct] 26)).alloc (.cells #[.int .i64 v.k, .int .i64 v.n, .int .i64 v.s, .string v.t, .int .i64 v.i] 30)).alloc (.cells #[.int .i64 0, .slice none 0 0, .bool false, .slice none 0 0, .int .i64 0, .bool false] 36)) w.heap.size #[.int .i64 t.k, .int .i64 t.sc, .bool t.c.any, .bool t.c.neg, .slice T t.c.ts.length ct] := ((BoxIs.new rfl).alloc _).alloc _
  have K1 : BoxIs (((w.alloc (.cells #[.int .i64 t.k, .int .i64 t.sc, .bool t.c.any, .bool t.c.neg, .slice T t.c.ts.length ct] 26)).alloc (.cells #[.int .i64 v.k, .int .i64 v.n, .int .i64 v.s, .string v.t, .int .i64 v.i] 30)).alloc (.cells #[.int .i64 0, .slice none 0 0, .bool false, .slice none 0 0, .int .i64 0, .bool false] 36)) (w.heap.size + 1) #[.int .i64 v.k, .int .i64 v.n, .int .i64 v.s, .string v.t, .int .i64 v.i] := (BoxIs.new (by simp)).alloc _
  have K2 : BoxIs (((w.alloc (.cells #[.int .i64 t.k, .int .i64 t.sc, .bool t.c.any, .bool t.c.neg, .slice T t.c.ts.length ct] 26)).alloc (.cells #[.int .i64 v.k, .int .i64 v.n, .int .i64 v.s, .string v.t, .int .i64 v.i] 30)).alloc (.cells #[.int .i64 0, .slice none 0 0, .bool false, .slice none 0 0, .int .i64 0, .bool false] 36)) (w.heap.size + 2) #[.int .i64 0, .slice none 0 0, .bool false, .slice none 0 0, .int .i64 0, .bool false] := BoxIs.new (by simp)
  refine (setSound_any t T ct _ (HT.out.below bel) (HE.out.below bel)).mono ?_
  rintro e w1 ⟨rfl, hb1⟩
  rw [hTy]
  have K0 := K0.below hb1
  have K1 := K1.below hb1
  have K2 := K2.below hb1
  have z0 := K0.c
  have z1 := K1.c
  have z2 := K2.c
  have f2 := K2.f
  have l0 := K0.lt
  have l1 := K1.lt
  have l2 := K2.lt
  have hbw : Below w.heap.size w w1 := bel
  clear hb1
  go_wp2_with fail
  refine (setIn_any t v T ct _ (HT.out.below hbw) HV.out (HE.out.below hbw)).mono ?_
  rintro e w2 ⟨rfl, hb2⟩
  rw [hin]
  have K2 := K2.below hb2
  have hbw2 : Below w.heap.size w w2 := hbw.trans (hb2.mono hbw.size)
  clear z0 z1 z2 f2 l0 l1 l2
  have z2 := K2.c
  have f2 := K2.f
  have l2 := K2.lt
  clear hbw hb2
  go_wp2_with fail
  refine bodyPost_ret (v := .tuple #[.agg #[.int .i64 0, .slice none 0 0, .bool false, .slice none 0 0, .int .i64 0, .bool false], .int .i64 3]) (by simp [results, Tryz.results43, go_sem, *]) rfl ⟨rfl, bel⟩
set_option maxRecDepth 100000 in
set_option maxHeartbeats 6400000 in
theorem setOne_any (t : Ty) (v : Vl) (T : Option Addr) (ct : Nat) (w : World) (hTy : tySnd t = true) (hin : inTy t v = true) (hT : TyAt w t T) (hv : v.wf) (hE : Env w) :
    Calls Tryz.prog 43 #[.agg #[.int .i64 t.k, .int .i64 t.sc, .bool t.c.any, .bool t.c.neg, .slice T t.c.ts.length ct], .agg #[.int .i64 v.k, .int .i64 v.n, .int .i64 v.s, .string v.t, .int .i64 v.i]] w fun e w' => ∃ (r : St) (X Y : Option Addr) (cx cy : Nat), e = .returned (.tuple #[.agg #[.int .i64 r.k, .slice X r.sp.length cx, .bool r.al, .slice Y r.ws.length cy, .int .i64 r.b, .bool r.nul], .int .i64 0]) ∧ StAt w' r X Y ∧ Is (testG t (isT v)) r ∧ StOk 1 r ∧ Below w.heap.size w w' := by
  obtain ⟨hKd, hSc, -, -⟩ := ty_of hTy
  have hu := (isT_one v v (in_fit hin).2.2.2.1).1
  have hz : Vl.zero.wf := ⟨⟨by decide, by decide⟩, ⟨by decide, by decide⟩, ⟨by decide, by decide⟩, ⟨by decide, by decide⟩, by decide⟩
  have hxw : (isT v).wf := ⟨⟨by show (-9223372036854775808 : Int) ≤ 1; decide, by show (1 : Int) ≤ 9223372036854775807; decide⟩, hv, hz⟩
  clear hz
  have HT := Lib.hid hT
  have HV := Lib.hid hv
  have HE := Lib.hid hE
  clear hT hv hE
  go_enter Tryz.func43, Tryz.ntmps43
  go_wp2_with fail
  have K0 : BoxIs (((w.alloc (.cells #[.int .i64 t.k, .int .i64 t.sc, .bool t.c.any, .bool t.c.neg, .slice T t.c.ts.length ct] 26)).alloc (.cells #[.int .i64 v.k, .int .i64 v.n, .int .i64 v.s, .string v.t, .int .i64 v.i] 30)).alloc (.cells #[.int .i64 0, .slice none 0 0, .bool false, .slice none 0 0, .int .i64 0, .bool false] 36)) w.heap.size #[.int .i64 t.k, .int .i64 t.sc, .bool t.c.any, .bool t.c.neg, .slice T t.c.ts.length ct] := ((BoxIs.new rfl).alloc _).alloc _
  have K1 : BoxIs (((w.alloc (.cells #[.int .i64 t.k, .int .i64 t.sc, .bool t.c.any, .bool t.c.neg, .slice T t.c.ts.length ct] 26)).alloc (.cells #[.int .i64 v.k, .int .i64 v.n, .int .i64 v.s, .string v.t, .int .i64 v.i] 30)).alloc (.cells #[.int .i64 0, .slice none 0 0, .bool false, .slice none 0 0, .int .i64 0, .bool false] 36)) (w.heap.size + 1) #[.int .i64 v.k, .int .i64 v.n, .int .i64 v.s, .string v.t, .int .i64 v.i] := (BoxIs.new (by simp)).alloc _
  have K2 : BoxIs (((w.alloc (.cells #[.int .i64 t.k, .int .i64 t.sc, .bool t.c.any, .bool t.c.neg, .slice T t.c.ts.length ct] 26)).alloc (.cells #[.int .i64 v.k, .int .i64 v.n, .int .i64 v.s, .string v.t, .int .i64 v.i] 30)).alloc (.cells #[.int .i64 0, .slice none 0 0, .bool false, .slice none 0 0, .int .i64 0, .bool false] 36)) (w.heap.size + 2) #[.int .i64 0, .slice none 0 0, .bool false, .slice none 0 0, .int .i64 0, .bool false] := BoxIs.new (by simp)
  refine (setSound_any t T ct _ (HT.out.below bel) (HE.out.below bel)).mono ?_
  rintro e w1 ⟨rfl, hb1⟩
  rw [hTy]
  have K0 := K0.below hb1
  have K1 := K1.below hb1
  have K2 := K2.below hb1
  have z0 := K0.c
  have z1 := K1.c
  have z2 := K2.c
  have f2 := K2.f
  have l0 := K0.lt
  have l1 := K1.lt
  have l2 := K2.lt
  have hbw : Below w.heap.size w w1 := bel
  clear hb1
  go_wp2_with fail
  refine (setIn_any t v T ct _ (HT.out.below hbw) HV.out (HE.out.below hbw)).mono ?_
  rintro e W0 ⟨rfl, hb2⟩
  rw [hin]
  have K0 := K0.below hb2
  have K1 := K1.below hb2
  have K2 := K2.below hb2
  have hbw0 : Below w.heap.size w W0 := hbw.trans (hb2.mono hbw.size)
  have HS0 : Hid (w.heap.size + 3 ≤ W0.heap.size) := Lib.hid (by have := K2.lt; omega)
  clear z0 z1 z2 f2 l0 l1 l2 hbw hb2
  have z0 := K0.c
  have l0 := K0.lt
  have z1 := K1.c
  have l1 := K1.lt
  go_wp2_with fail
  refine (setTest_any t (isT v) T ct _ hKd hSc hu hxw (HE.out.below hbw0)).mono ?_
  rintro e w1 ⟨r1, X1, Y1, cx1, cy1, rfl, hR1, i1, ok1, hb1⟩
  have K2 := K2.below hb1
  have hbw1 : Below w.heap.size w w1 := hbw0.trans (hb1.mono hbw0.size)
  clear z0 z1 l0 l1 K0 K1 hb1 hbw0 HS0
  go_wp2_with fail
  refine (tidy_any r1 1 X1 Y1 cx1 cy1 _ hR1 ok1 (by omega) (HE.out.below hbw1)).mono ?_
  rintro e w2 ⟨r, X, Y, cx, cy, rfl, hR, ir, okr, alr, hb2⟩
  rw [i1.sg_eq (by rw [testG_k]; exact hKd)] at ir
  have K22 := K2.below hb2
  have c2 := K22.c
  have f2 := K22.f
  have l2 := K22.lt
  have hbw2 : Below w.heap.size w w2 := hbw1.trans (hb2.mono hbw1.size)
  clear alr hb2 hbw1 hR1 i1 ok1 K2
  go_wp2_with fail
  refine bodyPost_ret (v := .tuple #[.agg #[.int .i64 r.k, .slice X r.sp.length cx, .bool r.al, .slice Y r.ws.length cy, .int .i64 r.b, .bool r.nul], .int .i64 0]) (by simp [results, Tryz.results43, go_sem, *]) rfl ⟨r, X, Y, cx, cy, rfl, hR.free K22 (setLike _ _ _ _ _ _ _ _ _ _) six_other, ir, okr, bel⟩
end Go.Proofs.YtankkadnhdfpfaaGreatDoor
