/- soffit/deci.Text, walked. -/
import Derived.Test.YthicilfhnakhmaaGreatDoorTx1
set_option linter.unusedSimpArgs false
set_option linter.unusedVariables false
namespace Go.Proofs.YthicilfhnakhmaaGreatDoor
open Go.RowKit Go.Sort Go.Lib

def decTxtRes (n s : Int) : Value := if decSnd n s = true then .tuple #[.string ⟨(decL n s).toArray⟩, .int .i64 0] else .tuple #[.string ⟨#[]⟩, .int .i64 2]
theorem dec_len12 {n : Int} (h1 : -999999999999 ≤ n) (h2 : n ≤ 999999999999) : (decDigits n.natAbs).length ≤ 12 := dec_len_lt (k := 11) (by omega)
/-- digits with a point among them -/
theorem point_at (N t q c : Nat) (Z R P : ByteArray) (ht : 0 < t) (hR : R = ⟨(decDigits N).toArray⟩) (hZ : Z = ⟨(repeatL [48] c).toArray⟩) (hc : c = t + 1 - (decDigits N).length) (hP : Z ++ R = P) (hq : P.size = q + t) :
    P.extract 0 q ++ ⟨#[46]⟩ ++ P.extract q P.size = ⟨(absL N t).toArray⟩ := by
  have e : P = ⟨(padD N (t + 1)).toArray⟩ := by
    rw [← hP, hZ, hR, ba_append, repeatL_one, hc]; rfl
  have hl : (padD N (t + 1)).length = q + t := by rw [← hq, e, ba_size]
  subst e
  have h2 := padD_split t N
  have hql : (decDigits (N / 10 ^ t)).length = q := by
    have := congrArg List.length h2
    rw [hl, List.length_append, lowD_length] at this
    omega
  rw [ba_extract, ba_extract, show (⟨#[46]⟩ : ByteArray) = ⟨[46].toArray⟩ from rfl, ba_append, ba_append, ba_size]
  congr 2
  unfold absL
  rw [if_pos ht, List.take_of_length_le (Nat.le_refl _), h2, List.drop_zero]
  rw [← hql]
  rw [List.take_left', List.drop_left'] <;> simp

set_option maxRecDepth 100000 in
set_option maxHeartbeats 6400000 in
theorem decText_any (n s : Int) (w : World) (hn : I64 n) (hs : I64 s) (hE : EnvP w) :
    Calls Tryz.prog 22 #[.agg #[.int .i64 n, .int .i64 s]] w fun e w' => e = .returned (decTxtRes n s) ∧ Below w.heap.size w w' := by
  cases hd : decSnd n s
  · have HF : Hid (decTxtRes n s = .tuple #[.string ⟨#[]⟩, .int .i64 2]) := Lib.hid (by unfold decTxtRes; rw [hd]; rfl)
    go_enter Tryz.func22, Tryz.ntmps22
    go_wp2_with fail
    refine (all1_any _ n s _ (by first | omega | (simp only [sz_alloc, sz_set, sz_drew, sz_drewN, sz_iterAt, sz_iter] at *; omega) | (simp; done) | (simp; omega) | (simp at *; omega)) (by first | (simp [go_sem]; done) | (simp [go_sem, *]; done)) (by first | (simp [go_sem]; done) | (simp [go_sem, *]; done)) hn hs).mono ?_
    rintro e w1 ⟨rfl, hb1⟩
    rw [hd, okE_false]
    clear hd
    go_wp2_with fail
    go_ret2
    exact ⟨by rw [HF.out]; rfl, (by repeat' (first | (with_reducible exact Below.refl _ _) | (with_reducible assumption) | (with_reducible refine Below.drew ?_) | (with_reducible refine below_drewN ?_ _) | (with_reducible refine below_iterAt ?_ ?_ _ _) | (with_reducible refine below_iter ?_ ?_ _ _) | (with_reducible refine Below.alloc ?_ ?_ _) | (with_reducible refine Below.setCell ?_ ?_ _) | (with_reducible refine Below.trans ?_ (Below.mono (by assumption) ?_)) | (simp only [sz_alloc, sz_set, sz_drew, sz_drewN, sz_iterAt, sz_iter] at *; omega) | omega | (simp; done) | (simp; omega) | (apply Below.size; assumption) | (simp only [sz_drew, sz_drewN]; apply Below.size; assumption) | (refine Nat.le_trans ?_ (Below.size (by assumption)))))⟩
  · obtain ⟨a1, a2, a3, a4, -⟩ := decSnd_of hd
    obtain ⟨R, hR⟩ : ∃ R : ByteArray, ⟨(decDigits n.natAbs).toArray⟩ = R := ⟨_, rfl⟩
    have hsz : R.size = (decDigits n.natAbs).length := by rw [← hR, ba_size]
    have hL1 : 1 ≤ R.size := by rw [hsz]; exact decDigits_pos _
    have hL2 : R.size ≤ 12 := by rw [hsz]; exact dec_len12 a3 a4
    have HF : Hid (decTxtRes n s = .tuple #[.string ⟨(decL n s).toArray⟩, .int .i64 0]) := Lib.hid (by unfold decTxtRes; rw [hd]; rfl)
    have HR := Lib.hid hR
    have HSZ := Lib.hid hsz
    clear hR hsz
    by_cases ht : 0 < s
    · obtain ⟨t, rfl⟩ : ∃ t : Nat, s = (t : Int) := ⟨s.toNat, by omega⟩
      have hw1 : IntKind.i64.wrap ((t : Int) + 1) = (t : Int) + 1 := IntWalk.i64_in _ (by omega)
      by_cases hp : t + 1 ≤ R.size
      · obtain ⟨x, hx⟩ : ∃ x : Int, (t : Int) + 1 - (R.size : Int) = x := ⟨_, rfl⟩
        have hw2 : IntKind.i64.wrap ((t : Int) + 1 - (R.size : Int)) = x := by rw [IntWalk.i64_in _ (by omega), hx]
        have c1 : x ≤ 0 := by omega
        have c2 : ¬ (0 : Int) < x := by omega
        have c4 : max (0 : Int) x = 0 := by omega
        have HX := Lib.hid hx
        clear hx
        obtain ⟨c, hc⟩ : ∃ c : Nat, c = t + 1 - R.size := ⟨_, rfl⟩
        have hc0 : c = 0 := by omega
        have HC := Lib.hid hc
        clear hc
        subst hc0
        go_enter Tryz.func22, Tryz.ntmps22
        go_wp2_with fail
        refine (all1_any _ n t _ (by first | omega | (simp only [sz_alloc, sz_set, sz_drew, sz_drewN, sz_iterAt, sz_iter] at *; omega) | (simp; done) | (simp; omega) | (simp at *; omega)) (by first | (simp [go_sem]; done) | (simp [go_sem, *]; done)) (by first | (simp [go_sem]; done) | (simp [go_sem, *]; done)) hn hs).mono ?_
        rintro e w1 ⟨rfl, hb1⟩
        rw [hd, okE_true]
        clear hd
        obtain ⟨hc1, hf1⟩ := bcell hb1
        have hz1 := hb1.size
        try simp at hz1
        have q1_0 := fun o => hc1 (w.heap.size) o (by first | omega | (simp only [sz_alloc, sz_set, sz_drew, sz_drewN, sz_iterAt, sz_iter] at *; omega) | (simp; done) | (simp; omega) | (simp at *; omega))
        have l1_0 : w.heap.size < w1.heap.size := by omega
        have r1_0 := fun o => hf1 (w.heap.size) o (by first | omega | (simp only [sz_alloc, sz_set, sz_drew, sz_drewN, sz_iterAt, sz_iter] at *; omega) | (simp; done) | (simp; omega) | (simp at *; omega))
        have q1_1 := fun o => hc1 (w.heap.size + 1) o (by first | omega | (simp only [sz_alloc, sz_set, sz_drew, sz_drewN, sz_iterAt, sz_iter] at *; omega) | (simp; done) | (simp; omega) | (simp at *; omega))
        have l1_1 : w.heap.size + 1 < w1.heap.size := by omega
        have r1_1 := fun o => hf1 (w.heap.size + 1) o (by first | omega | (simp only [sz_alloc, sz_set, sz_drew, sz_drewN, sz_iterAt, sz_iter] at *; omega) | (simp; done) | (simp; omega) | (simp at *; omega))
        clear hc1 hf1
        go_wp2_with fail
        refine (dsize_any n t _ a3 a4).mono ?_
        rintro e w2 ⟨rfl, hb2⟩
        obtain ⟨hc2, hf2⟩ := bcell hb2
        have hz2 := hb2.size
        try simp at hz2
        have q2_0 := fun o => hc2 (w.heap.size) o (by first | omega | (simp only [sz_alloc, sz_set, sz_drew, sz_drewN, sz_iterAt, sz_iter] at *; omega) | (simp; done) | (simp; omega) | (simp at *; omega))
        have l2_0 : w.heap.size < w2.heap.size := by omega
        have r2_0 := fun o => hf2 (w.heap.size) o (by first | omega | (simp only [sz_alloc, sz_set, sz_drew, sz_drewN, sz_iterAt, sz_iter] at *; omega) | (simp; done) | (simp; omega) | (simp at *; omega))
        have q2_1 := fun o => hc2 (w.heap.size + 1) o (by first | omega | (simp only [sz_alloc, sz_set, sz_drew, sz_drewN, sz_iterAt, sz_iter] at *; omega) | (simp; done) | (simp; omega) | (simp at *; omega))
        have l2_1 : w.heap.size + 1 < w2.heap.size := by omega
        have r2_1 := fun o => hf2 (w.heap.size + 1) o (by first | omega | (simp only [sz_alloc, sz_set, sz_drew, sz_drewN, sz_iterAt, sz_iter] at *; omega) | (simp; done) | (simp; omega) | (simp at *; omega))
        clear hc2 hf2
        go_wp2_with fail
        refine (fmtUint_any n.natAbs (by omega) _ (hE.below (by repeat' (first | (with_reducible exact Below.refl _ _) | (with_reducible assumption) | (with_reducible refine Below.drew ?_) | (with_reducible refine below_drewN ?_ _) | (with_reducible refine below_iterAt ?_ ?_ _ _) | (with_reducible refine below_iter ?_ ?_ _ _) | (with_reducible refine Below.alloc ?_ ?_ _) | (with_reducible refine Below.setCell ?_ ?_ _) | (with_reducible refine Below.trans ?_ (Below.mono (by assumption) ?_)) | (simp only [sz_alloc, sz_set, sz_drew, sz_drewN, sz_iterAt, sz_iter] at *; omega) | omega | (simp; done) | (simp; omega) | (apply Below.size; assumption) | (simp only [sz_drew, sz_drewN]; apply Below.size; assumption) | (refine Nat.le_trans ?_ (Below.size (by assumption)))))).pow).mono ?_
        rintro e w3 ⟨rfl, hb3⟩
        rw [HR.out]
        obtain ⟨hc3, hf3⟩ := bcell hb3
        have hz3 := hb3.size
        try simp at hz3
        have q3_0 := fun o => hc3 (w.heap.size) o (by first | omega | (simp only [sz_alloc, sz_set, sz_drew, sz_drewN, sz_iterAt, sz_iter] at *; omega) | (simp; done) | (simp; omega) | (simp at *; omega))
        have l3_0 : w.heap.size < w3.heap.size := by omega
        have r3_0 := fun o => hf3 (w.heap.size) o (by first | omega | (simp only [sz_alloc, sz_set, sz_drew, sz_drewN, sz_iterAt, sz_iter] at *; omega) | (simp; done) | (simp; omega) | (simp at *; omega))
        have q3_1 := fun o => hc3 (w.heap.size + 1) o (by first | omega | (simp only [sz_alloc, sz_set, sz_drew, sz_drewN, sz_iterAt, sz_iter] at *; omega) | (simp; done) | (simp; omega) | (simp at *; omega))
        have l3_1 : w.heap.size + 1 < w3.heap.size := by omega
        have r3_1 := fun o => hf3 (w.heap.size + 1) o (by first | omega | (simp only [sz_alloc, sz_set, sz_drew, sz_drewN, sz_iterAt, sz_iter] at *; omega) | (simp; done) | (simp; omega) | (simp at *; omega))
        clear hc3 hf3
        go_wp2_with fail
        refine (Tryz.strings_Repeat_zero ⟨#[48]⟩ _).mono ?_
        rintro e w4 ⟨rfl, rfl⟩
        obtain ⟨Z, hZ⟩ : ∃ Z : ByteArray, ⟨#[]⟩ = Z := ⟨_, rfl⟩
        rw [hZ]
        have hZs : Z.size = 0 := by rw [← hZ]; rfl
        have HZ : Hid (Z = ⟨(repeatL [48] 0).toArray⟩) := Lib.hid (by rw [← hZ]; rfl)
        clear hZ
        go_wp2_with fail
        generalize hPP : Z ++ R = P
        have hPs : P.size = Z.size + R.size := by rw [← hPP]; simp
        obtain ⟨q, hq⟩ : ∃ q, P.size = q + t := ⟨P.size - t, by omega⟩
        have HPA : Hid (P.extract 0 q ++ ⟨#[46]⟩ ++ P.extract q P.size = ⟨(absL n.natAbs t).toArray⟩) := Lib.hid (point_at n.natAbs t q 0 Z R P (by omega) HR.out.symm HZ.out (by rw [HC.out, HSZ.out]) hPP hq)
        have hw5 : IntKind.i64.wrap ((P.size : Int) - (t : Int)) = (q : Int) := by rw [IntWalk.i64_in _ (by omega)]; omega
        have i1 : (0 : Int) ≤ (q : Int) := by omega
        have i2 : (q : Int) ≤ (P.size : Int) := by omega
        have i3 : ¬ (P.size : Int) < (q : Int) := by omega
        have i4 : ¬ (q : Int) < 0 := by omega
        have i5 : q ≤ P.size := by omega
        have i10 : P.size ≤ 100 := by omega
        have i6 : ¬ 9223372036854775807 < q + 1 := by omega
        have i7 : ¬ 9223372036854775807 < q + 1 + (P.size - q) := by omega
        have i8 : ¬ 9223372036854775807 < P.size + 1 := by omega
        have i9 : min q P.size = q := by omega
        clear hPP hPs hq hZs
        go_region
        all_goals
          rw [HPA.out]
          obtain ⟨Q, hQ⟩ : ∃ Q : ByteArray, ⟨(absL n.natAbs t).toArray⟩ = Q := ⟨_, rfl⟩
          have hQs : Q.size = q + 1 + (P.size - q) := by
            rw [← hQ, ← HPA.out, ByteArray.size_append, ByteArray.size_append, ByteArray.size_extract, ByteArray.size_extract, show (⟨#[46]⟩ : ByteArray).size = 1 from rfl]; omega
          rw [hQ]
          have j1 : ¬ 9223372036854775807 < 1 + Q.size := by omega
          have HQ := Lib.hid hQ
          clear hQ hQs HPA
          by_cases hm : n < 0
          · go_wp2_with fail
            go_ret2
            refine ⟨?_, (by repeat' (first | (with_reducible exact Below.refl _ _) | (with_reducible assumption) | (with_reducible refine Below.drew ?_) | (with_reducible refine below_drewN ?_ _) | (with_reducible refine below_iterAt ?_ ?_ _ _) | (with_reducible refine below_iter ?_ ?_ _ _) | (with_reducible refine Below.alloc ?_ ?_ _) | (with_reducible refine Below.setCell ?_ ?_ _) | (with_reducible refine Below.trans ?_ (Below.mono (by assumption) ?_)) | (simp only [sz_alloc, sz_set, sz_drew, sz_drewN, sz_iterAt, sz_iter] at *; omega) | omega | (simp; done) | (simp; omega) | (apply Below.size; assumption) | (simp only [sz_drew, sz_drewN]; apply Below.size; assumption) | (refine Nat.le_trans ?_ (Below.size (by assumption)))))⟩
            rw [HF.out, decL_eq, if_pos (by omega), Int.toNat_natCast, show (45 :: absL n.natAbs t) = [45] ++ absL n.natAbs t from rfl, ← ba_append, HQ.out]
            rfl
          · go_wp2_with fail
            go_ret2
            refine ⟨?_, (by repeat' (first | (with_reducible exact Below.refl _ _) | (with_reducible assumption) | (with_reducible refine Below.drew ?_) | (with_reducible refine below_drewN ?_ _) | (with_reducible refine below_iterAt ?_ ?_ _ _) | (with_reducible refine below_iter ?_ ?_ _ _) | (with_reducible refine Below.alloc ?_ ?_ _) | (with_reducible refine Below.setCell ?_ ?_ _) | (with_reducible refine Below.trans ?_ (Below.mono (by assumption) ?_)) | (simp only [sz_alloc, sz_set, sz_drew, sz_drewN, sz_iterAt, sz_iter] at *; omega) | omega | (simp; done) | (simp; omega) | (apply Below.size; assumption) | (simp only [sz_drew, sz_drewN]; apply Below.size; assumption) | (refine Nat.le_trans ?_ (Below.size (by assumption)))))⟩
            rw [HF.out, decL_eq, if_neg (by omega), Int.toNat_natCast, HQ.out]
            rfl
      · obtain ⟨c, hc⟩ : ∃ c : Nat, c = t + 1 - R.size := ⟨_, rfl⟩
        have hw2 : IntKind.i64.wrap ((t : Int) + 1 - (R.size : Int)) = (c : Int) := by rw [IntWalk.i64_in _ (by omega)]; omega
        have c1 : ¬ (c : Int) ≤ 0 := by omega
        have c2 : (0 : Int) < (c : Int) := by omega
        have hc7 : c ≤ 7 := by omega
        have hge : t + 1 ≤ c + R.size := by omega
        have HC := Lib.hid hc
        clear hc
        go_enter Tryz.func22, Tryz.ntmps22
        go_wp2_with fail
        refine (all1_any _ n t _ (by first | omega | (simp only [sz_alloc, sz_set, sz_drew, sz_drewN, sz_iterAt, sz_iter] at *; omega) | (simp; done) | (simp; omega) | (simp at *; omega)) (by first | (simp [go_sem]; done) | (simp [go_sem, *]; done)) (by first | (simp [go_sem]; done) | (simp [go_sem, *]; done)) hn hs).mono ?_
        rintro e w1 ⟨rfl, hb1⟩
        rw [hd, okE_true]
        clear hd
        obtain ⟨hc1, hf1⟩ := bcell hb1
        have hz1 := hb1.size
        try simp at hz1
        have q1_0 := fun o => hc1 (w.heap.size) o (by first | omega | (simp only [sz_alloc, sz_set, sz_drew, sz_drewN, sz_iterAt, sz_iter] at *; omega) | (simp; done) | (simp; omega) | (simp at *; omega))
        have l1_0 : w.heap.size < w1.heap.size := by omega
        have r1_0 := fun o => hf1 (w.heap.size) o (by first | omega | (simp only [sz_alloc, sz_set, sz_drew, sz_drewN, sz_iterAt, sz_iter] at *; omega) | (simp; done) | (simp; omega) | (simp at *; omega))
        have q1_1 := fun o => hc1 (w.heap.size + 1) o (by first | omega | (simp only [sz_alloc, sz_set, sz_drew, sz_drewN, sz_iterAt, sz_iter] at *; omega) | (simp; done) | (simp; omega) | (simp at *; omega))
        have l1_1 : w.heap.size + 1 < w1.heap.size := by omega
        have r1_1 := fun o => hf1 (w.heap.size + 1) o (by first | omega | (simp only [sz_alloc, sz_set, sz_drew, sz_drewN, sz_iterAt, sz_iter] at *; omega) | (simp; done) | (simp; omega) | (simp at *; omega))
        clear hc1 hf1
        go_wp2_with fail
        refine (dsize_any n t _ a3 a4).mono ?_
        rintro e w2 ⟨rfl, hb2⟩
        obtain ⟨hc2, hf2⟩ := bcell hb2
        have hz2 := hb2.size
        try simp at hz2
        have q2_0 := fun o => hc2 (w.heap.size) o (by first | omega | (simp only [sz_alloc, sz_set, sz_drew, sz_drewN, sz_iterAt, sz_iter] at *; omega) | (simp; done) | (simp; omega) | (simp at *; omega))
        have l2_0 : w.heap.size < w2.heap.size := by omega
        have r2_0 := fun o => hf2 (w.heap.size) o (by first | omega | (simp only [sz_alloc, sz_set, sz_drew, sz_drewN, sz_iterAt, sz_iter] at *; omega) | (simp; done) | (simp; omega) | (simp at *; omega))
        have q2_1 := fun o => hc2 (w.heap.size + 1) o (by first | omega | (simp only [sz_alloc, sz_set, sz_drew, sz_drewN, sz_iterAt, sz_iter] at *; omega) | (simp; done) | (simp; omega) | (simp at *; omega))
        have l2_1 : w.heap.size + 1 < w2.heap.size := by omega
        have r2_1 := fun o => hf2 (w.heap.size + 1) o (by first | omega | (simp only [sz_alloc, sz_set, sz_drew, sz_drewN, sz_iterAt, sz_iter] at *; omega) | (simp; done) | (simp; omega) | (simp at *; omega))
        clear hc2 hf2
        go_wp2_with fail
        refine (fmtUint_any n.natAbs (by omega) _ (hE.below (by repeat' (first | (with_reducible exact Below.refl _ _) | (with_reducible assumption) | (with_reducible refine Below.drew ?_) | (with_reducible refine below_drewN ?_ _) | (with_reducible refine below_iterAt ?_ ?_ _ _) | (with_reducible refine below_iter ?_ ?_ _ _) | (with_reducible refine Below.alloc ?_ ?_ _) | (with_reducible refine Below.setCell ?_ ?_ _) | (with_reducible refine Below.trans ?_ (Below.mono (by assumption) ?_)) | (simp only [sz_alloc, sz_set, sz_drew, sz_drewN, sz_iterAt, sz_iter] at *; omega) | omega | (simp; done) | (simp; omega) | (apply Below.size; assumption) | (simp only [sz_drew, sz_drewN]; apply Below.size; assumption) | (refine Nat.le_trans ?_ (Below.size (by assumption)))))).pow).mono ?_
        rintro e w3 ⟨rfl, hb3⟩
        rw [HR.out]
        obtain ⟨hc3, hf3⟩ := bcell hb3
        have hz3 := hb3.size
        try simp at hz3
        have q3_0 := fun o => hc3 (w.heap.size) o (by first | omega | (simp only [sz_alloc, sz_set, sz_drew, sz_drewN, sz_iterAt, sz_iter] at *; omega) | (simp; done) | (simp; omega) | (simp at *; omega))
        have l3_0 : w.heap.size < w3.heap.size := by omega
        have r3_0 := fun o => hf3 (w.heap.size) o (by first | omega | (simp only [sz_alloc, sz_set, sz_drew, sz_drewN, sz_iterAt, sz_iter] at *; omega) | (simp; done) | (simp; omega) | (simp at *; omega))
        have q3_1 := fun o => hc3 (w.heap.size + 1) o (by first | omega | (simp only [sz_alloc, sz_set, sz_drew, sz_drewN, sz_iterAt, sz_iter] at *; omega) | (simp; done) | (simp; omega) | (simp at *; omega))
        have l3_1 : w.heap.size + 1 < w3.heap.size := by omega
        have r3_1 := fun o => hf3 (w.heap.size + 1) o (by first | omega | (simp only [sz_alloc, sz_set, sz_drew, sz_drewN, sz_iterAt, sz_iter] at *; omega) | (simp; done) | (simp; omega) | (simp at *; omega))
        clear hc3 hf3
        go_wp2_with fail
        refine (Tryz.strings_Repeat ⟨#[48]⟩ c _ (by omega) (by rw [show (⟨#[48]⟩ : ByteArray).size = 1 from rfl]; omega)).mono ?_
        rintro e w4 ⟨rfl, hb4⟩
        obtain ⟨hc4, hf4⟩ := bcell hb4
        have hz4 := hb4.size
        try simp at hz4
        have q4_0 := fun o => hc4 (w.heap.size) o (by first | omega | (simp only [sz_alloc, sz_set, sz_drew, sz_drewN, sz_iterAt, sz_iter] at *; omega) | (simp; done) | (simp; omega) | (simp at *; omega))
        have l4_0 : w.heap.size < w4.heap.size := by omega
        have r4_0 := fun o => hf4 (w.heap.size) o (by first | omega | (simp only [sz_alloc, sz_set, sz_drew, sz_drewN, sz_iterAt, sz_iter] at *; omega) | (simp; done) | (simp; omega) | (simp at *; omega))
        have q4_1 := fun o => hc4 (w.heap.size + 1) o (by first | omega | (simp only [sz_alloc, sz_set, sz_drew, sz_drewN, sz_iterAt, sz_iter] at *; omega) | (simp; done) | (simp; omega) | (simp at *; omega))
        have l4_1 : w.heap.size + 1 < w4.heap.size := by omega
        have r4_1 := fun o => hf4 (w.heap.size + 1) o (by first | omega | (simp only [sz_alloc, sz_set, sz_drew, sz_drewN, sz_iterAt, sz_iter] at *; omega) | (simp; done) | (simp; omega) | (simp at *; omega))
        clear hc4 hf4
        obtain ⟨Z, hZ⟩ : ∃ Z : ByteArray, ⟨(repeatL (⟨#[48]⟩ : ByteArray).data.toList c).toArray⟩ = Z := ⟨_, rfl⟩
        rw [hZ]
        have hZs : Z.size = c := by rw [← hZ, ba_size]; simp [repeatL_one]
        have HZ := Lib.hid hZ
        clear hZ
        go_wp2_with fail
        generalize hPP : Z ++ R = P
        have hPs : P.size = Z.size + R.size := by rw [← hPP]; simp
        obtain ⟨q, hq⟩ : ∃ q, P.size = q + t := ⟨P.size - t, by omega⟩
        have HPA : Hid (P.extract 0 q ++ ⟨#[46]⟩ ++ P.extract q P.size = ⟨(absL n.natAbs t).toArray⟩) := Lib.hid (point_at n.natAbs t q c Z R P (by omega) HR.out.symm (by rw [← HZ.out]) (by rw [HC.out, HSZ.out]) hPP hq)
        have hw5 : IntKind.i64.wrap ((P.size : Int) - (t : Int)) = (q : Int) := by rw [IntWalk.i64_in _ (by omega)]; omega
        have i1 : (0 : Int) ≤ (q : Int) := by omega
        have i2 : (q : Int) ≤ (P.size : Int) := by omega
        have i3 : ¬ (P.size : Int) < (q : Int) := by omega
        have i4 : ¬ (q : Int) < 0 := by omega
        have i5 : q ≤ P.size := by omega
        have i10 : P.size ≤ 100 := by omega
        have i6 : ¬ 9223372036854775807 < q + 1 := by omega
        have i7 : ¬ 9223372036854775807 < q + 1 + (P.size - q) := by omega
        have i8 : ¬ 9223372036854775807 < P.size + 1 := by omega
        have i9 : min q P.size = q := by omega
        clear hPP hPs hq hZs
        go_region
        all_goals
          rw [HPA.out]
          obtain ⟨Q, hQ⟩ : ∃ Q : ByteArray, ⟨(absL n.natAbs t).toArray⟩ = Q := ⟨_, rfl⟩
          have hQs : Q.size = q + 1 + (P.size - q) := by
            rw [← hQ, ← HPA.out, ByteArray.size_append, ByteArray.size_append, ByteArray.size_extract, ByteArray.size_extract, show (⟨#[46]⟩ : ByteArray).size = 1 from rfl]; omega
          rw [hQ]
          have j1 : ¬ 9223372036854775807 < 1 + Q.size := by omega
          have HQ := Lib.hid hQ
          clear hQ hQs HPA
          by_cases hm : n < 0
          · go_wp2_with fail
            go_ret2
            refine ⟨?_, (by repeat' (first | (with_reducible exact Below.refl _ _) | (with_reducible assumption) | (with_reducible refine Below.drew ?_) | (with_reducible refine below_drewN ?_ _) | (with_reducible refine below_iterAt ?_ ?_ _ _) | (with_reducible refine below_iter ?_ ?_ _ _) | (with_reducible refine Below.alloc ?_ ?_ _) | (with_reducible refine Below.setCell ?_ ?_ _) | (with_reducible refine Below.trans ?_ (Below.mono (by assumption) ?_)) | (simp only [sz_alloc, sz_set, sz_drew, sz_drewN, sz_iterAt, sz_iter] at *; omega) | omega | (simp; done) | (simp; omega) | (apply Below.size; assumption) | (simp only [sz_drew, sz_drewN]; apply Below.size; assumption) | (refine Nat.le_trans ?_ (Below.size (by assumption)))))⟩
            rw [HF.out, decL_eq, if_pos (by omega), Int.toNat_natCast, show (45 :: absL n.natAbs t) = [45] ++ absL n.natAbs t from rfl, ← ba_append, HQ.out]
            rfl
          · go_wp2_with fail
            go_ret2
            refine ⟨?_, (by repeat' (first | (with_reducible exact Below.refl _ _) | (with_reducible assumption) | (with_reducible refine Below.drew ?_) | (with_reducible refine below_drewN ?_ _) | (with_reducible refine below_iterAt ?_ ?_ _ _) | (with_reducible refine below_iter ?_ ?_ _ _) | (with_reducible refine Below.alloc ?_ ?_ _) | (with_reducible refine Below.setCell ?_ ?_ _) | (with_reducible refine Below.trans ?_ (Below.mono (by assumption) ?_)) | (simp only [sz_alloc, sz_set, sz_drew, sz_drewN, sz_iterAt, sz_iter] at *; omega) | omega | (simp; done) | (simp; omega) | (apply Below.size; assumption) | (simp only [sz_drew, sz_drewN]; apply Below.size; assumption) | (refine Nat.le_trans ?_ (Below.size (by assumption)))))⟩
            rw [HF.out, decL_eq, if_neg (by omega), Int.toNat_natCast, HQ.out]
            rfl
    · obtain rfl : s = 0 := by omega
      by_cases hm : n < 0
      · skip
        go_enter Tryz.func22, Tryz.ntmps22
        go_wp2_with fail
        refine (all1_any _ n 0 _ (by first | omega | (simp only [sz_alloc, sz_set, sz_drew, sz_drewN, sz_iterAt, sz_iter] at *; omega) | (simp; done) | (simp; omega) | (simp at *; omega)) (by first | (simp [go_sem]; done) | (simp [go_sem, *]; done)) (by first | (simp [go_sem]; done) | (simp [go_sem, *]; done)) hn hs).mono ?_
        rintro e w1 ⟨rfl, hb1⟩
        rw [hd, okE_true]
        clear hd
        obtain ⟨hc1, hf1⟩ := bcell hb1
        have hz1 := hb1.size
        try simp at hz1
        have q1_0 := fun o => hc1 (w.heap.size) o (by first | omega | (simp only [sz_alloc, sz_set, sz_drew, sz_drewN, sz_iterAt, sz_iter] at *; omega) | (simp; done) | (simp; omega) | (simp at *; omega))
        have l1_0 : w.heap.size < w1.heap.size := by omega
        have r1_0 := fun o => hf1 (w.heap.size) o (by first | omega | (simp only [sz_alloc, sz_set, sz_drew, sz_drewN, sz_iterAt, sz_iter] at *; omega) | (simp; done) | (simp; omega) | (simp at *; omega))
        have q1_1 := fun o => hc1 (w.heap.size + 1) o (by first | omega | (simp only [sz_alloc, sz_set, sz_drew, sz_drewN, sz_iterAt, sz_iter] at *; omega) | (simp; done) | (simp; omega) | (simp at *; omega))
        have l1_1 : w.heap.size + 1 < w1.heap.size := by omega
        have r1_1 := fun o => hf1 (w.heap.size + 1) o (by first | omega | (simp only [sz_alloc, sz_set, sz_drew, sz_drewN, sz_iterAt, sz_iter] at *; omega) | (simp; done) | (simp; omega) | (simp at *; omega))
        clear hc1 hf1
        go_wp2_with fail
        refine (dsize_any n 0 _ a3 a4).mono ?_
        rintro e w2 ⟨rfl, hb2⟩
        obtain ⟨hc2, hf2⟩ := bcell hb2
        have hz2 := hb2.size
        try simp at hz2
        have q2_0 := fun o => hc2 (w.heap.size) o (by first | omega | (simp only [sz_alloc, sz_set, sz_drew, sz_drewN, sz_iterAt, sz_iter] at *; omega) | (simp; done) | (simp; omega) | (simp at *; omega))
        have l2_0 : w.heap.size < w2.heap.size := by omega
        have r2_0 := fun o => hf2 (w.heap.size) o (by first | omega | (simp only [sz_alloc, sz_set, sz_drew, sz_drewN, sz_iterAt, sz_iter] at *; omega) | (simp; done) | (simp; omega) | (simp at *; omega))
        have q2_1 := fun o => hc2 (w.heap.size + 1) o (by first | omega | (simp only [sz_alloc, sz_set, sz_drew, sz_drewN, sz_iterAt, sz_iter] at *; omega) | (simp; done) | (simp; omega) | (simp at *; omega))
        have l2_1 : w.heap.size + 1 < w2.heap.size := by omega
        have r2_1 := fun o => hf2 (w.heap.size + 1) o (by first | omega | (simp only [sz_alloc, sz_set, sz_drew, sz_drewN, sz_iterAt, sz_iter] at *; omega) | (simp; done) | (simp; omega) | (simp at *; omega))
        clear hc2 hf2
        go_wp2_with fail
        refine (fmtUint_any n.natAbs (by omega) _ (hE.below (by repeat' (first | (with_reducible exact Below.refl _ _) | (with_reducible assumption) | (with_reducible refine Below.drew ?_) | (with_reducible refine below_drewN ?_ _) | (with_reducible refine below_iterAt ?_ ?_ _ _) | (with_reducible refine below_iter ?_ ?_ _ _) | (with_reducible refine Below.alloc ?_ ?_ _) | (with_reducible refine Below.setCell ?_ ?_ _) | (with_reducible refine Below.trans ?_ (Below.mono (by assumption) ?_)) | (simp only [sz_alloc, sz_set, sz_drew, sz_drewN, sz_iterAt, sz_iter] at *; omega) | omega | (simp; done) | (simp; omega) | (apply Below.size; assumption) | (simp only [sz_drew, sz_drewN]; apply Below.size; assumption) | (refine Nat.le_trans ?_ (Below.size (by assumption)))))).pow).mono ?_
        rintro e w3 ⟨rfl, hb3⟩
        rw [HR.out]
        obtain ⟨hc3, hf3⟩ := bcell hb3
        have hz3 := hb3.size
        try simp at hz3
        have q3_0 := fun o => hc3 (w.heap.size) o (by first | omega | (simp only [sz_alloc, sz_set, sz_drew, sz_drewN, sz_iterAt, sz_iter] at *; omega) | (simp; done) | (simp; omega) | (simp at *; omega))
        have l3_0 : w.heap.size < w3.heap.size := by omega
        have r3_0 := fun o => hf3 (w.heap.size) o (by first | omega | (simp only [sz_alloc, sz_set, sz_drew, sz_drewN, sz_iterAt, sz_iter] at *; omega) | (simp; done) | (simp; omega) | (simp at *; omega))
        have q3_1 := fun o => hc3 (w.heap.size + 1) o (by first | omega | (simp only [sz_alloc, sz_set, sz_drew, sz_drewN, sz_iterAt, sz_iter] at *; omega) | (simp; done) | (simp; omega) | (simp at *; omega))
        have l3_1 : w.heap.size + 1 < w3.heap.size := by omega
        have r3_1 := fun o => hf3 (w.heap.size + 1) o (by first | omega | (simp only [sz_alloc, sz_set, sz_drew, sz_drewN, sz_iterAt, sz_iter] at *; omega) | (simp; done) | (simp; omega) | (simp at *; omega))
        clear hc3 hf3
        go_wp2_with fail
        go_ret2
        refine ⟨?_, (by repeat' (first | (with_reducible exact Below.refl _ _) | (with_reducible assumption) | (with_reducible refine Below.drew ?_) | (with_reducible refine below_drewN ?_ _) | (with_reducible refine below_iterAt ?_ ?_ _ _) | (with_reducible refine below_iter ?_ ?_ _ _) | (with_reducible refine Below.alloc ?_ ?_ _) | (with_reducible refine Below.setCell ?_ ?_ _) | (with_reducible refine Below.trans ?_ (Below.mono (by assumption) ?_)) | (simp only [sz_alloc, sz_set, sz_drew, sz_drewN, sz_iterAt, sz_iter] at *; omega) | omega | (simp; done) | (simp; omega) | (apply Below.size; assumption) | (simp only [sz_drew, sz_drewN]; apply Below.size; assumption) | (refine Nat.le_trans ?_ (Below.size (by assumption)))))⟩
        rw [HF.out, decL_eq, if_pos hm, show (0 : Int).toNat = 0 from rfl]
        unfold absL
        rw [if_neg (by simp)]
        rw [show (45 :: decDigits n.natAbs) = [45] ++ decDigits n.natAbs from rfl, ← ba_append, HR.out]; rfl
      · skip
        go_enter Tryz.func22, Tryz.ntmps22
        go_wp2_with fail
        refine (all1_any _ n 0 _ (by first | omega | (simp only [sz_alloc, sz_set, sz_drew, sz_drewN, sz_iterAt, sz_iter] at *; omega) | (simp; done) | (simp; omega) | (simp at *; omega)) (by first | (simp [go_sem]; done) | (simp [go_sem, *]; done)) (by first | (simp [go_sem]; done) | (simp [go_sem, *]; done)) hn hs).mono ?_
        rintro e w1 ⟨rfl, hb1⟩
        rw [hd, okE_true]
        clear hd
        obtain ⟨hc1, hf1⟩ := bcell hb1
        have hz1 := hb1.size
        try simp at hz1
        have q1_0 := fun o => hc1 (w.heap.size) o (by first | omega | (simp only [sz_alloc, sz_set, sz_drew, sz_drewN, sz_iterAt, sz_iter] at *; omega) | (simp; done) | (simp; omega) | (simp at *; omega))
        have l1_0 : w.heap.size < w1.heap.size := by omega
        have r1_0 := fun o => hf1 (w.heap.size) o (by first | omega | (simp only [sz_alloc, sz_set, sz_drew, sz_drewN, sz_iterAt, sz_iter] at *; omega) | (simp; done) | (simp; omega) | (simp at *; omega))
        have q1_1 := fun o => hc1 (w.heap.size + 1) o (by first | omega | (simp only [sz_alloc, sz_set, sz_drew, sz_drewN, sz_iterAt, sz_iter] at *; omega) | (simp; done) | (simp; omega) | (simp at *; omega))
        have l1_1 : w.heap.size + 1 < w1.heap.size := by omega
        have r1_1 := fun o => hf1 (w.heap.size + 1) o (by first | omega | (simp only [sz_alloc, sz_set, sz_drew, sz_drewN, sz_iterAt, sz_iter] at *; omega) | (simp; done) | (simp; omega) | (simp at *; omega))
        clear hc1 hf1
        go_wp2_with fail
        refine (dsize_any n 0 _ a3 a4).mono ?_
        rintro e w2 ⟨rfl, hb2⟩
        obtain ⟨hc2, hf2⟩ := bcell hb2
        have hz2 := hb2.size
        try simp at hz2
        have q2_0 := fun o => hc2 (w.heap.size) o (by first | omega | (simp only [sz_alloc, sz_set, sz_drew, sz_drewN, sz_iterAt, sz_iter] at *; omega) | (simp; done) | (simp; omega) | (simp at *; omega))
        have l2_0 : w.heap.size < w2.heap.size := by omega
        have r2_0 := fun o => hf2 (w.heap.size) o (by first | omega | (simp only [sz_alloc, sz_set, sz_drew, sz_drewN, sz_iterAt, sz_iter] at *; omega) | (simp; done) | (simp; omega) | (simp at *; omega))
        have q2_1 := fun o => hc2 (w.heap.size + 1) o (by first | omega | (simp only [sz_alloc, sz_set, sz_drew, sz_drewN, sz_iterAt, sz_iter] at *; omega) | (simp; done) | (simp; omega) | (simp at *; omega))
        have l2_1 : w.heap.size + 1 < w2.heap.size := by omega
        have r2_1 := fun o => hf2 (w.heap.size + 1) o (by first | omega | (simp only [sz_alloc, sz_set, sz_drew, sz_drewN, sz_iterAt, sz_iter] at *; omega) | (simp; done) | (simp; omega) | (simp at *; omega))
        clear hc2 hf2
        go_wp2_with fail
        refine (fmtUint_any n.natAbs (by omega) _ (hE.below (by repeat' (first | (with_reducible exact Below.refl _ _) | (with_reducible assumption) | (with_reducible refine Below.drew ?_) | (with_reducible refine below_drewN ?_ _) | (with_reducible refine below_iterAt ?_ ?_ _ _) | (with_reducible refine below_iter ?_ ?_ _ _) | (with_reducible refine Below.alloc ?_ ?_ _) | (with_reducible refine Below.setCell ?_ ?_ _) | (with_reducible refine Below.trans ?_ (Below.mono (by assumption) ?_)) | (simp only [sz_alloc, sz_set, sz_drew, sz_drewN, sz_iterAt, sz_iter] at *; omega) | omega | (simp; done) | (simp; omega) | (apply Below.size; assumption) | (simp only [sz_drew, sz_drewN]; apply Below.size; assumption) | (refine Nat.le_trans ?_ (Below.size (by assumption)))))).pow).mono ?_
        rintro e w3 ⟨rfl, hb3⟩
        rw [HR.out]
        obtain ⟨hc3, hf3⟩ := bcell hb3
        have hz3 := hb3.size
        try simp at hz3
        have q3_0 := fun o => hc3 (w.heap.size) o (by first | omega | (simp only [sz_alloc, sz_set, sz_drew, sz_drewN, sz_iterAt, sz_iter] at *; omega) | (simp; done) | (simp; omega) | (simp at *; omega))
        have l3_0 : w.heap.size < w3.heap.size := by omega
        have r3_0 := fun o => hf3 (w.heap.size) o (by first | omega | (simp only [sz_alloc, sz_set, sz_drew, sz_drewN, sz_iterAt, sz_iter] at *; omega) | (simp; done) | (simp; omega) | (simp at *; omega))
        have q3_1 := fun o => hc3 (w.heap.size + 1) o (by first | omega | (simp only [sz_alloc, sz_set, sz_drew, sz_drewN, sz_iterAt, sz_iter] at *; omega) | (simp; done) | (simp; omega) | (simp at *; omega))
        have l3_1 : w.heap.size + 1 < w3.heap.size := by omega
        have r3_1 := fun o => hf3 (w.heap.size + 1) o (by first | omega | (simp only [sz_alloc, sz_set, sz_drew, sz_drewN, sz_iterAt, sz_iter] at *; omega) | (simp; done) | (simp; omega) | (simp at *; omega))
        clear hc3 hf3
        go_wp2_with fail
        go_ret2
        refine ⟨?_, (by repeat' (first | (with_reducible exact Below.refl _ _) | (with_reducible assumption) | (with_reducible refine Below.drew ?_) | (with_reducible refine below_drewN ?_ _) | (with_reducible refine below_iterAt ?_ ?_ _ _) | (with_reducible refine below_iter ?_ ?_ _ _) | (with_reducible refine Below.alloc ?_ ?_ _) | (with_reducible refine Below.setCell ?_ ?_ _) | (with_reducible refine Below.trans ?_ (Below.mono (by assumption) ?_)) | (simp only [sz_alloc, sz_set, sz_drew, sz_drewN, sz_iterAt, sz_iter] at *; omega) | omega | (simp; done) | (simp; omega) | (apply Below.size; assumption) | (simp only [sz_drew, sz_drewN]; apply Below.size; assumption) | (refine Nat.le_trans ?_ (Below.size (by assumption)))))⟩
        rw [HF.out, decL_eq, if_neg (by omega), show (0 : Int).toNat = 0 from rfl]
        unfold absL
        rw [if_neg (by simp)]
        rw [HR.out]; rfl
end Go.Proofs.YthicilfhnakhmaaGreatDoor
