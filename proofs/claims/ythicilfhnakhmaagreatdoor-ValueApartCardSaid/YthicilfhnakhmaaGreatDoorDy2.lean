/- soffit/days: Date, pad, Text, walked. -/
import Derived.Test.YthicilfhnakhmaaGreatDoorDy1
set_option linter.unusedSimpArgs false
set_option linter.unusedVariables false
namespace Go.Proofs.YthicilfhnakhmaaGreatDoor
open Go.RowKit Go.Sort Go.Lib

set_option maxHeartbeats 800000 in
theorem dDate_no (n : Int) (w : World) (h : n < 0 ∨ 3652058 < n) :
    Calls Tryz.prog 51 #[.int .i64 n] w fun e w' => e = .returned (.tuple #[.int .i64 0, .int .i64 0, .int .i64 0, .int .i64 3]) ∧ w = w' := by
  rcases h with h | h
  · skip
    go_enter Tryz.func51, Tryz.ntmps51
    go_wp2_with fail
    refine bodyPost_ret (v := .tuple #[.int .i64 0, .int .i64 0, .int .i64 0, .int .i64 3]) (by simp [results, Tryz.results51, go_sem, *]) rfl ⟨rfl, rfl⟩
  · have h0 : ¬ n < 0 := by omega
    go_enter Tryz.func51, Tryz.ntmps51
    go_wp2_with fail
    refine bodyPost_ret (v := .tuple #[.int .i64 0, .int .i64 0, .int .i64 0, .int .i64 3]) (by simp [results, Tryz.results51, go_sem, *]) rfl ⟨rfl, rfl⟩

set_option maxRecDepth 100000 in
set_option maxHeartbeats 1600000 in
theorem dDate_yes (n : Int) (w : World) (h1 : 0 ≤ n) (h2 : n ≤ 3652058) :
    Calls Tryz.prog 51 #[.int .i64 n] w fun e w' => ∃ y m d, e = .returned (.tuple #[.int .i64 y, .int .i64 ((m : Nat) + 1 : Int), .int .i64 d, .int .i64 0]) ∧ IsDate n y m d ∧ w = w' := by
  have c1 : ¬ n < 0 := by omega
  have c2 : ¬ 3652058 < n := by omega
  obtain ⟨q, hq⟩ : ∃ q : Int, n / 365 = q := ⟨_, rfl⟩
  have d1 : n.tdiv 365 = q := by rw [Int.tdiv_eq_ediv_of_nonneg h1, hq]
  obtain ⟨y0, hy0⟩ : ∃ y0 : Int, min (q + 1) 9999 = y0 := ⟨_, rfl⟩
  have q1 : 0 ≤ q := by omega
  have q2 : q ≤ 10005 := by omega
  have hw0 : IntKind.i64.wrap q = q := IntWalk.i64_in _ (by omega)
  have hw1 : IntKind.i64.wrap (q + 1) = q + 1 := IntWalk.i64_in _ (by omega)
  have hy1 : 1 ≤ y0 ∧ y0 ≤ 9999 := by omega
  have HY0 : Hid (n < fstY (y0 + 1)) := Lib.hid (by
    by_cases h : q + 1 ≤ 9999
    · have e : y0 = q + 1 := by omega
      rw [e]
      unfold fstY
      omega
    · have e : y0 = 9999 := by omega
      rw [e]
      have := fstY_end
      rw [show (9999 : Int) + 1 = 10000 by decide]
      omega)
  clear hq
  go_enter Tryz.func51, Tryz.ntmps51
  go_wp2_with fail
  go_loopg [2] 10000 (fun k yv wr => ∃ y : Int, yv = .int .i64 y ∧ 1 ≤ y ∧ y ≤ 9999 ∧ y ≤ k ∧ Hid (n < fstY (y + 1)) ∧ w = wr)
  case atStart => exact ⟨y0, by first | rfl | (simp [*]; done), hy1.1, hy1.2, by omega, HY0, rfl⟩
  case round =>
    obtain ⟨y, rfl, y1, y2, yk, HY, rfl⟩ := hrel
    obtain ⟨f, hf⟩ : ∃ f, fstY y = f := ⟨_, rfl⟩
    have hfm : 0 ≤ f := by
      have := fstY_mono (show (1 : Int) ≤ y by omega)
      rw [fstY_one] at this; omega
    have HF := Lib.hid hf
    by_cases hlt : n < f
    · have y3 : 2 ≤ y := by
        rcases (by omega : y = 1 ∨ 2 ≤ y) with h | h
        · rw [h, fstY_one] at hf; omega
        · exact h
      have hwy : IntKind.i64.wrap (y - 1) = y - 1 := IntWalk.i64_in _ (by omega)
      clear hf hy0 hy1 HY0
      go_wp2_with fail
      refine (dFirst_any y _ y1 (by omega)).mono ?_
      rintro e w1 ⟨rfl, rfl⟩
      rw [HF.out]
      go_wp2_with fail
      go_roundg (gk - 1)
      case measure => omega
      case rel => exact ⟨y - 1, by first | rfl | go_num, by omega, by omega, by omega, Lib.hid (by rw [show y - 1 + 1 = y by omega, HF.out]; exact hlt), rfl⟩
    · have hwn : IntKind.i64.wrap (n - f) = n - f := IntWalk.i64_in _ (by omega)
      have HN : Hid (n - f < mCum y 12) := Lib.hid (by
        rw [mCum_year]
        have := HY.out
        rw [fstY_succ, hf] at this
        omega)
      clear hf hy0 hy1 HY0
      go_wp2_with fail
      refine (dFirst_any y _ y1 (by omega)).mono ?_
      rintro e w1 ⟨rfl, rfl⟩
      rw [HF.out]
      go_wp2_with fail
      refine (dFirst_any y _ y1 (by omega)).mono ?_
      rintro e w1 ⟨rfl, rfl⟩
      rw [HF.out]
      go_wp2_with fail
      go_loopg [0, 3] 12 (fun k nv mv wr => ∃ (m : Nat) (c : Int), nv = .int .i64 c ∧ mv = .int .i64 ((m : Int) + 1) ∧ m < 12 ∧ 12 - m ≤ k ∧ Hid (c = n - f - mCum y m) ∧ 0 ≤ c ∧ c ≤ 5000000 ∧ w = wr)
      case atStart => exact ⟨0, n - f, rfl, by first | rfl | (simp; done), by omega, by omega, Lib.hid (by rw [mCum]; omega), by omega, by omega, rfl⟩
      case round =>
        obtain ⟨m, c, rfl, rfl, m12, mk, HC, c0, c5, rfl⟩ := hrel
        obtain ⟨l, hl⟩ : ∃ l, mLen y ((m : Int) + 1) = l := ⟨_, rfl⟩
        have hlb := mLen_bd y ((m : Int) + 1)
        rw [hl] at hlb
        have HL := Lib.hid hl
        clear hl hwn
        have hwm : IntKind.i64.wrap ((m : Int) + 1 + 1) = (m : Int) + 1 + 1 := IntWalk.i64_in _ (by omega)
        by_cases hge : l ≤ c
        · have m11 : m + 1 < 12 := by
            rcases (by omega : m + 1 < 12 ∨ m = 11) with h | h
            · exact h
            · have h3 := HN.out
              have h4 := HC.out
              have h5 := HL.out
              subst h
              rw [mCum] at h3
              have h6 : mLen y (((11 : Nat) : Int) + 1) = l := h5
              rw [h6] at h3
              omega
          have hwc : IntKind.i64.wrap (c - l) = c - l := IntWalk.i64_in _ (by omega)
          go_wp2_with fail
          refine (dLength_any y ((m : Int) + 1) _ (by omega) (by omega)).mono ?_
          rintro e w1 ⟨rfl, rfl⟩
          rw [HL.out]
          go_wp2_with fail
          refine (dLength_any y ((m : Int) + 1) _ (by omega) (by omega)).mono ?_
          rintro e w1 ⟨rfl, rfl⟩
          rw [HL.out]
          go_wp2_with fail
          go_roundg (gk - 1)
          case measure => omega
          case rel => exact ⟨m + 1, c - l, by first | rfl | go_num, by first | rfl | go_num, m11, by omega, Lib.hid (by rw [mCum, HL.out, HC.out]; omega), by omega, by omega, rfl⟩
        · have hwd : IntKind.i64.wrap (c + 1) = c + 1 := IntWalk.i64_in _ (by omega)
          have HD : Hid (IsDate n y m (c + 1)) := Lib.hid (by
            have h := IsDate.of (n := n) (y := y) (m := m) y1 (by rw [HF.out]; omega) HY.out (by omega) (by rw [HF.out]; have := HC.out; omega) (by rw [HF.out, mCum, HL.out]; have := HC.out; omega)
            rw [HF.out] at h
            rw [HC.out]
            exact h)
          go_wp2_with fail
          refine (dLength_any y ((m : Int) + 1) _ (by omega) (by omega)).mono ?_
          rintro e w1 ⟨rfl, rfl⟩
          rw [HL.out]
          go_wp2_with fail
          exact bodyPost_ret (v := .tuple #[.int .i64 y, .int .i64 ((m : Int) + 1), .int .i64 (c + 1), .int .i64 0]) (by simp [results, Tryz.results51, go_sem, *]) rfl ⟨y, m, c + 1, rfl, HD.out, rfl⟩

theorem itoaP (n : Nat) (hn : (n : Int) ≤ 9223372036854775807) (w : World) (hE : EnvP w) :
    Calls Tryz.prog 78 #[.int .i64 n] w fun e w' => e = .returned (.string ⟨(decDigits n).toArray⟩) ∧ Below w.heap.size w w' := by
  refine (Tryz.strconv_Itoa n (by omega) hn w hE.pow).mono ?_
  rintro e w' ⟨rfl, k, os, rfl⟩
  refine ⟨?_, below_grow (below_drewN (Below.refl _ _) k) (Nat.le_refl _) os⟩
  unfold itoa
  rw [if_neg (by omega), Int.toNat_natCast]

set_option maxHeartbeats 1600000 in
theorem dPad_any (u k : Nat) (w : World) (hu : (decDigits u).length ≤ k) (hk : k ≤ 4) (hE : EnvP w) (hn : u ≤ 99999) :
    Calls Tryz.prog 52 #[.int .i64 u, .int .i64 k] w fun e w' => e = .returned (.string ⟨(padD u k).toArray⟩) ∧ Below w.heap.size w w' := by
  obtain ⟨R, hR⟩ : ∃ R : ByteArray, ⟨(decDigits u).toArray⟩ = R := ⟨_, rfl⟩
  have hsz : R.size = (decDigits u).length := by rw [← hR, ba_size]
  obtain ⟨c, hc⟩ : ∃ c, k = R.size + c := ⟨k - R.size, by omega⟩
  have hw1 : IntKind.i64.wrap ((k : Int) - (R.size : Int)) = (c : Int) := by rw [IntWalk.i64_in _ (by omega)]; omega
  have hRs : R.size ≤ 4 := by omega
  have hc4 : c ≤ 4 := by omega
  obtain ⟨Z, hZ⟩ : ∃ Z : ByteArray, ⟨(repeatL (⟨#[48]⟩ : ByteArray).data.toList c).toArray⟩ = Z := ⟨_, rfl⟩
  have hZs : Z.size = c := by rw [← hZ, ba_size]; simp [repeatL_one]
  have HP : Hid (Z ++ R = ⟨(padD u k).toArray⟩) := Lib.hid (by
    rw [← hZ, ← hR, ba_append, repeatL_one]
    unfold padD
    rw [show k - (decDigits u).length = c by omega])
  have hov : ¬ 9223372036854775807 < Z.size + R.size := by omega
  have HR := Lib.hid hR
  have HZ := Lib.hid hZ
  clear hR hZ hsz hc hZs hu
  go_enter Tryz.func52, Tryz.ntmps52
  go_wp2_with fail
  refine (itoaP u (by omega) _ hE).mono ?_
  rintro e w1 ⟨rfl, hb1⟩
  rw [HR.out]
  go_wp2_with fail
  refine (Tryz.strings_Repeat ⟨#[48]⟩ c _ (by omega) (by rw [show (⟨#[48]⟩ : ByteArray).size = 1 from rfl]; omega)).mono ?_
  rintro e w2 ⟨rfl, hb2⟩
  rw [HZ.out]
  go_wp2_with fail
  go_ret
  exact ⟨by rw [← HP.out]; rfl, (by repeat' (first | (with_reducible exact Below.refl _ _) | (with_reducible assumption) | (with_reducible refine Below.drew ?_) | (with_reducible refine below_drewN ?_ _) | (with_reducible refine below_iterAt ?_ ?_ _ _) | (with_reducible refine below_iter ?_ ?_ _ _) | (with_reducible refine Below.alloc ?_ ?_ _) | (with_reducible refine Below.setCell ?_ ?_ _) | (with_reducible refine Below.trans ?_ (Below.mono (by assumption) ?_)) | (simp only [sz_alloc, sz_set, sz_drew, sz_drewN, sz_iterAt, sz_iter] at *; omega) | omega | (simp; done) | (simp; omega) | (apply Below.size; assumption) | (simp only [sz_drew, sz_drewN]; apply Below.size; assumption) | (refine Nat.le_trans ?_ (Below.size (by assumption)))))⟩

open Classical in
/-- a day's text, or none -/
noncomputable def dayRes (n : Int) : Value := if 0 ≤ n ∧ n ≤ 3652058 then .tuple #[.string ⟨(dayL n).toArray⟩, .int .i64 0] else .tuple #[.string ⟨#[]⟩, .int .i64 3]
theorem dateL_ba {y d : Int} {m : Nat} (Y M D : ByteArray) (hY : Y = ⟨(padD y.toNat 4).toArray⟩) (hM : M = ⟨(padD (m + 1) 2).toArray⟩) (hD : D = ⟨(padD d.toNat 2).toArray⟩) :
    Y ++ ⟨#[45]⟩ ++ M ++ ⟨#[45]⟩ ++ D = ⟨(dateL y m d).toArray⟩ := by
  rw [hY, hM, hD, show (⟨#[45]⟩ : ByteArray) = ⟨[45].toArray⟩ from rfl, ba_append, ba_append, ba_append, ba_append]
  unfold dateL
  congr 2
  simp
set_option maxHeartbeats 1600000 in
theorem dText_any (n : Int) (w : World) (hE : EnvP w) :
    Calls Tryz.prog 25 #[.int .i64 n] w fun e w' => e = .returned (dayRes n) ∧ Below w.heap.size w w' := by
  by_cases h : 0 ≤ n ∧ n ≤ 3652058
  · have HRES : Hid (dayRes n = .tuple #[.string ⟨(dayL n).toArray⟩, .int .i64 0]) := Lib.hid (by unfold dayRes; rw [if_pos h])
    obtain ⟨h1, h2⟩ := h
    go_enter Tryz.func25, Tryz.ntmps25
    go_wp2_with fail
    refine (dDate_yes n _ h1 h2).mono ?_
    rintro e w1 ⟨y, m, d, rfl, hdt, rfl⟩
    have y1 := hdt.y1
    have y2 := hdt.y2
    have m2 := hdt.m2
    have d1 := hdt.d_bd
    obtain ⟨yn, rfl⟩ : ∃ yn : Nat, y = (yn : Int) := ⟨y.toNat, by omega⟩
    obtain ⟨dn, rfl⟩ : ∃ dn : Nat, d = (dn : Int) := ⟨d.toNat, by omega⟩
    obtain ⟨mn, hmn⟩ : ∃ mn : Nat, m + 1 = mn := ⟨_, rfl⟩
    have hmi : (m : Int) + 1 = (mn : Int) := by omega
    rw [hmi]
    have hmn9 : mn ≤ 99999 := by omega
    have HDL : Hid (dayL n = dateL yn m dn) := Lib.hid (dayL_eq hdt)
    obtain ⟨Y, hY⟩ : ∃ Y : ByteArray, ⟨(padD yn 4).toArray⟩ = Y := ⟨_, rfl⟩
    obtain ⟨M, hM⟩ : ∃ M : ByteArray, ⟨(padD mn 2).toArray⟩ = M := ⟨_, rfl⟩
    obtain ⟨D, hD⟩ : ∃ D : ByteArray, ⟨(padD dn 2).toArray⟩ = D := ⟨_, rfl⟩
    have l4 : (decDigits yn).length ≤ 4 := dec_len_lt (k := 3) (by omega)
    have l2 : (decDigits mn).length ≤ 2 := dec_len_lt (k := 1) (by omega)
    have l3 : (decDigits dn).length ≤ 2 := dec_len_lt (k := 1) (by omega)
    have sY : Y.size = 4 := by rw [← hY, ba_size, padD_len l4]
    have sM : M.size = 2 := by rw [← hM, ba_size, padD_len l2]
    have sD : D.size = 2 := by rw [← hD, ba_size, padD_len l3]
    have HY := Lib.hid hY
    have HM := Lib.hid hM
    have HD := Lib.hid hD
    have HDA : Hid (Y ++ ⟨#[45]⟩ ++ M ++ ⟨#[45]⟩ ++ D = ⟨(dayL n).toArray⟩) := Lib.hid (by
      rw [HDL.out]
      exact dateL_ba Y M D (by rw [← hY, Int.toNat_natCast]) (by rw [← hM, hmn]) (by rw [← hD, Int.toNat_natCast]))
    clear hY hM hD hdt hmi hmn
    go_wp2_with fail
    refine (dPad_any yn 4 _ l4 (by omega) (hE.below (by repeat' (first | (with_reducible exact Below.refl _ _) | (with_reducible assumption) | (with_reducible refine Below.drew ?_) | (with_reducible refine below_drewN ?_ _) | (with_reducible refine below_iterAt ?_ ?_ _ _) | (with_reducible refine below_iter ?_ ?_ _ _) | (with_reducible refine Below.alloc ?_ ?_ _) | (with_reducible refine Below.setCell ?_ ?_ _) | (with_reducible refine Below.trans ?_ (Below.mono (by assumption) ?_)) | (simp only [sz_alloc, sz_set, sz_drew, sz_drewN, sz_iterAt, sz_iter] at *; omega) | omega | (simp; done) | (simp; omega) | (apply Below.size; assumption) | (simp only [sz_drew, sz_drewN]; apply Below.size; assumption) | (refine Nat.le_trans ?_ (Below.size (by assumption)))))) (by omega)).mono ?_
    rintro e w2 ⟨rfl, hb2⟩
    rw [HY.out]
    go_wp2_with fail
    refine (dPad_any mn 2 _ l2 (by omega) (hE.below (by repeat' (first | (with_reducible exact Below.refl _ _) | (with_reducible assumption) | (with_reducible refine Below.drew ?_) | (with_reducible refine below_drewN ?_ _) | (with_reducible refine below_iterAt ?_ ?_ _ _) | (with_reducible refine below_iter ?_ ?_ _ _) | (with_reducible refine Below.alloc ?_ ?_ _) | (with_reducible refine Below.setCell ?_ ?_ _) | (with_reducible refine Below.trans ?_ (Below.mono (by assumption) ?_)) | (simp only [sz_alloc, sz_set, sz_drew, sz_drewN, sz_iterAt, sz_iter] at *; omega) | omega | (simp; done) | (simp; omega) | (apply Below.size; assumption) | (simp only [sz_drew, sz_drewN]; apply Below.size; assumption) | (refine Nat.le_trans ?_ (Below.size (by assumption)))))) (by omega)).mono ?_
    rintro e w3 ⟨rfl, hb3⟩
    rw [HM.out]
    go_wp2_with fail
    refine (dPad_any dn 2 _ l3 (by omega) (hE.below (by repeat' (first | (with_reducible exact Below.refl _ _) | (with_reducible assumption) | (with_reducible refine Below.drew ?_) | (with_reducible refine below_drewN ?_ _) | (with_reducible refine below_iterAt ?_ ?_ _ _) | (with_reducible refine below_iter ?_ ?_ _ _) | (with_reducible refine Below.alloc ?_ ?_ _) | (with_reducible refine Below.setCell ?_ ?_ _) | (with_reducible refine Below.trans ?_ (Below.mono (by assumption) ?_)) | (simp only [sz_alloc, sz_set, sz_drew, sz_drewN, sz_iterAt, sz_iter] at *; omega) | omega | (simp; done) | (simp; omega) | (apply Below.size; assumption) | (simp only [sz_drew, sz_drewN]; apply Below.size; assumption) | (refine Nat.le_trans ?_ (Below.size (by assumption)))))) (by omega)).mono ?_
    rintro e w4 ⟨rfl, hb4⟩
    rw [HD.out]
    go_wp2_with fail
    go_ret2
    exact ⟨by rw [HRES.out, ← HDA.out]; rfl, (by repeat' (first | (with_reducible exact Below.refl _ _) | (with_reducible assumption) | (with_reducible refine Below.drew ?_) | (with_reducible refine below_drewN ?_ _) | (with_reducible refine below_iterAt ?_ ?_ _ _) | (with_reducible refine below_iter ?_ ?_ _ _) | (with_reducible refine Below.alloc ?_ ?_ _) | (with_reducible refine Below.setCell ?_ ?_ _) | (with_reducible refine Below.trans ?_ (Below.mono (by assumption) ?_)) | (simp only [sz_alloc, sz_set, sz_drew, sz_drewN, sz_iterAt, sz_iter] at *; omega) | omega | (simp; done) | (simp; omega) | (apply Below.size; assumption) | (simp only [sz_drew, sz_drewN]; apply Below.size; assumption) | (refine Nat.le_trans ?_ (Below.size (by assumption)))))⟩
  · have HRES : Hid (dayRes n = .tuple #[.string ⟨#[]⟩, .int .i64 3]) := Lib.hid (by unfold dayRes; rw [if_neg h])
    have h3 : n < 0 ∨ 3652058 < n := by omega
    clear h
    go_enter Tryz.func25, Tryz.ntmps25
    go_wp2_with fail
    refine (dDate_no n _ h3).mono ?_
    rintro e w1 ⟨rfl, rfl⟩
    go_wp2_with fail
    go_ret2
    exact ⟨by rw [HRES.out]; rfl, (by repeat' (first | (with_reducible exact Below.refl _ _) | (with_reducible assumption) | (with_reducible refine Below.drew ?_) | (with_reducible refine below_drewN ?_ _) | (with_reducible refine below_iterAt ?_ ?_ _ _) | (with_reducible refine below_iter ?_ ?_ _ _) | (with_reducible refine Below.alloc ?_ ?_ _) | (with_reducible refine Below.setCell ?_ ?_ _) | (with_reducible refine Below.trans ?_ (Below.mono (by assumption) ?_)) | (simp only [sz_alloc, sz_set, sz_drew, sz_drewN, sz_iterAt, sz_iter] at *; omega) | omega | (simp; done) | (simp; omega) | (apply Below.size; assumption) | (simp only [sz_drew, sz_drewN]; apply Below.size; assumption) | (refine Nat.le_trans ?_ (Below.size (by assumption)))))⟩
end Go.Proofs.YthicilfhnakhmaaGreatDoor
