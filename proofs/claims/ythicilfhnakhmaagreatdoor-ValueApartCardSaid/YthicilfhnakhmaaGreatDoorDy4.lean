/- soffitref02: Date, padded, Text; soffitref01.Number: walked. -/
import Derived.Test.YthicilfhnakhmaaGreatDoorDy3
set_option linter.unusedSimpArgs false
set_option linter.unusedVariables false
namespace Go.Proofs.YthicilfhnakhmaaGreatDoor
open Go.RowKit Go.Sort Go.Lib

set_option maxHeartbeats 800000 in
theorem rDate_no (n : Int) (w : World) (h : n < 0 ∨ 3652058 < n) :
    Calls Tryz.prog 54 #[.int .i64 n] w fun e w' => e = .returned (.tuple #[.int .i64 0, .int .i64 0, .int .i64 0, .int .i64 3]) ∧ w = w' := by
  rcases h with h | h
  · skip
    go_enter Tryz.func54, Tryz.ntmps54
    go_wp2_with fail
    refine bodyPost_ret (v := .tuple #[.int .i64 0, .int .i64 0, .int .i64 0, .int .i64 3]) (by simp [results, Tryz.results54, go_sem, *]) rfl ⟨rfl, rfl⟩
  · have h0 : ¬ n < 0 := by omega
    go_enter Tryz.func54, Tryz.ntmps54
    go_wp2_with fail
    refine bodyPost_ret (v := .tuple #[.int .i64 0, .int .i64 0, .int .i64 0, .int .i64 3]) (by simp [results, Tryz.results54, go_sem, *]) rfl ⟨rfl, rfl⟩

set_option maxRecDepth 100000 in
set_option maxHeartbeats 1600000 in
theorem rDate_yes (n : Int) (w : World) (h1 : 0 ≤ n) (h2 : n ≤ 3652058) :
    Calls Tryz.prog 54 #[.int .i64 n] w fun e w' => ∃ y m d, e = .returned (.tuple #[.int .i64 y, .int .i64 ((m : Nat) + 1 : Int), .int .i64 d, .int .i64 0]) ∧ IsDate n y m d ∧ Below w.heap.size w w' := by
  have c1 : ¬ n < 0 := by omega
  have c2 : ¬ 3652058 < n := by omega
  go_enter Tryz.func54, Tryz.ntmps54
  go_wp2_with fail
  go_loopg [0, 6] 10000 (fun k nv yv wr => ∃ y c : Int, nv = .int .i64 c ∧ yv = .int .i64 y ∧ 1 ≤ y ∧ y ≤ 9999 ∧ 9999 - y ≤ k ∧ Hid (c = n - fstY y) ∧ 0 ≤ c ∧ c ≤ 5000000 ∧ w = wr)
  case atStart => exact ⟨1, n, rfl, rfl, by omega, by omega, by omega, Lib.hid (by rw [fstY_one]; omega), by omega, by omega, rfl⟩
  case round =>
    obtain ⟨y, c, rfl, rfl, y1, y2, yk, HC, c0, c5, rfl⟩ := hrel
    obtain ⟨l, hl⟩ : ∃ l, yearL y = l := ⟨_, rfl⟩
    have hlb : 365 ≤ l ∧ l ≤ 366 := by rw [← hl]; unfold yearL; split <;> omega
    have HL := Lib.hid hl
    by_cases hge : l ≤ c
    · have y3 : y < 9999 := by
        rcases (by omega : y < 9999 ∨ y = 9999) with h | h
        · exact h
        · exfalso
          have a := HC.out
          have b := fstY_succ y
          rw [hl, h] at b
          rw [h] at a
          have e := fstY_end
          rw [show (9999 : Int) + 1 = 10000 by decide] at b
          omega
      have hwy : IntKind.i64.wrap (y + 1) = y + 1 := IntWalk.i64_in _ (by omega)
      have hwc : IntKind.i64.wrap (c - l) = c - l := IntWalk.i64_in _ (by omega)
      clear hl
      go_wp2_with fail
      refine (rYears_any y _ (by omega) (by omega)).mono ?_
      rintro e w1 ⟨rfl, rfl⟩
      rw [HL.out]
      go_wp2_with fail
      refine (rYears_any y _ (by omega) (by omega)).mono ?_
      rintro e w1 ⟨rfl, rfl⟩
      rw [HL.out]
      go_wp2_with fail
      go_roundg (gk - 1)
      case measure => omega
      case rel => exact ⟨y + 1, c - l, by first | rfl | go_num, by first | rfl | go_num, by omega, by omega, by omega, Lib.hid (by rw [fstY_succ, HL.out, HC.out]; omega), by omega, by omega, rfl⟩
    · have HN : Hid (c < mCum y 12) := Lib.hid (by rw [mCum_year, hl]; omega)
      clear hl
      go_wp2_with fail
      refine (rYears_any y _ (by omega) (by omega)).mono ?_
      rintro e w1 ⟨rfl, rfl⟩
      rw [HL.out]
      go_wp2_with fail
      obtain ⟨r, hr⟩ : ∃ r, c = r := ⟨_, rfl⟩
      go_loopg [0, 7] 12 (fun k nv mv wr => ∃ (m : Nat) (c' : Int), nv = .int .i64 c' ∧ mv = .int .i64 ((m : Int) + 1) ∧ m < 12 ∧ 12 - m ≤ k ∧ Hid (c' = c - mCum y m) ∧ 0 ≤ c' ∧ c' ≤ 5000000 ∧ Below w.heap.size w wr)
      case atStart => exact ⟨0, c, rfl, by first | rfl | (simp; done), by omega, by omega, Lib.hid (by rw [mCum]; omega), by omega, by omega, Below.refl _ _⟩
      case round =>
        obtain ⟨m, c', rfl, rfl, m12, mk, HC', c0', c5', hbel⟩ := hrel
        obtain ⟨l', hl'⟩ : ∃ l', mLen y ((m : Int) + 1) = l' := ⟨_, rfl⟩
        have hlb' := mLen_bd y ((m : Int) + 1)
        rw [hl'] at hlb'
        have HL' := Lib.hid hl'
        clear hl' hr
        have hsz := hbel.size
        have hwm : IntKind.i64.wrap ((m : Int) + 1 + 1) = (m : Int) + 1 + 1 := IntWalk.i64_in _ (by omega)
        by_cases hge' : l' ≤ c'
        · have m11 : m + 1 < 12 := by
            rcases (by omega : m + 1 < 12 ∨ m = 11) with h | h
            · exact h
            · have h3 := HN.out
              have h4 := HC'.out
              have h5 := HL'.out
              subst h
              rw [mCum] at h3
              have h6 : mLen y (((11 : Nat) : Int) + 1) = l' := h5
              rw [h6] at h3
              omega
          have hwc : IntKind.i64.wrap (c' - l') = c' - l' := IntWalk.i64_in _ (by omega)
          go_wp2_with fail
          refine (rLength_any y m _ (by omega) (by omega) m12).mono ?_
          rintro e w1 ⟨rfl, hb1⟩
          rw [HL'.out]
          go_wp2_with fail
          refine (rLength_any y m _ (by omega) (by omega) m12).mono ?_
          rintro e w2 ⟨rfl, hb2⟩
          rw [HL'.out]
          go_wp2_with fail
          go_roundg (gk - 1)
          case measure => omega
          case rel => exact ⟨m + 1, c' - l', by first | rfl | go_num, by first | rfl | go_num, m11, by omega, Lib.hid (by rw [mCum, HL'.out, HC'.out]; omega), by omega, by omega, (by repeat' (first | (with_reducible exact Below.refl _ _) | (with_reducible assumption) | (with_reducible refine Below.drew ?_) | (with_reducible refine below_drewN ?_ _) | (with_reducible refine below_iterAt ?_ ?_ _ _) | (with_reducible refine below_iter ?_ ?_ _ _) | (with_reducible refine Below.alloc ?_ ?_ _) | (with_reducible refine Below.setCell ?_ ?_ _) | (with_reducible refine Below.trans ?_ (Below.mono (by assumption) ?_)) | (simp only [sz_alloc, sz_set, sz_drew, sz_drewN, sz_iterAt, sz_iter] at *; omega) | omega | (simp; done) | (simp; omega) | (apply Below.size; assumption) | (simp only [sz_drew, sz_drewN]; apply Below.size; assumption) | (refine Nat.le_trans ?_ (Below.size (by assumption)))))⟩
        · have hwd : IntKind.i64.wrap (c' + 1) = c' + 1 := IntWalk.i64_in _ (by omega)
          have HD : Hid (IsDate n y m (c' + 1)) := Lib.hid (by
            have hc := HC.out
            have h := IsDate.of (n := n) (y := y) (m := m) y1 (by omega) (by rw [fstY_succ, HL.out]; omega) (by omega) (by have := HC'.out; omega) (by rw [mCum, HL'.out]; have := HC'.out; omega)
            rw [HC'.out, hc]
            exact h)
          go_wp2_with fail
          refine (rLength_any y m _ (by omega) (by omega) m12).mono ?_
          rintro e w1 ⟨rfl, hb1⟩
          rw [HL'.out]
          go_wp2_with fail
          exact bodyPost_ret (v := .tuple #[.int .i64 y, .int .i64 ((m : Int) + 1), .int .i64 (c' + 1), .int .i64 0]) (by simp [results, Tryz.results54, go_sem, *]) rfl ⟨y, m, c' + 1, rfl, HD.out, (by repeat' (first | (with_reducible exact Below.refl _ _) | (with_reducible assumption) | (with_reducible refine Below.drew ?_) | (with_reducible refine below_drewN ?_ _) | (with_reducible refine below_iterAt ?_ ?_ _ _) | (with_reducible refine below_iter ?_ ?_ _ _) | (with_reducible refine Below.alloc ?_ ?_ _) | (with_reducible refine Below.setCell ?_ ?_ _) | (with_reducible refine Below.trans ?_ (Below.mono (by assumption) ?_)) | (simp only [sz_alloc, sz_set, sz_drew, sz_drewN, sz_iterAt, sz_iter] at *; omega) | omega | (simp; done) | (simp; omega) | (apply Below.size; assumption) | (simp only [sz_drew, sz_drewN]; apply Below.size; assumption) | (refine Nat.le_trans ?_ (Below.size (by assumption)))))⟩

set_option maxRecDepth 100000 in
set_option maxHeartbeats 1600000 in
theorem rNumber_any (u : Nat) (w : World) (hu : u ≤ 99999) :
    Calls Tryz.prog 81 #[.int .i64 u] w fun e w' => e = .returned (.string ⟨(decDigits u).toArray⟩) ∧ Below w.heap.size w w' := by
  obtain ⟨R, hR⟩ : ∃ R : ByteArray, ⟨(decDigits u).toArray⟩ = R := ⟨_, rfl⟩
  rw [hR]
  have HDF := Lib.hid (restD_first u)
  obtain ⟨d, hdm⟩ : ∃ d, u % 10 = d := ⟨_, rfl⟩
  have hd10 : d < 10 := by omega
  obtain ⟨x, hx⟩ : ∃ x, UInt8.ofNat (48 + d) = x := ⟨_, rfl⟩
  rw [hdm, hx] at HDF
  have hr1 : (u : Int) % 10 = (d : Int) := by omega
  have hr2 : (u : Int).tmod 10 = (d : Int) := by rw [Int.tmod_eq_emod_of_nonneg (by omega)]; omega
  have hr3 : IntKind.i64.wrap (48 + (d : Int)) = 48 + (d : Int) := IntWalk.i64_in _ (by omega)
  have hr4 : IntKind.u8.wrap (48 + (d : Int)) = 48 + (d : Int) := by rw [IntKind.wrap_u8]; omega
  have hcv : ∀ W : World, (convert 87 9 (.slice (some ⟨W.heap.size, 0, none⟩) 1 1)).run Tryz.prog (W.alloc (.cells #[.int .u8 (48 + (d : Int))] 5)) = .ok (.string ⟨#[x]⟩) (W.alloc (.cells #[.int .u8 (48 + (d : Int))] 5)) := fun W => by rw [conv1 d hd10 W 5, hx]
  clear hdm hx
  have H0 : Hid (R.data.toList = restD u ++ (⟨#[x]⟩ : ByteArray).data.toList) := Lib.hid (by rw [← hR]; exact HDF.out)
  clear hR HDF
  go_enter Tryz.func81, Tryz.ntmps81
  go_wp2_with fail
  go_loopg [0, 3] 6 (fun k nv sv wq => ∃ (m : Nat) (S : ByteArray), m < 10 ^ k ∧ m ≤ 99999 ∧ nv = .int .i64 (m : Int) ∧ sv = .string S ∧ Hid (R.data.toList = restD m ++ S.data.toList) ∧ S.size + k ≤ 40 ∧ Below w.heap.size w wq)
  case atStart => exact ⟨u, ⟨#[x]⟩, by omega, hu, rfl, rfl, H0, by show 1 + 6 ≤ 40; omega, (by repeat' (first | (with_reducible exact Below.refl _ _) | (with_reducible assumption) | (with_reducible refine Below.drew ?_) | (with_reducible refine below_drewN ?_ _) | (with_reducible refine below_iterAt ?_ ?_ _ _) | (with_reducible refine below_iter ?_ ?_ _ _) | (with_reducible refine Below.alloc ?_ ?_ _) | (with_reducible refine Below.setCell ?_ ?_ _) | (with_reducible refine Below.trans ?_ (Below.mono (by assumption) ?_)) | (simp only [sz_alloc, sz_set, sz_drew, sz_drewN, sz_iterAt, sz_iter] at *; omega) | omega | (simp; done) | (simp; omega) | (apply Below.size; assumption) | (simp only [sz_drew, sz_drewN]; apply Below.size; assumption) | (refine Nat.le_trans ?_ (Below.size (by assumption)))))⟩
  case round =>
    clear hr1 hr2 hr3 hr4 hcv
    obtain ⟨m, S, hmk, hm12, rfl, rfl, HS, hSk, hbel⟩ := hrel
    have hsz2 := hbel.size
    by_cases h10 : 10 ≤ m
    · have HST := Lib.hid (restD_step m h10)
      obtain ⟨q, hq⟩ : ∃ q, m / 10 = q := ⟨_, rfl⟩
      rw [hq] at HST
      obtain ⟨e, hdm⟩ : ∃ e, q % 10 = e := ⟨_, rfl⟩
      have hd10 : e < 10 := by omega
      obtain ⟨z, hx⟩ : ∃ z, UInt8.ofNat (48 + e) = z := ⟨_, rfl⟩
      rw [hdm, hx] at HST
      have hr1 : (q : Int) % 10 = (e : Int) := by omega
      have hr2 : (q : Int).tmod 10 = (e : Int) := by rw [Int.tmod_eq_emod_of_nonneg (by omega)]; omega
      have hr3 : IntKind.i64.wrap (48 + (e : Int)) = 48 + (e : Int) := IntWalk.i64_in _ (by omega)
      have hr4 : IntKind.u8.wrap (48 + (e : Int)) = 48 + (e : Int) := by rw [IntKind.wrap_u8]; omega
      have hcv : ∀ W : World, (convert 87 9 (.slice (some ⟨W.heap.size, 0, none⟩) 1 1)).run Tryz.prog (W.alloc (.cells #[.int .u8 (48 + (e : Int))] 5)) = .ok (.string ⟨#[z]⟩) (W.alloc (.cells #[.int .u8 (48 + (e : Int))] 5)) := fun W => by rw [conv1 e hd10 W 5, hx]
      clear hdm hx
      have hS1 : ¬ 9223372036854775807 < 1 + S.size := by omega
      have hq1 : (m : Int) / 10 = (q : Int) := by omega
      have hq2 : (m : Int).tdiv 10 = (q : Int) := by rw [Int.tdiv_eq_ediv_of_nonneg (by omega)]; omega
      have h10' : (10 : Int) ≤ (m : Int) := by omega
      have hqk : q < 10 ^ (gk - 1) := by
        rcases gk with _ | g
        · omega
        · rw [Nat.pow_succ] at hmk; simp; omega
      have hgk : 0 < gk := by
        rcases gk with _ | g
        · omega
        · omega
      have hq12 : q ≤ 99999 := by omega
      have HQ := Lib.hid hq
      clear hq hmk
      go_wp2_with fail
      go_roundg (gk - 1)
      case measure => omega
      case rel =>
        refine ⟨q, ⟨#[z]⟩ ++ S, hqk, hq12, by first | rfl | go_num, rfl, Lib.hid ?_, ?_, (by repeat' (first | (with_reducible exact Below.refl _ _) | (with_reducible assumption) | (with_reducible refine Below.drew ?_) | (with_reducible refine below_drewN ?_ _) | (with_reducible refine below_iterAt ?_ ?_ _ _) | (with_reducible refine below_iter ?_ ?_ _ _) | (with_reducible refine Below.alloc ?_ ?_ _) | (with_reducible refine Below.setCell ?_ ?_ _) | (with_reducible refine Below.trans ?_ (Below.mono (by assumption) ?_)) | (simp only [sz_alloc, sz_set, sz_drew, sz_drewN, sz_iterAt, sz_iter] at *; omega) | omega | (simp; done) | (simp; omega) | (apply Below.size; assumption) | (simp only [sz_drew, sz_drewN]; apply Below.size; assumption) | (refine Nat.le_trans ?_ (Below.size (by assumption)))))⟩
        · rw [HS.out, HST.out, show (⟨#[z]⟩ : ByteArray) = ⟨[z].toArray⟩ from rfl, show S = ⟨S.data.toList.toArray⟩ from rfl, ba_append]; simp
        · rw [ByteArray.size_append, show (⟨#[z]⟩ : ByteArray).size = 1 from rfl]; omega
    · have h10' : ¬ (10 : Int) ≤ (m : Int) := by omega
      have HE : Hid (S = R) := Lib.hid (by
        apply ByteArray.ext
        apply Array.toList_inj.1
        rw [HS.out]; unfold restD; rw [if_pos (by omega)]; rfl)
      go_wp2_with fail
      go_ret
      exact ⟨by rw [← HE.out]; rfl, hbel⟩

set_option maxHeartbeats 1600000 in
theorem rPadded_any (u k : Nat) (w : World) (hu : (decDigits u).length ≤ k) (hk : k ≤ 4) (hn : u ≤ 99999) :
    Calls Tryz.prog 55 #[.int .i64 u, .int .i64 k] w fun e w' => e = .returned (.string ⟨(padD u k).toArray⟩) ∧ Below w.heap.size w w' := by
  obtain ⟨R, hR⟩ : ∃ R : ByteArray, ⟨(decDigits u).toArray⟩ = R := ⟨_, rfl⟩
  have hsz : R.size = (decDigits u).length := by rw [← hR, ba_size]
  have HR := Lib.hid hR
  have hRk : R.size ≤ k := by omega
  have HP : Hid (⟨(padD u k).toArray⟩ = (⟨(List.replicate (k - R.size) 48 ++ R.data.toList).toArray⟩ : ByteArray)) := Lib.hid (by
    unfold padD
    rw [hsz, ← hR])
  clear hR hsz
  go_enter Tryz.func55, Tryz.ntmps55
  go_wp2_with fail
  refine (rNumber_any u _ hn).mono ?_
  rintro e w1 ⟨rfl, hb1⟩
  rw [HR.out]
  go_wp2_with fail
  go_loopg [5] 4 (fun g sv wq => ∃ S : ByteArray, sv = .string S ∧ S.size ≤ k ∧ k - S.size ≤ g ∧ Hid (⟨(padD u k).toArray⟩ = (⟨(List.replicate (k - S.size) 48 ++ S.data.toList).toArray⟩ : ByteArray)) ∧ w1 = wq)
  case atStart => exact ⟨R, rfl, hRk, by omega, HP, rfl⟩
  case round =>
    obtain ⟨S, rfl, hS, hSg, HS, rfl⟩ := hrel
    by_cases hlt : S.size < k
    · have hlt' : (S.size : Int) < (k : Int) := by omega
      have hov : ¬ 9223372036854775807 < 1 + S.size := by omega
      go_wp2_with fail
      go_roundg (gk - 1)
      case measure => omega
      case rel =>
        have hs1 : ((⟨#[48]⟩ : ByteArray) ++ S).size = 1 + S.size := by rw [ByteArray.size_append]; rfl
        refine ⟨⟨#[48]⟩ ++ S, rfl, by rw [hs1]; omega, by rw [hs1]; omega, Lib.hid ?_, rfl⟩
        rw [HS.out, hs1, show k - S.size = (k - (1 + S.size)) + 1 by omega, List.replicate_succ', show (⟨#[48]⟩ : ByteArray) = ⟨[48].toArray⟩ from rfl, show S = ⟨S.data.toList.toArray⟩ from rfl, ba_append]
        simp
    · have hlt' : ¬ (S.size : Int) < (k : Int) := by omega
      have HE : Hid (S = ⟨(padD u k).toArray⟩) := Lib.hid (by rw [HS.out, show k - S.size = 0 by omega]; rfl)
      go_wp2_with fail
      go_ret
      exact ⟨by rw [← HE.out]; rfl, (by repeat' (first | (with_reducible exact Below.refl _ _) | (with_reducible assumption) | (with_reducible refine Below.drew ?_) | (with_reducible refine below_drewN ?_ _) | (with_reducible refine below_iterAt ?_ ?_ _ _) | (with_reducible refine below_iter ?_ ?_ _ _) | (with_reducible refine Below.alloc ?_ ?_ _) | (with_reducible refine Below.setCell ?_ ?_ _) | (with_reducible refine Below.trans ?_ (Below.mono (by assumption) ?_)) | (simp only [sz_alloc, sz_set, sz_drew, sz_drewN, sz_iterAt, sz_iter] at *; omega) | omega | (simp; done) | (simp; omega) | (apply Below.size; assumption) | (simp only [sz_drew, sz_drewN]; apply Below.size; assumption) | (refine Nat.le_trans ?_ (Below.size (by assumption)))))⟩

set_option maxHeartbeats 1600000 in
theorem rdText_any (n : Int) (w : World) :
    Calls Tryz.prog 28 #[.int .i64 n] w fun e w' => e = .returned (dayRes n) ∧ Below w.heap.size w w' := by
  by_cases h : 0 ≤ n ∧ n ≤ 3652058
  · have HRES : Hid (dayRes n = .tuple #[.string ⟨(dayL n).toArray⟩, .int .i64 0]) := Lib.hid (by unfold dayRes; rw [if_pos h])
    obtain ⟨h1, h2⟩ := h
    go_enter Tryz.func28, Tryz.ntmps28
    go_wp2_with fail
    refine (rDate_yes n _ h1 h2).mono ?_
    rintro e w1 ⟨y, m, d, rfl, hdt, hb1⟩
    have y1 := hdt.y1
    have y2 := hdt.y2
    have m2 := hdt.m2
    have d1 := hdt.d_bd
    obtain ⟨yn, rfl⟩ : ∃ yn : Nat, y = (yn : Int) := ⟨y.toNat, by omega⟩
    obtain ⟨dn, rfl⟩ : ∃ dn : Nat, d = (dn : Int) := ⟨d.toNat, by omega⟩
    obtain ⟨mn, hmn⟩ : ∃ mn : Nat, m + 1 = mn := ⟨_, rfl⟩
    have hmi : (m : Int) + 1 = (mn : Int) := by omega
    rw [hmi]
    have hmn9 : mn ≤ 99999 := by omega
    have HDL : Hid (dayL n = dateL yn m dn) := Lib.hid (dayL_eq hdt)
    obtain ⟨Y, hY⟩ : ∃ Y : ByteArray, ⟨(padD yn 4).toArray⟩ = Y := ⟨_, rfl⟩
    obtain ⟨M, hM⟩ : ∃ M : ByteArray, ⟨(padD mn 2).toArray⟩ = M := ⟨_, rfl⟩
    obtain ⟨D, hD⟩ : ∃ D : ByteArray, ⟨(padD dn 2).toArray⟩ = D := ⟨_, rfl⟩
    have l4 : (decDigits yn).length ≤ 4 := dec_len_lt (k := 3) (by omega)
    have l2 : (decDigits mn).length ≤ 2 := dec_len_lt (k := 1) (by omega)
    have l3 : (decDigits dn).length ≤ 2 := dec_len_lt (k := 1) (by omega)
    have sY : Y.size = 4 := by rw [← hY, ba_size, padD_len l4]
    have sM : M.size = 2 := by rw [← hM, ba_size, padD_len l2]
    have sD : D.size = 2 := by rw [← hD, ba_size, padD_len l3]
    have HY := Lib.hid hY
    have HM := Lib.hid hM
    have HD := Lib.hid hD
    have HDA : Hid (Y ++ ⟨#[45]⟩ ++ M ++ ⟨#[45]⟩ ++ D = ⟨(dayL n).toArray⟩) := Lib.hid (by
      rw [HDL.out]
      exact dateL_ba Y M D (by rw [← hY, Int.toNat_natCast]) (by rw [← hM, hmn]) (by rw [← hD, Int.toNat_natCast]))
    clear hY hM hD hdt hmi hmn
    go_wp2_with fail
    refine (rPadded_any yn 4 _ l4 (by omega) (by omega)).mono ?_
    rintro e w2 ⟨rfl, hb2⟩
    rw [HY.out]
    go_wp2_with fail
    refine (rPadded_any mn 2 _ l2 (by omega) (by omega)).mono ?_
    rintro e w3 ⟨rfl, hb3⟩
    rw [HM.out]
    go_wp2_with fail
    refine (rPadded_any dn 2 _ l3 (by omega) (by omega)).mono ?_
    rintro e w4 ⟨rfl, hb4⟩
    rw [HD.out]
    go_wp2_with fail
    go_ret2
    exact ⟨by rw [HRES.out, ← HDA.out]; rfl, (by repeat' (first | (with_reducible exact Below.refl _ _) | (with_reducible assumption) | (with_reducible refine Below.drew ?_) | (with_reducible refine below_drewN ?_ _) | (with_reducible refine below_iterAt ?_ ?_ _ _) | (with_reducible refine below_iter ?_ ?_ _ _) | (with_reducible refine Below.alloc ?_ ?_ _) | (with_reducible refine Below.setCell ?_ ?_ _) | (with_reducible refine Below.trans ?_ (Below.mono (by assumption) ?_)) | (simp only [sz_alloc, sz_set, sz_drew, sz_drewN, sz_iterAt, sz_iter] at *; omega) | omega | (simp; done) | (simp; omega) | (apply Below.size; assumption) | (simp only [sz_drew, sz_drewN]; apply Below.size; assumption) | (refine Nat.le_trans ?_ (Below.size (by assumption)))))⟩
  · have HRES : Hid (dayRes n = .tuple #[.string ⟨#[]⟩, .int .i64 3]) := Lib.hid (by unfold dayRes; rw [if_neg h])
    have h3 : n < 0 ∨ 3652058 < n := by omega
    clear h
    go_enter Tryz.func28, Tryz.ntmps28
    go_wp2_with fail
    refine (rDate_no n _ h3).mono ?_
    rintro e w1 ⟨rfl, rfl⟩
    go_wp2_with fail
    go_ret2
    exact ⟨by rw [HRES.out]; rfl, (by repeat' (first | (with_reducible exact Below.refl _ _) | (with_reducible assumption) | (with_reducible refine Below.drew ?_) | (with_reducible refine below_drewN ?_ _) | (with_reducible refine below_iterAt ?_ ?_ _ _) | (with_reducible refine below_iter ?_ ?_ _ _) | (with_reducible refine Below.alloc ?_ ?_ _) | (with_reducible refine Below.setCell ?_ ?_ _) | (with_reducible refine Below.trans ?_ (Below.mono (by assumption) ?_)) | (simp only [sz_alloc, sz_set, sz_drew, sz_drewN, sz_iterAt, sz_iter] at *; omega) | omega | (simp; done) | (simp; omega) | (apply Below.size; assumption) | (simp only [sz_drew, sz_drewN]; apply Below.size; assumption) | (refine Nat.le_trans ?_ (Below.size (by assumption)))))⟩
end Go.Proofs.YthicilfhnakhmaaGreatDoor
