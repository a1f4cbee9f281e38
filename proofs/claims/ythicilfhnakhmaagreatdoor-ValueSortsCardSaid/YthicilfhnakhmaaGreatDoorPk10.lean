import Derived.Test.YthicilfhnakhmaaGreatDoorPk09
import Derived.Test.YthicilfhnakhmaaGreatDoorPk07
import Derived.Deep.WholeRow
import Derived.Lib.SliceRun
import Derived.Lib.ConvBytes
import Derived.Lib.SmallJoins
import Derived.ArgAppend
import Derived.Test.YthicilfhnakhmaaGreatDoorPk05
/- soffitref02: Date, padded, Text; soffitref01.Number: walked. -/
set_option linter.unusedSimpArgs false
set_option linter.unusedVariables false
namespace Go.Proofs.YthicilfhnakhmaaGreatDoor
open Go.RowKit Go.Sort Go.Lib

set_option maxHeartbeats 800000 in
theorem rDate_no (n : Int) (w : World) (h : n < 0 ∨ 3652058 < n) :
    Calls Tryz.prog 54 #[.int .i64 n] w fun e w' => e = .returned (.tuple #[.int .i64 0, .int .i64 0, .int .i64 0, .int .i64 3]) ∧ w = w' := by
  rcases h with h | h
  · skip
    go_enter Tryz.func54, Tryz.ntmps54
    go_wp2_with fail
    refine bodyPost_ret (v := .tuple #[.int .i64 0, .int .i64 0, .int .i64 0, .int .i64 3]) (by simp [results, Tryz.results54, go_sem, *]) rfl ⟨rfl, rfl⟩
  · have h0 : ¬ n < 0 := by omega
    go_enter Tryz.func54, Tryz.ntmps54
    go_wp2_with fail
    refine bodyPost_ret (v := .tuple #[.int .i64 0, .int .i64 0, .int .i64 0, .int .i64 3]) (by simp [results, Tryz.results54, go_sem, *]) rfl ⟨rfl, rfl⟩

set_option maxRecDepth 100000 in
set_option maxHeartbeats 1600000 in
theorem rDate_yes (n : Int) (w : World) (h1 : 0 ≤ n) (h2 : n ≤ 3652058) :
    Calls Tryz.prog 54 #[.int .i64 n] w fun e w' => ∃ y m d, e = .returned (.tuple #[.int .i64 y, .int .i64 ((m : Nat) + 1 : Int), .int .i64 d, .int .i64 0]) ∧ IsDate n y m d ∧ Below w.heap.size w w' := by
  have c1 : ¬ n < 0 := by omega
  have c2 : ¬ 3652058 < n := by omega
  go_enter Tryz.func54, Tryz.ntmps54
  go_wp2_with fail
  go_loopg [0, 6] 10000 (fun k nv yv wr => ∃ y c : Int, nv = .int .i64 c ∧ yv = .int .i64 y ∧ 1 ≤ y ∧ y ≤ 9999 ∧ 9999 - y ≤ k ∧ Hid (c = n - fstY y) ∧ 0 ≤ c ∧ c ≤ 5000000 ∧ w = wr)
  case atStart => exact ⟨1, n, rfl, rfl, by omega, by omega, by omega, Lib.hid (by rw [fstY_one]; omega), by omega, by omega, rfl⟩
  case round =>
    obtain ⟨y, c, rfl, rfl, y1, y2, yk, HC, c0, c5, rfl⟩ := hrel
    obtain ⟨l, hl⟩ : ∃ l, yearL y = l := ⟨_, rfl⟩
    have hlb : 365 ≤ l ∧ l ≤ 366 := by rw [← hl]; unfold yearL; split <;> omega
    have HL := Lib.hid hl
    by_cases hge : l ≤ c
    · have y3 : y < 9999 := by
        rcases (by omega : y < 9999 ∨ y = 9999) with h | h
        · exact h
        · exfalso
          have a := HC.out
          have b := fstY_succ y
          rw [hl, h] at b
          rw [h] at a
          have e := fstY_end
          rw [show (9999 : Int) + 1 = 10000 by decide] at b
          omega
      have hwy : IntKind.i64.wrap (y + 1) = y + 1 := IntWalk.i64_in _ (by omega)
      have hwc : IntKind.i64.wrap (c - l) = c - l := IntWalk.i64_in _ (by omega)
      clear hl
      go_wp2_with fail
      refine (rYears_any y _ (by omega) (by omega)).mono ?_
      rintro e w1 ⟨rfl, rfl⟩
      rw [HL.out]
      go_wp2_with fail
      refine (rYears_any y _ (by omega) (by omega)).mono ?_
      rintro e w1 ⟨rfl, rfl⟩
      rw [HL.out]
      go_wp2_with fail
      go_roundg (gk - 1)
      case measure => omega
      case rel => exact ⟨y + 1, c - l, by first | rfl | go_num, by first | rfl | go_num, by omega, by omega, by omega, Lib.hid (by rw [fstY_succ, HL.out, HC.out]; omega), by omega, by omega, rfl⟩
    · have HN : Hid (c < mCum y 12) := Lib.hid (by rw [mCum_year, hl]; omega)
      clear hl
      go_wp2_with fail
      refine (rYears_any y _ (by omega) (by omega)).mono ?_
      rintro e w1 ⟨rfl, rfl⟩
      rw [HL.out]
      go_wp2_with fail
      obtain ⟨r, hr⟩ : ∃ r, c = r := ⟨_, rfl⟩
      go_loopg [0, 7] 12 (fun k nv mv wr => ∃ (m : Nat) (c' : Int), nv = .int .i64 c' ∧ mv = .int .i64 ((m : Int) + 1) ∧ m < 12 ∧ 12 - m ≤ k ∧ Hid (c' = c - mCum y m) ∧ 0 ≤ c' ∧ c' ≤ 5000000 ∧ Below w.heap.size w wr)
      case atStart => exact ⟨0, c, rfl, by first | rfl | (simp; done), by omega, by omega, Lib.hid (by rw [mCum]; omega), by omega, by omega, Below.refl _ _⟩
      case round =>
        obtain ⟨m, c', rfl, rfl, m12, mk, HC', c0', c5', hbel⟩ := hrel
        obtain ⟨l', hl'⟩ : ∃ l', mLen y ((m : Int) + 1) = l' := ⟨_, rfl⟩
        have hlb' := mLen_bd y ((m : Int) + 1)
        rw [hl'] at hlb'
        have HL' := Lib.hid hl'
        clear hl' hr
        have hsz := hbel.size
        have hwm : IntKind.i64.wrap ((m : Int) + 1 + 1) = (m : Int) + 1 + 1 := IntWalk.i64_in _ (by omega)
        by_cases hge' : l' ≤ c'
        · have m11 : m + 1 < 12 := by
            rcases (by omega : m + 1 < 12 ∨ m = 11) with h | h
            · exact h
            · have h3 := HN.out
              have h4 := HC'.out
              have h5 := HL'.out
              subst h
              rw [mCum] at h3
              have h6 : mLen y (((11 : Nat) : Int) + 1) = l' := h5
              rw [h6] at h3
              omega
          have hwc : IntKind.i64.wrap (c' - l') = c' - l' := IntWalk.i64_in _ (by omega)
          go_wp2_with fail
          refine (rLength_any y m _ (by omega) (by omega) m12).mono ?_
          rintro e w1 ⟨rfl, hb1⟩
          rw [HL'.out]
          go_wp2_with fail
          refine (rLength_any y m _ (by omega) (by omega) m12).mono ?_
          rintro e w2 ⟨rfl, hb2⟩
          rw [HL'.out]
          go_wp2_with fail
          go_roundg (gk - 1)
          case measure => omega
          case rel => exact ⟨m + 1, c' - l', by first | rfl | go_num, by first | rfl | go_num, m11, by omega, Lib.hid (by rw [mCum, HL'.out, HC'.out]; omega), by omega, by omega, bel⟩
        · have hwd : IntKind.i64.wrap (c' + 1) = c' + 1 := IntWalk.i64_in _ (by omega)
          have HD : Hid (IsDate n y m (c' + 1)) := Lib.hid (by
            have hc := HC.out
            have h := IsDate.of (n := n) (y := y) (m := m) y1 (by omega) (by rw [fstY_succ, HL.out]; omega) (by omega) (by have := HC'.out; omega) (by rw [mCum, HL'.out]; have := HC'.out; omega)
            rw [HC'.out, hc]
            exact h)
          go_wp2_with fail
          refine (rLength_any y m _ (by omega) (by omega) m12).mono ?_
          rintro e w1 ⟨rfl, hb1⟩
          rw [HL'.out]
          go_wp2_with fail
          exact bodyPost_ret (v := .tuple #[.int .i64 y, .int .i64 ((m : Int) + 1), .int .i64 (c' + 1), .int .i64 0]) (by simp [results, Tryz.results54, go_sem, *]) rfl ⟨y, m, c' + 1, rfl, HD.out, bel⟩

set_option maxRecDepth 100000 in
set_option maxHeartbeats 1600000 in
theorem rNumber_any (u : Nat) (w : World) (hu : u ≤ 99999) :
    Calls Tryz.prog 81 #[.int .i64 u] w fun e w' => e = .returned (.string ⟨(decDigits u).toArray⟩) ∧ Below w.heap.size w w' := by
  obtain ⟨R, hR⟩ : ∃ R : ByteArray, ⟨(decDigits u).toArray⟩ = R := ⟨_, rfl⟩
  rw [hR]
  have HDF := Lib.hid (restD_first u)
  obtain ⟨d, hdm⟩ : ∃ d, u % 10 = d := ⟨_, rfl⟩
  have hd10 : d < 10 := by omega
  obtain ⟨x, hx⟩ : ∃ x, UInt8.ofNat (48 + d) = x := ⟨_, rfl⟩
  rw [hdm, hx] at HDF
  have hr1 : (u : Int) % 10 = (d : Int) := by omega
  have hr2 : (u : Int).tmod 10 = (d : Int) := by rw [Int.tmod_eq_emod_of_nonneg (by omega)]; omega
  have hr3 : IntKind.i64.wrap (48 + (d : Int)) = 48 + (d : Int) := IntWalk.i64_in _ (by omega)
  have hr4 : IntKind.u8.wrap (48 + (d : Int)) = 48 + (d : Int) := by rw [IntKind.wrap_u8]; omega
  have hcv : ∀ W : World, (convert 87 9 (.slice (some ⟨W.heap.size, 0, none⟩) 1 1)).run Tryz.prog (W.alloc (.cells #[.int .u8 (48 + (d : Int))] 5)) = .ok (.string ⟨#[x]⟩) (W.alloc (.cells #[.int .u8 (48 + (d : Int))] 5)) := fun W => by rw [conv1 d hd10 W 5, hx]
  clear hdm hx
  have H0 : Hid (R.data.toList = restD u ++ (⟨#[x]⟩ : ByteArray).data.toList) := Lib.hid (by rw [← hR]; exact HDF.out)
  clear hR HDF
  go_enter Tryz.func81, Tryz.ntmps81
  go_wp2_with fail
  go_loopg [0, 3] 6 (fun k nv sv wq => ∃ (m : Nat) (S : ByteArray), m < 10 ^ k ∧ m ≤ 99999 ∧ nv = .int .i64 (m : Int) ∧ sv = .string S ∧ Hid (R.data.toList = restD m ++ S.data.toList) ∧ S.size + k ≤ 40 ∧ Below w.heap.size w wq)
  case atStart => exact ⟨u, ⟨#[x]⟩, by omega, hu, rfl, rfl, H0, by show 1 + 6 ≤ 40; omega, bel⟩
  case round =>
    clear hr1 hr2 hr3 hr4 hcv
    obtain ⟨m, S, hmk, hm12, rfl, rfl, HS, hSk, hbel⟩ := hrel
    have hsz2 := hbel.size
    by_cases h10 : 10 ≤ m
    · have HST := Lib.hid (restD_step m h10)
      obtain ⟨q, hq⟩ : ∃ q, m / 10 = q := ⟨_, rfl⟩
      rw [hq] at HST
      obtain ⟨e, hdm⟩ : ∃ e, q % 10 = e := ⟨_, rfl⟩
      have hd10 : e < 10 := by omega
      obtain ⟨z, hx⟩ : ∃ z, UInt8.ofNat (48 + e) = z := ⟨_, rfl⟩
      rw [hdm, hx] at HST
      have hr1 : (q : Int) % 10 = (e : Int) := by omega
      have hr2 : (q : Int).tmod 10 = (e : Int) := by rw [Int.tmod_eq_emod_of_nonneg (by omega)]; omega
      have hr3 : IntKind.i64.wrap (48 + (e : Int)) = 48 + (e : Int) := IntWalk.i64_in _ (by omega)
      have hr4 : IntKind.u8.wrap (48 + (e : Int)) = 48 + (e : Int) := by rw [IntKind.wrap_u8]; omega
      have hcv : ∀ W : World, (convert 87 9 (.slice (some ⟨W.heap.size, 0, none⟩) 1 1)).run Tryz.prog (W.alloc (.cells #[.int .u8 (48 + (e : Int))] 5)) = .ok (.string ⟨#[z]⟩) (W.alloc (.cells #[.int .u8 (48 + (e : Int))] 5)) := fun W => by rw [conv1 e hd10 W 5, hx]
      clear hdm hx
      have hS1 : ¬ 9223372036854775807 < 1 + S.size := by omega
      have hq1 : (m : Int) / 10 = (q : Int) := by omega
      have hq2 : (m : Int).tdiv 10 = (q : Int) := by rw [Int.tdiv_eq_ediv_of_nonneg (by omega)]; omega
      have h10' : (10 : Int) ≤ (m : Int) := by omega
      have hqk : q < 10 ^ (gk - 1) := by
        rcases gk with _ | g
        · omega
        · rw [Nat.pow_succ] at hmk; simp; omega
      have hgk : 0 < gk := by
        rcases gk with _ | g
        · omega
        · omega
      have hq12 : q ≤ 99999 := by omega
      have HQ := Lib.hid hq
      clear hq hmk
      go_wp2_with fail
      go_roundg (gk - 1)
      case measure => omega
      case rel =>
        refine ⟨q, ⟨#[z]⟩ ++ S, hqk, hq12, by first | rfl | go_num, rfl, Lib.hid ?_, ?_, bel⟩
        · rw [HS.out, HST.out, show (⟨#[z]⟩ : ByteArray) = ⟨[z].toArray⟩ from rfl, show S = ⟨S.data.toList.toArray⟩ from rfl, ba_append]; simp
        · rw [ByteArray.size_append, show (⟨#[z]⟩ : ByteArray).size = 1 from rfl]; omega
    · have h10' : ¬ (10 : Int) ≤ (m : Int) := by omega
      have HE : Hid (S = R) := Lib.hid (by
        apply ByteArray.ext
        apply Array.toList_inj.1
        rw [HS.out]; unfold restD; rw [if_pos (by omega)]; rfl)
      go_wp2_with fail
      go_ret
      exact ⟨by rw [← HE.out]; rfl, hbel⟩

set_option maxHeartbeats 1600000 in
theorem rPadded_any (u k : Nat) (w : World) (hu : (decDigits u).length ≤ k) (hk : k ≤ 4) (hn : u ≤ 99999) :
    Calls Tryz.prog 55 #[.int .i64 u, .int .i64 k] w fun e w' => e = .returned (.string ⟨(padD u k).toArray⟩) ∧ Below w.heap.size w w' := by
  obtain ⟨R, hR⟩ : ∃ R : ByteArray, ⟨(decDigits u).toArray⟩ = R := ⟨_, rfl⟩
  have hsz : R.size = (decDigits u).length := by rw [← hR, ba_size]
  have HR := Lib.hid hR
  have hRk : R.size ≤ k := by omega
  have HP : Hid (⟨(padD u k).toArray⟩ = (⟨(List.replicate (k - R.size) 48 ++ R.data.toList).toArray⟩ : ByteArray)) := Lib.hid (by
    unfold padD
    rw [hsz, ← hR])
  clear hR hsz
  go_enter Tryz.func55, Tryz.ntmps55
  go_wp2_with fail
  refine (rNumber_any u _ hn).mono ?_
  rintro e w1 ⟨rfl, hb1⟩
  rw [HR.out]
  go_wp2_with fail
  go_loopg [5] 4 (fun g sv wq => ∃ S : ByteArray, sv = .string S ∧ S.size ≤ k ∧ k - S.size ≤ g ∧ Hid (⟨(padD u k).toArray⟩ = (⟨(List.replicate (k - S.size) 48 ++ S.data.toList).toArray⟩ : ByteArray)) ∧ w1 = wq)
  case atStart => exact ⟨R, rfl, hRk, by omega, HP, rfl⟩
  case round =>
    obtain ⟨S, rfl, hS, hSg, HS, rfl⟩ := hrel
    by_cases hlt : S.size < k
    · have hlt' : (S.size : Int) < (k : Int) := by omega
      have hov : ¬ 9223372036854775807 < 1 + S.size := by omega
      go_wp2_with fail
      go_roundg (gk - 1)
      case measure => omega
      case rel =>
        have hs1 : ((⟨#[48]⟩ : ByteArray) ++ S).size = 1 + S.size := by rw [ByteArray.size_append]; rfl
        refine ⟨⟨#[48]⟩ ++ S, rfl, by rw [hs1]; omega, by rw [hs1]; omega, Lib.hid ?_, rfl⟩
        rw [HS.out, hs1, show k - S.size = (k - (1 + S.size)) + 1 by omega, List.replicate_succ', show (⟨#[48]⟩ : ByteArray) = ⟨[48].toArray⟩ from rfl, show S = ⟨S.data.toList.toArray⟩ from rfl, ba_append]
        simp
    · have hlt' : ¬ (S.size : Int) < (k : Int) := by omega
      have HE : Hid (S = ⟨(padD u k).toArray⟩) := Lib.hid (by rw [HS.out, show k - S.size = 0 by omega]; rfl)
      go_wp2_with fail
      go_ret
      exact ⟨by rw [← HE.out]; rfl, bel⟩

set_option maxHeartbeats 1600000 in
theorem rdText_any (n : Int) (w : World) :
    Calls Tryz.prog 28 #[.int .i64 n] w fun e w' => e = .returned (dayRes n) ∧ Below w.heap.size w w' := by
  by_cases h : 0 ≤ n ∧ n ≤ 3652058
  · have HRES : Hid (dayRes n = .tuple #[.string ⟨(dayL n).toArray⟩, .int .i64 0]) := Lib.hid (by unfold dayRes; rw [if_pos h])
    obtain ⟨h1, h2⟩ := h
    go_enter Tryz.func28, Tryz.ntmps28
    go_wp2_with fail
    refine (rDate_yes n _ h1 h2).mono ?_
    rintro e w1 ⟨y, m, d, rfl, hdt, hb1⟩
    have y1 := hdt.y1
    have y2 := hdt.y2
    have m2 := hdt.m2
    have d1 := hdt.d_bd
    obtain ⟨yn, rfl⟩ : ∃ yn : Nat, y = (yn : Int) := ⟨y.toNat, by omega⟩
    obtain ⟨dn, rfl⟩ : ∃ dn : Nat, d = (dn : Int) := ⟨d.toNat, by omega⟩
    obtain ⟨mn, hmn⟩ : ∃ mn : Nat, m + 1 = mn := ⟨_, rfl⟩
    have hmi : (m : Int) + 1 = (mn : Int) := by omega
    rw [hmi]
    have hmn9 : mn ≤ 99999 := by omega
    have HDL : Hid (dayL n = dateL yn m dn) := Lib.hid (dayL_eq hdt)
    obtain ⟨Y, hY⟩ : ∃ Y : ByteArray, ⟨(padD yn 4).toArray⟩ = Y := ⟨_, rfl⟩
    obtain ⟨M, hM⟩ : ∃ M : ByteArray, ⟨(padD mn 2).toArray⟩ = M := ⟨_, rfl⟩
    obtain ⟨D, hD⟩ : ∃ D : ByteArray, ⟨(padD dn 2).toArray⟩ = D := ⟨_, rfl⟩
    have l4 : (decDigits yn).length ≤ 4 := dec_len_lt (k := 3) (by omega)
    have l2 : (decDigits mn).length ≤ 2 := dec_len_lt (k := 1) (by omega)
    have l3 : (decDigits dn).length ≤ 2 := dec_len_lt (k := 1) (by omega)
    have sY : Y.size = 4 := by rw [← hY, ba_size, padD_len l4]
    have sM : M.size = 2 := by rw [← hM, ba_size, padD_len l2]
    have sD : D.size = 2 := by rw [← hD, ba_size, padD_len l3]
    have HY := Lib.hid hY
    have HM := Lib.hid hM
    have HD := Lib.hid hD
    have HDA : Hid (Y ++ ⟨#[45]⟩ ++ M ++ ⟨#[45]⟩ ++ D = ⟨(dayL n).toArray⟩) := Lib.hid (by
      rw [HDL.out]
      exact dateL_ba Y M D (by rw [← hY, Int.toNat_natCast]) (by rw [← hM, hmn]) (by rw [← hD, Int.toNat_natCast]))
    clear hY hM hD hdt hmi hmn
    go_wp2_with fail
    refine (rPadded_any yn 4 _ l4 (by omega) (by omega)).mono ?_
    rintro e w2 ⟨rfl, hb2⟩
    rw [HY.out]
    go_wp2_with fail
    refine (rPadded_any mn 2 _ l2 (by omega) (by omega)).mono ?_
    rintro e w3 ⟨rfl, hb3⟩
    rw [HM.out]
    go_wp2_with fail
    refine (rPadded_any dn 2 _ l3 (by omega) (by omega)).mono ?_
    rintro e w4 ⟨rfl, hb4⟩
    rw [HD.out]
    go_wp2_with fail
    go_ret2
    exact ⟨by rw [HRES.out, ← HDA.out]; rfl, bel⟩
  · have HRES : Hid (dayRes n = .tuple #[.string ⟨#[]⟩, .int .i64 3]) := Lib.hid (by unfold dayRes; rw [if_neg h])
    have h3 : n < 0 ∨ 3652058 < n := by omega
    clear h
    go_enter Tryz.func28, Tryz.ntmps28
    go_wp2_with fail
    refine (rDate_no n _ h3).mono ?_
    rintro e w1 ⟨rfl, rfl⟩
    go_wp2_with fail
    go_ret2
    exact ⟨by rw [HRES.out]; rfl, bel⟩
end Go.Proofs.YthicilfhnakhmaaGreatDoor

/- strings.Replacer at the two signs: build, walked. -/
set_option linter.unusedSimpArgs false
set_option linter.unusedVariables false
namespace Go.Proofs.YthicilfhnakhmaaGreatDoor
open Go.RowKit Go.Sort Go.Lib

/-- a table of rows of bytes, and a list -/
def zrow (s : Value) : Array Value := (Array.replicate 256 (.slice none 0 0)).push s
theorem zrow_size (s : Value) : (zrow s).size = 257 := by simp [zrow]
theorem zrow_at (s : Value) (i : Nat) (h : i < 256) : (zrow s)[i]? = some (.slice none 0 0) := by
  unfold zrow
  rw [Array.getElem?_push_lt (by simpa using h)]
  simp
theorem zrow_last (s : Value) : (zrow s)[256]? = some s := by
  unfold zrow
  rw [Array.getElem?_push]
  simp
theorem zrow_one (a : Option Addr) (n c : Nat) : (zrow (.slice a n c)).all (·.oneCell') = true := by
  unfold zrow
  rw [Array.all_push]
  simp only [Bool.and_eq_true, Value.oneCell']
  refine ⟨?_, trivial⟩
  rw [Array.all_replicate]
  rfl
def o4 : List ByteArray := [⟨#[92]⟩, ⟨#[92, 92]⟩, ⟨#[34]⟩, ⟨#[92, 34]⟩]

theorem below_bytesW (B : Nat) (w : World) (e : TypeId) (s : ByteArray) (h : B ≤ w.heap.size) : Below B w (bytesWorld w e s) :=
  ⟨rfl, rfl, rfl, by rw [bytesWorld_size]; omega, fun j hj => bytesWorld_at_old w e s j (by omega)⟩
theorem convB (x : UInt8) (w : World) (t : TypeId) : (convert 87 9 (.slice (some ⟨w.heap.size, 0, none⟩) 1 1)).run Tryz.prog (w.alloc (.cells #[.int .u8 (x.toNat : Int)] t)) = .ok (.string ⟨#[x]⟩) (w.alloc (.cells #[.int .u8 (x.toNat : Int)] t)) := by
  have h := run_convert_bytes_back (P := Tryz.prog) (w.alloc (.cells #[.int .u8 (x.toNat : Int)] t)) 87 9 5 ⟨w.heap.size, 0, none⟩ 1 [x] (by kernel_rfl) (by kernel_rfl) (by kernel_rfl) (fun j hj => by
    have hj0 : j = 0 := by simpa using hj
    subst hj0
    rw [add_plain, World.cell?_alloc_new]
    simp)
  exact h
/-- the table while it is built: n signs are in the list (g); f: what the rows are -/
structure RplI (W : World) (B T n : Nat) (f : Nat → Value) (g : Nat → ByteArray) : Prop where
  cells : ∀ i, i < 256 → W.cell? ⟨B, i, none⟩ = some (f i)
  last : W.cell? ⟨B, 256, none⟩ = some (.slice (some ⟨T, 0, none⟩) n 2)
  fb : ∀ o, W.frozen? ⟨B, o, none⟩ = false
  ft : ∀ o, W.frozen? ⟨T, o, none⟩ = false
  lb : B < W.heap.size
  lt : T < W.heap.size
  ne : T ≠ B
  tc : ∀ j, j < 2 → W.cell? ⟨T, j, none⟩ = some (.string (g j))
theorem RplI.below {W W' : World} {B T n : Nat} {f : Nat → Value} {g : Nat → ByteArray} (h : RplI W B T n f g) (hb : Below W.heap.size W W') : RplI W' B T n f g where
  cells := fun i hi => (hb.cell (p := ⟨B, i, none⟩) h.lb).trans (h.cells i hi)
  last := (hb.cell (p := ⟨B, 256, none⟩) h.lb).trans h.last
  fb := fun o => (hb.frozen (p := ⟨B, o, none⟩) h.lb).trans (h.fb o)
  ft := fun o => (hb.frozen (p := ⟨T, o, none⟩) h.lt).trans (h.ft o)
  lb := Nat.lt_of_lt_of_le h.lb hb.size
  lt := Nat.lt_of_lt_of_le h.lt hb.size
  ne := h.ne
  tc := fun j hj => (hb.cell (p := ⟨T, j, none⟩) h.lt).trans (h.tc j hj)
/-- one sign more in the list -/
theorem RplI.more {W : World} {B T n : Nat} {f : Nat → Value} {g : Nat → ByteArray} (h : RplI W B T n f g) (hn : n < 2) (s : ByteArray) : RplI ((W.setCell ⟨T, n, none⟩ (.string s)).setCell ⟨B, 256, none⟩ (.slice (some ⟨T, 0, none⟩) (n + 1) 2)) B T (n + 1) f (fun j => if j = n then s else g j) where
  cells := fun i hi => by
    rw [World.cell?_setCell_other _ _ _ _ (by intro e; have := congrArg Addr.off e; simp at this; omega), World.cell?_setCell_other _ _ _ _ (by intro e; exact h.ne (congrArg Addr.block e))]
    exact h.cells i hi
  last := by
    refine World.cell?_setCell_same _ _ _ (u := .slice (some ⟨T, 0, none⟩) n 2) ?_
    rw [World.cell?_setCell_other _ _ _ _ (by intro e; exact h.ne (congrArg Addr.block e))]
    exact h.last
  fb := fun o => by rw [World.frozen?_setCell, World.frozen?_setCell]; exact h.fb o
  ft := fun o => by rw [World.frozen?_setCell, World.frozen?_setCell]; exact h.ft o
  lb := by rw [sz_set, sz_set]; exact h.lb
  lt := by rw [sz_set, sz_set]; exact h.lt
  ne := h.ne
  tc := fun j hj => by
    rw [World.cell?_setCell_other _ _ _ _ (by intro e; exact h.ne (congrArg Addr.block e).symm)]
    by_cases hjn : j = n
    · subst hjn
      rw [if_pos rfl]
      exact World.cell?_setCell_same _ _ _ (h.tc j hj)
    · rw [if_neg hjn, World.cell?_setCell_other _ _ _ _ (by intro e; exact hjn (congrArg Addr.off e).symm)]
      exact h.tc j hj
/-- a row for one sign -/
theorem RplI.row {W : World} {B T n : Nat} {f : Nat → Value} {g : Nat → ByteArray} (h : RplI W B T n f g) (x : Nat) (hx : x < 256) (v : Value) : RplI (W.setCell ⟨B, x, none⟩ v) B T n (fun i => if i = x then v else f i) g where
  cells := fun i hi => by
    by_cases hix : i = x
    · subst hix
      rw [if_pos rfl]
      exact World.cell?_setCell_same _ _ _ (h.cells i hi)
    · rw [if_neg hix, World.cell?_setCell_other _ _ _ _ (by intro e; exact hix (congrArg Addr.off e).symm)]
      exact h.cells i hi
  last := by rw [World.cell?_setCell_other _ _ _ _ (by intro e; have := congrArg Addr.off e; simp at this; omega)]; exact h.last
  fb := fun o => by rw [World.frozen?_setCell]; exact h.fb o
  ft := fun o => by rw [World.frozen?_setCell]; exact h.ft o
  lb := by rw [sz_set]; exact h.lb
  lt := by rw [sz_set]; exact h.lt
  ne := h.ne
  tc := fun j hj => by rw [World.cell?_setCell_other _ _ _ _ (by intro e; exact h.ne (congrArg Addr.block e).symm)]; exact h.tc j hj
/-- a row of two bytes -/
structure TwoB (W : World) (B T L N : Nat) (x y : Int) : Prop where
  lo : L ≤ N
  lt : N < W.heap.size
  nb : N ≠ B
  nt : N ≠ T
  c0 : W.cell? ⟨N, 0, none⟩ = some (.int .u8 x)
  c1 : W.cell? ⟨N, 1, none⟩ = some (.int .u8 y)
theorem TwoB.below {W W' : World} {B T L N : Nat} {x y : Int} (h : TwoB W B T L N x y) (hb : Below W.heap.size W W') : TwoB W' B T L N x y :=
  ⟨h.lo, Nat.lt_of_lt_of_le h.lt hb.size, h.nb, h.nt, (hb.cell (p := ⟨N, 0, none⟩) h.lt).trans h.c0, (hb.cell (p := ⟨N, 1, none⟩) h.lt).trans h.c1⟩
theorem TwoB.set_ {W : World} {B T L N : Nat} {x y : Int} (h : TwoB W B T L N x y) (b o : Nat) (v : Value) (hb : b = B ∨ b = T) : TwoB (W.setCell ⟨b, o, none⟩ v) B T L N x y := by
  have hne : N ≠ b := by rcases hb with rfl | rfl; exact h.nb; exact h.nt
  refine ⟨h.lo, by rw [sz_set]; exact h.lt, h.nb, h.nt, ?_, ?_⟩
  · rw [World.cell?_setCell_other _ _ _ _ (by intro e; exact hne (congrArg Addr.block e).symm)]; exact h.c0
  · rw [World.cell?_setCell_other _ _ _ _ (by intro e; exact hne (congrArg Addr.block e).symm)]; exact h.c1
def rowF (N34 c34 : Nat) : Nat → Value := fun i => if i = 34 then .slice (some ⟨N34, 0, none⟩) 2 c34 else .slice none 0 0
def rowG (N34 c34 N92 c92 : Nat) : Nat → Value := fun i => if i = 92 then .slice (some ⟨N92, 0, none⟩) 2 c92 else rowF N34 c34 i
def sgn1 : Nat → ByteArray := fun j => if j = 0 then ⟨#[34]⟩ else ⟨#[]⟩
def sgn2 : Nat → ByteArray := fun j => if j = 1 then ⟨#[92]⟩ else sgn1 j
/-- the replacer of the two signs -/
structure IsRpl (W : World) (L B : Nat) : Prop where
  of : ∃ T N c M d, L ≤ T ∧ L ≤ B ∧ RplI W B T 2 (rowG N c M d) sgn2 ∧ TwoB W B T L N 92 34 ∧ TwoB W B T L M 92 92
theorem IsRpl.below {W W' : World} {L B : Nat} (h : IsRpl W L B) (hb : Below W.heap.size W W') : IsRpl W' L B := by
  obtain ⟨T, N, c, M, d, l1, l2, h1, h2, h3⟩ := h.of
  exact ⟨⟨T, N, c, M, d, l1, l2, h1.below hb, h2.below hb, h3.below hb⟩⟩
/-- how far it is built -/
def RplQ (W : World) (B T L : Nat) : Nat → Prop
  | 2 => RplI W B T 0 (fun _ => .slice none 0 0) (fun _ => ⟨#[]⟩)
  | 1 => ∃ N c, RplI W B T 1 (rowF N c) sgn1 ∧ TwoB W B T L N 92 34
  | _ => ∃ N c M d, RplI W B T 2 (rowG N c M d) sgn2 ∧ TwoB W B T L N 92 34 ∧ TwoB W B T L M 92 92

/-- a cell of an older block is nothing to it -/
theorem IsRpl.set_ {W : World} {L B : Nat} (h : IsRpl W L B) (b o : Nat) (v : Value) (hb : b < L) : IsRpl (W.setCell ⟨b, o, none⟩ v) L B := by
  obtain ⟨T, N, c, M, d, l1, l2, h1, h2, h3⟩ := h.of
  have two : ∀ {N : Nat} {x y : Int}, TwoB W B T L N x y → TwoB (W.setCell ⟨b, o, none⟩ v) B T L N x y := by
    intro N x y h
    have hne : N ≠ b := by have := h.lo; omega
    refine ⟨h.lo, by rw [sz_set]; exact h.lt, h.nb, h.nt, ?_, ?_⟩
    · rw [World.cell?_setCell_other _ _ _ _ (by intro e; exact hne (congrArg Addr.block e).symm)]; exact h.c0
    · rw [World.cell?_setCell_other _ _ _ _ (by intro e; exact hne (congrArg Addr.block e).symm)]; exact h.c1
  refine ⟨⟨T, N, c, M, d, l1, l2, ?_, two h2, two h3⟩⟩
  have n1 : b ≠ B := by omega
  have n2 : b ≠ T := by omega
  refine ⟨fun i hi => ?_, ?_, fun o => ?_, fun o => ?_, by rw [sz_set]; exact h1.lb, by rw [sz_set]; exact h1.lt, h1.ne, fun j hj => ?_⟩
  · rw [World.cell?_setCell_other _ _ _ _ (by intro e; exact n1 (congrArg Addr.block e))]; exact h1.cells i hi
  · rw [World.cell?_setCell_other _ _ _ _ (by intro e; exact n1 (congrArg Addr.block e))]; exact h1.last
  · rw [World.frozen?_setCell]; exact h1.fb o
  · rw [World.frozen?_setCell]; exact h1.ft o
  · rw [World.cell?_setCell_other _ _ _ _ (by intro e; exact n2 (congrArg Addr.block e))]; exact h1.tc j hj
theorem IsRpl.drew {W : World} {L B : Nat} (h : IsRpl W L B) : IsRpl W.drew L B := h.below ((Below.refl _ _).drew)

set_option maxRecDepth 100000 in
set_option maxHeartbeats 12800000 in
theorem rplBuild (b : Nat) (o c : Nat) (w : World) (hb : b < w.heap.size) (ho : o < w.heap.size)
    (hc4 : w.cell? ⟨b, 4, none⟩ = some (.slice (some ⟨o, 0, none⟩) 4 c))
    (o0 : w.cell? ⟨o, 0, none⟩ = some (.string ⟨#[92]⟩)) (o1 : w.cell? ⟨o, 1, none⟩ = some (.string ⟨#[92, 92]⟩)) (o2 : w.cell? ⟨o, 2, none⟩ = some (.string ⟨#[34]⟩)) (o3 : w.cell? ⟨o, 3, none⟩ = some (.string ⟨#[92, 34]⟩)) :
    Calls Tryz.prog 75 #[.pointer (some ⟨b, 0, none⟩)] w fun e w' => ∃ B, e = .returned (.iface 155 (.pointer (some ⟨B, 0, none⟩))) ∧ IsRpl w' w.heap.size B ∧ Below w.heap.size w w' := by
  obtain ⟨s0, sinf, sza, szb, szc⟩ := info_parts (show (Tryz.prog.info? 9).map (fun i => (i.zero, i.size, i.bytes)) = some (some (.string ⟨#[]⟩), 1, 16) by kernel_rfl)
  have hz := zero_of_info (P := Tryz.prog) (t := 154) (v := .agg (zrow (.slice none 0 0))) (n := 257) (by kernel_rfl)
  have hz1 := hz.1
  have HZ2 := Lib.hid hz.2
  have hbuild : ∀ (a : Addr) (W : World), (Instr.build 154 #[(1, .slice (some a) 0 2)]).run Tryz.prog W = .ok (.agg (zrow (.slice (some a) 0 2))) W := fun a W => run_build W _ _ _ (by kernel_rfl)
  have hsc : (storeCells ⟨w.heap.size + 1, 0, none⟩ ((zrow (.slice none 0 0)).toList.set 256 (.slice (some ⟨w.heap.size, 0, none⟩) 0 2)) 0).run Tryz.prog ((w.alloc (.cells #[.string ⟨#[]⟩, .string ⟨#[]⟩] 9)).alloc (.cells (zrow (.slice none 0 0)) 154)) = .ok () ((w.alloc (.cells #[.string ⟨#[]⟩, .string ⟨#[]⟩] 9)).alloc (.cells (zrow (.slice (some ⟨w.heap.size, 0, none⟩) 0 2)) 154)) := by
    have h := run_storeCells_new (P := Tryz.prog) (w.alloc (.cells #[.string ⟨#[]⟩, .string ⟨#[]⟩] 9)) 154 (zrow (.slice none 0 0)) (zrow (.slice (some ⟨w.heap.size, 0, none⟩) 0 2)) (by rw [zrow_size]; exact HZ2.out) (by rw [zrow_size, zrow_size]) (zrow_one _ _ _)
    have e : (zrow (.slice none 0 0)).toList.set 256 (.slice (some ⟨w.heap.size, 0, none⟩) 0 2) = (zrow (.slice (some ⟨w.heap.size, 0, none⟩) 0 2)).toList := by
      unfold zrow
      rw [Array.toList_push, Array.toList_push, List.set_append_right _ _ (by simp)]
      simp
    rw [e]
    simpa using h
  have hmk : ∀ W, (Instr.makeSlice 48 (.int .i64 0) (.int .i64 2)).run Tryz.prog W = .ok (.slice (some ⟨W.heap.size, 0, none⟩) 0 2) (W.alloc (.cells #[.string ⟨#[]⟩, .string ⟨#[]⟩] 9)) := fun _ => by kernel_rfl
  clear hz
  go_enter Tryz.func75, Tryz.ntmps75
  go_wp2_with fail
  go_loopg [4, 5] 3 (fun k av iv wr => ∃ q : Nat, q ≤ 2 ∧ 2 - q ≤ k ∧ iv = .int .i64 ((2 * q : Nat) : Int) ∧ av = .bool (q == 0) ∧ w = wr)
  case atStart => exact ⟨0, by omega, by omega, rfl, rfl, rfl⟩
  case round =>
    obtain ⟨q, hq, hqk, rfl, rfl, rfl⟩ := hrel
    have hq3 : q = 0 ∨ q = 1 ∨ q = 2 := by omega
    rcases hq3 with rfl | rfl | rfl
    · simp only [Nat.mul_zero, Int.natCast_zero, Int.cast_ofNat_Int, beq_self_eq_true]
      go_wp2_with fail
      go_roundg (gk - 1)
      case measure => omega
      case rel => exact ⟨1, by omega, by omega, by first | rfl | go_num, rfl, rfl⟩
    · rw [show (((2 * 1 : Nat) : Int)) = 2 from rfl, show ((1 : Nat) == 0) = false from rfl]
      go_wp2_with fail
      go_roundg (gk - 1)
      case measure => omega
      case rel => exact ⟨2, by omega, by omega, by first | rfl | go_num, rfl, rfl⟩
    · rw [show (((2 * 2 : Nat) : Int)) = 4 from rfl, show ((2 : Nat) == 0) = false from rfl]
      go_wp2_with fail
      -- TAIL
      clear hsc hmk hbuild hz1 HZ2
      obtain ⟨B, hB⟩ : ∃ B, w.heap.size + 1 = B := ⟨_, rfl⟩
      obtain ⟨T, hT⟩ : ∃ T, w.heap.size = T := ⟨_, rfl⟩
      generalize hW1 : (w.alloc (.cells #[.string ⟨#[]⟩, .string ⟨#[]⟩] 9)).alloc (.cells (zrow (.slice (some ⟨w.heap.size, 0, none⟩) 0 2)) 154) = W1
      have hbw : Below w.heap.size w W1 := by rw [← hW1]; exact bel
      have HI : RplQ W1 B T w.heap.size 2 := by
        rw [← hW1, ← hB, ← hT]
        refine ⟨?_, ?_, ?_, ?_, ?_, ?_, by omega, ?_⟩
        · intro i hi
          rw [show w.heap.size + 1 = (w.alloc (.cells #[.string ⟨#[]⟩, .string ⟨#[]⟩] 9)).heap.size by simp, World.cell?_alloc_new]
          exact zrow_at _ i hi
        · rw [show w.heap.size + 1 = (w.alloc (.cells #[.string ⟨#[]⟩, .string ⟨#[]⟩] 9)).heap.size by simp, World.cell?_alloc_new]
          exact zrow_last _
        · intro o
          rw [show w.heap.size + 1 = (w.alloc (.cells #[.string ⟨#[]⟩, .string ⟨#[]⟩] 9)).heap.size by simp]
          exact World.frozen?_alloc_new _ _ _ _
        · intro o
          rw [World.frozen?_alloc_past _ _ _ (by simp)]
          exact World.frozen?_alloc_new _ _ _ _
        · simp
        · simp; omega
        · intro j hj
          rw [World.cell?_alloc_past _ _ _ (by simp), World.cell?_alloc_new]
          have hj2 : j = 0 ∨ j = 1 := by omega
          rcases hj2 with rfl | rfl <;> rfl
      clear hW1
      rw [hT]
      have hB2 : T + 1 = B := by omega
      rw [hB2]
      have HBW := Lib.hid hbw
      have HII := Lib.hid HI
      have HB := Lib.hid hB
      have HT := Lib.hid hT
      clear hbw HI hB hT hB2
      go_loopg [12] 3 (fun k iv wr => ∃ q : Nat, q ≤ 2 ∧ q ≤ k ∧ iv = .int .i64 (2 * (q : Int) - 2) ∧ Below w.heap.size w wr ∧ RplQ wr B T w.heap.size q)
      case atStart => exact ⟨2, by omega, by omega, by first | rfl | go_num, HBW.out, HII.out⟩
      case round =>
        obtain ⟨q, hq, hqk, rfl, hbel, hQ⟩ := hrel
        have hq3 : q = 2 ∨ q = 1 ∨ q = 0 := by omega
        have hlo : wr.cell? ⟨o, 0, none⟩ = _ := (hbel.cell (p := ⟨o, 0, none⟩) ho).trans o0
        have hlo1 : wr.cell? ⟨o, 1, none⟩ = _ := (hbel.cell (p := ⟨o, 1, none⟩) ho).trans o1
        have hlo2 : wr.cell? ⟨o, 2, none⟩ = _ := (hbel.cell (p := ⟨o, 2, none⟩) ho).trans o2
        have hlo3 : wr.cell? ⟨o, 3, none⟩ = _ := (hbel.cell (p := ⟨o, 3, none⟩) ho).trans o3
        have qT : ∀ (W : World) (a : Option Addr) (n c n' c' : Nat), (binOp .eql 87 (.slice a n c) (.slice none n' c')).run Tryz.prog W = .ok (.bool a.isNone) W := fun W a n c n' c' => Lib.run_eql_slice_nil W _ _ a n c n' c' Tryz.underlying87
        rcases hq3 with rfl | rfl | rfl
        · have hI : RplI wr B T 0 (fun _ => .slice none 0 0) (fun _ => ⟨#[]⟩) := hQ
          rw [show (2 * ((2 : Nat) : Int) - 2) = 2 from rfl]
          have rc := hI.cells 34 (by omega)
          have rl := hI.last
          have rfb := hI.fb
          have rft := hI.ft
          have rlb := hI.lb
          have rlt := hI.lt
          have rne := hI.ne
          have xx : ((⟨#[34]⟩ : ByteArray)[0]'(by decide)).toNat = 34 := rfl
          have xi : (((⟨#[34]⟩ : ByteArray)[0]'(by decide)).toNat : Int) = 34 := rfl
          have hcv : ∀ W : World, (convert 87 9 (.slice (some ⟨W.heap.size, 0, none⟩) 1 1)).run Tryz.prog (W.alloc (.cells #[.int .u8 34] 5)) = .ok (.string ⟨#[34]⟩) (W.alloc (.cells #[.int .u8 34] 5)) := fun W => convB 34 W _
          have hbe2 : Below wr.heap.size wr ((wr.alloc (.cells #[.int .u8 34] 5)).alloc (.cells #[.string ⟨#[34]⟩] 9)) := bel
          have hI2 := hI.below hbe2
          have t1 : ((wr.alloc (.cells #[.int .u8 34] 5)).alloc (.cells #[.string ⟨#[34]⟩] 9)).cell? ⟨T, 0, none⟩ = _ := hI2.tc 0 (by omega)
          have t2 : ((wr.alloc (.cells #[.int .u8 34] 5)).alloc (.cells #[.string ⟨#[34]⟩] 9)).frozen? ⟨T, 0, none⟩ = false := hI2.ft 0
          have f1 : (((wr.alloc (.cells #[.int .u8 34] 5)).alloc (.cells #[.string ⟨#[34]⟩] 9)).setCell ⟨T, 0, none⟩ (.string ⟨#[34]⟩)).cell? ⟨B, 256, none⟩ = some (.slice (some ⟨T, 0, none⟩) 0 2) := (World.cell?_setCell_other _ _ _ _ (by intro e; exact rne (congrArg Addr.block e))).trans hI2.last
          have f2 : (((wr.alloc (.cells #[.int .u8 34] 5)).alloc (.cells #[.string ⟨#[34]⟩] 9)).setCell ⟨T, 0, none⟩ (.string ⟨#[34]⟩)).frozen? ⟨B, 256, none⟩ = false := (World.frozen?_setCell _ _ _ _).trans (hI2.fb 256)
          have hbv : Below w.heap.size w ((wr.setCell ⟨T, 0, none⟩ (.string ⟨#[34]⟩)).setCell ⟨B, 256, none⟩ (.slice (some ⟨T, 0, none⟩) 1 2)) := Below.setCell (Below.setCell hbel (by have := HT.out; exact Nat.le_of_eq this) _) (by have := HB.out; have := HT.out; show w.heap.size ≤ B; omega) _
          have hbd : Below w.heap.size w ((((wr.setCell ⟨T, 0, none⟩ (.string ⟨#[34]⟩)).setCell ⟨B, 256, none⟩ (.slice (some ⟨T, 0, none⟩) 1 2)).alloc (.cells #[.int .u8 34] 5)).alloc (.cells #[.string ⟨#[34]⟩] 9)) := (hbv.alloc hbv.size _).alloc (by rw [sz_alloc]; have := hbv.size; omega) _
          have hbm : Below ((wr.setCell ⟨T, 0, none⟩ (.string ⟨#[34]⟩)).setCell ⟨B, 256, none⟩ (.slice (some ⟨T, 0, none⟩) 1 2)).heap.size ((wr.setCell ⟨T, 0, none⟩ (.string ⟨#[34]⟩)).setCell ⟨B, 256, none⟩ (.slice (some ⟨T, 0, none⟩) 1 2)) ((((wr.setCell ⟨T, 0, none⟩ (.string ⟨#[34]⟩)).setCell ⟨B, 256, none⟩ (.slice (some ⟨T, 0, none⟩) 1 2)).alloc (.cells #[.int .u8 34] 5)).alloc (.cells #[.string ⟨#[34]⟩] 9)) := ((Below.refl _ _).alloc (Nat.le_refl _) _).alloc (by rw [sz_alloc]; omega) _
          have hID := (hI.more (by omega) ⟨#[34]⟩).below hbm
          have H_I := Lib.hid hI
          have HBD := Lib.hid hbd
          have HID := Lib.hid hID
          clear hI hI2 hbe2 hbd hbv hbm hID
          go_wp2_with fail
          clear H_I t1 t2 f1 f2 rc rl rfb rft
          generalize ((((wr.setCell ⟨T, 0, none⟩ (.string ⟨#[34]⟩)).setCell ⟨B, 256, none⟩ (.slice (some ⟨T, 0, none⟩) 1 2)).alloc (.cells #[.int .u8 34] 5)).alloc (.cells #[.string ⟨#[34]⟩] 9)) = U at *
          have hIe := HID.out.below (below_bytesW _ _ 5 ⟨#[92, 34]⟩ (Nat.le_refl _))
          have g1 : (bytesWorld U 5 ⟨#[92, 34]⟩).cell? ⟨B, 34, none⟩ = some (.slice none 0 0) := (hIe.cells 34 (by omega)).trans (by rfl)
          have g2 : (bytesWorld U 5 ⟨#[92, 34]⟩).frozen? ⟨B, 34, none⟩ = false := hIe.fb 34
          have HF := Lib.hid (hIe.row 34 (by omega) (.slice (some ⟨U.heap.size, 0, none⟩) 2 (grownCap U 2 0 5)))
          have HTW : Hid (TwoB (bytesWorld U 5 ⟨#[92, 34]⟩) B T w.heap.size U.heap.size 92 34) := Lib.hid (by
            have a1 := HID.out.lb
            have a2 := HID.out.lt
            refine ⟨HBD.out.size, by rw [bytesWorld_size]; omega, by omega, by omega, ?_, ?_⟩
            · rw [bytesWorld_cell _ _ _ 0 (by decide)]; rfl
            · rw [bytesWorld_cell _ _ _ 1 (by decide)]; rfl)
          have HBF := Lib.hid (HBD.out.trans (below_bytesW _ U 5 ⟨#[92, 34]⟩ HBD.out.size))
          have HBB : Hid (w.heap.size ≤ B) := Lib.hid (by have := HB.out; have := HT.out; omega)
          have hcb : (convert 9 87 (.string ⟨#[92, 34]⟩)).run Tryz.prog U = .ok (.slice (some ⟨U.heap.size, 0, none⟩) 2 (grownCap U 2 0 5)) (bytesWorld U 5 ⟨#[92, 34]⟩) := Lib.run_convert_string_bytes U _ _ _ _ Tryz.underlying9 Tryz.underlying87 Tryz.underlying5
          clear hIe
          rw [hcb]
          simp only [Result.andThen]
          rw [Oper.upon_value]
          clear hcb
          go_wp2_with fail
          go_roundg 1
          case measure => omega
          case rel => exact ⟨1, by omega, by omega, by first | rfl | go_num, Below.setCell HBF.out (by exact HBB.out) _, ⟨_, _, HF.out, HTW.out.set_ B 34 _ (.inl rfl)⟩⟩
        · obtain ⟨N, c', hI, hN⟩ := hQ
          rw [show (2 * ((1 : Nat) : Int) - 2) = 0 from rfl]
          have rc := hI.cells 92 (by omega)
          have rl := hI.last
          have rfb := hI.fb
          have rft := hI.ft
          have rlb := hI.lb
          have rlt := hI.lt
          have rne := hI.ne
          rw [show rowF N c' 92 = .slice none 0 0 from rfl] at rc
          have xx : ((⟨#[92]⟩ : ByteArray)[0]'(by decide)).toNat = 92 := rfl
          have xi : (((⟨#[92]⟩ : ByteArray)[0]'(by decide)).toNat : Int) = 92 := rfl
          have hcv : ∀ W : World, (convert 87 9 (.slice (some ⟨W.heap.size, 0, none⟩) 1 1)).run Tryz.prog (W.alloc (.cells #[.int .u8 92] 5)) = .ok (.string ⟨#[92]⟩) (W.alloc (.cells #[.int .u8 92] 5)) := fun W => convB 92 W _
          have hbe2 : Below wr.heap.size wr ((wr.alloc (.cells #[.int .u8 92] 5)).alloc (.cells #[.string ⟨#[92]⟩] 9)) := bel
          have hI2 := hI.below hbe2
          have t1 : ((wr.alloc (.cells #[.int .u8 92] 5)).alloc (.cells #[.string ⟨#[92]⟩] 9)).cell? ⟨T, 1, none⟩ = _ := hI2.tc 1 (by omega)
          have t2 : ((wr.alloc (.cells #[.int .u8 92] 5)).alloc (.cells #[.string ⟨#[92]⟩] 9)).frozen? ⟨T, 1, none⟩ = false := hI2.ft 1
          have f1 : (((wr.alloc (.cells #[.int .u8 92] 5)).alloc (.cells #[.string ⟨#[92]⟩] 9)).setCell ⟨T, 1, none⟩ (.string ⟨#[92]⟩)).cell? ⟨B, 256, none⟩ = some (.slice (some ⟨T, 0, none⟩) 1 2) := (World.cell?_setCell_other _ _ _ _ (by intro e; exact rne (congrArg Addr.block e))).trans hI2.last
          have f2 : (((wr.alloc (.cells #[.int .u8 92] 5)).alloc (.cells #[.string ⟨#[92]⟩] 9)).setCell ⟨T, 1, none⟩ (.string ⟨#[92]⟩)).frozen? ⟨B, 256, none⟩ = false := (World.frozen?_setCell _ _ _ _).trans (hI2.fb 256)
          have hbv : Below w.heap.size w ((wr.setCell ⟨T, 1, none⟩ (.string ⟨#[92]⟩)).setCell ⟨B, 256, none⟩ (.slice (some ⟨T, 0, none⟩) 2 2)) := Below.setCell (Below.setCell hbel (by have := HT.out; exact Nat.le_of_eq this) _) (by have := HB.out; have := HT.out; show w.heap.size ≤ B; omega) _
          have hbd : Below w.heap.size w ((((wr.setCell ⟨T, 1, none⟩ (.string ⟨#[92]⟩)).setCell ⟨B, 256, none⟩ (.slice (some ⟨T, 0, none⟩) 2 2)).alloc (.cells #[.int .u8 92] 5)).alloc (.cells #[.string ⟨#[92]⟩] 9)) := (hbv.alloc hbv.size _).alloc (by rw [sz_alloc]; have := hbv.size; omega) _
          have hbm : Below ((wr.setCell ⟨T, 1, none⟩ (.string ⟨#[92]⟩)).setCell ⟨B, 256, none⟩ (.slice (some ⟨T, 0, none⟩) 2 2)).heap.size ((wr.setCell ⟨T, 1, none⟩ (.string ⟨#[92]⟩)).setCell ⟨B, 256, none⟩ (.slice (some ⟨T, 0, none⟩) 2 2)) ((((wr.setCell ⟨T, 1, none⟩ (.string ⟨#[92]⟩)).setCell ⟨B, 256, none⟩ (.slice (some ⟨T, 0, none⟩) 2 2)).alloc (.cells #[.int .u8 92] 5)).alloc (.cells #[.string ⟨#[92]⟩] 9)) := ((Below.refl _ _).alloc (Nat.le_refl _) _).alloc (by rw [sz_alloc]; omega) _
          have hID := (hI.more (by omega) ⟨#[92]⟩).below hbm
          have H_I := Lib.hid hI
          have HBD := Lib.hid hbd
          have HID := Lib.hid hID
          have HNB := Lib.hid ((((hN.set_ T 1 (.string ⟨#[92]⟩) (.inr rfl)).set_ B 256 (.slice (some ⟨T, 0, none⟩) 2 2) (.inl rfl))).below hbm)
          clear hI hI2 hbe2 hbd hbv hbm hID
          go_wp2_with fail
          clear H_I t1 t2 f1 f2 rc rl rfb rft
          generalize ((((wr.setCell ⟨T, 1, none⟩ (.string ⟨#[92]⟩)).setCell ⟨B, 256, none⟩ (.slice (some ⟨T, 0, none⟩) 2 2)).alloc (.cells #[.int .u8 92] 5)).alloc (.cells #[.string ⟨#[92]⟩] 9)) = U at *
          have hIe := HID.out.below (below_bytesW _ _ 5 ⟨#[92, 92]⟩ (Nat.le_refl _))
          have g1 : (bytesWorld U 5 ⟨#[92, 92]⟩).cell? ⟨B, 92, none⟩ = some (.slice none 0 0) := (hIe.cells 92 (by omega)).trans (by rfl)
          have g2 : (bytesWorld U 5 ⟨#[92, 92]⟩).frozen? ⟨B, 92, none⟩ = false := hIe.fb 92
          have HF := Lib.hid (hIe.row 92 (by omega) (.slice (some ⟨U.heap.size, 0, none⟩) 2 (grownCap U 2 0 5)))
          have HTW : Hid (TwoB (bytesWorld U 5 ⟨#[92, 92]⟩) B T w.heap.size U.heap.size 92 92) := Lib.hid (by
            have a1 := HID.out.lb
            have a2 := HID.out.lt
            refine ⟨HBD.out.size, by rw [bytesWorld_size]; omega, by omega, by omega, ?_, ?_⟩
            · rw [bytesWorld_cell _ _ _ 0 (by decide)]; rfl
            · rw [bytesWorld_cell _ _ _ 1 (by decide)]; rfl)
          have HNE := Lib.hid (HNB.out.below (below_bytesW _ U 5 ⟨#[92, 92]⟩ (Nat.le_refl _)))
          have HBF := Lib.hid (HBD.out.trans (below_bytesW _ U 5 ⟨#[92, 92]⟩ HBD.out.size))
          have HBB : Hid (w.heap.size ≤ B) := Lib.hid (by have := HB.out; have := HT.out; omega)
          have hcb : (convert 9 87 (.string ⟨#[92, 92]⟩)).run Tryz.prog U = .ok (.slice (some ⟨U.heap.size, 0, none⟩) 2 (grownCap U 2 0 5)) (bytesWorld U 5 ⟨#[92, 92]⟩) := Lib.run_convert_string_bytes U _ _ _ _ Tryz.underlying9 Tryz.underlying87 Tryz.underlying5
          clear hIe
          rw [hcb]
          simp only [Result.andThen]
          rw [Oper.upon_value]
          clear hcb
          go_wp2_with fail
          go_roundg 0
          case measure => omega
          case rel => exact ⟨0, by omega, by omega, by first | rfl | go_num, Below.setCell HBF.out (by exact HBB.out) _, ⟨_, _, _, _, HF.out, HNE.out.set_ B 92 _ (.inl rfl), HTW.out.set_ B 92 _ (.inl rfl)⟩⟩
        · obtain ⟨N, c', M, d, h1, h2, h3⟩ := hQ
          rw [show (2 * ((0 : Nat) : Int) - 2) = -2 from rfl]
          go_wp2_with fail
          go_ret
          exact ⟨B, rfl, ⟨⟨T, N, c', M, d, by have := HT.out; omega, by have := HB.out; have := HT.out; omega, h1, h2, h3⟩⟩, hbel⟩
end Go.Proofs.YthicilfhnakhmaaGreatDoor
