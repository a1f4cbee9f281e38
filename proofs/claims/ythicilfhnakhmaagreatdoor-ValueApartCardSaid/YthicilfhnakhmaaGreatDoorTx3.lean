/- soffitref01.Text, Number, walked. -/
import Derived.Test.YthicilfhnakhmaaGreatDoorTx2
import Derived.Test.YthicilfhnakhmaaGreatDoorDRows
set_option linter.unusedSimpArgs false
set_option linter.unusedVariables false
namespace Go.Proofs.YthicilfhnakhmaaGreatDoor
open Go.RowKit Go.Sort Go.Lib

theorem lowD_cons : ∀ (k N : Nat), lowD N (k + 1) = UInt8.ofNat (48 + N / 10 ^ k % 10) :: lowD N k
  | 0, N => by simp [lowD]
  | k + 1, N => by
    rw [lowD, lowD_cons k (N / 10), lowD, Nat.div_div_eq_div_mul, ← Nat.pow_succ']
    rfl
/-- a text of one byte out of a row of one -/
theorem conv1 (d : Nat) (hd : d < 10) (w : World) (t : TypeId) : (convert 87 9 (.slice (some ⟨w.heap.size, 0, none⟩) 1 1)).run Tryz.prog (w.alloc (.cells #[.int .u8 (48 + (d : Int))] t)) = .ok (.string ⟨#[UInt8.ofNat (48 + d)]⟩) (w.alloc (.cells #[.int .u8 (48 + (d : Int))] t)) := by
  have h := run_convert_bytes_back (P := Tryz.prog) (w.alloc (.cells #[.int .u8 (48 + (d : Int))] t)) 87 9 5 ⟨w.heap.size, 0, none⟩ 1 [UInt8.ofNat (48 + d)] (by kernel_rfl) (by kernel_rfl) (by kernel_rfl) (fun j hj => by
    have hj0 : j = 0 := by simpa using hj
    subst hj0
    rw [add_plain, World.cell?_alloc_new]
    simp
    omega)
  exact h
/-- what stands behind the whole part -/
def fracL (N s : Nat) : List UInt8 := if 0 < s then 46 :: lowD N s else []
theorem absL_frac (N s : Nat) : absL N s = decDigits (N / 10 ^ s) ++ fracL N s := by
  unfold absL fracL
  split
  · rfl
  · rw [show s = 0 by omega, Nat.pow_zero, Nat.div_one, List.append_nil]
/-- the digits that are still to be written -/
def restD (m : Nat) : List UInt8 := if m < 10 then [] else decDigits (m / 10)
theorem restD_step (m : Nat) (h : 10 ≤ m) : restD m = restD (m / 10) ++ [UInt8.ofNat (48 + m / 10 % 10)] := by
  unfold restD
  rw [if_neg (by omega)]
  by_cases h2 : m / 10 < 10
  · rw [if_pos h2, decDigits_one h2, Nat.mod_eq_of_lt h2]; rfl
  · rw [if_neg h2, decDigits_big h2]
theorem restD_first (m : Nat) : decDigits m = restD m ++ [UInt8.ofNat (48 + m % 10)] := by
  unfold restD
  by_cases h : m < 10
  · rw [if_pos h, decDigits_one h, Nat.mod_eq_of_lt h]; rfl
  · rw [if_neg h, decDigits_big h]

set_option maxRecDepth 100000 in
set_option maxHeartbeats 3200000 in
theorem refText_any (n s : Int) (w : World) (hn : I64 n) (hs : I64 s) :
    Calls Tryz.prog 26 #[.agg #[.int .i64 n, .int .i64 s]] w fun e w' => e = .returned (decTxtRes n s) ∧ Below w.heap.size w w' := by
  cases hd : decSnd n s
  · have HF : Hid (decTxtRes n s = .tuple #[.string ⟨#[]⟩, .int .i64 2]) := Lib.hid (by unfold decTxtRes; rw [hd]; rfl)
    go_enter Tryz.func26, Tryz.ntmps26
    go_wp2_with fail
    refine (ref01Sound_any n s _).mono ?_
    rintro e w1 ⟨rfl, hb1⟩
    rw [hd]
    clear hd
    go_wp2_with fail
    go_ret2
    exact ⟨by rw [HF.out]; rfl, (by repeat' (first | (with_reducible exact Below.refl _ _) | (with_reducible assumption) | (with_reducible refine Below.drew ?_) | (with_reducible refine below_drewN ?_ _) | (with_reducible refine below_iterAt ?_ ?_ _ _) | (with_reducible refine below_iter ?_ ?_ _ _) | (with_reducible refine Below.alloc ?_ ?_ _) | (with_reducible refine Below.setCell ?_ ?_ _) | (with_reducible refine Below.trans ?_ (Below.mono (by assumption) ?_)) | (simp only [sz_alloc, sz_set, sz_drew, sz_drewN, sz_iterAt, sz_iter] at *; omega) | omega | (simp; done) | (simp; omega) | (apply Below.size; assumption) | (simp only [sz_drew, sz_drewN]; apply Below.size; assumption) | (refine Nat.le_trans ?_ (Below.size (by assumption)))))⟩
  · obtain ⟨a1, a2, a3, a4, -⟩ := decSnd_of hd
    obtain ⟨t, rfl⟩ : ∃ t : Nat, s = (t : Int) := ⟨s.toNat, by omega⟩
    obtain ⟨N, hN⟩ : ∃ N, n.natAbs = N := ⟨_, rfl⟩
    have hN12 : N ≤ 999999999999 := by omega
    have HF : Hid (decTxtRes n t = .tuple #[.string ⟨(decL n t).toArray⟩, .int .i64 0]) := Lib.hid (by unfold decTxtRes; rw [hd]; rfl)
    have HL : Hid (decL n t = if n < 0 then 45 :: absL N t else absL N t) := Lib.hid (by rw [decL_eq, hN, Int.toNat_natCast])
    have HN := Lib.hid hN
    clear hN
    go_enter Tryz.func26, Tryz.ntmps26
    go_wp2_with fail
    refine (ref01Sound_any n t _).mono ?_
    rintro e w1 ⟨rfl, hb1⟩
    rw [hd]
    clear hd
    obtain ⟨hc1, hf1⟩ := bcell hb1
    have hz1 := hb1.size
    try simp at hz1
    have q1_0 := fun o => hc1 (w.heap.size) o (by first | omega | (simp only [sz_alloc, sz_set, sz_drew, sz_drewN, sz_iterAt, sz_iter] at *; omega) | (simp; done) | (simp; omega) | (simp at *; omega))
    have l1_0 : w.heap.size < w1.heap.size := by omega
    have r1_0 := fun o => hf1 (w.heap.size) o (by first | omega | (simp only [sz_alloc, sz_set, sz_drew, sz_drewN, sz_iterAt, sz_iter] at *; omega) | (simp; done) | (simp; omega) | (simp at *; omega))
    clear hc1 hf1
    go_wp2_with fail
    refine (refSize_any n _ (by omega) (by omega)).mono ?_
    rintro e w2 ⟨rfl, rfl⟩
    rw [HN.out]
    go_wp2_with fail
    have hw1 : Below w.heap.size w w1 := (by repeat' (first | (with_reducible exact Below.refl _ _) | (with_reducible assumption) | (with_reducible refine Below.drew ?_) | (with_reducible refine below_drewN ?_ _) | (with_reducible refine below_iterAt ?_ ?_ _ _) | (with_reducible refine below_iter ?_ ?_ _ _) | (with_reducible refine Below.alloc ?_ ?_ _) | (with_reducible refine Below.setCell ?_ ?_ _) | (with_reducible refine Below.trans ?_ (Below.mono (by assumption) ?_)) | (simp only [sz_alloc, sz_set, sz_drew, sz_drewN, sz_iterAt, sz_iter] at *; omega) | omega | (simp; done) | (simp; omega) | (apply Below.size; assumption) | (simp only [sz_drew, sz_drewN]; apply Below.size; assumption) | (refine Nat.le_trans ?_ (Below.size (by assumption)))))
    go_loopg [4, 5, 6] 6 (fun k nv sv iv wr => ∃ (j : Nat) (S : ByteArray), j ≤ t ∧ t - j ≤ k ∧ nv = .int .i64 ((N / 10 ^ j : Nat) : Int) ∧ sv = .string S ∧ Hid (S = ⟨(lowD N j).toArray⟩) ∧ iv = .int .i64 j ∧ Below w1.heap.size w1 wr)
    case atStart => exact ⟨0, ⟨#[]⟩, by omega, by omega, by simp, rfl, Lib.hid rfl, rfl, Below.refl _ _⟩
    case round =>
      obtain ⟨j, S, hj, hjk, rfl, rfl, HS, rfl, hbel⟩ := hrel
      have hsz := hbel.size
      have qa_0 := fun o => (hbel.cell (p := ⟨w.heap.size, o, none⟩) l1_0).trans (q1_0 o)
      have hle : N / 10 ^ j ≤ N := Nat.div_le_self _ _
      have HSU := Lib.hid (dig_succ N j)
      have HLC := Lib.hid (lowD_cons j N)
      have hSs : S.size = j := by rw [HS.out, ba_size, lowD_length]
      have hj6 : j ≤ 6 := by omega
      obtain ⟨m, hm⟩ : ∃ m, N / 10 ^ j = m := ⟨_, rfl⟩
      rw [hm] at hle HSU HLC ⊢
      have HM := Lib.hid hm
      clear hm
      by_cases hlt : j < t
      · skip
        obtain ⟨d, hdm⟩ : ∃ d, m % 10 = d := ⟨_, rfl⟩
        have hd10 : d < 10 := by omega
        obtain ⟨x, hx⟩ : ∃ x, UInt8.ofNat (48 + d) = x := ⟨_, rfl⟩
        rw [hdm, hx] at HLC
        have hr1 : (m : Int) % 10 = (d : Int) := by omega
        have hr2 : (m : Int).tmod 10 = (d : Int) := by rw [Int.tmod_eq_emod_of_nonneg (by omega)]; omega
        have hr3 : IntKind.i64.wrap (48 + (d : Int)) = 48 + (d : Int) := IntWalk.i64_in _ (by omega)
        have hr4 : IntKind.u8.wrap (48 + (d : Int)) = 48 + (d : Int) := by rw [IntKind.wrap_u8]; omega
        have hcv : ∀ W : World, (convert 87 9 (.slice (some ⟨W.heap.size, 0, none⟩) 1 1)).run Tryz.prog (W.alloc (.cells #[.int .u8 (48 + (d : Int))] 5)) = .ok (.string ⟨#[x]⟩) (W.alloc (.cells #[.int .u8 (48 + (d : Int))] 5)) := fun W => by rw [conv1 d hd10 W 5, hx]
        clear hdm hx
        have hS1 : ¬ 9223372036854775807 < 1 + S.size := by omega
        clear hSs
        go_wp2_with fail
        go_roundg (gk - 1)
        case measure => omega
        case rel =>
          refine ⟨j + 1, ⟨#[x]⟩ ++ S, by omega, by omega, ?_, rfl, Lib.hid ?_, by go_num, (by repeat' (first | (with_reducible exact Below.refl _ _) | (with_reducible assumption) | (with_reducible refine Below.drew ?_) | (with_reducible refine below_drewN ?_ _) | (with_reducible refine below_iterAt ?_ ?_ _ _) | (with_reducible refine below_iter ?_ ?_ _ _) | (with_reducible refine Below.alloc ?_ ?_ _) | (with_reducible refine Below.setCell ?_ ?_ _) | (with_reducible refine Below.trans ?_ (Below.mono (by assumption) ?_)) | (simp only [sz_alloc, sz_set, sz_drew, sz_drewN, sz_iterAt, sz_iter] at *; omega) | omega | (simp; done) | (simp; omega) | (apply Below.size; assumption) | (simp only [sz_drew, sz_drewN]; apply Below.size; assumption) | (refine Nat.le_trans ?_ (Below.size (by assumption)))))⟩
          · rw [HSU.out]; go_num
          · rw [HLC.out, HS.out, show (⟨#[x]⟩ : ByteArray) = ⟨[x].toArray⟩ from rfl, ba_append]; rfl
      · obtain rfl : j = t := by omega
        have ra_0 := fun o => (hbel.frozen (p := ⟨w.heap.size, o, none⟩) l1_0).trans (r1_0 o)
        have la_0 : w.heap.size < wr.heap.size := by omega
        have hbw : Below w.heap.size w wr := (by repeat' (first | (with_reducible exact Below.refl _ _) | (with_reducible assumption) | (with_reducible refine Below.drew ?_) | (with_reducible refine below_drewN ?_ _) | (with_reducible refine below_iterAt ?_ ?_ _ _) | (with_reducible refine below_iter ?_ ?_ _ _) | (with_reducible refine Below.alloc ?_ ?_ _) | (with_reducible refine Below.setCell ?_ ?_ _) | (with_reducible refine Below.trans ?_ (Below.mono (by assumption) ?_)) | (simp only [sz_alloc, sz_set, sz_drew, sz_drewN, sz_iterAt, sz_iter] at *; omega) | omega | (simp; done) | (simp; omega) | (apply Below.size; assumption) | (simp only [sz_drew, sz_drewN]; apply Below.size; assumption) | (refine Nat.le_trans ?_ (Below.size (by assumption)))))
        have HDF : Hid (absL N j = restD m ++ (UInt8.ofNat (48 + m % 10) :: fracL N j)) := Lib.hid (by rw [absL_frac, HM.out, restD_first, List.append_assoc]; rfl)
        obtain ⟨d, hdm⟩ : ∃ d, m % 10 = d := ⟨_, rfl⟩
        have hd10 : d < 10 := by omega
        obtain ⟨x, hx⟩ : ∃ x, UInt8.ofNat (48 + d) = x := ⟨_, rfl⟩
        rw [hdm, hx] at HDF
        have hr1 : (m : Int) % 10 = (d : Int) := by omega
        have hr2 : (m : Int).tmod 10 = (d : Int) := by rw [Int.tmod_eq_emod_of_nonneg (by omega)]; omega
        have hr3 : IntKind.i64.wrap (48 + (d : Int)) = 48 + (d : Int) := IntWalk.i64_in _ (by omega)
        have hr4 : IntKind.u8.wrap (48 + (d : Int)) = 48 + (d : Int) := by rw [IntKind.wrap_u8]; omega
        have hcv : ∀ W : World, (convert 87 9 (.slice (some ⟨W.heap.size, 0, none⟩) 1 1)).run Tryz.prog (W.alloc (.cells #[.int .u8 (48 + (d : Int))] 5)) = .ok (.string ⟨#[x]⟩) (W.alloc (.cells #[.int .u8 (48 + (d : Int))] 5)) := fun W => by rw [conv1 d hd10 W 5, hx]
        clear hdm hx
        clear HSU HLC HM hjk hj hbel
        by_cases ht : 0 < j
        · have HFR : Hid ((⟨#[46]⟩ : ByteArray) ++ S = ⟨(fracL N j).toArray⟩) := Lib.hid (by
            unfold fracL
            rw [if_pos ht, HS.out, show (⟨#[46]⟩ : ByteArray) = ⟨[46].toArray⟩ from rfl, ba_append]; rfl)
          have hS1 : ¬ 9223372036854775807 < 1 + S.size := by omega
          have hS2 : ¬ 9223372036854775807 < 1 + (1 + S.size) := by omega
          go_wp2_with fail
          rw [HFR.out]
          generalize hT0 : (⟨#[x]⟩ : ByteArray) ++ ⟨(fracL N j).toArray⟩ = T0
          have HT0 : Hid (absL N j = restD m ++ T0.data.toList) := Lib.hid (by rw [HDF.out, ← hT0, show (⟨#[x]⟩ : ByteArray) = ⟨[x].toArray⟩ from rfl, ba_append]; rfl)
          have hfl : (fracL N j).length ≤ 7 := by
            unfold fracL
            split <;> first | (rw [List.length_cons, lowD_length]; omega) | exact Nat.zero_le _
          have hT0s : T0.size ≤ 8 := by
            rw [← hT0, show (⟨#[x]⟩ : ByteArray) = ⟨[x].toArray⟩ from rfl, ba_append, ba_size, List.length_append, List.length_singleton]
            omega
          clear hfl
          clear hT0 HFR HDF hSs hcv hr1 hr2 hr3 hr4
          go_loopg [4, 5] 20 (fun k nv sv wq => ∃ (m : Nat) (S : ByteArray), m < 10 ^ k ∧ m ≤ 999999999999 ∧ nv = .int .i64 (m : Int) ∧ sv = .string S ∧ Hid (absL N j = restD m ++ S.data.toList) ∧ S.size + k ≤ 40 ∧ Below w.heap.size w wq ∧ Below wr.heap.size wr wq)
          case atStart => exact ⟨m, T0, by omega, by omega, rfl, rfl, HT0, by omega, by repeat' (first | exact hbw | refine Below.alloc ?_ ?_ _ | exact Nat.le_refl _ | (have := hbw.size; omega)), by repeat' (first | exact Below.refl _ _ | refine Below.alloc ?_ ?_ _ | exact Nat.le_refl _)⟩
          case round =>
            obtain ⟨m, S, hmk, hm12, rfl, rfl, HS, hSk, hbel, hbel2⟩ := hrel
            have qb_0 := fun o => (hbel2.cell (p := ⟨w.heap.size, o, none⟩) la_0).trans (qa_0 o)
            have hsz2 := hbel.size
            by_cases h10 : 10 ≤ m
            · have HST := Lib.hid (restD_step m h10)
              obtain ⟨q, hq⟩ : ∃ q, m / 10 = q := ⟨_, rfl⟩
              rw [hq] at HST
              obtain ⟨d, hdm⟩ : ∃ d, q % 10 = d := ⟨_, rfl⟩
              have hd10 : d < 10 := by omega
              obtain ⟨x, hx⟩ : ∃ x, UInt8.ofNat (48 + d) = x := ⟨_, rfl⟩
              rw [hdm, hx] at HST
              have hr1 : (q : Int) % 10 = (d : Int) := by omega
              have hr2 : (q : Int).tmod 10 = (d : Int) := by rw [Int.tmod_eq_emod_of_nonneg (by omega)]; omega
              have hr3 : IntKind.i64.wrap (48 + (d : Int)) = 48 + (d : Int) := IntWalk.i64_in _ (by omega)
              have hr4 : IntKind.u8.wrap (48 + (d : Int)) = 48 + (d : Int) := by rw [IntKind.wrap_u8]; omega
              have hcv : ∀ W : World, (convert 87 9 (.slice (some ⟨W.heap.size, 0, none⟩) 1 1)).run Tryz.prog (W.alloc (.cells #[.int .u8 (48 + (d : Int))] 5)) = .ok (.string ⟨#[x]⟩) (W.alloc (.cells #[.int .u8 (48 + (d : Int))] 5)) := fun W => by rw [conv1 d hd10 W 5, hx]
              clear hdm hx
              have hS1 : ¬ 9223372036854775807 < 1 + S.size := by omega
              have hq1 : (m : Int) / 10 = (q : Int) := by omega
              have hq2 : (m : Int).tdiv 10 = (q : Int) := by rw [Int.tdiv_eq_ediv_of_nonneg (by omega)]; omega
              have h10' : (10 : Int) ≤ (m : Int) := by omega
              have hqk : q < 10 ^ (gk - 1) := by
                rcases gk with _ | g
                · omega
                · rw [Nat.pow_succ] at hmk; simp; omega
              have hgk : 0 < gk := by
                rcases gk with _ | g
                · omega
                · omega
              have hq12 : q ≤ 999999999999 := by omega
              have HQ := Lib.hid hq
              clear hq hmk
              go_wp2_with fail
              go_roundg (gk - 1)
              case measure => omega
              case rel =>
                refine ⟨q, ⟨#[x]⟩ ++ S, hqk, hq12, by first | rfl | go_num, rfl, Lib.hid ?_, ?_, (by repeat' (first | (with_reducible exact Below.refl _ _) | (with_reducible assumption) | (with_reducible refine Below.drew ?_) | (with_reducible refine below_drewN ?_ _) | (with_reducible refine below_iterAt ?_ ?_ _ _) | (with_reducible refine below_iter ?_ ?_ _ _) | (with_reducible refine Below.alloc ?_ ?_ _) | (with_reducible refine Below.setCell ?_ ?_ _) | (with_reducible refine Below.trans ?_ (Below.mono (by assumption) ?_)) | (simp only [sz_alloc, sz_set, sz_drew, sz_drewN, sz_iterAt, sz_iter] at *; omega) | omega | (simp; done) | (simp; omega) | (apply Below.size; assumption) | (simp only [sz_drew, sz_drewN]; apply Below.size; assumption) | (refine Nat.le_trans ?_ (Below.size (by assumption))))), by repeat' (first | exact hbel2 | refine Below.alloc ?_ ?_ _ | exact Nat.le_refl _ | (have := hbel2.size; omega))⟩
                · rw [HS.out, HST.out, show (⟨#[x]⟩ : ByteArray) = ⟨[x].toArray⟩ from rfl, show S = ⟨S.data.toList.toArray⟩ from rfl, ba_append]; simp
                · rw [ByteArray.size_append, show (⟨#[x]⟩ : ByteArray).size = 1 from rfl]; omega
            · have h10' : ¬ (10 : Int) ≤ (m : Int) := by omega
              have HE : Hid (S = ⟨(absL N j).toArray⟩) := Lib.hid (by rw [HS.out]; unfold restD; rw [if_pos (by omega)]; rfl)
              have hS1 : ¬ 9223372036854775807 < 1 + S.size := by omega
              by_cases hm : n < 0
              · go_wp2_with fail
                go_ret2
                refine ⟨?_, hbel⟩
                rw [HF.out, HL.out, if_pos (by omega), HE.out, show (⟨#[45]⟩ : ByteArray) = ⟨[45].toArray⟩ from rfl, ba_append]
                rfl
              · go_wp2_with fail
                go_ret2
                refine ⟨?_, hbel⟩
                rw [HF.out, HL.out, if_neg (by omega), HE.out]
                rfl
        · have HFR : Hid (S = ⟨(fracL N j).toArray⟩) := Lib.hid (by
            unfold fracL
            rw [if_neg ht, HS.out, show j = 0 by omega]; rfl)
          have hS1 : ¬ 9223372036854775807 < 1 + S.size := by omega
          go_wp2_with fail
          rw [HFR.out]
          generalize hT0 : (⟨#[x]⟩ : ByteArray) ++ ⟨(fracL N j).toArray⟩ = T0
          have HT0 : Hid (absL N j = restD m ++ T0.data.toList) := Lib.hid (by rw [HDF.out, ← hT0, show (⟨#[x]⟩ : ByteArray) = ⟨[x].toArray⟩ from rfl, ba_append]; rfl)
          have hfl : (fracL N j).length ≤ 7 := by
            unfold fracL
            split <;> first | (rw [List.length_cons, lowD_length]; omega) | exact Nat.zero_le _
          have hT0s : T0.size ≤ 8 := by
            rw [← hT0, show (⟨#[x]⟩ : ByteArray) = ⟨[x].toArray⟩ from rfl, ba_append, ba_size, List.length_append, List.length_singleton]
            omega
          clear hfl
          clear hT0 HFR HDF hSs hcv hr1 hr2 hr3 hr4
          go_loopg [4, 5] 20 (fun k nv sv wq => ∃ (m : Nat) (S : ByteArray), m < 10 ^ k ∧ m ≤ 999999999999 ∧ nv = .int .i64 (m : Int) ∧ sv = .string S ∧ Hid (absL N j = restD m ++ S.data.toList) ∧ S.size + k ≤ 40 ∧ Below w.heap.size w wq ∧ Below wr.heap.size wr wq)
          case atStart => exact ⟨m, T0, by omega, by omega, rfl, rfl, HT0, by omega, by repeat' (first | exact hbw | refine Below.alloc ?_ ?_ _ | exact Nat.le_refl _ | (have := hbw.size; omega)), by repeat' (first | exact Below.refl _ _ | refine Below.alloc ?_ ?_ _ | exact Nat.le_refl _)⟩
          case round =>
            obtain ⟨m, S, hmk, hm12, rfl, rfl, HS, hSk, hbel, hbel2⟩ := hrel
            have qb_0 := fun o => (hbel2.cell (p := ⟨w.heap.size, o, none⟩) la_0).trans (qa_0 o)
            have hsz2 := hbel.size
            by_cases h10 : 10 ≤ m
            · have HST := Lib.hid (restD_step m h10)
              obtain ⟨q, hq⟩ : ∃ q, m / 10 = q := ⟨_, rfl⟩
              rw [hq] at HST
              obtain ⟨d, hdm⟩ : ∃ d, q % 10 = d := ⟨_, rfl⟩
              have hd10 : d < 10 := by omega
              obtain ⟨x, hx⟩ : ∃ x, UInt8.ofNat (48 + d) = x := ⟨_, rfl⟩
              rw [hdm, hx] at HST
              have hr1 : (q : Int) % 10 = (d : Int) := by omega
              have hr2 : (q : Int).tmod 10 = (d : Int) := by rw [Int.tmod_eq_emod_of_nonneg (by omega)]; omega
              have hr3 : IntKind.i64.wrap (48 + (d : Int)) = 48 + (d : Int) := IntWalk.i64_in _ (by omega)
              have hr4 : IntKind.u8.wrap (48 + (d : Int)) = 48 + (d : Int) := by rw [IntKind.wrap_u8]; omega
              have hcv : ∀ W : World, (convert 87 9 (.slice (some ⟨W.heap.size, 0, none⟩) 1 1)).run Tryz.prog (W.alloc (.cells #[.int .u8 (48 + (d : Int))] 5)) = .ok (.string ⟨#[x]⟩) (W.alloc (.cells #[.int .u8 (48 + (d : Int))] 5)) := fun W => by rw [conv1 d hd10 W 5, hx]
              clear hdm hx
              have hS1 : ¬ 9223372036854775807 < 1 + S.size := by omega
              have hq1 : (m : Int) / 10 = (q : Int) := by omega
              have hq2 : (m : Int).tdiv 10 = (q : Int) := by rw [Int.tdiv_eq_ediv_of_nonneg (by omega)]; omega
              have h10' : (10 : Int) ≤ (m : Int) := by omega
              have hqk : q < 10 ^ (gk - 1) := by
                rcases gk with _ | g
                · omega
                · rw [Nat.pow_succ] at hmk; simp; omega
              have hgk : 0 < gk := by
                rcases gk with _ | g
                · omega
                · omega
              have hq12 : q ≤ 999999999999 := by omega
              have HQ := Lib.hid hq
              clear hq hmk
              go_wp2_with fail
              go_roundg (gk - 1)
              case measure => omega
              case rel =>
                refine ⟨q, ⟨#[x]⟩ ++ S, hqk, hq12, by first | rfl | go_num, rfl, Lib.hid ?_, ?_, (by repeat' (first | (with_reducible exact Below.refl _ _) | (with_reducible assumption) | (with_reducible refine Below.drew ?_) | (with_reducible refine below_drewN ?_ _) | (with_reducible refine below_iterAt ?_ ?_ _ _) | (with_reducible refine below_iter ?_ ?_ _ _) | (with_reducible refine Below.alloc ?_ ?_ _) | (with_reducible refine Below.setCell ?_ ?_ _) | (with_reducible refine Below.trans ?_ (Below.mono (by assumption) ?_)) | (simp only [sz_alloc, sz_set, sz_drew, sz_drewN, sz_iterAt, sz_iter] at *; omega) | omega | (simp; done) | (simp; omega) | (apply Below.size; assumption) | (simp only [sz_drew, sz_drewN]; apply Below.size; assumption) | (refine Nat.le_trans ?_ (Below.size (by assumption))))), by repeat' (first | exact hbel2 | refine Below.alloc ?_ ?_ _ | exact Nat.le_refl _ | (have := hbel2.size; omega))⟩
                · rw [HS.out, HST.out, show (⟨#[x]⟩ : ByteArray) = ⟨[x].toArray⟩ from rfl, show S = ⟨S.data.toList.toArray⟩ from rfl, ba_append]; simp
                · rw [ByteArray.size_append, show (⟨#[x]⟩ : ByteArray).size = 1 from rfl]; omega
            · have h10' : ¬ (10 : Int) ≤ (m : Int) := by omega
              have HE : Hid (S = ⟨(absL N j).toArray⟩) := Lib.hid (by rw [HS.out]; unfold restD; rw [if_pos (by omega)]; rfl)
              have hS1 : ¬ 9223372036854775807 < 1 + S.size := by omega
              by_cases hm : n < 0
              · go_wp2_with fail
                go_ret2
                refine ⟨?_, hbel⟩
                rw [HF.out, HL.out, if_pos (by omega), HE.out, show (⟨#[45]⟩ : ByteArray) = ⟨[45].toArray⟩ from rfl, ba_append]
                rfl
              · go_wp2_with fail
                go_ret2
                refine ⟨?_, hbel⟩
                rw [HF.out, HL.out, if_neg (by omega), HE.out]
                rfl
end Go.Proofs.YthicilfhnakhmaaGreatDoor
