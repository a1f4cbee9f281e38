/- soffit/value.Text, soffitref04.Text, Quoted: walked. -/
import Derived.Test.YthicilfhnakhmaaGreatDoorTx3
import Derived.Test.YthicilfhnakhmaaGreatDoorDy4
import Derived.Test.YthicilfhnakhmaaGreatDoorRp5
import Derived.Test.YthicilfhnakhmaaGreatDoorRef04
import Derived.Test.YthicilfhnakhmaaGreatDoorValSound
set_option linter.unusedSimpArgs false
set_option linter.unusedVariables false
namespace Go.Proofs.YthicilfhnakhmaaGreatDoor
open Go.RowKit Go.Sort Go.Lib

/-- a value's text -/
noncomputable def valL (v : Vl) : List UInt8 :=
  if v.k = 1 then decL v.n v.s else if v.k = 2 then quoL v.t.data.toList else if v.k = 3 then (if v.i = 1 then [116, 114, 117, 101] else [102, 97, 108, 115, 101]) else if v.k = 4 then 64 :: 34 :: (dayL v.i ++ [34]) else [110, 117, 108, 108]
noncomputable def txtRes (v : Vl) : Value := if sndB v = true then .tuple #[.string ⟨(valL v).toArray⟩, .int .i64 0] else .tuple #[.string ⟨#[]⟩, .int .i64 2]
theorem txtRes_yes {v : Vl} (h : sndB v = true) : txtRes v = .tuple #[.string ⟨(valL v).toArray⟩, .int .i64 0] := by unfold txtRes; rw [h]; rfl
theorem txtRes_no {v : Vl} (h : sndB v = false) : txtRes v = .tuple #[.string ⟨#[]⟩, .int .i64 2] := by unfold txtRes; rw [h]; rfl

set_option maxRecDepth 100000 in
set_option maxHeartbeats 1600000 in
theorem quoted_any (s : ByteArray) (w : World) (hs : s.size ≤ 1000) :
    Calls Tryz.prog 27 #[.string s] w fun e w' => e = .returned (.string ⟨(quoL s.data.toList).toArray⟩) ∧ Below w.heap.size w w' := by
  obtain ⟨l, hl⟩ : ∃ l, s.data.toList = l := ⟨_, rfl⟩
  have hll : l.length = s.size := by rw [← hl]; rfl
  have hget : ∀ i (h : i < s.size) (h2 : i < l.length), l[i]'h2 = s[i]'h := by intro i h h2; subst hl; rfl
  have hext : ∀ i (h : i < s.size), s.extract i (i + 1) = ⟨#[s[i]'h]⟩ := by
    intro i h
    have e : s = ⟨l.toArray⟩ := by rw [← hl]
    have h2 : i < l.length := by rw [hll]; exact h
    rw [← hget i h h2]
    rw [e, ba_extract, List.take_succ_eq_append_getElem h2, List.drop_left' (by rw [List.length_take]; omega)]
  rw [hl]
  have HLL := Lib.hid hll
  have HGET := Lib.hid hget
  have HEXT := Lib.hid hext
  clear hl hll hget hext
  obtain ⟨R, hR⟩ : ∃ R : ByteArray, ⟨(quoL l).toArray⟩ = R := ⟨_, rfl⟩
  rw [hR]
  have HR := Lib.hid hR
  clear hR
  go_enter Tryz.func27, Tryz.ntmps27
  go_wp2_with fail
  go_loopg [3, 4] s.size (fun k ov iv wr => ∃ (i : Nat) (O : ByteArray), i ≤ s.size ∧ s.size - i ≤ k ∧ iv = .int .i64 (i : Int) ∧ ov = .string O ∧ Hid (O = ⟨(34 :: escL (l.take i)).toArray⟩) ∧ O.size ≤ 2 * i + 1 ∧ w = wr)
  case atStart => exact ⟨0, ⟨#[34]⟩, by omega, by omega, rfl, rfl, rfl, by show (1 : Nat) ≤ 1; omega, rfl⟩
  case round =>
    obtain ⟨i, O, hi, hik, rfl, rfl, HO, hO, rfl⟩ := hrel
    by_cases hlt : i < s.size
    · have hlt' : (i : Int) < (s.size : Int) := by omega
      have hil : i < l.length := by rw [HLL.out]; exact hlt
      have hst := escL_take l i hil
      rw [HGET.out i hlt hil] at hst
      have hx1 := HEXT.out i hlt
      obtain ⟨x, hx⟩ : ∃ x, s[i]'hlt = x := ⟨_, rfl⟩
      rw [hx] at hst hx1
      have hi0 : (0 : Int) ≤ (i : Int) := by omega
      have hi1 : (i : Int) + 1 ≤ (s.size : Int) := by omega
      have hi2 : IntKind.i64.wrap ((i : Int) + 1) = (i : Int) + 1 := IntWalk.i64_in _ (by omega)
      have hi3 : ¬ (s.size : Int) < (i : Int) + 1 := by omega
      have hi4 : i + 1 ≤ s.size := hlt
      have ho1 : ¬ 9223372036854775807 < O.size + 1 := by omega
      have ho2 : ¬ 9223372036854775807 < O.size + 1 + 1 := by omega
      have hext1 : s.extract i (i + 1) = ⟨#[x]⟩ := hx1
      by_cases hq : x = 34
      · subst hq
        have e34 : (((34 : UInt8).toNat : Int) == 34) = true := rfl
        rw [if_pos (.inl rfl)] at hst
        have HST := Lib.hid hst
        clear hst hx1
        go_wp2_with fail
        go_roundg (gk - 1)
        case measure => omega
        case rel =>
          refine ⟨i + 1, O ++ ⟨#[92]⟩ ++ ⟨#[34]⟩, by omega, by omega, by first | rfl | go_num, by first | rfl | (rw [hext1]), Lib.hid ?_, ?_, rfl⟩
          · rw [HST.out, HO.out, show (⟨#[92]⟩ : ByteArray) = ⟨[92].toArray⟩ from rfl, show (⟨#[34]⟩ : ByteArray) = ⟨[34].toArray⟩ from rfl, ba_append, ba_append]; simp
          · rw [ByteArray.size_append, ByteArray.size_append]; show O.size + 1 + 1 ≤ _; omega
      · have e34 : ((x.toNat : Int) == 34) = false := by
          rw [beq_eq_false_iff_ne]; intro h; exact hq (UInt8.toNat_inj.1 (by have : x.toNat = 34 := by omega
                                                                             rw [this]; rfl))
        by_cases hb : x = 92
        · subst hb
          have e92 : (((92 : UInt8).toNat : Int) == 92) = true := rfl
          rw [if_pos (.inr rfl)] at hst
          have HST := Lib.hid hst
          clear hst hx1 hq
          go_wp2_with fail
          go_roundg (gk - 1)
          case measure => omega
          case rel =>
            refine ⟨i + 1, O ++ ⟨#[92]⟩ ++ ⟨#[92]⟩, by omega, by omega, by first | rfl | go_num, by first | rfl | (rw [hext1]), Lib.hid ?_, ?_, rfl⟩
            · rw [HST.out, HO.out, show (⟨#[92]⟩ : ByteArray) = ⟨[92].toArray⟩ from rfl, ba_append, ba_append]; simp
            · rw [ByteArray.size_append, ByteArray.size_append]; show O.size + 1 + 1 ≤ _; omega
        · have e92 : ((x.toNat : Int) == 92) = false := by
            rw [beq_eq_false_iff_ne]; intro h; exact hb (UInt8.toNat_inj.1 (by have : x.toNat = 92 := by omega
                                                                               rw [this]; rfl))
          rw [if_neg (by rintro (h | h) <;> contradiction)] at hst
          have HST := Lib.hid hst
          clear hst hx1 hq hb
          go_wp2_with fail
          go_roundg (gk - 1)
          case measure => omega
          case rel =>
            refine ⟨i + 1, O ++ ⟨#[x]⟩, by omega, by omega, by first | rfl | go_num, by first | rfl | (rw [hext1]), Lib.hid ?_, ?_, rfl⟩
            · rw [HST.out, HO.out, show (⟨#[x]⟩ : ByteArray) = ⟨[x].toArray⟩ from rfl, ba_append]; simp
            · rw [ByteArray.size_append]; show O.size + 1 ≤ _; omega
    · have hlt' : ¬ (i : Int) < (s.size : Int) := by omega
      have HE : Hid (O ++ ⟨#[34]⟩ = R) := Lib.hid (by
        rw [← HR.out, HO.out, List.take_of_length_le (by rw [HLL.out]; omega), show (⟨#[34]⟩ : ByteArray) = ⟨[34].toArray⟩ from rfl, ba_append]; rfl)
      have ho1 : ¬ 9223372036854775807 < O.size + 1 := by omega
      go_wp2_with fail
      go_ret
      exact ⟨by rw [← HE.out]; rfl, (by repeat' (first | (with_reducible exact Below.refl _ _) | (with_reducible assumption) | (with_reducible refine Below.drew ?_) | (with_reducible refine below_drewN ?_ _) | (with_reducible refine below_iterAt ?_ ?_ _ _) | (with_reducible refine below_iter ?_ ?_ _ _) | (with_reducible refine Below.alloc ?_ ?_ _) | (with_reducible refine Below.setCell ?_ ?_ _) | (with_reducible refine Below.trans ?_ (Below.mono (by assumption) ?_)) | (simp only [sz_alloc, sz_set, sz_drew, sz_drewN, sz_iterAt, sz_iter] at *; omega) | omega | (simp; done) | (simp; omega) | (apply Below.size; assumption) | (simp only [sz_drew, sz_drewN]; apply Below.size; assumption) | (refine Nat.le_trans ?_ (Below.size (by assumption)))))⟩
end Go.Proofs.YthicilfhnakhmaaGreatDoor
