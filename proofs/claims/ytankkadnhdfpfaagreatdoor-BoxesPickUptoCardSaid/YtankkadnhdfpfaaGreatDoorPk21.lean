import Derived.Test.YtankkadnhdfpfaaGreatDoorPk18
import Derived.Test.YtankkadnhdfpfaaGreatDoorPk10
import Derived.Test.YtankkadnhdfpfaaGreatDoorPk17
import Derived.Test.YtankkadnhdfpfaaGreatDoorPk19
import Derived.Test.YtankkadnhdfpfaaGreatDoorPk20
import Derived.WalkMore
/- Spans: Without, walked. -/
set_option linter.unusedSimpArgs false
set_option linter.unusedVariables false
namespace Go.Proofs.YtankkadnhdfpfaaGreatDoor.Sp
open Go.RowKit Go.Sort

theorem cutS_out {x y : Sp} {r : List Sp} (h : (decide (y.2 < x.1) || decide (x.2 < y.1)) = true) : cutS x (y :: r) = cutS x r := by rw [cutS, if_pos h]
theorem cutS_mid {x y : Sp} {r : List Sp} (h : (decide (y.2 < x.1) || decide (x.2 < y.1)) = false) : cutS x (y :: r) = (if x.1 < y.1 then [(x.1, y.1 - 1)] else []) ++ (if x.2 ≤ y.2 then [] else cutS (y.2 + 1, x.2) r) := by rw [cutS, if_neg (by rw [h]; simp)]
theorem heap_setLow {w : World} {k : Nat} {a c m : Int} {t : TypeId} (h : w.heap[k]? = some (.cells #[.int .i64 a, .int .i64 c] t (0, 0))) : (w.setCell ⟨k, 0, none⟩ (.int .i64 m)).heap[k]? = some (.cells #[.int .i64 m, .int .i64 c] t (0, 0)) := by
  rw [heap_setCell_same w k 0 _ t _ h]; rfl

set_option maxRecDepth 100000 in
set_option maxHeartbeats 6400000 in
theorem withoutB_any (a b : List Sp) (A B : Option Addr) (ca cb : Nat) (w : World) (hra : RdL w 2 A (a.map spC)) (hrb : RdL w 2 B (b.map spC)) (hwa : ∀ s ∈ a, SpWf s) (hwb : ∀ s ∈ b, SpWf s)
    (hna : a.length ≤ 4000000000000) (hnb : b.length ≤ 4000000000000) (hnm : a.length * (b.length + 1) ≤ 8000000000000) :
    Calls Tryz.prog 90 #[.slice A a.length ca, .slice B b.length cb] w fun e w' =>
      ∃ (R : List Sp) (C : Option Addr) (cc : Nat), e = .returned (.slice C R.length cc) ∧ RdL w' 2 C (R.map spC) ∧ SetOf (fun n => inS a n && !inS b n) (a.length * (b.length + 1)) R ∧ R.length ≤ cc ∧ (∀ p, C = some p → w.heap.size ≤ p.block) ∧ Below w.heap.size w w' := by
  obtain ⟨i0, hinf, hza, hzb, hzc⟩ := info_parts (show (Tryz.prog.info? 86).map (fun i => (i.zero, i.size, i.bytes)) = some (some (.agg #[.int .i64 0, .int .i64 0]), 2, 16) by kernel_rfl)
  obtain ⟨bl, hbl⟩ : ∃ bl, b.length + 1 = bl := ⟨_, rfl⟩
  rw [hbl] at hnm
  go_enter Tryz.func90, Tryz.ntmps90
  go_wp2_with fail
  go_step3
  go_wp2_with fail
  go_step3
  go_wp2_with fail
  refine (join_any a A ca _ hra hwa (by omega)).mono ?_
  rintro e w1 ⟨Ja, BJ, cJ, rfl, hrJ, hJ, hcJ, _, hb1⟩
  have hlJ := hJ.len
  go_wp2_with fail
  go_loopg [5, 13] Ja.length (fun k ov iv wr => ∃ (i : Nat) (acc : List Sp), i ≤ Ja.length ∧ Ja.length - i ≤ k ∧ iv = .int .i64 i ∧ wr.ownsRow w1.heap.size 86 2 ov acc.length (acc.flatMap spC) ∧ acc.length ≤ i * bl ∧ (∀ s ∈ acc, SpWf s) ∧ Hid (∀ n, inS acc n = (inS (Ja.take i) n && !inS b n)) ∧ Below w1.heap.size w1 wr)
  case atStart => exact ⟨0, [], by omega, by omega, rfl, ⟨rfl, Or.inl ⟨rfl, rfl⟩⟩, by simp, by simp, fun n => rfl, Below.refl _ _⟩
  case round =>
    obtain ⟨i, acc, hi, hik, rfl, hown, hal, haw, hai, hbel⟩ := hrel
    obtain ⟨wo, rfl⟩ : ∃ wo, wo = wr := ⟨_, rfl⟩
    have hsz := hbel.size
    have hb1s := hb1.size
    by_cases hlt : i < Ja.length
    · obtain ⟨bJ, oJ, hBJ, hx⟩ := (hrJ.below hbel).at_ hlt
      subst hBJ
      have hxw := hJ.wf _ (List.getElem_mem hlt)
      have htk := fun n => inS_take_succ hlt n
      have hib := mul_bound (i := i + 1) (n := Ja.length) (m := bl) hlt hlJ (Nat.le_refl _)
      have hib2 : (i + 1) * bl = i * bl + bl := Nat.succ_mul _ _
      generalize Ja[i]'hlt = x at *
      have y0 : wo.cell? ⟨bJ, oJ + i * 2, none⟩ = some (.int .i64 x.1) := hx.get 0 rfl
      have y1 : wo.cell? ⟨bJ, oJ + i * 2 + 1, none⟩ = some (.int .i64 x.2) := hx.get 1 rfl
      have i1 : (i : Int) < (Ja.length : Int) := by omega
      have i2 : (0 : Int) ≤ (i : Int) := by omega
      have HXW := Lib.hid hxw
      have HT := Lib.hid htk
      have HIB := Lib.hid hib
      have HIB2 := Lib.hid hib2
      have HBL := Lib.hid hbl
      clear hx htk hxw hib hib2
      go_wp2_with fail
      refine (join_any b B cb _ (hrb.below bel) hwb (by omega)).mono ?_
      rintro e w2 ⟨Jb, CB, cB, rfl, hrB, hJb, hcB, hfB, hb2⟩
      have hz2 := hb2.size
      have hz2b : wo.heap.size < w2.heap.size := by have := hz2; simp at this; omega
      have hownB : w2.ownsRow w1.heap.size 86 2 _ acc.length (acc.flatMap spC) := own_below (hown.alloc _) hb2
      have hXB : w2.heap[wo.heap.size]? = some (.cells #[.int .i64 x.1, .int .i64 x.2] 86 (0, 0)) := (hb2.block wo.heap.size (by simp)).trans (MapKept.heap_alloc wo _).1
      have hsepB : ∀ g, Value.ownBlock _ = some g → g ≠ wo.heap.size ∧ ∀ p, CB = some p → g ≠ p.block := fun g hg => ⟨by have := (hown.lt g hg).2; omega, fun p hp => by have h1 := (hown.lt g hg).2; have h2 := (hfB p hp).1; simp at h2; omega⟩
      have hb1w2 : Below w1.heap.size w1 w2 := (hbel.alloc hsz _).trans (hb2.mono (by simp; omega))
      have hlB := hJb.len
      have hfB2 : ∀ p, CB = some p → p.block < w2.heap.size ∧ p.block ≠ wo.heap.size := fun p hp => ⟨(hfB p hp).2, by have h2 := (hfB p hp).1; simp at h2; omega⟩
      clear hfB hb2 hz2
      have hcut := fun n => cutS_in Jb x n hJb.ord
      have hxl : x.1 ≤ 9223372036854775807 ∧ -9223372036854775808 ≤ x.1 := ⟨HXW.out.l2, HXW.out.l1⟩
      have hst : Hid (∀ n, (inS acc n || inS (cutS x Jb) n) = (inS acc n || (hasS x n && !inS b n))) := fun n => by rw [hcut n, hJb.same n]
      clear hcut
      go_wp2_with fail
      go_loopg [5, 20] Jb.length (fun k ov jv wr => ∃ (j : Nat) (acc2 : List Sp) (lo : Int), j ≤ Jb.length ∧ Jb.length - j ≤ k ∧ jv = .int .i64 j ∧ wr.ownsRow w1.heap.size 86 2 ov acc2.length (acc2.flatMap spC) ∧ acc2.length ≤ i * bl + j ∧ (∀ s ∈ acc2, SpWf s) ∧ Hid (lo ≤ 9223372036854775807 ∧ -9223372036854775808 ≤ lo) ∧ Hid (∀ n, (inS acc2 n || inS (cutS (lo, x.2) (Jb.drop j)) n) = (inS acc n || (hasS x n && !inS b n))) ∧ (∀ g, ov.ownBlock = some g → g ≠ wo.heap.size ∧ ∀ p, CB = some p → g ≠ p.block) ∧ wr.heap[wo.heap.size]? = some (.cells #[.int .i64 lo, .int .i64 x.2] 86 (0, 0)) ∧ (∀ p, CB = some p → wr.heap[p.block]? = w2.heap[p.block]?) ∧ w2.heap.size ≤ wr.heap.size ∧ Below w1.heap.size w1 wr)
      case atStart => exact ⟨0, acc, x.1, by omega, by omega, rfl, hownB, by omega, haw, hxl, hst, hsepB, hXB, fun p _ => rfl, Nat.le_refl _, hb1w2⟩
      case round =>
        clear hown hownB hXB hsepB hb1w2 hal haw hst hxl
        obtain ⟨j, acc2, lo, hj, hjk, rfl, hown, hal, haw, hlo, hai2, hsep, hX, hCB, hw2q, hbq⟩ := hrel
        have hsq := hbq.size
        have x0 : wr.cell? ⟨wo.heap.size, 0, none⟩ = some (.int .i64 lo) := (cell_of_block hX 0).trans rfl
        have x1 : wr.cell? ⟨wo.heap.size, 1, none⟩ = some (.int .i64 x.2) := (cell_of_block hX 1).trans rfl
        have hXl : wo.heap.size < wr.heap.size := lt_of_block hX
        by_cases hjl : j < Jb.length
        · obtain ⟨bY, oY, hBY, hy⟩ := (hrB.of_block hCB).at_ hjl
          subst hBY
          have hyw := hJb.wf _ (List.getElem_mem hjl)
          have hdr : Jb.drop j = Jb[j]'hjl :: Jb.drop (j + 1) := List.drop_eq_getElem_cons hjl
          generalize Jb[j]'hjl = y at *
          rw [hdr] at hai2
          have g0 : wr.cell? ⟨bY, oY + j * 2, none⟩ = some (.int .i64 y.1) := hy.get 0 rfl
          have g1 : wr.cell? ⟨bY, oY + j * 2 + 1, none⟩ = some (.int .i64 y.2) := hy.get 1 rfl
          have hCl : bY < wr.heap.size := Nat.lt_of_lt_of_le (hfB2 _ rfl).1 hw2q
          have i3 : (j : Int) < (Jb.length : Int) := by omega
          have i4 : (0 : Int) ≤ (j : Int) := by omega
          have HY := Lib.hid hyw
          have HC := Lib.hid hCB
          have HS := Lib.hid hsep
          have HXB := Lib.hid hX
          have HCl := Lib.hid hCl
          have HO := Lib.hid hown
          have HFB := Lib.hid (hfB2 _ rfl)
          have HAW := Lib.hid haw
          clear hyw hy hCB hsep hX hCl hdr hfB2 haw
          have four : (decide (y.2 < lo) = true) ∨ (decide (y.2 < lo) = false ∧ decide (x.2 < y.1) = true) ∨ (decide (y.2 < lo) = false ∧ decide (x.2 < y.1) = false) := by cases decide (y.2 < lo) <;> cases decide (x.2 < y.1) <;> simp
          rcases four with e1 | ⟨e1, e2⟩ | ⟨e1, e2⟩
          · have hn : Hid (∀ n, (inS acc2 n || inS (cutS (lo, x.2) (Jb.drop (j + 1))) n) = (inS acc n || (hasS x n && !inS b n))) := by
              intro n
              rw [← hai2.out n, cutS_out (by show (decide (y.2 < lo) || decide (x.2 < y.1)) = true; rw [e1]; rfl)]
            have hX6 : (wr.alloc (.cells #[.int .i64 y.1, .int .i64 y.2] 86)).heap[wo.heap.size]? = some (.cells #[.int .i64 lo, .int .i64 x.2] 86 (0, 0)) := (alloc_old _ () hXl).trans HXB.out
            have HX6 := Lib.hid hX6
            clear hX6
            go_wp2_with fail
            go_roundg (Jb.length - (j + 1))
            case measure => omega
            case rel => exact ⟨j + 1, acc2, lo, by omega, by omega, by go_num, (HO.out.alloc _), by omega, HAW.out, hlo, hn, HS.out, HX6.out, fun p hp => by cases hp; exact (alloc_old _ () HCl.out).trans (HC.out ⟨bY, oY, none⟩ rfl), by simp; omega, bel⟩
          · have hn : Hid (∀ n, (inS acc2 n || inS (cutS (lo, x.2) (Jb.drop (j + 1))) n) = (inS acc n || (hasS x n && !inS b n))) := by
              intro n
              rw [← hai2.out n, cutS_out (by show (decide (y.2 < lo) || decide (x.2 < y.1)) = true; rw [e1, e2]; rfl)]
            have hX6 : (wr.alloc (.cells #[.int .i64 y.1, .int .i64 y.2] 86)).heap[wo.heap.size]? = some (.cells #[.int .i64 lo, .int .i64 x.2] 86 (0, 0)) := (alloc_old _ () hXl).trans HXB.out
            have HX6 := Lib.hid hX6
            clear hX6
            go_wp2_with fail
            go_roundg (Jb.length - (j + 1))
            case measure => omega
            case rel => exact ⟨j + 1, acc2, lo, by omega, by omega, by go_num, (HO.out.alloc _), by omega, HAW.out, hlo, hn, HS.out, HX6.out, fun p hp => by cases hp; exact (alloc_old _ () HCl.out).trans (HC.out ⟨bY, oY, none⟩ rfl), by simp; omega, bel⟩
          · rcases Bool.eq_false_or_eq_true (decide (lo < y.1)) with e3 | e3 <;> rcases Bool.eq_false_or_eq_true (decide (x.2 ≤ y.2)) with e4 | e4
            · have hm : Hid (∀ n, (inS (acc2 ++ [(lo, y.1 - 1)]) n || inS (if x.2 ≤ y.2 then [] else cutS (y.2 + 1, x.2) (Jb.drop (j + 1))) n) = (inS acc n || (hasS x n && !inS b n))) := by
                intro n
                rw [← hai2.out n, cutS_mid (x := (lo, x.2)) (by show (decide (y.2 < lo) || decide (x.2 < y.1)) = false; rw [e1, e2]; rfl), inS_append (if lo < y.1 then _ else _), if_pos (show  lo < y.1 by exact of_decide_eq_true e3), inS_append, Bool.or_assoc]
              have hmO : Hid (∀ n, inS (acc2 ++ [(lo, y.1 - 1)]) n = (inS (Ja.take (i + 1)) n && !inS b n)) := by
                intro n
                have := hm.out n
                rw [if_pos (show x.2 ≤ y.2 by exact of_decide_eq_true e4), inS_nil, Bool.or_false, hai.out n] at this
                rw [this, HT.out n]
                cases inS (Ja.take i) n <;> cases hasS x n <;> simp
              clear hm
              have k1 : IntKind.i64.wrap (y.1 - 1) = y.1 - 1 := IntWalk.i64_in _ (by have := HY.out.l2; have := hlo.out.2; have := of_decide_eq_true e3; omega)
              have hbnd := HIB.out
              have hbnd2 := HIB2.out
              have hbnd3 := HBL.out
              go_wp2_with (first
                | (at_builtin; refine wpList_append_own2 _ rfl _ _ 31 rfl w1.heap.size 86 i0 (.agg #[.int .i64 0, .int .i64 0]) 2 16 Tryz.underlying31 hinf hza hzb hzc rfl (by decide) _ _ _ rfl ((HO.out.alloc _).alloc _) ⟨wr.heap.size + 1, 0, none⟩ 1 1 (spC ((lo, y.1 - 1) : Sp)) rfl rfl ?k1_w11 ?k2_w11 ?k3_w11 ?k4_w11 ?k5_w11 ?_)
                | fail)
              try case k1_w11 => first | exact fun i u hu => cells_new (by first | rfl | (simp; done) | (simp [World.drewN]; done)) i u hu | exact fun i u hu => hu
              try case k2_w11 => first | exact ⟨rfl, rfl⟩ | (intro u hu; simp [spC] at hu; rcases hu with rfl | rfl <;> rfl)
              try case k3_w11 => unfold maxLen; first | omega | (simp; done) | (simp; omega)
              try case k4_w11 => first | omega | (simp; done) | (simp; omega)
              try case k5_w11 => first | omega | (simp; done) | (simp; omega) | (simp [World.drewN]; omega)
              · intro v' w5 hown' hgrow hwh
                have hb5 : Below w1.heap.size w1 w5 := by
                  refine Below.grown ?_ hgrow ?_ (fun g hg => (HO.out.lt g hg).1)
                  · exact bel
                  · first | (simp; omega) | (simp [World.drewN]; omega)
                have hown2 : w5.ownsRow w1.heap.size 86 2 v' (acc2 ++ [((lo, y.1 - 1) : Sp)]).length ((acc2 ++ [((lo, y.1 - 1) : Sp)]).flatMap spC) := by first | exact hown' | (rw [List.flatMap_append, List.length_append]; exact hown') | (simpa using hown')
                have hX5 : w5.heap[wo.heap.size]? = some (.cells #[.int .i64 lo, .int .i64 x.2] 86 (0, 0)) := (hgrow.block wo.heap.size (by simp; omega) (fun e => (HS.out _ e.symm).1 rfl)).trans ((alloc_old _ () (by simp; omega)).trans ((alloc_old _ () hXl).trans HXB.out))
                have hC5 : w5.heap[bY]? = w2.heap[bY]? := (hgrow.block bY (by have := HCl.out; simp; omega) (fun e => (HS.out _ e.symm).2 _ rfl rfl)).trans ((alloc_old _ () (by have := HCl.out; simp; omega)).trans ((alloc_old _ () HCl.out).trans (HC.out ⟨bY, oY, none⟩ rfl)))
                have hS5 : ∀ g, v'.ownBlock = some g → g ≠ wo.heap.size ∧ ∀ p, (some ⟨bY, oY, none⟩ : Option Addr) = some p → g ≠ p.block := by
                  intro g hg
                  rcases hwh g hg with h | h
                  · exact HS.out g h
                  · have h2 := HCl.out
                    have h3 : wr.heap.size ≤ g := by first | omega | (simp at h; omega) | (simp only [sz_alloc, sz_drewN, sz_drew] at h; omega)
                    exact ⟨by omega, fun p hp => by cases hp; show g ≠ bY; omega⟩
                have hz5 : w2.heap.size ≤ w5.heap.size := by have := hgrow.size; first | omega | (simp at this; omega)
                have HX5 := Lib.hid hX5
                have HC5 := Lib.hid hC5
                have HS5 := Lib.hid hS5
                clear hX5 hC5 hS5
                have hY5 : w5.heap[wr.heap.size]? = some (.cells #[.int .i64 y.1, .int .i64 y.2] 86 (0, 0)) := (hgrow.block wr.heap.size (by first | (simp; done) | (simp; omega)) (fun e => by have := (HO.out.lt _ e.symm).2; omega)).trans ((alloc_old _ () (by simp)).trans (MapKept.heap_alloc wr _).1)
                have yy0 : w5.cell? ⟨wr.heap.size, 0, none⟩ = some (.int .i64 y.1) := (cell_of_block hY5 0).trans rfl
                have yy1 : w5.cell? ⟨wr.heap.size, 1, none⟩ = some (.int .i64 y.2) := (cell_of_block hY5 1).trans rfl
                have xx0 : w5.cell? ⟨wo.heap.size, 0, none⟩ = some (.int .i64 lo) := (cell_of_block HX5.out 0).trans rfl
                have xx1 : w5.cell? ⟨wo.heap.size, 1, none⟩ = some (.int .i64 x.2) := (cell_of_block HX5.out 1).trans rfl
                have xxf : w5.frozen? ⟨wo.heap.size, 0, none⟩ = false := frozen_of_row w5 wo.heap.size 0 _ _ HX5.out
                have hXl5 : wo.heap.size < w5.heap.size := lt_of_block HX5.out
                have hYl5 : wr.heap.size < w5.heap.size := lt_of_block hY5
                have hCl5 : bY < w5.heap.size := by have := HFB.out.1; omega
                have hw5 : ∀ s ∈ acc2 ++ [((lo, y.1 - 1) : Sp)], SpWf s := by
                  intro s hs
                  rcases List.mem_append.1 hs with h | h
                  · exact HAW.out s h
                  · obtain rfl := List.mem_singleton.1 h
                    have a1 := HY.out.l2
                    have a2 := hlo.out
                    have a3 := of_decide_eq_true e3
                    exact ⟨a2.2, a2.1, by show _ ≤ y.1 - 1; omega, by show y.1 - 1 ≤ _; omega⟩
                have HW5 := Lib.hid hw5
                have HO2 := Lib.hid hown2
                clear hgrow hwh hown' hY5 hw5 hown2
                go_wp2_with fail
                go_roundg (Ja.length - (i + 1))
                case measure => omega
                case rel => exact ⟨i + 1, (acc2 ++ [(lo, y.1 - 1)]), by omega, by omega, by go_num, HO2.out, by (have h9 := HIB2.out; have h8 := HBL.out; simp; omega), HW5.out, hmO, hb5⟩
            · have hm : Hid (∀ n, (inS (acc2 ++ [(lo, y.1 - 1)]) n || inS (if x.2 ≤ y.2 then [] else cutS (y.2 + 1, x.2) (Jb.drop (j + 1))) n) = (inS acc n || (hasS x n && !inS b n))) := by
                intro n
                rw [← hai2.out n, cutS_mid (x := (lo, x.2)) (by show (decide (y.2 < lo) || decide (x.2 < y.1)) = false; rw [e1, e2]; rfl), inS_append (if lo < y.1 then _ else _), if_pos (show  lo < y.1 by exact of_decide_eq_true e3), inS_append, Bool.or_assoc]
              have hmI : Hid (∀ n, (inS (acc2 ++ [(lo, y.1 - 1)]) n || inS (cutS (y.2 + 1, x.2) (Jb.drop (j + 1))) n) = (inS acc n || (hasS x n && !inS b n))) := by
                intro n
                have := hm.out n
                rw [if_neg (show ¬ x.2 ≤ y.2 by exact of_decide_eq_false e4)] at this
                exact this
              have k2 : IntKind.i64.wrap (y.2 + 1) = y.2 + 1 := IntWalk.i64_in _ (by have := HXW.out.h2; have := HY.out.h1; have := of_decide_eq_false e4; omega)
              have hlo2 : Hid (y.2 + 1 ≤ 9223372036854775807 ∧ -9223372036854775808 ≤ y.2 + 1) := by have := HXW.out.h2; have := HY.out.h1; have := of_decide_eq_false e4; exact ⟨by omega, by omega⟩
              clear hm
              have k1 : IntKind.i64.wrap (y.1 - 1) = y.1 - 1 := IntWalk.i64_in _ (by have := HY.out.l2; have := hlo.out.2; have := of_decide_eq_true e3; omega)
              have hbnd := HIB.out
              have hbnd2 := HIB2.out
              have hbnd3 := HBL.out
              go_wp2_with (first
                | (at_builtin; refine wpList_append_own2 _ rfl _ _ 31 rfl w1.heap.size 86 i0 (.agg #[.int .i64 0, .int .i64 0]) 2 16 Tryz.underlying31 hinf hza hzb hzc rfl (by decide) _ _ _ rfl ((HO.out.alloc _).alloc _) ⟨wr.heap.size + 1, 0, none⟩ 1 1 (spC ((lo, y.1 - 1) : Sp)) rfl rfl ?k1_w10 ?k2_w10 ?k3_w10 ?k4_w10 ?k5_w10 ?_)
                | fail)
              try case k1_w10 => first | exact fun i u hu => cells_new (by first | rfl | (simp; done) | (simp [World.drewN]; done)) i u hu | exact fun i u hu => hu
              try case k2_w10 => first | exact ⟨rfl, rfl⟩ | (intro u hu; simp [spC] at hu; rcases hu with rfl | rfl <;> rfl)
              try case k3_w10 => unfold maxLen; first | omega | (simp; done) | (simp; omega)
              try case k4_w10 => first | omega | (simp; done) | (simp; omega)
              try case k5_w10 => first | omega | (simp; done) | (simp; omega) | (simp [World.drewN]; omega)
              · intro v' w5 hown' hgrow hwh
                have hb5 : Below w1.heap.size w1 w5 := by
                  refine Below.grown ?_ hgrow ?_ (fun g hg => (HO.out.lt g hg).1)
                  · exact bel
                  · first | (simp; omega) | (simp [World.drewN]; omega)
                have hown2 : w5.ownsRow w1.heap.size 86 2 v' (acc2 ++ [((lo, y.1 - 1) : Sp)]).length ((acc2 ++ [((lo, y.1 - 1) : Sp)]).flatMap spC) := by first | exact hown' | (rw [List.flatMap_append, List.length_append]; exact hown') | (simpa using hown')
                have hX5 : w5.heap[wo.heap.size]? = some (.cells #[.int .i64 lo, .int .i64 x.2] 86 (0, 0)) := (hgrow.block wo.heap.size (by simp; omega) (fun e => (HS.out _ e.symm).1 rfl)).trans ((alloc_old _ () (by simp; omega)).trans ((alloc_old _ () hXl).trans HXB.out))
                have hC5 : w5.heap[bY]? = w2.heap[bY]? := (hgrow.block bY (by have := HCl.out; simp; omega) (fun e => (HS.out _ e.symm).2 _ rfl rfl)).trans ((alloc_old _ () (by have := HCl.out; simp; omega)).trans ((alloc_old _ () HCl.out).trans (HC.out ⟨bY, oY, none⟩ rfl)))
                have hS5 : ∀ g, v'.ownBlock = some g → g ≠ wo.heap.size ∧ ∀ p, (some ⟨bY, oY, none⟩ : Option Addr) = some p → g ≠ p.block := by
                  intro g hg
                  rcases hwh g hg with h | h
                  · exact HS.out g h
                  · have h2 := HCl.out
                    have h3 : wr.heap.size ≤ g := by first | omega | (simp at h; omega) | (simp only [sz_alloc, sz_drewN, sz_drew] at h; omega)
                    exact ⟨by omega, fun p hp => by cases hp; show g ≠ bY; omega⟩
                have hz5 : w2.heap.size ≤ w5.heap.size := by have := hgrow.size; first | omega | (simp at this; omega)
                have HX5 := Lib.hid hX5
                have HC5 := Lib.hid hC5
                have HS5 := Lib.hid hS5
                clear hX5 hC5 hS5
                have hY5 : w5.heap[wr.heap.size]? = some (.cells #[.int .i64 y.1, .int .i64 y.2] 86 (0, 0)) := (hgrow.block wr.heap.size (by first | (simp; done) | (simp; omega)) (fun e => by have := (HO.out.lt _ e.symm).2; omega)).trans ((alloc_old _ () (by simp)).trans (MapKept.heap_alloc wr _).1)
                have yy0 : w5.cell? ⟨wr.heap.size, 0, none⟩ = some (.int .i64 y.1) := (cell_of_block hY5 0).trans rfl
                have yy1 : w5.cell? ⟨wr.heap.size, 1, none⟩ = some (.int .i64 y.2) := (cell_of_block hY5 1).trans rfl
                have xx0 : w5.cell? ⟨wo.heap.size, 0, none⟩ = some (.int .i64 lo) := (cell_of_block HX5.out 0).trans rfl
                have xx1 : w5.cell? ⟨wo.heap.size, 1, none⟩ = some (.int .i64 x.2) := (cell_of_block HX5.out 1).trans rfl
                have xxf : w5.frozen? ⟨wo.heap.size, 0, none⟩ = false := frozen_of_row w5 wo.heap.size 0 _ _ HX5.out
                have hXl5 : wo.heap.size < w5.heap.size := lt_of_block HX5.out
                have hYl5 : wr.heap.size < w5.heap.size := lt_of_block hY5
                have hCl5 : bY < w5.heap.size := by have := HFB.out.1; omega
                have hw5 : ∀ s ∈ acc2 ++ [((lo, y.1 - 1) : Sp)], SpWf s := by
                  intro s hs
                  rcases List.mem_append.1 hs with h | h
                  · exact HAW.out s h
                  · obtain rfl := List.mem_singleton.1 h
                    have a1 := HY.out.l2
                    have a2 := hlo.out
                    have a3 := of_decide_eq_true e3
                    exact ⟨a2.2, a2.1, by show _ ≤ y.1 - 1; omega, by show y.1 - 1 ≤ _; omega⟩
                have HW5 := Lib.hid hw5
                have HO2 := Lib.hid hown2
                clear hgrow hwh hown' hY5 hw5 hown2
                go_wp2_with fail
                go_roundg (Jb.length - (j + 1))
                case measure => omega
                case rel => exact ⟨j + 1, acc2 ++ [((lo, y.1 - 1) : Sp)], y.2 + 1, by omega, by omega, by go_num, own_setCell HO2.out _ _ (fun e => (HS5.out _ e).1 rfl), by (simp; omega), HW5.out, hlo2, hmI, HS5.out, heap_setLow HX5.out, fun p hp => by cases hp; exact (heap_setCell_other w5 ⟨wo.heap.size, 0, none⟩ bY _ (by first | exact HFB.out.2 | exact fun e => HFB.out.2 e.symm)).trans HC5.out, by (simp only [sz_set]; omega), hb5.setCell hsz _⟩
            · have hm : Hid (∀ n, (inS acc2 n || inS (if x.2 ≤ y.2 then [] else cutS (y.2 + 1, x.2) (Jb.drop (j + 1))) n) = (inS acc n || (hasS x n && !inS b n))) := by
                intro n
                rw [← hai2.out n, cutS_mid (x := (lo, x.2)) (by show (decide (y.2 < lo) || decide (x.2 < y.1)) = false; rw [e1, e2]; rfl), inS_append (if lo < y.1 then _ else _), if_neg (show ¬ lo < y.1 by exact of_decide_eq_false e3), inS_nil, Bool.false_or]
              have hmO : Hid (∀ n, inS acc2 n = (inS (Ja.take (i + 1)) n && !inS b n)) := by
                intro n
                have := hm.out n
                rw [if_pos (show x.2 ≤ y.2 by exact of_decide_eq_true e4), inS_nil, Bool.or_false, hai.out n] at this
                rw [this, HT.out n]
                cases inS (Ja.take i) n <;> cases hasS x n <;> simp
              clear hm
              have hX6 : (wr.alloc (.cells #[.int .i64 y.1, .int .i64 y.2] 86)).heap[wo.heap.size]? = some (.cells #[.int .i64 lo, .int .i64 x.2] 86 (0, 0)) := (alloc_old _ () hXl).trans HXB.out
              have hC6 : (wr.alloc (.cells #[.int .i64 y.1, .int .i64 y.2] 86)).heap[bY]? = w2.heap[bY]? := (alloc_old _ () HCl.out).trans (HC.out ⟨bY, oY, none⟩ rfl)
              have HX6 := Lib.hid hX6
              have HC6 := Lib.hid hC6
              have xxf : wr.frozen? ⟨wo.heap.size, 0, none⟩ = false := frozen_of_row wr wo.heap.size 0 _ _ HXB.out
              clear hX6 hC6
              go_wp2_with fail
              go_roundg (Ja.length - (i + 1))
              case measure => omega
              case rel => exact ⟨i + 1, acc2, by omega, by omega, by go_num, (HO.out.alloc _), by (have h9 := HIB2.out; have h8 := HBL.out; omega), HAW.out, hmO, bel⟩
            · have hm : Hid (∀ n, (inS acc2 n || inS (if x.2 ≤ y.2 then [] else cutS (y.2 + 1, x.2) (Jb.drop (j + 1))) n) = (inS acc n || (hasS x n && !inS b n))) := by
                intro n
                rw [← hai2.out n, cutS_mid (x := (lo, x.2)) (by show (decide (y.2 < lo) || decide (x.2 < y.1)) = false; rw [e1, e2]; rfl), inS_append (if lo < y.1 then _ else _), if_neg (show ¬ lo < y.1 by exact of_decide_eq_false e3), inS_nil, Bool.false_or]
              have hmI : Hid (∀ n, (inS acc2 n || inS (cutS (y.2 + 1, x.2) (Jb.drop (j + 1))) n) = (inS acc n || (hasS x n && !inS b n))) := by
                intro n
                have := hm.out n
                rw [if_neg (show ¬ x.2 ≤ y.2 by exact of_decide_eq_false e4)] at this
                exact this
              have k2 : IntKind.i64.wrap (y.2 + 1) = y.2 + 1 := IntWalk.i64_in _ (by have := HXW.out.h2; have := HY.out.h1; have := of_decide_eq_false e4; omega)
              have hlo2 : Hid (y.2 + 1 ≤ 9223372036854775807 ∧ -9223372036854775808 ≤ y.2 + 1) := by have := HXW.out.h2; have := HY.out.h1; have := of_decide_eq_false e4; exact ⟨by omega, by omega⟩
              clear hm
              have hX6 : (wr.alloc (.cells #[.int .i64 y.1, .int .i64 y.2] 86)).heap[wo.heap.size]? = some (.cells #[.int .i64 lo, .int .i64 x.2] 86 (0, 0)) := (alloc_old _ () hXl).trans HXB.out
              have hC6 : (wr.alloc (.cells #[.int .i64 y.1, .int .i64 y.2] 86)).heap[bY]? = w2.heap[bY]? := (alloc_old _ () HCl.out).trans (HC.out ⟨bY, oY, none⟩ rfl)
              have HX6 := Lib.hid hX6
              have HC6 := Lib.hid hC6
              have xxf : wr.frozen? ⟨wo.heap.size, 0, none⟩ = false := frozen_of_row wr wo.heap.size 0 _ _ HXB.out
              clear hX6 hC6
              go_wp2_with fail
              go_roundg (Jb.length - (j + 1))
              case measure => omega
              case rel => exact ⟨j + 1, acc2, y.2 + 1, by omega, by omega, by go_num, (own_setCell HO.out _ _ (fun e => (HS.out _ e).1 rfl)).alloc _, by omega, HAW.out, hlo2, hmI, HS.out, (alloc_old _ () (by simp only [sz_set]; omega)).trans (heap_setLow HXB.out), fun p hp => by cases hp; exact (alloc_old _ () (by simp only [sz_set]; exact HCl.out)).trans ((heap_setCell_other wr ⟨wo.heap.size, 0, none⟩ bY _ (by first | exact HFB.out.2 | exact fun e => HFB.out.2 e.symm)).trans (HC.out ⟨bY, oY, none⟩ rfl)), by (simp only [sz_alloc, sz_set]; omega), (hbq.setCell hsz _).alloc (by simp only [sz_set]; omega) _⟩
        · have hje : j = Jb.length := by omega
          have i3 : ¬ ((j : Int) < (Jb.length : Int)) := by omega
          have HO := Lib.hid hown
          have HAW := Lib.hid haw
          clear hown hsep hX hCB haw hfB2
          have hbnd := HIB.out
          have hbnd2 := HIB2.out
          have hbnd3 := HBL.out
          have hi6 : Hid (∀ n, inS (acc2 ++ [((lo, x.2) : Sp)]) n = (inS (Ja.take (i + 1)) n && !inS b n)) := by
            intro n
            have h1 := hai2.out n
            rw [hje, List.drop_length, show cutS (lo, x.2) [] = [((lo, x.2) : Sp)] from rfl, hai.out n] at h1
            rw [inS_append, h1, HT.out n]
            cases inS (Ja.take i) n <;> cases hasS x n <;> simp
          go_wp2_with (first
            | (at_builtin; refine wpList_append_own2 _ rfl _ _ 31 rfl w1.heap.size 86 i0 (.agg #[.int .i64 0, .int .i64 0]) 2 16 Tryz.underlying31 hinf hza hzb hzc rfl (by decide) _ _ _ rfl (HO.out.alloc _) ⟨wr.heap.size, 0, none⟩ 1 1 (spC ((lo, x.2) : Sp)) rfl rfl ?k1_wz ?k2_wz ?k3_wz ?k4_wz ?k5_wz ?_)
            | fail)
          try case k1_wz => first | exact fun i u hu => cells_new (by first | rfl | (simp; done) | (simp [World.drewN]; done)) i u hu | exact fun i u hu => hu
          try case k2_wz => first | exact ⟨rfl, rfl⟩ | (intro u hu; simp [spC] at hu; rcases hu with rfl | rfl <;> rfl)
          try case k3_wz => unfold maxLen; first | omega | (simp; done) | (simp; omega)
          try case k4_wz => first | omega | (simp; done) | (simp; omega)
          try case k5_wz => first | omega | (simp; done) | (simp; omega) | (simp [World.drewN]; omega)
          · intro v' w5 hown' hgrow hwh
            have hb5 : Below w1.heap.size w1 w5 := by
              refine Below.grown ?_ hgrow ?_ (fun g hg => (HO.out.lt g hg).1)
              · exact bel
              · first | (simp; omega) | (simp [World.drewN]; omega)
            have hown2 : w5.ownsRow w1.heap.size 86 2 v' (acc2 ++ [((lo, x.2) : Sp)]).length ((acc2 ++ [((lo, x.2) : Sp)]).flatMap spC) := by first | exact hown' | (rw [List.flatMap_append, List.length_append]; exact hown') | (simpa using hown')
            have hw5 : ∀ s ∈ acc2 ++ [((lo, x.2) : Sp)], SpWf s := by
              intro s hs
              rcases List.mem_append.1 hs with h | h
              · exact HAW.out s h
              · obtain rfl := List.mem_singleton.1 h
                exact ⟨hlo.out.2, hlo.out.1, HXW.out.h1, HXW.out.h2⟩
            have HW5 := Lib.hid hw5
            clear hgrow hwh hown' hw5
            go_wp2_with fail
            go_roundg (Ja.length - (i + 1))
            case measure => omega
            case rel => exact ⟨i + 1, acc2 ++ [((lo, x.2) : Sp)], by omega, by omega, by go_num, hown2, by (simp; omega), HW5.out, hi6, hb5⟩
    · have hie : i = Ja.length := by omega
      have i1 : ¬ ((i : Int) < (Ja.length : Int)) := by omega
      have hR : ∀ n, inS acc n = (fun n => inS a n && !inS b n) n := by intro n; rw [hai.out n, hie, List.take_length, hJ.same n]
      have hbn : acc.length ≤ a.length * bl := by have := mul_bound (m := bl) hi hlJ (Nat.le_refl _); omega
      obtain ⟨B2, c2, rfl, hrd⟩ := own_rd (css := acc.map spC) hown (flat_css acc) (by intro c hc; obtain ⟨x, _, rfl⟩ := List.mem_map.1 hc; rfl) (by simp)
      have HR := Lib.hid hR
      clear hR hown
      go_wp2_with fail
      refine (join_any acc B2 c2 _ (by first | exact hrd | exact hrd.below bel) haw (by omega)).mono ?_
      rintro e w7 ⟨R, C, cc, rfl, hrR, hJR, hcR, hlow, hb7⟩
      have hJl := hJR.len
      go_wp2_with fail
      try rw [Exit.noGoto_ret]
      go_ret
      exact ⟨R, C, cc, rfl, hrR, ⟨hJR.wf, hJR.ord, fun n => (hJR.same n).trans (HR.out n), Nat.le_trans hJl (by first | exact hbn | (rw [hbl]; exact hbn))⟩, hcR, (fun p hp => Nat.le_trans (by first | exact (hb1.trans (hbel.mono hb1s)).size | (have := (hb1.trans (hbel.mono hb1s)).size; simpa using this)) (hlow p hp).1), hb1.trans ((hbel.mono hb1s).trans (hb7.mono (Nat.le_trans hb1s hsz)))⟩
theorem withoutP_any (a b : List Sp) (A B : Option Addr) (ca cb : Nat) (w : World) (hra : RdL w 2 A (a.map spC)) (hrb : RdL w 2 B (b.map spC)) (hwa : ∀ s ∈ a, SpWf s) (hwb : ∀ s ∈ b, SpWf s)
    (hna : a.length ≤ 4000000000000) (hnb : b.length ≤ 4000000000000) (hnm : a.length * (b.length + 1) ≤ 8000000000000) :
    Calls Tryz.prog 90 #[.slice A a.length ca, .slice B b.length cb] w fun e w' =>
      ∃ (R : List Sp) (C : Option Addr) (cc : Nat), e = .returned (.slice C R.length cc) ∧ RdL w' 2 C (R.map spC) ∧ SetOf (fun n => inS a n && !inS b n) (a.length + b.length) R ∧ R.length ≤ cc ∧ (∀ p, C = some p → w.heap.size ≤ p.block) ∧ Below w.heap.size w w' :=
  (withoutB_any a b A B ca cb w hra hrb hwa hwb hna hnb hnm).mono fun _ _ ⟨R, C, cc, h1, h2, h3, h4, h5, h6⟩ => ⟨R, C, cc, h1, h2, ⟨h3.wf, h3.ord, h3.same, less_len h3.ord h3.same⟩, h4, h5, h6⟩
theorem without_any (a b : List Sp) (A B : Option Addr) (ca cb : Nat) (w : World) (hra : RdL w 2 A (a.map spC)) (hrb : RdL w 2 B (b.map spC)) (hwa : ∀ s ∈ a, SpWf s) (hwb : ∀ s ∈ b, SpWf s)
    (hna : a.length ≤ 500000) (hnb : b.length ≤ 1000000) :
    Calls Tryz.prog 90 #[.slice A a.length ca, .slice B b.length cb] w fun e w' =>
      ∃ (R : List Sp) (C : Option Addr) (cc : Nat), e = .returned (.slice C R.length cc) ∧ RdL w' 2 C (R.map spC) ∧ SetOf (fun n => inS a n && !inS b n) (a.length * (b.length + 1)) R ∧ R.length ≤ cc ∧ Below w.heap.size w w' :=
  (withoutB_any a b A B ca cb w hra hrb hwa hwb (by omega) (by omega) (Nat.le_trans (Nat.mul_le_mul hna (Nat.add_le_add_right hnb 1)) (by omega))).mono fun _ _ ⟨R, C, cc, h1, h2, h3, h4, _, h6⟩ => ⟨R, C, cc, h1, h2, h3, h4, h6⟩
end Go.Proofs.YtankkadnhdfpfaaGreatDoor.Sp
