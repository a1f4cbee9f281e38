import Derived.Test.YtankkadnhdfpfaaGreatDoorPk18
import Derived.Test.YtankkadnhdfpfaaGreatDoorPk10
import Derived.Test.YtankkadnhdfpfaaGreatDoorPk17
import Derived.Test.YtankkadnhdfpfaaGreatDoorPk19
/- Spans: Meet, walked. -/
set_option linter.unusedSimpArgs false
set_option linter.unusedVariables false
namespace Go.Proofs.YtankkadnhdfpfaaGreatDoor.Sp
open Go.RowKit Go.Sort

theorem inS_take_succ {l : List Sp} {i : Nat} (h : i < l.length) (n : Int) : inS (l.take (i + 1)) n = (inS (l.take i) n || hasS (l[i]'h) n) := by
  rw [List.take_succ_eq_append_getElem h, inS_append]
  congr 1
  exact Bool.or_false _
theorem mul_step {i n m : Nat} (h : i < n) : i * m + m ≤ n * m := by
  have := Nat.mul_le_mul_right m (show i + 1 ≤ n from h)
  rw [Nat.succ_mul] at this
  exact this
theorem mul_bound {i n m a b : Nat} (h : i ≤ n) (hn : n ≤ a) (hm : m ≤ b) : i * m ≤ a * b := Nat.mul_le_mul (Nat.le_trans h hn) hm

set_option maxRecDepth 100000 in
set_option maxHeartbeats 3200000 in
theorem meetB_any (a b : List Sp) (A B : Option Addr) (ca cb : Nat) (w : World) (hra : RdL w 2 A (a.map spC)) (hrb : RdL w 2 B (b.map spC)) (hwa : ∀ s ∈ a, SpWf s) (hwb : ∀ s ∈ b, SpWf s)
    (hna : a.length ≤ 4000000000000) (hnb : b.length ≤ 4000000000000) (hnm : a.length * b.length ≤ 8000000000000) :
    Calls Tryz.prog 86 #[.slice A a.length ca, .slice B b.length cb] w fun e w' =>
      ∃ (R : List Sp) (C : Option Addr) (cc : Nat), e = .returned (.slice C R.length cc) ∧ RdL w' 2 C (R.map spC) ∧ SetOf (fun n => inS a n && inS b n) (a.length * b.length) R ∧ R.length ≤ cc ∧ (∀ p, C = some p → w.heap.size ≤ p.block) ∧ Below w.heap.size w w' := by
  obtain ⟨i0, hinf, hza, hzb, hzc⟩ := info_parts (show (Tryz.prog.info? 86).map (fun i => (i.zero, i.size, i.bytes)) = some (some (.agg #[.int .i64 0, .int .i64 0]), 2, 16) by kernel_rfl)
  go_enter Tryz.func86, Tryz.ntmps86
  go_wp2_with fail
  refine (join_any a A ca _ hra hwa (by omega)).mono ?_
  rintro e w1 ⟨Ja, BJ, cJ, rfl, hrJ, hJ, hcJ, _, hb1⟩
  have hlJ := hJ.len
  go_wp2_with fail
  go_loopg [5, 13] Ja.length (fun k ov iv wr => ∃ (i : Nat) (acc : List Sp), i ≤ Ja.length ∧ Ja.length - i ≤ k ∧ iv = .int .i64 i ∧ wr.ownsRow w1.heap.size 86 2 ov acc.length (acc.flatMap spC) ∧ acc.length ≤ i * b.length ∧ (∀ s ∈ acc, SpWf s) ∧ Hid (∀ n, inS acc n = (inS (Ja.take i) n && inS b n)) ∧ Below w1.heap.size w1 wr)
  case atStart => exact ⟨0, [], by omega, by omega, rfl, ⟨rfl, Or.inl ⟨rfl, rfl⟩⟩, by simp, by simp, fun n => rfl, Below.refl _ _⟩
  case round =>
    obtain ⟨i, acc, hi, hik, rfl, hown, hal, haw, hai, hbel⟩ := hrel
    obtain ⟨wo, rfl⟩ : ∃ wo, wo = wr := ⟨_, rfl⟩
    have hsz := hbel.size
    have hb1s := hb1.size
    by_cases hlt : i < Ja.length
    · obtain ⟨bJ, oJ, hBJ, hx⟩ := (hrJ.below hbel).at_ hlt
      subst hBJ
      have hxw := hJ.wf _ (List.getElem_mem hlt)
      have htk := fun n => inS_take_succ hlt n
      have hib := mul_bound (i := i + 1) (n := Ja.length) (m := b.length) hlt hlJ (Nat.le_refl _)
      rw [Nat.succ_mul] at hib
      generalize Ja[i]'hlt = x at *
      have y0 : wo.cell? ⟨bJ, oJ + i * 2, none⟩ = some (.int .i64 x.1) := hx.get 0 rfl
      have y1 : wo.cell? ⟨bJ, oJ + i * 2 + 1, none⟩ = some (.int .i64 x.2) := hx.get 1 rfl
      have i1 : (i : Int) < (Ja.length : Int) := by omega
      have i2 : (0 : Int) ≤ (i : Int) := by omega
      have HXW := Lib.hid hxw
      have HT := Lib.hid htk
      have HIB := Lib.hid hib
      clear hx htk hxw hib
      go_wp2_with fail
      refine (join_any b B cb _ (hrb.below bel) hwb (by omega)).mono ?_
      rintro e w2 ⟨Jb, CB, cB, rfl, hrB, hJb, hcB, hfB, hb2⟩
      have hz2 := hb2.size
      have hz2b : wo.heap.size < w2.heap.size := by have := hz2; simp at this; omega
      have hownB : w2.ownsRow w1.heap.size 86 2 _ acc.length (acc.flatMap spC) := own_below (hown.alloc _) hb2
      have hXB : w2.heap[wo.heap.size]? = some (.cells #[.int .i64 x.1, .int .i64 x.2] 86 (0, 0)) := (hb2.block wo.heap.size (by simp)).trans (MapKept.heap_alloc wo _).1
      have hsepB : ∀ g, Value.ownBlock _ = some g → g ≠ wo.heap.size ∧ ∀ p, CB = some p → g ≠ p.block := fun g hg => ⟨by have := (hown.lt g hg).2; omega, fun p hp => by have h1 := (hown.lt g hg).2; have h2 := (hfB p hp).1; simp at h2; omega⟩
      have hb1w2 : Below w1.heap.size w1 w2 := (hbel.alloc hsz _).trans (hb2.mono (by simp; omega))
      have hlB := hJb.len
      have hfB2 : ∀ p, CB = some p → p.block < w2.heap.size ∧ p.block ≠ wo.heap.size := fun p hp => ⟨(hfB p hp).2, by have h2 := (hfB p hp).1; simp at h2; omega⟩
      clear hfB hb2 hz2
      have HIB2 : Hid (i * b.length + Jb.length ≤ a.length * b.length) := by show _ ≤ _; have := HIB.out; omega
      go_wp2_with fail
      go_loopg [5, 20] Jb.length (fun k ov jv wr => ∃ (j : Nat) (acc2 : List Sp), j ≤ Jb.length ∧ Jb.length - j ≤ k ∧ jv = .int .i64 j ∧ wr.ownsRow w1.heap.size 86 2 ov acc2.length (acc2.flatMap spC) ∧ acc2.length ≤ i * b.length + j ∧ (∀ s ∈ acc2, SpWf s) ∧ Hid (∀ n, inS acc2 n = (inS acc n || (hasS x n && inS (Jb.take j) n))) ∧ (∀ g, ov.ownBlock = some g → g ≠ wo.heap.size ∧ ∀ p, CB = some p → g ≠ p.block) ∧ wr.heap[wo.heap.size]? = some (.cells #[.int .i64 x.1, .int .i64 x.2] 86 (0, 0)) ∧ (∀ p, CB = some p → wr.heap[p.block]? = w2.heap[p.block]?) ∧ w2.heap.size ≤ wr.heap.size ∧ Below w1.heap.size w1 wr)
      case atStart => exact ⟨0, acc, by omega, by omega, rfl, hownB, by omega, haw, fun n => by simp [inS], hsepB, hXB, fun p _ => rfl, Nat.le_refl _, hb1w2⟩
      case round =>
        clear hown hownB hXB hsepB hb1w2 hal haw
        obtain ⟨j, acc2, hj, hjk, rfl, hown, hal, haw, hai2, hsep, hX, hCB, hw2q, hbq⟩ := hrel
        have hsq := hbq.size
        by_cases hjl : j < Jb.length
        · obtain ⟨bY, oY, hBY, hy⟩ := (hrB.of_block hCB).at_ hjl
          subst hBY
          have hyw := hJb.wf _ (List.getElem_mem hjl)
          have htk2 := fun n => inS_take_succ hjl n
          generalize Jb[j]'hjl = y at *
          have g0 : wr.cell? ⟨bY, oY + j * 2, none⟩ = some (.int .i64 y.1) := hy.get 0 rfl
          have g1 : wr.cell? ⟨bY, oY + j * 2 + 1, none⟩ = some (.int .i64 y.2) := hy.get 1 rfl
          have x0 : wr.cell? ⟨wo.heap.size, 0, none⟩ = some (.int .i64 x.1) := (cell_of_block hX 0).trans rfl
          have x1 : wr.cell? ⟨wo.heap.size, 1, none⟩ = some (.int .i64 x.2) := (cell_of_block hX 1).trans rfl
          have hXl : wo.heap.size < wr.heap.size := lt_of_block hX
          have hCl : bY < wr.heap.size := Nat.lt_of_lt_of_le (hfB2 _ rfl).1 hw2q
          have i3 : (j : Int) < (Jb.length : Int) := by omega
          have i4 : (0 : Int) ≤ (j : Int) := by omega
          have HY := Lib.hid hyw
          have HT2 := Lib.hid htk2
          have HC := Lib.hid hCB
          have HS := Lib.hid hsep
          have HXB := Lib.hid hX
          have HCl := Lib.hid hCl
          have HO := Lib.hid hown
          clear hyw htk2 hy hCB hsep hX hCl
          have hbnd := HIB2.out
          go_wp2_with (first
            | (at_builtin; refine wpList_append_own2 _ rfl _ _ 31 rfl w1.heap.size 86 i0 (.agg #[.int .i64 0, .int .i64 0]) 2 16 Tryz.underlying31 hinf hza hzb hzc rfl (by decide) _ _ _ rfl ((HO.out.alloc _).alloc _) ⟨wr.heap.size + 1, 0, none⟩ 1 1 (spC (meetS x y)) rfl rfl ?k1_a ?k2_a ?k3_a ?k4_a ?k5_a ?_)
            | fail)
          try case k1_a => first | exact fun i u hu => cells_new (by first | rfl | (simp; done) | (simp [World.drewN]; done)) i u hu | exact fun i u hu => hu
          try case k2_a => first | exact ⟨rfl, rfl⟩ | (intro u hu; simp [spC] at hu; rcases hu with rfl | rfl <;> rfl)
          try case k3_a => unfold maxLen; first | omega | (simp; done) | (simp; omega)
          try case k4_a => first | omega | (simp; done) | (simp; omega)
          try case k5_a => first | omega | (simp; done) | (simp; omega) | (simp [World.drewN]; omega)
          · intro v' w5 hown' hgrow hwh
            have hb5 : Below w1.heap.size w1 w5 := by
              refine Below.grown ?_ hgrow ?_ (fun g hg => (HO.out.lt g hg).1)
              · exact bel
              · first | (simp; omega) | (simp [World.drewN]; omega)
            have hown2 : w5.ownsRow w1.heap.size 86 2 v' (acc2 ++ [(meetS x y)]).length ((acc2 ++ [(meetS x y)]).flatMap spC) := by first | exact hown' | (rw [List.flatMap_append, List.length_append]; exact hown') | (simpa using hown')
            have hX5 : w5.heap[wo.heap.size]? = some (.cells #[.int .i64 x.1, .int .i64 x.2] 86 (0, 0)) := (hgrow.block wo.heap.size (by simp; omega) (fun e => (HS.out _ e.symm).1 rfl)).trans ((alloc_old _ () (by simp; omega)).trans ((alloc_old _ () hXl).trans HXB.out))
            have hC5 : w5.heap[bY]? = w2.heap[bY]? := (hgrow.block bY (by have := HCl.out; simp; omega) (fun e => (HS.out _ e.symm).2 _ rfl rfl)).trans ((alloc_old _ () (by have := HCl.out; simp; omega)).trans ((alloc_old _ () HCl.out).trans (HC.out ⟨bY, oY, none⟩ rfl)))
            have hS5 : ∀ g, v'.ownBlock = some g → g ≠ wo.heap.size ∧ ∀ p, (some ⟨bY, oY, none⟩ : Option Addr) = some p → g ≠ p.block := by
              intro g hg
              rcases hwh g hg with h | h
              · exact HS.out g h
              · have h2 := HCl.out
                have h3 : wr.heap.size ≤ g := by first | omega | (simp at h; omega) | (simp only [sz_alloc, sz_drewN, sz_drew] at h; omega)
                exact ⟨by omega, fun p hp => by cases hp; show g ≠ bY; omega⟩
            have hz5 : w2.heap.size ≤ w5.heap.size := by have := hgrow.size; first | omega | (simp at this; omega)
            have HX5 := Lib.hid hX5
            have HC5 := Lib.hid hC5
            have HS5 := Lib.hid hS5
            clear hX5 hC5 hS5
            have hw5 : ∀ s ∈ acc2 ++ [meetS x y], SpWf s := by
              intro s hs
              rcases List.mem_append.1 hs with h | h
              · exact haw s h
              · obtain rfl := List.mem_singleton.1 h; exact meetS_wf HXW.out HY.out
            have hi5 : Hid (∀ n, inS (acc2 ++ [meetS x y]) n = (inS acc n || (hasS x n && inS (Jb.take (j + 1)) n))) := by
              intro n
              rw [inS_append, hai2.out n, HT2.out n, show inS [meetS x y] n = (hasS x n && hasS y n) from (Bool.or_false _).trans (meetS_has x y n)]
              cases inS acc n <;> cases hasS x n <;> simp
            clear hgrow hwh hown'
            go_wp2_with fail
            go_roundg (Jb.length - (j + 1))
            case measure => omega
            case rel => exact ⟨j + 1, acc2 ++ [meetS x y], by omega, by omega, by go_num, hown2, by (simp; omega), hw5, hi5, HS5.out, HX5.out, fun p hp => by cases hp; exact HC5.out, hz5, hb5⟩
        · have hje : j = Jb.length := by omega
          have i3 : ¬ ((j : Int) < (Jb.length : Int)) := by omega
          have hi6 : Hid (∀ n, inS acc2 n = (inS (Ja.take (i + 1)) n && inS b n)) := by
            intro n
            rw [hai2.out n, hje, List.take_length, hai.out n, HT.out n, hJb.same n]
            cases inS (Ja.take i) n <;> cases hasS x n <;> simp
          have hal6 : acc2.length ≤ (i + 1) * b.length := by rw [Nat.succ_mul]; omega
          clear hsep hX hCB hfB2
          go_wp2_with fail
          go_roundg (Ja.length - (i + 1))
          case measure => omega
          case rel => exact ⟨i + 1, acc2, by omega, by omega, by go_num, hown, hal6, haw, hi6, hbq⟩
    · have hie : i = Ja.length := by omega
      have i1 : ¬ ((i : Int) < (Ja.length : Int)) := by omega
      have hR : ∀ n, inS acc n = (fun n => inS a n && inS b n) n := by intro n; rw [hai.out n, hie, List.take_length, hJ.same n]
      have hbn : acc.length ≤ a.length * b.length := by have := mul_bound (m := b.length) hi hlJ (Nat.le_refl _); omega
      obtain ⟨B2, c2, rfl, hrd⟩ := own_rd (css := acc.map spC) hown (flat_css acc) (by intro c hc; obtain ⟨x, _, rfl⟩ := List.mem_map.1 hc; rfl) (by simp)
      have HR := Lib.hid hR
      clear hR hown
      go_wp2_with fail
      refine (join_any acc B2 c2 _ (by first | exact hrd | exact hrd.below bel) haw (by omega)).mono ?_
      rintro e w7 ⟨R, C, cc, rfl, hrR, hJR, hcR, hlow, hb7⟩
      have hJl := hJR.len
      go_wp2_with fail
      try rw [Exit.noGoto_ret]
      go_ret
      exact ⟨R, C, cc, rfl, hrR, ⟨hJR.wf, hJR.ord, fun n => (hJR.same n).trans (HR.out n), Nat.le_trans hJl (by first | exact hbn | (rw [hbl]; exact hbn))⟩, hcR, (fun p hp => Nat.le_trans (by first | exact (hb1.trans (hbel.mono hb1s)).size | (have := (hb1.trans (hbel.mono hb1s)).size; simpa using this)) (hlow p hp).1), hb1.trans ((hbel.mono hb1s).trans (hb7.mono (Nat.le_trans hb1s hsz)))⟩
theorem meetP_any (a b : List Sp) (A B : Option Addr) (ca cb : Nat) (w : World) (hra : RdL w 2 A (a.map spC)) (hrb : RdL w 2 B (b.map spC)) (hwa : ∀ s ∈ a, SpWf s) (hwb : ∀ s ∈ b, SpWf s)
    (hna : a.length ≤ 4000000000000) (hnb : b.length ≤ 4000000000000) (hnm : a.length * b.length ≤ 8000000000000) :
    Calls Tryz.prog 86 #[.slice A a.length ca, .slice B b.length cb] w fun e w' =>
      ∃ (R : List Sp) (C : Option Addr) (cc : Nat), e = .returned (.slice C R.length cc) ∧ RdL w' 2 C (R.map spC) ∧ SetOf (fun n => inS a n && inS b n) (a.length + b.length) R ∧ R.length ≤ cc ∧ (∀ p, C = some p → w.heap.size ≤ p.block) ∧ Below w.heap.size w w' :=
  (meetB_any a b A B ca cb w hra hrb hwa hwb hna hnb hnm).mono fun _ _ ⟨R, C, cc, h1, h2, h3, h4, h5, h6⟩ => ⟨R, C, cc, h1, h2, ⟨h3.wf, h3.ord, h3.same, meet_len h3.ord h3.same⟩, h4, h5, h6⟩
theorem meet_any (a b : List Sp) (A B : Option Addr) (ca cb : Nat) (w : World) (hra : RdL w 2 A (a.map spC)) (hrb : RdL w 2 B (b.map spC)) (hwa : ∀ s ∈ a, SpWf s) (hwb : ∀ s ∈ b, SpWf s)
    (hna : a.length ≤ 1000000) (hnb : b.length ≤ 1000000) :
    Calls Tryz.prog 86 #[.slice A a.length ca, .slice B b.length cb] w fun e w' =>
      ∃ (R : List Sp) (C : Option Addr) (cc : Nat), e = .returned (.slice C R.length cc) ∧ RdL w' 2 C (R.map spC) ∧ SetOf (fun n => inS a n && inS b n) (a.length * b.length) R ∧ R.length ≤ cc ∧ Below w.heap.size w w' :=
  (meetB_any a b A B ca cb w hra hrb hwa hwb (by omega) (by omega) (Nat.le_trans (Nat.mul_le_mul hna hnb) (by omega))).mono fun _ _ ⟨R, C, cc, h1, h2, h3, h4, _, h6⟩ => ⟨R, C, cc, h1, h2, h3, h4, h6⟩
end Go.Proofs.YtankkadnhdfpfaaGreatDoor.Sp
