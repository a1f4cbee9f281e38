/- WordsPicks, walked: it gives true. -/
import Derived.Test.YtgbapmhdhbfhnaaDoorWd8
set_option linter.unusedSimpArgs false
set_option linter.unusedVariables false
namespace Go.Proofs.YtgbapmhdhbfhnaaDoor
open Go.RowKit Go.Sort Go.Lib

/-- the least text of some, if there is one -/
def LeastP (xs : List Tx) (o : Option Tx) : Prop := (o = none → ∀ x ∈ xs, textB x = false) ∧ ∀ m, o = some m → m ∈ xs ∧ textB m = true ∧ ∀ x ∈ xs, textB x = true → m ≤ x
theorem LeastP.start : LeastP [] none := ⟨fun _ x hx => (by cases hx), fun m h => (by cases h)⟩
theorem LeastP.skip {xs : List Tx} {o : Option Tx} {x : Tx} (h : LeastP xs o) (hx : textB x = false) : LeastP (xs ++ [x]) o := by
  refine ⟨fun ho y hy => ?_, fun m ho => ?_⟩
  · rcases List.mem_append.1 hy with hy | hy
    · exact h.1 ho y hy
    · rw [List.mem_singleton.1 hy]; exact hx
  · obtain ⟨a, b, c⟩ := h.2 m ho
    refine ⟨List.mem_append_left _ a, b, fun y hy hty => ?_⟩
    rcases List.mem_append.1 hy with hy | hy
    · exact c y hy hty
    · rw [List.mem_singleton.1 hy, hx] at hty; cases hty
theorem LeastP.first {xs : List Tx} {x : Tx} (h : LeastP xs none) (hx : textB x = true) : LeastP (xs ++ [x]) (some x) := by
  refine ⟨fun ho => (by cases ho), fun m ho => ?_⟩
  cases ho
  refine ⟨by simp, hx, fun y hy hty => ?_⟩
  rcases List.mem_append.1 hy with hy | hy
  · rw [h.1 rfl y hy] at hty; cases hty
  · rw [List.mem_singleton.1 hy]; exact List.le_refl _
theorem LeastP.less {xs : List Tx} {x m : Tx} (h : LeastP xs (some m)) (hx : textB x = true) (hl : x < m) : LeastP (xs ++ [x]) (some x) := by
  refine ⟨fun ho => (by cases ho), fun m' ho => ?_⟩
  cases ho
  obtain ⟨a, b, c⟩ := h.2 m rfl
  refine ⟨by simp, hx, fun y hy hty => ?_⟩
  rcases List.mem_append.1 hy with hy | hy
  · exact tx_trans (tx_le hl) (c y hy hty)
  · rw [List.mem_singleton.1 hy]; exact List.le_refl _
theorem LeastP.more {xs : List Tx} {x m : Tx} (h : LeastP xs (some m)) (hl : ¬ x < m) : LeastP (xs ++ [x]) (some m) := by
  refine ⟨fun ho => (by cases ho), fun m' ho => ?_⟩
  cases ho
  obtain ⟨a, b, c⟩ := h.2 m rfl
  refine ⟨List.mem_append_left _ a, b, fun y hy hty => ?_⟩
  rcases List.mem_append.1 hy with hy | hy
  · exact c y hy hty
  · rw [List.mem_singleton.1 hy]; exact List.not_lt.1 hl
theorem LeastP.norm {l : List Tx} {o : Option Tx} (h : LeastP l o) : o = (norm l).head? := by
  cases ho : o with
  | none =>
    cases hn : Go.Proofs.YtgbapmhdhbfhnaaDoor.norm l with
    | nil => rfl
    | cons x r =>
      have hx := mem_norm.1 (show x ∈ Go.Proofs.YtgbapmhdhbfhnaaDoor.norm l by rw [hn]; simp)
      have := h.1 ho x hx.1
      rw [hx.2] at this; cases this
  | some m =>
    obtain ⟨a, b, c⟩ := h.2 m ho
    have hm := mem_norm.2 ⟨a, b⟩
    cases hn : Go.Proofs.YtgbapmhdhbfhnaaDoor.norm l with
    | nil => rw [hn] at hm; cases hm
    | cons x r =>
      have hx := mem_norm.1 (show x ∈ Go.Proofs.YtgbapmhdhbfhnaaDoor.norm l by rw [hn]; simp)
      have h1 := c x hx.1 hx.2
      have h2 : x ≤ m := by
        rw [hn] at hm
        rcases List.mem_cons.1 hm with e | hr
        · rw [e]; exact List.le_refl _
        · have hp := norm_lt l
          rw [hn] at hp
          exact tx_le ((List.pairwise_cons.1 hp).1 m hr)
      show some m = some x
      rw [List.le_antisymm h1 h2]
theorem emptyW_head (l : List Tx) : emptyW false l = (norm l).head?.isNone := by
  unfold emptyW
  cases norm l <;> rfl
theorem inW_true (l : List Tx) (k : Nat) (hk : k ≤ 256) : inW true l (aK k) = !l.contains (aK k) := by
  unfold inW
  rw [textB_aK, decide_eq_true hk]
  cases l.contains (aK k) <;> rfl
theorem pick_in {l : List Tx} {s : Tx} {n : Int} (h : PickIs true (norm l) s n) : n = 0 ∧ inW true l s = true := by
  rcases h with ⟨_, hn, h1, h2, _⟩ | ⟨h, _⟩
  · refine ⟨hn, ?_⟩
    rw [← inW_norm]
    unfold inW
    rw [h1, h2]; rfl
  · cases h
theorem pick_least {l : List Tx} {s : Tx} {n : Int} {k : Nat} (h : PickIs true (norm l) s n) (hk : k ≤ 256) (hb : ∀ j, j < k → aK j ∈ l) (ha : aK k ∉ l) : s = aK k := by
  rcases h with ⟨_, _, h1, h2, ⟨k2, hk2, rfl, hj⟩ | h⟩ | ⟨h, _⟩
  · rcases Nat.lt_trichotomy k k2 with h3 | h3 | h3
    · exact absurd (mem_norm.1 (hj k h3)).1 ha
    · rw [h3]
    · have := mem_norm.2 ⟨hb k2 h3, h1⟩
      rw [(List.contains_iff_mem).2 this] at h2; cases h2
  · exact absurd (mem_norm.1 (h k hk)).1 ha
  · cases h

set_option maxRecDepth 100000 in
set_option maxHeartbeats 3200000 in
theorem lawPicks_any (all : Bool) (A : Option Addr) (l : List Tx) (c : Nat) (w : World) (hE : EnvP w) (hr : RdL w 1 A (l.map tC)) (hs : ∀ t ∈ l, t.length ≤ 9223372036854775807) (hn : l.length * 16 ≤ 140737488355328) :
    Calls Tryd.prog 4 #[.agg #[.bool all, .slice A l.length c]] w fun e w' => e = .returned (.bool true) ∧ Below w.heap.size w w' := by
  have HS := Lib.hid hs
  have HR := Lib.hid hr
  have HE := Lib.hid hE
  clear hs hr hE
  go_enter Tryd.func4, Tryd.ntmps4
  go_wp2_with fail
  generalize hEu : w.alloc _ = u
  have hbu : Below w.heap.size w u := (by rw [← hEu]; exact (by repeat' (first | (with_reducible exact Below.refl _ _) | (with_reducible assumption) | (with_reducible refine Below.drew ?_) | (with_reducible refine below_drewN ?_ _) | (with_reducible refine below_iterAt ?_ ?_ _ _) | (with_reducible refine below_iter ?_ ?_ _ _) | (with_reducible refine Below.alloc ?_ ?_ _) | (with_reducible refine Below.setCell ?_ ?_ _) | (with_reducible refine Below.trans ?_ (Below.mono (by assumption) ?_)) | (simp only [sz_alloc, sz_set, sz_drew, sz_drewN, sz_iterAt, sz_iter] at *; omega) | omega | (simp; done) | (simp; omega) | (apply Below.size; assumption) | (simp only [sz_drew, sz_drewN]; apply Below.size; assumption) | (refine Nat.le_trans ?_ (Below.size (by assumption))))))
  have lu_0 : w.heap.size < u.heap.size := (by rw [← hEu]; first | omega | (simp only [sz_alloc, sz_set, sz_drew, sz_drewN, sz_iterAt, sz_iter] at *; omega) | (simp; done) | (simp; omega) | (simp at *; omega))
  have qu_0 : ∀ o, u.cell? ⟨w.heap.size, o, none⟩ = _ := fun o => congrArg (fun W : World => W.cell? ⟨w.heap.size, o, none⟩) hEu.symm
  have ru_0 : ∀ o, u.frozen? ⟨w.heap.size, o, none⟩ = _ := fun o => congrArg (fun W : World => W.frozen? ⟨w.heap.size, o, none⟩) hEu.symm
  clear hEu
  refine (pick_any all A l c u (HE.out.below hbu) (HR.out.below hbu) HS.out hn).mono ?_
  rintro e w1 ⟨s, n, rfl, hp, hb1⟩
  have HP := Lib.hid hp
  have k0 : u.cell? ⟨w.heap.size, 0, none⟩ = some (.bool all) := (qu_0 0).trans (by simp [go_sem])
  have k1 : u.cell? ⟨w.heap.size, 1, none⟩ = some (.slice A l.length c) := (qu_0 1).trans (by simp [go_sem])
  have k2 := cell_below hb1 k0
  have k3 := cell_below hb1 k1
  have hbw1 : Below w.heap.size w w1 := hbu.trans (hb1.mono hbu.size)
  clear hp k0 k1 qu_0 ru_0 lu_0 hb1
  cases all
  · go_wp2_with fail
    go_loopg [5, 6, 7] l.length (fun kk lv sv iv wr => ∃ (j : Nat) (o : Option Tx), j ≤ l.length ∧ l.length - j ≤ kk ∧ lv = encStr (o.getD []) ∧ sv = .bool o.isSome ∧ iv = .int .i64 j ∧ Hid (LeastP (l.take j) o) ∧ w1 = wr)
    case atStart => exact ⟨0, none, by omega, by omega, rfl, rfl, rfl, Lib.hid LeastP.start, rfl⟩
    case round =>
      obtain ⟨j, o, hj, hjk, rfl, rfl, rfl, HO, rfl⟩ := hrel
      by_cases hlt : j < l.length
      · obtain ⟨b, off, rfl, hx0⟩ := (HR.out.below hbw1).at_ hlt
        have g0 : w1.cell? ⟨b, off + j, none⟩ = some (encStr (l[j]'hlt)) := by have := hx0.get 0 (v := encStr (l[j]'hlt)) rfl; simpa using this
        have htk : l.take (j + 1) = l.take j ++ [l[j]'hlt] := List.take_succ_eq_append_getElem hlt
        have i1 : (0 : Int) ≤ (j : Int) := by omega
        have i2 : (j : Int) < (l.length : Int) := by omega
        generalize l[j]'hlt = x at *
        clear hx0
        cases hx : textB x
        · have HN : Hid (LeastP (l.take (j + 1)) o) := Lib.hid (by rw [htk]; exact HO.out.skip hx)
          clear htk
          go_wp2_with fail
          refine (word_any x _).mono ?_
          rintro e w2 ⟨rfl, rfl⟩
          rw [hx]
          go_wp2_with fail
          go_roundg (l.length - (j + 1))
          case measure => omega
          case rel => exact ⟨j + 1, o, by omega, by omega, rfl, rfl, by go_num, HN, rfl⟩
        · cases o with
          | none =>
            have HN : Hid (LeastP (l.take (j + 1)) (some x)) := Lib.hid (by rw [htk]; exact HO.out.first hx)
            clear htk
            simp only [Option.isSome_none, Option.getD_none] at *
            go_wp2_with fail
            refine (word_any x _).mono ?_
            rintro e w2 ⟨rfl, rfl⟩
            rw [hx]
            go_wp2_with fail
            go_roundg (l.length - (j + 1))
            case measure => omega
            case rel => exact ⟨j + 1, some x, by omega, by omega, rfl, rfl, by go_num, HN, rfl⟩
          | some m =>
            simp only [Option.isSome_some, Option.getD_some] at *
            by_cases hlm : x < m
            · have HN : Hid (LeastP (l.take (j + 1)) (some x)) := Lib.hid (by rw [htk]; exact HO.out.less hx hlm)
              have hls : Op.bytesLess x m = true := by rw [lessS, decide_eq_true hlm]
              clear htk hlm
              go_wp2_with fail
              refine (word_any x _).mono ?_
              rintro e w2 ⟨rfl, rfl⟩
              rw [hx]
              go_wp2_with fail
              go_roundg (l.length - (j + 1))
              case measure => omega
              case rel => exact ⟨j + 1, some x, by omega, by omega, rfl, rfl, by go_num, HN, rfl⟩
            · have HN : Hid (LeastP (l.take (j + 1)) (some m)) := Lib.hid (by rw [htk]; exact HO.out.more hlm)
              have hls : Op.bytesLess x m = false := by rw [lessS, decide_eq_false hlm]
              clear htk hlm
              go_wp2_with fail
              refine (word_any x _).mono ?_
              rintro e w2 ⟨rfl, rfl⟩
              rw [hx]
              go_wp2_with fail
              go_roundg (l.length - (j + 1))
              case measure => omega
              case rel => exact ⟨j + 1, some m, by omega, by omega, rfl, rfl, by go_num, HN, rfl⟩
      · have i2 : ¬ (j : Int) < (l.length : Int) := by omega
        have ho := HO.out
        rw [List.take_of_length_le (by omega)] at ho
        have hh := ho.norm
        have hem := emptyW_head l
        rw [← hh] at hem
        have hcase : (o = none ∧ s = [] ∧ n = 16) ∨ (∃ m, o = some m ∧ s = m ∧ n = 0) := by
          rcases HP.out with ⟨h, _⟩ | ⟨_, ⟨h1, h2, h3⟩ | ⟨h1, r, h2⟩⟩
          · cases h
          · rw [h1] at hh; exact .inl ⟨hh, h2, h3⟩
          · rw [h2] at hh; exact .inr ⟨s, hh, rfl, h1⟩
        clear ho hh HO HP
        have HEM := Lib.hid hem
        clear hem
        rcases hcase with ⟨rfl, rfl, rfl⟩ | ⟨m, rfl, rfl, rfl⟩
        · simp only [Option.isSome_none, Option.getD_none] at *
          go_wp2_with fail
          refine (awake_any w1 (HE.out.below hbw1)).mono ?_
          rintro e w2 ⟨rfl, hb2⟩
          have k4 := cell_below hb2 k2
          have k5 := cell_below hb2 k3
          have hbw2 : Below w.heap.size w w2 := hbw1.trans (hb2.mono hbw1.size)
          go_wp2_with fail
          refine (empty_any false A l c w2 (HE.out.env.below hbw2) (HR.out.below hbw2) HS.out hn).mono ?_
          rintro e w3 ⟨rfl, hb3⟩
          rw [HEM.out]
          go_wp2_with fail
          go_ret
          exact ⟨ret_bool rfl, hbw2.trans (hb3.mono hbw2.size)⟩
        · simp only [Option.isSome_some, Option.getD_some] at *
          go_wp2_with fail
          refine (awake_any w1 (HE.out.below hbw1)).mono ?_
          rintro e w2 ⟨rfl, hb2⟩
          have k4 := cell_below hb2 k2
          have k5 := cell_below hb2 k3
          have hbw2 : Below w.heap.size w w2 := hbw1.trans (hb2.mono hbw1.size)
          go_wp2_with fail
          refine (empty_any false A l c w2 (HE.out.env.below hbw2) (HR.out.below hbw2) HS.out hn).mono ?_
          rintro e w3 ⟨rfl, hb3⟩
          rw [HEM.out]
          go_wp2_with fail
          go_ret
          exact ⟨ret_bool rfl, hbw2.trans (hb3.mono hbw2.size)⟩
  · obtain ⟨rfl, hin⟩ := pick_in HP.out
    go_wp2_with fail
    go_loopg [8] 258 (fun kk tv wr => ∃ k : Nat, k ≤ 257 ∧ 257 - k ≤ kk ∧ tv = encStr (aK k) ∧ Hid (∀ j, j < k → aK j ∈ l) ∧ Below w1.heap.size w1 wr)
    case atStart => exact ⟨0, by omega, by omega, rfl, Lib.hid (fun m hm => absurd hm (by omega)), Below.refl _ _⟩
    case round =>
      obtain ⟨k, hk, hkk, rfl, HI, hbel⟩ := hrel
      have hsz := hbel.size
      have k4 := cell_below hbel k2
      have k5 := cell_below hbel k3
      have hbw : Below w.heap.size w wr := hbw1.trans (hbel.mono hbw1.size)
      by_cases hk6 : k ≤ 256
      · have hin2 := inW_true l k hk6
        have hpl := pick_least (k := k) HP.out hk6 HI.out
        cases hx : l.contains (aK k)
        · have hse : s = aK k := hpl (fun h => by rw [(List.contains_iff_mem).2 h] at hx; cases hx)
          rw [hx] at hin2
          have hsl : s.length = k := by rw [hse, aK_length]
          rw [← hse] at hin2 ⊢
          clear hse hpl hx HI
          have i1 : (s.length : Int) ≤ 256 := by omega
          have i2 : ¬ (256 : Int) < (s.length : Int) := by omega
          go_wp2_with fail
          refine (rWords_any true A l c s _ (HR.out.below hbw) (by omega)).mono ?_
          rintro e w2 ⟨rfl, hb2⟩
          rw [hin2]
          go_wp2_with fail
          refine (awake_any w2 ((HE.out.below hbw).below hb2)).mono ?_
          rintro e w3 ⟨rfl, hb3⟩
          go_wp2_with fail
          go_ret
          exact ⟨ret_bool (by simp), (by repeat' (first | (with_reducible exact Below.refl _ _) | (with_reducible assumption) | (with_reducible refine Below.drew ?_) | (with_reducible refine below_drewN ?_ _) | (with_reducible refine below_iterAt ?_ ?_ _ _) | (with_reducible refine below_iter ?_ ?_ _ _) | (with_reducible refine Below.alloc ?_ ?_ _) | (with_reducible refine Below.setCell ?_ ?_ _) | (with_reducible refine Below.trans ?_ (Below.mono (by assumption) ?_)) | (simp only [sz_alloc, sz_set, sz_drew, sz_drewN, sz_iterAt, sz_iter] at *; omega) | omega | (simp; done) | (simp; omega) | (apply Below.size; assumption) | (simp only [sz_drew, sz_drewN]; apply Below.size; assumption) | (refine Nat.le_trans ?_ (Below.size (by assumption)))))⟩
        · have hmem : aK k ∈ l := List.contains_iff_mem.1 hx
          rw [hx] at hin2
          have HJ : Hid (∀ j, j < k + 1 → aK j ∈ l) := Lib.hid (by
            intro j hj
            rcases Nat.lt_or_ge j k with h | h
            · exact HI.out j h
            · have : j = k := by omega
              subst this
              exact hmem)
          obtain ⟨t, ht⟩ : ∃ t, aK k = t := ⟨_, rfl⟩
          have hsl : t.length = k := by rw [← ht, aK_length]
          have hnx : (Value.string ({ data := List.toArray t } ++ { data := #[97] })) = encStr (aK (k + 1)) := by
            rw [aK_succ, ht]
            show Value.string _ = Value.string ⟨(t ++ [97]).toArray⟩
            congr 1
            first | done | (apply ByteArray.ext; simp)
          have HNX := Lib.hid hnx
          rw [ht] at hin2 ⊢
          clear hnx hpl hx hmem ht
          have i1 : (t.length : Int) ≤ 256 := by omega
          go_wp2_with fail
          refine (rWords_any true A l c t _ (HR.out.below hbw) (by omega)).mono ?_
          rintro e w2 ⟨rfl, hb2⟩
          rw [hin2]
          go_wp2_with fail
          go_roundg (257 - (k + 1))
          case measure => omega
          case rel => exact ⟨k + 1, by omega, by omega, HNX.out, HJ, (by repeat' (first | (with_reducible exact Below.refl _ _) | (with_reducible assumption) | (with_reducible refine Below.drew ?_) | (with_reducible refine below_drewN ?_ _) | (with_reducible refine below_iterAt ?_ ?_ _ _) | (with_reducible refine below_iter ?_ ?_ _ _) | (with_reducible refine Below.alloc ?_ ?_ _) | (with_reducible refine Below.setCell ?_ ?_ _) | (with_reducible refine Below.trans ?_ (Below.mono (by assumption) ?_)) | (simp only [sz_alloc, sz_set, sz_drew, sz_drewN, sz_iterAt, sz_iter] at *; omega) | omega | (simp; done) | (simp; omega) | (apply Below.size; assumption) | (simp only [sz_drew, sz_drewN]; apply Below.size; assumption) | (refine Nat.le_trans ?_ (Below.size (by assumption)))))⟩
      · obtain ⟨t, ht⟩ : ∃ t, aK k = t := ⟨_, rfl⟩
        have hsl : t.length = k := by rw [← ht, aK_length]
        rw [ht]
        clear ht
        have i1 : ¬ (t.length : Int) ≤ 256 := by omega
        have i2 : (256 : Int) < (t.length : Int) := by omega
        clear hsl
        go_wp2_with fail
        refine (awake_any wr (HE.out.below hbw)).mono ?_
        rintro e w3 ⟨rfl, hb3⟩
        have k6 := cell_below hb3 k4
        have k7 := cell_below hb3 k5
        go_wp2_with fail
        refine (rWords_any true A l c s _ ((HR.out.below hbw).below hb3) (by omega)).mono ?_
        rintro e w4 ⟨rfl, hb4⟩
        rw [hin]
        go_wp2_with fail
        go_ret
        exact ⟨ret_bool rfl, (by repeat' (first | (with_reducible exact Below.refl _ _) | (with_reducible assumption) | (with_reducible refine Below.drew ?_) | (with_reducible refine below_drewN ?_ _) | (with_reducible refine below_iterAt ?_ ?_ _ _) | (with_reducible refine below_iter ?_ ?_ _ _) | (with_reducible refine Below.alloc ?_ ?_ _) | (with_reducible refine Below.setCell ?_ ?_ _) | (with_reducible refine Below.trans ?_ (Below.mono (by assumption) ?_)) | (simp only [sz_alloc, sz_set, sz_drew, sz_drewN, sz_iterAt, sz_iter] at *; omega) | omega | (simp; done) | (simp; omega) | (apply Below.size; assumption) | (simp only [sz_drew, sz_drewN]; apply Below.size; assumption) | (refine Nat.le_trans ?_ (Below.size (by assumption)))))⟩
end Go.Proofs.YtgbapmhdhbfhnaaDoor
