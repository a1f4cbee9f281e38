/- Spans: gap, far, Near, same, walked. -/
import Derived.Test.YthdbbefiebolbaaSpans6
import Derived.Test.YthdbbefiebolbaaSpansP
import Derived.Test.YthdbbefiebolbaaSpansN
set_option linter.unusedSimpArgs false
set_option linter.unusedVariables false
namespace Go.Proofs.Ythdbbefiebolbaa
open Go.RowKit Go.Sort

theorem wrapU {p q : Int} (h0 : 0 ≤ p - q) (h1 : p - q < 18446744073709551616) : IntKind.u64.wrap (IntKind.u64.wrap p - IntKind.u64.wrap q) = p - q := by
  simp [IntKind.wrap, IntKind.signed, IntKind.bits]
  omega
def IRng (a : Int) : Prop := -9223372036854775808 ≤ a ∧ a ≤ 9223372036854775807
set_option maxHeartbeats 400000 in
theorem gap_any (a b : Int) (ha : IRng a) (hb : IRng b) (w : World) : Calls Try.prog 29 #[.int .i64 a, .int .i64 b] w fun e w' => e = .returned (.int .u64 (farI a b)) ∧ Below w.heap.size w w' := by
  obtain ⟨r, hr⟩ : ∃ r, farI a b = r := ⟨_, rfl⟩
  rw [hr]
  have HR : Hid (farI a b = r) := hr
  clear hr
  have HA : Hid (IRng a) := ha
  have HB : Hid (IRng b) := hb
  clear ha hb
  go_enter Try.func29, Try.ntmps29
  go_wp2_with fail
  go_ret
  refine ⟨ret_int ?_, (by repeat' (first | (with_reducible exact Below.refl _ _) | (with_reducible assumption) | (with_reducible refine Below.drew ?_) | (with_reducible refine below_drewN ?_ _) | (with_reducible refine below_iterAt ?_ ?_ _ _) | (with_reducible refine below_iter ?_ ?_ _ _) | (with_reducible refine Below.alloc ?_ ?_ _) | (with_reducible refine Below.setCell ?_ ?_ _) | (with_reducible refine Below.trans ?_ (Below.mono (by assumption) ?_)) | (simp only [sz_alloc, sz_set, sz_drew, sz_drewN, sz_iterAt, sz_iter] at *; omega) | omega | (simp; done) | (simp; omega) | (apply Below.size; assumption) | (simp only [sz_drew, sz_drewN]; apply Below.size; assumption) | (refine Nat.le_trans ?_ (Below.size (by assumption)))))⟩
  have h1 := HA.out
  have h2 := HB.out
  rw [← HR.out]
  unfold farI IRng at *
  exact wrapU (by omega) (by omega)
set_option maxHeartbeats 400000 in
theorem far_any (a b : Int) (ha : IRng a) (hb : IRng b) (w : World) : Calls Try.prog 16 #[.int .i64 a, .int .i64 b] w fun e w' => e = .returned (.int .u64 (farI a b)) ∧ Below w.heap.size w w' := by
  obtain ⟨r, hr⟩ : ∃ r, farI a b = r := ⟨_, rfl⟩
  rw [hr]
  have HR : Hid (farI a b = r) := hr
  clear hr
  have HA : Hid (IRng a) := ha
  have HB : Hid (IRng b) := hb
  clear ha hb
  by_cases hab : a < b
  · go_enter Try.func16, Try.ntmps16
    go_wp2_with fail
    go_ret
    refine ⟨ret_int ?_, (by repeat' (first | (with_reducible exact Below.refl _ _) | (with_reducible assumption) | (with_reducible refine Below.drew ?_) | (with_reducible refine below_drewN ?_ _) | (with_reducible refine below_iterAt ?_ ?_ _ _) | (with_reducible refine below_iter ?_ ?_ _ _) | (with_reducible refine Below.alloc ?_ ?_ _) | (with_reducible refine Below.setCell ?_ ?_ _) | (with_reducible refine Below.trans ?_ (Below.mono (by assumption) ?_)) | (simp only [sz_alloc, sz_set, sz_drew, sz_drewN, sz_iterAt, sz_iter] at *; omega) | omega | (simp; done) | (simp; omega) | (apply Below.size; assumption) | (simp only [sz_drew, sz_drewN]; apply Below.size; assumption) | (refine Nat.le_trans ?_ (Below.size (by assumption)))))⟩
    have h1 := HA.out
    have h2 := HB.out
    rw [← HR.out]
    unfold farI IRng at *
    rw [wrapU (by omega) (by omega)]
    omega
  · go_enter Try.func16, Try.ntmps16
    go_wp2_with fail
    go_ret
    refine ⟨ret_int ?_, (by repeat' (first | (with_reducible exact Below.refl _ _) | (with_reducible assumption) | (with_reducible refine Below.drew ?_) | (with_reducible refine below_drewN ?_ _) | (with_reducible refine below_iterAt ?_ ?_ _ _) | (with_reducible refine below_iter ?_ ?_ _ _) | (with_reducible refine Below.alloc ?_ ?_ _) | (with_reducible refine Below.setCell ?_ ?_ _) | (with_reducible refine Below.trans ?_ (Below.mono (by assumption) ?_)) | (simp only [sz_alloc, sz_set, sz_drew, sz_drewN, sz_iterAt, sz_iter] at *; omega) | omega | (simp; done) | (simp; omega) | (apply Below.size; assumption) | (simp only [sz_drew, sz_drewN]; apply Below.size; assumption) | (refine Nat.le_trans ?_ (Below.size (by assumption)))))⟩
    have h1 := HA.out
    have h2 := HB.out
    rw [← HR.out]
    unfold farI IRng at *
    rw [wrapU (by omega) (by omega)]
    omega

theorem clamp_rng {s : Sp} (h : SpWf s) {n : Int} (hn : IRng n) : IRng (clampS s n) := by
  have h1 := h.l1; have h2 := h.l2; have h3 := h.h1; have h4 := h.h2
  unfold IRng at *; unfold clampS; omega
set_option maxRecDepth 100000 in
set_option maxHeartbeats 1600000 in
theorem near0_any (l : List Sp) (n : Int) (hn : IRng n) (A : Option Addr) (c : Nat) (w : World) (hr : RdL w 2 A (l.map spC)) (hw : ∀ s ∈ l, SpWf s) (hlen : l.length ≤ 1000000000000) :
    Calls Try.prog 15 #[.slice A l.length c, .int .i64 n] w fun e w' =>
      ∃ m : Option Int, e = .returned (.tuple #[.int .i64 (m.getD 0), .int .i64 (if m.isSome = true then 0 else 16)]) ∧ (∀ k, m = some k → NearOf l n k) ∧ (m = none → ∀ k, inS l k = false) ∧ Below w.heap.size w w' := by
  have HN : Hid (IRng n) := hn
  clear hn
  go_enter Try.func15, Try.ntmps15
  go_wp2_with fail
  refine (join_any l A c _ hr hw hlen).mono ?_
  rintro e w1 ⟨R, B, cR, rfl, hrR, hJ, hcR, _, hb1⟩
  have hlJ := hJ.len
  obtain ⟨M, hM⟩ : ∃ M, nearF n R none = M := ⟨_, rfl⟩
  have HM : Hid (nearF n R none = M) := hM
  clear hM
  go_wp2_with fail
  go_loopg [6, 7, 14] R.length (fun k bv fv iv wr => ∃ (i : Nat) (b : Option Int), i ≤ R.length ∧ R.length - i ≤ k ∧ bv = .int .i64 (b.getD 0) ∧ fv = .bool b.isSome ∧ iv = .int .i64 i ∧ Hid (∀ m, b = some m → IRng m) ∧ Hid (nearF n (R.drop i) b = M) ∧ Below w1.heap.size w1 wr)
  case atStart => exact ⟨0, none, by omega, by omega, rfl, rfl, rfl, fun m h => (nomatch h), HM.out, Below.refl _ _⟩
  case round =>
    obtain ⟨i, b, hi, hik, rfl, rfl, rfl, hbr, hinv, hbel⟩ := hrel
    have hsz := hbel.size
    by_cases hlt : i < R.length
    · obtain ⟨bJ, oJ, hBJ, hx⟩ := (hrR.below hbel).at_ hlt
      subst hBJ
      have hxw := hJ.wf _ (List.getElem_mem hlt)
      have hdr : R.drop i = R[i]'hlt :: R.drop (i + 1) := List.drop_eq_getElem_cons hlt
      generalize R[i]'hlt = x at *
      rw [hdr] at hinv
      have y0 : wr.cell? ⟨bJ, oJ + i * 2, none⟩ = some (.int .i64 x.1) := hx.get 0 rfl
      have y1 : wr.cell? ⟨bJ, oJ + i * 2 + 1, none⟩ = some (.int .i64 x.2) := hx.get 1 rfl
      have i1 : (i : Int) < (R.length : Int) := by omega
      have i2 : (0 : Int) ≤ (i : Int) := by omega
      have HXR : Hid (IRng (clampS x n)) := clamp_rng hxw HN.out
      have HX := Lib.hid hxw
      clear hx hdr hxw
      obtain ⟨cl, hcl⟩ : ∃ cl, max x.1 (min n x.2) = cl := ⟨_, rfl⟩
      have HCL : Hid (clampS x n = cl) := hcl
      cases b with
      | none =>
        have hn1 : Hid (nearF n (R.drop (i + 1)) (some cl) = M) := by rw [← HCL.out]; exact hinv.out
        go_wp2_with fail
        go_roundg (R.length - (i + 1))
        case measure => omega
        case rel => exact ⟨i + 1, some cl, by omega, by omega, rfl, rfl, by go_num, fun m h => by cases h; rw [← HCL.out]; exact HXR.out, hn1, (by repeat' (first | (with_reducible exact Below.refl _ _) | (with_reducible assumption) | (with_reducible refine Below.drew ?_) | (with_reducible refine below_drewN ?_ _) | (with_reducible refine below_iterAt ?_ ?_ _ _) | (with_reducible refine below_iter ?_ ?_ _ _) | (with_reducible refine Below.alloc ?_ ?_ _) | (with_reducible refine Below.setCell ?_ ?_ _) | (with_reducible refine Below.trans ?_ (Below.mono (by assumption) ?_)) | (simp only [sz_alloc, sz_set, sz_drew, sz_drewN, sz_iterAt, sz_iter] at *; omega) | omega | (simp; done) | (simp; omega) | (apply Below.size; assumption) | (simp only [sz_drew, sz_drewN]; apply Below.size; assumption) | (refine Nat.le_trans ?_ (Below.size (by assumption)))))⟩
      | some m =>
        simp only [Option.getD_some, Option.isSome_some] at *
        have hn1 : Hid (nearF n (R.drop (i + 1)) (if farI cl n < farI m n then some cl else some m) = M) := by rw [← HCL.out]; exact hinv.out
        obtain ⟨f1, hf1⟩ : ∃ f1, farI cl n = f1 := ⟨_, rfl⟩
        obtain ⟨f2, hf2⟩ : ∃ f2, farI m n = f2 := ⟨_, rfl⟩
        rw [hf1, hf2] at hn1
        have HF1 := Lib.hid hf1
        have HF2 := Lib.hid hf2
        have HCR : Hid (IRng cl) := by rw [← HCL.out]; exact HXR.out
        have HMR : Hid (IRng m) := hbr.out m rfl
        have hg1 := fun W => gap_any cl n HCR.out HN.out W
        have hg2 := fun W => gap_any m n HMR.out HN.out W
        rw [HF1.out] at hg1
        rw [HF2.out] at hg2
        have HG1 := Lib.hid hg1
        have HG2 := Lib.hid hg2
        clear hf1 hf2 hg1 hg2
        by_cases hf : f1 < f2
        · have hn2 : Hid (nearF n (R.drop (i + 1)) (some cl) = M) := by have := hn1.out; rw [if_pos hf] at this; exact this
          go_wp2_with fail
          refine (HG1.out _).mono ?_
          rintro e w2 ⟨rfl, hb2⟩
          go_wp2_with fail
          refine (HG2.out _).mono ?_
          rintro e w3 ⟨rfl, hb3⟩
          go_wp2_with fail
          go_roundg (R.length - (i + 1))
          case measure => omega
          case rel => exact ⟨i + 1, some cl, by omega, by omega, rfl, rfl, by go_num, fun k h => by cases h; exact HCR.out, hn2, (by repeat' (first | (with_reducible exact Below.refl _ _) | (with_reducible assumption) | (with_reducible refine Below.drew ?_) | (with_reducible refine below_drewN ?_ _) | (with_reducible refine below_iterAt ?_ ?_ _ _) | (with_reducible refine below_iter ?_ ?_ _ _) | (with_reducible refine Below.alloc ?_ ?_ _) | (with_reducible refine Below.setCell ?_ ?_ _) | (with_reducible refine Below.trans ?_ (Below.mono (by assumption) ?_)) | (simp only [sz_alloc, sz_set, sz_drew, sz_drewN, sz_iterAt, sz_iter] at *; omega) | omega | (simp; done) | (simp; omega) | (apply Below.size; assumption) | (simp only [sz_drew, sz_drewN]; apply Below.size; assumption) | (refine Nat.le_trans ?_ (Below.size (by assumption)))))⟩
        · have hn2 : Hid (nearF n (R.drop (i + 1)) (some m) = M) := by have := hn1.out; rw [if_neg hf] at this; exact this
          go_wp2_with fail
          refine (HG1.out _).mono ?_
          rintro e w2 ⟨rfl, hb2⟩
          go_wp2_with fail
          refine (HG2.out _).mono ?_
          rintro e w3 ⟨rfl, hb3⟩
          go_wp2_with fail
          go_roundg (R.length - (i + 1))
          case measure => omega
          case rel => exact ⟨i + 1, some m, by omega, by omega, rfl, rfl, by go_num, fun k h => by cases h; exact HMR.out, hn2, (by repeat' (first | (with_reducible exact Below.refl _ _) | (with_reducible assumption) | (with_reducible refine Below.drew ?_) | (with_reducible refine below_drewN ?_ _) | (with_reducible refine below_iterAt ?_ ?_ _ _) | (with_reducible refine below_iter ?_ ?_ _ _) | (with_reducible refine Below.alloc ?_ ?_ _) | (with_reducible refine Below.setCell ?_ ?_ _) | (with_reducible refine Below.trans ?_ (Below.mono (by assumption) ?_)) | (simp only [sz_alloc, sz_set, sz_drew, sz_drewN, sz_iterAt, sz_iter] at *; omega) | omega | (simp; done) | (simp; omega) | (apply Below.size; assumption) | (simp only [sz_drew, sz_drewN]; apply Below.size; assumption) | (refine Nat.le_trans ?_ (Below.size (by assumption)))))⟩
    · have hie : i = R.length := by omega
      have hb : Hid (b = M) := by have := hinv.out; rw [hie, List.drop_length] at this; exact this
      have i1 : ¬ ((i : Int) < (R.length : Int)) := by omega
      cases b with
      | none =>
        go_wp2_with fail
        go_ret2
        refine ⟨none, rfl, fun k h => (nomatch h), fun _ k => ?_, hb1.trans (hbel.mono hb1.size)⟩
        have := nearF_none (HM.out.trans hb.out.symm)
        rw [← hJ.same k, this]; rfl
      | some m =>
        go_wp2_with fail
        go_ret2
        refine ⟨some m, rfl, fun k h => ?_, fun h => (nomatch h), hb1.trans (hbel.mono hb1.size)⟩
        cases h
        have := nearF_near hJ.ord (HM.out.trans hb.out.symm)
        exact ⟨by rw [← hJ.same]; exact this.1, fun k hk => this.2 k (by rw [hJ.same]; exact hk)⟩

theorem neSp_run (x : Sp) (w : World) : (binOp .neq 35 (.agg #[.int .i64 x.1, .int .i64 x.2]) (.agg #[.int .i64 x.1, .int .i64 x.2])).run Try.prog w = .ok (.bool false) w := by
  go_simp
set_option maxHeartbeats 800000 in
theorem same_any (a b : List Sp) (A B : Option Addr) (ca cb : Nat) (w : World) (hra : RdL w 2 A (a.map spC)) (hrb : RdL w 2 B (b.map spC)) (hna : a.length ≤ 9223372036854775807) (hab : a = b) :
    Calls Try.prog 19 #[.slice A a.length ca, .slice B b.length cb] w fun e w' => e = .returned (.bool true) ∧ Below w.heap.size w w' := by
  subst hab
  go_enter Try.func19, Try.ntmps19
  go_wp2_with fail
  go_loopg [5] a.length (fun k iv wr => ∃ i : Nat, i ≤ a.length ∧ a.length - i ≤ k ∧ iv = .int .i64 i ∧ Below w.heap.size w wr)
  case atStart => exact ⟨0, by omega, by omega, rfl, Below.refl _ _⟩
  case round =>
    obtain ⟨i, hi, hik, rfl, hbel⟩ := hrel
    by_cases hlt : i < a.length
    · obtain ⟨bJ, oJ, hBJ, hx⟩ := (hra.below hbel).at_ hlt
      subst hBJ
      obtain ⟨bK, oK, hBK, hy⟩ := (hrb.below hbel).at_ hlt
      subst hBK
      generalize a[i]'hlt = x at *
      have y0 : wr.cell? ⟨bJ, oJ + i * 2, none⟩ = some (.int .i64 x.1) := hx.get 0 rfl
      have y1 : wr.cell? ⟨bJ, oJ + i * 2 + 1, none⟩ = some (.int .i64 x.2) := hx.get 1 rfl
      have z0 : wr.cell? ⟨bK, oK + i * 2, none⟩ = some (.int .i64 x.1) := hy.get 0 rfl
      have z1 : wr.cell? ⟨bK, oK + i * 2 + 1, none⟩ = some (.int .i64 x.2) := hy.get 1 rfl
      have hsz := hbel.size
      have i1 : (i : Int) < (a.length : Int) := by omega
      have i2 : (0 : Int) ≤ (i : Int) := by omega
      have hn : ∀ W : World, _ := fun W => neSp_run x W
      clear hx hy
      go_wp2_with fail
      go_quiet (fail)
      go_wp2_with fail
      go_roundg (a.length - (i + 1))
      case measure => omega
      case rel => exact ⟨i + 1, by omega, by omega, by go_num, (by repeat' (first | (with_reducible exact Below.refl _ _) | (with_reducible assumption) | (with_reducible refine Below.drew ?_) | (with_reducible refine below_drewN ?_ _) | (with_reducible refine below_iterAt ?_ ?_ _ _) | (with_reducible refine below_iter ?_ ?_ _ _) | (with_reducible refine Below.alloc ?_ ?_ _) | (with_reducible refine Below.setCell ?_ ?_ _) | (with_reducible refine Below.trans ?_ (Below.mono (by assumption) ?_)) | (simp only [sz_alloc, sz_set, sz_drew, sz_drewN, sz_iterAt, sz_iter] at *; omega) | omega | (simp; done) | (simp; omega) | (apply Below.size; assumption) | (simp only [sz_drew, sz_drewN]; apply Below.size; assumption) | (refine Nat.le_trans ?_ (Below.size (by assumption)))))⟩
    · have i1 : ¬ ((i : Int) < (a.length : Int)) := by omega
      go_wp2_with fail
      go_ret
      exact ⟨ret_bool rfl, hbel⟩

/-- what Join makes of three spans -/
theorem awake_join {R : List Sp} (h : JoinOf [(3, 5), (1, 2), (9, 9)] R) : R = [(1, 5), (9, 9)] := by
  refine ord_uniq R [(1, 5), (9, 9)] h.ord ?_ (fun n => ?_)
  · simp [ordL]
  · rw [h.same, Bool.eq_iff_iff]
    simp [inS, hasS]
    omega
theorem awake_near {m : Option Int} (h1 : ∀ k, m = some k → NearOf [(1, 5), (9, 9)] 7 k) (h2 : m = none → ∀ k, inS [(1, 5), (9, 9)] k = false) : m = some 5 := by
  have h5 : NearOf [(1, 5), (9, 9)] 7 5 := by
    refine nearOf_clamps (by decide) (fun s hs _ => ?_)
    have : s = (1, 5) ∨ s = (9, 9) := by simpa using hs
    rcases this with rfl | rfl <;> decide
  cases m with
  | none => have := h2 rfl 5; revert this; decide
  | some k => rw [(h1 k rfl).uniq h5 (fun _ => rfl)]
set_option maxRecDepth 100000 in
set_option maxHeartbeats 1600000 in
theorem awake_any (w : World) : Calls Try.prog 10 #[] w fun e w' => e = .returned (.bool true) ∧ Below w.heap.size w w' := by
  have hown := World.ownsRow_lit (base := w.heap.size) (e := 35) (size := 2) w #[.int .i64 3, .int .i64 5, .int .i64 1, .int .i64 2, .int .i64 9, .int .i64 9] 3 (Nat.le_refl _) (by decide) rfl
  obtain ⟨A, c, e, hrd⟩ := own_rd (css := ([(3, 5), (1, 2), (9, 9)] : List Sp).map spC) hown rfl (by intro c hc; obtain ⟨x, _, rfl⟩ := List.mem_map.1 hc; rfl) rfl
  cases e
  have hwf3 : ∀ s ∈ ([(3, 5), (1, 2), (9, 9)] : List Sp), SpWf s := by
    intro s hs
    have : s = (3, 5) ∨ s = (1, 2) ∨ s = (9, 9) := by simpa using hs
    rcases this with rfl | rfl | rfl <;> exact ⟨by decide, by decide, by decide, by decide⟩
  have hwf2 : ∀ s ∈ ([(1, 5), (9, 9)] : List Sp), SpWf s := by
    intro s hs
    have : s = (1, 5) ∨ s = (9, 9) := by simpa using hs
    rcases this with rfl | rfl <;> exact ⟨by decide, by decide, by decide, by decide⟩
  have HRD := Lib.hid hrd
  have HW3 := Lib.hid hwf3
  have HW2 := Lib.hid hwf2
  clear hown hrd hwf3 hwf2
  go_enter Try.func10, Try.ntmps10
  go_wp2_with fail
  refine (join_any [(3, 5), (1, 2), (9, 9)] _ 3 _ HRD.out HW3.out (by decide)).mono ?_
  rintro e w1 ⟨R, B, cb, rfl, hrR, hJ, _, _, hb1⟩
  obtain rfl := awake_join hJ
  obtain ⟨b0, o0, rfl, hx⟩ := hrR.at_ (j := 0) (by decide)
  have hb1' : Below w.heap.size w w1 := (by repeat' (first | (with_reducible exact Below.refl _ _) | (with_reducible assumption) | (with_reducible refine Below.drew ?_) | (with_reducible refine below_drewN ?_ _) | (with_reducible refine below_iterAt ?_ ?_ _ _) | (with_reducible refine below_iter ?_ ?_ _ _) | (with_reducible refine Below.alloc ?_ ?_ _) | (with_reducible refine Below.setCell ?_ ?_ _) | (with_reducible refine Below.trans ?_ (Below.mono (by assumption) ?_)) | (simp only [sz_alloc, sz_set, sz_drew, sz_drewN, sz_iterAt, sz_iter] at *; omega) | omega | (simp; done) | (simp; omega) | (apply Below.size; assumption) | (simp only [sz_drew, sz_drewN]; apply Below.size; assumption) | (refine Nat.le_trans ?_ (Below.size (by assumption)))))
  have hz1 := hb1'.size
  clear hJ
  go_wp2_with fail
  refine (near0_any [(1, 5), (9, 9)] 7 ⟨by decide, by decide⟩ _ cb _ hrR HW2.out (by decide)).mono ?_
  rintro e w2 ⟨m, rfl, h1, h2, hb2⟩
  obtain rfl := awake_near h1 h2
  have hz2 := hb2.size
  have g0 : w2.cell? ⟨b0, o0, none⟩ = some (.int .i64 1) := cell_below hb2 (hx.get 0 rfl)
  have g1 : w2.cell? ⟨b0, o0 + 1, none⟩ = some (.int .i64 5) := cell_below hb2 (hx.get 1 rfl)
  have hh1 : ∀ W, Below w2.heap.size w2 W → Calls Try.prog 14 #[.slice (some ⟨b0, o0, none⟩) 2 cb, .int .i64 9] W fun e w' => e = .returned (.bool true) ∧ Below W.heap.size W w' := fun W hW => has_any [(1, 5), (9, 9)] 9 _ cb W ((hrR.below hb2).below hW) (by decide)
  have hh2 : ∀ W, Below w2.heap.size w2 W → Calls Try.prog 14 #[.slice (some ⟨b0, o0, none⟩) 2 cb, .int .i64 8] W fun e w' => e = .returned (.bool false) ∧ Below W.heap.size W w' := fun W hW => has_any [(1, 5), (9, 9)] 8 _ cb W ((hrR.below hb2).below hW) (by decide)
  have HH1 := Lib.hid hh1
  have HH2 := Lib.hid hh2
  have hb12 : Below w.heap.size w w2 := (by repeat' (first | (with_reducible exact Below.refl _ _) | (with_reducible assumption) | (with_reducible refine Below.drew ?_) | (with_reducible refine below_drewN ?_ _) | (with_reducible refine below_iterAt ?_ ?_ _ _) | (with_reducible refine below_iter ?_ ?_ _ _) | (with_reducible refine Below.alloc ?_ ?_ _) | (with_reducible refine Below.setCell ?_ ?_ _) | (with_reducible refine Below.trans ?_ (Below.mono (by assumption) ?_)) | (simp only [sz_alloc, sz_set, sz_drew, sz_drewN, sz_iterAt, sz_iter] at *; omega) | omega | (simp; done) | (simp; omega) | (apply Below.size; assumption) | (simp only [sz_drew, sz_drewN]; apply Below.size; assumption) | (refine Nat.le_trans ?_ (Below.size (by assumption)))))
  clear h1 h2 hx hh1 hh2
  go_wp2_with fail
  refine (HH1.out _ (Below.refl _ _)).mono ?_
  rintro e w3 ⟨rfl, hb3⟩
  have hb23 : Below w2.heap.size w2 w3 := hb3
  go_wp2_with fail
  refine (HH2.out _ hb23).mono ?_
  rintro e w4 ⟨rfl, hb4⟩
  go_wp2_with fail
  go_ret
  exact ⟨ret_bool rfl, (by repeat' (first | (with_reducible exact Below.refl _ _) | (with_reducible assumption) | (with_reducible refine Below.drew ?_) | (with_reducible refine below_drewN ?_ _) | (with_reducible refine below_iterAt ?_ ?_ _ _) | (with_reducible refine below_iter ?_ ?_ _ _) | (with_reducible refine Below.alloc ?_ ?_ _) | (with_reducible refine Below.setCell ?_ ?_ _) | (with_reducible refine Below.trans ?_ (Below.mono (by assumption) ?_)) | (simp only [sz_alloc, sz_set, sz_drew, sz_drewN, sz_iterAt, sz_iter] at *; omega) | omega | (simp; done) | (simp; omega) | (apply Below.size; assumption) | (simp only [sz_drew, sz_drewN]; apply Below.size; assumption) | (refine Nat.le_trans ?_ (Below.size (by assumption)))))⟩
end Go.Proofs.Ythdbbefiebolbaa
