/- soffit/value.Text, soffitref04.Text: walked. -/
import Derived.Test.YthicilfhnakhmaaGreatDoorTx4
set_option linter.unusedSimpArgs false
set_option linter.unusedVariables false
namespace Go.Proofs.YthicilfhnakhmaaGreatDoor
open Go.RowKit Go.Sort Go.Lib

theorem snd_k {v : Vl} (h : sndB v = true) : v.k = 0 ∨ v.k = 1 ∨ v.k = 2 ∨ v.k = 3 ∨ v.k = 4 := by
  unfold sndB at h
  by_cases h0 : v.k = 0
  · exact .inl h0
  by_cases h1 : v.k = 1
  · exact .inr (.inl h1)
  by_cases h2 : v.k = 2
  · exact .inr (.inr (.inl h2))
  by_cases h3 : v.k = 3
  · exact .inr (.inr (.inr (.inl h3)))
  by_cases h4 : v.k = 4
  · exact .inr (.inr (.inr (.inr h4)))
  rw [if_neg h0, if_neg h1, if_neg h2, if_neg h3, if_neg h4] at h
  cases h
theorem snd2_size {v : Vl} (h : sndB v = true) (hk : v.k = 2) : v.t.size ≤ 256 := by
  unfold sndB at h
  rw [if_neg (by omega), if_neg (by omega), if_pos hk] at h
  simp only [Bool.and_eq_true, decide_eq_true_eq] at h
  first | exact h.1.2.2 | omega
theorem snd3_i {v : Vl} (h : sndB v = true) (hk : v.k = 3) : v.i = 0 ∨ v.i = 1 := by
  unfold sndB at h
  rw [if_neg (by omega), if_neg (by omega), if_neg (by omega), if_pos hk] at h
  simp only [Bool.and_eq_true, decide_eq_true_eq] at h
  omega
theorem snd4_i {v : Vl} (h : sndB v = true) (hk : v.k = 4) : 0 ≤ v.i ∧ v.i ≤ 3652058 := by
  unfold sndB at h
  rw [if_neg (by omega), if_neg (by omega), if_neg (by omega), if_neg (by omega), if_pos hk] at h
  simp only [Bool.and_eq_true, decide_eq_true_eq] at h
  omega
theorem snd1_dec {v : Vl} (h : sndB v = true) (hk : v.k = 1) : decSnd v.n v.s = true := by
  unfold sndB at h
  rw [if_neg (by omega), if_pos hk] at h
  simp only [Bool.and_eq_true] at h
  exact h.2
theorem year_of {n : Int} (h0 : 0 ≤ n) : ∀ Y : Nat, n < fstY ((Y : Int) + 1) → ∃ y, 1 ≤ y ∧ fstY y ≤ n ∧ n < fstY (y + 1)
  | 0, h => by
    rw [show ((0 : Nat) : Int) + 1 = 1 from rfl, fstY_one] at h
    omega
  | Y + 1, h => by
    by_cases h1 : n < fstY ((Y : Int) + 1)
    · exact year_of h0 Y h1
    · exact ⟨(Y : Int) + 1, by omega, by omega, by rw [show ((Y + 1 : Nat) : Int) + 1 = (Y : Int) + 1 + 1 by omega] at h; exact h⟩
theorem month_of {y c : Int} (h0 : 0 ≤ c) : ∀ M : Nat, c < mCum y M → ∃ m, mCum y m ≤ c ∧ c < mCum y (m + 1)
  | 0, h => by rw [mCum] at h; omega
  | M + 1, h => by
    by_cases h1 : c < mCum y M
    · exact month_of h0 M h1
    · exact ⟨M, by omega, h⟩
theorem date_of {n : Int} (h1 : 0 ≤ n) (h2 : n ≤ 3652058) : ∃ y m d, IsDate n y m d := by
  obtain ⟨y, y1, lo, hi⟩ := year_of h1 9999 (by rw [show ((9999 : Nat) : Int) + 1 = 10000 from rfl, fstY_end]; omega)
  obtain ⟨m, ml, mh⟩ := month_of (y := y) (c := n - fstY y) (by omega) 12 (by rw [mCum_year]; rw [fstY_succ] at hi; omega)
  exact ⟨y, m, _, IsDate.of y1 lo hi (by omega) ml mh⟩
theorem dayL_len {n : Int} (h1 : 0 ≤ n) (h2 : n ≤ 3652058) (hx : ∃ y m d, IsDate n y m d) : (dayL n).length = 10 := by
  obtain ⟨y, m, d, h⟩ := hx
  rw [dayL_eq h]
  unfold dateL
  have hd := h.d_bd
  have hm := h.m2
  have a := h.y1
  have b := h.y2
  rw [List.length_append, List.length_cons, List.length_append, List.length_cons, padD_len (dec_len_lt (k := 3) (by omega)), padD_len (dec_len_lt (k := 1) (by omega)), padD_len (dec_len_lt (k := 1) (by omega))]

set_option maxRecDepth 100000 in
set_option maxHeartbeats 6400000 in
theorem rText_any (v : Vl) (w : World) (hv : v.wf) :
    Calls Tryz.prog 12 #[.agg #[.int .i64 v.k, .int .i64 v.n, .int .i64 v.s, .string v.t, .int .i64 v.i]] w fun e w' => e = .returned (txtRes v) ∧ Below w.heap.size w w' := by
  cases hs : sndB v
  · rw [txtRes_no hs]
    go_enter Tryz.func12, Tryz.ntmps12
    go_wp2_with fail
    refine (rSound_any v _ hv).mono ?_
    rintro e w1 ⟨rfl, hb1⟩
    rw [hs]
    clear hs
    go_wp2_with fail
    go_ret2
    exact ⟨rfl, (by repeat' (first | (with_reducible exact Below.refl _ _) | (with_reducible assumption) | (with_reducible refine Below.drew ?_) | (with_reducible refine below_drewN ?_ _) | (with_reducible refine below_iterAt ?_ ?_ _ _) | (with_reducible refine below_iter ?_ ?_ _ _) | (with_reducible refine Below.alloc ?_ ?_ _) | (with_reducible refine Below.setCell ?_ ?_ _) | (with_reducible refine Below.trans ?_ (Below.mono (by assumption) ?_)) | (simp only [sz_alloc, sz_set, sz_drew, sz_drewN, sz_iterAt, sz_iter] at *; omega) | omega | (simp; done) | (simp; omega) | (apply Below.size; assumption) | (simp only [sz_drew, sz_drewN]; apply Below.size; assumption) | (refine Nat.le_trans ?_ (Below.size (by assumption)))))⟩
  · have hk := snd_k hs
    rw [txtRes_yes hs]
    have H3 := Lib.hid (fun h => snd3_i hs h)
    have H4 := Lib.hid (fun h => snd4_i hs h)
    have H2 := Lib.hid (fun h => snd2_size hs h)
    have H1 := Lib.hid (fun h => snd1_dec hs h)
    obtain ⟨k, n, s, t, i⟩ := v
    dsimp only at hk H1 H2 H3 H4 ⊢
    rcases hk with rfl | rfl | rfl | rfl | rfl
    · skip
      go_enter Tryz.func12, Tryz.ntmps12
      go_wp2_with fail
      refine (rSound_any ⟨0, n, s, t, i⟩ _ hv).mono ?_
      rintro e w1 ⟨rfl, hb1⟩
      rw [hs]
      clear hs
      obtain ⟨hc1, hf1⟩ := bcell hb1
      have hz1 := hb1.size
      try simp at hz1
      have q1_0 := fun o => hc1 (w.heap.size) o (by first | omega | (simp only [sz_alloc, sz_set, sz_drew, sz_drewN, sz_iterAt, sz_iter] at *; omega) | (simp; done) | (simp; omega) | (simp at *; omega))
      have l1_0 : w.heap.size < w1.heap.size := by omega
      have r1_0 := fun o => hf1 (w.heap.size) o (by first | omega | (simp only [sz_alloc, sz_set, sz_drew, sz_drewN, sz_iterAt, sz_iter] at *; omega) | (simp; done) | (simp; omega) | (simp at *; omega))
      clear hc1 hf1
      go_wp2_with fail
      go_ret2
      exact ⟨rfl, (by repeat' (first | (with_reducible exact Below.refl _ _) | (with_reducible assumption) | (with_reducible refine Below.drew ?_) | (with_reducible refine below_drewN ?_ _) | (with_reducible refine below_iterAt ?_ ?_ _ _) | (with_reducible refine below_iter ?_ ?_ _ _) | (with_reducible refine Below.alloc ?_ ?_ _) | (with_reducible refine Below.setCell ?_ ?_ _) | (with_reducible refine Below.trans ?_ (Below.mono (by assumption) ?_)) | (simp only [sz_alloc, sz_set, sz_drew, sz_drewN, sz_iterAt, sz_iter] at *; omega) | omega | (simp; done) | (simp; omega) | (apply Below.size; assumption) | (simp only [sz_drew, sz_drewN]; apply Below.size; assumption) | (refine Nat.le_trans ?_ (Below.size (by assumption)))))⟩
    · have hdt : decTxtRes n s = .tuple #[.string ⟨(decL n s).toArray⟩, .int .i64 0] := by unfold decTxtRes; rw [H1.out rfl]; rfl
      obtain ⟨R, hR⟩ : ∃ R : ByteArray, ⟨(decL n s).toArray⟩ = R := ⟨_, rfl⟩
      have hV : (⟨(valL ⟨1, n, s, t, i⟩).toArray⟩ : ByteArray) = R := hR
      rw [hV]
      rw [hR] at hdt
      have HDT := Lib.hid hdt
      clear hdt hR hV
      go_enter Tryz.func12, Tryz.ntmps12
      go_wp2_with fail
      refine (rSound_any ⟨1, n, s, t, i⟩ _ hv).mono ?_
      rintro e w1 ⟨rfl, hb1⟩
      rw [hs]
      clear hs
      obtain ⟨hc1, hf1⟩ := bcell hb1
      have hz1 := hb1.size
      try simp at hz1
      have q1_0 := fun o => hc1 (w.heap.size) o (by first | omega | (simp only [sz_alloc, sz_set, sz_drew, sz_drewN, sz_iterAt, sz_iter] at *; omega) | (simp; done) | (simp; omega) | (simp at *; omega))
      have l1_0 : w.heap.size < w1.heap.size := by omega
      have r1_0 := fun o => hf1 (w.heap.size) o (by first | omega | (simp only [sz_alloc, sz_set, sz_drew, sz_drewN, sz_iterAt, sz_iter] at *; omega) | (simp; done) | (simp; omega) | (simp at *; omega))
      clear hc1 hf1
      go_wp2_with fail
      refine (refText_any n s _ hv.n hv.s).mono ?_
      rintro e w2 ⟨rfl, hb2⟩
      rw [HDT.out]
      go_wp2_with fail
      go_ret2
      exact ⟨rfl, (by repeat' (first | (with_reducible exact Below.refl _ _) | (with_reducible assumption) | (with_reducible refine Below.drew ?_) | (with_reducible refine below_drewN ?_ _) | (with_reducible refine below_iterAt ?_ ?_ _ _) | (with_reducible refine below_iter ?_ ?_ _ _) | (with_reducible refine Below.alloc ?_ ?_ _) | (with_reducible refine Below.setCell ?_ ?_ _) | (with_reducible refine Below.trans ?_ (Below.mono (by assumption) ?_)) | (simp only [sz_alloc, sz_set, sz_drew, sz_drewN, sz_iterAt, sz_iter] at *; omega) | omega | (simp; done) | (simp; omega) | (apply Below.size; assumption) | (simp only [sz_drew, sz_drewN]; apply Below.size; assumption) | (refine Nat.le_trans ?_ (Below.size (by assumption)))))⟩
    · have h256 : t.size ≤ 256 := H2.out rfl
      obtain ⟨R, hR⟩ : ∃ R : ByteArray, ⟨(quoL t.data.toList).toArray⟩ = R := ⟨_, rfl⟩
      have hV : (⟨(valL ⟨2, n, s, t, i⟩).toArray⟩ : ByteArray) = R := hR
      rw [hV]
      have HR := Lib.hid hR
      clear hR hV
      go_enter Tryz.func12, Tryz.ntmps12
      go_wp2_with fail
      refine (rSound_any ⟨2, n, s, t, i⟩ _ hv).mono ?_
      rintro e w1 ⟨rfl, hb1⟩
      rw [hs]
      clear hs
      obtain ⟨hc1, hf1⟩ := bcell hb1
      have hz1 := hb1.size
      try simp at hz1
      have q1_0 := fun o => hc1 (w.heap.size) o (by first | omega | (simp only [sz_alloc, sz_set, sz_drew, sz_drewN, sz_iterAt, sz_iter] at *; omega) | (simp; done) | (simp; omega) | (simp at *; omega))
      have l1_0 : w.heap.size < w1.heap.size := by omega
      have r1_0 := fun o => hf1 (w.heap.size) o (by first | omega | (simp only [sz_alloc, sz_set, sz_drew, sz_drewN, sz_iterAt, sz_iter] at *; omega) | (simp; done) | (simp; omega) | (simp at *; omega))
      clear hc1 hf1
      go_wp2_with fail
      refine (quoted_any t _ (by omega)).mono ?_
      rintro e w2 ⟨rfl, hb2⟩
      rw [HR.out]
      go_wp2_with fail
      go_ret2
      exact ⟨rfl, (by repeat' (first | (with_reducible exact Below.refl _ _) | (with_reducible assumption) | (with_reducible refine Below.drew ?_) | (with_reducible refine below_drewN ?_ _) | (with_reducible refine below_iterAt ?_ ?_ _ _) | (with_reducible refine below_iter ?_ ?_ _ _) | (with_reducible refine Below.alloc ?_ ?_ _) | (with_reducible refine Below.setCell ?_ ?_ _) | (with_reducible refine Below.trans ?_ (Below.mono (by assumption) ?_)) | (simp only [sz_alloc, sz_set, sz_drew, sz_drewN, sz_iterAt, sz_iter] at *; omega) | omega | (simp; done) | (simp; omega) | (apply Below.size; assumption) | (simp only [sz_drew, sz_drewN]; apply Below.size; assumption) | (refine Nat.le_trans ?_ (Below.size (by assumption)))))⟩
    · have h01 := H3.out rfl
      obtain ⟨R, hR⟩ : ∃ R : ByteArray, ⟨(valL ⟨3, n, s, t, i⟩).toArray⟩ = R := ⟨_, rfl⟩
      have HR : Hid (R = if i = 1 then ⟨#[116, 114, 117, 101]⟩ else ⟨#[102, 97, 108, 115, 101]⟩) := Lib.hid (by
        rw [← hR]; unfold valL; dsimp only
        rw [if_neg (by decide), if_neg (by decide), if_pos rfl]
        split <;> rfl)
      rw [hR]
      clear hR H1 H2 H3 H4
      go_enter Tryz.func12, Tryz.ntmps12
      go_wp2_with fail
      refine (rSound_any ⟨3, n, s, t, i⟩ _ hv).mono ?_
      rintro e w1 ⟨rfl, hb1⟩
      rw [hs]
      clear hs
      have hv0 : True := trivial
      rcases h01 with h01 | h01
      · subst h01
        obtain ⟨hc1, hf1⟩ := bcell hb1
        have hz1 := hb1.size
        try simp at hz1
        have q1_0 := fun o => hc1 (w.heap.size) o (by first | omega | (simp only [sz_alloc, sz_set, sz_drew, sz_drewN, sz_iterAt, sz_iter] at *; omega) | (simp; done) | (simp; omega) | (simp at *; omega))
        have l1_0 : w.heap.size < w1.heap.size := by omega
        have r1_0 := fun o => hf1 (w.heap.size) o (by first | omega | (simp only [sz_alloc, sz_set, sz_drew, sz_drewN, sz_iterAt, sz_iter] at *; omega) | (simp; done) | (simp; omega) | (simp at *; omega))
        clear hc1 hf1
        go_wp2_with fail
        go_ret2
        exact ⟨by rw [show R = _ from HR.out.trans (if_neg (by decide))]; rfl, (by repeat' (first | (with_reducible exact Below.refl _ _) | (with_reducible assumption) | (with_reducible refine Below.drew ?_) | (with_reducible refine below_drewN ?_ _) | (with_reducible refine below_iterAt ?_ ?_ _ _) | (with_reducible refine below_iter ?_ ?_ _ _) | (with_reducible refine Below.alloc ?_ ?_ _) | (with_reducible refine Below.setCell ?_ ?_ _) | (with_reducible refine Below.trans ?_ (Below.mono (by assumption) ?_)) | (simp only [sz_alloc, sz_set, sz_drew, sz_drewN, sz_iterAt, sz_iter] at *; omega) | omega | (simp; done) | (simp; omega) | (apply Below.size; assumption) | (simp only [sz_drew, sz_drewN]; apply Below.size; assumption) | (refine Nat.le_trans ?_ (Below.size (by assumption)))))⟩
      · subst h01
        obtain ⟨hc1, hf1⟩ := bcell hb1
        have hz1 := hb1.size
        try simp at hz1
        have q1_0 := fun o => hc1 (w.heap.size) o (by first | omega | (simp only [sz_alloc, sz_set, sz_drew, sz_drewN, sz_iterAt, sz_iter] at *; omega) | (simp; done) | (simp; omega) | (simp at *; omega))
        have l1_0 : w.heap.size < w1.heap.size := by omega
        have r1_0 := fun o => hf1 (w.heap.size) o (by first | omega | (simp only [sz_alloc, sz_set, sz_drew, sz_drewN, sz_iterAt, sz_iter] at *; omega) | (simp; done) | (simp; omega) | (simp at *; omega))
        clear hc1 hf1
        go_wp2_with fail
        go_ret2
        exact ⟨by rw [show R = _ from HR.out.trans (if_pos (by decide))]; rfl, (by repeat' (first | (with_reducible exact Below.refl _ _) | (with_reducible assumption) | (with_reducible refine Below.drew ?_) | (with_reducible refine below_drewN ?_ _) | (with_reducible refine below_iterAt ?_ ?_ _ _) | (with_reducible refine below_iter ?_ ?_ _ _) | (with_reducible refine Below.alloc ?_ ?_ _) | (with_reducible refine Below.setCell ?_ ?_ _) | (with_reducible refine Below.trans ?_ (Below.mono (by assumption) ?_)) | (simp only [sz_alloc, sz_set, sz_drew, sz_drewN, sz_iterAt, sz_iter] at *; omega) | omega | (simp; done) | (simp; omega) | (apply Below.size; assumption) | (simp only [sz_drew, sz_drewN]; apply Below.size; assumption) | (refine Nat.le_trans ?_ (Below.size (by assumption)))))⟩
    · have h4 := H4.out rfl
      have hdt : dayRes i = .tuple #[.string ⟨(dayL i).toArray⟩, .int .i64 0] := by unfold dayRes; rw [if_pos h4]
      obtain ⟨R, hR⟩ : ∃ R : ByteArray, ⟨(dayL i).toArray⟩ = R := ⟨_, rfl⟩
      rw [hR] at hdt
      have hRs : R.size = 10 := by rw [← hR, ba_size]; exact dayL_len h4.1 h4.2 (date_of h4.1 h4.2)
      have HV : Hid ((⟨#[64, 34]⟩ : ByteArray) ++ R ++ ⟨#[34]⟩ = ⟨(valL ⟨4, n, s, t, i⟩).toArray⟩) := Lib.hid (by
        rw [← hR, show (⟨#[64, 34]⟩ : ByteArray) = ⟨[64, 34].toArray⟩ from rfl, show (⟨#[34]⟩ : ByteArray) = ⟨[34].toArray⟩ from rfl, ba_append, ba_append]; rfl)
      have o1 : ¬ 9223372036854775807 < 2 + R.size := by omega
      have o2 : ¬ 9223372036854775807 < 2 + R.size + 1 := by omega
      have HDT := Lib.hid hdt
      clear hdt hR hRs h4
      go_enter Tryz.func12, Tryz.ntmps12
      go_wp2_with fail
      refine (rSound_any ⟨4, n, s, t, i⟩ _ hv).mono ?_
      rintro e w1 ⟨rfl, hb1⟩
      rw [hs]
      clear hs
      obtain ⟨hc1, hf1⟩ := bcell hb1
      have hz1 := hb1.size
      try simp at hz1
      have q1_0 := fun o => hc1 (w.heap.size) o (by first | omega | (simp only [sz_alloc, sz_set, sz_drew, sz_drewN, sz_iterAt, sz_iter] at *; omega) | (simp; done) | (simp; omega) | (simp at *; omega))
      have l1_0 : w.heap.size < w1.heap.size := by omega
      have r1_0 := fun o => hf1 (w.heap.size) o (by first | omega | (simp only [sz_alloc, sz_set, sz_drew, sz_drewN, sz_iterAt, sz_iter] at *; omega) | (simp; done) | (simp; omega) | (simp at *; omega))
      clear hc1 hf1
      go_wp2_with fail
      refine (rdText_any i _).mono ?_
      rintro e w2 ⟨rfl, hb2⟩
      rw [HDT.out]
      go_wp2_with fail
      go_ret2
      exact ⟨by rw [← HV.out]; rfl, (by repeat' (first | (with_reducible exact Below.refl _ _) | (with_reducible assumption) | (with_reducible refine Below.drew ?_) | (with_reducible refine below_drewN ?_ _) | (with_reducible refine below_iterAt ?_ ?_ _ _) | (with_reducible refine below_iter ?_ ?_ _ _) | (with_reducible refine Below.alloc ?_ ?_ _) | (with_reducible refine Below.setCell ?_ ?_ _) | (with_reducible refine Below.trans ?_ (Below.mono (by assumption) ?_)) | (simp only [sz_alloc, sz_set, sz_drew, sz_drewN, sz_iterAt, sz_iter] at *; omega) | omega | (simp; done) | (simp; omega) | (apply Below.size; assumption) | (simp only [sz_drew, sz_drewN]; apply Below.size; assumption) | (refine Nat.le_trans ?_ (Below.size (by assumption)))))⟩

set_option maxRecDepth 100000 in
set_option maxHeartbeats 6400000 in
theorem vText_any (v : Vl) (w : World) (hv : v.wf) (hE : EnvP w) :
    Calls Tryz.prog 11 #[.agg #[.int .i64 v.k, .int .i64 v.n, .int .i64 v.s, .string v.t, .int .i64 v.i]] w fun e w' => e = .returned (txtRes v) ∧ Below w.heap.size w w' := by
  cases hs : sndB v
  · rw [txtRes_no hs]
    go_enter Tryz.func11, Tryz.ntmps11
    go_wp2_with fail
    refine (vSound_any v _ hv (hE.env.below (by repeat' (first | (with_reducible exact Below.refl _ _) | (with_reducible assumption) | (with_reducible refine Below.drew ?_) | (with_reducible refine below_drewN ?_ _) | (with_reducible refine below_iterAt ?_ ?_ _ _) | (with_reducible refine below_iter ?_ ?_ _ _) | (with_reducible refine Below.alloc ?_ ?_ _) | (with_reducible refine Below.setCell ?_ ?_ _) | (with_reducible refine Below.trans ?_ (Below.mono (by assumption) ?_)) | (simp only [sz_alloc, sz_set, sz_drew, sz_drewN, sz_iterAt, sz_iter] at *; omega) | omega | (simp; done) | (simp; omega) | (apply Below.size; assumption) | (simp only [sz_drew, sz_drewN]; apply Below.size; assumption) | (refine Nat.le_trans ?_ (Below.size (by assumption))))))).mono ?_
    rintro e w1 ⟨rfl, hb1⟩
    rw [hs]
    clear hs
    go_wp2_with fail
    go_ret2
    exact ⟨rfl, (by repeat' (first | (with_reducible exact Below.refl _ _) | (with_reducible assumption) | (with_reducible refine Below.drew ?_) | (with_reducible refine below_drewN ?_ _) | (with_reducible refine below_iterAt ?_ ?_ _ _) | (with_reducible refine below_iter ?_ ?_ _ _) | (with_reducible refine Below.alloc ?_ ?_ _) | (with_reducible refine Below.setCell ?_ ?_ _) | (with_reducible refine Below.trans ?_ (Below.mono (by assumption) ?_)) | (simp only [sz_alloc, sz_set, sz_drew, sz_drewN, sz_iterAt, sz_iter] at *; omega) | omega | (simp; done) | (simp; omega) | (apply Below.size; assumption) | (simp only [sz_drew, sz_drewN]; apply Below.size; assumption) | (refine Nat.le_trans ?_ (Below.size (by assumption)))))⟩
  · have hk := snd_k hs
    rw [txtRes_yes hs]
    have H3 := Lib.hid (fun h => snd3_i hs h)
    have H4 := Lib.hid (fun h => snd4_i hs h)
    have H2 := Lib.hid (fun h => snd2_size hs h)
    have H1 := Lib.hid (fun h => snd1_dec hs h)
    obtain ⟨k, n, s, t, i⟩ := v
    dsimp only at hk H1 H2 H3 H4 ⊢
    rcases hk with rfl | rfl | rfl | rfl | rfl
    · skip
      go_enter Tryz.func11, Tryz.ntmps11
      go_wp2_with fail
      refine (vSound_any ⟨0, n, s, t, i⟩ _ hv (hE.env.below (by repeat' (first | (with_reducible exact Below.refl _ _) | (with_reducible assumption) | (with_reducible refine Below.drew ?_) | (with_reducible refine below_drewN ?_ _) | (with_reducible refine below_iterAt ?_ ?_ _ _) | (with_reducible refine below_iter ?_ ?_ _ _) | (with_reducible refine Below.alloc ?_ ?_ _) | (with_reducible refine Below.setCell ?_ ?_ _) | (with_reducible refine Below.trans ?_ (Below.mono (by assumption) ?_)) | (simp only [sz_alloc, sz_set, sz_drew, sz_drewN, sz_iterAt, sz_iter] at *; omega) | omega | (simp; done) | (simp; omega) | (apply Below.size; assumption) | (simp only [sz_drew, sz_drewN]; apply Below.size; assumption) | (refine Nat.le_trans ?_ (Below.size (by assumption))))))).mono ?_
      rintro e w1 ⟨rfl, hb1⟩
      rw [hs]
      clear hs
      obtain ⟨hc1, hf1⟩ := bcell hb1
      have hz1 := hb1.size
      try simp at hz1
      have q1_0 := fun o => hc1 (w.heap.size) o (by first | omega | (simp only [sz_alloc, sz_set, sz_drew, sz_drewN, sz_iterAt, sz_iter] at *; omega) | (simp; done) | (simp; omega) | (simp at *; omega))
      have l1_0 : w.heap.size < w1.heap.size := by omega
      have r1_0 := fun o => hf1 (w.heap.size) o (by first | omega | (simp only [sz_alloc, sz_set, sz_drew, sz_drewN, sz_iterAt, sz_iter] at *; omega) | (simp; done) | (simp; omega) | (simp at *; omega))
      clear hc1 hf1
      go_wp2_with fail
      go_ret2
      exact ⟨rfl, (by repeat' (first | (with_reducible exact Below.refl _ _) | (with_reducible assumption) | (with_reducible refine Below.drew ?_) | (with_reducible refine below_drewN ?_ _) | (with_reducible refine below_iterAt ?_ ?_ _ _) | (with_reducible refine below_iter ?_ ?_ _ _) | (with_reducible refine Below.alloc ?_ ?_ _) | (with_reducible refine Below.setCell ?_ ?_ _) | (with_reducible refine Below.trans ?_ (Below.mono (by assumption) ?_)) | (simp only [sz_alloc, sz_set, sz_drew, sz_drewN, sz_iterAt, sz_iter] at *; omega) | omega | (simp; done) | (simp; omega) | (apply Below.size; assumption) | (simp only [sz_drew, sz_drewN]; apply Below.size; assumption) | (refine Nat.le_trans ?_ (Below.size (by assumption)))))⟩
    · have hdt : decTxtRes n s = .tuple #[.string ⟨(decL n s).toArray⟩, .int .i64 0] := by unfold decTxtRes; rw [H1.out rfl]; rfl
      obtain ⟨R, hR⟩ : ∃ R : ByteArray, ⟨(decL n s).toArray⟩ = R := ⟨_, rfl⟩
      have hV : (⟨(valL ⟨1, n, s, t, i⟩).toArray⟩ : ByteArray) = R := hR
      rw [hV]
      rw [hR] at hdt
      have HDT := Lib.hid hdt
      clear hdt hR hV
      go_enter Tryz.func11, Tryz.ntmps11
      go_wp2_with fail
      refine (vSound_any ⟨1, n, s, t, i⟩ _ hv (hE.env.below (by repeat' (first | (with_reducible exact Below.refl _ _) | (with_reducible assumption) | (with_reducible refine Below.drew ?_) | (with_reducible refine below_drewN ?_ _) | (with_reducible refine below_iterAt ?_ ?_ _ _) | (with_reducible refine below_iter ?_ ?_ _ _) | (with_reducible refine Below.alloc ?_ ?_ _) | (with_reducible refine Below.setCell ?_ ?_ _) | (with_reducible refine Below.trans ?_ (Below.mono (by assumption) ?_)) | (simp only [sz_alloc, sz_set, sz_drew, sz_drewN, sz_iterAt, sz_iter] at *; omega) | omega | (simp; done) | (simp; omega) | (apply Below.size; assumption) | (simp only [sz_drew, sz_drewN]; apply Below.size; assumption) | (refine Nat.le_trans ?_ (Below.size (by assumption))))))).mono ?_
      rintro e w1 ⟨rfl, hb1⟩
      rw [hs]
      clear hs
      obtain ⟨hc1, hf1⟩ := bcell hb1
      have hz1 := hb1.size
      try simp at hz1
      have q1_0 := fun o => hc1 (w.heap.size) o (by first | omega | (simp only [sz_alloc, sz_set, sz_drew, sz_drewN, sz_iterAt, sz_iter] at *; omega) | (simp; done) | (simp; omega) | (simp at *; omega))
      have l1_0 : w.heap.size < w1.heap.size := by omega
      have r1_0 := fun o => hf1 (w.heap.size) o (by first | omega | (simp only [sz_alloc, sz_set, sz_drew, sz_drewN, sz_iterAt, sz_iter] at *; omega) | (simp; done) | (simp; omega) | (simp at *; omega))
      clear hc1 hf1
      go_wp2_with fail
      refine (decText_any n s _ hv.n hv.s (hE.below (by repeat' (first | (with_reducible exact Below.refl _ _) | (with_reducible assumption) | (with_reducible refine Below.drew ?_) | (with_reducible refine below_drewN ?_ _) | (with_reducible refine below_iterAt ?_ ?_ _ _) | (with_reducible refine below_iter ?_ ?_ _ _) | (with_reducible refine Below.alloc ?_ ?_ _) | (with_reducible refine Below.setCell ?_ ?_ _) | (with_reducible refine Below.trans ?_ (Below.mono (by assumption) ?_)) | (simp only [sz_alloc, sz_set, sz_drew, sz_drewN, sz_iterAt, sz_iter] at *; omega) | omega | (simp; done) | (simp; omega) | (apply Below.size; assumption) | (simp only [sz_drew, sz_drewN]; apply Below.size; assumption) | (refine Nat.le_trans ?_ (Below.size (by assumption))))))).mono ?_
      rintro e w2 ⟨rfl, hb2⟩
      rw [HDT.out]
      go_wp2_with fail
      go_ret2
      exact ⟨rfl, (by repeat' (first | (with_reducible exact Below.refl _ _) | (with_reducible assumption) | (with_reducible refine Below.drew ?_) | (with_reducible refine below_drewN ?_ _) | (with_reducible refine below_iterAt ?_ ?_ _ _) | (with_reducible refine below_iter ?_ ?_ _ _) | (with_reducible refine Below.alloc ?_ ?_ _) | (with_reducible refine Below.setCell ?_ ?_ _) | (with_reducible refine Below.trans ?_ (Below.mono (by assumption) ?_)) | (simp only [sz_alloc, sz_set, sz_drew, sz_drewN, sz_iterAt, sz_iter] at *; omega) | omega | (simp; done) | (simp; omega) | (apply Below.size; assumption) | (simp only [sz_drew, sz_drewN]; apply Below.size; assumption) | (refine Nat.le_trans ?_ (Below.size (by assumption)))))⟩
    · have h256 : t.size ≤ 256 := H2.out rfl
      obtain ⟨R, hR⟩ : ∃ R : ByteArray, ⟨(escL t.data.toList).toArray⟩ = R := ⟨_, rfl⟩
      have hRs : R.size ≤ 1000 := by rw [← hR, ba_size, escL_length]; have := spN_le t.data.toList; have e : t.data.toList.length = t.size := rfl; omega
      have HV : Hid ((⟨#[34]⟩ : ByteArray) ++ R ++ ⟨#[34]⟩ = ⟨(valL ⟨2, n, s, t, i⟩).toArray⟩) := Lib.hid (by
        rw [← hR, show (⟨#[34]⟩ : ByteArray) = ⟨[34].toArray⟩ from rfl, ba_append, ba_append]; rfl)
      have o1 : ¬ 9223372036854775807 < 1 + R.size := by omega
      have o2 : ¬ 9223372036854775807 < 1 + R.size + 1 := by omega
      have HR := Lib.hid hR
      clear hR hRs
      go_enter Tryz.func11, Tryz.ntmps11
      go_wp2_with fail
      refine (vSound_any ⟨2, n, s, t, i⟩ _ hv (hE.env.below (by repeat' (first | (with_reducible exact Below.refl _ _) | (with_reducible assumption) | (with_reducible refine Below.drew ?_) | (with_reducible refine below_drewN ?_ _) | (with_reducible refine below_iterAt ?_ ?_ _ _) | (with_reducible refine below_iter ?_ ?_ _ _) | (with_reducible refine Below.alloc ?_ ?_ _) | (with_reducible refine Below.setCell ?_ ?_ _) | (with_reducible refine Below.trans ?_ (Below.mono (by assumption) ?_)) | (simp only [sz_alloc, sz_set, sz_drew, sz_drewN, sz_iterAt, sz_iter] at *; omega) | omega | (simp; done) | (simp; omega) | (apply Below.size; assumption) | (simp only [sz_drew, sz_drewN]; apply Below.size; assumption) | (refine Nat.le_trans ?_ (Below.size (by assumption))))))).mono ?_
      rintro e w1 ⟨rfl, hb1⟩
      rw [hs]
      clear hs
      obtain ⟨hc1, hf1⟩ := bcell hb1
      have hz1 := hb1.size
      try simp at hz1
      have q1_0 := fun o => hc1 (w.heap.size) o (by first | omega | (simp only [sz_alloc, sz_set, sz_drew, sz_drewN, sz_iterAt, sz_iter] at *; omega) | (simp; done) | (simp; omega) | (simp at *; omega))
      have l1_0 : w.heap.size < w1.heap.size := by omega
      have r1_0 := fun o => hf1 (w.heap.size) o (by first | omega | (simp only [sz_alloc, sz_set, sz_drew, sz_drewN, sz_iterAt, sz_iter] at *; omega) | (simp; done) | (simp; omega) | (simp at *; omega))
      clear hc1 hf1
      go_wp2_with fail
      have kk0 : w1.cell? ⟨w.heap.size, 3, none⟩ = some (.string t) := (by first | (simp [go_sem]; done) | (simp [go_sem, *]; done))
      go_region_held3 (fun w' => Below w1.heap.size w1 w' ∧ w'.cell? ⟨w.heap.size, 3, none⟩ = some (.string t)) ((refine and_keep ?_ (fun hk => keep_cell hk l1_0 kk0); exact (by repeat' (first | (with_reducible exact Below.refl _ _) | (with_reducible assumption) | (with_reducible refine Below.drew ?_) | (with_reducible refine below_drewN ?_ _) | (with_reducible refine below_iterAt ?_ ?_ _ _) | (with_reducible refine below_iter ?_ ?_ _ _) | (with_reducible refine Below.alloc ?_ ?_ _) | (with_reducible refine Below.setCell ?_ ?_ _) | (with_reducible refine Below.trans ?_ (Below.mono (by assumption) ?_)) | (simp only [sz_alloc, sz_set, sz_drew, sz_drewN, sz_iterAt, sz_iter] at *; omega) | omega | (simp; done) | (simp; omega) | (apply Below.size; assumption) | (simp only [sz_drew, sz_drewN]; apply Below.size; assumption) | (refine Nat.le_trans ?_ (Below.size (by assumption)))))))
        (first
          | (go_at_call 23; refine (newRpl_any _ _ (by simp) (by go_simp) (by go_simp) (by go_simp) (by go_simp)).mono ?_; rintro e w' ⟨b, rfl, hbb, hnr, hb'⟩)
          | (go_at_call 24; refine (rplReplace_any _ t _ hnr (by omega)).mono ?_; rintro e w'' ⟨rfl, hb''⟩; rw [HR.out]))

      go_wp2_with fail
      go_ret2
      exact ⟨by rw [← HV.out]; rfl, (by repeat' (first | (with_reducible exact Below.refl _ _) | (with_reducible assumption) | (with_reducible refine Below.drew ?_) | (with_reducible refine below_drewN ?_ _) | (with_reducible refine below_iterAt ?_ ?_ _ _) | (with_reducible refine below_iter ?_ ?_ _ _) | (with_reducible refine Below.alloc ?_ ?_ _) | (with_reducible refine Below.setCell ?_ ?_ _) | (with_reducible refine Below.trans ?_ (Below.mono (by assumption) ?_)) | (simp only [sz_alloc, sz_set, sz_drew, sz_drewN, sz_iterAt, sz_iter] at *; omega) | omega | (simp; done) | (simp; omega) | (apply Below.size; assumption) | (simp only [sz_drew, sz_drewN]; apply Below.size; assumption) | (refine Nat.le_trans ?_ (Below.size (by assumption)))))⟩
    · have h01 := H3.out rfl
      obtain ⟨R, hR⟩ : ∃ R : ByteArray, ⟨(valL ⟨3, n, s, t, i⟩).toArray⟩ = R := ⟨_, rfl⟩
      have HR : Hid (R = if i = 1 then ⟨#[116, 114, 117, 101]⟩ else ⟨#[102, 97, 108, 115, 101]⟩) := Lib.hid (by
        rw [← hR]; unfold valL; dsimp only
        rw [if_neg (by decide), if_neg (by decide), if_pos rfl]
        split <;> rfl)
      rw [hR]
      clear hR H1 H2 H3 H4
      go_enter Tryz.func11, Tryz.ntmps11
      go_wp2_with fail
      refine (vSound_any ⟨3, n, s, t, i⟩ _ hv (hE.env.below (by repeat' (first | (with_reducible exact Below.refl _ _) | (with_reducible assumption) | (with_reducible refine Below.drew ?_) | (with_reducible refine below_drewN ?_ _) | (with_reducible refine below_iterAt ?_ ?_ _ _) | (with_reducible refine below_iter ?_ ?_ _ _) | (with_reducible refine Below.alloc ?_ ?_ _) | (with_reducible refine Below.setCell ?_ ?_ _) | (with_reducible refine Below.trans ?_ (Below.mono (by assumption) ?_)) | (simp only [sz_alloc, sz_set, sz_drew, sz_drewN, sz_iterAt, sz_iter] at *; omega) | omega | (simp; done) | (simp; omega) | (apply Below.size; assumption) | (simp only [sz_drew, sz_drewN]; apply Below.size; assumption) | (refine Nat.le_trans ?_ (Below.size (by assumption))))))).mono ?_
      rintro e w1 ⟨rfl, hb1⟩
      rw [hs]
      clear hs
      have hv0 : True := trivial
      rcases h01 with h01 | h01
      · subst h01
        obtain ⟨hc1, hf1⟩ := bcell hb1
        have hz1 := hb1.size
        try simp at hz1
        have q1_0 := fun o => hc1 (w.heap.size) o (by first | omega | (simp only [sz_alloc, sz_set, sz_drew, sz_drewN, sz_iterAt, sz_iter] at *; omega) | (simp; done) | (simp; omega) | (simp at *; omega))
        have l1_0 : w.heap.size < w1.heap.size := by omega
        have r1_0 := fun o => hf1 (w.heap.size) o (by first | omega | (simp only [sz_alloc, sz_set, sz_drew, sz_drewN, sz_iterAt, sz_iter] at *; omega) | (simp; done) | (simp; omega) | (simp at *; omega))
        clear hc1 hf1
        go_wp2_with fail
        go_ret2
        exact ⟨by rw [show R = _ from HR.out.trans (if_neg (by decide))]; rfl, (by repeat' (first | (with_reducible exact Below.refl _ _) | (with_reducible assumption) | (with_reducible refine Below.drew ?_) | (with_reducible refine below_drewN ?_ _) | (with_reducible refine below_iterAt ?_ ?_ _ _) | (with_reducible refine below_iter ?_ ?_ _ _) | (with_reducible refine Below.alloc ?_ ?_ _) | (with_reducible refine Below.setCell ?_ ?_ _) | (with_reducible refine Below.trans ?_ (Below.mono (by assumption) ?_)) | (simp only [sz_alloc, sz_set, sz_drew, sz_drewN, sz_iterAt, sz_iter] at *; omega) | omega | (simp; done) | (simp; omega) | (apply Below.size; assumption) | (simp only [sz_drew, sz_drewN]; apply Below.size; assumption) | (refine Nat.le_trans ?_ (Below.size (by assumption)))))⟩
      · subst h01
        obtain ⟨hc1, hf1⟩ := bcell hb1
        have hz1 := hb1.size
        try simp at hz1
        have q1_0 := fun o => hc1 (w.heap.size) o (by first | omega | (simp only [sz_alloc, sz_set, sz_drew, sz_drewN, sz_iterAt, sz_iter] at *; omega) | (simp; done) | (simp; omega) | (simp at *; omega))
        have l1_0 : w.heap.size < w1.heap.size := by omega
        have r1_0 := fun o => hf1 (w.heap.size) o (by first | omega | (simp only [sz_alloc, sz_set, sz_drew, sz_drewN, sz_iterAt, sz_iter] at *; omega) | (simp; done) | (simp; omega) | (simp at *; omega))
        clear hc1 hf1
        go_wp2_with fail
        go_ret2
        exact ⟨by rw [show R = _ from HR.out.trans (if_pos (by decide))]; rfl, (by repeat' (first | (with_reducible exact Below.refl _ _) | (with_reducible assumption) | (with_reducible refine Below.drew ?_) | (with_reducible refine below_drewN ?_ _) | (with_reducible refine below_iterAt ?_ ?_ _ _) | (with_reducible refine below_iter ?_ ?_ _ _) | (with_reducible refine Below.alloc ?_ ?_ _) | (with_reducible refine Below.setCell ?_ ?_ _) | (with_reducible refine Below.trans ?_ (Below.mono (by assumption) ?_)) | (simp only [sz_alloc, sz_set, sz_drew, sz_drewN, sz_iterAt, sz_iter] at *; omega) | omega | (simp; done) | (simp; omega) | (apply Below.size; assumption) | (simp only [sz_drew, sz_drewN]; apply Below.size; assumption) | (refine Nat.le_trans ?_ (Below.size (by assumption)))))⟩
    · have h4 := H4.out rfl
      have hdt : dayRes i = .tuple #[.string ⟨(dayL i).toArray⟩, .int .i64 0] := by unfold dayRes; rw [if_pos h4]
      obtain ⟨R, hR⟩ : ∃ R : ByteArray, ⟨(dayL i).toArray⟩ = R := ⟨_, rfl⟩
      rw [hR] at hdt
      have hRs : R.size = 10 := by rw [← hR, ba_size]; exact dayL_len h4.1 h4.2 (date_of h4.1 h4.2)
      have HV : Hid ((⟨#[64, 34]⟩ : ByteArray) ++ R ++ ⟨#[34]⟩ = ⟨(valL ⟨4, n, s, t, i⟩).toArray⟩) := Lib.hid (by
        rw [← hR, show (⟨#[64, 34]⟩ : ByteArray) = ⟨[64, 34].toArray⟩ from rfl, show (⟨#[34]⟩ : ByteArray) = ⟨[34].toArray⟩ from rfl, ba_append, ba_append]; rfl)
      have o1 : ¬ 9223372036854775807 < 2 + R.size := by omega
      have o2 : ¬ 9223372036854775807 < 2 + R.size + 1 := by omega
      have HDT := Lib.hid hdt
      clear hdt hR hRs h4
      go_enter Tryz.func11, Tryz.ntmps11
      go_wp2_with fail
      refine (vSound_any ⟨4, n, s, t, i⟩ _ hv (hE.env.below (by repeat' (first | (with_reducible exact Below.refl _ _) | (with_reducible assumption) | (with_reducible refine Below.drew ?_) | (with_reducible refine below_drewN ?_ _) | (with_reducible refine below_iterAt ?_ ?_ _ _) | (with_reducible refine below_iter ?_ ?_ _ _) | (with_reducible refine Below.alloc ?_ ?_ _) | (with_reducible refine Below.setCell ?_ ?_ _) | (with_reducible refine Below.trans ?_ (Below.mono (by assumption) ?_)) | (simp only [sz_alloc, sz_set, sz_drew, sz_drewN, sz_iterAt, sz_iter] at *; omega) | omega | (simp; done) | (simp; omega) | (apply Below.size; assumption) | (simp only [sz_drew, sz_drewN]; apply Below.size; assumption) | (refine Nat.le_trans ?_ (Below.size (by assumption))))))).mono ?_
      rintro e w1 ⟨rfl, hb1⟩
      rw [hs]
      clear hs
      obtain ⟨hc1, hf1⟩ := bcell hb1
      have hz1 := hb1.size
      try simp at hz1
      have q1_0 := fun o => hc1 (w.heap.size) o (by first | omega | (simp only [sz_alloc, sz_set, sz_drew, sz_drewN, sz_iterAt, sz_iter] at *; omega) | (simp; done) | (simp; omega) | (simp at *; omega))
      have l1_0 : w.heap.size < w1.heap.size := by omega
      have r1_0 := fun o => hf1 (w.heap.size) o (by first | omega | (simp only [sz_alloc, sz_set, sz_drew, sz_drewN, sz_iterAt, sz_iter] at *; omega) | (simp; done) | (simp; omega) | (simp at *; omega))
      clear hc1 hf1
      go_wp2_with fail
      refine (dText_any i _ (hE.below (by repeat' (first | (with_reducible exact Below.refl _ _) | (with_reducible assumption) | (with_reducible refine Below.drew ?_) | (with_reducible refine below_drewN ?_ _) | (with_reducible refine below_iterAt ?_ ?_ _ _) | (with_reducible refine below_iter ?_ ?_ _ _) | (with_reducible refine Below.alloc ?_ ?_ _) | (with_reducible refine Below.setCell ?_ ?_ _) | (with_reducible refine Below.trans ?_ (Below.mono (by assumption) ?_)) | (simp only [sz_alloc, sz_set, sz_drew, sz_drewN, sz_iterAt, sz_iter] at *; omega) | omega | (simp; done) | (simp; omega) | (apply Below.size; assumption) | (simp only [sz_drew, sz_drewN]; apply Below.size; assumption) | (refine Nat.le_trans ?_ (Below.size (by assumption))))))).mono ?_
      rintro e w2 ⟨rfl, hb2⟩
      rw [HDT.out]
      go_wp2_with fail
      go_ret2
      exact ⟨by rw [← HV.out]; rfl, (by repeat' (first | (with_reducible exact Below.refl _ _) | (with_reducible assumption) | (with_reducible refine Below.drew ?_) | (with_reducible refine below_drewN ?_ _) | (with_reducible refine below_iterAt ?_ ?_ _ _) | (with_reducible refine below_iter ?_ ?_ _ _) | (with_reducible refine Below.alloc ?_ ?_ _) | (with_reducible refine Below.setCell ?_ ?_ _) | (with_reducible refine Below.trans ?_ (Below.mono (by assumption) ?_)) | (simp only [sz_alloc, sz_set, sz_drew, sz_drewN, sz_iterAt, sz_iter] at *; omega) | omega | (simp; done) | (simp; omega) | (apply Below.size; assumption) | (simp only [sz_drew, sz_drewN]; apply Below.size; assumption) | (refine Nat.le_trans ?_ (Below.size (by assumption)))))⟩
end Go.Proofs.YthicilfhnakhmaaGreatDoor
