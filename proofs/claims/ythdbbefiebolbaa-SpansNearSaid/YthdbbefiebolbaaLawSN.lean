/- SpansNear, walked: it gives true. -/
import Derived.Test.YthdbbefiebolbaaSpansK
import Derived.Test.YthdbbefiebolbaaSpansM
import Derived.Test.YthdbbefiebolbaaSpansW
import Derived.Deep.DrawnRows
import Derived.Test.YthdbbefiebolbaaSpansQ
set_option linter.unusedSimpArgs false
set_option linter.unusedVariables false
namespace Go.Proofs.Ythdbbefiebolbaa
open Go.RowKit Go.Sort
attribute [local go_sem ↓] Go.wp_at_zero Go.wp_at_succ

theorem ownF_bad {n : Int} {s : Sp} {r : List Sp} {b : Option Int} (h : s.2 < s.1) : ownF n (s :: r) b = ownF n r b := by
  cases b with
  | none => exact (show ownF n (s :: r) none = ownF n r (if s.2 < s.1 then none else some (clampS s n)) from rfl).trans (by rw [if_pos h])
  | some m => exact (show ownF n (s :: r) (some m) = ownF n r (if s.2 < s.1 then some m else if farI (clampS s n) n < farI m n ∨ (farI (clampS s n) n = farI m n ∧ clampS s n < m) then some (clampS s n) else some m) from rfl).trans (by rw [if_pos h])
def stepF (n : Int) (s : Sp) : Option Int → Option Int
  | none => some (clampS s n)
  | some m => if farI (clampS s n) n < farI m n ∨ (farI (clampS s n) n = farI m n ∧ clampS s n < m) then some (clampS s n) else some m
theorem ownF_ok {n : Int} {s : Sp} {r : List Sp} {b : Option Int} (h : ¬ s.2 < s.1) : ownF n (s :: r) b = ownF n r (stepF n s b) := by
  cases b with
  | none => exact (show ownF n (s :: r) none = ownF n r (if s.2 < s.1 then none else some (clampS s n)) from rfl).trans (by rw [if_neg h]; rfl)
  | some m => exact (show ownF n (s :: r) (some m) = ownF n r (if s.2 < s.1 then some m else if farI (clampS s n) n < farI m n ∨ (farI (clampS s n) n = farI m n ∧ clampS s n < m) then some (clampS s n) else some m) from rfl).trans (by rw [if_neg h]; rfl)
set_option maxRecDepth 100000 in
set_option maxHeartbeats 3200000 in
theorem lawN_any (xs : List Sp) (n : Int) (hn : IRng n) (A : Option Addr) (c : Nat) (w : World) (hc : xs.length ≤ c) (hr : RdL w 2 A (xs.map spC)) (hw : ∀ s ∈ xs, SpWf s) :
    Calls Try.prog 4 #[.slice A xs.length c, .int .i64 n] w fun e w' => e = .returned (.bool true) ∧ Below w.heap.size w w' := by
  obtain ⟨l, hl⟩ : ∃ l, xs.take 100 = l := ⟨_, rfl⟩
  have hfew := few_any xs A c w hc hr
  have hrl : RdL w 2 A (l.map spC) := by rw [← hl]; exact hr.take_ 100
  have hwl : ∀ s ∈ l, SpWf s := by rw [← hl]; exact fun s hs => hw s (List.mem_of_mem_take hs)
  have hll : l.length ≤ 100 := by rw [← hl, List.length_take]; omega
  rw [hl] at hfew
  have HFEW := Lib.hid hfew
  have HWL := Lib.hid hwl
  have HN := Lib.hid hn
  clear hfew hr hw hl hwl hn
  go_enter Try.func4, Try.ntmps4
  go_wp2_with fail
  refine HFEW.out.mono ?_
  rintro e w0 ⟨rfl, rfl⟩
  go_wp2_with fail
  refine (near0_any l n HN.out A c _ (hrl.below (by repeat' (first | (with_reducible exact Below.refl _ _) | (with_reducible assumption) | (with_reducible refine Below.drew ?_) | (with_reducible refine below_drewN ?_ _) | (with_reducible refine below_iterAt ?_ ?_ _ _) | (with_reducible refine below_iter ?_ ?_ _ _) | (with_reducible refine Below.alloc ?_ ?_ _) | (with_reducible refine Below.setCell ?_ ?_ _) | (with_reducible refine Below.trans ?_ (Below.mono (by assumption) ?_)) | (simp only [sz_alloc, sz_set, sz_drew, sz_drewN, sz_iterAt, sz_iter] at *; omega) | omega | (simp; done) | (simp; omega) | (apply Below.size; assumption) | (simp only [sz_drew, sz_drewN]; apply Below.size; assumption) | (refine Nat.le_trans ?_ (Below.size (by assumption)))))) HWL.out (by omega)).mono ?_
  rintro e w1 ⟨M, rfl, hM1, hM2, hb1⟩
  have hMe : M = ownF n l none := by
    have h := ownF_law n l
    cases hM : M with
    | none =>
      cases ho : ownF n l none with
      | none => rfl
      | some k => have := (h.2 k ho).1; rw [hM2 hM k] at this; cases this
    | some m =>
      cases ho : ownF n l none with
      | none => have := (hM1 m hM).1; rw [h.1 ho m] at this; cases this
      | some k => rw [(hM1 m hM).uniq (h.2 k ho) (fun _ => rfl)]
  have HM := Lib.hid hMe
  obtain ⟨mv, hmv⟩ : ∃ mv : Int, M.getD 0 = mv := ⟨_, rfl⟩
  obtain ⟨ev, hev⟩ : ∃ ev : Int, (if M.isSome = true then (0 : Int) else 16) = ev := ⟨_, rfl⟩
  rw [hmv, hev]
  have HMV := Lib.hid hmv
  have HEV := Lib.hid hev
  clear hM1 hM2 hMe hmv hev
  have hz1 := hb1.size
  go_wp2_with fail
  go_loopg [7, 8, 9] l.length (fun k sv bv iv wr => ∃ (i : Nat) (b : Option Int), i ≤ l.length ∧ l.length - i ≤ k ∧ sv = .bool b.isSome ∧ bv = .int .i64 (b.getD 0) ∧ iv = .int .i64 i ∧ Hid (∀ m, b = some m → IRng m) ∧ Hid (ownF n (l.drop i) b = ownF n l none) ∧ Below w1.heap.size w1 wr)
  case atStart => exact ⟨0, none, by omega, by omega, rfl, rfl, rfl, fun m h => (nomatch h), rfl, Below.refl _ _⟩
  case round =>
    obtain ⟨i, b, hi, hik, rfl, rfl, rfl, hbr, hinv, hbel⟩ := hrel
    have hsz := hbel.size
    by_cases hlt : i < l.length
    · obtain ⟨bJ, oJ, hBJ, hx⟩ := ((hrl.below hb1).below hbel).at_ hlt
      subst hBJ
      have hxw := HWL.out _ (List.getElem_mem hlt)
      have hdr : l.drop i = l[i]'hlt :: l.drop (i + 1) := List.drop_eq_getElem_cons hlt
      generalize l[i]'hlt = x at *
      rw [hdr] at hinv
      have y0 : wr.cell? ⟨bJ, oJ + i * 2, none⟩ = some (.int .i64 x.1) := hx.get 0 rfl
      have y1 : wr.cell? ⟨bJ, oJ + i * 2 + 1, none⟩ = some (.int .i64 x.2) := hx.get 1 rfl
      have i1 : (i : Int) < (l.length : Int) := by omega
      have i2 : (0 : Int) ≤ (i : Int) := by omega
      have HXR : Hid (IRng (clampS x n)) := clamp_rng hxw HN.out
      clear hx hdr hxw
      by_cases hbad : x.2 < x.1
      · have hn1 : Hid (ownF n (l.drop (i + 1)) b = ownF n l none) := by have := hinv.out; rw [ownF_bad hbad] at this; exact this
        go_wp2_with fail
        go_roundg (l.length - (i + 1))
        case measure => omega
        case rel => exact ⟨i + 1, b, by omega, by omega, rfl, rfl, by go_num, hbr, hn1, (by repeat' (first | (with_reducible exact Below.refl _ _) | (with_reducible assumption) | (with_reducible refine Below.drew ?_) | (with_reducible refine below_drewN ?_ _) | (with_reducible refine below_iterAt ?_ ?_ _ _) | (with_reducible refine below_iter ?_ ?_ _ _) | (with_reducible refine Below.alloc ?_ ?_ _) | (with_reducible refine Below.setCell ?_ ?_ _) | (with_reducible refine Below.trans ?_ (Below.mono (by assumption) ?_)) | (simp only [sz_alloc, sz_set, sz_drew, sz_drewN, sz_iterAt, sz_iter] at *; omega) | omega | (simp; done) | (simp; omega) | (apply Below.size; assumption) | (simp only [sz_drew, sz_drewN]; apply Below.size; assumption) | (refine Nat.le_trans ?_ (Below.size (by assumption)))))⟩
      · have hinv2 : Hid (ownF n (l.drop (i + 1)) (stepF n x b) = ownF n l none) := by have := hinv.out; rw [ownF_ok hbad] at this; exact this
        clear hinv
        have three : (n < x.1 ∧ clampS x n = x.1) ∨ (¬ n < x.1 ∧ x.2 < n ∧ clampS x n = x.2) ∨ (¬ n < x.1 ∧ ¬ x.2 < n ∧ clampS x n = n) := by unfold clampS; omega
        have hbad1 : ¬ x.2 < x.1 := hbad
        rcases three with ⟨c1, hcl⟩ | ⟨c1, c2, hcl⟩ | ⟨c1, c2, hcl⟩
        · have HCL := Lib.hid hcl
          clear hcl
          cases b with
          | none =>
            have hn1 : Hid (ownF n (l.drop (i + 1)) (some (x.1)) = ownF n l none) := by rw [← HCL.out]; exact hinv2.out
            go_wp2_with fail
            go_roundg (l.length - (i + 1))
            case measure => omega
            case rel => exact ⟨i + 1, some (x.1), by omega, by omega, rfl, rfl, by go_num, fun m h => by cases h; have := HXR.out; rw [HCL.out] at this; exact this, hn1, (by repeat' (first | (with_reducible exact Below.refl _ _) | (with_reducible assumption) | (with_reducible refine Below.drew ?_) | (with_reducible refine below_drewN ?_ _) | (with_reducible refine below_iterAt ?_ ?_ _ _) | (with_reducible refine below_iter ?_ ?_ _ _) | (with_reducible refine Below.alloc ?_ ?_ _) | (with_reducible refine Below.setCell ?_ ?_ _) | (with_reducible refine Below.trans ?_ (Below.mono (by assumption) ?_)) | (simp only [sz_alloc, sz_set, sz_drew, sz_drewN, sz_iterAt, sz_iter] at *; omega) | omega | (simp; done) | (simp; omega) | (apply Below.size; assumption) | (simp only [sz_drew, sz_drewN]; apply Below.size; assumption) | (refine Nat.le_trans ?_ (Below.size (by assumption)))))⟩
          | some m =>
            simp only [Option.getD_some, Option.isSome_some] at *
            obtain ⟨f1, hf1⟩ : ∃ f1, farI (x.1) n = f1 := ⟨_, rfl⟩
            obtain ⟨f2, hf2⟩ : ∃ f2, farI m n = f2 := ⟨_, rfl⟩
            have hn1 : Hid (ownF n (l.drop (i + 1)) (if f1 < f2 ∨ (f1 = f2 ∧ x.1 < m) then some (x.1) else some m) = ownF n l none) := by have := hinv2.out; rw [show stepF n x (some m) = if farI (clampS x n) n < farI m n ∨ (farI (clampS x n) n = farI m n ∧ clampS x n < m) then some (clampS x n) else some m from rfl, HCL.out, hf1, hf2] at this; exact this
            have HCR : Hid (IRng (x.1)) := by have := HXR.out; rw [HCL.out] at this; exact this
            have HMR : Hid (IRng m) := hbr.out m rfl
            have hg1 := fun W => far_any (x.1) n HCR.out HN.out W
            have hg2 := fun W => far_any m n HMR.out HN.out W
            rw [hf1] at hg1
            rw [hf2] at hg2
            have HG1 := Lib.hid hg1
            have HG2 := Lib.hid hg2
            clear hf1 hf2 hg1 hg2 hinv2
            by_cases d1 : f1 < f2
            · have hn2 : Hid (ownF n (l.drop (i + 1)) (some (x.1)) = ownF n l none) := by have := hn1.out; rw [if_pos (Or.inl d1)] at this; exact this
              have d1b : decide (f1 < f2) = true := decide_eq_true d1
              clear d1
              go_wp2_with fail
              refine (HG1.out _).mono ?_
              rintro e v2 ⟨rfl, hc2⟩
              go_wp2_with fail
              refine (HG2.out _).mono ?_
              rintro e v3 ⟨rfl, hc3⟩
              go_wp2_with fail
              go_roundg (l.length - (i + 1))
              case measure => omega
              case rel => exact ⟨i + 1, some (x.1), by omega, by omega, rfl, rfl, by go_num, fun k h => by cases h; exact HCR.out, hn2, (by repeat' (first | (with_reducible exact Below.refl _ _) | (with_reducible assumption) | (with_reducible refine Below.drew ?_) | (with_reducible refine below_drewN ?_ _) | (with_reducible refine below_iterAt ?_ ?_ _ _) | (with_reducible refine below_iter ?_ ?_ _ _) | (with_reducible refine Below.alloc ?_ ?_ _) | (with_reducible refine Below.setCell ?_ ?_ _) | (with_reducible refine Below.trans ?_ (Below.mono (by assumption) ?_)) | (simp only [sz_alloc, sz_set, sz_drew, sz_drewN, sz_iterAt, sz_iter] at *; omega) | omega | (simp; done) | (simp; omega) | (apply Below.size; assumption) | (simp only [sz_drew, sz_drewN]; apply Below.size; assumption) | (refine Nat.le_trans ?_ (Below.size (by assumption)))))⟩
            · by_cases d2 : f1 = f2
              · have d2b : (f1 == f2) = true := by simp [d2]
                have d3c : decide (x.1 < m) = true ∨ decide (x.1 < m) = false := by cases decide (x.1 < m) <;> simp
                rcases d3c with d3 | d3
                · have hn2 : Hid (ownF n (l.drop (i + 1)) (some (x.1)) = ownF n l none) := by have := hn1.out; rw [if_pos (Or.inr ⟨d2, of_decide_eq_true d3⟩)] at this; exact this
                  have d1b : decide (f1 < f2) = false := decide_eq_false d1
                  clear d1 d2
                  go_wp2_with fail
                  refine (HG1.out _).mono ?_
                  rintro e v2 ⟨rfl, hc2⟩
                  go_wp2_with fail
                  refine (HG2.out _).mono ?_
                  rintro e v3 ⟨rfl, hc3⟩
                  go_wp2_with fail
                  try (refine (HG1.out _).mono ?_; rintro e v4 ⟨rfl, hc4⟩; go_wp2_with fail; refine (HG2.out _).mono ?_; rintro e v5 ⟨rfl, hc5⟩; go_wp2_with fail)
                  go_roundg (l.length - (i + 1))
                  case measure => omega
                  case rel => exact ⟨i + 1, some (x.1), by omega, by omega, rfl, rfl, by go_num, fun k h => by cases h; exact HCR.out, hn2, (by repeat' (first | (with_reducible exact Below.refl _ _) | (with_reducible assumption) | (with_reducible refine Below.drew ?_) | (with_reducible refine below_drewN ?_ _) | (with_reducible refine below_iterAt ?_ ?_ _ _) | (with_reducible refine below_iter ?_ ?_ _ _) | (with_reducible refine Below.alloc ?_ ?_ _) | (with_reducible refine Below.setCell ?_ ?_ _) | (with_reducible refine Below.trans ?_ (Below.mono (by assumption) ?_)) | (simp only [sz_alloc, sz_set, sz_drew, sz_drewN, sz_iterAt, sz_iter] at *; omega) | omega | (simp; done) | (simp; omega) | (apply Below.size; assumption) | (simp only [sz_drew, sz_drewN]; apply Below.size; assumption) | (refine Nat.le_trans ?_ (Below.size (by assumption)))))⟩
                · have hn2 : Hid (ownF n (l.drop (i + 1)) (some m) = ownF n l none) := by have := hn1.out; rw [if_neg (by rintro (h | ⟨_, h⟩); exact d1 h; exact of_decide_eq_false d3 h)] at this; exact this
                  have d1b : decide (f1 < f2) = false := decide_eq_false d1
                  clear d1 d2
                  go_wp2_with fail
                  refine (HG1.out _).mono ?_
                  rintro e v2 ⟨rfl, hc2⟩
                  go_wp2_with fail
                  refine (HG2.out _).mono ?_
                  rintro e v3 ⟨rfl, hc3⟩
                  go_wp2_with fail
                  try (refine (HG1.out _).mono ?_; rintro e v4 ⟨rfl, hc4⟩; go_wp2_with fail; refine (HG2.out _).mono ?_; rintro e v5 ⟨rfl, hc5⟩; go_wp2_with fail)
                  go_roundg (l.length - (i + 1))
                  case measure => omega
                  case rel => exact ⟨i + 1, some m, by omega, by omega, rfl, rfl, by go_num, fun k h => by cases h; exact HMR.out, hn2, (by repeat' (first | (with_reducible exact Below.refl _ _) | (with_reducible assumption) | (with_reducible refine Below.drew ?_) | (with_reducible refine below_drewN ?_ _) | (with_reducible refine below_iterAt ?_ ?_ _ _) | (with_reducible refine below_iter ?_ ?_ _ _) | (with_reducible refine Below.alloc ?_ ?_ _) | (with_reducible refine Below.setCell ?_ ?_ _) | (with_reducible refine Below.trans ?_ (Below.mono (by assumption) ?_)) | (simp only [sz_alloc, sz_set, sz_drew, sz_drewN, sz_iterAt, sz_iter] at *; omega) | omega | (simp; done) | (simp; omega) | (apply Below.size; assumption) | (simp only [sz_drew, sz_drewN]; apply Below.size; assumption) | (refine Nat.le_trans ?_ (Below.size (by assumption)))))⟩
              · have d2b : (f1 == f2) = false := by simp [d2]
                have hn2 : Hid (ownF n (l.drop (i + 1)) (some m) = ownF n l none) := by have := hn1.out; rw [if_neg (by rintro (h | ⟨h, _⟩); exact d1 h; exact d2 h)] at this; exact this
                have d1b : decide (f1 < f2) = false := decide_eq_false d1
                clear d1 d2
                go_wp2_with fail
                refine (HG1.out _).mono ?_
                rintro e v2 ⟨rfl, hc2⟩
                go_wp2_with fail
                refine (HG2.out _).mono ?_
                rintro e v3 ⟨rfl, hc3⟩
                go_wp2_with fail
                try (refine (HG1.out _).mono ?_; rintro e v4 ⟨rfl, hc4⟩; go_wp2_with fail; refine (HG2.out _).mono ?_; rintro e v5 ⟨rfl, hc5⟩; go_wp2_with fail)
                go_roundg (l.length - (i + 1))
                case measure => omega
                case rel => exact ⟨i + 1, some m, by omega, by omega, rfl, rfl, by go_num, fun k h => by cases h; exact HMR.out, hn2, (by repeat' (first | (with_reducible exact Below.refl _ _) | (with_reducible assumption) | (with_reducible refine Below.drew ?_) | (with_reducible refine below_drewN ?_ _) | (with_reducible refine below_iterAt ?_ ?_ _ _) | (with_reducible refine below_iter ?_ ?_ _ _) | (with_reducible refine Below.alloc ?_ ?_ _) | (with_reducible refine Below.setCell ?_ ?_ _) | (with_reducible refine Below.trans ?_ (Below.mono (by assumption) ?_)) | (simp only [sz_alloc, sz_set, sz_drew, sz_drewN, sz_iterAt, sz_iter] at *; omega) | omega | (simp; done) | (simp; omega) | (apply Below.size; assumption) | (simp only [sz_drew, sz_drewN]; apply Below.size; assumption) | (refine Nat.le_trans ?_ (Below.size (by assumption)))))⟩
        · have HCL := Lib.hid hcl
          clear hcl
          cases b with
          | none =>
            have hn1 : Hid (ownF n (l.drop (i + 1)) (some (x.2)) = ownF n l none) := by rw [← HCL.out]; exact hinv2.out
            go_wp2_with fail
            go_roundg (l.length - (i + 1))
            case measure => omega
            case rel => exact ⟨i + 1, some (x.2), by omega, by omega, rfl, rfl, by go_num, fun m h => by cases h; have := HXR.out; rw [HCL.out] at this; exact this, hn1, (by repeat' (first | (with_reducible exact Below.refl _ _) | (with_reducible assumption) | (with_reducible refine Below.drew ?_) | (with_reducible refine below_drewN ?_ _) | (with_reducible refine below_iterAt ?_ ?_ _ _) | (with_reducible refine below_iter ?_ ?_ _ _) | (with_reducible refine Below.alloc ?_ ?_ _) | (with_reducible refine Below.setCell ?_ ?_ _) | (with_reducible refine Below.trans ?_ (Below.mono (by assumption) ?_)) | (simp only [sz_alloc, sz_set, sz_drew, sz_drewN, sz_iterAt, sz_iter] at *; omega) | omega | (simp; done) | (simp; omega) | (apply Below.size; assumption) | (simp only [sz_drew, sz_drewN]; apply Below.size; assumption) | (refine Nat.le_trans ?_ (Below.size (by assumption)))))⟩
          | some m =>
            simp only [Option.getD_some, Option.isSome_some] at *
            obtain ⟨f1, hf1⟩ : ∃ f1, farI (x.2) n = f1 := ⟨_, rfl⟩
            obtain ⟨f2, hf2⟩ : ∃ f2, farI m n = f2 := ⟨_, rfl⟩
            have hn1 : Hid (ownF n (l.drop (i + 1)) (if f1 < f2 ∨ (f1 = f2 ∧ x.2 < m) then some (x.2) else some m) = ownF n l none) := by have := hinv2.out; rw [show stepF n x (some m) = if farI (clampS x n) n < farI m n ∨ (farI (clampS x n) n = farI m n ∧ clampS x n < m) then some (clampS x n) else some m from rfl, HCL.out, hf1, hf2] at this; exact this
            have HCR : Hid (IRng (x.2)) := by have := HXR.out; rw [HCL.out] at this; exact this
            have HMR : Hid (IRng m) := hbr.out m rfl
            have hg1 := fun W => far_any (x.2) n HCR.out HN.out W
            have hg2 := fun W => far_any m n HMR.out HN.out W
            rw [hf1] at hg1
            rw [hf2] at hg2
            have HG1 := Lib.hid hg1
            have HG2 := Lib.hid hg2
            clear hf1 hf2 hg1 hg2 hinv2
            by_cases d1 : f1 < f2
            · have hn2 : Hid (ownF n (l.drop (i + 1)) (some (x.2)) = ownF n l none) := by have := hn1.out; rw [if_pos (Or.inl d1)] at this; exact this
              have d1b : decide (f1 < f2) = true := decide_eq_true d1
              clear d1
              go_wp2_with fail
              refine (HG1.out _).mono ?_
              rintro e v2 ⟨rfl, hc2⟩
              go_wp2_with fail
              refine (HG2.out _).mono ?_
              rintro e v3 ⟨rfl, hc3⟩
              go_wp2_with fail
              go_roundg (l.length - (i + 1))
              case measure => omega
              case rel => exact ⟨i + 1, some (x.2), by omega, by omega, rfl, rfl, by go_num, fun k h => by cases h; exact HCR.out, hn2, (by repeat' (first | (with_reducible exact Below.refl _ _) | (with_reducible assumption) | (with_reducible refine Below.drew ?_) | (with_reducible refine below_drewN ?_ _) | (with_reducible refine below_iterAt ?_ ?_ _ _) | (with_reducible refine below_iter ?_ ?_ _ _) | (with_reducible refine Below.alloc ?_ ?_ _) | (with_reducible refine Below.setCell ?_ ?_ _) | (with_reducible refine Below.trans ?_ (Below.mono (by assumption) ?_)) | (simp only [sz_alloc, sz_set, sz_drew, sz_drewN, sz_iterAt, sz_iter] at *; omega) | omega | (simp; done) | (simp; omega) | (apply Below.size; assumption) | (simp only [sz_drew, sz_drewN]; apply Below.size; assumption) | (refine Nat.le_trans ?_ (Below.size (by assumption)))))⟩
            · by_cases d2 : f1 = f2
              · have d2b : (f1 == f2) = true := by simp [d2]
                have d3c : decide (x.2 < m) = true ∨ decide (x.2 < m) = false := by cases decide (x.2 < m) <;> simp
                rcases d3c with d3 | d3
                · have hn2 : Hid (ownF n (l.drop (i + 1)) (some (x.2)) = ownF n l none) := by have := hn1.out; rw [if_pos (Or.inr ⟨d2, of_decide_eq_true d3⟩)] at this; exact this
                  have d1b : decide (f1 < f2) = false := decide_eq_false d1
                  clear d1 d2
                  go_wp2_with fail
                  refine (HG1.out _).mono ?_
                  rintro e v2 ⟨rfl, hc2⟩
                  go_wp2_with fail
                  refine (HG2.out _).mono ?_
                  rintro e v3 ⟨rfl, hc3⟩
                  go_wp2_with fail
                  try (refine (HG1.out _).mono ?_; rintro e v4 ⟨rfl, hc4⟩; go_wp2_with fail; refine (HG2.out _).mono ?_; rintro e v5 ⟨rfl, hc5⟩; go_wp2_with fail)
                  go_roundg (l.length - (i + 1))
                  case measure => omega
                  case rel => exact ⟨i + 1, some (x.2), by omega, by omega, rfl, rfl, by go_num, fun k h => by cases h; exact HCR.out, hn2, (by repeat' (first | (with_reducible exact Below.refl _ _) | (with_reducible assumption) | (with_reducible refine Below.drew ?_) | (with_reducible refine below_drewN ?_ _) | (with_reducible refine below_iterAt ?_ ?_ _ _) | (with_reducible refine below_iter ?_ ?_ _ _) | (with_reducible refine Below.alloc ?_ ?_ _) | (with_reducible refine Below.setCell ?_ ?_ _) | (with_reducible refine Below.trans ?_ (Below.mono (by assumption) ?_)) | (simp only [sz_alloc, sz_set, sz_drew, sz_drewN, sz_iterAt, sz_iter] at *; omega) | omega | (simp; done) | (simp; omega) | (apply Below.size; assumption) | (simp only [sz_drew, sz_drewN]; apply Below.size; assumption) | (refine Nat.le_trans ?_ (Below.size (by assumption)))))⟩
                · have hn2 : Hid (ownF n (l.drop (i + 1)) (some m) = ownF n l none) := by have := hn1.out; rw [if_neg (by rintro (h | ⟨_, h⟩); exact d1 h; exact of_decide_eq_false d3 h)] at this; exact this
                  have d1b : decide (f1 < f2) = false := decide_eq_false d1
                  clear d1 d2
                  go_wp2_with fail
                  refine (HG1.out _).mono ?_
                  rintro e v2 ⟨rfl, hc2⟩
                  go_wp2_with fail
                  refine (HG2.out _).mono ?_
                  rintro e v3 ⟨rfl, hc3⟩
                  go_wp2_with fail
                  try (refine (HG1.out _).mono ?_; rintro e v4 ⟨rfl, hc4⟩; go_wp2_with fail; refine (HG2.out _).mono ?_; rintro e v5 ⟨rfl, hc5⟩; go_wp2_with fail)
                  go_roundg (l.length - (i + 1))
                  case measure => omega
                  case rel => exact ⟨i + 1, some m, by omega, by omega, rfl, rfl, by go_num, fun k h => by cases h; exact HMR.out, hn2, (by repeat' (first | (with_reducible exact Below.refl _ _) | (with_reducible assumption) | (with_reducible refine Below.drew ?_) | (with_reducible refine below_drewN ?_ _) | (with_reducible refine below_iterAt ?_ ?_ _ _) | (with_reducible refine below_iter ?_ ?_ _ _) | (with_reducible refine Below.alloc ?_ ?_ _) | (with_reducible refine Below.setCell ?_ ?_ _) | (with_reducible refine Below.trans ?_ (Below.mono (by assumption) ?_)) | (simp only [sz_alloc, sz_set, sz_drew, sz_drewN, sz_iterAt, sz_iter] at *; omega) | omega | (simp; done) | (simp; omega) | (apply Below.size; assumption) | (simp only [sz_drew, sz_drewN]; apply Below.size; assumption) | (refine Nat.le_trans ?_ (Below.size (by assumption)))))⟩
              · have d2b : (f1 == f2) = false := by simp [d2]
                have hn2 : Hid (ownF n (l.drop (i + 1)) (some m) = ownF n l none) := by have := hn1.out; rw [if_neg (by rintro (h | ⟨h, _⟩); exact d1 h; exact d2 h)] at this; exact this
                have d1b : decide (f1 < f2) = false := decide_eq_false d1
                clear d1 d2
                go_wp2_with fail
                refine (HG1.out _).mono ?_
                rintro e v2 ⟨rfl, hc2⟩
                go_wp2_with fail
                refine (HG2.out _).mono ?_
                rintro e v3 ⟨rfl, hc3⟩
                go_wp2_with fail
                try (refine (HG1.out _).mono ?_; rintro e v4 ⟨rfl, hc4⟩; go_wp2_with fail; refine (HG2.out _).mono ?_; rintro e v5 ⟨rfl, hc5⟩; go_wp2_with fail)
                go_roundg (l.length - (i + 1))
                case measure => omega
                case rel => exact ⟨i + 1, some m, by omega, by omega, rfl, rfl, by go_num, fun k h => by cases h; exact HMR.out, hn2, (by repeat' (first | (with_reducible exact Below.refl _ _) | (with_reducible assumption) | (with_reducible refine Below.drew ?_) | (with_reducible refine below_drewN ?_ _) | (with_reducible refine below_iterAt ?_ ?_ _ _) | (with_reducible refine below_iter ?_ ?_ _ _) | (with_reducible refine Below.alloc ?_ ?_ _) | (with_reducible refine Below.setCell ?_ ?_ _) | (with_reducible refine Below.trans ?_ (Below.mono (by assumption) ?_)) | (simp only [sz_alloc, sz_set, sz_drew, sz_drewN, sz_iterAt, sz_iter] at *; omega) | omega | (simp; done) | (simp; omega) | (apply Below.size; assumption) | (simp only [sz_drew, sz_drewN]; apply Below.size; assumption) | (refine Nat.le_trans ?_ (Below.size (by assumption)))))⟩
        · have HCL := Lib.hid hcl
          clear hcl
          cases b with
          | none =>
            have hn1 : Hid (ownF n (l.drop (i + 1)) (some n) = ownF n l none) := by have := hinv2.out; rw [show stepF n x none = some (clampS x n) from rfl, HCL.out] at this; exact this
            go_wp2_with fail
            go_roundg (l.length - (i + 1))
            case measure => omega
            case rel => exact ⟨i + 1, some (n), by omega, by omega, rfl, rfl, by go_num, fun m h => by cases h; have := HXR.out; rw [HCL.out] at this; exact this, hn1, (by repeat' (first | (with_reducible exact Below.refl _ _) | (with_reducible assumption) | (with_reducible refine Below.drew ?_) | (with_reducible refine below_drewN ?_ _) | (with_reducible refine below_iterAt ?_ ?_ _ _) | (with_reducible refine below_iter ?_ ?_ _ _) | (with_reducible refine Below.alloc ?_ ?_ _) | (with_reducible refine Below.setCell ?_ ?_ _) | (with_reducible refine Below.trans ?_ (Below.mono (by assumption) ?_)) | (simp only [sz_alloc, sz_set, sz_drew, sz_drewN, sz_iterAt, sz_iter] at *; omega) | omega | (simp; done) | (simp; omega) | (apply Below.size; assumption) | (simp only [sz_drew, sz_drewN]; apply Below.size; assumption) | (refine Nat.le_trans ?_ (Below.size (by assumption)))))⟩
          | some m =>
            simp only [Option.getD_some, Option.isSome_some] at *
            obtain ⟨f1, hf1⟩ : ∃ f1, farI (n) n = f1 := ⟨_, rfl⟩
            obtain ⟨f2, hf2⟩ : ∃ f2, farI m n = f2 := ⟨_, rfl⟩
            have hn1 : Hid (ownF n (l.drop (i + 1)) (if f1 < f2 ∨ (f1 = f2 ∧ n < m) then some (n) else some m) = ownF n l none) := by have := hinv2.out; rw [show stepF n x (some m) = if farI (clampS x n) n < farI m n ∨ (farI (clampS x n) n = farI m n ∧ clampS x n < m) then some (clampS x n) else some m from rfl, HCL.out, hf1, hf2] at this; exact this
            have HCR : Hid (IRng (n)) := by have := HXR.out; rw [HCL.out] at this; exact this
            have HMR : Hid (IRng m) := hbr.out m rfl
            have hg1 := fun W => far_any (n) n HCR.out HN.out W
            have hg2 := fun W => far_any m n HMR.out HN.out W
            rw [hf1] at hg1
            rw [hf2] at hg2
            have HG1 := Lib.hid hg1
            have HG2 := Lib.hid hg2
            clear hf1 hf2 hg1 hg2 hinv2
            by_cases d1 : f1 < f2
            · have hn2 : Hid (ownF n (l.drop (i + 1)) (some (n)) = ownF n l none) := by have := hn1.out; rw [if_pos (Or.inl d1)] at this; exact this
              have d1b : decide (f1 < f2) = true := decide_eq_true d1
              clear d1
              go_wp2_with fail
              refine (HG1.out _).mono ?_
              rintro e v2 ⟨rfl, hc2⟩
              go_wp2_with fail
              refine (HG2.out _).mono ?_
              rintro e v3 ⟨rfl, hc3⟩
              go_wp2_with fail
              go_roundg (l.length - (i + 1))
              case measure => omega
              case rel => exact ⟨i + 1, some (n), by omega, by omega, rfl, rfl, by go_num, fun k h => by cases h; exact HCR.out, hn2, (by repeat' (first | (with_reducible exact Below.refl _ _) | (with_reducible assumption) | (with_reducible refine Below.drew ?_) | (with_reducible refine below_drewN ?_ _) | (with_reducible refine below_iterAt ?_ ?_ _ _) | (with_reducible refine below_iter ?_ ?_ _ _) | (with_reducible refine Below.alloc ?_ ?_ _) | (with_reducible refine Below.setCell ?_ ?_ _) | (with_reducible refine Below.trans ?_ (Below.mono (by assumption) ?_)) | (simp only [sz_alloc, sz_set, sz_drew, sz_drewN, sz_iterAt, sz_iter] at *; omega) | omega | (simp; done) | (simp; omega) | (apply Below.size; assumption) | (simp only [sz_drew, sz_drewN]; apply Below.size; assumption) | (refine Nat.le_trans ?_ (Below.size (by assumption)))))⟩
            · by_cases d2 : f1 = f2
              · have d2b : (f1 == f2) = true := by simp [d2]
                have d3c : decide (n < m) = true ∨ decide (n < m) = false := by cases decide (n < m) <;> simp
                rcases d3c with d3 | d3
                · have hn2 : Hid (ownF n (l.drop (i + 1)) (some (n)) = ownF n l none) := by have := hn1.out; rw [if_pos (Or.inr ⟨d2, of_decide_eq_true d3⟩)] at this; exact this
                  have d1b : decide (f1 < f2) = false := decide_eq_false d1
                  clear d1 d2
                  go_wp2_with fail
                  refine (HG1.out _).mono ?_
                  rintro e v2 ⟨rfl, hc2⟩
                  go_wp2_with fail
                  refine (HG2.out _).mono ?_
                  rintro e v3 ⟨rfl, hc3⟩
                  go_wp2_with fail
                  try (refine (HG1.out _).mono ?_; rintro e v4 ⟨rfl, hc4⟩; go_wp2_with fail; refine (HG2.out _).mono ?_; rintro e v5 ⟨rfl, hc5⟩; go_wp2_with fail)
                  go_roundg (l.length - (i + 1))
                  case measure => omega
                  case rel => exact ⟨i + 1, some (n), by omega, by omega, rfl, rfl, by go_num, fun k h => by cases h; exact HCR.out, hn2, (by repeat' (first | (with_reducible exact Below.refl _ _) | (with_reducible assumption) | (with_reducible refine Below.drew ?_) | (with_reducible refine below_drewN ?_ _) | (with_reducible refine below_iterAt ?_ ?_ _ _) | (with_reducible refine below_iter ?_ ?_ _ _) | (with_reducible refine Below.alloc ?_ ?_ _) | (with_reducible refine Below.setCell ?_ ?_ _) | (with_reducible refine Below.trans ?_ (Below.mono (by assumption) ?_)) | (simp only [sz_alloc, sz_set, sz_drew, sz_drewN, sz_iterAt, sz_iter] at *; omega) | omega | (simp; done) | (simp; omega) | (apply Below.size; assumption) | (simp only [sz_drew, sz_drewN]; apply Below.size; assumption) | (refine Nat.le_trans ?_ (Below.size (by assumption)))))⟩
                · have hn2 : Hid (ownF n (l.drop (i + 1)) (some m) = ownF n l none) := by have := hn1.out; rw [if_neg (by rintro (h | ⟨_, h⟩); exact d1 h; exact of_decide_eq_false d3 h)] at this; exact this
                  have d1b : decide (f1 < f2) = false := decide_eq_false d1
                  clear d1 d2
                  go_wp2_with fail
                  refine (HG1.out _).mono ?_
                  rintro e v2 ⟨rfl, hc2⟩
                  go_wp2_with fail
                  refine (HG2.out _).mono ?_
                  rintro e v3 ⟨rfl, hc3⟩
                  go_wp2_with fail
                  try (refine (HG1.out _).mono ?_; rintro e v4 ⟨rfl, hc4⟩; go_wp2_with fail; refine (HG2.out _).mono ?_; rintro e v5 ⟨rfl, hc5⟩; go_wp2_with fail)
                  go_roundg (l.length - (i + 1))
                  case measure => omega
                  case rel => exact ⟨i + 1, some m, by omega, by omega, rfl, rfl, by go_num, fun k h => by cases h; exact HMR.out, hn2, (by repeat' (first | (with_reducible exact Below.refl _ _) | (with_reducible assumption) | (with_reducible refine Below.drew ?_) | (with_reducible refine below_drewN ?_ _) | (with_reducible refine below_iterAt ?_ ?_ _ _) | (with_reducible refine below_iter ?_ ?_ _ _) | (with_reducible refine Below.alloc ?_ ?_ _) | (with_reducible refine Below.setCell ?_ ?_ _) | (with_reducible refine Below.trans ?_ (Below.mono (by assumption) ?_)) | (simp only [sz_alloc, sz_set, sz_drew, sz_drewN, sz_iterAt, sz_iter] at *; omega) | omega | (simp; done) | (simp; omega) | (apply Below.size; assumption) | (simp only [sz_drew, sz_drewN]; apply Below.size; assumption) | (refine Nat.le_trans ?_ (Below.size (by assumption)))))⟩
              · have d2b : (f1 == f2) = false := by simp [d2]
                have hn2 : Hid (ownF n (l.drop (i + 1)) (some m) = ownF n l none) := by have := hn1.out; rw [if_neg (by rintro (h | ⟨h, _⟩); exact d1 h; exact d2 h)] at this; exact this
                have d1b : decide (f1 < f2) = false := decide_eq_false d1
                clear d1 d2
                go_wp2_with fail
                refine (HG1.out _).mono ?_
                rintro e v2 ⟨rfl, hc2⟩
                go_wp2_with fail
                refine (HG2.out _).mono ?_
                rintro e v3 ⟨rfl, hc3⟩
                go_wp2_with fail
                try (refine (HG1.out _).mono ?_; rintro e v4 ⟨rfl, hc4⟩; go_wp2_with fail; refine (HG2.out _).mono ?_; rintro e v5 ⟨rfl, hc5⟩; go_wp2_with fail)
                go_roundg (l.length - (i + 1))
                case measure => omega
                case rel => exact ⟨i + 1, some m, by omega, by omega, rfl, rfl, by go_num, fun k h => by cases h; exact HMR.out, hn2, (by repeat' (first | (with_reducible exact Below.refl _ _) | (with_reducible assumption) | (with_reducible refine Below.drew ?_) | (with_reducible refine below_drewN ?_ _) | (with_reducible refine below_iterAt ?_ ?_ _ _) | (with_reducible refine below_iter ?_ ?_ _ _) | (with_reducible refine Below.alloc ?_ ?_ _) | (with_reducible refine Below.setCell ?_ ?_ _) | (with_reducible refine Below.trans ?_ (Below.mono (by assumption) ?_)) | (simp only [sz_alloc, sz_set, sz_drew, sz_drewN, sz_iterAt, sz_iter] at *; omega) | omega | (simp; done) | (simp; omega) | (apply Below.size; assumption) | (simp only [sz_drew, sz_drewN]; apply Below.size; assumption) | (refine Nat.le_trans ?_ (Below.size (by assumption)))))⟩
    · have hie : i = l.length := by omega
      have hb : Hid (M = b) := by have := hinv.out; rw [hie, List.drop_length] at this; exact HM.out.trans this.symm
      have i1 : ¬ ((i : Int) < (l.length : Int)) := by omega
      have hbz : Below w0.heap.size w0 wr := (by repeat' (first | (with_reducible exact Below.refl _ _) | (with_reducible assumption) | (with_reducible refine Below.drew ?_) | (with_reducible refine below_drewN ?_ _) | (with_reducible refine below_iterAt ?_ ?_ _ _) | (with_reducible refine below_iter ?_ ?_ _ _) | (with_reducible refine Below.alloc ?_ ?_ _) | (with_reducible refine Below.setCell ?_ ?_ _) | (with_reducible refine Below.trans ?_ (Below.mono (by assumption) ?_)) | (simp only [sz_alloc, sz_set, sz_drew, sz_drewN, sz_iterAt, sz_iter] at *; omega) | omega | (simp; done) | (simp; omega) | (apply Below.size; assumption) | (simp only [sz_drew, sz_drewN]; apply Below.size; assumption) | (refine Nat.le_trans ?_ (Below.size (by assumption)))))
      cases b with
      | none =>
        obtain rfl : mv = 0 := by rw [← HMV.out, hb.out]; rfl
        obtain rfl : ev = 16 := by rw [← HEV.out, hb.out]; rfl
        go_wp2_with fail
        refine (awake_any _).mono ?_
        rintro e v1 ⟨rfl, hc1⟩
        go_wp2_with fail
        go_ret
        exact ⟨ret_bool rfl, (by repeat' (first | (with_reducible exact Below.refl _ _) | (with_reducible assumption) | (with_reducible refine Below.drew ?_) | (with_reducible refine below_drewN ?_ _) | (with_reducible refine below_iterAt ?_ ?_ _ _) | (with_reducible refine below_iter ?_ ?_ _ _) | (with_reducible refine Below.alloc ?_ ?_ _) | (with_reducible refine Below.setCell ?_ ?_ _) | (with_reducible refine Below.trans ?_ (Below.mono (by assumption) ?_)) | (simp only [sz_alloc, sz_set, sz_drew, sz_drewN, sz_iterAt, sz_iter] at *; omega) | omega | (simp; done) | (simp; omega) | (apply Below.size; assumption) | (simp only [sz_drew, sz_drewN]; apply Below.size; assumption) | (refine Nat.le_trans ?_ (Below.size (by assumption)))))⟩
      | some m =>
        obtain rfl : mv = m := by rw [← HMV.out, hb.out]; rfl
        obtain rfl : ev = 0 := by rw [← HEV.out, hb.out]; rfl
        go_wp2_with fail
        refine (awake_any _).mono ?_
        rintro e v1 ⟨rfl, hc1⟩
        go_wp2_with fail
        go_ret
        exact ⟨ret_bool rfl, (by repeat' (first | (with_reducible exact Below.refl _ _) | (with_reducible assumption) | (with_reducible refine Below.drew ?_) | (with_reducible refine below_drewN ?_ _) | (with_reducible refine below_iterAt ?_ ?_ _ _) | (with_reducible refine below_iter ?_ ?_ _ _) | (with_reducible refine Below.alloc ?_ ?_ _) | (with_reducible refine Below.setCell ?_ ?_ _) | (with_reducible refine Below.trans ?_ (Below.mono (by assumption) ?_)) | (simp only [sz_alloc, sz_set, sz_drew, sz_drewN, sz_iterAt, sz_iter] at *; omega) | omega | (simp; done) | (simp; omega) | (apply Below.size; assumption) | (simp only [sz_drew, sz_drewN]; apply Below.size; assumption) | (refine Nat.le_trans ?_ (Below.size (by assumption)))))⟩
end Go.Proofs.Ythdbbefiebolbaa
