/- SpansJoins, walked: it gives true. -/
import Derived.Test.YthdbbefiebolbaaSpansK
import Derived.Test.YthdbbefiebolbaaSpansM
import Derived.Test.YthdbbefiebolbaaSpansW
import Derived.Deep.DrawnRows
set_option linter.unusedSimpArgs false
set_option linter.unusedVariables false
namespace Go.Proofs.Ythdbbefiebolbaa
open Go.RowKit Go.Sort
attribute [local go_sem ↓] Go.wp_at_zero Go.wp_at_succ

set_option maxRecDepth 100000 in
set_option maxHeartbeats 3200000 in
theorem lawJ_any (xs : List Sp) (n : Int) (A : Option Addr) (c : Nat) (w : World) (hc : xs.length ≤ c) (hr : RdL w 2 A (xs.map spC)) (hw : ∀ s ∈ xs, SpWf s) (hlen : xs.length ≤ 9223372036854775807) :
    Calls Try.prog 3 #[.slice A xs.length c, .int .i64 n] w fun e w' => e = .returned (.bool true) ∧ Below w.heap.size w w' := by
  obtain ⟨l, hl⟩ : ∃ l, xs.take 100 = l := ⟨_, rfl⟩
  have hfew := fun W (h : RdL W 2 A (xs.map spC)) => few_any xs A c W hc h
  have hrl : RdL w 2 A (l.map spC) := by rw [← hl]; exact hr.take_ 100
  have hwl : ∀ s ∈ l, SpWf s := by rw [← hl]; exact fun s hs => hw s (List.mem_of_mem_take hs)
  have hll : l.length ≤ 100 := by rw [← hl, List.length_take]; omega
  rw [hl] at hfew
  have HFEW := Lib.hid hfew
  have HR := Lib.hid hr
  have HWL := Lib.hid hwl
  clear hfew hr hw hl hwl
  go_enter Try.func3, Try.ntmps3
  go_wp2_with fail
  refine (HFEW.out _ HR.out).mono ?_
  rintro e w0 ⟨rfl, rfl⟩
  go_wp2_with fail
  refine (join_any l A c _ (hrl.below (by repeat' (first | (with_reducible exact Below.refl _ _) | (with_reducible assumption) | (with_reducible refine Below.drew ?_) | (with_reducible refine below_drewN ?_ _) | (with_reducible refine below_iterAt ?_ ?_ _ _) | (with_reducible refine below_iter ?_ ?_ _ _) | (with_reducible refine Below.alloc ?_ ?_ _) | (with_reducible refine Below.setCell ?_ ?_ _) | (with_reducible refine Below.trans ?_ (Below.mono (by assumption) ?_)) | (simp only [sz_alloc, sz_set, sz_drew, sz_drewN, sz_iterAt, sz_iter] at *; omega) | omega | (simp; done) | (simp; omega) | (apply Below.size; assumption) | (simp only [sz_drew, sz_drewN]; apply Below.size; assumption) | (refine Nat.le_trans ?_ (Below.size (by assumption)))))) HWL.out (by omega)).mono ?_
  rintro e w1 ⟨R, B, cb, rfl, hrR, hJ, _, _, hb1⟩
  have hlR := hJ.len
  have HJ := Lib.hid hJ
  clear hJ
  go_wp2_with fail
  refine (awake_any _).mono ?_
  rintro e w2 ⟨rfl, hb2⟩
  go_wp2_with fail
  refine (refOrdered_any R HJ.out.ord HJ.out.wf B cb _ (hrR.below (by repeat' (first | (with_reducible exact Below.refl _ _) | (with_reducible assumption) | (with_reducible refine Below.drew ?_) | (with_reducible refine below_drewN ?_ _) | (with_reducible refine below_iterAt ?_ ?_ _ _) | (with_reducible refine below_iter ?_ ?_ _ _) | (with_reducible refine Below.alloc ?_ ?_ _) | (with_reducible refine Below.setCell ?_ ?_ _) | (with_reducible refine Below.trans ?_ (Below.mono (by assumption) ?_)) | (simp only [sz_alloc, sz_set, sz_drew, sz_drewN, sz_iterAt, sz_iter] at *; omega) | omega | (simp; done) | (simp; omega) | (apply Below.size; assumption) | (simp only [sz_drew, sz_drewN]; apply Below.size; assumption) | (refine Nat.le_trans ?_ (Below.size (by assumption)))))) (by omega)).mono ?_
  rintro e w3 ⟨rfl, hb3⟩
  go_wp2_with fail
  have hown := World.ownsRow_lit (base := w3.heap.size) (e := 22) (size := 1) w3 #[.slice A l.length c, .slice B R.length cb] 2 (Nat.le_refl _) (by decide) rfl
  obtain ⟨L, cL, e, hL⟩ := own_rd (css := ([⟨l, A, c⟩, ⟨R, B, cb⟩] : List SpAt).map SpAt.cells) hown rfl (by intro c hc; obtain ⟨x, _, rfl⟩ := List.mem_map.1 hc; rfl) rfl
  cases e
  have hrl3 : RdL w3 2 A (l.map spC) := hrl.below (by repeat' (first | (with_reducible exact Below.refl _ _) | (with_reducible assumption) | (with_reducible refine Below.drew ?_) | (with_reducible refine below_drewN ?_ _) | (with_reducible refine below_iterAt ?_ ?_ _ _) | (with_reducible refine below_iter ?_ ?_ _ _) | (with_reducible refine Below.alloc ?_ ?_ _) | (with_reducible refine Below.setCell ?_ ?_ _) | (with_reducible refine Below.trans ?_ (Below.mono (by assumption) ?_)) | (simp only [sz_alloc, sz_set, sz_drew, sz_drewN, sz_iterAt, sz_iter] at *; omega) | omega | (simp; done) | (simp; omega) | (apply Below.size; assumption) | (simp only [sz_drew, sz_drewN]; apply Below.size; assumption) | (refine Nat.le_trans ?_ (Below.size (by assumption)))))
  have hrR3 : RdL w3 2 B (R.map spC) := hrR.below (by repeat' (first | (with_reducible exact Below.refl _ _) | (with_reducible assumption) | (with_reducible refine Below.drew ?_) | (with_reducible refine below_drewN ?_ _) | (with_reducible refine below_iterAt ?_ ?_ _ _) | (with_reducible refine below_iter ?_ ?_ _ _) | (with_reducible refine Below.alloc ?_ ?_ _) | (with_reducible refine Below.setCell ?_ ?_ _) | (with_reducible refine Below.trans ?_ (Below.mono (by assumption) ?_)) | (simp only [sz_alloc, sz_set, sz_drew, sz_drewN, sz_iterAt, sz_iter] at *; omega) | omega | (simp; done) | (simp; omega) | (apply Below.size; assumption) | (simp only [sz_drew, sz_drewN]; apply Below.size; assumption) | (refine Nat.le_trans ?_ (Below.size (by assumption)))))
  refine (near_any n [⟨l, A, c⟩, ⟨R, B, cb⟩] _ 2 _ hL ?_ (by show 2 ≤ 3; decide)).mono ?_
  · intro x hx
    have : x = ⟨l, A, c⟩ ∨ x = ⟨R, B, cb⟩ := by simpa using hx
    rcases this with rfl | rfl
    · exact ⟨hrl3.below (by repeat' (first | (with_reducible exact Below.refl _ _) | (with_reducible assumption) | (with_reducible refine Below.drew ?_) | (with_reducible refine below_drewN ?_ _) | (with_reducible refine below_iterAt ?_ ?_ _ _) | (with_reducible refine below_iter ?_ ?_ _ _) | (with_reducible refine Below.alloc ?_ ?_ _) | (with_reducible refine Below.setCell ?_ ?_ _) | (with_reducible refine Below.trans ?_ (Below.mono (by assumption) ?_)) | (simp only [sz_alloc, sz_set, sz_drew, sz_drewN, sz_iterAt, sz_iter] at *; omega) | omega | (simp; done) | (simp; omega) | (apply Below.size; assumption) | (simp only [sz_drew, sz_drewN]; apply Below.size; assumption) | (refine Nat.le_trans ?_ (Below.size (by assumption))))), HWL.out, by show l.length ≤ _; omega⟩
    · exact ⟨hrR3.below (by repeat' (first | (with_reducible exact Below.refl _ _) | (with_reducible assumption) | (with_reducible refine Below.drew ?_) | (with_reducible refine below_drewN ?_ _) | (with_reducible refine below_iterAt ?_ ?_ _ _) | (with_reducible refine below_iter ?_ ?_ _ _) | (with_reducible refine Below.alloc ?_ ?_ _) | (with_reducible refine Below.setCell ?_ ?_ _) | (with_reducible refine Below.trans ?_ (Below.mono (by assumption) ?_)) | (simp only [sz_alloc, sz_set, sz_drew, sz_drewN, sz_iterAt, sz_iter] at *; omega) | omega | (simp; done) | (simp; omega) | (apply Below.size; assumption) | (simp only [sz_drew, sz_drewN]; apply Below.size; assumption) | (refine Nat.le_trans ?_ (Below.size (by assumption))))), HJ.out.wf, by show R.length ≤ _; omega⟩
  rintro e w4 ⟨ns, N, cn, rfl, hN, hns, hb4⟩
  have hb34 : Below w3.heap.size w3 w4 := (by repeat' (first | (with_reducible exact Below.refl _ _) | (with_reducible assumption) | (with_reducible refine Below.drew ?_) | (with_reducible refine below_drewN ?_ _) | (with_reducible refine below_iterAt ?_ ?_ _ _) | (with_reducible refine below_iter ?_ ?_ _ _) | (with_reducible refine Below.alloc ?_ ?_ _) | (with_reducible refine Below.setCell ?_ ?_ _) | (with_reducible refine Below.trans ?_ (Below.mono (by assumption) ?_)) | (simp only [sz_alloc, sz_set, sz_drew, sz_drewN, sz_iterAt, sz_iter] at *; omega) | omega | (simp; done) | (simp; omega) | (apply Below.size; assumption) | (simp only [sz_drew, sz_drewN]; apply Below.size; assumption) | (refine Nat.le_trans ?_ (Below.size (by assumption)))))
  have hrl4 : RdL w4 2 A (l.map spC) := hrl3.below hb34
  have hrR4 : RdL w4 2 B (R.map spC) := hrR3.below hb34
  have hbw4 : Below w0.heap.size w0 w4 := (by repeat' (first | (with_reducible exact Below.refl _ _) | (with_reducible assumption) | (with_reducible refine Below.drew ?_) | (with_reducible refine below_drewN ?_ _) | (with_reducible refine below_iterAt ?_ ?_ _ _) | (with_reducible refine below_iter ?_ ?_ _ _) | (with_reducible refine Below.alloc ?_ ?_ _) | (with_reducible refine Below.setCell ?_ ?_ _) | (with_reducible refine Below.trans ?_ (Below.mono (by assumption) ?_)) | (simp only [sz_alloc, sz_set, sz_drew, sz_drewN, sz_iterAt, sz_iter] at *; omega) | omega | (simp; done) | (simp; omega) | (apply Below.size; assumption) | (simp only [sz_drew, sz_drewN]; apply Below.size; assumption) | (refine Nat.le_trans ?_ (Below.size (by assumption)))))
  have hz4 := hbw4.size
  have HN := Lib.hid hN
  clear hown hL hrl3 hrR3 hN
  go_wp2_with fail
  go_loopg [7] ns.length (fun k iv wr => ∃ i : Nat, i ≤ ns.length ∧ ns.length - i ≤ k ∧ iv = .int .i64 i ∧ Below w4.heap.size w4 wr)
  case atStart => exact ⟨0, by omega, by omega, rfl, Below.refl _ _⟩
  case round =>
    obtain ⟨i, hi, hik, rfl, hbel⟩ := hrel
    have hsz := hbel.size
    by_cases hlt : i < ns.length
    · obtain ⟨bN, oN, hBN, hx⟩ := (HN.out.below hbel).at_ hlt
      subst hBN
      generalize ns[i]'hlt = q at *
      have y0 : wr.cell? ⟨bN, oN + i, none⟩ = some (.int .i64 q) := by have := hx.get 0 rfl; simpa using this
      have i1 : (i : Int) < (ns.length : Int) := by omega
      have i2 : (0 : Int) ≤ (i : Int) := by omega
      obtain ⟨b, hb⟩ : ∃ b, inS l q = b := ⟨_, rfl⟩
      have hbR : inS R q = b := by rw [HJ.out.same q, hb]
      have h3 := fun W (h : Below wr.heap.size wr W) => has_any l q A c W ((hrl4.below hbel).below h) (by omega)
      rw [hb] at h3
      have hR5 := hrR4.below hbel
      have hl5 := hrl4.below hbel
      have HBR := Lib.hid hbR
      have HBL := Lib.hid hb
      have H3 := Lib.hid h3
      clear h3 hx hb hbR
      have hNl : bN < wr.heap.size := cell_lt y0
      go_wp2_with fail
      have kk0 : wr.cell? ⟨bN, oN + i, none⟩ = some (.int .i64 q) := (by first | (simp [go_sem]; done) | (simp [go_sem, *]; done))
      go_region_held3 (fun w' => Below wr.heap.size wr w' ∧ w'.cell? ⟨bN, oN + i, none⟩ = some (.int .i64 q)) ((refine and_keep ?_ (fun hk => keep_cell hk hNl kk0); exact (by repeat' (first | (with_reducible exact Below.refl _ _) | (with_reducible assumption) | (with_reducible refine Below.drew ?_) | (with_reducible refine below_drewN ?_ _) | (with_reducible refine below_iterAt ?_ ?_ _ _) | (with_reducible refine below_iter ?_ ?_ _ _) | (with_reducible refine Below.alloc ?_ ?_ _) | (with_reducible refine Below.setCell ?_ ?_ _) | (with_reducible refine Below.trans ?_ (Below.mono (by assumption) ?_)) | (simp only [sz_alloc, sz_set, sz_drew, sz_drewN, sz_iterAt, sz_iter] at *; omega) | omega | (simp; done) | (simp; omega) | (apply Below.size; assumption) | (simp only [sz_drew, sz_drewN]; apply Below.size; assumption) | (refine Nat.le_trans ?_ (Below.size (by assumption)))))))
        (first
          | (go_at_call 13; refine (refSpans_any _ _ _ _ _ (by first | exact hR5.below (And.left (by assumption)) | exact hl5.below (And.left (by assumption))) (by omega)).mono ?_; rintro e w' ⟨rfl, hb'⟩; first | rw [HBR.out] | rw [HBL.out])
          | (go_at_call 14; refine (H3.out _ (And.left (by assumption))).mono ?_; rintro e w' ⟨rfl, hb'⟩))
      have hS : Below wr.heap.size wr _ ∧ _ := (by assumption)
      have hbz := hS.1
      clear hS
      go_wp2_with fail
      go_roundg (ns.length - (i + 1))
      case measure => omega
      case rel => exact ⟨i + 1, by omega, by omega, by go_num, (by repeat' (first | (with_reducible exact Below.refl _ _) | (with_reducible assumption) | (with_reducible refine Below.drew ?_) | (with_reducible refine below_drewN ?_ _) | (with_reducible refine below_iterAt ?_ ?_ _ _) | (with_reducible refine below_iter ?_ ?_ _ _) | (with_reducible refine Below.alloc ?_ ?_ _) | (with_reducible refine Below.setCell ?_ ?_ _) | (with_reducible refine Below.trans ?_ (Below.mono (by assumption) ?_)) | (simp only [sz_alloc, sz_set, sz_drew, sz_drewN, sz_iterAt, sz_iter] at *; omega) | omega | (simp; done) | (simp; omega) | (apply Below.size; assumption) | (simp only [sz_drew, sz_drewN]; apply Below.size; assumption) | (refine Nat.le_trans ?_ (Below.size (by assumption)))))⟩
    · have i1 : ¬ ((i : Int) < (ns.length : Int)) := by omega
      go_wp2_with fail
      go_ret
      exact ⟨ret_bool rfl, (by repeat' (first | (with_reducible exact Below.refl _ _) | (with_reducible assumption) | (with_reducible refine Below.drew ?_) | (with_reducible refine below_drewN ?_ _) | (with_reducible refine below_iterAt ?_ ?_ _ _) | (with_reducible refine below_iter ?_ ?_ _ _) | (with_reducible refine Below.alloc ?_ ?_ _) | (with_reducible refine Below.setCell ?_ ?_ _) | (with_reducible refine Below.trans ?_ (Below.mono (by assumption) ?_)) | (simp only [sz_alloc, sz_set, sz_drew, sz_drewN, sz_iterAt, sz_iter] at *; omega) | omega | (simp; done) | (simp; omega) | (apply Below.size; assumption) | (simp only [sz_drew, sz_drewN]; apply Below.size; assumption) | (refine Nat.le_trans ?_ (Below.size (by assumption)))))⟩
end Go.Proofs.Ythdbbefiebolbaa
