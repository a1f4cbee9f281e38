/- SpansWithout, walked: it gives true. -/
import Derived.Test.YthdbbefiebolbaaSpansK
import Derived.Test.YthdbbefiebolbaaSpansM
import Derived.Test.YthdbbefiebolbaaSpansW
import Derived.Deep.DrawnRows
import Derived.Test.YthdbbefiebolbaaSpansQ
set_option linter.unusedSimpArgs false
set_option linter.unusedVariables false
namespace Go.Proofs.Ythdbbefiebolbaa
open Go.RowKit Go.Sort
attribute [local go_sem ↓] Go.wp_at_zero Go.wp_at_succ

set_option maxRecDepth 100000 in
set_option maxHeartbeats 3200000 in
theorem lawW_any (xa xb : List Sp) (n : Int) (A B : Option Addr) (ca cb : Nat) (w : World) (hca : xa.length ≤ ca) (hcb : xb.length ≤ cb) (hra : RdL w 2 A (xa.map spC)) (hrb : RdL w 2 B (xb.map spC)) (hwa : ∀ s ∈ xa, SpWf s) (hwb : ∀ s ∈ xb, SpWf s) :
    Calls Try.prog 6 #[.slice A xa.length ca, .slice B xb.length cb, .int .i64 n] w fun e w' => e = .returned (.bool true) ∧ Below w.heap.size w w' := by
  obtain ⟨la, hla⟩ : ∃ l, xa.take 100 = l := ⟨_, rfl⟩
  obtain ⟨lb, hlb⟩ : ∃ l, xb.take 100 = l := ⟨_, rfl⟩
  have hfa := few_any xa A ca w hca hra
  have hfb := few_any xb B cb w hcb hrb
  have hrla : RdL w 2 A (la.map spC) := by rw [← hla]; exact hra.take_ 100
  have hrlb : RdL w 2 B (lb.map spC) := by rw [← hlb]; exact hrb.take_ 100
  have hwla : ∀ s ∈ la, SpWf s := by rw [← hla]; exact fun s hs => hwa s (List.mem_of_mem_take hs)
  have hwlb : ∀ s ∈ lb, SpWf s := by rw [← hlb]; exact fun s hs => hwb s (List.mem_of_mem_take hs)
  have hlla : la.length ≤ 100 := by rw [← hla, List.length_take]; omega
  have hllb : lb.length ≤ 100 := by rw [← hlb, List.length_take]; omega
  rw [hla] at hfa
  rw [hlb] at hfb
  have HFA := Lib.hid hfa
  have HFB := Lib.hid hfb
  have HWA := Lib.hid hwla
  have HWB := Lib.hid hwlb
  clear hfa hfb hra hrb hwa hwb hla hlb hwla hwlb
  go_enter Try.func6, Try.ntmps6
  go_wp2_with fail
  refine HFA.out.mono ?_
  rintro e w0 ⟨rfl, rfl⟩
  go_wp2_with fail
  refine HFB.out.mono ?_
  rintro e w9 ⟨rfl, rfl⟩
  go_wp2_with fail
  refine (without_any la lb A B ca cb _ (hrla.below (by repeat' (first | (with_reducible exact Below.refl _ _) | (with_reducible assumption) | (with_reducible refine Below.drew ?_) | (with_reducible refine below_drewN ?_ _) | (with_reducible refine below_iterAt ?_ ?_ _ _) | (with_reducible refine below_iter ?_ ?_ _ _) | (with_reducible refine Below.alloc ?_ ?_ _) | (with_reducible refine Below.setCell ?_ ?_ _) | (with_reducible refine Below.trans ?_ (Below.mono (by assumption) ?_)) | (simp only [sz_alloc, sz_set, sz_drew, sz_drewN, sz_iterAt, sz_iter] at *; omega) | omega | (simp; done) | (simp; omega) | (apply Below.size; assumption) | (simp only [sz_drew, sz_drewN]; apply Below.size; assumption) | (refine Nat.le_trans ?_ (Below.size (by assumption)))))) (hrlb.below (by repeat' (first | (with_reducible exact Below.refl _ _) | (with_reducible assumption) | (with_reducible refine Below.drew ?_) | (with_reducible refine below_drewN ?_ _) | (with_reducible refine below_iterAt ?_ ?_ _ _) | (with_reducible refine below_iter ?_ ?_ _ _) | (with_reducible refine Below.alloc ?_ ?_ _) | (with_reducible refine Below.setCell ?_ ?_ _) | (with_reducible refine Below.trans ?_ (Below.mono (by assumption) ?_)) | (simp only [sz_alloc, sz_set, sz_drew, sz_drewN, sz_iterAt, sz_iter] at *; omega) | omega | (simp; done) | (simp; omega) | (apply Below.size; assumption) | (simp only [sz_drew, sz_drewN]; apply Below.size; assumption) | (refine Nat.le_trans ?_ (Below.size (by assumption)))))) HWA.out HWB.out (by omega) (by omega)).mono ?_
  rintro e w1 ⟨R, C, cc, rfl, hrR, hJ, _, hb1⟩
  have hlR := hJ.len
  have hmm : la.length * (lb.length + 1) ≤ 100 * 101 := Nat.mul_le_mul hlla (by omega)
  have HJ := Lib.hid hJ
  clear hJ
  go_wp2_with fail
  refine (awake_any _).mono ?_
  rintro e w2 ⟨rfl, hb2⟩
  go_wp2_with fail
  refine (refOrdered_any R HJ.out.ord HJ.out.wf C cc _ (hrR.below (by repeat' (first | (with_reducible exact Below.refl _ _) | (with_reducible assumption) | (with_reducible refine Below.drew ?_) | (with_reducible refine below_drewN ?_ _) | (with_reducible refine below_iterAt ?_ ?_ _ _) | (with_reducible refine below_iter ?_ ?_ _ _) | (with_reducible refine Below.alloc ?_ ?_ _) | (with_reducible refine Below.setCell ?_ ?_ _) | (with_reducible refine Below.trans ?_ (Below.mono (by assumption) ?_)) | (simp only [sz_alloc, sz_set, sz_drew, sz_drewN, sz_iterAt, sz_iter] at *; omega) | omega | (simp; done) | (simp; omega) | (apply Below.size; assumption) | (simp only [sz_drew, sz_drewN]; apply Below.size; assumption) | (refine Nat.le_trans ?_ (Below.size (by assumption)))))) (by omega)).mono ?_
  rintro e w3 ⟨rfl, hb3⟩
  go_wp2_with fail
  have hown := World.ownsRow_lit (base := w3.heap.size) (e := 22) (size := 1) w3 #[.slice A la.length ca, .slice B lb.length cb, .slice C R.length cc] 3 (Nat.le_refl _) (by decide) rfl
  obtain ⟨L, cL, e, hL⟩ := own_rd (css := ([⟨la, A, ca⟩, ⟨lb, B, cb⟩, ⟨R, C, cc⟩] : List SpAt).map SpAt.cells) hown rfl (by intro c hc; obtain ⟨x, _, rfl⟩ := List.mem_map.1 hc; rfl) rfl
  cases e
  have hra3 : RdL w3 2 A (la.map spC) := hrla.below (by repeat' (first | (with_reducible exact Below.refl _ _) | (with_reducible assumption) | (with_reducible refine Below.drew ?_) | (with_reducible refine below_drewN ?_ _) | (with_reducible refine below_iterAt ?_ ?_ _ _) | (with_reducible refine below_iter ?_ ?_ _ _) | (with_reducible refine Below.alloc ?_ ?_ _) | (with_reducible refine Below.setCell ?_ ?_ _) | (with_reducible refine Below.trans ?_ (Below.mono (by assumption) ?_)) | (simp only [sz_alloc, sz_set, sz_drew, sz_drewN, sz_iterAt, sz_iter] at *; omega) | omega | (simp; done) | (simp; omega) | (apply Below.size; assumption) | (simp only [sz_drew, sz_drewN]; apply Below.size; assumption) | (refine Nat.le_trans ?_ (Below.size (by assumption)))))
  have hrb3 : RdL w3 2 B (lb.map spC) := hrlb.below (by repeat' (first | (with_reducible exact Below.refl _ _) | (with_reducible assumption) | (with_reducible refine Below.drew ?_) | (with_reducible refine below_drewN ?_ _) | (with_reducible refine below_iterAt ?_ ?_ _ _) | (with_reducible refine below_iter ?_ ?_ _ _) | (with_reducible refine Below.alloc ?_ ?_ _) | (with_reducible refine Below.setCell ?_ ?_ _) | (with_reducible refine Below.trans ?_ (Below.mono (by assumption) ?_)) | (simp only [sz_alloc, sz_set, sz_drew, sz_drewN, sz_iterAt, sz_iter] at *; omega) | omega | (simp; done) | (simp; omega) | (apply Below.size; assumption) | (simp only [sz_drew, sz_drewN]; apply Below.size; assumption) | (refine Nat.le_trans ?_ (Below.size (by assumption)))))
  have hrR3 : RdL w3 2 C (R.map spC) := hrR.below (by repeat' (first | (with_reducible exact Below.refl _ _) | (with_reducible assumption) | (with_reducible refine Below.drew ?_) | (with_reducible refine below_drewN ?_ _) | (with_reducible refine below_iterAt ?_ ?_ _ _) | (with_reducible refine below_iter ?_ ?_ _ _) | (with_reducible refine Below.alloc ?_ ?_ _) | (with_reducible refine Below.setCell ?_ ?_ _) | (with_reducible refine Below.trans ?_ (Below.mono (by assumption) ?_)) | (simp only [sz_alloc, sz_set, sz_drew, sz_drewN, sz_iterAt, sz_iter] at *; omega) | omega | (simp; done) | (simp; omega) | (apply Below.size; assumption) | (simp only [sz_drew, sz_drewN]; apply Below.size; assumption) | (refine Nat.le_trans ?_ (Below.size (by assumption)))))
  refine (near_any n [⟨la, A, ca⟩, ⟨lb, B, cb⟩, ⟨R, C, cc⟩] _ 3 _ hL ?_ (by show 3 ≤ 3; decide)).mono ?_
  · intro x hx
    have : x = ⟨la, A, ca⟩ ∨ x = ⟨lb, B, cb⟩ ∨ x = ⟨R, C, cc⟩ := by simpa using hx
    rcases this with rfl | rfl | rfl
    · exact ⟨hra3.below (by repeat' (first | (with_reducible exact Below.refl _ _) | (with_reducible assumption) | (with_reducible refine Below.drew ?_) | (with_reducible refine below_drewN ?_ _) | (with_reducible refine below_iterAt ?_ ?_ _ _) | (with_reducible refine below_iter ?_ ?_ _ _) | (with_reducible refine Below.alloc ?_ ?_ _) | (with_reducible refine Below.setCell ?_ ?_ _) | (with_reducible refine Below.trans ?_ (Below.mono (by assumption) ?_)) | (simp only [sz_alloc, sz_set, sz_drew, sz_drewN, sz_iterAt, sz_iter] at *; omega) | omega | (simp; done) | (simp; omega) | (apply Below.size; assumption) | (simp only [sz_drew, sz_drewN]; apply Below.size; assumption) | (refine Nat.le_trans ?_ (Below.size (by assumption))))), HWA.out, by show la.length ≤ _; omega⟩
    · exact ⟨hrb3.below (by repeat' (first | (with_reducible exact Below.refl _ _) | (with_reducible assumption) | (with_reducible refine Below.drew ?_) | (with_reducible refine below_drewN ?_ _) | (with_reducible refine below_iterAt ?_ ?_ _ _) | (with_reducible refine below_iter ?_ ?_ _ _) | (with_reducible refine Below.alloc ?_ ?_ _) | (with_reducible refine Below.setCell ?_ ?_ _) | (with_reducible refine Below.trans ?_ (Below.mono (by assumption) ?_)) | (simp only [sz_alloc, sz_set, sz_drew, sz_drewN, sz_iterAt, sz_iter] at *; omega) | omega | (simp; done) | (simp; omega) | (apply Below.size; assumption) | (simp only [sz_drew, sz_drewN]; apply Below.size; assumption) | (refine Nat.le_trans ?_ (Below.size (by assumption))))), HWB.out, by show lb.length ≤ _; omega⟩
    · exact ⟨hrR3.below (by repeat' (first | (with_reducible exact Below.refl _ _) | (with_reducible assumption) | (with_reducible refine Below.drew ?_) | (with_reducible refine below_drewN ?_ _) | (with_reducible refine below_iterAt ?_ ?_ _ _) | (with_reducible refine below_iter ?_ ?_ _ _) | (with_reducible refine Below.alloc ?_ ?_ _) | (with_reducible refine Below.setCell ?_ ?_ _) | (with_reducible refine Below.trans ?_ (Below.mono (by assumption) ?_)) | (simp only [sz_alloc, sz_set, sz_drew, sz_drewN, sz_iterAt, sz_iter] at *; omega) | omega | (simp; done) | (simp; omega) | (apply Below.size; assumption) | (simp only [sz_drew, sz_drewN]; apply Below.size; assumption) | (refine Nat.le_trans ?_ (Below.size (by assumption))))), HJ.out.wf, by show R.length ≤ _; omega⟩
  rintro e w4 ⟨ns, N, cn, rfl, hN, hns, hb4⟩
  have hb34 : Below w3.heap.size w3 w4 := (by repeat' (first | (with_reducible exact Below.refl _ _) | (with_reducible assumption) | (with_reducible refine Below.drew ?_) | (with_reducible refine below_drewN ?_ _) | (with_reducible refine below_iterAt ?_ ?_ _ _) | (with_reducible refine below_iter ?_ ?_ _ _) | (with_reducible refine Below.alloc ?_ ?_ _) | (with_reducible refine Below.setCell ?_ ?_ _) | (with_reducible refine Below.trans ?_ (Below.mono (by assumption) ?_)) | (simp only [sz_alloc, sz_set, sz_drew, sz_drewN, sz_iterAt, sz_iter] at *; omega) | omega | (simp; done) | (simp; omega) | (apply Below.size; assumption) | (simp only [sz_drew, sz_drewN]; apply Below.size; assumption) | (refine Nat.le_trans ?_ (Below.size (by assumption)))))
  have hra4 : RdL w4 2 A (la.map spC) := hra3.below hb34
  have hrb4 : RdL w4 2 B (lb.map spC) := hrb3.below hb34
  have hrR4 : RdL w4 2 C (R.map spC) := hrR3.below hb34
  have hbw4 : Below w9.heap.size w9 w4 := (by repeat' (first | (with_reducible exact Below.refl _ _) | (with_reducible assumption) | (with_reducible refine Below.drew ?_) | (with_reducible refine below_drewN ?_ _) | (with_reducible refine below_iterAt ?_ ?_ _ _) | (with_reducible refine below_iter ?_ ?_ _ _) | (with_reducible refine Below.alloc ?_ ?_ _) | (with_reducible refine Below.setCell ?_ ?_ _) | (with_reducible refine Below.trans ?_ (Below.mono (by assumption) ?_)) | (simp only [sz_alloc, sz_set, sz_drew, sz_drewN, sz_iterAt, sz_iter] at *; omega) | omega | (simp; done) | (simp; omega) | (apply Below.size; assumption) | (simp only [sz_drew, sz_drewN]; apply Below.size; assumption) | (refine Nat.le_trans ?_ (Below.size (by assumption)))))
  have hz4 := hbw4.size
  have HN := Lib.hid hN
  clear hown hL hra3 hrb3 hrR3 hN
  go_wp2_with fail
  go_loopg [9] ns.length (fun k iv wr => ∃ i : Nat, i ≤ ns.length ∧ ns.length - i ≤ k ∧ iv = .int .i64 i ∧ Below w4.heap.size w4 wr)
  case atStart => exact ⟨0, by omega, by omega, rfl, Below.refl _ _⟩
  case round =>
    obtain ⟨i, hi, hik, rfl, hbel⟩ := hrel
    have hsz := hbel.size
    by_cases hlt : i < ns.length
    · obtain ⟨bN, oN, hBN, hx⟩ := (HN.out.below hbel).at_ hlt
      subst hBN
      generalize ns[i]'hlt = q at *
      have y0 : wr.cell? ⟨bN, oN + i, none⟩ = some (.int .i64 q) := by have := hx.get 0 rfl; simpa using this
      have i1 : (i : Int) < (ns.length : Int) := by omega
      have i2 : (0 : Int) ≤ (i : Int) := by omega
      have hR5 := hrR4.below hbel
      have ha5 := hra4.below hbel
      have hb5 := hrb4.below hbel
      have hbe : inS R q = (inS la q && !inS lb q) := HJ.out.same q
      clear hx
      have hNl : bN < wr.heap.size := cell_lt y0
      generalize hsa : inS la q = ba at *
      generalize hsb : inS lb q = bb at *
      generalize hsr : inS R q = br at *
      have HBR := Lib.hid hsr
      have HBA := Lib.hid hsa
      have HBB := Lib.hid hsb
      clear hsr hsa hsb
      cases ba <;> cases bb
      all_goals
        simp only [Bool.and_true, Bool.and_false, Bool.true_and, Bool.false_and, Bool.not_true, Bool.not_false] at hbe
        subst hbe
        go_wp2_with fail
        go_quiet (first
          | (go_at_call 13; refine Calls.quiet_of_same (refSpans_v _ _ _ _ _ _ (by first | exact HBR.out | exact HBA.out | exact HBB.out) (by first | exact hR5.below (below_drewN (Below.refl _ _) _) | exact ha5.below (below_drewN (Below.refl _ _) _) | exact hb5.below (below_drewN (Below.refl _ _) _)) (by omega)))
          | fail)
        go_wp2_with fail
        go_roundg (ns.length - (i + 1))
        case measure => omega
        case rel => exact ⟨i + 1, by omega, by omega, by go_num, (by repeat' (first | (with_reducible exact Below.refl _ _) | (with_reducible assumption) | (with_reducible refine Below.drew ?_) | (with_reducible refine below_drewN ?_ _) | (with_reducible refine below_iterAt ?_ ?_ _ _) | (with_reducible refine below_iter ?_ ?_ _ _) | (with_reducible refine Below.alloc ?_ ?_ _) | (with_reducible refine Below.setCell ?_ ?_ _) | (with_reducible refine Below.trans ?_ (Below.mono (by assumption) ?_)) | (simp only [sz_alloc, sz_set, sz_drew, sz_drewN, sz_iterAt, sz_iter] at *; omega) | omega | (simp; done) | (simp; omega) | (apply Below.size; assumption) | (simp only [sz_drew, sz_drewN]; apply Below.size; assumption) | (refine Nat.le_trans ?_ (Below.size (by assumption)))))⟩
    · have i1 : ¬ ((i : Int) < (ns.length : Int)) := by omega
      go_wp2_with fail
      go_ret
      exact ⟨ret_bool rfl, (by repeat' (first | (with_reducible exact Below.refl _ _) | (with_reducible assumption) | (with_reducible refine Below.drew ?_) | (with_reducible refine below_drewN ?_ _) | (with_reducible refine below_iterAt ?_ ?_ _ _) | (with_reducible refine below_iter ?_ ?_ _ _) | (with_reducible refine Below.alloc ?_ ?_ _) | (with_reducible refine Below.setCell ?_ ?_ _) | (with_reducible refine Below.trans ?_ (Below.mono (by assumption) ?_)) | (simp only [sz_alloc, sz_set, sz_drew, sz_drewN, sz_iterAt, sz_iter] at *; omega) | omega | (simp; done) | (simp; omega) | (apply Below.size; assumption) | (simp only [sz_drew, sz_drewN]; apply Below.size; assumption) | (refine Nat.le_trans ?_ (Below.size (by assumption)))))⟩
end Go.Proofs.Ythdbbefiebolbaa
