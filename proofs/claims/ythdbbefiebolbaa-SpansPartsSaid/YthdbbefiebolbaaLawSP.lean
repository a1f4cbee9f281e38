/- SpansParts, walked: it gives true. -/
import Derived.Test.YthdbbefiebolbaaSpansK
import Derived.Test.YthdbbefiebolbaaSpansM
import Derived.Test.YthdbbefiebolbaaSpansW
import Derived.Deep.DrawnRows
import Derived.Test.YthdbbefiebolbaaSpansQ
import Derived.Test.YthdbbefiebolbaaSpread
set_option linter.unusedSimpArgs false
set_option linter.unusedVariables false
namespace Go.Proofs.Ythdbbefiebolbaa
open Go.RowKit Go.Sort
attribute [local go_sem ↓] Go.wp_at_zero Go.wp_at_succ

theorem below_c {a b c : World} (h1 : Below a.heap.size a b) (h2 : Below b.heap.size b c) : Below a.heap.size a c := h1.trans (h2.mono h1.size)
set_option maxRecDepth 100000 in
set_option maxHeartbeats 6400000 in
theorem lawP_any (xa xb : List Sp) (A B : Option Addr) (ca cb : Nat) (w : World) (hca : xa.length ≤ ca) (hcb : xb.length ≤ cb) (hra : RdL w 2 A (xa.map spC)) (hrb : RdL w 2 B (xb.map spC)) (hwa : ∀ s ∈ xa, SpWf s) (hwb : ∀ s ∈ xb, SpWf s) :
    Calls Try.prog 7 #[.slice A xa.length ca, .slice B xb.length cb] w fun e w' => e = .returned (.bool true) ∧ Below w.heap.size w w' := by
  obtain ⟨la, hla⟩ : ∃ l, xa.take 100 = l := ⟨_, rfl⟩
  obtain ⟨lb, hlb⟩ : ∃ l, xb.take 100 = l := ⟨_, rfl⟩
  have hfa := few_any xa A ca w hca hra
  have hfb := few_any xb B cb w hcb hrb
  have hrla : RdL w 2 A (la.map spC) := by rw [← hla]; exact hra.take_ 100
  have hrlb : RdL w 2 B (lb.map spC) := by rw [← hlb]; exact hrb.take_ 100
  have hwla : ∀ s ∈ la, SpWf s := by rw [← hla]; exact fun s hs => hwa s (List.mem_of_mem_take hs)
  have hwlb : ∀ s ∈ lb, SpWf s := by rw [← hlb]; exact fun s hs => hwb s (List.mem_of_mem_take hs)
  have hlla : la.length ≤ 100 := by rw [← hla, List.length_take]; omega
  have hllb : lb.length ≤ 100 := by rw [← hlb, List.length_take]; omega
  rw [hla] at hfa
  rw [hlb] at hfb
  have HFA := Lib.hid hfa
  have HFB := Lib.hid hfb
  have HWA := Lib.hid hwla
  have HWB := Lib.hid hwlb
  clear hfa hfb hra hrb hwa hwb hla hlb hwla hwlb
  obtain ⟨i0, hinf, hza, hzb, hzc⟩ := info_parts (show (Try.prog.info? 35).map (fun i => (i.zero, i.size, i.bytes)) = some (some (.agg #[.int .i64 0, .int .i64 0]), 2, 16) by kernel_rfl)
  go_enter Try.func7, Try.ntmps7
  go_wp2_with fail
  refine HFA.out.mono ?_
  rintro e w0 ⟨rfl, rfl⟩
  go_wp2_with fail
  refine HFB.out.mono ?_
  rintro e w9 ⟨rfl, rfl⟩
  go_wp2_with fail
  refine (meet_any la lb A B ca cb _ hrla hrlb HWA.out HWB.out (by omega) (by omega)).mono ?_
  rintro e w1 ⟨X, CX, cx, rfl, hrX, hX, _, hb1⟩
  have hlX := hX.len
  have hmm : la.length * lb.length ≤ 100 * 100 := Nat.mul_le_mul hlla hllb
  have HX := Lib.hid hX
  clear hX
  go_wp2_with fail
  refine (without_any la lb A B ca cb _ (hrla.below hb1) (hrlb.below hb1) HWA.out HWB.out (by omega) (by omega)).mono ?_
  rintro e w2 ⟨Y, CY, cy, rfl, hrY, hY, _, hb2⟩
  have hlY := hY.len
  have hmn : la.length * (lb.length + 1) ≤ 100 * 101 := Nat.mul_le_mul hlla (by omega)
  have HY := Lib.hid hY
  clear hY
  go_wp2_with fail
  refine (awake_any _).mono ?_
  rintro e w3 ⟨rfl, hb3⟩
  go_wp2_with fail
  refine (meet_any X Y CX CY cx cy _ (hrX.below (below_c hb2 hb3)) (hrY.below hb3) HX.out.wf HY.out.wf (by omega) (by omega)).mono ?_
  rintro e w4 ⟨Z, CZ, cz, rfl, hrZ, hZ, _, hb4⟩
  have hz0 : Z = [] := ordL_none hZ.ord (fun n => by rw [hZ.same]; show (inS X n && inS Y n) = false; rw [HX.out.same, HY.out.same]; show ((inS la n && inS lb n) && (inS la n && !inS lb n)) = false; cases inS la n <;> cases inS lb n <;> rfl)
  subst hz0
  clear hZ hrZ
  have hcx0 : CX = none → X.length = 0 := fun h => by subst h; cases X with | nil => rfl | cons x r => obtain ⟨b, o, e, _⟩ := hrX.at_ (j := 0) (by simp); cases e
  have hcy0 : CY = none → Y.length = 0 := fun h => by subst h; cases Y with | nil => rfl | cons x r => obtain ⟨b, o, e, _⟩ := hrY.at_ (j := 0) (by simp); cases e
  have hb24 : Below w2.heap.size w2 w4 := below_c hb3 hb4
  have hb14 : Below w1.heap.size w1 w4 := below_c hb2 hb24
  have hb04 : Below w9.heap.size w9 w4 := below_c hb1 hb14
  have hal4 : Below w4.heap.size w4 (w4.alloc (.cells #[] 35)) := (Below.refl _ _).alloc (Nat.le_refl _) _
  have HCX := Lib.hid hcx0
  have HCY := Lib.hid hcy0
  clear hcx0 hcy0
  have hown0 := World.ownsRow_lit (base := w4.heap.size) (e := 35) (size := 2) w4 #[] 0 (Nat.le_refl _) (by decide) rfl
  have hrX4 : RdL (w4.alloc (.cells #[] 35)) 2 CX (X.map spC) := hrX.below (below_c hb14 hal4)
  have hlenC : ∀ l : List Sp, ∀ c ∈ l.map spC, c.length = 2 := by intro l c hc; obtain ⟨x, _, rfl⟩ := List.mem_map.1 hc; rfl
  have hone : ∀ l : List Sp, ∀ u ∈ l.flatMap spC, u.oneCell' = true := by intro l u hu; obtain ⟨x, _, hx⟩ := List.mem_flatMap.1 hu; simp [spC] at hx; rcases hx with rfl | rfl <;> rfl
  have HO0 := Lib.hid hown0
  have HRX4 := Lib.hid hrX4
  have HLC := Lib.hid hlenC
  have HON := Lib.hid hone
  clear hown0 hrX4 hlenC hone
  go_wp2_with (first
    | (at_builtin; refine wpList_spread _ rfl _ _ 22 rfl w4.heap.size 35 i0 (.agg #[.int .i64 0, .int .i64 0]) 2 16 Try.underlying22 hinf hza hzb hzc rfl (by decide) _ 0 _ rfl HO0.out CX X.length cx (X.flatMap spC) rfl (flat_len X) HCX.out (fun ad hA j u hu => rd_flat (by rw [← hA]; exact HRX4.out) (HLC.out X) (by decide) j u (by rw [← flat_css]; exact hu)) (HON.out X) (by unfold maxLen; omega) (by omega) (by simp) ?_)
    | fail)
  intro v5 w5 hown5 hg5
  have hb5 : Below w4.heap.size w4 w5 := Below.grown ((Below.refl _ _).alloc (Nat.le_refl _) _) hg5 (by simp) (fun g hg => (HO0.out.lt g hg).1)
  have hrY5 : RdL w5 2 CY (Y.map spC) := hrY.below (below_c hb24 hb5)
  have hownX : w5.ownsRow w4.heap.size 35 2 v5 X.length (X.flatMap spC) := hown5
  have HO5 := Lib.hid hownX
  have HRY5 := Lib.hid hrY5
  clear hown5 hg5 hownX hrY5
  have hz5 := hb5.size
  go_wp2_with (first
    | (at_builtin; refine wpList_spread _ rfl _ _ 22 rfl w4.heap.size 35 i0 (.agg #[.int .i64 0, .int .i64 0]) 2 16 Try.underlying22 hinf hza hzb hzc rfl (by decide) _ _ _ rfl HO5.out CY Y.length cy (Y.flatMap spC) rfl (flat_len Y) HCY.out (fun ad hA j u hu => rd_flat (by rw [← hA]; exact HRY5.out) (HLC.out Y) (by decide) j u (by rw [← flat_css]; exact hu)) (HON.out Y) (by unfold maxLen; omega) (by omega) (by omega) ?_)
    | fail)
  intro v6 w6 hown6 hg6
  have hb6 : Below w4.heap.size w4 w6 := Below.grown hb5 hg6 hz5 (fun g hg => (HO5.out.lt g hg).1)
  have hb46 : Below w9.heap.size w9 w6 := below_c hb04 hb6
  have hlXY : (X ++ Y).length = X.length + Y.length := List.length_append
  obtain ⟨D, cd, rfl, hrD⟩ := own_rd (css := (X ++ Y).map spC) (n := X.length + Y.length) hown6 (by rw [← flat_css, List.flatMap_append]) (HLC.out (X ++ Y)) (by simp)
  have hwXY : ∀ s ∈ X ++ Y, SpWf s := fun s hs => (List.mem_append.1 hs).elim (HX.out.wf s) (HY.out.wf s)
  have HRD := Lib.hid hrD
  have HWXY := Lib.hid hwXY
  clear hown6 hg6 hrD hwXY
  have hinXY : ∀ n, inS (X ++ Y) n = inS la n := fun n => by rw [inS_append, HX.out.same, HY.out.same]; show ((inS la n && inS lb n) || (inS la n && !inS lb n)) = inS la n; cases inS la n <;> cases inS lb n <;> rfl
  have HIN := Lib.hid hinXY
  have hlen2 : (X ++ Y).length ≤ 1000000 := by rw [hlXY]; omega
  rw [← hlXY]
  clear hinXY hlXY
  generalize X ++ Y = XY at *
  have hz6 := hb46.size
  have hrA6 : RdL w6 2 A (la.map spC) := hrla.below hb46
  have hrB6 : RdL w6 2 B (lb.map spC) := hrlb.below hb46
  have hrX6 : RdL w6 2 CX (X.map spC) := hrX.below (below_c hb14 hb6)
  clear hrla hrlb hrX hrY hb1 hb2 hb3 hb4 hb5 hb6 hb24 hb14 hb04 hal4 hz5 HRX4 HRY5 HO0 HO5 HFA HFB
  go_wp2_with fail
  refine (join_any XY D cd _ HRD.out HWXY.out (by omega)).mono ?_
  rintro e w7 ⟨R1, D1, c1, rfl, hr1, hj1, _, _, hb7⟩
  have q7 : Below w6.heap.size w6 w7 := hb7
  have HJ1 := Lib.hid hj1
  clear hj1
  go_wp2_with fail
  refine (join_any la A ca _ (hrA6.below q7) HWA.out (by omega)).mono ?_
  rintro e w8 ⟨R2, D2, c2, rfl, hr2, hj2, _, _, hb8⟩
  have q8 := below_c q7 hb8
  have hl2 := hj2.len
  have HJ2 := Lib.hid hj2
  clear hj2
  have he12 : R1 = R2 := joinOf_uniq HJ1.out HJ2.out HIN.out
  have H12 := Lib.hid he12
  clear he12
  have hl1 : R1.length ≤ 100 := by rw [H12.out]; omega
  go_wp2_with fail
  refine (same_any R1 R2 D1 D2 c1 c2 _ (hr1.below hb8) hr2 (by omega) H12.out).mono ?_
  rintro e u0 ⟨rfl, hd0⟩
  have q9 := below_c q8 hd0
  clear q7 hb8 hr1 hr2
  go_wp2_with fail
  refine (join_any X CX cx _ (hrX6.below q9) HX.out.wf (by omega)).mono ?_
  rintro e u1 ⟨R3, D3, c3, rfl, hr3, hj3, _, _, hd1⟩
  have s1 := below_c q9 hd1
  have hl3 := hj3.len
  have h3X : R3 = X := ord_uniq R3 X hj3.ord HX.out.ord hj3.same
  have H3X := Lib.hid h3X
  clear hj3 h3X
  go_wp2_with fail
  refine (same_any R3 X D3 CX c3 cx _ hr3 (hrX6.below s1) (by omega) H3X.out).mono ?_
  rintro e u2 ⟨rfl, hd2⟩
  have s2 := below_c s1 hd2
  go_wp2_with fail
  refine (meet_any la la A A ca ca _ (hrA6.below s2) (hrA6.below s2) HWA.out HWA.out (by omega) (by omega)).mono ?_
  rintro e u3 ⟨R4, D4, c4, rfl, hr4, hj4, _, hd3⟩
  have s3 := below_c s2 hd3
  have hl4 := hj4.len
  have HJ4 := Lib.hid hj4
  have hm4 : la.length * la.length ≤ 100 * 100 := Nat.mul_le_mul hlla hlla
  clear hj4
  go_wp2_with fail
  refine (join_any la A ca _ (hrA6.below s3) HWA.out (by omega)).mono ?_
  rintro e u4 ⟨R5, D5, c5, rfl, hr5, hj5, _, _, hd4⟩
  have s4 := below_c s3 hd4
  have h45 : R4 = R5 := HJ4.out.uniq hj5.set (fun n => by show (inS la n && inS la n) = inS la n; cases inS la n <;> rfl)
  have H45 := Lib.hid h45
  clear hj5 h45
  go_wp2_with fail
  refine (same_any R4 R5 D4 D5 c4 c5 _ (hr4.below hd4) hr5 (by omega) H45.out).mono ?_
  rintro e u5 ⟨rfl, hd5⟩
  have s5 := below_c s4 hd5
  go_wp2_with fail
  refine (without_any la la A A ca ca _ (hrA6.below s5) (hrA6.below s5) HWA.out HWA.out (by omega) (by omega)).mono ?_
  rintro e u6 ⟨R6, D6, c6, rfl, hr6, hj6, _, hd6⟩
  have s6 := below_c s5 hd6
  have h6 : R6 = [] := ordL_none hj6.ord (fun n => by rw [hj6.same]; show (inS la n && !inS la n) = false; cases inS la n <;> rfl)
  subst h6
  clear hj6 hr6
  go_wp2_with fail
  refine (meet_any la lb A B ca cb _ (hrA6.below s6) (hrB6.below s6) HWA.out HWB.out (by omega) (by omega)).mono ?_
  rintro e u7 ⟨R7, D7, c7, rfl, hr7, hj7, _, hd7⟩
  have s7 := below_c s6 hd7
  have hl7 := hj7.len
  have HJ7 := Lib.hid hj7
  clear hj7
  go_wp2_with fail
  refine (meet_any lb la B A cb ca _ (hrB6.below s7) (hrA6.below s7) HWB.out HWA.out (by omega) (by omega)).mono ?_
  rintro e u8 ⟨R8, D8, c8, rfl, hr8, hj8, _, hd8⟩
  have s8 := below_c s7 hd8
  have h78 : R7 = R8 := HJ7.out.uniq hj8 (fun n => by show (inS la n && inS lb n) = (inS lb n && inS la n); cases inS la n <;> cases inS lb n <;> rfl)
  have H78 := Lib.hid h78
  clear hj8 h78
  go_wp2_with fail
  refine (same_any R7 R8 D7 D8 c7 c8 _ (hr7.below hd8) hr8 (by omega) H78.out).mono ?_
  rintro e u9 ⟨rfl, hd9⟩
  have s9 := below_c hb46 (below_c s8 hd9)
  go_wp2_with fail
  go_ret
  exact ⟨ret_bool rfl, s9⟩
end Go.Proofs.Ythdbbefiebolbaa
