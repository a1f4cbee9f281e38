/- soffitlaw12.awake, walked. -/
import Derived.Test.YtogegempbjpdiaaDoorLaw12
import Derived.Test.YtogegempbjpdiaaDoorRow
set_option linter.unusedSimpArgs false
set_option linter.unusedVariables false
namespace Go.Proofs.YtogegempbjpdiaaDoor
open Go.RowKit

def dayV (i : Int) : Vl := ⟨4, 0, 0, ⟨#[]⟩, i⟩
def awT : Tst := { k := 2, lo := dayV 5, hi := Vl.zero, ol := false, oh := false }
def awC : Cel := ⟨false, false, [awT]⟩
def anyC : Cel := ⟨true, false, []⟩
theorem nil_toList : (⟨#[]⟩ : ByteArray).toList = [] := by rw [ByteArray.toList_eq]
theorem day_sound {i : Int} (h : 0 ≤ i ∧ i ≤ 3652058) : sndB (dayV i) = true := by
  unfold sndB dayV
  simp [nil_toList, h]
theorem zero_sound : sndB Vl.zero = true := by
  unfold sndB Vl.zero
  simp [nil_toList]
theorem day_wf {i : Int} (h : 0 ≤ i ∧ i ≤ 3652058) : (dayV i).wf := ⟨by unfold I64 dayV; simp, by unfold I64 dayV; simp, by unfold I64 dayV; simp, by unfold I64 dayV; simp; omega, by show (0 : Nat) ≤ 9223372036854775807; omega⟩
theorem zero_wf : Vl.zero.wf := ⟨by unfold I64 Vl.zero; simp, by unfold I64 Vl.zero; simp, by unfold I64 Vl.zero; simp, by unfold I64 Vl.zero; simp, by show (0 : Nat) ≤ 9223372036854775807; omega⟩
theorem awT_wf : awT.wf := by
  refine ⟨?_, day_wf (by omega), zero_wf⟩
  unfold I64 awT; simp
theorem awT_ok : uOneB awT = true := by
  unfold uOneB
  have h1 : sndB awT.lo = true := day_sound (by omega)
  have h2 : sndB awT.hi = true := zero_sound
  have h3 : eqB awT.hi Vl.zero = true := (eqB_iff _ _).mpr rfl
  rw [h1, h2, h3]
  rfl
theorem awC_ok : uSndB awC = true := by
  unfold uSndB awC
  simp [awT_ok]
theorem anyC_ok : uSndB anyC = true := rfl
theorem aw_less {i : Int} (h : 0 ≤ i ∧ i ≤ 3652058) : allB awC (dayV i) = decide (i < 5) := by
  have hh : oneB awT (dayV i) = decide (i < 5) := by
    show lessB (dayV i) (dayV 5) = _
    rw [lessB_eq (day_sound h) (day_sound (i := 5) (by omega)) rfl rfl]; rfl
  unfold allB awC
  simp only [List.any_cons, List.any_nil, Bool.or_false, hh]
  cases decide (i < 5) <;> rfl
theorem aw_all {i : Int} (h : 0 ≤ i ∧ i ≤ 3652058) : allRes awC (dayV i) = .tuple #[.bool (decide (i < 5)), .int .i64 0] := by
  unfold allRes
  rw [awC_ok, day_sound h, aw_less h]; rfl
theorem rdL_one {W : World} {sz b : Nat} {cs : List Value} (h : ∀ o, W.cell? ⟨b, o, none⟩ = cs.toArray[o]?) : RdL W sz (some ⟨b, 0, none⟩) [cs] := by
  intro j c hc
  rcases j with _ | j
  · obtain rfl : cs = c := by simpa using hc
    exact ⟨b, 0, rfl, fun i v hv => by rw [show (0 + 0 * sz + i) = i by omega, h]; simpa using hv⟩
  · simp at hc
theorem rdL_two {W : World} {sz b : Nat} {cs ds : List Value} (hl : cs.length = sz) (h : ∀ o, W.cell? ⟨b, o, none⟩ = (cs ++ ds).toArray[o]?) : RdL W sz (some ⟨b, 0, none⟩) [cs, ds] := by
  intro j c hc
  rcases j with _ | _ | j
  · obtain rfl : cs = c := by simpa using hc
    exact ⟨b, 0, rfl, fun i v hv => by
      rw [show (0 + 0 * sz + i) = i by omega, h]
      have hi : i < cs.length := (List.getElem?_eq_some_iff.mp hv).1
      simp only [List.getElem?_toArray]
      rw [List.getElem?_append_left hi]; exact hv⟩
  · obtain rfl : ds = c := by simpa using hc
    exact ⟨b, 0, rfl, fun i v hv => by
      rw [show (0 + (0 + 1) * sz + i) = cs.length + i by omega, h]
      simp only [List.getElem?_toArray]
      rw [List.getElem?_append_right (by omega), Nat.add_sub_cancel_left]; exact hv⟩
  · simp at hc

def awP (w : World) : CelAt := ⟨awC, some ⟨w.heap.size, 0, none⟩, 1⟩
def anyP : CelAt := ⟨anyC, none, 0⟩
theorem aw_row (w : World) : rowRes [awP w, anyP] [dayV 3, Vl.zero] = .tuple #[.bool true, .int .i64 0] := by
  show rowF [(awC, dayV 3), (anyC, Vl.zero)] true = _
  rw [rowF_yes (by rw [awC_ok, day_sound (by omega)]; rfl), rowF_yes (by rw [anyC_ok, zero_sound]; rfl), aw_less (by omega)]
  rfl

set_option maxRecDepth 100000 in
set_option maxHeartbeats 1600000 in
theorem awake_any (w : World) (hE : Env w) :
    Calls Tryd.prog 10 #[] w fun e w' => e = .returned (.bool true) ∧ Below w.heap.size w w' := by
  go_enter Tryd.func10, Tryd.ntmps10
  go_wp2_with fail
  generalize hEW : (w.alloc _).alloc _ = W1
  have hbW : Below w.heap.size w W1 := (by rw [← hEW]; exact (by repeat' (first | (with_reducible exact Below.refl _ _) | (with_reducible assumption) | (with_reducible refine Below.drew ?_) | (with_reducible refine below_drewN ?_ _) | (with_reducible refine below_iterAt ?_ ?_ _ _) | (with_reducible refine below_iter ?_ ?_ _ _) | (with_reducible refine Below.alloc ?_ ?_ _) | (with_reducible refine Below.setCell ?_ ?_ _) | (with_reducible refine Below.trans ?_ (Below.mono (by assumption) ?_)) | (simp only [sz_alloc, sz_set, sz_drew, sz_drewN, sz_iterAt, sz_iter] at *; omega) | omega | (simp; done) | (simp; omega) | (apply Below.size; assumption) | (simp only [sz_drew, sz_drewN]; apply Below.size; assumption) | (refine Nat.le_trans ?_ (Below.size (by assumption))))))
  have lW_0 : w.heap.size < W1.heap.size := (by rw [← hEW]; simp; omega)
  have lW_1 : w.heap.size + 1 < W1.heap.size := (by rw [← hEW]; simp)
  have t0 : ∀ o, W1.cell? ⟨w.heap.size, o, none⟩ = awT.cells.toArray[o]? := by intro o; rw [← hEW]; simp [go_sem]; rfl
  have d0 : W1.cell? ⟨w.heap.size + 1, 0, none⟩ = some (.bool false) := by rw [← hEW]; simp [go_sem]
  have d1 : W1.cell? ⟨w.heap.size + 1, 1, none⟩ = some (.bool false) := by rw [← hEW]; simp [go_sem]
  have d2 : W1.cell? ⟨w.heap.size + 1, 2, none⟩ = some (.slice (some ⟨w.heap.size, 0, none⟩) 1 1) := by rw [← hEW]; simp [go_sem]
  clear hEW
  have rd : RdL W1 13 (some ⟨w.heap.size, 0, none⟩) (awC.ts.map Tst.cells) := rdL_one t0
  clear t0
  have hwf : ∀ t ∈ awC.ts, t.wf := by intro t ht; obtain rfl : t = awT := by simpa [awC] using ht
                                      exact awT_wf
  have hE1 := hE.below hbW
  refine (mAll_any awC (dayV 4) (some ⟨w.heap.size, 0, none⟩) 1 _ rd hwf (day_wf (by omega)) (by decide) hE1).mono ?_
  rintro e w1 ⟨rfl, hb1⟩
  rw [aw_all (by omega)]
  have d01 := cell_below hb1 d0
  have d11 := cell_below hb1 d1
  have d21 := cell_below hb1 d2
  have l1 := Nat.lt_of_lt_of_le lW_1 hb1.size
  go_wp2_with fail
  refine (mAll_any awC (dayV 5) (some ⟨w.heap.size, 0, none⟩) 1 _ (rd.below hb1) hwf (day_wf (by omega)) (by decide) (hE1.below hb1)).mono ?_
  rintro e w2 ⟨rfl, hb2⟩
  rw [aw_all (by omega)]
  have d02 := cell_below hb2 d01
  have d12 := cell_below hb2 d11
  have d22 := cell_below hb2 d21
  have l2 := Nat.lt_of_lt_of_le l1 hb2.size
  clear d0 d1 d2 d01 d11 d21
  go_wp2_with fail
  generalize hEV : (w2.alloc _).alloc _ = W3
  have hbV : Below w2.heap.size w2 W3 := (by rw [← hEV]; exact (by repeat' (first | (with_reducible exact Below.refl _ _) | (with_reducible assumption) | (with_reducible refine Below.drew ?_) | (with_reducible refine below_drewN ?_ _) | (with_reducible refine below_iterAt ?_ ?_ _ _) | (with_reducible refine below_iter ?_ ?_ _ _) | (with_reducible refine Below.alloc ?_ ?_ _) | (with_reducible refine Below.setCell ?_ ?_ _) | (with_reducible refine Below.trans ?_ (Below.mono (by assumption) ?_)) | (simp only [sz_alloc, sz_set, sz_drew, sz_drewN, sz_iterAt, sz_iter] at *; omega) | omega | (simp; done) | (simp; omega) | (apply Below.size; assumption) | (simp only [sz_drew, sz_drewN]; apply Below.size; assumption) | (refine Nat.le_trans ?_ (Below.size (by assumption))))))
  have p0 : ∀ o, W3.cell? ⟨w2.heap.size, o, none⟩ = ((awP w).cells ++ anyP.cells).toArray[o]? := by intro o; rw [← hEV]; simp [go_sem]; rfl
  have p1 : ∀ o, W3.cell? ⟨w2.heap.size + 1, o, none⟩ = ((dayV 3).cells5 ++ Vl.zero.cells5).toArray[o]? := by intro o; rw [← hEV]; simp [go_sem]; rfl
  clear hEV
  have rA : RdL W3 3 (some ⟨w2.heap.size, 0, none⟩) ([awP w, anyP].map CelAt.cells) := rdL_two rfl p0
  have rB : RdL W3 5 (some ⟨w2.heap.size + 1, 0, none⟩) ([dayV 3, Vl.zero].map Vl.cells5) := rdL_two rfl p1
  clear p0 p1
  have hcs : ∀ x ∈ [awP w, anyP], x.ok W3 := by
    intro x hx
    rcases List.mem_cons.mp hx with rfl | hx
    · exact ⟨((rd.below hb1).below hb2).below hbV, hwf, by show (1 : Nat) ≤ 9223372036854775807; omega⟩
    · obtain rfl : x = anyP := by simpa using hx
      exact ⟨RdL.nil_ _ _ _, fun t ht => (by cases ht), by show (0 : Nat) ≤ 9223372036854775807; omega⟩
  have hvs : ∀ v ∈ [dayV 3, Vl.zero], v.wf := by
    intro v hv
    rcases List.mem_cons.mp hv with rfl | hv
    · exact day_wf (by omega)
    · obtain rfl : v = Vl.zero := by simpa using hv
      exact zero_wf
  refine (row_any [awP w, anyP] [dayV 3, Vl.zero] (some ⟨w2.heap.size, 0, none⟩) (some ⟨w2.heap.size + 1, 0, none⟩) 2 2 _ rA rB hcs hvs (by show (2 : Nat) ≤ 9223372036854775807; omega) (((hE1.below hb1).below hb2).below hbV)).mono ?_
  rintro e w4 ⟨rfl, hb4⟩
  rw [aw_row]
  go_wp2_with fail
  go_ret
  exact ⟨ret_bool rfl, (hbW.trans ((hb1.mono (Nat.le_trans (Nat.le_of_lt lW_0) (Nat.le_refl _))).trans ((hb2.mono (by have := hb1.size; omega)).trans ((hbV.mono (by have := hb1.size; have := hb2.size; omega)).trans (hb4.mono (by have := hb1.size; have := hb2.size; have := hbV.size; omega))))))⟩
end Go.Proofs.YtogegempbjpdiaaDoor
