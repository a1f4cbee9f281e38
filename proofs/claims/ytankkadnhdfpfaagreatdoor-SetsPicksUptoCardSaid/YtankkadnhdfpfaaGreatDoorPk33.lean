import Derived.Test.YtankkadnhdfpfaaGreatDoorPk32
/- soffitlaw15.awake gives true: walked. -/
set_option linter.unusedSimpArgs false
set_option linter.unusedVariables false
namespace Go.Proofs.YtankkadnhdfpfaaGreatDoor
open Go.RowKit Sp Wd

def awT : Ty := ⟨1, 1, ⟨true, false, []⟩⟩
def awX : Tst := ⟨2, ⟨1, 125, 2, ⟨#[]⟩, 0⟩, Vl.zero, false, false⟩
def awC : Cel := ⟨false, false, [awX]⟩
theorem awT_snd : tySnd awT = true := by decide +kernel
theorem awC_snd : uSndB awC = true := by decide +kernel
theorem awT_in : inTy awT Vl.zero = true := by decide +kernel
theorem aw_hi : betwHi awT awX = 12 := by decide +kernel
theorem aw_lo : betwLo awT awX = -999999999999 := by decide +kernel
theorem aw_P (n : Int) : ((fullG awT).meet (holdsG awT awC)).P n = inS [(-999999999999, 12)] n := by
  have h : ((fullG awT).meet (holdsG awT awC)).P n = ((extP 1 n) && (false || (extP 1 n && hasS (betwLo awT awX, betwHi awT awX) n))) := rfl
  rw [h, aw_hi, aw_lo]
  unfold extP inS hasS lowK topK
  rw [Bool.eq_iff_iff]
  simp
  omega
theorem aw_sp {r : St} (h : Is ((fullG awT).meet (holdsG awT awC)) r) : r.sp = [(-999999999999, 12)] :=
  ord_uniq _ _ h.ord (show (-999999999999 : Int) ≤ 12 by omega) (fun n => by rw [h.sp, aw_P])
theorem aw_pick {r : St} {v : Vl} {n : Int} (h : Is ((fullG awT).meet (holdsG awT awC)) r) (hp : PickOf awT ((fullG awT).meet r.sg) v n) : n = 0 ∧ v = ⟨1, 0, 0, ⟨#[]⟩, 0⟩ := by
  have hg : r.sg = (fullG awT).meet (holdsG awT awC) := h.sg_eq (by decide)
  rw [hg] at hp
  have hP : ∀ k, ((fullG awT).meet ((fullG awT).meet (holdsG awT awC))).P k = inS [(-999999999999, 12)] k := fun k => by
    have e : ((fullG awT).meet ((fullG awT).meet (holdsG awT awC))).P k = ((fullG awT).P k && ((fullG awT).meet (holdsG awT awC)).P k) := rfl
    rw [e, aw_P]
    have h2 : (fullG awT).P k = extP 1 k := rfl
    rw [h2]
    unfold extP inS hasS lowK topK
    rw [Bool.eq_iff_iff]
    simp
    omega
  have h0 : ((fullG awT).meet ((fullG awT).meet (holdsG awT awC))).P 0 = true := by rw [hP]; decide
  rcases hp with ⟨rfl, hb⟩ | ⟨-, -, -, hno⟩ | ⟨-, -, -, hno⟩
  · refine ⟨rfl, ?_⟩
    rcases hb with ⟨-, m, hm, rfl⟩ | ⟨hk, -⟩ | ⟨hk, -⟩ | ⟨hk, -⟩
    · have hd := hm.2 0 h0
      have hm0 : m = 0 := by unfold farI at hd; omega
      subst hm0
      rw [show mkN 0 awT.sc = 0 by decide +kernel, show mkS 0 awT.sc = 0 by decide +kernel]
    · exact absurd hk (by decide)
    · exact absurd hk (by decide)
    · exact absurd hk (by decide)
  · rw [hno.1] at h0; cases h0
  · rw [hno.1] at h0; cases h0
theorem aw_nul {r : St} (h : Is ((fullG awT).meet (holdsG awT awC)) r) : r.nul = false := by rw [h.nul]; rfl
theorem tst_one {w : World} {g : Nat} {x : Tst} (h : BoxIs w g x.cells.toArray) : RdL w 13 (some ⟨g, 0, none⟩) ([x].map Tst.cells) := by
  intro j c hc
  match j, hc with
  | 0, hc =>
    obtain rfl : x.cells = c := by simpa using hc
    refine ⟨g, 0, rfl, fun i u hu => ?_⟩
    rw [h.c]
    simpa using hu
  | j + 1, hc => simp at hc

set_option maxRecDepth 100000 in
set_option maxHeartbeats 6400000 in
theorem awake15_any (w : World) (hE : EnvP w) :
    Calls Tryz.prog 15 #[] w fun e w' => e = .returned (.bool true) ∧ Below w.heap.size w w' := by
  have hTA : ∀ W, TyAt W awT none := fun W => ⟨RdL.nil_ _ _ _, by simp [awT], by simp [awT]⟩
  have hXW : ∀ x ∈ awC.ts, x.wf := by
    intro x hx
    have : x = awX := List.mem_singleton.1 hx
    subst this
    exact ⟨⟨by decide, by decide⟩, ⟨⟨by decide, by decide⟩, ⟨by decide, by decide⟩, ⟨by decide, by decide⟩, ⟨by decide, by decide⟩, by decide⟩, ⟨⟨by decide, by decide⟩, ⟨by decide, by decide⟩, ⟨by decide, by decide⟩, ⟨by decide, by decide⟩, by decide⟩⟩
  have HTA := Lib.hid hTA
  have HXW := Lib.hid hXW
  clear hTA hXW
  go_enter Tryz.func15, Tryz.ntmps15
  go_wp2_with fail
  have K0 : BoxIs ((w.alloc (.cells #[.int .i64 1, .int .i64 1, .bool true, .bool false, .slice none 0 0] 26)).alloc (.cells awX.cells.toArray 84)) w.heap.size #[.int .i64 1, .int .i64 1, .bool true, .bool false, .slice none 0 0] := (BoxIs.new rfl).alloc _
  have K1 : BoxIs ((w.alloc (.cells #[.int .i64 1, .int .i64 1, .bool true, .bool false, .slice none 0 0] 26)).alloc (.cells awX.cells.toArray 84)) (w.heap.size + 1) awX.cells.toArray := BoxIs.new (by simp)
  have hB : Below w.heap.size w ((w.alloc (.cells #[.int .i64 1, .int .i64 1, .bool true, .bool false, .slice none 0 0] 26)).alloc (.cells awX.cells.toArray 84)) := bel
  refine (setOf_any awT awC none (some ⟨w.heap.size + 1, 0, none⟩) 0 1 _ awT_snd awC_snd (HTA.out _) (tst_one K1) HXW.out (by decide) (hE.env.below hB)).mono ?_
  rintro e w1 ⟨r, X, Y, cx, cy, rfl, hR, ir, okr, hb1⟩
  have hsp := aw_sp ir
  have hnul := aw_nul ir
  have hlen : r.sp.length = 1 := by rw [hsp]; rfl
  have hbw1 : Below w.heap.size w w1 := hB.trans (hb1.mono hB.size)
  have k0 := (K0.below hb1).c
  have l0 := (K0.below hb1).lt
  have HP := Lib.hid (fun (v : Vl) (n : Int) (h : PickOf awT ((fullG awT).meet r.sg) v n) => aw_pick ir h)
  have hrk : r.k = awT.k := ir.k
  obtain ⟨xb, xo, hXe, hx⟩ := hR.sp.at_ (show 0 < r.sp.length by omega)
  have hx1 : w1.cell? ⟨xb, xo + 0 * 2 + 1, none⟩ = some (.int .i64 12) := by
    have := hx.get 1 (v := .int .i64 12) (by
      have e : r.sp[0]'(by omega) = (-999999999999, 12) := by simp [hsp]
      rw [e]; rfl)
    exact this
  have hlx := cell_lt hx1
  have HPICK : Hid (∀ W, Below w1.heap.size w1 W → Calls Tryz.prog 26 #[.agg #[.int .i64 1, .int .i64 1, .bool true, .bool false, .slice none 0 0], .agg #[.int .i64 1, .slice X 1 cx, .bool r.al, .slice Y r.ws.length cy, .int .i64 r.b, .bool false]] W fun e w' => e = .returned (.tuple #[.agg #[.int .i64 1, .int .i64 0, .int .i64 0, .string ⟨#[]⟩, .int .i64 0], .int .i64 0]) ∧ Below W.heap.size W w') := Lib.hid (fun W hW => by
    have hp := pick_any' awT r 18 none X Y 0 cx cy W awT_snd hrk (HTA.out W) (hR.below hW) okr (by omega) (hE.below (hbw1.trans (hW.mono hbw1.size)))
    rw [hlen, hnul, show r.k = 1 from hrk] at hp
    refine hp.mono ?_
    rintro e w' ⟨v, n, rfl, hpo, hb⟩
    obtain ⟨rfl, rfl⟩ := HP.out v n hpo
    exact ⟨rfl, hb⟩)
  have heq : ∀ W : World, (binOp .eql 30 (.agg #[.int .i64 1, .int .i64 0, .int .i64 0, .string ⟨#[]⟩, .int .i64 0]) (.agg #[.int .i64 1, .int .i64 0, .int .i64 0, .string ⟨#[]⟩, .int .i64 0])).run Tryz.prog W = .ok (.bool true) W := fun W => (eqV_run ⟨1, 0, 0, ⟨#[]⟩, 0⟩ ⟨1, 0, 0, ⟨#[]⟩, 0⟩ W).trans (by rw [show eqB ⟨1, 0, 0, ⟨#[]⟩, 0⟩ ⟨1, 0, 0, ⟨#[]⟩, 0⟩ = true by decide +kernel])
  subst hXe
  rw [hlen, hnul, show r.k = 1 from hrk]
  have HE := Lib.hid hE
  have HBW := Lib.hid hbw1
  clear hR ir okr hsp hnul hlen hrk hx HP hb1 hB K0 K1 hE HXW hbw1
  go_wp2_with fail
  generalize hW2 : w1.alloc _ = W2
  have hB2 : Below w1.heap.size w1 W2 := (by rw [← hW2]; exact Below.alloc (Below.refl _ _) (Nat.le_refl _) _)
  have KS : BoxIs W2 w1.heap.size #[.int .i64 1, .slice (some ⟨xb, xo, none⟩) 1 cx, .bool r.al, .slice Y r.ws.length cy, .int .i64 r.b, .bool false] := (by rw [← hW2]; exact BoxIs.new (t := 36) rfl)
  refine (HPICK.out W2 hB2).mono ?_
  rintro e w3 ⟨rfl, hb3⟩
  have KS3 := KS.below hb3
  have cs := KS3.c
  have ls := KS3.lt
  have hB3 : Below w1.heap.size w1 w3 := hB2.trans (hb3.mono hB2.size)
  have cx3 := cell_below hB3 hx1
  have ct : ∀ o, w3.cell? ⟨w.heap.size, o, none⟩ = _ := fun o => (hB3.cell (p := ⟨w.heap.size, o, none⟩) l0).trans (k0 o)
  have lt3 : w.heap.size < w3.heap.size := Nat.lt_of_lt_of_le l0 hB3.size
  have lx3 : xb < w3.heap.size := Nat.lt_of_lt_of_le hlx hB3.size
  have hbw3 : Below w.heap.size w w3 := HBW.out.trans (hB3.mono HBW.out.size)
  clear hW2 hB2 KS KS3 hb3 hB3 hx1 hlx k0 l0 HPICK
  go_wp2_with fail
  refine (setIn_any awT Vl.zero none 0 _ (HTA.out _) ⟨⟨by decide, by decide⟩, ⟨by decide, by decide⟩, ⟨by decide, by decide⟩, ⟨by decide, by decide⟩, by decide⟩ (HE.out.env.below bel)).mono ?_
  rintro e w4 ⟨rfl, hb4⟩
  rw [awT_in]
  go_wp2_with fail
  go_ret
  exact ⟨rfl, bel⟩
end Go.Proofs.YtankkadnhdfpfaaGreatDoor
