import Derived.Test.YtankkadnhdfpfaaGreatDoorPk34
import Derived.Test.YtankkadnhdfpfaaGreatDoorPk13
/- soffit/sets.Empty: walked. -/
set_option linter.unusedSimpArgs false
set_option linter.unusedVariables false
namespace Go.Proofs.YtankkadnhdfpfaaGreatDoor
open Go.RowKit Sp Wd

set_option maxRecDepth 100000 in
set_option maxHeartbeats 3200000 in
theorem setEmpty_any (s : St) (N : Nat) (A B : Option Addr) (ca cb : Nat) (w : World) (hS : StAt w s A B) (hO : StOk N s) (hN : N ≤ 8000000000000) (hE : Env w) :
    Calls Tryz.prog 17 #[.agg #[.int .i64 s.k, .slice A s.sp.length ca, .bool s.al, .slice B s.ws.length cb, .int .i64 s.b, .bool s.nul]] w fun e w' => ∃ r : St, e = .returned (.bool (emptyG r)) ∧ Is s.sg r ∧ r.al = (s.k == 2 && s.al) ∧ Below w.heap.size w w' := by
  have HS := Lib.hid hS
  have HE := Lib.hid hE
  clear hS hE
  go_enter Tryz.func17, Tryz.ntmps17
  go_wp2_with fail
  have K0 : BoxIs (w.alloc (.cells #[.int .i64 s.k, .slice A s.sp.length ca, .bool s.al, .slice B s.ws.length cb, .int .i64 s.b, .bool s.nul] 36)) w.heap.size #[.int .i64 s.k, .slice A s.sp.length ca, .bool s.al, .slice B s.ws.length cb, .int .i64 s.b, .bool s.nul] := BoxIs.new rfl
  refine (tidy_any s N A B ca cb _ (HS.out.below bel) hO hN (HE.out.below bel)).mono ?_
  rintro e w1 ⟨r, X, Y, cx, cy, rfl, hR, ir, okr, alr, hb1⟩
  have K0 := K0.below hb1
  have z1 := K0.c
  have f1 := K0.f
  have l1 := K0.lt
  have hbw : Below w.heap.size w w1 := bel
  clear hb1
  have ALR := Lib.hid alr
  have IR := Lib.hid ir
  clear alr ir
  go_upto_region 2 with fail
  generalize hW2 : (((((w1.setCell _ _).setCell _ _).setCell _ _).setCell _ _).setCell _ _).setCell _ _ = W2
  have K2 : BoxIs W2 w.heap.size #[.int .i64 r.k, .slice X r.sp.length cx, .bool r.al, .slice Y r.ws.length cy, .int .i64 r.b, .bool r.nul] := by rw [← hW2]; exact (((((K0.set 0 _).set 1 _).set 2 _).set 3 _).set 4 _).set 5 _
  have hR2 : StAt W2 r X Y := by rw [← hW2]; exact hR.free K0 (setLike _ _ _ _ _ _ _ _ _ _) six_other
  have hb2 : Below w.heap.size w W2 := by rw [← hW2]; exact bel
  clear hW2 z1 f1 l1 hbw hR K0
  have z2 := K2.c
  have l2 := K2.lt
  have f2 := K2.f
  have hE2 := HE.out.below hb2
  have ok2 : r.ws.length * 16 ≤ 140737488355328 := by have := okr.lw; omega
  have HOK := Lib.hid okr.tx
  clear okr hO
  cases hn : r.nul
  · rw [hn] at z2
    by_cases hk : r.k = 2
    · have e2 : (r.k == 2) = true := by simp [hk]
      have HB : Hid (emptyG r = emptyW r.al r.ws) := by
        show _ = _
        unfold emptyG emptyW
        rw [hn, if_pos hk, norm_id IR.out.rise IR.out.txt]; rfl
      clear hn hk
      go_wp2_with fail
      refine (empty_any r.al Y r.ws cy _ (hE2.below bel) (hR2.ws.below bel) HOK.out ok2).mono ?_
      rintro e w3 ⟨rfl, hb3⟩
      rw [← HB.out]
      go_wp2_with fail
      go_ret
      exact ⟨r, rfl, IR.out, ALR.out, bel⟩
    · have e2 : (r.k == 2) = false := by simp [hk]
      by_cases hl : r.sp = []
      · have e3 : r.sp.length = 0 := by rw [hl]; rfl
        rw [e3] at z2
        by_cases hb : r.b = 0
        · have HB : Hid (emptyG r = true) := by show _ = _; unfold emptyG; rw [hn, if_neg hk, hl, hb]; rfl
          rw [hb] at z2
          clear hn hk hl hb e3
          go_wp2_with fail
          go_ret
          exact ⟨r, ret_bool (by rw [HB.out]), IR.out, ALR.out, bel⟩
        · have HB : Hid (emptyG r = false) := by show _ = _; unfold emptyG; rw [hn, if_neg hk, hl, show (r.b == 0) = false by simp [hb]]; rfl
          have e4 : (r.b == 0) = false := by simp [hb]
          clear hn hk hl hb e3
          go_wp2_with fail
          go_ret
          exact ⟨r, ret_bool HB.out.symm, IR.out, ALR.out, bel⟩
      · have HB : Hid (emptyG r = false) := by
          show _ = _; unfold emptyG; rw [hn, if_neg hk, show r.sp.isEmpty = false by cases h : r.sp; exact absurd h hl; rfl]; rfl
        obtain ⟨m, hm⟩ : ∃ m, r.sp.length = m + 1 := ⟨r.sp.length - 1, by have := List.length_pos_iff.2 hl; omega⟩
        have e3 : (((m + 1 : Nat) : Int) == 0) = false := by simp; omega
        rw [hm] at z2
        clear hn hk hl hm
        go_wp2_with fail
        go_ret
        exact ⟨r, ret_bool HB.out.symm, IR.out, ALR.out, bel⟩
  · rw [hn] at z2
    have HB : Hid (emptyG r = false) := by show _ = _; unfold emptyG; rw [hn]; rfl
    clear hn
    go_wp2_with fail
    go_ret
    exact ⟨r, ret_bool HB.out.symm, IR.out, ALR.out, bel⟩
end Go.Proofs.YtankkadnhdfpfaaGreatDoor
