import Derived.Test.YtankkadnhdfpfaaGreatDoorPk36
import Derived.Test.YtankkadnhdfpfaaGreatDoorPk01
/- soffitlaw15.unit: walked. -/
set_option linter.unusedSimpArgs false
set_option linter.unusedVariables false
namespace Go.Proofs.YtankkadnhdfpfaaGreatDoor
open Go.RowKit Sp Wd

theorem i64_wrap (x : Int) : I64 (IntKind.i64.wrap x) := by
  rw [IntKind.wrap_i64]; unfold I64; omega
theorem i64_wrap64 (x : Int) : I64 (wrap64 x) := by rw [← IntWalk.i64_left]; exact i64_wrap x
set_option maxRecDepth 100000 in
set_option maxHeartbeats 1600000 in
theorem unit_any (t : Ty) (v : Vl) (y : Int) (T : Option Addr) (ct : Nat) (w : World) (hv : v.wf) (hs : 0 ≤ t.sc ∧ t.sc ≤ 6) :
    Calls Tryz.prog 78 #[.agg #[.int .i64 t.k, .int .i64 t.sc, .bool t.c.any, .bool t.c.neg, .slice T t.c.ts.length ct], .agg #[.int .i64 v.k, .int .i64 v.n, .int .i64 v.s, .string v.t, .int .i64 v.i], .int .i64 y] w fun e w' => ∃ n k : Int, e = .returned (.agg #[.int .i64 1, .int .i64 n, .int .i64 k, .string ⟨#[]⟩, .int .i64 0]) ∧ I64 n ∧ I64 k ∧ Below w.heap.size w w' := by
  go_enter Tryz.func78, Tryz.ntmps78
  go_wp2_with fail
  generalize hW0 : ((w.alloc _).alloc _).alloc _ = W0
  have hb0 : Below w.heap.size w W0 := (by rw [← hW0]; exact bel)
  have K0 : BoxIs W0 w.heap.size #[.int .i64 t.k, .int .i64 t.sc, .bool t.c.any, .bool t.c.neg, .slice T t.c.ts.length ct] := (by rw [← hW0]; exact ((BoxIs.new (t := 26) rfl).alloc _).alloc _)
  have K2 : BoxIs W0 (w.heap.size + 2) #[.int .i64 0, .int .i64 0, .int .i64 0, .string ⟨#[]⟩, .int .i64 0] := (by rw [← hW0]; exact BoxIs.new (t := 30) (by simp))
  clear hW0
  refine (rUnits_any t v T ct _ hv).mono ?_
  rintro e W1 ⟨rfl, hb1⟩
  have K0 := K0.below hb1
  have K2 := K2.below hb1
  have hbw : Below w.heap.size w W1 := hb0.trans (hb1.mono hb0.size)
  clear hb0 hb1
  generalize unitsR t.sc v = N
  obtain ⟨sc, hsc⟩ : ∃ sc : Nat, t.sc = (sc : Int) := ⟨t.sc.toNat, by omega⟩
  have hs6 : sc ≤ 6 := by omega
  rw [hsc] at K0
  have c0 := K0.c
  have l0 := K0.lt
  have c2 := K2.c
  have f2 := K2.f
  have l2 := K2.lt
  clear hs hsc K0 K2
  go_wp2_with fail
  go_loopg [7, 8] sc (fun k nv sv wr => ∃ n : Int, I64 n ∧ k ≤ sc ∧ nv = .int .i64 n ∧ sv = .int .i64 k ∧ wr = W1)
  case atStart => exact ⟨_, i64_wrap64 _, Nat.le_refl _, rfl, rfl, rfl⟩
  case round =>
    obtain ⟨n, hn, hk, rfl, rfl, rfl⟩ := hrel
    have HN := Lib.hid hn
    rcases gk with _ | k
    · go_wp2_with fail
      refine bodyPost_ret (v := .agg #[.int .i64 1, .int .i64 n, .int .i64 0, .string ⟨#[]⟩, .int .i64 0]) (by simp [results, Tryz.results78, go_sem, *]) rfl ⟨n, 0, rfl, HN.out, ⟨by omega, by omega⟩, bel⟩
    · by_cases h10 : n.tmod 10 = 0
      · have hb : (n.tmod 10 == 0) = true := by simp [h10]
        clear h10 hn
        go_wp2_with fail
        go_roundg k
        case measure => omega
        case rel => exact ⟨_, i64_wrap64 _, by omega, rfl, by go_num, rfl⟩
      · have hb : (n.tmod 10 == 0) = false := by simp [h10]
        clear h10 hn
        go_wp2_with fail
        refine bodyPost_ret (v := .agg #[.int .i64 1, .int .i64 n, .int .i64 ((k : Int) + 1), .string ⟨#[]⟩, .int .i64 0]) (by simp [results, Tryz.results78, go_sem, *]) rfl ⟨n, (k : Int) + 1, rfl, HN.out, ⟨by omega, by omega⟩, bel⟩
end Go.Proofs.YtankkadnhdfpfaaGreatDoor
