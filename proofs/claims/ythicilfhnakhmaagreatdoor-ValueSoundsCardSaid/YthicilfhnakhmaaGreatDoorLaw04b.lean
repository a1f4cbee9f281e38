/- soffitlaw04.ValueSounds: walked. -/
import Derived.Test.YthicilfhnakhmaaGreatDoorFits
set_option linter.unusedSimpArgs false
set_option linter.unusedVariables false
namespace Go.Proofs.YthicilfhnakhmaaGreatDoor
open Go.RowKit Go.Sort Go.Lib

theorem belowU_call {u w w' : World} (h : RowKit.Below u.heap.size u w) (hb : RowKit.Below w.heap.size w w') : RowKit.Below u.heap.size u w' := h.trans (hb.mono h.size)
/-- a world that lies behind u: for a region that draws its order, reads, and calls what makes memory of its own -/
structure AtB (u : World) where
  w : World
  hb : RowKit.Below u.heap.size u w
instance (u : World) : Inhabited (AtB u) := ⟨⟨u, Below.refl _ u⟩⟩
theorem wp_region_quiet_at {P : Program} {id : Nat} {Q : Exit → Act → World → Prop} {a : Act} {w : World} {l : List Oper} (hm : P.follows .mixedOrders = true) (hB : Region.lexB .any l.toArray = true)
    (h : wpQuiet P l.toArray (fun w' => ∃ p : AtB w, w' = p.w) (fun a' => ∀ w', (∃ p : AtB w, w' = p.w) → Q .normal a' w') l a) : (Code.region id l.toArray true).wp P Q a w :=
  wp_region_quiet (C := fun w' => ∃ p : AtB w, w' = p.w) hm hB ⟨⟨w.drew, (Below.refl _ w).drew⟩, rfl⟩ (by simpa using h)
theorem AtB.quiet {P : Program} {u : World} (p : AtB u) {f : FuncId} {args : Array Value} {v : Value} (h : ∀ W, RowKit.Below u.heap.size u W → Calls P f args W fun e w' => e = .returned v ∧ RowKit.Below W.heap.size W w') :
    Calls P f args p.w fun e w'' => e = .returned v ∧ ∃ q : AtB u, w'' = q.w :=
  (h p.w p.hb).mono fun _ w'' ⟨he, hb⟩ => ⟨he, ⟨w'', belowU_call p.hb hb⟩, rfl⟩
theorem AtB.cell {u : World} {b o : Nat} {v : Value} (h : u.cell? ⟨b, o, none⟩ = some v) (p : AtB u) : p.w.cell? ⟨b, o, none⟩ = some v := cell_below p.hb h

set_option maxRecDepth 100000 in
set_option maxHeartbeats 6400000 in
theorem lawSounds_any (v : Vl) (k s : Int) (w : World) (hv : v.wf) (hE : EnvP w) :
    Calls Tryz.prog 6 #[.agg #[.int .i64 v.k, .int .i64 v.n, .int .i64 v.s, .string v.t, .int .i64 v.i], .int .i64 k, .int .i64 s] w fun e w' => e = .returned (.bool true) ∧ Below w.heap.size w w' := by
  have HA := Lib.hid (fun (W : World) (h : RowKit.Below w.heap.size w W) => awake04_any W (hE.below h))
  have HV := Lib.hid (fun (W : World) (h : RowKit.Below w.heap.size w W) => vSound_any v W hv (hE.env.below h))
  have HR := Lib.hid (fun (W : World) => rSound_any v W hv)
  have HF := Lib.hid (fun (W : World) (h : RowKit.Below w.heap.size w W) => vFits_any v k s W hv (hE.env.below h))
  have HG := Lib.hid (fun (W : World) => rFits_any v k s W hv)
  generalize sndB v = B at *
  generalize fitB v k s = F at *
  clear hE hv
  cases B <;> cases F
  all_goals
    go_enter Tryz.func6, Tryz.ntmps6
    go_wp2_with fail
    generalize hEW0 : w.alloc _ = W0
    have hbW0 : Below w.heap.size w W0 := (by rw [← hEW0]; exact (by repeat' (first | (with_reducible exact Below.refl _ _) | (with_reducible assumption) | (with_reducible refine Below.drew ?_) | (with_reducible refine below_drewN ?_ _) | (with_reducible refine below_iterAt ?_ ?_ _ _) | (with_reducible refine below_iter ?_ ?_ _ _) | (with_reducible refine Below.alloc ?_ ?_ _) | (with_reducible refine Below.setCell ?_ ?_ _) | (with_reducible refine Below.trans ?_ (Below.mono (by assumption) ?_)) | (simp only [sz_alloc, sz_set, sz_drew, sz_drewN, sz_iterAt, sz_iter] at *; omega) | omega | (simp; done) | (simp; omega) | (apply Below.size; assumption) | (simp only [sz_drew, sz_drewN]; apply Below.size; assumption) | (refine Nat.le_trans ?_ (Below.size (by assumption))))))
    have lW0_0 : w.heap.size < W0.heap.size := (by rw [← hEW0]; first | omega | (simp only [sz_alloc, sz_set, sz_drew, sz_drewN, sz_iterAt, sz_iter] at *; omega) | (simp; done) | (simp; omega) | (simp at *; omega))
    have qW0_0 : ∀ o, W0.cell? ⟨w.heap.size, o, none⟩ = _ := fun o => congrArg (fun W : World => W.cell? ⟨w.heap.size, o, none⟩) hEW0.symm
    have rW0_0 : ∀ o, W0.frozen? ⟨w.heap.size, o, none⟩ = _ := fun o => congrArg (fun W : World => W.frozen? ⟨w.heap.size, o, none⟩) hEW0.symm
    clear hEW0
    have c0 : W0.cell? ⟨w.heap.size, 0, none⟩ = some (.int .i64 v.k) := (qW0_0 0).trans (by simp)
    have c1 : W0.cell? ⟨w.heap.size, 1, none⟩ = some (.int .i64 v.n) := (qW0_0 1).trans (by simp)
    have c2 : W0.cell? ⟨w.heap.size, 2, none⟩ = some (.int .i64 v.s) := (qW0_0 2).trans (by simp)
    have c3 : W0.cell? ⟨w.heap.size, 3, none⟩ = some (.string v.t) := (qW0_0 3).trans (by simp)
    have c4 : W0.cell? ⟨w.heap.size, 4, none⟩ = some (.int .i64 v.i) := (qW0_0 4).trans (by simp)
    have d0 := AtB.cell c0
    have d1 := AtB.cell c1
    have d2 := AtB.cell c2
    have d3 := AtB.cell c3
    have d4 := AtB.cell c4
    have hzz := hbW0.size
    clear c0 c1 c2 c3 c4 qW0_0 rW0_0
    refine wp_region_quiet_at (by kernel_rfl) (by kernel_rfl) ?_
    repeat (go_big_quiet_step ((first
      | (go_at_call 10; exact AtB.quiet _ (fun W hW => HA.out W (hbW0.trans (hW.mono hzz))))
      | (go_at_call 13; exact AtB.quiet _ (fun W hW => HV.out W (hbW0.trans (hW.mono hzz))))
      | (go_at_call 14; exact AtB.quiet _ (fun W hW => HR.out W))
      | (go_at_call 15; exact AtB.quiet _ (fun W hW => HF.out W (hbW0.trans (hW.mono hzz))))
      | (go_at_call 16; exact AtB.quiet _ (fun W hW => HG.out W)))))
    refine wpQuiet_nil ?_
    intro _ hw'
    obtain ⟨pq, hw''⟩ := hw'
    subst hw''
    go_wp2_with fail
    go_ret
    exact ⟨ret_bool (by first | rfl | simp), hbW0.trans (pq.hb.mono hzz)⟩
end Go.Proofs.YthicilfhnakhmaaGreatDoor
