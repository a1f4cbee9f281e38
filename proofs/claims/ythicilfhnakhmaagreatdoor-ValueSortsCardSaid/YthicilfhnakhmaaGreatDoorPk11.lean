import Derived.Test.YthicilfhnakhmaaGreatDoorPk10
import Derived.Defers
import Derived.Laws.Pointers
import Derived.Laws.LoneSync
import Derived.RegionTactic
import Derived.RegionCalls
import Derived.ChangeAlike
import Derived.Laws.NewBlocks
import Derived.Laws.IdiomCopy
/- sync.Once of one goroutine: the parts; strings.Replacer's buildOnce; walked. -/
set_option linter.unusedSimpArgs false
set_option linter.unusedVariables false
namespace Go.Proofs.YthicilfhnakhmaaGreatDoor
open Go.RowKit Go.Sort Go.Lib

theorem race_disable (w : World) : (callFunc 137 #[]).run Tryz.prog w = .ok (.value (.tuple #[])) w := run_call_mark0 Tryz.func137 (by kernel_rfl) (by kernel_rfl) (by kernel_rfl) .disable (by kernel_rfl) w
theorem race_enable (w : World) : (callFunc 139 #[]).run Tryz.prog w = .ok (.value (.tuple #[])) w := run_call_mark0 Tryz.func139 (by kernel_rfl) (by kernel_rfl) (by kernel_rfl) .enable (by kernel_rfl) w
theorem race_acquire (a : Addr) (w : World) : (callFunc 140 #[.pointer (some a)]).run Tryz.prog w = .ok (.value (.tuple #[])) w := run_call_marked Tryz.func140 (by kernel_rfl) (by kernel_rfl) (by kernel_rfl) .acquire (by kernel_rfl) a w
theorem race_release (a : Addr) (w : World) : (callFunc 142 #[.pointer (some a)]).run Tryz.prog w = .ok (.value (.tuple #[])) w := run_call_marked Tryz.func142 (by kernel_rfl) (by kernel_rfl) (by kernel_rfl) .releaseMerge (by kernel_rfl) a w

set_option maxRecDepth 100000 in
set_option maxHeartbeats 1600000 in
theorem store_deferred (a : Addr) (x : Value) (u : FrameMode) (w : World) (hc : w.cell? a = some x) (hz : w.frozen? a = false) :
    CallsD Tryz.prog 108 #[.pointer (some a), .bool true] u w fun e u' w' => u' = u ∧ (e = .returned (.tuple #[]) ∧ w' = w.drew.setCell a (.int .u32 1)) := by
  have hc' : w.drew.cell? a = some x := by go_simp
  have hz' : w.drew.frozen? a = false := by go_simp
  have hst := run_call_store (P := Tryz.prog) Tryz.func129 (by kernel_rfl) (by kernel_rfl) (by kernel_rfl) (by kernel_rfl) (k := .u32) (y := 1) hc' hz'
  go_enter_d Tryz.func108, Tryz.ntmps108
  go_wp2
  go_region_calls
  all_goals (go_end0; exact ⟨rfl, rfl⟩)

set_option maxRecDepth 100000 in
set_option maxHeartbeats 1600000 in
theorem unlock_deferred (a : Addr) (u : FrameMode) (w : World) (hc : w.cell? a = some (.int .i32 1)) (hz : w.frozen? a = false) :
    CallsD Tryz.prog 107 #[.pointer (some a)] u w fun e u' w' => u' = u ∧ (e = .returned (.tuple #[]) ∧ w' = w.setCell a (.int .i32 0)) := by
  have hd := race_disable
  have he := race_enable
  have hr := race_release
  have hadd := run_call_add (P := Tryz.prog) Tryz.func143 (by kernel_rfl) (by kernel_rfl) (by kernel_rfl) .i32 (by kernel_rfl) (y := -1) (s := 0) hc hz (by simp [go_sem]; rfl)
  have hcv := run_convert_to_unsafe (P := Tryz.prog) (src := 190) (dst := 166) Tryz.underlying190 Tryz.underlying166 (by kernel_rfl) hc
  go_enter_d Tryz.func107, Tryz.ntmps107
  go_wp2
  go_end0
  exact ⟨rfl, rfl⟩

set_option maxRecDepth 100000 in
set_option maxHeartbeats 1600000 in
theorem lock_free (a : Addr) (w : World) (hc : w.cell? a = some (.int .i32 0)) (hz : w.frozen? a = false) :
    Calls Tryz.prog 106 #[.pointer (some a)] w fun e w' => e = .returned (.tuple #[]) ∧ w' = w.setCell a (.int .i32 1) := by
  have hd := race_disable
  have he := race_enable
  have ha := race_acquire
  have hcas := run_call_cas_hit (P := Tryz.prog) Tryz.func138 (by kernel_rfl) (by kernel_rfl) (by kernel_rfl) .i32 (by kernel_rfl) (y := 1) hc hz
  have hc' : (w.setCell a (.int .i32 1)).cell? a = some (.int .i32 1) := World.cell?_setCell_same w a _ hc
  have hcv := run_convert_to_unsafe (P := Tryz.prog) (src := 190) (dst := 166) Tryz.underlying190 Tryz.underlying166 (by kernel_rfl) hc'
  go_enter Tryz.func106, Tryz.ntmps106
  go_wp2
  first | go_end0 | (simp only [Exit.inBlock, Exit.then]; refine bodyPost_ret (results_none rfl _ _ _) rfl ?_) | refine bodyPost_ret (results_none rfl _ _ _) rfl ?_
  exact ⟨rfl, rfl⟩

theorem once_load (a : Addr) (w : World) (hc : w.cell? a = some (.int .u32 0)) :
    Calls Tryz.prog 73 #[.pointer (some a)] w fun e w' => e = .returned (.bool false) ∧ w' = w := by
  have hl := run_call_load (P := Tryz.prog) Tryz.func105 (by kernel_rfl) (by kernel_rfl) (by kernel_rfl) .u32 (by kernel_rfl) hc
  go_enter Tryz.func73, Tryz.ntmps73
  go_wp2
  go_ret
  exact ⟨rfl, rfl⟩

set_option maxHeartbeats 1600000 in
theorem buildOnce_any (b o c : Nat) (x3 : Value) (w : World) (hb : b < w.heap.size) (ho : o < w.heap.size)
    (hc3 : w.cell? ⟨b, 3, none⟩ = some x3) (hc4 : w.cell? ⟨b, 4, none⟩ = some (.slice (some ⟨o, 0, none⟩) 4 c)) (hfz : ∀ o, w.frozen? ⟨b, o, none⟩ = false)
    (o0 : w.cell? ⟨o, 0, none⟩ = some (.string ⟨#[92]⟩)) (o1 : w.cell? ⟨o, 1, none⟩ = some (.string ⟨#[92, 92]⟩)) (o2 : w.cell? ⟨o, 2, none⟩ = some (.string ⟨#[34]⟩)) (o3 : w.cell? ⟨o, 3, none⟩ = some (.string ⟨#[92, 34]⟩)) :
    Calls Tryz.prog 50 #[.pointer (some ⟨b, 0, none⟩)] w fun e w' => e = .returned (.tuple #[]) ∧ ∃ B w1, Below w.heap.size w w1 ∧ IsRpl w1 w.heap.size B ∧
      w' = (w1.setCell ⟨b, 3, none⟩ (.iface 155 (.pointer (some ⟨B, 0, none⟩)))).setCell ⟨b, 4, none⟩ (.slice none 0 0) := by
  go_enter Tryz.func50, Tryz.ntmps50
  go_wp2_with fail
  refine (rplBuild b o c w hb ho hc4 o0 o1 o2 o3).mono ?_
  rintro e w1 ⟨B, rfl, hR, hb1⟩
  have d3 := (hb1.cell (p := ⟨b, 3, none⟩) hb).trans hc3
  have d4 := (hb1.cell (p := ⟨b, 4, none⟩) hb).trans hc4
  have e3 : w1.frozen? ⟨b, 3, none⟩ = false := (hb1.frozen (p := ⟨b, 3, none⟩) hb).trans (hfz 3)
  have e4 : w1.frozen? ⟨b, 4, none⟩ = false := (hb1.frozen (p := ⟨b, 4, none⟩) hb).trans (hfz 4)
  go_wp2_with fail
  go_end0
  exact ⟨rfl, B, w1, hb1, hR, rfl⟩

set_option maxRecDepth 100000 in
set_option maxHeartbeats 3200000 in
theorem doSlow_any (b o c : Nat) (x3 : Value) (w : World) (hb : b < w.heap.size) (ho : o < w.heap.size) (hob : o ≠ b)
    (c0 : w.cell? ⟨b, 0, none⟩ = some (.int .u32 0)) (c1 : w.cell? ⟨b, 1, none⟩ = some (.int .i32 0))
    (hc3 : w.cell? ⟨b, 3, none⟩ = some x3) (hc4 : w.cell? ⟨b, 4, none⟩ = some (.slice (some ⟨o, 0, none⟩) 4 c)) (hfz : ∀ o, w.frozen? ⟨b, o, none⟩ = false)
    (o0 : w.cell? ⟨o, 0, none⟩ = some (.string ⟨#[92]⟩)) (o1 : w.cell? ⟨o, 1, none⟩ = some (.string ⟨#[92, 92]⟩)) (o2 : w.cell? ⟨o, 2, none⟩ = some (.string ⟨#[34]⟩)) (o3 : w.cell? ⟨o, 3, none⟩ = some (.string ⟨#[92, 34]⟩)) :
    Calls Tryz.prog 74 #[.pointer (some ⟨b, 0, none⟩), .func (.func 50) #[.pointer (some ⟨b, 0, none⟩)] #[]] w fun e w' => e = .returned (.tuple #[]) ∧
      ∃ B, w'.cell? ⟨b, 3, none⟩ = some (.iface 155 (.pointer (some ⟨B, 0, none⟩))) ∧ IsRpl w' w.heap.size B ∧ Below b w w' := by
  obtain ⟨W1, hW1⟩ : ∃ W1, w.setCell ⟨b, 1, none⟩ (.int .i32 1) = W1 := ⟨_, rfl⟩
  have other : ∀ {j k : Nat}, j ≠ k → (⟨b, j, none⟩ : Addr) ≠ ⟨b, k, none⟩ := fun h e => h (congrArg Addr.off e)
  have hl := run_call_load (P := Tryz.prog) Tryz.func105 (by kernel_rfl) (by kernel_rfl) (by kernel_rfl) .u32 (by kernel_rfl) (w := w.setCell ⟨b, 1, none⟩ (.int .i32 1)) (a := ⟨b, 0, none⟩) (x := 0) ((World.cell?_setCell_other _ _ _ _ (other (by decide))).trans c0)
  have b0 : W1.cell? ⟨b, 0, none⟩ = some (.int .u32 0) := by rw [← hW1]; exact (World.cell?_setCell_other _ _ _ _ (other (by decide))).trans c0
  have b1 : W1.cell? ⟨b, 1, none⟩ = some (.int .i32 1) := by rw [← hW1]; exact World.cell?_setCell_same _ _ _ c1
  have b3 : W1.cell? ⟨b, 3, none⟩ = some x3 := by rw [← hW1]; exact (World.cell?_setCell_other _ _ _ _ (other (by decide))).trans hc3
  have b4 : W1.cell? ⟨b, 4, none⟩ = some (.slice (some ⟨o, 0, none⟩) 4 c) := by rw [← hW1]; exact (World.cell?_setCell_other _ _ _ _ (other (by decide))).trans hc4
  have bz : ∀ o, W1.frozen? ⟨b, o, none⟩ = false := fun o => by rw [← hW1, World.frozen?_setCell]; exact hfz o
  have oth2 : ∀ j k : Nat, (⟨b, j, none⟩ : Addr) ≠ ⟨o, k, none⟩ := fun j k e => hob (congrArg Addr.block e).symm
  have p0 : W1.cell? ⟨o, 0, none⟩ = some (.string ⟨#[92]⟩) := by rw [← hW1]; exact (World.cell?_setCell_other _ _ _ _ (oth2 _ _)).trans o0
  have p1 : W1.cell? ⟨o, 1, none⟩ = some (.string ⟨#[92, 92]⟩) := by rw [← hW1]; exact (World.cell?_setCell_other _ _ _ _ (oth2 _ _)).trans o1
  have p2 : W1.cell? ⟨o, 2, none⟩ = some (.string ⟨#[34]⟩) := by rw [← hW1]; exact (World.cell?_setCell_other _ _ _ _ (oth2 _ _)).trans o2
  have p3 : W1.cell? ⟨o, 3, none⟩ = some (.string ⟨#[92, 34]⟩) := by rw [← hW1]; exact (World.cell?_setCell_other _ _ _ _ (oth2 _ _)).trans o3
  have hs1 : W1.heap.size = w.heap.size := by rw [← hW1, sz_set]
  have hbl : Below b w W1 := by rw [← hW1]; exact Below.setCell (Below.refl b w) (show b ≤ (⟨b, 1, none⟩ : Addr).block from Nat.le_refl b) _
  have hnot : ∀ (x : Bool) (w : World), (Op.unary .not (.bool x)).run Tryz.prog w = .ok (.bool (!x)) w := fun _ _ => rfl
  have hbo := buildOnce_any b o c x3 W1 (by rw [hs1]; exact hb) (by rw [hs1]; exact ho) b3 b4 bz p0 p1 p2 p3
  have HBO := Lib.hid hbo
  have HW1 := Lib.hid hW1
  clear hbo hW1 p0 p1 p2 p3 o0 o1 o2 o3
  go_enter_defers Tryz.func74, Tryz.ntmps74
  go_wp2_with (go_at_call 106; refine (lock_free ⟨b, 1, none⟩ _ (by go_simp) (by go_simp)).mono ?_; rintro e w' ⟨rfl, rfl⟩)
  rw [HW1.out]
  refine (once_load _ _ b0).mono ?_
  rintro e wa ⟨rfl, hwa⟩
  rw [hwa]
  clear hwa
  go_wp2_with fail
  refine HBO.out.mono ?_
  rintro e w2 ⟨rfl, B, w1, hb1, hR, rfl⟩
  have hbW : b < W1.heap.size := by rw [hs1]; exact hb
  have d0 := (hb1.cell (p := ⟨b, 0, none⟩) hbW).trans b0
  have d1 := (hb1.cell (p := ⟨b, 1, none⟩) hbW).trans b1
  have d3 := (hb1.cell (p := ⟨b, 3, none⟩) hbW).trans b3
  have dz : ∀ o, w1.frozen? ⟨b, o, none⟩ = false := fun o => (hb1.frozen (p := ⟨b, o, none⟩) hbW).trans (bz o)
  rw [hs1] at hR
  have hR2 := (hR.set_ b 3 (.iface 155 (.pointer (some ⟨B, 0, none⟩))) hb).set_ b 4 (.slice none 0 0) hb
  have hbb : Below b w w1 := hbl.trans (hb1.mono (by omega))
  have hbv : Below b w ((w1.setCell ⟨b, 3, none⟩ (.iface 155 (.pointer (some ⟨B, 0, none⟩)))).setCell ⟨b, 4, none⟩ (.slice none 0 0)) := Below.setCell (Below.setCell hbb (show b ≤ (⟨b, 3, none⟩ : Addr).block from Nat.le_refl b) _) (show b ≤ (⟨b, 4, none⟩ : Addr).block from Nat.le_refl b) _
  have v0 : ((w1.setCell ⟨b, 3, none⟩ (.iface 155 (.pointer (some ⟨B, 0, none⟩)))).setCell ⟨b, 4, none⟩ (.slice none 0 0)).cell? ⟨b, 0, none⟩ = some (.int .u32 0) := by
    rw [World.cell?_setCell_other _ _ _ _ (other (by decide)), World.cell?_setCell_other _ _ _ _ (other (by decide))]; exact d0
  have v1 : ((w1.setCell ⟨b, 3, none⟩ (.iface 155 (.pointer (some ⟨B, 0, none⟩)))).setCell ⟨b, 4, none⟩ (.slice none 0 0)).cell? ⟨b, 1, none⟩ = some (.int .i32 1) := by
    rw [World.cell?_setCell_other _ _ _ _ (other (by decide)), World.cell?_setCell_other _ _ _ _ (other (by decide))]; exact d1
  have v3 : ((w1.setCell ⟨b, 3, none⟩ (.iface 155 (.pointer (some ⟨B, 0, none⟩)))).setCell ⟨b, 4, none⟩ (.slice none 0 0)).cell? ⟨b, 3, none⟩ = some (.iface 155 (.pointer (some ⟨B, 0, none⟩))) := by
    rw [World.cell?_setCell_other _ _ _ _ (other (by decide))]; exact World.cell?_setCell_same _ _ _ d3
  have vz : ∀ o, ((w1.setCell ⟨b, 3, none⟩ (.iface 155 (.pointer (some ⟨B, 0, none⟩)))).setCell ⟨b, 4, none⟩ (.slice none 0 0)).frozen? ⟨b, o, none⟩ = false := fun o => by rw [World.frozen?_setCell, World.frozen?_setCell]; exact dz o
  generalize (w1.setCell ⟨b, 3, none⟩ (.iface 155 (.pointer (some ⟨B, 0, none⟩)))).setCell ⟨b, 4, none⟩ (.slice none 0 0) = V at *
  have HV3 := Lib.hid v3
  have HVR := Lib.hid hR2
  have HVB := Lib.hid hbv
  clear hb1 d0 d1 d3 dz hR hR2 hbb hbv v3
  go_wp2_with fail
  refine leaves_cons (f := 108) (args := #[.pointer (some ⟨b, 0, none⟩), .bool true]) (by simp) (by simp [go_sem]) ?_
  refine (store_deferred ⟨b, 0, none⟩ (.int .u32 0) .returning _ (by first | exact v0 | (simp; exact v0)) (by first | exact vz 0 | simp [vz])).mono ?_
  rintro e u' w'' ⟨rfl, rfl, rfl⟩
  refine leaves_cons (f := 107) (args := #[.pointer (some ⟨b, 1, none⟩)]) (by simp [settle]) (by simp [go_sem]) ?_
  refine (unlock_deferred ⟨b, 1, none⟩ _ _ ?_ ?_).mono ?_
  · rw [World.cell?_setCell_other _ _ _ _ (other (by decide)), World.cell?_drew]; exact v1
  · rw [World.frozen?_setCell, World.frozen?_drew]; exact vz 1
  rintro e u' w'' ⟨rfl, rfl, rfl⟩
  have hfin : ∃ B', ((V.drew.setCell ⟨b, 0, none⟩ (.int .u32 1)).setCell ⟨b, 1, none⟩ (.int .i32 0)).cell? ⟨b, 3, none⟩ = some (.iface 155 (.pointer (some ⟨B', 0, none⟩))) ∧ IsRpl ((V.drew.setCell ⟨b, 0, none⟩ (.int .u32 1)).setCell ⟨b, 1, none⟩ (.int .i32 0)) w.heap.size B' ∧ Below b w ((V.drew.setCell ⟨b, 0, none⟩ (.int .u32 1)).setCell ⟨b, 1, none⟩ (.int .i32 0)) := by
    refine ⟨B, ?_, (HVR.out.drew.set_ b 0 _ hb).set_ b 1 _ hb, Below.setCell (Below.setCell (Below.drew HVB.out) (show b ≤ (⟨b, 0, none⟩ : Addr).block from Nat.le_refl b) _) (show b ≤ (⟨b, 1, none⟩ : Addr).block from Nat.le_refl b) _⟩
    rw [World.cell?_setCell_other _ _ _ _ (other (by decide)), World.cell?_setCell_other _ _ _ _ (other (by decide)), World.cell?_drew]
    exact HV3.out
  simp only [Leaves, settle, results, Tryz.results74]
  first | exact ⟨rfl, hfin⟩ | (refine ⟨_, rfl, rfl, hfin⟩) | (simp; exact hfin)
end Go.Proofs.YthicilfhnakhmaaGreatDoor

/- strings.Replacer: Do, Replace, NewReplacer, walked. -/
set_option linter.unusedSimpArgs false
set_option linter.unusedVariables false
namespace Go.Proofs.YthicilfhnakhmaaGreatDoor
open Go.RowKit Go.Sort Go.Lib

set_option maxRecDepth 100000 in
set_option maxHeartbeats 3200000 in
theorem onceDo_any (b o c : Nat) (x3 : Value) (w : World) (hb : b < w.heap.size) (ho : o < w.heap.size) (hob : o ≠ b)
    (c0 : w.cell? ⟨b, 0, none⟩ = some (.int .u32 0)) (c1 : w.cell? ⟨b, 1, none⟩ = some (.int .i32 0))
    (hc3 : w.cell? ⟨b, 3, none⟩ = some x3) (hc4 : w.cell? ⟨b, 4, none⟩ = some (.slice (some ⟨o, 0, none⟩) 4 c)) (hfz : ∀ o, w.frozen? ⟨b, o, none⟩ = false)
    (o0 : w.cell? ⟨o, 0, none⟩ = some (.string ⟨#[92]⟩)) (o1 : w.cell? ⟨o, 1, none⟩ = some (.string ⟨#[92, 92]⟩)) (o2 : w.cell? ⟨o, 2, none⟩ = some (.string ⟨#[34]⟩)) (o3 : w.cell? ⟨o, 3, none⟩ = some (.string ⟨#[92, 34]⟩)) :
    Calls Tryz.prog 49 #[.pointer (some ⟨b, 0, none⟩), .func (.func 50) #[.pointer (some ⟨b, 0, none⟩)] #[]] w fun e w' => e = .returned (.tuple #[]) ∧
      ∃ B, w'.cell? ⟨b, 3, none⟩ = some (.iface 155 (.pointer (some ⟨B, 0, none⟩))) ∧ IsRpl w' w.heap.size B ∧ Below b w w' := by
  have hnot : ∀ (x : Bool) (w : World), (Op.unary .not (.bool x)).run Tryz.prog w = .ok (.bool (!x)) w := fun _ _ => rfl
  have HDS := Lib.hid (doSlow_any b o c x3 w hb ho hob c0 c1 hc3 hc4 hfz o0 o1 o2 o3)
  go_enter Tryz.func49, Tryz.ntmps49
  go_wp2_with fail
  refine (once_load _ _ c0).mono ?_
  rintro e wa ⟨rfl, hwa⟩
  rw [hwa]
  clear hwa
  go_wp2_with fail
  refine HDS.out.mono ?_
  rintro e w2 ⟨rfl, B, h3, hR, hbl⟩
  go_wp2_with fail
  go_end0
  exact ⟨rfl, B, h3, hR, hbl⟩
end Go.Proofs.YthicilfhnakhmaaGreatDoor

/- (*strings.byteStringReplacer).Replace at the two signs, walked. -/
set_option linter.unusedSimpArgs false
set_option linter.unusedVariables false
namespace Go.Proofs.YthicilfhnakhmaaGreatDoor
open Go.RowKit Go.Sort Go.Lib

/-- how many of the two signs there are -/
def spN (l : List UInt8) : Nat := countByte l 34 + countByte l 92
theorem escL_length : ∀ l : List UInt8, (escL l).length = l.length + spN l
  | [] => rfl
  | x :: r => by
    have ih := escL_length r
    unfold spN countByte at *
    rw [escL, List.count_cons, List.count_cons, List.length_cons]
    by_cases h34 : x = 34
    · subst h34
      rw [if_pos (.inl rfl)]
      simp only [List.length_cons, beq_self_eq_true, if_true]
      rw [ih, if_neg (by decide)]; omega
    · by_cases h92 : x = 92
      · subst h92
        rw [if_pos (.inr rfl)]
        simp only [List.length_cons, beq_self_eq_true, if_true]
        rw [ih, if_neg (by decide)]; omega
      · rw [if_neg (by rintro (h | h) <;> contradiction), List.length_cons, ih, if_neg (by simpa using h34), if_neg (by simpa using h92)]; omega
theorem escL_none : ∀ l : List UInt8, spN l = 0 → escL l = l
  | [], _ => rfl
  | x :: r, h => by
    have hr : spN r = 0 ∧ ¬ (x = 34 ∨ x = 92) := by
      unfold spN countByte at h ⊢
      rw [List.count_cons, List.count_cons] at h
      refine ⟨by omega, ?_⟩
      rintro (rfl | rfl)
      · simp at h
      · simp at h
    rw [escL, if_neg hr.2, escL_none r hr.1]
theorem spN_take (l : List UInt8) (i : Nat) (h : i < l.length) : spN (l.take (i + 1)) = spN (l.take i) + (if l[i] = 34 ∨ l[i] = 92 then 1 else 0) := by
  rw [List.take_succ_eq_append_getElem h]
  unfold spN countByte
  rw [List.count_append, List.count_append]
  generalize l[i] = x
  by_cases h34 : x = 34
  · subst h34; first | (simp; done) | (simp; omega)
  · by_cases h92 : x = 92
    · subst h92; first | (simp; done) | (simp; omega)
    · simp [h34, h92]
theorem escL_take (l : List UInt8) (i : Nat) (h : i < l.length) : escL (l.take (i + 1)) = escL (l.take i) ++ (if l[i] = 34 ∨ l[i] = 92 then [92, l[i]] else [l[i]]) := by
  rw [List.take_succ_eq_append_getElem h, escL_append]
  congr 1
theorem spN_le (l : List UInt8) : spN l ≤ 2 * l.length := by
  unfold spN countByte
  have := List.count_le_length (a := (34 : UInt8)) (l := l)
  have := List.count_le_length (a := (92 : UInt8)) (l := l)
  omega
/-- the row that is written: the first signs are there -/
structure FillB (W : World) (N n : Nat) (l : List UInt8) : Prop where
  lt : N < W.heap.size
  fz : ∀ o, W.frozen? ⟨N, o, none⟩ = false
  le : l.length ≤ n
  cells : ∀ k, k < n → ∃ x : UInt8, W.cell? ⟨N, k, none⟩ = some (.int .u8 (x.toNat : Int)) ∧ (∀ h : k < l.length, l[k] = x)
theorem FillB.drew {W : World} {N n : Nat} {l : List UInt8} (h : FillB W N n l) : FillB W.drew N n l :=
  ⟨h.lt, fun o => h.fz o, h.le, fun k hk => h.cells k hk⟩
theorem FillB.put {W : World} {N n : Nat} {l : List UInt8} (h : FillB W N n l) (x : UInt8) (hl : l.length < n) : FillB (W.setCell ⟨N, l.length, none⟩ (.int .u8 (x.toNat : Int))) N n (l ++ [x]) where
  lt := by rw [sz_set]; exact h.lt
  fz := fun o => by rw [World.frozen?_setCell]; exact h.fz o
  le := by rw [List.length_append]; exact hl
  cells := fun k hk => by
    by_cases hkl : k = l.length
    · subst hkl
      obtain ⟨y, hy, _⟩ := h.cells _ hk
      exact ⟨x, World.cell?_setCell_same _ _ _ hy, fun h' => by simp⟩
    · obtain ⟨y, hy, hl'⟩ := h.cells k hk
      refine ⟨y, by rw [World.cell?_setCell_other _ _ _ _ (by intro e; exact hkl (congrArg Addr.off e).symm)]; exact hy, fun h' => ?_⟩
      have hlt : k < l.length := by rw [List.length_append, List.length_singleton] at h'; omega
      rw [List.getElem_append_left hlt]
      exact hl' hlt
end Go.Proofs.YthicilfhnakhmaaGreatDoor
