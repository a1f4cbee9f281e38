/- strings.Replacer: Do, Replace, NewReplacer, walked. -/
import Derived.Test.YthicilfhnakhmaaGreatDoorRp1
set_option linter.unusedSimpArgs false
set_option linter.unusedVariables false
namespace Go.Proofs.YthicilfhnakhmaaGreatDoor
open Go.RowKit Go.Sort Go.Lib

set_option maxRecDepth 100000 in
set_option maxHeartbeats 3200000 in
theorem onceDo_any (b o c : Nat) (x3 : Value) (w : World) (hb : b < w.heap.size) (ho : o < w.heap.size) (hob : o ≠ b)
    (c0 : w.cell? ⟨b, 0, none⟩ = some (.int .u32 0)) (c1 : w.cell? ⟨b, 1, none⟩ = some (.int .i32 0))
    (hc3 : w.cell? ⟨b, 3, none⟩ = some x3) (hc4 : w.cell? ⟨b, 4, none⟩ = some (.slice (some ⟨o, 0, none⟩) 4 c)) (hfz : ∀ o, w.frozen? ⟨b, o, none⟩ = false)
    (o0 : w.cell? ⟨o, 0, none⟩ = some (.string ⟨#[92]⟩)) (o1 : w.cell? ⟨o, 1, none⟩ = some (.string ⟨#[92, 92]⟩)) (o2 : w.cell? ⟨o, 2, none⟩ = some (.string ⟨#[34]⟩)) (o3 : w.cell? ⟨o, 3, none⟩ = some (.string ⟨#[92, 34]⟩)) :
    Calls Tryz.prog 49 #[.pointer (some ⟨b, 0, none⟩), .func (.func 50) #[.pointer (some ⟨b, 0, none⟩)] #[]] w fun e w' => e = .returned (.tuple #[]) ∧
      ∃ B, w'.cell? ⟨b, 3, none⟩ = some (.iface 155 (.pointer (some ⟨B, 0, none⟩))) ∧ IsRpl w' w.heap.size B ∧ Below b w w' := by
  have hnot : ∀ (x : Bool) (w : World), (Op.unary .not (.bool x)).run Tryz.prog w = .ok (.bool (!x)) w := fun _ _ => rfl
  have HDS := Lib.hid (doSlow_any b o c x3 w hb ho hob c0 c1 hc3 hc4 hfz o0 o1 o2 o3)
  go_enter Tryz.func49, Tryz.ntmps49
  go_wp2_with fail
  refine (once_load _ _ c0).mono ?_
  rintro e wa ⟨rfl, hwa⟩
  rw [hwa]
  clear hwa
  go_wp2_with fail
  refine HDS.out.mono ?_
  rintro e w2 ⟨rfl, B, h3, hR, hbl⟩
  go_wp2_with fail
  go_end0
  exact ⟨rfl, B, h3, hR, hbl⟩
end Go.Proofs.YthicilfhnakhmaaGreatDoor
