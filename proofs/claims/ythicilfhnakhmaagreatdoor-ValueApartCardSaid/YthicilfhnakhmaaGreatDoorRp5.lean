/- strings.NewReplacer at the two signs, (*strings.Replacer).Replace: walked. -/
import Derived.Test.YthicilfhnakhmaaGreatDoorRp2
import Derived.Test.YthicilfhnakhmaaGreatDoorRp4
import Derived.Test.YthicilfhnakhmaaGreatDoorOwn3
set_option linter.unusedSimpArgs false
set_option linter.unusedVariables false
namespace Go.Proofs.YthicilfhnakhmaaGreatDoor
open Go.RowKit Go.Sort Go.Lib

/-- a replacer of the two signs that is not built yet -/
structure NewRpl (w : World) (b : Nat) : Prop where
  of : ∃ o c, b < w.heap.size ∧ o < w.heap.size ∧ o ≠ b ∧ w.cell? ⟨b, 0, none⟩ = some (.int .u32 0) ∧ w.cell? ⟨b, 1, none⟩ = some (.int .i32 0) ∧ w.cell? ⟨b, 3, none⟩ = some .nilIface ∧
    w.cell? ⟨b, 4, none⟩ = some (.slice (some ⟨o, 0, none⟩) 4 c) ∧ (∀ j, w.frozen? ⟨b, j, none⟩ = false) ∧
    w.cell? ⟨o, 0, none⟩ = some (.string ⟨#[92]⟩) ∧ w.cell? ⟨o, 1, none⟩ = some (.string ⟨#[92, 92]⟩) ∧ w.cell? ⟨o, 2, none⟩ = some (.string ⟨#[34]⟩) ∧ w.cell? ⟨o, 3, none⟩ = some (.string ⟨#[92, 34]⟩)
theorem NewRpl.below {w w' : World} {b : Nat} (h : NewRpl w b) (hb : RowKit.Below w.heap.size w w') : NewRpl w' b := by
  obtain ⟨o, c, h1, h2, h3, a0, a1, a3, a4, fz, b0, b1, b2, b3⟩ := h.of
  have hs := hb.size
  exact ⟨⟨o, c, by omega, by omega, h3, (hb.cell (p := ⟨b, 0, none⟩) h1).trans a0, (hb.cell (p := ⟨b, 1, none⟩) h1).trans a1, (hb.cell (p := ⟨b, 3, none⟩) h1).trans a3, (hb.cell (p := ⟨b, 4, none⟩) h1).trans a4, fun j => (hb.frozen (p := ⟨b, j, none⟩) h1).trans (fz j),
    (hb.cell (p := ⟨o, 0, none⟩) h2).trans b0, (hb.cell (p := ⟨o, 1, none⟩) h2).trans b1, (hb.cell (p := ⟨o, 2, none⟩) h2).trans b2, (hb.cell (p := ⟨o, 3, none⟩) h2).trans b3⟩⟩

set_option maxRecDepth 100000 in
set_option maxHeartbeats 3200000 in
theorem rplReplace_any (b : Nat) (s : ByteArray) (w : World) (h : NewRpl w b) (hs : s.size ≤ 1000) :
    Calls Tryz.prog 24 #[.pointer (some ⟨b, 0, none⟩), .string s] w fun e w' => e = .returned (.string ⟨(escL s.data.toList).toArray⟩) ∧ RowKit.Below b w w' := by
  obtain ⟨o, c, h1, h2, h3, a0, a1, a3, a4, fz, b0, b1, b2, b3⟩ := h.of
  have hmf : ∀ (fn : Fn) (first cap : Array Value) (w : World), (Instr.makeFunc fn first cap).run Tryz.prog w = .ok (.func fn first cap) w := fun _ _ _ _ => rfl
  have HDO := Lib.hid (onceDo_any b o c .nilIface w h1 h2 h3 a0 a1 a3 a4 fz b0 b1 b2 b3)
  obtain ⟨R, hR⟩ : ∃ R : ByteArray, ⟨(escL s.data.toList).toArray⟩ = R := ⟨_, rfl⟩
  rw [hR]
  have HR := Lib.hid hR
  clear hR
  go_enter Tryz.func24, Tryz.ntmps24
  go_wp2_with fail
  refine HDO.out.mono ?_
  rintro e w1 ⟨rfl, B, hc3, hRp, hb1⟩
  go_wp2_with fail
  refine (bsr_any _ B s _ hRp hs).mono ?_
  rintro e w2 ⟨rfl, hb2⟩
  rw [HR.out]
  go_wp2_with fail
  go_ret
  exact ⟨rfl, hb1.trans (hb2.mono (by have := hb1.size; omega))⟩

set_option maxRecDepth 100000 in
set_option maxHeartbeats 3200000 in
theorem newRpl_any (a : Nat) (w : World) (ha : a < w.heap.size)
    (b0 : w.cell? ⟨a, 0, none⟩ = some (.string ⟨#[92]⟩)) (b1 : w.cell? ⟨a, 1, none⟩ = some (.string ⟨#[92, 92]⟩)) (b2 : w.cell? ⟨a, 2, none⟩ = some (.string ⟨#[34]⟩)) (b3 : w.cell? ⟨a, 3, none⟩ = some (.string ⟨#[92, 34]⟩)) :
    Calls Tryz.prog 23 #[.slice (some ⟨a, 0, none⟩) 4 4] w fun e w' => ∃ b, e = .returned (.pointer (some ⟨b, 0, none⟩)) ∧ w.heap.size ≤ b ∧ NewRpl w' b ∧ RowKit.Below w.heap.size w w' := by
  obtain ⟨s0, sinf, sza, szb, szc⟩ := info_parts (show (Tryz.prog.info? 9).map (fun i => (i.zero, i.size, i.bytes)) = some (some (.string ⟨#[]⟩), 1, 16) by kernel_rfl)
  go_enter Tryz.func23, Tryz.ntmps23
  go_wp2_with (first
    | (at_builtin; refine wpList_append_own _ rfl _ _ 48 rfl w.heap.size 9 s0 (.string ⟨#[]⟩) 1 16 Tryz.underlying48 sinf sza szb szc rfl (by decide) _ 0 [] rfl (⟨rfl, Or.inl ⟨rfl, rfl⟩⟩) ⟨a, 0, none⟩ 4 4 [.string ⟨#[92]⟩, .string ⟨#[92, 92]⟩, .string ⟨#[34]⟩, .string ⟨#[92, 34]⟩] rfl rfl ?c1 ?c2 ?c3 ?c4 ?c5 ?_)
    | fail)
  case c1 =>
    intro i u' hu
    match i, hu with
    | 0, hu => simp at hu; subst hu; simpa [Addr.add] using b0
    | 1, hu => simp at hu; subst hu; simpa [Addr.add] using b1
    | 2, hu => simp at hu; subst hu; simpa [Addr.add] using b2
    | 3, hu => simp at hu; subst hu; simpa [Addr.add] using b3
  case c2 => intro u' hu; simp at hu; rcases hu with rfl | rfl | rfl | rfl <;> rfl
  case c3 => unfold maxLen; omega
  case c4 => omega
  case c5 => simp
  · intro v' w5 hown hgrow _
    have hb5 : RowKit.Below w.heap.size w w5 := (Below.refl _ _).grown hgrow (by simp) (fun g hg => by cases hg)
    obtain ⟨hl, hr⟩ := hown
    rcases hr with ⟨rfl, hr⟩ | ⟨g, cap, cur, rfl, q1, q2, q3, q4, q5, q6⟩
    · simp at hr
    · have hk : ∀ (k : Nat) (v : Value), [Value.string ⟨#[92]⟩, Value.string ⟨#[92, 92]⟩, Value.string ⟨#[34]⟩, Value.string ⟨#[92, 34]⟩][k]? = some v → w5.cell? ⟨g, k, none⟩ = some v := by
        intro k v hv
        rw [cell_of_block q2, ← Array.getElem?_toList]
        rw [← q6, List.getElem?_take] at hv
        split at hv
        · exact hv
        · cases hv
      have g0 := hk 0 _ rfl
      have g1 := hk 1 _ rfl
      have g2 := hk 2 _ rfl
      have g3 := hk 3 _ rfl
      have hgl : g < w5.heap.size := by
        rcases Nat.lt_or_ge g w5.heap.size with h | h
        · exact h
        · rw [Array.getElem?_eq_none h] at q2; cases q2
      have hs5 := hb5.size
      have HNR : Hid (NewRpl (w5.alloc (.cells #[.int .u32 0, .int .i32 0, .int .u32 0, .nilIface, .slice (some ⟨g, 0, none⟩) 4 cap] 81)) w5.heap.size) := Lib.hid (by
        refine ⟨⟨g, cap, by simp, by simp; omega, by omega, ?_, ?_, ?_, ?_, fun j => World.frozen?_alloc_new _ _ _ _, ?_, ?_, ?_, ?_⟩⟩
        · rw [World.cell?_alloc_new]; rfl
        · rw [World.cell?_alloc_new]; rfl
        · rw [World.cell?_alloc_new]; rfl
        · rw [World.cell?_alloc_new]; rfl
        · rw [World.cell?_alloc_past _ _ _ hgl]; exact g0
        · rw [World.cell?_alloc_past _ _ _ hgl]; exact g1
        · rw [World.cell?_alloc_past _ _ _ hgl]; exact g2
        · rw [World.cell?_alloc_past _ _ _ hgl]; exact g3)
      have HB5 := Lib.hid hb5
      clear hk g0 g1 g2 g3 q2 q3 q4 q5 q6 hb5
      go_wp2_with fail
      go_ret
      exact ⟨_, rfl, hs5, HNR.out, HB5.out.alloc hs5 _⟩
end Go.Proofs.YthicilfhnakhmaaGreatDoor
