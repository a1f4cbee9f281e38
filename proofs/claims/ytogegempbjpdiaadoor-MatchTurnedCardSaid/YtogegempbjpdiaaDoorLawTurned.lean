/- soffitlaw12.MatchTurned: the four walks joined. -/
import Derived.Test.YtogegempbjpdiaaDoorTurnW1
import Derived.Test.YtogegempbjpdiaaDoorTurnW2
import Derived.Test.YtogegempbjpdiaaDoorTurnW3
import Derived.Test.YtogegempbjpdiaaDoorTurnW4
set_option linter.unusedSimpArgs false
set_option linter.unusedVariables false
namespace Go.Proofs.YtogegempbjpdiaaDoor
open Go.RowKit

theorem lawTurned_any (c : Cel) (v u : Vl) (A : Option Addr) (cap : Nat) (w : World) (hr : RdL w 13 A (c.ts.map Tst.cells)) (hw : ∀ t ∈ c.ts, t.wf) (hv : v.wf) (hu : u.wf) (hn : c.ts.length ≤ 9223372036854775807) (hE : Env w) :
    Calls Tryd.prog 6 #[.agg #[.bool c.any, .bool c.neg, .slice A c.ts.length cap], .agg #[.int .i64 v.k, .int .i64 v.n, .int .i64 v.s, .string v.t, .int .i64 v.i], .agg #[.int .i64 u.k, .int .i64 u.n, .int .i64 u.s, .string u.t, .int .i64 u.i]] w fun e w' =>
      e = .returned (.bool true) ∧ Below w.heap.size w w' := by
  have hall : ∀ d : Cel, ∃ a e, allRes d v = .tuple #[.bool a, .int .i64 e] ∧ ((uSndB d && sndB v) = true → a = allB d v ∧ e = 0) ∧ ((uSndB d && sndB v) = false → e = 2) := by
    intro d
    unfold allRes
    cases (uSndB d && sndB v)
    · exact ⟨false, 2, rfl, by simp, by simp⟩
    · exact ⟨allB d v, 0, rfl, by simp, by simp⟩
  obtain ⟨a, e, ra, a1, a2⟩ := hall c
  obtain ⟨b, f, rb, b1, b2⟩ := hall c.turn
  have hone : ∀ t : Tst, ∃ x g, oneRes t v = .tuple #[.bool x, .int .i64 g] ∧ ((uOneB t && sndB v) = true → x = oneB t v ∧ g = 0) ∧ ((uOneB t && sndB v) = false → g = 2) := by
    intro t
    unfold oneRes
    cases (uOneB t && sndB v)
    · exact ⟨false, 2, rfl, by simp, by simp⟩
    · exact ⟨oneB t v, 0, rfl, by simp, by simp⟩
  obtain ⟨x, g, rx, x1, x2⟩ := hone (tLess u)
  obtain ⟨y, h, ry, y1, y2⟩ := hone (tLeast u)
  have ul : uOneB (tLess u) = (sndB u && rankB u) := uOne_rank (by omega)
  have ug : uOneB (tLeast u) = (sndB u && rankB u) := uOne_rank (by omega)
  have hcase : (e = 0 ∧ f = 0 ∧ (a == b) = false) ∨ (e = 2 ∧ f = 2) ∨ (e = 0 ∧ f = 2 ∧ c.any = true) ∨ (e = 2 ∧ f = 0 ∧ c.any = true) := ?one
  have hend : (g = 2 ∧ h = 2) ∨ (g = 0 ∧ h = 0 ∧ x = true ∧ y = false ∧ (v.k == u.k) = true) ∨ (g = 0 ∧ h = 0 ∧ x = false ∧ y = true ∧ (v.k == u.k) = true) ∨ (g = 0 ∧ h = 0 ∧ x = false ∧ y = false ∧ (v.k == u.k) = false) := ?two
  · rcases hcase with ⟨rfl, rfl, hab⟩ | ⟨rfl, rfl⟩ | ⟨rfl, rfl, hany⟩ | ⟨rfl, rfl, hany⟩
    · exact turned_walk1 c v u A cap w hr hw hv hu hn hE a b x y g h ra rb rx ry hab hend
    · exact turned_walk2 c v u A cap w hr hw hv hu hn hE a b x y g h ra rb rx ry hend
    · exact turned_walk3 c v u A cap w hr hw hv hu hn hE a b x y g h ra rb rx ry hany hend
    · exact turned_walk4 c v u A cap w hr hw hv hu hn hE a b x y g h ra rb rx ry hany hend
  case one =>
    cases hany : c.any
    · rw [turn_snd hany] at b1 b2
      cases hs : (uSndB c && sndB v)
      · exact Or.inr (Or.inl ⟨a2 hs, b2 hs⟩)
      · refine Or.inl ⟨(a1 hs).2, (b1 hs).2, ?_⟩
        rw [(a1 hs).1, (b1 hs).1, turn_all hany]
        cases allB c v <;> rfl
    · have := turn_any hany
      cases hs : (uSndB c && sndB v) <;> cases ht : (uSndB c.turn && sndB v)
      · exact Or.inr (Or.inl ⟨a2 hs, b2 ht⟩)
      · exact Or.inr (Or.inr (Or.inr ⟨a2 hs, (b1 ht).2, rfl⟩))
      · exact Or.inr (Or.inr (Or.inl ⟨(a1 hs).2, b2 ht, rfl⟩))
      · simp_all
  case two =>
    rw [ul] at x1 x2
    rw [ug] at y1 y2
    cases hs : ((sndB u && rankB u) && sndB v)
    · exact Or.inl ⟨x2 hs, y2 hs⟩
    · have hh : (sndB u = true ∧ rankB u = true) ∧ sndB v = true := by simpa using hs
      obtain ⟨rfl, rfl⟩ := x1 hs
      obtain ⟨rfl, rfl⟩ := y1 hs
      rw [oneB_less, oneB_least]
      rcases apart_three hh.1.1 hh.2 hh.1.2 with ⟨h1, h2, h3⟩ | ⟨h1, h2, h3⟩ | ⟨h1, h2, h3⟩
      · exact Or.inr (Or.inl ⟨rfl, rfl, h1, h2, h3⟩)
      · exact Or.inr (Or.inr (Or.inl ⟨rfl, rfl, h1, h2, h3⟩))
      · exact Or.inr (Or.inr (Or.inr ⟨rfl, rfl, h1, h2, h3⟩))
end Go.Proofs.YtogegempbjpdiaaDoor
