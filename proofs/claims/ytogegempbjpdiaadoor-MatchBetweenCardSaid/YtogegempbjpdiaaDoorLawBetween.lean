/- soffitlaw12.MatchBetween: the walks joined. -/
import Derived.Test.YtogegempbjpdiaaDoorBetwW0
import Derived.Test.YtogegempbjpdiaaDoorBetwW1
import Derived.Test.YtogegempbjpdiaaDoorBetwW2
import Derived.Test.YtogegempbjpdiaaDoorBetwW3
import Derived.Test.YtogegempbjpdiaaDoorBetwW4
set_option linter.unusedSimpArgs false
set_option linter.unusedVariables false
namespace Go.Proofs.YtogegempbjpdiaaDoor
open Go.RowKit

theorem oneB_six (lo hi v : Vl) (ol oh : Bool) : oneB ⟨6, lo, hi, ol, oh⟩ v = ((lessB lo v || eqB v lo && !ol) && (lessB v hi || eqB v hi && !oh)) := rfl
theorem lawBetween_any (lo hi v : Vl) (ol oh : Bool) (w : World) (hl : lo.wf) (hh : hi.wf) (hv : v.wf) (hE : Env w) :
    Calls Tryd.prog 7 #[.agg #[.int .i64 lo.k, .int .i64 lo.n, .int .i64 lo.s, .string lo.t, .int .i64 lo.i], .agg #[.int .i64 hi.k, .int .i64 hi.n, .int .i64 hi.s, .string hi.t, .int .i64 hi.i], .agg #[.int .i64 v.k, .int .i64 v.n, .int .i64 v.s, .string v.t, .int .i64 v.i], .bool ol, .bool oh] w fun e w' =>
      e = .returned (.bool true) ∧ Below w.heap.size w w' := by
  cases su : uOneB ⟨6, lo, hi, ol, oh⟩
  · exact between_no1 lo hi v ol oh w hl hh hv hE su (by unfold oneRes; rw [su]; rfl)
  cases sv : sndB v
  · exact between_no2 lo hi v ol oh w hl hh hv hE su sv (by unfold oneRes; rw [su, sv]; rfl)
  have hone : ∀ t : Tst, uOneB t = true → oneRes t v = .tuple #[.bool (oneB t v), .int .i64 0] := by
    intro t h
    unfold oneRes
    rw [h, sv]; rfl
  have h6 : (sndB lo = true ∧ sndB hi = true) ∧ rankB lo = true ∧ (hi.k == lo.k) = true := by
    have := su
    unfold uOneB at this
    simpa using this
  obtain ⟨⟨slo, shi⟩, rlo, hk⟩ := h6
  have rhi : rankB hi = true := rankB_of rlo (by simpa using hk)
  have u4 : uOneB (tMore lo) = true := (uOne_rank (by omega)).trans (by rw [slo, rlo]; rfl)
  have u5 : uOneB (tLeast lo) = true := (uOne_rank (by omega)).trans (by rw [slo, rlo]; rfl)
  have u2 : uOneB (tLess hi) = true := (uOne_rank (by omega)).trans (by rw [shi, rhi]; rfl)
  have u3 : uOneB (tMost hi) = true := (uOne_rank (by omega)).trans (by rw [shi, rhi]; rfl)
  cases ol <;> cases oh
  · exact between_yes1 lo hi v w hl hh hv hE su sv _ _ _ (hone _ su) (hone _ u5) (hone _ u3) (by rw [oneB_six, oneB_least, oneB_most]; simp)
  · exact between_yes3 lo hi v w hl hh hv hE su sv _ _ _ (hone _ su) (hone _ u5) (hone _ u2) (by rw [oneB_six, oneB_least, oneB_less]; simp)
  · exact between_yes2 lo hi v w hl hh hv hE su sv _ _ _ (hone _ su) (hone _ u4) (hone _ u3) (by rw [oneB_six, oneB_more, oneB_most]; simp)
  · exact between_yes4 lo hi v w hl hh hv hE su sv _ _ _ (hone _ su) (hone _ u4) (hone _ u2) (by rw [oneB_six, oneB_more, oneB_less]; simp)
end Go.Proofs.YtogegempbjpdiaaDoor
