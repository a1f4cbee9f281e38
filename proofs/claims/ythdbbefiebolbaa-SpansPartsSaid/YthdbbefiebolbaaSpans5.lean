/- Spans: Join, walked. -/
import Derived.Test.YthdbbefiebolbaaSpans4
import Derived.Test.YthdbbefiebolbaaSpansN
set_option linter.unusedSimpArgs false
set_option linter.unusedVariables false
namespace Go.Proofs.Ythdbbefiebolbaa
open Go.RowKit Go.Sort

def spF (l : List Sp) (t : Nat) : Int := if t % 2 = 0 then (l[t / 2]?.getD (0, 0)).1 else (l[t / 2]?.getD (0, 0)).2
theorem spF_even {l : List Sp} {q : Nat} (h : q < l.length) : spF l (q * 2) = (l[q]'h).1 := by
  unfold spF
  rw [if_pos (by omega), show q * 2 / 2 = q by omega, List.getElem?_eq_getElem h]; rfl
theorem spF_odd {l : List Sp} {q : Nat} (h : q < l.length) : spF l (q * 2 + 1) = (l[q]'h).2 := by
  unfold spF
  rw [if_neg (by omega), show (q * 2 + 1) / 2 = q by omega, List.getElem?_eq_getElem h]; rfl

set_option maxHeartbeats 400000 in
theorem clone_empty (A : Option Addr) (c : Nat) (w : World) :
    Calls Try.prog 21 #[.slice A 0 c] w fun e w' => ∃ A', e = .returned (.slice A' 0 0) ∧ Below w.heap.size w w' := by
  have q22 : ∀ (w : World) (a : Option Addr) (n c n' c' : Nat), (binOp .eql 22 (.slice a n c) (.slice none n' c')).run Try.prog w = .ok (.bool a.isNone) w := fun w a n c n' c' => Lib.run_eql_slice_nil w _ _ a n c n' c' Try.underlying22
  cases A with
  | none =>
    go_enter Try.func21, Try.ntmps21
    go_wp2_with fail
    go_ret
    exact ⟨_, rfl, (by repeat' (first | (with_reducible exact Below.refl _ _) | (with_reducible assumption) | (with_reducible refine Below.drew ?_) | (with_reducible refine below_drewN ?_ _) | (with_reducible refine below_iterAt ?_ ?_ _ _) | (with_reducible refine below_iter ?_ ?_ _ _) | (with_reducible refine Below.alloc ?_ ?_ _) | (with_reducible refine Below.setCell ?_ ?_ _) | (with_reducible refine Below.trans ?_ (Below.mono (by assumption) ?_)) | (simp only [sz_alloc, sz_set, sz_drew, sz_drewN, sz_iterAt, sz_iter] at *; omega) | omega | (simp; done) | (simp; omega) | (apply Below.size; assumption) | (simp only [sz_drew, sz_drewN]; apply Below.size; assumption) | (refine Nat.le_trans ?_ (Below.size (by assumption)))))⟩
  | some a =>
    have h0 : (0 : Int) ≤ (c : Int) := by omega
    go_enter Try.func21, Try.ntmps21
    go_wp2_with fail
    go_ret
    exact ⟨_, rfl, (by repeat' (first | (with_reducible exact Below.refl _ _) | (with_reducible assumption) | (with_reducible refine Below.drew ?_) | (with_reducible refine below_drewN ?_ _) | (with_reducible refine below_iterAt ?_ ?_ _ _) | (with_reducible refine below_iter ?_ ?_ _ _) | (with_reducible refine Below.alloc ?_ ?_ _) | (with_reducible refine Below.setCell ?_ ?_ _) | (with_reducible refine Below.trans ?_ (Below.mono (by assumption) ?_)) | (simp only [sz_alloc, sz_set, sz_drew, sz_drewN, sz_iterAt, sz_iter] at *; omega) | omega | (simp; done) | (simp; omega) | (apply Below.size; assumption) | (simp only [sz_drew, sz_drewN]; apply Below.size; assumption) | (refine Nat.le_trans ?_ (Below.size (by assumption)))))⟩

set_option maxHeartbeats 800000 in
theorem clone_any (l : List Sp) (b off c : Nat) (w : World) (hr : RdL w 2 (some ⟨b, off, none⟩) (l.map spC)) (hn : l.length ≤ 1000000000000) :
    Calls Try.prog 21 #[.slice (some ⟨b, off, none⟩) l.length c] w fun e w' =>
      ∃ (g cap : Nat) (f : Nat → Int), e = .returned (.slice (some ⟨g, 0, none⟩) l.length cap) ∧ w.heap.size ≤ g ∧ g < w'.heap.size ∧ l.length ≤ cap ∧ RowIs w' g f (l.length * 2) ∧ (∀ o, w'.frozen? ⟨g, o, none⟩ = false) ∧
        (∀ t (h : t < l.length), f (t * 2) = (l[t]'h).1 ∧ f (t * 2 + 1) = (l[t]'h).2) ∧ Below w.heap.size w w' := by
  obtain ⟨i0, hinf, hza, hzb, hzc⟩ := info_parts (show (Try.prog.info? 35).map (fun i => (i.zero, i.size, i.bytes)) = some (some (.agg #[.int .i64 0, .int .i64 0]), 2, 16) by kernel_rfl)
  have hlen : ∀ l : List Sp, (l.flatMap spC).length = l.length * 2 := by
    intro l
    induction l with
    | nil => rfl
    | cons x r ih => rw [List.flatMap_cons, List.length_append, ih]; simp [spC]; omega
  have hget : ∀ (l : List Sp) (j : Nat) (h : j < l.length), (l.flatMap spC)[j * 2]? = some (.int .i64 (l[j]'h).1) ∧ (l.flatMap spC)[j * 2 + 1]? = some (.int .i64 (l[j]'h).2) := by
    intro l
    induction l with
    | nil => intro j h; simp at h
    | cons x r ih =>
      intro j h
      cases j with
      | zero => simp [spC]
      | succ j =>
        have h2 := ih j (by simpa using h)
        have e0 : (j + 1) * 2 = j * 2 + 2 := by omega
        rw [List.flatMap_cons, e0]
        refine ⟨?_, ?_⟩
        · rw [List.getElem?_append_right (by simp [spC])]
          simpa [spC] using h2.1
        · rw [List.getElem?_append_right (by simp [spC])]
          simpa [spC] using h2.2
  have hcon := Go.Proofs.AnyE.slices_Clone Try.laysClone i0 (.agg #[.int .i64 0, .int .i64 0]) 2 16 hinf hza hzb hzc rfl (by decide) Try.sizeOf35 b off l.length c (l.flatMap spC) w (hlen l) (by unfold maxLen; omega) (by omega)
    (fun j u hj => by
      have hjl : j < l.length * 2 := by have := (List.getElem?_eq_some_iff.1 hj).1; rw [hlen] at this; exact this
      obtain ⟨q, hq⟩ : ∃ q, j = q * 2 ∨ j = q * 2 + 1 := ⟨j / 2, by omega⟩
      have hql : q < l.length := by rcases hq with rfl | rfl <;> omega
      obtain ⟨b2, o2, e, hx⟩ := hr.at_ hql
      cases e
      rcases hq with rfl | rfl
      · have h1 := (hget l q hql).1
        rw [h1] at hj
        have := hx.get 0 (v := .int .i64 (l[q]'hql).1) rfl
        rw [← Option.some.inj hj]
        exact this
      · have h1 := (hget l q hql).2
        rw [h1] at hj
        have := hx.get 1 (v := .int .i64 (l[q]'hql).2) rfl
        rw [← Option.some.inj hj]
        rw [show off + (q * 2 + 1) = off + q * 2 + 1 by omega]
        exact this)
    (fun u hu => by
      obtain ⟨x, _, hx⟩ := List.mem_flatMap.1 hu
      simp [spC] at hx
      rcases hx with rfl | rfl <;> rfl)
  change Calls Try.prog 21 _ _ _ at hcon
  refine hcon.mono ?_
  rintro e w' ⟨v', rfl, hown, hne, hb⟩
  rcases hown.2 with ⟨h1, _⟩ | ⟨g, cap, cur, rfl, hg, hc, hnc, hcm, hcs, htake⟩
  · exact absurd h1 hne
  have hrow : ∀ j (hj : j < l.length), cur[j * 2]? = some (.int .i64 (l[j]'hj).1) ∧ cur[j * 2 + 1]? = some (.int .i64 (l[j]'hj).2) := by
    intro j hj
    have h1 := hget l j hj
    rw [← htake] at h1
    rw [List.getElem?_take, if_pos (by omega), List.getElem?_take, if_pos (by omega)] at h1
    simpa using h1
  refine ⟨g, cap, spF l, rfl, hg, lt_of_block hc, hnc, ?_, ?_, fun t ht => ⟨spF_even ht, spF_odd ht⟩, hb⟩
  · intro t ht
    rw [cell_of_block hc]
    obtain ⟨q, hq⟩ : ∃ q, t = q * 2 ∨ t = q * 2 + 1 := ⟨t / 2, by omega⟩
    have hql : q < l.length := by rcases hq with rfl | rfl <;> omega
    rcases hq with rfl | rfl
    · rw [spF_even hql]; exact (hrow q hql).1
    · rw [spF_odd hql]; exact (hrow q hql).2
  · intro o
    simp [World.frozen?, hc]

set_option maxHeartbeats 400000 in
theorem delete_empty (A : Option Addr) (w : World) :
    Calls Try.prog 20 #[.slice A 0 0, .func (.func 22) #[] #[]] w fun e w' => e = .returned (.slice A 0 0) ∧ Below w.heap.size w w' := by
  have eg : ∀ args W, (callFunc 22 args).run Try.prog W = .ok (.enter 22 args) W := enters_of Try.func22 (by kernel_rfl) rfl
  have hix := spIndex 22 (fun x => !okS x) [] A 0 w (RdL.nil_ _ _ _) (by simp) (fun x hx => by cases hx) eg
  have hix2 : Calls Try.prog 30 #[.slice A 0 0, .func (.func 22) #[] #[]] w fun e w' => e = .returned (.int .i64 (-1)) ∧ Below w.heap.size w w' := hix
  clear hix eg
  go_enter Try.func20, Try.ntmps20
  go_wp2_with fail
  refine hix2.mono ?_
  rintro e w1 ⟨rfl, hb1⟩
  clear hix2
  go_wp2_with fail
  go_ret
  exact ⟨rfl, hb1⟩
end Go.Proofs.Ythdbbefiebolbaa
