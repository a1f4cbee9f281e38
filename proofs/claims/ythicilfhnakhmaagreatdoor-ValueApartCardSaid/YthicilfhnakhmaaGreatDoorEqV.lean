/- When are two values equal? and how the code asks it. -/
import Derived.Test.YthicilfhnakhmaaGreatDoorVl
import Derived.Test.YthicilfhnakhmaaGreatDoorRead
set_option linter.unusedSimpArgs false
set_option linter.unusedVariables false
namespace Go.Proofs.YthicilfhnakhmaaGreatDoor
open Go.RowKit

theorem toList_inj {a b : ByteArray} (h : a.toList = b.toList) : a = b := by
  rw [ByteArray.toList_eq, ByteArray.toList_eq] at h
  obtain ⟨x⟩ := a
  obtain ⟨y⟩ := b
  exact congrArg ByteArray.mk (Array.ext' h)

/-- are two values equal? -/
def eqB (a b : Vl) : Bool := a.k == b.k && a.n == b.n && a.s == b.s && a.t.toList == b.t.toList && a.i == b.i
theorem eqB_iff (a b : Vl) : eqB a b = true ↔ a = b := by
  obtain ⟨k, n, s, t, i⟩ := a
  obtain ⟨k', n', s', t', i'⟩ := b
  simp only [eqB, Bool.and_eq_true, beq_iff_eq, Vl.mk.injEq]
  constructor
  · rintro ⟨⟨⟨⟨h1, h2⟩, h3⟩, h4⟩, h5⟩
    exact ⟨h1, h2, h3, toList_inj h4, h5⟩
  · rintro ⟨rfl, rfl, rfl, rfl, rfl⟩
    exact ⟨⟨⟨⟨rfl, rfl⟩, rfl⟩, rfl⟩, rfl⟩

theorem eqV_run (a b : Vl) (w : World) : (binOp .eql 25 (.agg #[.int .i64 a.k, .int .i64 a.n, .int .i64 a.s, .string a.t, .int .i64 a.i]) (.agg #[.int .i64 b.k, .int .i64 b.n, .int .i64 b.s, .string b.t, .int .i64 b.i])).run Tryz.prog w =
    .ok (.bool (eqB a b)) w := by
  obtain ⟨k, n, s, t, i⟩ := a
  obtain ⟨k', n', s', t', i'⟩ := b
  unfold eqB
  go_simp
  repeat' split
  all_goals simp_all

theorem neV_run (a b : Vl) (w : World) : (binOp .neq 25 (.agg #[.int .i64 a.k, .int .i64 a.n, .int .i64 a.s, .string a.t, .int .i64 a.i]) (.agg #[.int .i64 b.k, .int .i64 b.n, .int .i64 b.s, .string b.t, .int .i64 b.i])).run Tryz.prog w =
    .ok (.bool (!eqB a b)) w := by
  obtain ⟨k, n, s, t, i⟩ := a
  obtain ⟨k', n', s', t', i'⟩ := b
  unfold eqB
  go_simp
  repeat' split
  all_goals simp_all

theorem rdL_one {W : World} {sz b : Nat} {cs : List Value} (h : ∀ o, W.cell? ⟨b, o, none⟩ = cs.toArray[o]?) : RdL W sz (some ⟨b, 0, none⟩) [cs] := by
  intro j c hc
  rcases j with _ | j
  · obtain rfl : cs = c := by simpa using hc
    exact ⟨b, 0, rfl, fun i v hv => by rw [show (0 + 0 * sz + i) = i by omega, h]; simpa using hv⟩
  · simp at hc
theorem rdL_two {W : World} {sz b : Nat} {cs ds : List Value} (hl : cs.length = sz) (h : ∀ o, W.cell? ⟨b, o, none⟩ = (cs ++ ds).toArray[o]?) : RdL W sz (some ⟨b, 0, none⟩) [cs, ds] := by
  intro j c hc
  rcases j with _ | _ | j
  · obtain rfl : cs = c := by simpa using hc
    exact ⟨b, 0, rfl, fun i v hv => by
      rw [show (0 + 0 * sz + i) = i by omega, h]
      have hi : i < cs.length := (List.getElem?_eq_some_iff.mp hv).1
      simp only [List.getElem?_toArray]
      rw [List.getElem?_append_left hi]; exact hv⟩
  · obtain rfl : ds = c := by simpa using hc
    exact ⟨b, 0, rfl, fun i v hv => by
      rw [show (0 + (0 + 1) * sz + i) = cs.length + i by omega, h]
      simp only [List.getElem?_toArray]
      rw [List.getElem?_append_right (by omega), Nat.add_sub_cancel_left]; exact hv⟩
  · simp at hc

end Go.Proofs.YthicilfhnakhmaaGreatDoor
