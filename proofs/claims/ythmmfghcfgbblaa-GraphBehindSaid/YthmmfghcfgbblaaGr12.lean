/- The constants; awake, walked. -/
import Derived.Test.YthmmfghcfgbblaaGr11
import Derived.Test.YthmmfghcfgbblaaGr8
set_option linter.unusedSimpArgs false
set_option linter.unusedVariables false
namespace Go.Proofs.Ythmmfghcfgbblaa
open Go.RowKit Go.Sort Go.Lib Go.ChangeMaps Go.WideShapes

theorem rd_lit (w : World) (b : Nat) (hb : w.heap.size = b) (vs : List Value) (t : TypeId) : RdL (w.alloc (.cells vs.toArray t)) 1 (some ⟨b, 0, none⟩) (vs.map fun v => [v]) := by
  subst hb
  intro j c hc
  rw [List.getElem?_map, Option.map_eq_some_iff] at hc
  obtain ⟨v, hv, rfl⟩ := hc
  refine ⟨w.heap.size, 0, rfl, fun i u hu => ?_⟩
  match i, hu with
  | 0, hu =>
    simp at hu
    subst hu
    exact (cell_of_block (heap_alloc_new w (.cells vs.toArray t)) _).trans (by simpa using hv)
instance (E : List (List Nat)) (o : List Nat) (i : Nat) : Decidable (Ready E o i) :=
  if h : i < E.length then decidable_of_iff _ (ready_all (o := o) h).symm else isFalse (fun hr => h hr.1)
instance (E : List (List Nat)) (o : List Nat) (i : Nat) : Decidable (NextIs E o i) := inferInstanceAs (Decidable (_ ∧ _))
theorem no_dup {ns : List Tx} (h : ∀ i, i < ns.length → (ns.take i).contains (ns.getD i []) = false) : ∀ j, j < ns.length → ¬ dupAt ns j := by
  rintro j hj ⟨s, hs, ht⟩
  have := h j hj
  rw [List.getD_eq_getElem?_getD, hs, Option.getD_some, List.contains_iff_mem.2 ht] at this
  cases this
theorem no_miss {ns : List Tx} {nd : List (List Tx)} (h : (nd.all fun l => l.all fun s => ns.contains s) = true) : ∀ j, j < nd.length → ¬ missAt ns nd j := by
  rintro j hj ⟨l, hl, s, hs, hn⟩
  rw [List.all_eq_true] at h
  have h2 := h l (List.mem_of_getElem? hl)
  rw [List.all_eq_true] at h2
  exact hn (List.contains_iff_mem.1 (h2 s hs))
theorem check_abc : CheckIs [[97], [98], [99]] [[[99]], [], [[98]]] 0 0 :=
  .inr ⟨by decide, .inr ⟨no_dup (by decide), .inr ⟨no_miss (by decide), rfl, rfl⟩⟩⟩
theorem check_ab : CheckIs [[97], [98]] [[[98]], [[97]]] 0 0 :=
  .inr ⟨by decide, .inr ⟨no_dup (by decide), .inr ⟨no_miss (by decide), rfl, rfl⟩⟩⟩
theorem edges_abc : edgesL [[97], [98], [99]] [[[99]], [], [[98]]] = [[2], [], [1]] := by decide
theorem edges_ab : edgesL [[97], [98]] [[[98]], [[97]]] = [[1], [0]] := by decide
theorem order_abc : OrderIs [[97], [98], [99]] [[[99]], [], [[98]]] [1, 2, 0] 0 0 := by
  refine ⟨0, 0, check_abc, .inr ⟨rfl, .inl ⟨?_, rfl, rfl, rfl⟩⟩⟩
  rw [edges_abc]
  exact ((OrdRun.nil.snoc (i := 1) (by decide)).snoc (i := 2) (by decide)).snoc (i := 0) (by decide)
theorem order_ab : OrderIs [[97], [98]] [[[98]], [[97]]] [] 0 13 := by
  refine ⟨0, 0, check_ab, .inr ⟨rfl, .inr ⟨rfl, rfl, [], ?_, by decide, ?_, 0, rfl, by decide, by decide, fun j hj => by omega⟩⟩⟩
  · exact OrdRun.nil
  · rw [edges_ab]
    intro i hi
    have : i < 2 := hi.1
    revert hi
    match i, this with
    | 0, _ => decide
    | 1, _ => decide
theorem above_abc : AboveIs [[97], [98], [99]] [[[99]], [], [[98]]] 0 [1, 2] 0 := by
  refine ⟨0, 0, check_abc, .inr ⟨rfl, .inr ⟨0, rfl, by decide, by decide, fun k => ?_, rfl⟩⟩⟩
  rw [edges_abc]
  refine reach_of_closed ?_ ?_ k
  · intro j hj hjo l hl
    match j, hj with
    | 0, _ => cases hl; decide
    | 1, _ => cases hl; decide
    | 2, _ => cases hl; decide
  · intro k hk
    have h2 : Reach [[2], [], [1]] 0 2 := .one rfl (by decide)
    have : k = 1 ∨ k = 2 := by simpa using hk
    rcases this with rfl | rfl
    · exact .step h2 rfl (by decide)
    · exact h2

theorem order3 (w : World) : Calls Try.prog 9 #[.slice (some ⟨w.heap.size, 0, none⟩) 3 3, .slice (some ⟨w.heap.size + 1 + 1 + 1, 0, none⟩) 3 3] ((((w.alloc (.cells #[.string ⟨#[97]⟩, .string ⟨#[98]⟩, .string ⟨#[99]⟩] 9)).alloc (.cells #[.string ⟨#[99]⟩] 9)).alloc (.cells #[.string ⟨#[98]⟩] 9)).alloc (.cells #[.slice (some ⟨w.heap.size + 1, 0, none⟩) 1 1, .slice none 0 0, .slice (some ⟨w.heap.size + 1 + 1, 0, none⟩) 1 1] 22)) fun e w' => ∃ B cb, e = .returned (.tuple #[.slice B 3 cb, .int .i64 0, .int .i64 0]) ∧ RdL w' 1 B (([1, 2, 0] : List Nat).map iC) ∧ Below w.heap.size w w' := by
  have r1 : RdL ((((w.alloc (.cells #[.string ⟨#[97]⟩, .string ⟨#[98]⟩, .string ⟨#[99]⟩] 9)).alloc (.cells #[.string ⟨#[99]⟩] 9)).alloc (.cells #[.string ⟨#[98]⟩] 9)).alloc (.cells #[.slice (some ⟨w.heap.size + 1, 0, none⟩) 1 1, .slice none 0 0, .slice (some ⟨w.heap.size + 1 + 1, 0, none⟩) 1 1] 22)) 1 (some ⟨w.heap.size, 0, none⟩) (([[97], [98], [99]] : List Tx).map tC) := (rd_lit w _ rfl [.string ⟨#[97]⟩, .string ⟨#[98]⟩, .string ⟨#[99]⟩] 9).below (by repeat' (first | (with_reducible exact Below.refl _ _) | (with_reducible assumption) | (with_reducible refine Below.drew ?_) | (with_reducible refine below_drewN ?_ _) | (with_reducible refine below_iterAt ?_ ?_ _ _) | (with_reducible refine below_iter ?_ ?_ _ _) | (with_reducible refine Below.alloc ?_ ?_ _) | (with_reducible refine Below.setCell ?_ ?_ _) | (with_reducible refine Below.trans ?_ (Below.mono (by assumption) ?_)) | (simp only [sz_alloc, sz_set, sz_drew, sz_drewN, sz_iterAt, sz_iter] at *; omega) | omega | (simp; done) | (simp; omega) | (apply Below.size; assumption) | (simp only [sz_drew, sz_drewN]; apply Below.size; assumption) | (refine Nat.le_trans ?_ (Below.size (by assumption)))))
  have r2 : RdL ((((w.alloc (.cells #[.string ⟨#[97]⟩, .string ⟨#[98]⟩, .string ⟨#[99]⟩] 9)).alloc (.cells #[.string ⟨#[99]⟩] 9)).alloc (.cells #[.string ⟨#[98]⟩] 9)).alloc (.cells #[.slice (some ⟨w.heap.size + 1, 0, none⟩) 1 1, .slice none 0 0, .slice (some ⟨w.heap.size + 1 + 1, 0, none⟩) 1 1] 22)) 1 (some ⟨w.heap.size + 1, 0, none⟩) (([[99]] : List Tx).map tC) := (rd_lit (w.alloc (.cells #[.string ⟨#[97]⟩, .string ⟨#[98]⟩, .string ⟨#[99]⟩] 9)) _ (by simp) [.string ⟨#[99]⟩] 9).below (by repeat' (first | (with_reducible exact Below.refl _ _) | (with_reducible assumption) | (with_reducible refine Below.drew ?_) | (with_reducible refine below_drewN ?_ _) | (with_reducible refine below_iterAt ?_ ?_ _ _) | (with_reducible refine below_iter ?_ ?_ _ _) | (with_reducible refine Below.alloc ?_ ?_ _) | (with_reducible refine Below.setCell ?_ ?_ _) | (with_reducible refine Below.trans ?_ (Below.mono (by assumption) ?_)) | (simp only [sz_alloc, sz_set, sz_drew, sz_drewN, sz_iterAt, sz_iter] at *; omega) | omega | (simp; done) | (simp; omega) | (apply Below.size; assumption) | (simp only [sz_drew, sz_drewN]; apply Below.size; assumption) | (refine Nat.le_trans ?_ (Below.size (by assumption)))))
  have r3 : RdL ((((w.alloc (.cells #[.string ⟨#[97]⟩, .string ⟨#[98]⟩, .string ⟨#[99]⟩] 9)).alloc (.cells #[.string ⟨#[99]⟩] 9)).alloc (.cells #[.string ⟨#[98]⟩] 9)).alloc (.cells #[.slice (some ⟨w.heap.size + 1, 0, none⟩) 1 1, .slice none 0 0, .slice (some ⟨w.heap.size + 1 + 1, 0, none⟩) 1 1] 22)) 1 (some ⟨w.heap.size + 1 + 1, 0, none⟩) (([[98]] : List Tx).map tC) := (rd_lit ((w.alloc (.cells #[.string ⟨#[97]⟩, .string ⟨#[98]⟩, .string ⟨#[99]⟩] 9)).alloc (.cells #[.string ⟨#[99]⟩] 9)) _ (by simp) [.string ⟨#[98]⟩] 9).below (by repeat' (first | (with_reducible exact Below.refl _ _) | (with_reducible assumption) | (with_reducible refine Below.drew ?_) | (with_reducible refine below_drewN ?_ _) | (with_reducible refine below_iterAt ?_ ?_ _ _) | (with_reducible refine below_iter ?_ ?_ _ _) | (with_reducible refine Below.alloc ?_ ?_ _) | (with_reducible refine Below.setCell ?_ ?_ _) | (with_reducible refine Below.trans ?_ (Below.mono (by assumption) ?_)) | (simp only [sz_alloc, sz_set, sz_drew, sz_drewN, sz_iterAt, sz_iter] at *; omega) | omega | (simp; done) | (simp; omega) | (apply Below.size; assumption) | (simp only [sz_drew, sz_drewN]; apply Below.size; assumption) | (refine Nat.le_trans ?_ (Below.size (by assumption)))))
  have r4 : RdL ((((w.alloc (.cells #[.string ⟨#[97]⟩, .string ⟨#[98]⟩, .string ⟨#[99]⟩] 9)).alloc (.cells #[.string ⟨#[99]⟩] 9)).alloc (.cells #[.string ⟨#[98]⟩] 9)).alloc (.cells #[.slice (some ⟨w.heap.size + 1, 0, none⟩) 1 1, .slice none 0 0, .slice (some ⟨w.heap.size + 1 + 1, 0, none⟩) 1 1] 22)) 1 (some ⟨w.heap.size + 1 + 1 + 1, 0, none⟩) (([⟨[[99]], some ⟨w.heap.size + 1, 0, none⟩, 1⟩, ⟨[], none, 0⟩, ⟨[[98]], some ⟨w.heap.size + 1 + 1, 0, none⟩, 1⟩] : List TxAt).map TxAt.cells) := rd_lit (((w.alloc (.cells #[.string ⟨#[97]⟩, .string ⟨#[98]⟩, .string ⟨#[99]⟩] 9)).alloc (.cells #[.string ⟨#[99]⟩] 9)).alloc (.cells #[.string ⟨#[98]⟩] 9)) _ (by simp) [.slice (some ⟨w.heap.size + 1, 0, none⟩) 1 1, .slice none 0 0, .slice (some ⟨w.heap.size + 1 + 1, 0, none⟩) 1 1] 22
  have hok : ∀ x ∈ ([⟨[[99]], some ⟨w.heap.size + 1, 0, none⟩, 1⟩, ⟨[], none, 0⟩, ⟨[[98]], some ⟨w.heap.size + 1 + 1, 0, none⟩, 1⟩] : List TxAt), x.ok ((((w.alloc (.cells #[.string ⟨#[97]⟩, .string ⟨#[98]⟩, .string ⟨#[99]⟩] 9)).alloc (.cells #[.string ⟨#[99]⟩] 9)).alloc (.cells #[.string ⟨#[98]⟩] 9)).alloc (.cells #[.slice (some ⟨w.heap.size + 1, 0, none⟩) 1 1, .slice none 0 0, .slice (some ⟨w.heap.size + 1 + 1, 0, none⟩) 1 1] 22)) := by
    intro x hx
    simp only [List.mem_cons, List.not_mem_nil, or_false] at hx
    rcases hx with rfl | rfl | rfl
    · exact ⟨r2, by simp, by simp⟩
    · exact ⟨RdL.nil_ _ _ _, by decide, by decide⟩
    · exact ⟨r3, by simp, by simp⟩
  have hl : ∀ x ∈ ([⟨[[99]], some ⟨w.heap.size + 1, 0, none⟩, 1⟩, ⟨[], none, 0⟩, ⟨[[98]], some ⟨w.heap.size + 1 + 1, 0, none⟩, 1⟩] : List TxAt), x.l.length ≤ 4096 := by
    intro x hx
    simp only [List.mem_cons, List.not_mem_nil, or_false] at hx
    rcases hx with rfl | rfl | rfl <;> simp
  have hb : Below w.heap.size w ((((w.alloc (.cells #[.string ⟨#[97]⟩, .string ⟨#[98]⟩, .string ⟨#[99]⟩] 9)).alloc (.cells #[.string ⟨#[99]⟩] 9)).alloc (.cells #[.string ⟨#[98]⟩] 9)).alloc (.cells #[.slice (some ⟨w.heap.size + 1, 0, none⟩) 1 1, .slice none 0 0, .slice (some ⟨w.heap.size + 1 + 1, 0, none⟩) 1 1] 22)) := (by repeat' (first | (with_reducible exact Below.refl _ _) | (with_reducible assumption) | (with_reducible refine Below.drew ?_) | (with_reducible refine below_drewN ?_ _) | (with_reducible refine below_iterAt ?_ ?_ _ _) | (with_reducible refine below_iter ?_ ?_ _ _) | (with_reducible refine Below.alloc ?_ ?_ _) | (with_reducible refine Below.setCell ?_ ?_ _) | (with_reducible refine Below.trans ?_ (Below.mono (by assumption) ?_)) | (simp only [sz_alloc, sz_set, sz_drew, sz_drewN, sz_iterAt, sz_iter] at *; omega) | omega | (simp; done) | (simp; omega) | (apply Below.size; assumption) | (simp only [sz_drew, sz_drewN]; apply Below.size; assumption) | (refine Nat.le_trans ?_ (Below.size (by assumption)))))
  refine (order_any _ _ _ _ 3 3 _ r1 r4 hok (by simp) (by simp) (by simp) hl).mono ?_
  rintro e w' ⟨v, n, r, l, rfl, ho, ⟨B, cb, rfl, hr⟩, _, hb2⟩
  obtain ⟨rfl, rfl, rfl⟩ := ho.unique order_abc
  exact ⟨B, cb, rfl, hr, (by repeat' (first | (with_reducible exact Below.refl _ _) | (with_reducible assumption) | (with_reducible refine Below.drew ?_) | (with_reducible refine below_drewN ?_ _) | (with_reducible refine below_iterAt ?_ ?_ _ _) | (with_reducible refine below_iter ?_ ?_ _ _) | (with_reducible refine Below.alloc ?_ ?_ _) | (with_reducible refine Below.setCell ?_ ?_ _) | (with_reducible refine Below.trans ?_ (Below.mono (by assumption) ?_)) | (simp only [sz_alloc, sz_set, sz_drew, sz_drewN, sz_iterAt, sz_iter] at *; omega) | omega | (simp; done) | (simp; omega) | (apply Below.size; assumption) | (simp only [sz_drew, sz_drewN]; apply Below.size; assumption) | (refine Nat.le_trans ?_ (Below.size (by assumption)))))⟩
theorem above3 (w : World) : Calls Try.prog 12 #[.slice (some ⟨w.heap.size, 0, none⟩) 3 3, .slice (some ⟨w.heap.size + 1 + 1 + 1, 0, none⟩) 3 3, .int .i64 0] ((((w.alloc (.cells #[.string ⟨#[97]⟩, .string ⟨#[98]⟩, .string ⟨#[99]⟩] 9)).alloc (.cells #[.string ⟨#[99]⟩] 9)).alloc (.cells #[.string ⟨#[98]⟩] 9)).alloc (.cells #[.slice (some ⟨w.heap.size + 1, 0, none⟩) 1 1, .slice none 0 0, .slice (some ⟨w.heap.size + 1 + 1, 0, none⟩) 1 1] 22)) fun e w' => ∃ B cb, e = .returned (.tuple #[.slice B 2 cb, .int .i64 0]) ∧ RdL w' 1 B (([1, 2] : List Nat).map iC) ∧ Below w.heap.size w w' := by
  have r1 : RdL ((((w.alloc (.cells #[.string ⟨#[97]⟩, .string ⟨#[98]⟩, .string ⟨#[99]⟩] 9)).alloc (.cells #[.string ⟨#[99]⟩] 9)).alloc (.cells #[.string ⟨#[98]⟩] 9)).alloc (.cells #[.slice (some ⟨w.heap.size + 1, 0, none⟩) 1 1, .slice none 0 0, .slice (some ⟨w.heap.size + 1 + 1, 0, none⟩) 1 1] 22)) 1 (some ⟨w.heap.size, 0, none⟩) (([[97], [98], [99]] : List Tx).map tC) := (rd_lit w _ rfl [.string ⟨#[97]⟩, .string ⟨#[98]⟩, .string ⟨#[99]⟩] 9).below (by repeat' (first | (with_reducible exact Below.refl _ _) | (with_reducible assumption) | (with_reducible refine Below.drew ?_) | (with_reducible refine below_drewN ?_ _) | (with_reducible refine below_iterAt ?_ ?_ _ _) | (with_reducible refine below_iter ?_ ?_ _ _) | (with_reducible refine Below.alloc ?_ ?_ _) | (with_reducible refine Below.setCell ?_ ?_ _) | (with_reducible refine Below.trans ?_ (Below.mono (by assumption) ?_)) | (simp only [sz_alloc, sz_set, sz_drew, sz_drewN, sz_iterAt, sz_iter] at *; omega) | omega | (simp; done) | (simp; omega) | (apply Below.size; assumption) | (simp only [sz_drew, sz_drewN]; apply Below.size; assumption) | (refine Nat.le_trans ?_ (Below.size (by assumption)))))
  have r2 : RdL ((((w.alloc (.cells #[.string ⟨#[97]⟩, .string ⟨#[98]⟩, .string ⟨#[99]⟩] 9)).alloc (.cells #[.string ⟨#[99]⟩] 9)).alloc (.cells #[.string ⟨#[98]⟩] 9)).alloc (.cells #[.slice (some ⟨w.heap.size + 1, 0, none⟩) 1 1, .slice none 0 0, .slice (some ⟨w.heap.size + 1 + 1, 0, none⟩) 1 1] 22)) 1 (some ⟨w.heap.size + 1, 0, none⟩) (([[99]] : List Tx).map tC) := (rd_lit (w.alloc (.cells #[.string ⟨#[97]⟩, .string ⟨#[98]⟩, .string ⟨#[99]⟩] 9)) _ (by simp) [.string ⟨#[99]⟩] 9).below (by repeat' (first | (with_reducible exact Below.refl _ _) | (with_reducible assumption) | (with_reducible refine Below.drew ?_) | (with_reducible refine below_drewN ?_ _) | (with_reducible refine below_iterAt ?_ ?_ _ _) | (with_reducible refine below_iter ?_ ?_ _ _) | (with_reducible refine Below.alloc ?_ ?_ _) | (with_reducible refine Below.setCell ?_ ?_ _) | (with_reducible refine Below.trans ?_ (Below.mono (by assumption) ?_)) | (simp only [sz_alloc, sz_set, sz_drew, sz_drewN, sz_iterAt, sz_iter] at *; omega) | omega | (simp; done) | (simp; omega) | (apply Below.size; assumption) | (simp only [sz_drew, sz_drewN]; apply Below.size; assumption) | (refine Nat.le_trans ?_ (Below.size (by assumption)))))
  have r3 : RdL ((((w.alloc (.cells #[.string ⟨#[97]⟩, .string ⟨#[98]⟩, .string ⟨#[99]⟩] 9)).alloc (.cells #[.string ⟨#[99]⟩] 9)).alloc (.cells #[.string ⟨#[98]⟩] 9)).alloc (.cells #[.slice (some ⟨w.heap.size + 1, 0, none⟩) 1 1, .slice none 0 0, .slice (some ⟨w.heap.size + 1 + 1, 0, none⟩) 1 1] 22)) 1 (some ⟨w.heap.size + 1 + 1, 0, none⟩) (([[98]] : List Tx).map tC) := (rd_lit ((w.alloc (.cells #[.string ⟨#[97]⟩, .string ⟨#[98]⟩, .string ⟨#[99]⟩] 9)).alloc (.cells #[.string ⟨#[99]⟩] 9)) _ (by simp) [.string ⟨#[98]⟩] 9).below (by repeat' (first | (with_reducible exact Below.refl _ _) | (with_reducible assumption) | (with_reducible refine Below.drew ?_) | (with_reducible refine below_drewN ?_ _) | (with_reducible refine below_iterAt ?_ ?_ _ _) | (with_reducible refine below_iter ?_ ?_ _ _) | (with_reducible refine Below.alloc ?_ ?_ _) | (with_reducible refine Below.setCell ?_ ?_ _) | (with_reducible refine Below.trans ?_ (Below.mono (by assumption) ?_)) | (simp only [sz_alloc, sz_set, sz_drew, sz_drewN, sz_iterAt, sz_iter] at *; omega) | omega | (simp; done) | (simp; omega) | (apply Below.size; assumption) | (simp only [sz_drew, sz_drewN]; apply Below.size; assumption) | (refine Nat.le_trans ?_ (Below.size (by assumption)))))
  have r4 : RdL ((((w.alloc (.cells #[.string ⟨#[97]⟩, .string ⟨#[98]⟩, .string ⟨#[99]⟩] 9)).alloc (.cells #[.string ⟨#[99]⟩] 9)).alloc (.cells #[.string ⟨#[98]⟩] 9)).alloc (.cells #[.slice (some ⟨w.heap.size + 1, 0, none⟩) 1 1, .slice none 0 0, .slice (some ⟨w.heap.size + 1 + 1, 0, none⟩) 1 1] 22)) 1 (some ⟨w.heap.size + 1 + 1 + 1, 0, none⟩) (([⟨[[99]], some ⟨w.heap.size + 1, 0, none⟩, 1⟩, ⟨[], none, 0⟩, ⟨[[98]], some ⟨w.heap.size + 1 + 1, 0, none⟩, 1⟩] : List TxAt).map TxAt.cells) := rd_lit (((w.alloc (.cells #[.string ⟨#[97]⟩, .string ⟨#[98]⟩, .string ⟨#[99]⟩] 9)).alloc (.cells #[.string ⟨#[99]⟩] 9)).alloc (.cells #[.string ⟨#[98]⟩] 9)) _ (by simp) [.slice (some ⟨w.heap.size + 1, 0, none⟩) 1 1, .slice none 0 0, .slice (some ⟨w.heap.size + 1 + 1, 0, none⟩) 1 1] 22
  have hok : ∀ x ∈ ([⟨[[99]], some ⟨w.heap.size + 1, 0, none⟩, 1⟩, ⟨[], none, 0⟩, ⟨[[98]], some ⟨w.heap.size + 1 + 1, 0, none⟩, 1⟩] : List TxAt), x.ok ((((w.alloc (.cells #[.string ⟨#[97]⟩, .string ⟨#[98]⟩, .string ⟨#[99]⟩] 9)).alloc (.cells #[.string ⟨#[99]⟩] 9)).alloc (.cells #[.string ⟨#[98]⟩] 9)).alloc (.cells #[.slice (some ⟨w.heap.size + 1, 0, none⟩) 1 1, .slice none 0 0, .slice (some ⟨w.heap.size + 1 + 1, 0, none⟩) 1 1] 22)) := by
    intro x hx
    simp only [List.mem_cons, List.not_mem_nil, or_false] at hx
    rcases hx with rfl | rfl | rfl
    · exact ⟨r2, by simp, by simp⟩
    · exact ⟨RdL.nil_ _ _ _, by decide, by decide⟩
    · exact ⟨r3, by simp, by simp⟩
  have hl : ∀ x ∈ ([⟨[[99]], some ⟨w.heap.size + 1, 0, none⟩, 1⟩, ⟨[], none, 0⟩, ⟨[[98]], some ⟨w.heap.size + 1 + 1, 0, none⟩, 1⟩] : List TxAt), x.l.length ≤ 4096 := by
    intro x hx
    simp only [List.mem_cons, List.not_mem_nil, or_false] at hx
    rcases hx with rfl | rfl | rfl <;> simp
  have hb : Below w.heap.size w ((((w.alloc (.cells #[.string ⟨#[97]⟩, .string ⟨#[98]⟩, .string ⟨#[99]⟩] 9)).alloc (.cells #[.string ⟨#[99]⟩] 9)).alloc (.cells #[.string ⟨#[98]⟩] 9)).alloc (.cells #[.slice (some ⟨w.heap.size + 1, 0, none⟩) 1 1, .slice none 0 0, .slice (some ⟨w.heap.size + 1 + 1, 0, none⟩) 1 1] 22)) := (by repeat' (first | (with_reducible exact Below.refl _ _) | (with_reducible assumption) | (with_reducible refine Below.drew ?_) | (with_reducible refine below_drewN ?_ _) | (with_reducible refine below_iterAt ?_ ?_ _ _) | (with_reducible refine below_iter ?_ ?_ _ _) | (with_reducible refine Below.alloc ?_ ?_ _) | (with_reducible refine Below.setCell ?_ ?_ _) | (with_reducible refine Below.trans ?_ (Below.mono (by assumption) ?_)) | (simp only [sz_alloc, sz_set, sz_drew, sz_drewN, sz_iterAt, sz_iter] at *; omega) | omega | (simp; done) | (simp; omega) | (apply Below.size; assumption) | (simp only [sz_drew, sz_drewN]; apply Below.size; assumption) | (refine Nat.le_trans ?_ (Below.size (by assumption)))))
  refine (above_any _ _ _ _ 3 3 0 _ r1 r4 hok (by simp) (by simp) (by simp) hl).mono ?_
  rintro e w' ⟨v, r, l, rfl, ho, ⟨B, cb, rfl, hr⟩, _, hb2⟩
  obtain ⟨rfl, rfl⟩ := ho.unique above_abc
  exact ⟨B, cb, rfl, hr, (by repeat' (first | (with_reducible exact Below.refl _ _) | (with_reducible assumption) | (with_reducible refine Below.drew ?_) | (with_reducible refine below_drewN ?_ _) | (with_reducible refine below_iterAt ?_ ?_ _ _) | (with_reducible refine below_iter ?_ ?_ _ _) | (with_reducible refine Below.alloc ?_ ?_ _) | (with_reducible refine Below.setCell ?_ ?_ _) | (with_reducible refine Below.trans ?_ (Below.mono (by assumption) ?_)) | (simp only [sz_alloc, sz_set, sz_drew, sz_drewN, sz_iterAt, sz_iter] at *; omega) | omega | (simp; done) | (simp; omega) | (apply Below.size; assumption) | (simp only [sz_drew, sz_drewN]; apply Below.size; assumption) | (refine Nat.le_trans ?_ (Below.size (by assumption)))))⟩
theorem order2 (w : World) : Calls Try.prog 9 #[.slice (some ⟨w.heap.size, 0, none⟩) 2 2, .slice (some ⟨w.heap.size + 1 + 1 + 1, 0, none⟩) 2 2] ((((w.alloc (.cells #[.string ⟨#[97]⟩, .string ⟨#[98]⟩] 9)).alloc (.cells #[.string ⟨#[98]⟩] 9)).alloc (.cells #[.string ⟨#[97]⟩] 9)).alloc (.cells #[.slice (some ⟨w.heap.size + 1, 0, none⟩) 1 1, .slice (some ⟨w.heap.size + 1 + 1, 0, none⟩) 1 1] 22)) fun e w' => ∃ B cb, e = .returned (.tuple #[.slice B 0 cb, .int .i64 0, .int .i64 13]) ∧ Below w.heap.size w w' := by
  have r1 : RdL ((((w.alloc (.cells #[.string ⟨#[97]⟩, .string ⟨#[98]⟩] 9)).alloc (.cells #[.string ⟨#[98]⟩] 9)).alloc (.cells #[.string ⟨#[97]⟩] 9)).alloc (.cells #[.slice (some ⟨w.heap.size + 1, 0, none⟩) 1 1, .slice (some ⟨w.heap.size + 1 + 1, 0, none⟩) 1 1] 22)) 1 (some ⟨w.heap.size, 0, none⟩) (([[97], [98]] : List Tx).map tC) := (rd_lit w _ rfl [.string ⟨#[97]⟩, .string ⟨#[98]⟩] 9).below (by repeat' (first | (with_reducible exact Below.refl _ _) | (with_reducible assumption) | (with_reducible refine Below.drew ?_) | (with_reducible refine below_drewN ?_ _) | (with_reducible refine below_iterAt ?_ ?_ _ _) | (with_reducible refine below_iter ?_ ?_ _ _) | (with_reducible refine Below.alloc ?_ ?_ _) | (with_reducible refine Below.setCell ?_ ?_ _) | (with_reducible refine Below.trans ?_ (Below.mono (by assumption) ?_)) | (simp only [sz_alloc, sz_set, sz_drew, sz_drewN, sz_iterAt, sz_iter] at *; omega) | omega | (simp; done) | (simp; omega) | (apply Below.size; assumption) | (simp only [sz_drew, sz_drewN]; apply Below.size; assumption) | (refine Nat.le_trans ?_ (Below.size (by assumption)))))
  have r2 : RdL ((((w.alloc (.cells #[.string ⟨#[97]⟩, .string ⟨#[98]⟩] 9)).alloc (.cells #[.string ⟨#[98]⟩] 9)).alloc (.cells #[.string ⟨#[97]⟩] 9)).alloc (.cells #[.slice (some ⟨w.heap.size + 1, 0, none⟩) 1 1, .slice (some ⟨w.heap.size + 1 + 1, 0, none⟩) 1 1] 22)) 1 (some ⟨w.heap.size + 1, 0, none⟩) (([[98]] : List Tx).map tC) := (rd_lit (w.alloc (.cells #[.string ⟨#[97]⟩, .string ⟨#[98]⟩] 9)) _ (by simp) [.string ⟨#[98]⟩] 9).below (by repeat' (first | (with_reducible exact Below.refl _ _) | (with_reducible assumption) | (with_reducible refine Below.drew ?_) | (with_reducible refine below_drewN ?_ _) | (with_reducible refine below_iterAt ?_ ?_ _ _) | (with_reducible refine below_iter ?_ ?_ _ _) | (with_reducible refine Below.alloc ?_ ?_ _) | (with_reducible refine Below.setCell ?_ ?_ _) | (with_reducible refine Below.trans ?_ (Below.mono (by assumption) ?_)) | (simp only [sz_alloc, sz_set, sz_drew, sz_drewN, sz_iterAt, sz_iter] at *; omega) | omega | (simp; done) | (simp; omega) | (apply Below.size; assumption) | (simp only [sz_drew, sz_drewN]; apply Below.size; assumption) | (refine Nat.le_trans ?_ (Below.size (by assumption)))))
  have r3 : RdL ((((w.alloc (.cells #[.string ⟨#[97]⟩, .string ⟨#[98]⟩] 9)).alloc (.cells #[.string ⟨#[98]⟩] 9)).alloc (.cells #[.string ⟨#[97]⟩] 9)).alloc (.cells #[.slice (some ⟨w.heap.size + 1, 0, none⟩) 1 1, .slice (some ⟨w.heap.size + 1 + 1, 0, none⟩) 1 1] 22)) 1 (some ⟨w.heap.size + 1 + 1, 0, none⟩) (([[97]] : List Tx).map tC) := (rd_lit ((w.alloc (.cells #[.string ⟨#[97]⟩, .string ⟨#[98]⟩] 9)).alloc (.cells #[.string ⟨#[98]⟩] 9)) _ (by simp) [.string ⟨#[97]⟩] 9).below (by repeat' (first | (with_reducible exact Below.refl _ _) | (with_reducible assumption) | (with_reducible refine Below.drew ?_) | (with_reducible refine below_drewN ?_ _) | (with_reducible refine below_iterAt ?_ ?_ _ _) | (with_reducible refine below_iter ?_ ?_ _ _) | (with_reducible refine Below.alloc ?_ ?_ _) | (with_reducible refine Below.setCell ?_ ?_ _) | (with_reducible refine Below.trans ?_ (Below.mono (by assumption) ?_)) | (simp only [sz_alloc, sz_set, sz_drew, sz_drewN, sz_iterAt, sz_iter] at *; omega) | omega | (simp; done) | (simp; omega) | (apply Below.size; assumption) | (simp only [sz_drew, sz_drewN]; apply Below.size; assumption) | (refine Nat.le_trans ?_ (Below.size (by assumption)))))
  have r4 : RdL ((((w.alloc (.cells #[.string ⟨#[97]⟩, .string ⟨#[98]⟩] 9)).alloc (.cells #[.string ⟨#[98]⟩] 9)).alloc (.cells #[.string ⟨#[97]⟩] 9)).alloc (.cells #[.slice (some ⟨w.heap.size + 1, 0, none⟩) 1 1, .slice (some ⟨w.heap.size + 1 + 1, 0, none⟩) 1 1] 22)) 1 (some ⟨w.heap.size + 1 + 1 + 1, 0, none⟩) (([⟨[[98]], some ⟨w.heap.size + 1, 0, none⟩, 1⟩, ⟨[[97]], some ⟨w.heap.size + 1 + 1, 0, none⟩, 1⟩] : List TxAt).map TxAt.cells) := rd_lit (((w.alloc (.cells #[.string ⟨#[97]⟩, .string ⟨#[98]⟩] 9)).alloc (.cells #[.string ⟨#[98]⟩] 9)).alloc (.cells #[.string ⟨#[97]⟩] 9)) _ (by simp) [.slice (some ⟨w.heap.size + 1, 0, none⟩) 1 1, .slice (some ⟨w.heap.size + 1 + 1, 0, none⟩) 1 1] 22
  have hok : ∀ x ∈ ([⟨[[98]], some ⟨w.heap.size + 1, 0, none⟩, 1⟩, ⟨[[97]], some ⟨w.heap.size + 1 + 1, 0, none⟩, 1⟩] : List TxAt), x.ok ((((w.alloc (.cells #[.string ⟨#[97]⟩, .string ⟨#[98]⟩] 9)).alloc (.cells #[.string ⟨#[98]⟩] 9)).alloc (.cells #[.string ⟨#[97]⟩] 9)).alloc (.cells #[.slice (some ⟨w.heap.size + 1, 0, none⟩) 1 1, .slice (some ⟨w.heap.size + 1 + 1, 0, none⟩) 1 1] 22)) := by
    intro x hx
    simp only [List.mem_cons, List.not_mem_nil, or_false] at hx
    rcases hx with rfl | rfl
    · exact ⟨r2, by simp, by simp⟩
    · exact ⟨r3, by simp, by simp⟩
  have hl : ∀ x ∈ ([⟨[[98]], some ⟨w.heap.size + 1, 0, none⟩, 1⟩, ⟨[[97]], some ⟨w.heap.size + 1 + 1, 0, none⟩, 1⟩] : List TxAt), x.l.length ≤ 4096 := by
    intro x hx
    simp only [List.mem_cons, List.not_mem_nil, or_false] at hx
    rcases hx with rfl | rfl <;> simp
  have hb : Below w.heap.size w ((((w.alloc (.cells #[.string ⟨#[97]⟩, .string ⟨#[98]⟩] 9)).alloc (.cells #[.string ⟨#[98]⟩] 9)).alloc (.cells #[.string ⟨#[97]⟩] 9)).alloc (.cells #[.slice (some ⟨w.heap.size + 1, 0, none⟩) 1 1, .slice (some ⟨w.heap.size + 1 + 1, 0, none⟩) 1 1] 22)) := (by repeat' (first | (with_reducible exact Below.refl _ _) | (with_reducible assumption) | (with_reducible refine Below.drew ?_) | (with_reducible refine below_drewN ?_ _) | (with_reducible refine below_iterAt ?_ ?_ _ _) | (with_reducible refine below_iter ?_ ?_ _ _) | (with_reducible refine Below.alloc ?_ ?_ _) | (with_reducible refine Below.setCell ?_ ?_ _) | (with_reducible refine Below.trans ?_ (Below.mono (by assumption) ?_)) | (simp only [sz_alloc, sz_set, sz_drew, sz_drewN, sz_iterAt, sz_iter] at *; omega) | omega | (simp; done) | (simp; omega) | (apply Below.size; assumption) | (simp only [sz_drew, sz_drewN]; apply Below.size; assumption) | (refine Nat.le_trans ?_ (Below.size (by assumption)))))
  refine (order_any _ _ _ _ 2 2 _ r1 r4 hok (by simp) (by simp) (by simp) hl).mono ?_
  rintro e w' ⟨v, n, r, l, rfl, ho, ⟨B, cb, rfl, hr⟩, _, hb2⟩
  obtain ⟨rfl, rfl, rfl⟩ := ho.unique order_ab
  exact ⟨B, cb, rfl, (by repeat' (first | (with_reducible exact Below.refl _ _) | (with_reducible assumption) | (with_reducible refine Below.drew ?_) | (with_reducible refine below_drewN ?_ _) | (with_reducible refine below_iterAt ?_ ?_ _ _) | (with_reducible refine below_iter ?_ ?_ _ _) | (with_reducible refine Below.alloc ?_ ?_ _) | (with_reducible refine Below.setCell ?_ ?_ _) | (with_reducible refine Below.trans ?_ (Below.mono (by assumption) ?_)) | (simp only [sz_alloc, sz_set, sz_drew, sz_drewN, sz_iterAt, sz_iter] at *; omega) | omega | (simp; done) | (simp; omega) | (apply Below.size; assumption) | (simp only [sz_drew, sz_drewN]; apply Below.size; assumption) | (refine Nat.le_trans ?_ (Below.size (by assumption)))))⟩
set_option maxRecDepth 100000 in
set_option maxHeartbeats 3200000 in
theorem awake_any (w : World) : Calls Try.prog 8 #[] w fun e w' => e = .returned (.bool true) ∧ Below w.heap.size w w' := by
  go_enter Try.func8, Try.ntmps8
  go_wp2_with fail
  refine (order3 w).mono ?_
  rintro e w1 ⟨B1, c1, rfl, hr1, hb1⟩
  have HR1 := Lib.hid hr1
  clear hr1
  go_wp2_with fail
  refine (above3 w1).mono ?_
  rintro e w2 ⟨B2, c2, rfl, hr2, hb2⟩
  have HR2 := Lib.hid hr2
  clear hr2
  go_wp2_with fail
  refine (order2 w2).mono ?_
  rintro e w3 ⟨B3, c3, rfl, hb3⟩
  go_wp2_with fail
  have r1 : RdL (w3.alloc (.cells #[.int .i64 1, .int .i64 2, .int .i64 0] 3)) 1 B1 (([1, 2, 0] : List Nat).map iC) := HR1.out.below (by repeat' (first | (with_reducible exact Below.refl _ _) | (with_reducible assumption) | (with_reducible refine Below.drew ?_) | (with_reducible refine below_drewN ?_ _) | (with_reducible refine below_iterAt ?_ ?_ _ _) | (with_reducible refine below_iter ?_ ?_ _ _) | (with_reducible refine Below.alloc ?_ ?_ _) | (with_reducible refine Below.setCell ?_ ?_ _) | (with_reducible refine Below.trans ?_ (Below.mono (by assumption) ?_)) | (simp only [sz_alloc, sz_set, sz_drew, sz_drewN, sz_iterAt, sz_iter] at *; omega) | omega | (simp; done) | (simp; omega) | (apply Below.size; assumption) | (simp only [sz_drew, sz_drewN]; apply Below.size; assumption) | (refine Nat.le_trans ?_ (Below.size (by assumption)))))
  refine (ints_any _ _ [1, 2, 0] _ _ _ r1 (rd_lit w3 _ rfl [.int .i64 1, .int .i64 2, .int .i64 0] 3) (by decide)).mono ?_
  rintro e w4 ⟨rfl, hb4⟩
  have hA3 : Below w3.heap.size w3 (w3.alloc (.cells #[.int .i64 1, .int .i64 2, .int .i64 0] 3)) := (by repeat' (first | (with_reducible exact Below.refl _ _) | (with_reducible assumption) | (with_reducible refine Below.drew ?_) | (with_reducible refine below_drewN ?_ _) | (with_reducible refine below_iterAt ?_ ?_ _ _) | (with_reducible refine below_iter ?_ ?_ _ _) | (with_reducible refine Below.alloc ?_ ?_ _) | (with_reducible refine Below.setCell ?_ ?_ _) | (with_reducible refine Below.trans ?_ (Below.mono (by assumption) ?_)) | (simp only [sz_alloc, sz_set, sz_drew, sz_drewN, sz_iterAt, sz_iter] at *; omega) | omega | (simp; done) | (simp; omega) | (apply Below.size; assumption) | (simp only [sz_drew, sz_drewN]; apply Below.size; assumption) | (refine Nat.le_trans ?_ (Below.size (by assumption)))))
  have hb34 := hA3.trans (hb4.mono hA3.size)
  have hbw3 : Below w.heap.size w w3 := (by repeat' (first | (with_reducible exact Below.refl _ _) | (with_reducible assumption) | (with_reducible refine Below.drew ?_) | (with_reducible refine below_drewN ?_ _) | (with_reducible refine below_iterAt ?_ ?_ _ _) | (with_reducible refine below_iter ?_ ?_ _ _) | (with_reducible refine Below.alloc ?_ ?_ _) | (with_reducible refine Below.setCell ?_ ?_ _) | (with_reducible refine Below.trans ?_ (Below.mono (by assumption) ?_)) | (simp only [sz_alloc, sz_set, sz_drew, sz_drewN, sz_iterAt, sz_iter] at *; omega) | omega | (simp; done) | (simp; omega) | (apply Below.size; assumption) | (simp only [sz_drew, sz_drewN]; apply Below.size; assumption) | (refine Nat.le_trans ?_ (Below.size (by assumption)))))
  have hbw4 : Below w.heap.size w w4 := hbw3.trans (hb34.mono hbw3.size)
  have hb24 : Below w2.heap.size w2 w4 := hb3.trans (hb34.mono hb3.size)
  go_wp2_with fail
  have hA4 : Below w4.heap.size w4 (w4.alloc (.cells #[.int .i64 1, .int .i64 2] 3)) := (by repeat' (first | (with_reducible exact Below.refl _ _) | (with_reducible assumption) | (with_reducible refine Below.drew ?_) | (with_reducible refine below_drewN ?_ _) | (with_reducible refine below_iterAt ?_ ?_ _ _) | (with_reducible refine below_iter ?_ ?_ _ _) | (with_reducible refine Below.alloc ?_ ?_ _) | (with_reducible refine Below.setCell ?_ ?_ _) | (with_reducible refine Below.trans ?_ (Below.mono (by assumption) ?_)) | (simp only [sz_alloc, sz_set, sz_drew, sz_drewN, sz_iterAt, sz_iter] at *; omega) | omega | (simp; done) | (simp; omega) | (apply Below.size; assumption) | (simp only [sz_drew, sz_drewN]; apply Below.size; assumption) | (refine Nat.le_trans ?_ (Below.size (by assumption)))))
  have r2 : RdL (w4.alloc (.cells #[.int .i64 1, .int .i64 2] 3)) 1 B2 (([1, 2] : List Nat).map iC) := HR2.out.below (hb24.trans (hA4.mono hb24.size))
  refine (ints_any _ _ [1, 2] _ _ _ r2 (rd_lit w4 _ rfl [.int .i64 1, .int .i64 2] 3) (by decide)).mono ?_
  rintro e w5 ⟨rfl, hb5⟩
  have hb45 := hA4.trans (hb5.mono hA4.size)
  have hbw5 := hbw4.trans (hb45.mono hbw4.size)
  go_wp2_with fail
  go_ret
  exact ⟨ret_bool rfl, (by repeat' (first | (with_reducible exact Below.refl _ _) | (with_reducible assumption) | (with_reducible refine Below.drew ?_) | (with_reducible refine below_drewN ?_ _) | (with_reducible refine below_iterAt ?_ ?_ _ _) | (with_reducible refine below_iter ?_ ?_ _ _) | (with_reducible refine Below.alloc ?_ ?_ _) | (with_reducible refine Below.setCell ?_ ?_ _) | (with_reducible refine Below.trans ?_ (Below.mono (by assumption) ?_)) | (simp only [sz_alloc, sz_set, sz_drew, sz_drewN, sz_iterAt, sz_iter] at *; omega) | omega | (simp; done) | (simp; omega) | (apply Below.size; assumption) | (simp only [sz_drew, sz_drewN]; apply Below.size; assumption) | (refine Nat.le_trans ?_ (Below.size (by assumption)))))⟩
end Go.Proofs.Ythmmfghcfgbblaa
