/- What a thing needs and so on: plain; a set of numbers as a map; Clone and Sort of rows of one's own. -/
import Derived.Test.YthmmfghcfgbblaaGr7
import Derived.Test.YthmmfghcfgbblaaShelf
import Derived.Maps.RangeWalk
import Derived.Laws.AppendOwnNone
import Derived.WalkSmall
import Derived.Sort.OwnSortedInts
set_option linter.unusedSimpArgs false
set_option linter.unusedVariables false
namespace Go.Proofs.Ythmmfghcfgbblaa
open Go.RowKit Go.Sort Go.Lib Go.ChangeMaps Go.WideShapes

/-- k is needed by n, or by what n needs, and so on -/
inductive Reach (E : List (List Nat)) (n : Nat) : Nat → Prop
  | one {l : List Nat} {k : Nat} (h : E[n]? = some l) (hk : k ∈ l) : Reach E n k
  | step {j k : Nat} {l : List Nat} (hj : Reach E n j) (h : E[j]? = some l) (hk : k ∈ l) : Reach E n k
theorem Reach.lt {E : List (List Nat)} {n k N : Nat} (hE : ∀ i (hi : i < E.length), ∀ k ∈ E[i]'hi, k < N) (h : Reach E n k) : k < N := by
  cases h with
  | one h hk => obtain ⟨hi, rfl⟩ := List.getElem?_eq_some_iff.1 h; exact hE _ hi _ hk
  | step _ h hk => obtain ⟨hi, rfl⟩ := List.getElem?_eq_some_iff.1 h; exact hE _ hi _ hk
/-- what a thing is above, or what is wrong -/
def AboveIs (ns : List Tx) (nd : List (List Tx)) (n : Int) (l : List Nat) (e : Int) : Prop :=
  ∃ n0 e0, CheckIs ns nd n0 e0 ∧ ((e0 ≠ 0 ∧ l = [] ∧ e = e0) ∨
    (e0 = 0 ∧ ((¬ (0 ≤ n ∧ n < ns.length) ∧ l = [] ∧ e = 1) ∨
      (∃ m : Nat, n = m ∧ m < ns.length ∧ l.Pairwise (· < ·) ∧ (∀ k, k ∈ l ↔ Reach (edgesL ns nd) m k) ∧ e = 0))))
theorem sorted_unique : ∀ {a b : List Nat}, a.Pairwise (· < ·) → b.Pairwise (· < ·) → (∀ k, k ∈ a ↔ k ∈ b) → a = b
  | [], [], _, _, _ => rfl
  | [], y :: b, _, _, h => absurd ((h y).2 (by simp)) (by simp)
  | x :: a, [], _, _, h => absurd ((h x).1 (by simp)) (by simp)
  | x :: a, y :: b, ha, hb, h => by
    obtain ⟨ha1, ha2⟩ := List.pairwise_cons.1 ha
    obtain ⟨hb1, hb2⟩ := List.pairwise_cons.1 hb
    have hxy : x = y := by
      rcases List.mem_cons.1 ((h x).1 (by simp)) with h1 | h1
      · exact h1
      · rcases List.mem_cons.1 ((h y).2 (by simp)) with h2 | h2
        · exact h2.symm
        · have := hb1 x h1
          have := ha1 y h2
          omega
    subst hxy
    rw [sorted_unique ha2 hb2 (fun k => ?_)]
    constructor
    · intro hk
      rcases List.mem_cons.1 ((h k).1 (List.mem_cons_of_mem _ hk)) with h1 | h1
      · have := ha1 k hk; omega
      · exact h1
    · intro hk
      rcases List.mem_cons.1 ((h k).2 (List.mem_cons_of_mem _ hk)) with h1 | h1
      · have := hb1 k hk; omega
      · exact h1
theorem AboveIs.unique {ns : List Tx} {nd : List (List Tx)} {n : Int} {l l' : List Nat} {e e' : Int} (h : AboveIs ns nd n l e) (h' : AboveIs ns nd n l' e') : l = l' ∧ e = e' := by
  obtain ⟨n0, e0, hc, h⟩ := h
  obtain ⟨n1, e1, hc', h'⟩ := h'
  obtain ⟨rfl, rfl⟩ := hc.unique hc'
  rcases h with ⟨hz, rfl, rfl⟩ | ⟨rfl, h⟩ <;> rcases h' with ⟨hz', rfl, rfl⟩ | ⟨hz', h'⟩
  · exact ⟨rfl, rfl⟩
  · exact absurd hz' hz
  · exact absurd rfl hz'
  · rcases h with ⟨hb, rfl, rfl⟩ | ⟨m, rfl, hm, hp, hk, rfl⟩ <;> rcases h' with ⟨hb', rfl, rfl⟩ | ⟨m', hn', hm', hp', hk', rfl⟩
    · exact ⟨rfl, rfl⟩
    · exact absurd ⟨by omega, by omega⟩ hb
    · exact absurd ⟨by omega, by omega⟩ hb'
    · have : m = m' := by omega
      subst this
      exact ⟨sorted_unique hp hp' (fun k => (hk k).trans (hk' k).symm), rfl⟩

/-- seen, and still to be done -/
structure DfsAt (E : List (List Nat)) (n : Nat) (S T : List Nat) : Prop where
  first : ∀ l, E[n]? = some l → ∀ k ∈ l, k ∈ S ∨ k ∈ T
  cl : ∀ j ∈ S, ∀ l, E[j]? = some l → ∀ k ∈ l, k ∈ S ∨ k ∈ T
  re : ∀ k, k ∈ S ∨ k ∈ T → Reach E n k
  nd : S.Nodup
theorem DfsAt.start {E : List (List Nat)} {n : Nat} (hn : n < E.length) : DfsAt E n [] (E[n]'hn) :=
  ⟨fun l hl k hk => .inr (by rw [List.getElem?_eq_getElem hn] at hl; cases hl; exact hk), fun j hj => by simp at hj, fun k hk => by
    rcases hk with h | h
    · simp at h
    · exact .one (List.getElem?_eq_getElem hn) h, List.nodup_nil⟩
theorem DfsAt.old {E : List (List Nat)} {n k : Nat} {S T : List Nat} (h : DfsAt E n S (T ++ [k])) (hk : k ∈ S) : DfsAt E n S T := by
  have key : ∀ x, (x ∈ S ∨ x ∈ T ++ [k]) → x ∈ S ∨ x ∈ T := by
    intro x hx
    rcases hx with h | h
    · exact .inl h
    · rcases List.mem_append.1 h with h | h
      · exact .inr h
      · rw [List.mem_singleton.1 h]; exact .inl hk
  exact ⟨fun l hl x hx => key x (h.first l hl x hx), fun j hj l hl x hx => key x (h.cl j hj l hl x hx), fun x hx => h.re x (hx.imp id (fun h => List.mem_append_left _ h)), h.nd⟩
theorem DfsAt.new {E : List (List Nat)} {n k : Nat} {S T : List Nat} (h : DfsAt E n S (T ++ [k])) (hk : k ∉ S) (hE : k < E.length) : DfsAt E n (S ++ [k]) (T ++ E[k]'hE) := by
  have key : ∀ x, (x ∈ S ∨ x ∈ T ++ [k]) → x ∈ S ++ [k] ∨ x ∈ T ++ E[k]'hE := by
    intro x hx
    rcases hx with h | h
    · exact .inl (List.mem_append_left _ h)
    · rcases List.mem_append.1 h with h | h
      · exact .inr (List.mem_append_left _ h)
      · exact .inl (List.mem_append_right _ h)
  have hkr : Reach E n k := h.re k (.inr (by simp))
  refine ⟨fun l hl x hx => key x (h.first l hl x hx), fun j hj l hl x hx => ?_, fun x hx => ?_, ?_⟩
  · rcases List.mem_append.1 hj with h1 | h1
    · exact key x (h.cl j h1 l hl x hx)
    · rw [List.mem_singleton.1 h1, List.getElem?_eq_getElem hE] at hl
      cases hl
      exact .inr (List.mem_append_right _ hx)
  · rcases hx with h1 | h1
    · rcases List.mem_append.1 h1 with h2 | h2
      · exact h.re x (.inl h2)
      · rw [List.mem_singleton.1 h2]; exact hkr
    · rcases List.mem_append.1 h1 with h2 | h2
      · exact h.re x (.inr (List.mem_append_left _ h2))
      · exact .step hkr (List.getElem?_eq_getElem hE) h2
  · rw [List.nodup_append]
    exact ⟨h.nd, by simp, fun a ha b hb e => hk (by rw [List.mem_singleton] at hb; rw [← hb, ← e]; exact ha)⟩
theorem DfsAt.done {E : List (List Nat)} {n : Nat} {S : List Nat} (h : DfsAt E n S []) (k : Nat) : k ∈ S ↔ Reach E n k := by
  constructor
  · exact fun hk => h.re k (.inl hk)
  · intro hr
    induction hr with
    | one h1 h2 => exact (h.first _ h1 _ h2).resolve_right (by simp)
    | step _ h1 h2 ih => exact (h.cl _ ih _ h1 _ h2).resolve_right (by simp)
/-- how much may still come -/
def restN (E : List (List Nat)) (S : List Nat) : Nat := ((List.range E.length).map fun i => if i ∈ S then 0 else (E.getD i []).length).sum
theorem sum_one {f g : Nat → Nat} {k : Nat} : ∀ {L : List Nat}, L.Nodup → k ∈ L → (∀ x, x ≠ k → f x = g x) → (L.map f).sum + g k = (L.map g).sum + f k
  | [], _, h, _ => by simp at h
  | x :: r, hn, hk, hfg => by
    obtain ⟨h1, h2⟩ := List.nodup_cons.1 hn
    simp only [List.map_cons, List.sum_cons]
    by_cases e : x = k
    · subst e
      have : r.map f = r.map g := List.map_congr_left (fun y hy => hfg y (fun e => h1 (by rw [← e]; exact hy)))
      rw [this]; omega
    · have hk2 : k ∈ r := by
        rcases List.mem_cons.1 hk with h | h
        · exact absurd h.symm e
        · exact h
      have := sum_one h2 hk2 hfg
      rw [hfg x e]; omega
theorem restN_new {E : List (List Nat)} {S : List Nat} {k : Nat} (hk : k ∉ S) (hE : k < E.length) : restN E (S ++ [k]) + (E[k]'hE).length = restN E S := by
  have h := sum_one (f := fun i => if i ∈ S ++ [k] then 0 else (E.getD i []).length) (g := fun i => if i ∈ S then 0 else (E.getD i []).length) (k := k) (L := List.range E.length) List.nodup_range (List.mem_range.2 hE) (fun x hx => by simp [hx])
  simp only [List.mem_append, List.mem_singleton, or_true, if_true, if_neg hk, List.getD_eq_getElem?_getD, List.getElem?_eq_getElem hE, Option.getD_some, Nat.add_zero] at h
  unfold restN
  simp only [List.mem_append, List.mem_singleton, List.getD_eq_getElem?_getD]
  exact h
theorem sum_le_mul (f : Nat → Nat) (B : Nat) : ∀ L : List Nat, (∀ x ∈ L, f x ≤ B) → (L.map f).sum ≤ L.length * B
  | [], _ => by simp
  | x :: r, h => by
    have := sum_le_mul f B r (fun y hy => h y (List.mem_cons_of_mem _ hy))
    have := h x (by simp)
    simp only [List.map_cons, List.sum_cons, List.length_cons, Nat.add_mul, Nat.one_mul]; omega
theorem restN_le {E : List (List Nat)} (S : List Nat) (hE : ∀ i (hi : i < E.length), (E[i]'hi).length ≤ 4096) : restN E S ≤ E.length * 4096 := by
  have := sum_le_mul (fun i => if i ∈ S then 0 else (E.getD i []).length) 4096 (List.range E.length) (fun x hx => by
    have hx := List.mem_range.1 hx
    have := hE x hx
    simp only [List.getD_eq_getElem?_getD, List.getElem?_eq_getElem hx, Option.getD_some]
    split <;> omega)
  simpa [restN] using this

/-- block b is a map of the numbers that were seen -/
def MapS (w : World) (b : Nat) (S : List Nat) : Prop :=
  ∃ D : DataW Unit, w.ownsMap Try.prog 3 (plainElem Try.prog 4) b S.length D ∧ (∀ kl, Maps.has D kl = true ↔ ∃ n ∈ S, kl = .int .i64 (n : Int)) ∧ ∀ n ∈ S, ∀ z, D.atKey (.int .i64 (n : Int)) z = .lit (.bool true)
theorem keyI (n : Nat) (h : (n : Int) ≤ 9223372036854775807) : keyOf Try.prog 3 (.int .i64 (n : Int)) = some (.int .i64 (n : Int)) := Maps.keyOf_int_mk Try.underlying3 (wf64 n h)
theorem lawI : Maps.Keyed Try.prog 3 := Maps.int_keyed Try.underlying3
theorem plainElem_bool_inv {H : Type} {P : Program} {e : TypeId} (he : P.underlying e = some .bool) {v : Value} {z : DataW H × List MemPlace} (h : plainElem P e v = some z) : ∃ x, v = .bool x ∧ z = (.lit (.bool x), []) := by
  unfold plainElem at h
  rw [he] at h
  cases v <;> simp at h
  exact ⟨_, rfl, h.symm⟩
theorem zBool (w : World) : (zeroValue 4).run Try.prog w = .ok (.bool false) w := by
  obtain ⟨i0, h1, h2, h3, h4⟩ := info_parts (show (Try.prog.info? 4).map (fun i => (i.zero, i.size, i.bytes)) = some (some (.bool false), 1, 1) by kernel_rfl)
  simp [zeroValue, typeInfo, h1, h2]
theorem MapS.made (w : World) : MapS (w.alloc (.map #[] 0)) w.heap.size [] :=
  ⟨.map [], World.ownsMap_made w _ _ _, fun kl => by rw [Maps.has_eq]; simp, fun n h => by simp at h⟩
theorem MapS.kept {w w' : World} {b : Nat} {S : List Nat} {row : Option Nat} (h : MapS w b S) (hg : w.grownBy w' row) (hb : some b ≠ row) : MapS w' b S := by
  obtain ⟨D, h1, h2⟩ := h
  exact ⟨D, h1.kept hg hb, h2⟩
theorem MapS.below {w w' : World} {b : Nat} {S : List Nat} (h : MapS w b S) (hb : Below w.heap.size w w') : MapS w' b S :=
  h.kept (row := none) ⟨hb.os, hb.tape, hb.output, hb.size, fun k hk _ => hb.block k hk⟩ (by simp)
theorem MapS.look {w : World} {b : Nat} {S : List Nat} (h : MapS w b S) (k : Nat) (hk : (k : Int) ≤ 9223372036854775807) :
    (Instr.lookup 45 (.map (some b)) (.int .i64 (k : Int)) false).run Try.prog w = .ok (.bool (S.contains k)) w := by
  obtain ⟨D, h1, h2, h3⟩ := h
  obtain ⟨v, ps, hrun, hv⟩ := h1.lookup lawI (t := 45) Try.underlying45 (zBool w) (zd := .lit (.bool false)) (zp := []) (plainElem_bool Try.underlying4 false) (keyI k hk)
  obtain ⟨x, rfl, hx⟩ := plainElem_bool_inv Try.underlying4 hv
  rw [hrun]
  have hx1 := congrArg Prod.fst hx
  dsimp only at hx1
  cases hc : S.contains k
  · have hno : Maps.has D (.int .i64 (k : Int)) = false := by
      cases hh : Maps.has D (.int .i64 (k : Int))
      · rfl
      · obtain ⟨n, hn, e⟩ := (h2 _).1 hh
        injection e with _ e
        have : k = n := by omega
        subst this
        rw [List.contains_iff_mem.2 hn] at hc; cases hc
    rw [Maps.atKey_of_not_has hno] at hx1
    injection hx1 with hx1
    injection hx1 with hx1
    rw [hx1]
  · rw [h3 k (List.contains_iff_mem.1 hc)] at hx1
    injection hx1 with hx1
    injection hx1 with hx1
    rw [hx1]
theorem MapS.store {w : World} {b : Nat} {S : List Nat} (h : MapS w b S) (k : Nat) (hk : (k : Int) ≤ 9223372036854775807) (hn : (S.length : Int) < 9223372036854775807) (hns : k ∉ S) :
    ∃ w', (Instr.mapUpdate 45 (.map (some b)) (.int .i64 (k : Int)) (.bool true)).run Try.prog w = .ok () w' ∧ MapS w' b (S ++ [k]) ∧ w.grownBy w' (some b) := by
  obtain ⟨D, h1, h2, h3⟩ := h
  obtain ⟨w', hrun, ho, ht⟩ := h1.store lawI (t := 45) Try.underlying45 (by unfold maxLen; omega) (keyI k hk) (plainElem_bool Try.underlying4 true)
  refine ⟨w', hrun, ⟨_, by rw [List.length_append]; exact ho, fun kl => ?_, fun n hn z => ?_⟩, ht.grown⟩
  · by_cases e : kl = .int .i64 (k : Int)
    · subst e
      rw [Maps.has_put_same h1.isMap (show WideAt.IsKeyLit (.int .i64 (k : Int)) from trivial)]
      exact ⟨fun _ => ⟨k, by simp, rfl⟩, fun _ => rfl⟩
    · rw [Maps.has_put_other e, h2]
      constructor
      · rintro ⟨n, hn, rfl⟩
        exact ⟨n, List.mem_append_left _ hn, rfl⟩
      · rintro ⟨n, hn, rfl⟩
        rcases List.mem_append.1 hn with h | h
        · exact ⟨n, h, rfl⟩
        · rw [List.mem_singleton] at h; subst h; exact absurd rfl e
  · by_cases e : n = k
    · subst e
      exact Maps.atKey_put_same h1.isMap (show WideAt.IsKeyLit (.int .i64 (n : Int)) from trivial) _ _
    · rw [Maps.atKey_put_other (by intro h; injection h with _ h; omega)]
      rcases List.mem_append.1 hn with h | h
      · exact h3 n h z
      · exact absurd (List.mem_singleton.1 h) e

/-- a row of one's own, reads again -/
theorem own_take {w : World} {base : Nat} {v : Value} {T : List Nat} {k n : Nat} (h : w.ownsRow base 3 1 v n ((T ++ [k]).map nV)) (hn : n = T.length + 1) :
    ∃ g cap, v = .slice (some ⟨g, 0, none⟩) n cap ∧ n ≤ cap ∧ cap ≤ maxLen ∧ w.cell? ⟨g, T.length, none⟩ = some (.int .i64 (k : Int)) ∧ w.ownsRow base 3 1 (.slice (some ⟨g, 0, none⟩) T.length cap) T.length (T.map nV) := by
  subst hn
  have h0 := h
  rcases h.2 with ⟨_, h0⟩ | ⟨g, cap, cur, rfl, hb, hg, h1, h2, h3, h4⟩
  · omega
  · refine ⟨g, cap, rfl, h1, h2, ?_, ownsRow_pop (xs := T.map nV) (last := [nV k]) (by simp) (by simpa using h0)⟩
    rw [World.ownsRow.cellAt h0 T.length (by omega)]
    rw [List.map_append, List.getElem?_append_right (by simp)]
    simp [nV]
set_option maxHeartbeats 800000 in
theorem cloneG_any (A : Option Addr) (l : List Nat) (c : Nat) (w : World) (hr : RdL w 1 A (l.map iC)) (hn : l.length ≤ 4096) :
    Calls Try.prog 20 #[.slice A l.length c] w fun e w' => ∃ v', e = .returned v' ∧ w'.ownsRow w.heap.size 3 1 v' l.length (l.map nV) ∧ Below w.heap.size w w' := by
  rcases l with _ | ⟨x, r⟩
  · cases A with
    | none => exact (Try.slices_Clone_int_nil 0 c w).mono (fun e w' ⟨h1, h2⟩ => ⟨_, h1, by subst h2; exact ⟨World.ownsRow_nil _ _ _ _, Below.refl _ _⟩⟩)
    | some a => exact (Try.slices_Clone_int_zero a c w).mono (fun e w' ⟨v', h1, h2, _, h3⟩ => ⟨v', h1, h2, h3⟩)
  · obtain ⟨b, off, rfl, g0⟩ := rdI_at hr (j := 0) (by simp)
    refine (Try.slices_Clone_int b off (x :: r).length c ((x :: r).map fun n : Nat => (n : Int)) w (by simp) (by omega) (fun j hj => ?_)).mono (fun e w' ⟨v', h1, h2, _, h3⟩ => ⟨v', h1, ?_, h3⟩)
    · rw [List.length_map] at hj
      obtain ⟨b', off', e, g1⟩ := rdI_at hr (j := j) hj
      cases e
      rw [g1]
      rw [List.getD_eq_getElem?_getD, List.getElem?_map, List.getElem?_eq_getElem hj]
      rfl
    · rw [List.take_of_length_le (by simp), List.map_map] at h2
      exact h2
def srtN (o : List Nat) : List Nat := o.mergeSort fun x y => decide (x ≤ y)
theorem srtN_map (o : List Nat) : (srtN o).map (fun n : Nat => (n : Int)) = (o.map fun n : Nat => (n : Int)).mergeSort fun x y => decide (x ≤ y) :=
  List.map_mergeSort (fun a _ b _ => by simp)
theorem srtN_mem (o : List Nat) (k : Nat) : k ∈ srtN o ↔ k ∈ o := (List.mergeSort_perm _ _).mem_iff
theorem srtN_len (o : List Nat) : (srtN o).length = o.length := (List.mergeSort_perm _ _).length_eq
theorem srtN_sorted {o : List Nat} (h : o.Nodup) : (srtN o).Pairwise (· < ·) := by
  have h1 : (srtN o).Pairwise (fun a b => decide (a ≤ b) = true) := List.pairwise_mergeSort (fun a b c h1 h2 => by simp at *; omega) (fun a b => by simp; omega) o
  have h2 : (srtN o).Nodup := (List.mergeSort_perm o _).nodup_iff.2 h
  refine (h1.and h2).imp (fun {a b} h => ?_)
  have := h.1
  have := h.2
  simp at *
  omega
set_option maxHeartbeats 800000 in
theorem sortG_any (base : Nat) (v : Value) (o : List Nat) (w : World) (ho : w.ownsRow base 3 1 v o.length (o.map nV)) (hn : o.length ≤ 4096) :
    Calls Try.prog 21 #[v] w fun e w' => e = .returned (.tuple #[]) ∧ w'.ownsRow base 3 1 v o.length ((srtN o).map nV) ∧ w.grownBy w' v.ownBlock := by
  rcases ho.2 with ⟨rfl, h0⟩ | ⟨g, cap, cur, rfl, hb, hg, h1, h2, h3, h4⟩
  · obtain rfl : o = [] := List.eq_nil_of_length_eq_zero h0
    refine (Try.slices_Sort_int_none none 0 w).mono ?_
    rintro e w' ⟨rfl, rfl⟩
    exact ⟨rfl, by rw [show srtN [] = [] from List.mergeSort_nil]; exact ho, ⟨rfl, rfl, rfl, Nat.le_refl _, fun _ _ _ => rfl⟩⟩
  · have hglt : g < w.heap.size := (Array.getElem?_eq_some_iff.1 hg).1
    have hlen : (o.map fun n : Nat => (n : Int)).length = o.length := by simp
    have hH : Holds (Value.int .i64) w g 0 (o.map fun n : Nat => (n : Int)).toArray := holds_of_blockI hg (by
      rw [hlen, List.map_map]
      rw [Nat.mul_one] at h4
      exact h4)
    have hc := Try.slices_Sort_int g 0 cap (o.map fun n : Nat => (n : Int)) w hH hglt (by rw [hlen]; omega)
    rw [hlen] at hc
    refine hc.mono ?_
    rintro e w' ⟨rfl, n, os, rfl⟩
    rw [← srtN_map]
    refine ⟨rfl, ?_, grownBy_sortedI _⟩
    have hs := ownsRow_sortedI (w := w) (base := base) (g := g) (cap := cap) (n := n) (e := 3) (os := os) (cur := cur) (ss := o.map fun n : Nat => (n : Int)) (ts := (srtN o).map fun n : Nat => (n : Int)) (by simp [srtN_len]) hb hg (by rw [hlen]; exact h1) h2 (by simpa using h3)
    rw [hlen, List.map_map] at hs
    exact hs
end Go.Proofs.Ythmmfghcfgbblaa
