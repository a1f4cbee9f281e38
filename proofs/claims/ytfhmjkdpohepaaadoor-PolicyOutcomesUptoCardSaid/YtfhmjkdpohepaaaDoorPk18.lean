import Derived.Test.YtfhmjkdpohepaaaDoorPk17
import Derived.BigFrame
/- append(own, list...): the spread of a slice behind a row of one's own, guarded or not, empty or not. -/
set_option linter.unusedSimpArgs false
set_option linter.unusedVariables false
namespace Go.Proofs.YtfhmjkdpohepaaaDoor
open Go.RowKit

theorem run_append_zero {P : Program} (w : World) (base : Nat) (t ty e : TypeId) (i : TypeInfo) (size : Nat) (ht : P.underlying t = some (.slice e)) (hi : P.info? e = some i)
    (v : Value) (n : Nat) (xs : List Value) (hown : w.ownsRow base e size v n xs) (A0 : Option Addr) (c0 : Nat) :
    (Builtin.append_ #[t, t] ty #[v, .slice A0 0 c0]).run P w = .ok v w := by
  rcases hown.2 with ⟨rfl, rfl⟩ | ⟨g, cap, cur, rfl, _, _, hnc, _⟩
  · cases A0 <;> simp [Builtin.append_, run_underlying ht, sizeOf, typeInfo, hi, Builtin.lenOf, Builtin.firstCells, loadCells, loadCellsFrom]
  · cases A0 <;> simp [Builtin.append_, run_underlying ht, sizeOf, typeInfo, hi, Builtin.lenOf, Builtin.firstCells, hnc, storeCells, loadCells, loadCellsFrom]

theorem wpList_spread {P : Program} (w : World) {ops : Array Oper} {rest : List Oper} {o : Oper} {a : Act} {Q : Exit → Act → World → Prop} (hw : Region.wanted o (yielded ops a.tmps) = true) (s x : Operand) (t : TypeId)
    (ho : o.op = .call { callee := .builtin .append, args := #[s, x], argTypes := #[t, t] })
    (base : Nat) (e : TypeId) (i : TypeInfo) (z : Value) (size bytes : Nat) (ht : P.underlying t = some (.slice e)) (hi : P.info? e = some i) (hz : i.zero = some z)
    (hsize : i.size = size) (hby : i.bytes = bytes) (hzs : z.cells.size = size) (hsz : 0 < size)
    (v : Value) (n : Nat) (xs : List Value) (hs : a.eval s = v) (hown : w.ownsRow base e size v n xs)
    (A0 : Option Addr) (m c : Nat) (news : List Value) (hx : a.eval x = .slice A0 m c) (hl : news.length = m * size) (hA : A0 = none → m = 0)
    (hnews : ∀ ad, A0 = some ad → ∀ j u, news[j]? = some u → w.cell? (ad.add j) = some u) (h1 : ∀ u ∈ news, u.oneCell' = true)
    (h63 : n + m ≤ maxLen) (hbytes : (n + m) * bytes ≤ 140737488355328) (hbase : base ≤ w.heap.size)
    (h : ∀ v' w', w'.ownsRow base e size v' (n + m) (xs ++ news) → w.grownBy w' v.ownBlock → wpList P ops Q rest (a.put o.dst v') w') : wpList P ops Q (o :: rest) a w := by
  obtain ⟨v', w', hr, h2, h3⟩ : ∃ v' w', (Builtin.append_ #[t, t] o.type #[v, .slice A0 m c]).run P w = .ok v' w' ∧ w'.ownsRow base e size v' (n + m) (xs ++ news) ∧ w.grownBy w' v.ownBlock := by
    by_cases hm : m = 0
    · subst hm
      obtain rfl : news = [] := List.eq_nil_of_length_eq_zero (by simpa using hl)
      exact ⟨v, w, run_append_zero w base t o.type e i size ht hi v n xs hown A0 c, by simpa using hown, ⟨rfl, rfl, rfl, Nat.le_refl _, fun _ _ _ => rfl⟩⟩
    · cases A0 with
      | none => exact absurd (hA rfl) hm
      | some ad =>
        obtain ⟨v', w', hr, h2, h3, _⟩ := run_append_own (P := P) w base t o.type e i z size bytes ht hi hz hsize hby hzs hsz v n xs hown ad m c news hl (hnews ad rfl) h1 h63 hbytes hbase
        exact ⟨v', w', hr, h2, h3⟩
  refine BigFrame.wpList_want hw fun K hK => ?_
  unfold Oper.wp execOp
  simp only [ho, resolve, invoke, builtin, Sem.run_bind, Sem.run_pure, Result.andThen_ok, List.map_toArray, List.map_cons, List.map_nil, hs, hx, hr]
  exact hK _ _ (h v' w' h2 h3)
/-- the same at a step of a region that draws its order -/
theorem step_spread {P : Program} {ops : Array Oper} {o : Oper} {a : Act} {w : World} {K : Act → World → Prop} {Q : Exit → Act → World → Prop} {E : Prop} (hgd : o.guard = none) (s x : Operand) (t : TypeId)
    (ho : o.op = .call { callee := .builtin .append, args := #[s, x], argTypes := #[t, t] })
    (base : Nat) (e : TypeId) (i : TypeInfo) (z : Value) (size bytes : Nat) (ht : P.underlying t = some (.slice e)) (hi : P.info? e = some i) (hz : i.zero = some z)
    (hsize : i.size = size) (hby : i.bytes = bytes) (hzs : z.cells.size = size) (hsz : 0 < size)
    (v : Value) (n : Nat) (xs : List Value) (hs : a.eval s = v) (hown : w.ownsRow base e size v n xs)
    (A0 : Option Addr) (m c : Nat) (news : List Value) (hx : a.eval x = .slice A0 m c) (hl : news.length = m * size) (hA : A0 = none → m = 0)
    (hnews : ∀ ad, A0 = some ad → ∀ j u, news[j]? = some u → w.cell? (ad.add j) = some u) (h1 : ∀ u ∈ news, u.oneCell' = true)
    (h63 : n + m ≤ maxLen) (hbytes : (n + m) * bytes ≤ 140737488355328) (hbase : base ≤ w.heap.size)
    (h : ∀ v' w', w'.ownsRow base e size v' (n + m) (xs ++ news) → w.grownBy w' v.ownBlock → K (a.put o.dst v') w') :
    if Region.wanted o (yielded ops a.tmps) = true then Oper.wp P o a w K Q else E := by
  obtain ⟨v', w', hr, h2, h3⟩ : ∃ v' w', (Builtin.append_ #[t, t] o.type #[v, .slice A0 m c]).run P w = .ok v' w' ∧ w'.ownsRow base e size v' (n + m) (xs ++ news) ∧ w.grownBy w' v.ownBlock := by
    by_cases hm : m = 0
    · subst hm
      obtain rfl : news = [] := List.eq_nil_of_length_eq_zero (by simpa using hl)
      exact ⟨v, w, run_append_zero w base t o.type e i size ht hi v n xs hown A0 c, by simpa using hown, ⟨rfl, rfl, rfl, Nat.le_refl _, fun _ _ _ => rfl⟩⟩
    · cases A0 with
      | none => exact absurd (hA rfl) hm
      | some ad =>
        obtain ⟨v', w', hr, h2, h3, _⟩ := run_append_own (P := P) w base t o.type e i z size bytes ht hi hz hsize hby hzs hsz v n xs hown ad m c news hl (hnews ad rfl) h1 h63 hbytes hbase
        exact ⟨v', w', hr, h2, h3⟩
  have hw : Region.wanted o (yielded ops a.tmps) = true := by simp [Region.wanted, hgd]
  rw [if_pos hw]
  unfold Oper.wp execOp
  simp only [ho, resolve, invoke, builtin, Sem.run_bind, Sem.run_pure, Result.andThen_ok, List.map_toArray, List.map_cons, List.map_nil, hs, hx, hr]
  exact h v' w' h2 h3
/-- an empty row laid by a literal -/
theorem own_lit0 {w : World} {base g : Nat} {t : TypeId} {size : Nat} (hg : w.heap[g]? = some (.cells #[] t)) (hb : base ≤ g) : w.ownsRow base t size (.slice (some ⟨g, 0, none⟩) 0 0) 0 [] :=
  ⟨by simp, Or.inr ⟨g, 0, #[], rfl, hb, hg, Nat.le_refl _, by unfold maxLen; omega, by simp, by simp⟩⟩
theorem own_lit1 {w : World} {base g : Nat} {t : TypeId} {size : Nat} (hg : g = w.heap.size) (hb : base ≤ g) : (w.alloc (.cells #[] t)).ownsRow base t size (.slice (some ⟨g, 0, none⟩) 0 0) 0 [] := by
  subst hg
  exact ⟨by simp, Or.inr ⟨_, 0, #[], rfl, hb, (MapKept.heap_alloc w _).1, Nat.le_refl _, by unfold maxLen; omega, by simp, by simp⟩⟩
/-- an element of a list laid end to end -/
theorem flat_at {α : Type} {sz : Nat} : ∀ (l : List (List α)) (j i : Nat) (c : List α), (∀ c ∈ l, c.length = sz) → l[j]? = some c → i < sz → l.flatten[j * sz + i]? = c[i]?
  | [], j, i, c, _, h, _ => by simp at h
  | d :: r, 0, i, c, hs, h, hi => by
    obtain rfl : d = c := by simpa using h
    have := hs d (by simp)
    rw [List.flatten_cons, Nat.zero_mul, Nat.zero_add, List.getElem?_append_left (by omega)]
  | d :: r, j + 1, i, c, hs, h, hi => by
    have hd := hs d (by simp)
    have ih := flat_at r j i c (fun c hc => hs c (List.mem_cons_of_mem _ hc)) (by simpa using h) hi
    have e : (j + 1) * sz + i = d.length + (j * sz + i) := by rw [Nat.succ_mul, hd]; omega
    rw [List.flatten_cons, e, List.getElem?_append_right (by omega), Nat.add_sub_cancel_left, ih]
theorem rd_flat {w : World} {sz : Nat} {css : List (List Value)} {ad : Addr} (h : RdL w sz (some ad) css) (hs : ∀ c ∈ css, c.length = sz) (hsz : 0 < sz) (j : Nat) (u : Value) (hu : css.flatten[j]? = some u) : w.cell? (ad.add j) = some u := by
  have hj : j < css.flatten.length := (List.getElem?_eq_some_iff.1 hu).1
  have hlen : ∀ l : List (List Value), (∀ c ∈ l, c.length = sz) → l.flatten.length = l.length * sz := by
    intro l
    induction l with
    | nil => intro _; simp
    | cons d r ih => intro hh; rw [List.flatten_cons, List.length_append, ih (fun c hc => hh c (List.mem_cons_of_mem _ hc)), hh d (by simp), List.length_cons, Nat.succ_mul]; omega
  rw [hlen css hs] at hj
  have hq : j / sz < css.length := Nat.div_lt_of_lt_mul (by rw [Nat.mul_comm]; exact hj)
  obtain ⟨b, off, e, hx⟩ := h (j / sz) _ (List.getElem?_eq_getElem hq)
  cases e
  have hm : j % sz < sz := Nat.mod_lt _ hsz
  have he : j / sz * sz + j % sz = j := by rw [Nat.mul_comm]; exact Nat.div_add_mod j sz
  have h1 := flat_at css (j / sz) (j % sz) _ hs (List.getElem?_eq_getElem hq) hm
  rw [he, hu] at h1
  have h2 := hx (j % sz) u h1.symm
  rw [show off + j / sz * sz + j % sz = off + j by omega] at h2
  rw [Addr.add_lit]
  exact h2
end Go.Proofs.YtfhmjkdpohepaaaDoor
