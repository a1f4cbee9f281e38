/- The order, plain; done; ContainsFunc over it, Index, walked. -/
import Derived.Test.YthmmfghcfgbblaaGr4
import Derived.Shelf.Abstract
set_option linter.unusedSimpArgs false
set_option linter.unusedVariables false
namespace Go.Proofs.Ythmmfghcfgbblaa
open Go.RowKit Go.Sort Go.Lib

/-- all that thing i needs is among o -/
def Ready (E : List (List Nat)) (o : List Nat) (i : Nat) : Prop := i < E.length ∧ i ∉ o ∧ ∀ l, E[i]? = some l → ∀ k ∈ l, k ∈ o
def NextIs (E : List (List Nat)) (o : List Nat) (i : Nat) : Prop := Ready E o i ∧ ∀ j, j < i → ¬ Ready E o j
inductive OrdRun (E : List (List Nat)) : List Nat → Prop
  | nil : OrdRun E []
  | snoc {o : List Nat} {i : Nat} (h : OrdRun E o) (hi : NextIs E o i) : OrdRun E (o ++ [i])
theorem OrdRun.prefix {E : List (List Nat)} {a b : List Nat} (ha : OrdRun E a) (hb : OrdRun E b) : a <+: b ∨ b <+: a := by
  induction ha generalizing b with
  | nil => exact .inl (List.nil_prefix)
  | snoc h hi ih =>
    rename_i o i
    rcases ih hb with ⟨t, rfl⟩ | h2
    · clear ih
      -- o is a prefix of b: b = o ++ t
      cases t with
      | nil => right; rw [List.append_nil]; exact List.prefix_append _ _
      | cons x r =>
        left
        have key : ∀ b, OrdRun E b → ∀ o x r, b = o ++ x :: r → NextIs E o x := by
          intro b hb
          induction hb with
          | nil => intro o x r e; simp at e
          | snoc h hi ih =>
            rename_i p q
            intro o x r e
            rcases List.eq_nil_or_concat r with rfl | ⟨r', y, rfl⟩
            · have := List.append_inj' e rfl
              obtain ⟨e1, e2⟩ := this
              cases e2
              rw [← e1]; exact hi
            · have e' : p ++ [q] = (o ++ x :: r') ++ [y] := by rw [e]; simp
              obtain ⟨e1, _⟩ := List.append_inj' e' rfl
              exact ih o x r' e1
        have hx := key _ hb o x r rfl
        have : i = x := least_unique hi.1 hi.2 hx.1 hx.2
        subst this
        exact ⟨r, by simp⟩
    · exact .inr (h2.trans (List.prefix_append _ _))
theorem OrdRun.eq_of_length {E : List (List Nat)} {a b : List Nat} (ha : OrdRun E a) (hb : OrdRun E b) (h : a.length = b.length) : a = b := by
  rcases ha.prefix hb with h1 | h1
  · exact h1.eq_of_length h
  · exact (h1.eq_of_length h.symm).symm
theorem OrdRun.next_of_lt {E : List (List Nat)} {a b : List Nat} (ha : OrdRun E a) (hb : OrdRun E b) (h : a.length < b.length) : ∃ i, NextIs E a i := by
  induction hb with
  | nil => simp at h
  | snoc hb hi ih =>
    rename_i o i
    by_cases h2 : a.length < o.length
    · exact ih h2
    · have : a = o := ha.eq_of_length hb (by simp at h; omega)
      subst this
      exact ⟨i, hi⟩
/-- the order of things, or which one is wrong -/
def OrderIs (ns : List Tx) (nd : List (List Tx)) (l : List Nat) (n e : Int) : Prop :=
  ∃ n0 e0, CheckIs ns nd n0 e0 ∧ ((e0 ≠ 0 ∧ l = [] ∧ n = n0 ∧ e = e0) ∨
    (e0 = 0 ∧ ((OrdRun (edgesL ns nd) l ∧ l.length = ns.length ∧ n = 0 ∧ e = 0) ∨
      (l = [] ∧ e = 13 ∧ ∃ o, OrdRun (edgesL ns nd) o ∧ o.length < ns.length ∧ (∀ i, ¬ Ready (edgesL ns nd) o i) ∧ ∃ i : Nat, n = i ∧ i < ns.length ∧ i ∉ o ∧ ∀ j, j < i → j ∈ o))))
theorem OrderIs.unique {ns : List Tx} {nd : List (List Tx)} {l l' : List Nat} {n e n' e' : Int} (h : OrderIs ns nd l n e) (h' : OrderIs ns nd l' n' e') : l = l' ∧ n = n' ∧ e = e' := by
  obtain ⟨n0, e0, hc, h⟩ := h
  obtain ⟨n1, e1, hc', h'⟩ := h'
  obtain ⟨rfl, rfl⟩ := hc.unique hc'
  rcases h with ⟨hz, rfl, rfl, rfl⟩ | ⟨rfl, h⟩ <;> rcases h' with ⟨hz', rfl, rfl, rfl⟩ | ⟨hz', h'⟩
  · exact ⟨rfl, rfl, rfl⟩
  · exact absurd hz' hz
  · exact absurd rfl hz'
  · have noNext : ∀ {o}, (∀ i, ¬ Ready (edgesL ns nd) o i) → ¬ ∃ i, NextIs (edgesL ns nd) o i := fun h ⟨i, hi⟩ => h i hi.1
    rcases h with ⟨r, hl, rfl, rfl⟩ | ⟨rfl, rfl, o, r, hl, hn, i, rfl, hi1, hi2, hi3⟩ <;> rcases h' with ⟨r', hl', rfl, rfl⟩ | ⟨rfl, rfl, o', r', hl', hn', i', rfl, hi1', hi2', hi3'⟩
    · exact ⟨r.eq_of_length r' (by omega), rfl, rfl⟩
    · exact absurd (r'.next_of_lt r (by omega)) (noNext hn')
    · exact absurd (r.next_of_lt r' (by omega)) (noNext hn)
    · have : o = o' := by
        rcases Nat.lt_trichotomy o.length o'.length with h | h | h
        · exact absurd (r.next_of_lt r' h) (noNext hn)
        · exact r.eq_of_length r' h
        · exact absurd (r'.next_of_lt r h) (noNext hn')
      subst this
      have : i = i' := by
        rcases Nat.lt_trichotomy i i' with h | h | h
        · exact absurd (hi3' i h) hi2
        · exact h
        · exact absurd (hi3 i' h) hi2'
      exact ⟨rfl, by rw [this], rfl⟩

/-- which are done: a box at p with a row of flags in block q -/
structure DoneG (w : World) (p q N : Nat) (o : List Nat) : Prop where
  box : w.cell? ⟨p, 0, none⟩ = some (.slice (some ⟨q, 0, none⟩) N N)
  flag : ∀ i, i < N → w.cell? ⟨q, i, none⟩ = some (.bool (o.contains i))
  free : ∀ i, w.frozen? ⟨q, i, none⟩ = false
theorem DoneG.below {w w' : World} {p q N : Nat} {o : List Nat} (h : DoneG w p q N o) (hp : p < w.heap.size) (hq : q < w.heap.size) (hb : Below w.heap.size w w') : DoneG w' p q N o :=
  ⟨(hb.cell (p := ⟨p, 0, none⟩) hp).trans h.box, fun i hi => (hb.cell (p := ⟨q, i, none⟩) hq).trans (h.flag i hi), fun i => (hb.frozen (p := ⟨q, i, none⟩) hq).trans (h.free i)⟩
set_option maxHeartbeats 800000 in
theorem done1_any (p q N : Nat) (o : List Nat) (k : Nat) (w : World) (hD : DoneG w p q N o) (hk : k < N) :
    Calls Try.prog 16 #[.int .i64 (k : Int), .pointer (some ⟨p, 0, none⟩)] w fun e w' => e = .returned (.bool (!o.contains k)) ∧ w' = w := by
  have k0 := hD.box
  have k1 := hD.flag k hk
  generalize o.contains k = B at *
  have i1 : (0 : Int) ≤ (k : Int) := by omega
  have i2 : (k : Int) < (N : Int) := by omega
  clear hD hk
  go_enter Try.func16, Try.ntmps16
  go_wp2_with fail
  go_ret
  exact ⟨rfl, rfl⟩
set_option maxRecDepth 100000 in
set_option maxHeartbeats 1600000 in
theorem indexG_any (p q N : Nat) (o l : List Nat) (A : Option Addr) (c : Nat) (w : World) (hD : DoneG w p q N o) (hr : RdL w 1 A (l.map iC)) (hl : ∀ k ∈ l, k < N) (hn : l.length ≤ 9223372036854775807) :
    Calls Try.prog 22 #[.slice A l.length c, .func (.func 16) #[] #[.pointer (some ⟨p, 0, none⟩)]] w fun e w' => ∃ r : Int, e = .returned (.int .i64 r) ∧ (decide (0 ≤ r) = l.any fun k => !o.contains k) ∧ w' = w := by
  have he : ∀ args W, (callFunc 16 args).run Try.prog W = .ok (.enter 16 args) W := enters_of Try.func16 (by kernel_rfl) rfl
  obtain ⟨B, hB⟩ : ∃ B, (l.any fun k => !o.contains k) = B := ⟨_, rfl⟩
  rw [hB]
  have HB := Lib.hid hB
  clear hB
  have HR := Lib.hid hr
  have HD := Lib.hid hD
  have HL := Lib.hid hl
  clear hr hD hl
  go_enter Try.func22, Try.ntmps22
  go_wp2_with fail
  go_loopg [8] l.length (fun k i wr => ∃ j : Nat, j ≤ l.length ∧ l.length - j ≤ k ∧ Hid ((l.take j).any (fun k => !o.contains k) = false) ∧ i = .int .i64 j ∧ w = wr)
  case atStart => exact ⟨0, by omega, by omega, Lib.hid (by simp), rfl, rfl⟩
  case round =>
    obtain ⟨j, hj, hjk, hi, rfl, rfl⟩ := hrel
    by_cases hlt : j < l.length
    · obtain ⟨b, off, hbe, g0⟩ := rdI_at HR.out hlt
      subst hbe
      have hmem := HL.out _ (List.getElem_mem hlt)
      have htk : l.take (j + 1) = l.take j ++ [l[j]'hlt] := List.take_succ_eq_append_getElem hlt
      have hin : l[j]'hlt ∈ l := List.getElem_mem hlt
      generalize l[j]'hlt = x at *
      have i1 : (0 : Int) ≤ (j : Int) := by omega
      have i2 : (j : Int) < (l.length : Int) := by omega
      have hdn := done1_any p q N o x w HD.out hmem
      cases hp : o.contains x
      · rw [hp] at hdn
        have hany : (l.any fun k => !o.contains k) = true := List.any_eq_true.2 ⟨x, hin, by rw [hp]; rfl⟩
        have HAN : Hid (B = true) := Lib.hid (by rw [← HB.out]; exact hany)
        have HDN := Lib.hid hdn
        clear hdn htk hmem hin hany
        go_wp2_with fail
        refine HDN.out.mono ?_
        rintro e w1 ⟨rfl, rfl⟩
        go_wp2_with fail
        refine bodyPost_ret (v := .int .i64 j) (by simp [results, Try.results22, go_sem]) rfl ⟨j, rfl, by rw [HAN.out]; exact decide_eq_true (by omega), rfl⟩
      · rw [hp] at hdn
        have HDN := Lib.hid hdn
        have HJ : Hid ((l.take (j + 1)).any (fun k => !o.contains k) = false) := Lib.hid (by rw [htk, List.any_append, hi.out]; simp [hp]; simpa using hp)
        clear hdn htk hmem hin
        go_wp2_with fail
        refine HDN.out.mono ?_
        rintro e w1 ⟨rfl, rfl⟩
        go_wp2_with fail
        go_roundg (l.length - (j + 1))
        case measure => omega
        case rel => exact ⟨j + 1, by omega, by omega, HJ, by go_num, rfl⟩
    · have i2 : ¬ (j : Int) < (l.length : Int) := by omega
      have hf := hi.out
      rw [List.take_of_length_le (by omega)] at hf
      have HF : Hid (B = false) := Lib.hid (by rw [← HB.out]; exact hf)
      clear hf
      go_wp2_with fail
      refine bodyPost_ret (v := .int .i64 (-1)) (by simp [results, Try.results22, go_sem]) rfl ⟨-1, rfl, by rw [HF.out]; rfl, rfl⟩
set_option maxHeartbeats 800000 in
theorem containsG_any (p q N : Nat) (o l : List Nat) (A : Option Addr) (c : Nat) (w : World) (hD : DoneG w p q N o) (hr : RdL w 1 A (l.map iC)) (hl : ∀ k ∈ l, k < N) (hn : l.length ≤ 9223372036854775807) :
    Calls Try.prog 15 #[.slice A l.length c, .func (.func 16) #[] #[.pointer (some ⟨p, 0, none⟩)]] w fun e w' => e = .returned (.bool (l.any fun k => !o.contains k)) ∧ w' = w := by
  have h := indexG_any p q N o l A c w hD hr hl hn
  generalize (l.any fun k => !o.contains k) = B at *
  have H := Lib.hid h
  clear h hD hr hl
  go_enter Try.func15, Try.ntmps15
  go_wp2_with fail
  refine H.out.mono ?_
  rintro e w1 ⟨r, rfl, hb, rfl⟩
  go_wp2_with fail
  go_ret
  exact ⟨ret_bool rfl, rfl⟩
set_option maxHeartbeats 800000 in
/-- the first that is not done -/
theorem firstG_any (p q N : Nat) (o : List Nat) (w : World) (hD : DoneG w p q N o) (hN : N ≤ 9223372036854775807) (hx : ∃ i, i < N ∧ i ∉ o) :
    Calls Try.prog 17 #[.slice (some ⟨q, 0, none⟩) N N, .bool false] w fun e w' => ∃ i : Nat, e = .returned (.int .i64 (i : Int)) ∧ i < N ∧ i ∉ o ∧ (∀ j, j < i → j ∈ o) ∧ w' = w := by
  have HD := Lib.hid hD
  have HX := Lib.hid hx
  clear hD hx
  go_enter Try.func17, Try.ntmps17
  go_wp2_with fail
  go_loopg [8] N (fun k i wr => ∃ j : Nat, j ≤ N ∧ N - j ≤ k ∧ Hid (∀ i, i < j → i ∈ o) ∧ i = .int .i64 j ∧ w = wr)
  case atStart => exact ⟨0, by omega, by omega, Lib.hid (fun i hi => absurd hi (by omega)), rfl, rfl⟩
  case round =>
    obtain ⟨j, hj, hjk, hi, rfl, rfl⟩ := hrel
    by_cases hlt : j < N
    · have g0 := HD.out.flag j hlt
      have i1 : (0 : Int) ≤ (j : Int) := by omega
      have i2 : (j : Int) < (N : Int) := by omega
      cases hp : o.contains j
      · rw [hp] at g0
        have hno : j ∉ o := fun h => by rw [(List.contains_iff_mem).2 h] at hp; cases hp
        have HNO := Lib.hid hno
        clear hno hp
        go_wp2_with fail
        refine bodyPost_ret (v := .int .i64 j) (by simp [results, Try.results17, go_sem]) rfl ⟨j, rfl, hlt, HNO.out, hi.out, rfl⟩
      · rw [hp] at g0
        have HJ : Hid (∀ i, i < j + 1 → i ∈ o) := Lib.hid (fun i h => by
          rcases Nat.lt_or_ge i j with h2 | h2
          · exact hi.out i h2
          · have : i = j := by omega
            subst this
            exact List.contains_iff_mem.1 hp)
        clear hp
        go_wp2_with fail
        go_roundg (N - (j + 1))
        case measure => omega
        case rel => exact ⟨j + 1, by omega, by omega, HJ, by go_num, rfl⟩
    · exfalso
      obtain ⟨i, hi1, hi2⟩ := HX.out
      exact hi2 (hi.out i (by omega))
end Go.Proofs.Ythmmfghcfgbblaa
