/- For regions that draw their order around calls that make memory: what stays as it was. -/
import Derived.Test.YtgbapmhdhbfhnaaDoorWd12
import Derived.Deep.RegionHeld3
set_option linter.unusedSimpArgs false
set_option linter.unusedVariables false
namespace Go.Proofs.YtgbapmhdhbfhnaaDoor
open Go.RowKit Go.Sort Go.Lib

theorem belowU_alloc {u w : World} (h : Below u.heap.size u w) (o : Obj) : Below u.heap.size u (w.alloc o) := h.alloc h.size o
theorem belowU_of {u w : World} (h : Below u.heap.size u w) : Below u.heap.size u w := h
theorem belowU_call {u w w' : World} (h : Below u.heap.size u w) (hb : Below w.heap.size w w') : Below u.heap.size u w' := h.trans (hb.mono h.size)
theorem belowU_set {u w : World} {b : Nat} (h : Below u.heap.size u w) (hb : u.heap.size ≤ b) (o : Nat) (v : Value) : Below u.heap.size u (w.setCell ⟨b, o, none⟩ v) := h.setCell hb v
theorem belowU_drew {u w : World} (h : Below u.heap.size u w) : Below u.heap.size u w.drew := h.drew
theorem cell_set_some {w : World} {a : Addr} {v : Value} (h : (w.cell? a).isSome = true) : (w.setCell a v).cell? a = some v := by
  obtain ⟨u, hu⟩ := Option.isSome_iff_exists.1 h
  exact World.cell?_setCell_same _ _ _ hu
theorem keepFrom {W1 w1 W2 w2 : World} (hb1 : Below W1.heap.size W1 w1) (hb2 : Below W2.heap.size W2 w2) (h12 : Below w1.heap.size w1 W2) : Below W1.heap.size W1 w2 :=
  hb1.trans ((h12.trans (hb2.mono h12.size)).mono hb1.size)
theorem keepAll {W w' : World} (hb : Below W.heap.size W w') :
    (∀ b o, b < W.heap.size → w'.cell? ⟨b, o, none⟩ = W.cell? ⟨b, o, none⟩) ∧ (∀ b o, b < W.heap.size → w'.frozen? ⟨b, o, none⟩ = W.frozen? ⟨b, o, none⟩) ∧ (∀ b, b < W.heap.size → b < w'.heap.size) ∧ (∀ b, b < W.heap.size → b < w'.heap.size + 1) ∧ (∀ b, b < W.heap.size → ¬ b = w'.heap.size) ∧ (∀ b, b < W.heap.size → ¬ w'.heap.size = b) :=
  ⟨fun b o h => hb.cell (p := ⟨b, o, none⟩) h, fun b o h => hb.frozen (p := ⟨b, o, none⟩) h, fun b h => Nat.lt_of_lt_of_le h hb.size, fun b h => Nat.lt_succ_of_lt (Nat.lt_of_lt_of_le h hb.size), fun b h => by have := hb.size; omega, fun b h => by have := hb.size; omega⟩
/-- a row of one's own between two marks -/
def OwnB (w : World) (lo hi : Nat) (A : Option Addr) (l : List Tx) : Prop := l = [] ∨ ∃ g, A = some ⟨g, 0, none⟩ ∧ lo ≤ g ∧ g < hi ∧ g < w.heap.size ∧ Holds encStr w g 0 l.toArray
theorem OwnB.of {w : World} {base : Nat} {A : Option Addr} {l : List Tx} (h : OwnT w base A l) : OwnB w base w.heap.size A l := by
  rcases h with h | ⟨g, h1, h2, h3, h4⟩
  · exact .inl h
  · exact .inr ⟨g, h1, h2, h3, h3, h4⟩
theorem OwnB.rd {w : World} {lo hi : Nat} {A : Option Addr} {l : List Tx} (h : OwnB w lo hi A l) : RdL w 1 A (l.map tC) := by
  rcases h with rfl | ⟨g, rfl, _, _, _, h⟩
  · exact RdL.nil_ _ _ _
  · exact holds_rdT h
theorem OwnB.rdOf {w wx : World} {lo hi : Nat} {A : Option Addr} {l : List Tx} (h : OwnB w lo hi A l) (f : OwnB w lo hi A l → OwnB wx lo hi A l) : RdL wx 1 A (l.map tC) := (f h).rd
theorem OwnB.call {w w' : World} {lo hi : Nat} {A : Option Addr} {l : List Tx} (h : OwnB w lo hi A l) (hb : Below w.heap.size w w') : OwnB w' lo hi A l := by
  rcases h with h | ⟨g, h1, h2, h5, h3, h4⟩
  · exact .inl h
  · exact .inr ⟨g, h1, h2, h5, Nat.lt_of_lt_of_le h3 hb.size, fun j hj => ⟨(hb.cell (p := ⟨g, 0 + j, none⟩) h3).trans (h4 j hj).1, (hb.frozen (p := ⟨g, 0 + j, none⟩) h3).trans (h4 j hj).2⟩⟩
theorem OwnB.alloc {w : World} {lo hi : Nat} {A : Option Addr} {l : List Tx} (h : OwnB w lo hi A l) (o : Obj) : OwnB (w.alloc o) lo hi A l := h.call ((Below.refl _ w).alloc (Nat.le_refl _) o)
theorem OwnB.drew {w : World} {lo hi : Nat} {A : Option Addr} {l : List Tx} (h : OwnB w lo hi A l) : OwnB w.drew lo hi A l := h.call (Below.refl _ w).drew
theorem OwnB.drewN {w : World} {lo hi : Nat} {A : Option Addr} {l : List Tx} (h : OwnB w lo hi A l) (k : Nat) : OwnB (w.drewN k) lo hi A l := h.call (below_drewN (Below.refl _ w) k)
theorem OwnB.set_ {w : World} {lo hi : Nat} {A : Option Addr} {l : List Tx} (h : OwnB w lo hi A l) {b : Nat} (hb : b < lo ∨ hi ≤ b) (o : Nat) (v : Value) : OwnB (w.setCell ⟨b, o, none⟩ v) lo hi A l := by
  rcases h with h | ⟨g, h1, h2, h5, h3, h4⟩
  · exact .inl h
  · refine .inr ⟨g, h1, h2, h5, by simp; exact h3, fun j hj => ⟨?_, ?_⟩⟩
    · rw [World.cell?_setCell_other _ _ _ _ (by intro hh; injection hh with h6 _; omega)]
      exact (h4 j hj).1
    · rw [frozen_setCell]
      exact (h4 j hj).2
/-- a world that lies behind u: for a region that draws its order, reads, and calls what makes memory of its own -/
structure AtB (u : World) where
  w : World
  hb : Below u.heap.size u w
instance (u : World) : Inhabited (AtB u) := ⟨⟨u, Below.refl _ u⟩⟩
theorem wp_region_quiet_at {P : Program} {id : Nat} {Q : Exit → Act → World → Prop} {a : Act} {w : World} {l : List Oper} (hm : P.follows .mixedOrders = true) (hB : Region.lexB .any l.toArray = true)
    (h : wpQuiet P l.toArray (fun w' => ∃ p : AtB w, w' = p.w) (fun a' => ∀ w', (∃ p : AtB w, w' = p.w) → Q .normal a' w') l a) : (Code.region id l.toArray true).wp P Q a w :=
  wp_region_quiet (C := fun w' => ∃ p : AtB w, w' = p.w) hm hB ⟨⟨w.drew, (Below.refl _ w).drew⟩, rfl⟩ (by simpa using h)
theorem AtB.quiet {P : Program} {u : World} (p : AtB u) {f : FuncId} {args : Array Value} {v : Value} (h : ∀ W, Below u.heap.size u W → Calls P f args W fun e w' => e = .returned v ∧ Below W.heap.size W w') :
    Calls P f args p.w fun e w'' => e = .returned v ∧ ∃ q : AtB u, w'' = q.w :=
  (h p.w p.hb).mono fun _ w'' ⟨he, hb⟩ => ⟨he, ⟨w'', belowU_call p.hb hb⟩, rfl⟩
theorem AtB.cell {u : World} {b o : Nat} {v : Value} (h : u.cell? ⟨b, o, none⟩ = some v) (p : AtB u) : p.w.cell? ⟨b, o, none⟩ = some v := cell_below p.hb h
theorem meetW_len (aA bA : Bool) (la lb : List Tx) : (meetW aA la bA lb).2.length ≤ la.length + lb.length := by
  have h1 := fun (p : Tx → Bool) => List.length_filter_le p la
  have h2 := fun (p : Tx → Bool) => List.length_filter_le p lb
  cases aA <;> cases bA
  · exact Nat.le_trans (norm_length _) (Nat.le_trans (h1 _) (by omega))
  · exact Nat.le_trans (norm_length _) (Nat.le_trans (h1 _) (by omega))
  · exact Nat.le_trans (norm_length _) (Nat.le_trans (h2 _) (by omega))
  · exact Nat.le_trans (norm_length _) (by simp)
theorem meetW_mem {aA bA : Bool} {la lb : List Tx} {t : Tx} (h : t ∈ (meetW aA la bA lb).2) : t ∈ la ∨ t ∈ lb := by
  unfold meetW at h
  cases aA <;> cases bA
  · exact .inl (List.mem_filter.1 (mem_norm.1 h).1).1
  · exact .inl (List.mem_filter.1 (mem_norm.1 h).1).1
  · exact .inr (List.mem_filter.1 (mem_norm.1 h).1).1
  · exact List.mem_append.1 (mem_norm.1 h).1
end Go.Proofs.YtgbapmhdhbfhnaaDoor
