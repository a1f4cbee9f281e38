import Derived.Test.YtankkadnhdfpfaaGreatDoorPk23
import Derived.Test.YtankkadnhdfpfaaGreatDoorPk07
import Derived.Test.YtankkadnhdfpfaaGreatDoorPsRef03
import Derived.Test.YtankkadnhdfpfaaGreatDoorShelf
import Derived.Sort.OwnSorted
import Derived.Sort.Grow
/- words.Make, walked: slices.Clone, DeleteFunc, Sort, Compact, Clip at []string over rows of one's own. -/
set_option linter.unusedSimpArgs false
set_option linter.unusedVariables false
namespace Go.Proofs.YtankkadnhdfpfaaGreatDoor.Wd
open Go.RowKit Go.Sort Go.Lib

theorem bs_size (t : Tx) : (bs t).size = t.length := rfl
set_option maxHeartbeats 400000 in
theorem text_any (t : Tx) (w : World) (hE : Env w) (ht : t.length ≤ 9223372036854775807) :
    Calls Tryz.prog 92 #[encStr t] w fun e w' => e = .returned (.bool (textB t)) ∧ Below w.heap.size w w' := by
  have hs := bs_size t
  show Calls Tryz.prog 92 #[.string (bs t)] w fun e w' => e = .returned (.bool (textB t)) ∧ Below w.heap.size w w'
  have HD : Hid (textB t = (decide (t.length ≤ 256) && goodB (bs t))) := rfl
  generalize textB t = B at *
  generalize bs t = s at *
  by_cases h : t.length ≤ 256
  · have h2 : s.size ≤ 256 := by omega
    have hB : B = goodB s := by have := HD.out; rw [decide_eq_true h] at this; simpa using this
    have HB := Lib.hid hB
    have hs2 : s.size ≤ 9223372036854775807 := by omega
    have h4 : (s.size : Int) ≤ 256 := by omega
    clear hB hs h HD
    go_enter Tryz.func92, Tryz.ntmps92
    go_wp2_with fail
    refine (good_any s _ (by omega) (hE.below bel)).mono ?_
    rintro e w1 ⟨rfl, hb1⟩
    go_wp2_with fail
    go_ret
    exact ⟨ret_bool HB.out.symm, hb1⟩
  · have h2 : ¬ s.size ≤ 256 := by omega
    have hB : B = false := by have := HD.out; rw [decide_eq_false h] at this; simpa using this
    have HB := Lib.hid hB
    have h3 : ¬ (s.size : Int) ≤ 256 := by omega
    clear hB hs h HD h2
    go_enter Tryz.func92, Tryz.ntmps92
    go_wp2_with fail
    go_ret
    exact ⟨ret_bool HB.out.symm, Below.refl _ _⟩
set_option maxHeartbeats 400000 in
theorem word_any (t : Tx) (w : World) :
    Calls Tryz.prog 107 #[encStr t] w fun e w' => e = .returned (.bool (textB t)) ∧ w = w' := by
  have hs := bs_size t
  show Calls Tryz.prog 107 #[.string (bs t)] w fun e w' => e = .returned (.bool (textB t)) ∧ w = w'
  have HD : Hid (textB t = (decide (t.length ≤ 256) && goodB (bs t))) := rfl
  generalize textB t = B at *
  generalize bs t = s at *
  by_cases h : t.length ≤ 256
  · have h2 : s.size ≤ 256 := by omega
    have hB : B = goodB s := by have := HD.out; rw [decide_eq_true h] at this; simpa using this
    have HB := Lib.hid hB
    have hs2 : s.size ≤ 9223372036854775807 := by omega
    have h4 : (s.size : Int) ≤ 256 := by omega
    clear hB hs h HD
    go_enter Tryz.func107, Tryz.ntmps107
    go_wp2_with fail
    refine (good03_any s _ (by omega)).mono ?_
    rintro e w1 ⟨rfl, rfl⟩
    go_wp2_with fail
    go_ret
    exact ⟨ret_bool HB.out.symm, rfl⟩
  · have h2 : ¬ s.size ≤ 256 := by omega
    have hB : B = false := by have := HD.out; rw [decide_eq_false h] at this; simpa using this
    have HB := Lib.hid hB
    have h3 : ¬ (s.size : Int) ≤ 256 := by omega
    clear hB hs h HD h2
    go_enter Tryz.func107, Tryz.ntmps107
    go_wp2_with fail
    go_ret
    exact ⟨ret_bool HB.out.symm, rfl⟩
set_option maxHeartbeats 400000 in
theorem make1_any (t : Tx) (w : World) (hE : Env w) (ht : t.length ≤ 9223372036854775807) :
    Calls Tryz.prog 130 #[encStr t] w fun e w' => e = .returned (.bool (!textB t)) ∧ Below w.heap.size w w' := by
  go_enter Tryz.func130, Tryz.ntmps130
  go_wp2_with fail
  refine (text_any t _ (hE.below bel) ht).mono ?_
  rintro e w1 ⟨rfl, hb1⟩
  go_wp2_with fail
  go_ret
  exact ⟨rfl, hb1⟩

def OwnT (w : World) (base : Nat) (A : Option Addr) (l : List Tx) : Prop := l = [] ∨ ∃ g, A = some ⟨g, 0, none⟩ ∧ base ≤ g ∧ g < w.heap.size ∧ Holds encStr w g 0 l.toArray
def OwnF (w : World) (base : Nat) (A : Option Addr) (l : List Tx) : Prop := l = [] ∨ ∃ g, A = some ⟨g, 0, none⟩ ∧ base ≤ g ∧ g < w.heap.size ∧ RowT w g (fun j => l[j]?.getD []) l.length ∧ ∀ o, w.frozen? ⟨g, o, none⟩ = false

theorem getD_at {l : List Tx} {t : Nat} (h : t < l.length) : l[t]?.getD [] = l[t]'h := by rw [List.getElem?_eq_getElem h]; rfl
theorem holds_rdT {w : World} {g : Nat} {l : List Tx} (h : Holds encStr w g 0 l.toArray) : RdL w 1 (some ⟨g, 0, none⟩) (l.map tC) := by
  refine row_rd (f := fun j => l[j]?.getD []) (fun j hj => ?_) (fun t h => getD_at h)
  have h1 := (h j (by simpa using hj)).1
  rw [Nat.zero_add, getElem!_pos l.toArray j (by simpa using hj)] at h1
  show _ = some (encStr (l[j]?.getD []))
  rw [h1, getD_at hj]
  simp
theorem row_holdsT {w : World} {g : Nat} {f : Nat → Tx} {l : List Tx} (hf : RowT w g f l.length) (hfr : ∀ o, w.frozen? ⟨g, o, none⟩ = false) (hfl : ∀ t (h : t < l.length), f t = l[t]'h) : Holds encStr w g 0 l.toArray := by
  intro j hj
  have hj' : j < l.length := by simpa using hj
  refine ⟨?_, hfr _⟩
  rw [Nat.zero_add, getElem!_pos l.toArray j hj, hf j hj', hfl j hj']
  simp
theorem OwnT.rd {w : World} {base : Nat} {A : Option Addr} {l : List Tx} (h : OwnT w base A l) : RdL w 1 A (l.map tC) := by
  rcases h with rfl | ⟨g, rfl, _, _, h⟩
  · exact RdL.nil_ _ _ _
  · exact holds_rdT h
theorem OwnT.below {w w' : World} {base : Nat} {A : Option Addr} {l : List Tx} (h : OwnT w base A l) (hb : Below w.heap.size w w') : OwnT w' base A l := by
  rcases h with h | ⟨g, h1, h2, h3, h4⟩
  · exact .inl h
  · exact .inr ⟨g, h1, h2, Nat.lt_of_lt_of_le h3 hb.size, fun j hj => ⟨(hb.cell (p := ⟨g, 0 + j, none⟩) h3).trans (h4 j hj).1, (hb.frozen (p := ⟨g, 0 + j, none⟩) h3).trans (h4 j hj).2⟩⟩
theorem OwnF.below {w w' : World} {base : Nat} {A : Option Addr} {l : List Tx} (h : OwnF w base A l) (hb : Below w.heap.size w w') : OwnF w' base A l := by
  rcases h with h | ⟨g, h1, h2, h3, h4, h5⟩
  · exact .inl h
  · exact .inr ⟨g, h1, h2, Nat.lt_of_lt_of_le h3 hb.size, h4.below hb, fun o => (hb.frozen (p := ⟨g, o, none⟩) h3).trans (h5 o)⟩
theorem OwnT.set_ {w : World} {base : Nat} {A : Option Addr} {l : List Tx} (h : OwnT w base A l) {b : Nat} (hb : b < base) (o : Nat) (v : Value) : OwnT (w.setCell ⟨b, o, none⟩ v) base A l := by
  rcases h with h | ⟨g, h1, h2, h3, h4⟩
  · exact .inl h
  · refine .inr ⟨g, h1, h2, by simp; exact h3, fun j hj => ⟨?_, ?_⟩⟩
    · rw [World.cell?_setCell_other _ _ _ _ (by intro hh; injection hh with h5 _; omega)]
      exact (h4 j hj).1
    · rw [frozen_setCell]
      exact (h4 j hj).2
theorem OwnT.base {w : World} {base b2 : Nat} {A : Option Addr} {l : List Tx} (h : OwnT w base A l) (hb : b2 ≤ base) : OwnT w b2 A l := by
  rcases h with h | ⟨g, h1, h2, h3, h4⟩
  · exact .inl h
  · exact .inr ⟨g, h1, by omega, h3, h4⟩
theorem below_putRow {base g : Nat} (hg : base ≤ g) {a w : World} (h : Below base a w) (n : Nat) (d : Array Tx) : Below base a (putRow encStr (Go.Sort.ahead w n) g 0 d) := by
  refine ⟨h.os, h.tape, h.output, ?_, fun k hk => ?_⟩
  · have := h.size
    simp [putRow, mapBlock, Go.Sort.ahead]; exact this
  · rw [← h.block k hk]
    simp only [putRow, mapBlock, Go.Sort.ahead]
    rw [Array.getElem?_modify, if_neg (by omega)]
theorem size_putRow (g n : Nat) (w : World) (d : Array Tx) : (putRow encStr (Go.Sort.ahead w n) g 0 d).heap.size = w.heap.size := by simp [putRow, mapBlock, Go.Sort.ahead]
theorem below_grow {base : Nat} {a w : World} (h : Below base a w) (hb : base ≤ w.heap.size) (os : Array Obj) : Below base a (grow w os) := by
  refine ⟨h.os, h.tape, h.output, ?_, fun k hk => ?_⟩
  · have := h.size
    simp [grow]; omega
  · rw [← h.block k hk]
    simp only [grow]
    rw [Array.getElem?_append, if_pos (by omega)]

theorem cellsOf_rd {w : World} {A : Option Addr} {l : List Tx} (hr : RdL w 1 A (l.map tC)) (hne : l ≠ []) : ∃ b off, A = some ⟨b, off, none⟩ ∧ ∀ j, j < (l.map bs).length → w.cell? ⟨b, off + j, none⟩ = some (.string ((l.map bs).getD j ByteArray.empty)) := by
  have h0 : 0 < l.length := List.length_pos_iff.2 hne
  obtain ⟨b, off, rfl, _⟩ := hr.at_ h0
  refine ⟨b, off, rfl, fun j hj => ?_⟩
  have hj' : j < l.length := by simpa using hj
  obtain ⟨b2, o2, e, hx⟩ := hr.at_ hj'
  cases e
  have := hx.get 0 (v := encStr (l[j]'hj')) rfl
  rw [Nat.mul_one, Nat.add_zero] at this
  rw [this, List.getD_eq_getElem?_getD, List.getElem?_map, List.getElem?_eq_getElem hj']
  rfl

set_option maxHeartbeats 400000 in
theorem cloneT (A : Option Addr) (l : List Tx) (c : Nat) (w : World) (hr : RdL w 1 A (l.map tC)) (hn : l.length * 16 ≤ 140737488355328) :
    Calls Tryz.prog 129 #[.slice A l.length c] w fun e w' => ∃ A' cap, e = .returned (.slice A' l.length cap) ∧ l.length ≤ cap ∧ OwnF w' w.heap.size A' l ∧ Below w.heap.size w w' ∧ (A' = none → l.length = 0) := by
  by_cases hne : l = []
  · subst hne
    cases A with
    | none =>
      refine (Tryz.slices_Clone_string_nil _ c w).mono ?_
      rintro e w' ⟨rfl, rfl⟩
      exact ⟨none, 0, rfl, Nat.le_refl _, .inl rfl, Below.refl _ _, fun _ => rfl⟩
    | some a =>
      refine (Tryz.slices_Clone_string_zero a c w).mono ?_
      rintro e w' ⟨v', rfl, hown, hne, hb⟩
      rcases hown.2 with ⟨h1, _⟩ | ⟨g, cap, cur, rfl, hg, hc, hnc, hcm, hcs, htake⟩
      · exact absurd h1 hne
      · exact ⟨_, cap, rfl, Nat.zero_le _, .inl rfl, hb, fun _ => rfl⟩
  · obtain ⟨b, off, rfl, hc⟩ := cellsOf_rd hr hne
    have hcon := Tryz.slices_Clone_string b off l.length c (l.map bs) w (by simp) hn hc
    refine hcon.mono ?_
    rintro e w' ⟨v', rfl, hown, hne2, hb⟩
    rcases hown.2 with ⟨h1, _⟩ | ⟨g, cap, cur, rfl, hg, hc, hnc, hcm, hcs, htake⟩
    · exact absurd h1 hne2
    · refine ⟨some ⟨g, 0, none⟩, cap, rfl, hnc, .inr ⟨g, rfl, hg, lt_of_block hc, fun j hj => ?_, fun o => by simp [World.frozen?, hc]⟩, hb, fun h => by cases h⟩
      rw [cell_of_block hc]
      have hcur : cur[j]? = (cur.toList.take (l.length * 1))[j]? := by
        rw [List.getElem?_take, if_pos (by omega)]; simp
      rw [hcur, htake]
      have hl2 : (l.map bs).take l.length = l.map bs := List.take_of_length_le (by simp)
      rw [hl2, List.map_map, List.getElem?_map, List.getElem?_eq_getElem hj]
      show some (Value.string (bs (l[j]'hj))) = some (encStr (l[j]?.getD []))
      rw [getD_at hj]
      rfl

set_option maxHeartbeats 400000 in
theorem delete_empty (A : Option Addr) (cap fn : Nat) (lb : Array Value) (ok : Tx → Bool) (w : World) (hix2 : Calls Tryz.prog 158 #[.slice A 0 cap, .func (.func fn) #[] lb] w fun e w' => e = .returned (.int .i64 (-1)) ∧ Below w.heap.size w w') :
    Calls Tryz.prog 128 #[.slice A 0 cap, .func (.func fn) #[] lb] w fun e w' => e = .returned (.slice A 0 cap) ∧ Below w.heap.size w w' := by
  go_enter Tryz.func128, Tryz.ntmps128
  go_wp2_with fail
  refine hix2.mono ?_
  rintro e w1 ⟨rfl, hb1⟩
  clear hix2
  go_wp2_with fail
  go_ret
  exact ⟨rfl, hb1⟩

theorem deleteT (fn : Nat) (ok : Tx → Bool) (A : Option Addr) (l : List Tx) (cap base : Nat) (w : World) (hbw : base ≤ w.heap.size) (ho : OwnF w base A l) (hcap : l.length ≤ cap) (hn : l.length ≤ 4611686018427387903)
    (hgv : txGives fn #[] (fun x => !ok x) l base w) (eg : ∀ args W, (callFunc fn args).run Tryz.prog W = .ok (.enter fn args) W) :
    Calls Tryz.prog 128 #[.slice A l.length cap, .func (.func fn) #[] #[]] w fun e w' =>
      e = .returned (.slice A (l.filter ok).length cap) ∧ OwnT w' base A (l.filter ok) ∧ Below base w w' := by
  rcases ho with rfl | ⟨g, rfl, h1, h2, h3, h4⟩
  · have hix := index0 fn base (fun x => !ok x) [] A cap w hbw (RdL.nil_ _ _ _) (by simp) (fun x hx => by cases hx) eg
    refine (delete_empty A cap fn #[] ok w hix).mono ?_
    rintro e w' ⟨rfl, hb⟩
    exact ⟨rfl, .inl rfl, hb.mono hbw⟩
  · refine (delete0 fn ok l _ g cap base w h1 hbw h2 h3 h4 (fun t h => getD_at h) hcap hn hgv eg).mono ?_
    rintro e w' ⟨rfl, hg, f', h5, h6, h7, hb⟩
    exact ⟨rfl, .inr ⟨g, rfl, h1, hg, row_holdsT h5 h6 h7⟩, hb⟩
theorem deleteQ (fn : Nat) (q : Addr) (ok : Tx → Bool) (A : Option Addr) (l : List Tx) (cap base : Nat) (w : World) (hbw : base ≤ w.heap.size) (ho : OwnF w base A l) (hcap : l.length ≤ cap) (hn : l.length ≤ 4611686018427387903)
    (hgv : txGives fn #[.pointer (some q)] (fun x => !ok x) l base w) (eg : ∀ args W, (callFunc fn args).run Tryz.prog W = .ok (.enter fn args) W) :
    Calls Tryz.prog 128 #[.slice A l.length cap, .func (.func fn) #[] #[.pointer (some q)]] w fun e w' =>
      e = .returned (.slice A (l.filter ok).length cap) ∧ OwnT w' base A (l.filter ok) ∧ Below base w w' := by
  rcases ho with rfl | ⟨g, rfl, h1, h2, h3, h4⟩
  · have hix := index1 fn base q (fun x => !ok x) [] A cap w hbw (RdL.nil_ _ _ _) (by simp) (fun x hx => by cases hx) eg
    refine (delete_empty A cap fn #[.pointer (some q)] ok w hix).mono ?_
    rintro e w' ⟨rfl, hb⟩
    exact ⟨rfl, .inl rfl, hb.mono hbw⟩
  · refine (delete1 fn q ok l _ g cap base w h1 hbw h2 h3 h4 (fun t h => getD_at h) hcap hn hgv eg).mono ?_
    rintro e w' ⟨rfl, hg, f', h5, h6, h7, hb⟩
    exact ⟨rfl, .inr ⟨g, rfl, h1, hg, row_holdsT h5 h6 h7⟩, hb⟩
theorem sortT (A : Option Addr) (l : List Tx) (cap base : Nat) (w : World) (hbw : base ≤ w.heap.size) (ho : OwnT w base A l) (hn : l.length ≤ 4611686018427387903) :
    Calls Tryz.prog 131 #[.slice A l.length cap] w fun e w' => e = .returned (.tuple #[]) ∧ OwnT w' base A (srt l) ∧ Below base w w' := by
  rcases ho with rfl | ⟨g, rfl, h1, h2, h3⟩
  · refine (Tryz.slices_Sort_string_none A cap w).mono ?_
    rintro e w' ⟨rfl, rfl⟩
    exact ⟨rfl, .inl (by simp [srt]), Below.refl _ _⟩
  · refine (Tryz.slices_Sort_string g 0 cap l w h3 h2 (by omega)).mono ?_
    rintro e w' ⟨rfl, n, os, rfl⟩
    have hp : Holds encStr (putRow encStr (Go.Sort.ahead w n) g 0 (srt l).toArray) g 0 (srt l).toArray := holds_putRow encStr (Go.Sort.ahead w n) g 0 l.toArray _ (holds_ahead encStr w n g 0 _ h3) (by simp [srt])
    refine ⟨rfl, .inr ⟨g, rfl, h1, ?_, holds_grow encStr _ os g 0 _ (by rw [size_putRow]; exact h2) hp⟩, below_grow (below_putRow h1 (Below.refl _ _) n _) (by rw [size_putRow]; exact hbw) os⟩
    show g < ((putRow encStr (Go.Sort.ahead w n) g 0 (srt l).toArray).heap ++ os).size
    rw [Array.size_append, size_putRow]; omega
theorem compactT (A : Option Addr) (l : List Tx) (cap base : Nat) (w : World) (hbw : base ≤ w.heap.size) (ho : OwnT w base A l) (hcap : l.length ≤ cap) (hn : l.length ≤ 4611686018427387903) :
    Calls Tryz.prog 133 #[.slice A l.length cap] w fun e w' => e = .returned (.slice A (compact l).length cap) ∧ OwnT w' base A (compact l) ∧ Below base w w' := by
  rcases ho with rfl | ⟨g, rfl, h1, h2, h3⟩
  · refine (Tryz.slices_Compact_string_empty A cap w).mono ?_
    rintro e w' ⟨rfl, rfl⟩
    exact ⟨rfl, .inl rfl, Below.refl _ _⟩
  · refine (Tryz.slices_Compact_string g 0 cap l w h3 (by omega) hcap).mono ?_
    rintro e w' ⟨rfl, n, rfl⟩
    have hl := compact_length l
    have hp : Holds encStr (putRow encStr (Go.Sort.ahead w n) g 0 (compact l ++ List.replicate (l.length - (compact l).length) []).toArray) g 0 (compact l ++ List.replicate (l.length - (compact l).length) []).toArray :=
      holds_putRow encStr (Go.Sort.ahead w n) g 0 l.toArray _ (holds_ahead encStr w n g 0 _ h3) (by simp; omega)
    refine ⟨rfl, .inr ⟨g, rfl, h1, by rw [size_putRow]; exact h2, fun j hj => ?_⟩, below_putRow h1 (Below.refl _ _) n _⟩
    have hj' : j < (compact l).length := by simpa using hj
    have := hp j (by simp; omega)
    rw [getElem!_pos _ j (by simp; omega)] at this
    rw [getElem!_pos _ j hj]
    simp only [List.getElem_toArray, List.getElem_append_left hj'] at this ⊢
    exact this

set_option maxHeartbeats 800000 in
theorem make_any (all : Bool) (A : Option Addr) (l : List Tx) (c : Nat) (w : World) (hE : Env w) (hr : RdL w 1 A (l.map tC)) (hs : ∀ t ∈ l, t.length ≤ 9223372036854775807) (hn : l.length * 16 ≤ 140737488355328) :
    Calls Tryz.prog 85 #[.bool all, .slice A l.length c] w fun e w' => ∃ A', e = .returned (.agg #[.bool all, .slice A' (norm l).length (norm l).length]) ∧ OwnT w' w.heap.size A' (norm l) ∧ Below w.heap.size w w' := by
  have eg : ∀ args W, (callFunc 130 args).run Tryz.prog W = .ok (.enter 130 args) W := enters_of Tryz.func130 (by kernel_rfl) rfl
  have HEG := Lib.hid eg
  have HS := Lib.hid hs
  have HR := Lib.hid hr
  clear eg hs hr
  go_enter Tryz.func85, Tryz.ntmps85
  go_wp2_with fail
  generalize hEu : w.alloc _ = u
  have hbu : Below w.heap.size w u := (by rw [← hEu]; exact bel)
  have lu_0 : w.heap.size < u.heap.size := lsz hEu
  have qu_0 : ∀ o, u.cell? ⟨w.heap.size, o, none⟩ = _ := fun o => congrArg (fun W : World => W.cell? ⟨w.heap.size, o, none⟩) hEu.symm
  have ru_0 : ∀ o, u.frozen? ⟨w.heap.size, o, none⟩ = _ := fun o => congrArg (fun W : World => W.frozen? ⟨w.heap.size, o, none⟩) hEu.symm
  clear hEu
  have hszu : w.heap.size ≤ u.heap.size := hbu.size
  refine (cloneT A l c u (HR.out.below hbu) hn).mono ?_
  rintro e w1 ⟨A1, cap, rfl, hcap, ho, hb1, hA1⟩
  have hz1 := hb1.size
  have HO := Lib.hid ho
  clear ho
  go_wp2_with fail
  refine (deleteT 130 textB A1 l cap u.heap.size w1 hz1 HO.out hcap (by omega) (fun x hx W hW hsz => make1_any x W (hE.below (hbu.trans ((hb1.trans hW).mono hszu))) (HS.out x hx)) HEG.out).mono ?_
  rintro e w2 ⟨rfl, ho2, hb2⟩
  have hz2 := hb2.size
  have hl2 : (l.filter textB).length ≤ l.length := List.length_filter_le _ _
  have HO2 := Lib.hid ho2
  clear ho2
  go_wp2_with fail
  refine (sortT A1 _ cap u.heap.size w2 (by omega) HO2.out (by omega)).mono ?_
  rintro e w3 ⟨rfl, ho3, hb3⟩
  have hz3 := hb3.size
  have HO3 := Lib.hid ho3
  clear ho3
  have hl3 : (srt (l.filter textB)).length = (l.filter textB).length := by simp [srt]
  have hl4 := norm_length l
  go_wp2_with fail
  refine ((hl3 ▸ compactT A1 _ cap u.heap.size w3 (by omega) HO3.out (by omega) (by omega) :)).mono ?_
  rintro e w4 ⟨rfl, ho4, hb4⟩
  have hz4 := hb4.size
  have HO4 : Hid (OwnT w4 u.heap.size A1 (norm l)) := ho4
  clear ho4
  have hA4 : A1 = none → (norm l).length = 0 := fun h => by have := hA1 h; omega
  go_wp2_with fail
  refine (clip_any _ _ (norm l).length cap A1 rfl hA4 (by omega)).mono ?_
  rintro e w5 ⟨rfl, rfl⟩
  have hbx : Below u.heap.size u w5 := ((hb1.trans hb2).trans hb3).trans hb4
  have q5 := fun o => (hbx.cell (p := ⟨w.heap.size, o, none⟩) lu_0).trans (qu_0 o)
  have r5 := fun o => (hbx.frozen (p := ⟨w.heap.size, o, none⟩) lu_0).trans (ru_0 o)
  have l5 : w.heap.size < w5.heap.size := by omega
  have hb5 : Below w.heap.size w w5 := hbu.trans (hbx.mono hszu)
  clear hbx qu_0 ru_0 hb1 hb2 hb3 hb4 hA4 hA1
  go_wp2_with fail
  have hfin : OwnT ((w5.setCell ⟨w.heap.size, 0, none⟩ (.bool all)).setCell ⟨w.heap.size, 1, none⟩ (.slice A1 (norm l).length (norm l).length)) u.heap.size A1 (norm l) := by
    exact (HO4.out.set_ lu_0 0 _).set_ lu_0 1 _
  refine bodyPost_ret (v := .agg #[.bool all, .slice A1 (norm l).length (norm l).length]) (by simp [results, Tryz.results85, go_sem, *]) rfl ⟨A1, rfl, hfin.base hszu, bel⟩
end Go.Proofs.YtankkadnhdfpfaaGreatDoor.Wd

/- words.Has, Other, Empty and the reference's Words and Rising, walked. -/
set_option linter.unusedSimpArgs false
set_option linter.unusedVariables false
namespace Go.Proofs.YtankkadnhdfpfaaGreatDoor.Wd
open Go.RowKit Go.Sort Go.Lib

theorem bs_inj {a b : Tx} (h : bs a = bs b) : a = b := by
  have : (bs a).data.toList = (bs b).data.toList := by rw [h]
  simpa [bs] using this
theorem containsS_bs (l : List Tx) (t : Tx) : containsS ((l.map bs).take l.length) (bs t) = l.contains t := by
  rw [List.take_of_length_le (by simp), Bool.eq_iff_iff, containsS_iff, List.contains_iff_mem, List.mem_map]
  constructor
  · rintro ⟨x, hx, e⟩
    rw [← bs_inj e]; exact hx
  · intro h
    exact ⟨t, h, rfl⟩
theorem containsT (A : Option Addr) (l : List Tx) (c : Nat) (t : Tx) (w : World) (hr : RdL w 1 A (l.map tC)) (hn : l.length ≤ 9223372036854775807) :
    Calls Tryz.prog 93 #[.slice A l.length c, encStr t] w fun e w' => e = .returned (.bool (l.contains t)) ∧ w' = w := by
  by_cases hne : l = []
  · subst hne
    refine (Tryz.slices_Contains_string_empty A c (bs t) w).mono ?_
    rintro e w' ⟨rfl, rfl⟩
    exact ⟨rfl, rfl⟩
  · obtain ⟨b, off, rfl, hc⟩ := cellsOf_rd hr hne
    refine (Tryz.slices_Contains_string b off l.length c (l.map bs) (bs t) w (by simp) hn hc).mono ?_
    rintro e w' ⟨rfl, rfl⟩
    exact ⟨by rw [containsS_bs], rfl⟩

set_option maxHeartbeats 800000 in
theorem has_any (all : Bool) (A : Option Addr) (l : List Tx) (c : Nat) (t : Tx) (w : World) (hE : Env w) (hr : RdL w 1 A (l.map tC)) (hn : l.length ≤ 9223372036854775807) (ht : t.length ≤ 9223372036854775807) :
    Calls Tryz.prog 53 #[.agg #[.bool all, .slice A l.length c], encStr t] w fun e w' => e = .returned (.bool (inW all l t)) ∧ Below w.heap.size w w' := by
  obtain ⟨R, hR⟩ : ∃ R, inW all l t = R := ⟨_, rfl⟩
  rw [hR]
  have HR := Lib.hid hR
  clear hR
  cases hx : textB t
  · have H0 : Hid (R = false) := by
      have : R = false := by rw [← HR.out]; unfold inW; rw [hx]; rfl
      exact Lib.hid this
    go_enter Tryz.func53, Tryz.ntmps53
    go_wp2_with fail
    generalize hEu : w.alloc _ = u
    have hbu : Below w.heap.size w u := (by rw [← hEu]; exact bel)
    have lu_0 : w.heap.size < u.heap.size := lsz hEu
    have qu_0 : ∀ o, u.cell? ⟨w.heap.size, o, none⟩ = _ := fun o => congrArg (fun W : World => W.cell? ⟨w.heap.size, o, none⟩) hEu.symm
    have ru_0 : ∀ o, u.frozen? ⟨w.heap.size, o, none⟩ = _ := fun o => congrArg (fun W : World => W.frozen? ⟨w.heap.size, o, none⟩) hEu.symm
    clear hEu
    first | (go_region_with (go_at_call 92; refine (text_any t _ (hE.below bel) ht).mono ?_; rintro e w' ⟨rfl, hb'⟩; rw [hx])) | fail
    all_goals
      go_wp2_with fail
      go_ret
      exact ⟨ret_bool H0.out.symm, bel⟩
  · obtain ⟨C, hC⟩ : ∃ C, l.contains t = C := ⟨_, rfl⟩
    have H0 : Hid (R = (C != all)) := by
      have : R = (C != all) := by rw [← HR.out, ← hC]; unfold inW; rw [hx, Bool.true_and]
      exact Lib.hid this
    have HC := Lib.hid hC
    clear hC
    go_enter Tryz.func53, Tryz.ntmps53
    go_wp2_with fail
    generalize hEu : w.alloc _ = u
    have hbu : Below w.heap.size w u := (by rw [← hEu]; exact bel)
    have lu_0 : w.heap.size < u.heap.size := lsz hEu
    have qu_0 : ∀ o, u.cell? ⟨w.heap.size, o, none⟩ = _ := fun o => congrArg (fun W : World => W.cell? ⟨w.heap.size, o, none⟩) hEu.symm
    have ru_0 : ∀ o, u.frozen? ⟨w.heap.size, o, none⟩ = _ := fun o => congrArg (fun W : World => W.frozen? ⟨w.heap.size, o, none⟩) hEu.symm
    clear hEu
    have kk0 : u.cell? ⟨w.heap.size, 0, none⟩ = some (.bool all) := cel
    have kk1 : u.cell? ⟨w.heap.size, 1, none⟩ = some (.slice A l.length c) := cel
    go_region_held3 (fun w' => Below u.heap.size u w' ∧ w'.cell? ⟨w.heap.size, 0, none⟩ = some (.bool all) ∧ w'.cell? ⟨w.heap.size, 1, none⟩ = some (.slice A l.length c)) ((refine and_keep ?_ (fun hk => ⟨keep_cell hk lu_0 kk0, keep_cell hk lu_0 kk1⟩); exact bel))
      (first
        | (go_at_call 92; refine (text_any t _ (hE.below (hbu.trans (Below.mono (And.left (by assumption)) hbu.size))) ht).mono ?_; rintro e w' ⟨rfl, hb'⟩; rw [hx])
        | (go_at_call 93; refine (containsT A l c t _ ((hr.below hbu).below (And.left (by assumption))) hn).mono ?_; rintro e w' ⟨rfl, rfl⟩; rw [HC.out]))
    have hS : Below u.heap.size u _ ∧ _ := (by assumption)
    have hbz := hS.1
    clear hS
    go_wp2_with fail
    go_ret
    exact ⟨ret_bool H0.out.symm, hbu.trans (hbz.mono hbu.size)⟩

end Go.Proofs.YtankkadnhdfpfaaGreatDoor.Wd

/- words.Other, Empty and the reference's Words and Rising, walked. -/
set_option linter.unusedSimpArgs false
set_option linter.unusedVariables false
namespace Go.Proofs.YtankkadnhdfpfaaGreatDoor.Wd
open Go.RowKit Go.Sort Go.Lib

set_option maxHeartbeats 800000 in
theorem other_any (all : Bool) (A : Option Addr) (l : List Tx) (c : Nat) (w : World) (hE : Env w) (hr : RdL w 1 A (l.map tC)) (hs : ∀ t ∈ l, t.length ≤ 9223372036854775807) (hn : l.length * 16 ≤ 140737488355328) :
    Calls Tryz.prog 91 #[.agg #[.bool all, .slice A l.length c]] w fun e w' => ∃ A', e = .returned (.agg #[.bool (!all), .slice A' (norm l).length (norm l).length]) ∧ OwnT w' w.heap.size A' (norm l) ∧ Below w.heap.size w w' := by
  have HS := Lib.hid hs
  have HR := Lib.hid hr
  clear hs hr
  go_enter Tryz.func91, Tryz.ntmps91
  go_wp2_with fail
  generalize hEu : (w.alloc _).alloc _ = u
  have hbu : Below w.heap.size w u := (by rw [← hEu]; exact bel)
  have lu_0 : w.heap.size < u.heap.size := lsz hEu
  have qu_0 : ∀ o, u.cell? ⟨w.heap.size, o, none⟩ = _ := fun o => congrArg (fun W : World => W.cell? ⟨w.heap.size, o, none⟩) hEu.symm
  have ru_0 : ∀ o, u.frozen? ⟨w.heap.size, o, none⟩ = _ := fun o => congrArg (fun W : World => W.frozen? ⟨w.heap.size, o, none⟩) hEu.symm
  have lu_1 : w.heap.size + 1 < u.heap.size := lsz hEu
  have qu_1 : ∀ o, u.cell? ⟨w.heap.size + 1, o, none⟩ = _ := fun o => congrArg (fun W : World => W.cell? ⟨w.heap.size + 1, o, none⟩) hEu.symm
  have ru_1 : ∀ o, u.frozen? ⟨w.heap.size + 1, o, none⟩ = _ := fun o => congrArg (fun W : World => W.frozen? ⟨w.heap.size + 1, o, none⟩) hEu.symm
  clear hEu
  refine (make_any (!all) A l c u (hE.below hbu) (HR.out.below hbu) HS.out hn).mono ?_
  rintro e w1 ⟨A1, rfl, hr1, hb1⟩
  have HR1 := Lib.hid hr1
  clear hr1
  have hz1 := hb1.size
  have q1 := fun o => (hb1.cell (p := ⟨w.heap.size + 1, o, none⟩) lu_1).trans (qu_1 o)
  have r1 := fun o => (hb1.frozen (p := ⟨w.heap.size + 1, o, none⟩) lu_1).trans (ru_1 o)
  have l1 : w.heap.size + 1 < w1.heap.size := by omega
  have hbw : Below w.heap.size w w1 := hbu.trans (hb1.mono hbu.size)
  clear qu_0 ru_0 qu_1 ru_1
  go_wp2_with fail
  have hfin : OwnT ((w1.setCell ⟨w.heap.size + 1, 0, none⟩ (.bool (!all))).setCell ⟨w.heap.size + 1, 1, none⟩ (.slice A1 (norm l).length (norm l).length)) u.heap.size A1 (norm l) := (HR1.out.set_ lu_1 0 _).set_ lu_1 1 _
  refine bodyPost_ret (v := .agg #[.bool (!all), .slice A1 (norm l).length (norm l).length]) (by simp [results, Tryz.results91, go_sem, *]) rfl ⟨A1, rfl, hfin.base hbu.size, bel⟩

set_option maxRecDepth 100000 in
set_option maxHeartbeats 800000 in
theorem empty_any (all : Bool) (A : Option Addr) (l : List Tx) (c : Nat) (w : World) (hE : Env w) (hr : RdL w 1 A (l.map tC)) (hs : ∀ t ∈ l, t.length ≤ 9223372036854775807) (hn : l.length * 16 ≤ 140737488355328) :
    Calls Tryz.prog 52 #[.agg #[.bool all, .slice A l.length c]] w fun e w' => e = .returned (.bool (emptyW all l)) ∧ Below w.heap.size w w' := by
  have HS := Lib.hid hs
  have HR := Lib.hid hr
  clear hs hr
  obtain ⟨R, hR⟩ : ∃ R, emptyW all l = R := ⟨_, rfl⟩
  rw [hR]
  have HRR := Lib.hid hR
  clear hR
  cases all
  · have HN : Hid ((((norm l).length : Int) == 0) = R) := by
      have : (((norm l).length : Int) == 0) = R := by
        rw [← HRR.out]
        unfold emptyW
        cases norm l with
        | nil => rfl
        | cons x r => simp; omega
      exact Lib.hid this
    go_enter Tryz.func52, Tryz.ntmps52
    go_wp2_with fail
    generalize hEu : w.alloc _ = u
    have hbu : Below w.heap.size w u := (by rw [← hEu]; exact bel)
    have lu_0 : w.heap.size < u.heap.size := lsz hEu
    have qu_0 : ∀ o, u.cell? ⟨w.heap.size, o, none⟩ = _ := fun o => congrArg (fun W : World => W.cell? ⟨w.heap.size, o, none⟩) hEu.symm
    have ru_0 : ∀ o, u.frozen? ⟨w.heap.size, o, none⟩ = _ := fun o => congrArg (fun W : World => W.frozen? ⟨w.heap.size, o, none⟩) hEu.symm
    clear hEu
    refine (make_any false A l c u (hE.below hbu) (HR.out.below hbu) HS.out hn).mono ?_
    rintro e w1 ⟨A1, rfl, hr1, hb1⟩
    have HNN := HN.out
    generalize (norm l).length = n at *
    have hfd : ∀ W : World, (Instr.field 34 (.agg #[.bool false, .slice A1 n n]) 1).run Tryz.prog W = .ok (.slice A1 n n) W := fun _ => by kernel_rfl
    go_wp2_with fail
    go_ret
    exact ⟨ret_bool rfl, hbu.trans (hb1.mono hbu.size)⟩
  · have HN : Hid (R = false) := Lib.hid (by rw [← HRR.out]; rfl)
    go_enter Tryz.func52, Tryz.ntmps52
    go_wp2_with fail
    go_ret
    exact ⟨ret_bool HN.out.symm, bel⟩

theorem beqT (x t : Tx) : (x == t) = decide (x = t) := by rw [Bool.eq_iff_iff]; simp
theorem take_contains (l : List Tx) (j : Nat) (h : j < l.length) (t : Tx) : (l.take (j + 1)).contains t = ((l.take j).contains t || decide (l[j]'h = t)) := by
  rw [List.take_succ_eq_append_getElem h, contains_append]
  congr 1
  rw [Bool.eq_iff_iff, List.contains_iff_mem]
  simp [eq_comm]
set_option maxRecDepth 100000 in
set_option maxHeartbeats 800000 in
theorem rWords_any (all : Bool) (A : Option Addr) (l : List Tx) (c : Nat) (t : Tx) (w : World) (hr : RdL w 1 A (l.map tC)) (hn : l.length ≤ 9223372036854775807) :
    Calls Tryz.prog 67 #[.agg #[.bool all, .slice A l.length c], encStr t] w fun e w' => e = .returned (.bool (inW all l t)) ∧ Below w.heap.size w w' := by
  obtain ⟨R, hR⟩ : ∃ R, inW all l t = R := ⟨_, rfl⟩
  rw [hR]
  have HR := Lib.hid hR
  clear hR
  have HD := Lib.hid hr
  clear hr
  cases hx : textB t
  · have H0 : Hid (R = false) := by
      have : R = false := by rw [← HR.out]; unfold inW; rw [hx]; rfl
      exact Lib.hid this
    go_enter Tryz.func67, Tryz.ntmps67
    go_wp2_with fail
    refine (word_any t _).mono ?_
    rintro e w1 ⟨rfl, rfl⟩
    rw [hx]
    go_wp2_with fail
    go_ret
    exact ⟨ret_bool H0.out.symm, bel⟩
  · have H0 : Hid (R = (l.contains t != all)) := by
      have : R = (l.contains t != all) := by rw [← HR.out]; unfold inW; rw [hx, Bool.true_and]
      exact Lib.hid this
    go_enter Tryz.func67, Tryz.ntmps67
    go_wp2_with fail
    refine (word_any t _).mono ?_
    rintro e w1 ⟨rfl, rfl⟩
    rw [hx]
    clear hx
    go_wp2_with fail
    generalize hEu : w.alloc _ = u
    have hbu : Below w.heap.size w u := (by rw [← hEu]; exact bel)
    have lu_0 : w.heap.size < u.heap.size := lsz hEu
    have qu_0 : ∀ o, u.cell? ⟨w.heap.size, o, none⟩ = _ := fun o => congrArg (fun W : World => W.cell? ⟨w.heap.size, o, none⟩) hEu.symm
    have ru_0 : ∀ o, u.frozen? ⟨w.heap.size, o, none⟩ = _ := fun o => congrArg (fun W : World => W.frozen? ⟨w.heap.size, o, none⟩) hEu.symm
    clear hEu
    have hru : RdL u 1 A (l.map tC) := HD.out.below hbu
    go_loopg [5, 6] l.length (fun k inv iv wr => ∃ j : Nat, j ≤ l.length ∧ l.length - j ≤ k ∧ inv = .bool ((l.take j).contains t) ∧ iv = .int .i64 j ∧ u = wr)
    case atStart => exact ⟨0, by omega, by omega, rfl, rfl, rfl⟩
    case round =>
      obtain ⟨j, hj, hjk, rfl, rfl, rfl⟩ := hrel
      by_cases hlt : j < l.length
      · obtain ⟨b, off, rfl, hx0⟩ := hru.at_ hlt
        have g0 : u.cell? ⟨b, off + j, none⟩ = some (encStr (l[j]'hlt)) := by have := hx0.get 0 (v := encStr (l[j]'hlt)) rfl; simpa using this
        have hst : (l.take (j + 1)).contains t = ((l.take j).contains t || decide (l[j]'hlt = t)) := take_contains l j hlt t
        generalize l[j]'hlt = x at *
        have HST := Lib.hid hst
        clear hst hx0
        have i1 : (0 : Int) ≤ (j : Int) := by omega
        have i2 : (j : Int) < (l.length : Int) := by omega
        generalize (l.take j).contains t = C at *
        cases C
        · go_wp2_with fail
          go_roundg (l.length - (j + 1))
          case measure => omega
          case rel => exact ⟨j + 1, by omega, by omega, by rw [HST.out]; simp only [Bool.false_or, Bool.true_or, beqT], by go_num, rfl⟩
        · go_wp2_with fail
          go_roundg (l.length - (j + 1))
          case measure => omega
          case rel => exact ⟨j + 1, by omega, by omega, by rw [HST.out]; simp only [Bool.false_or, Bool.true_or, beqT], by go_num, rfl⟩
      · have i1 : ¬ ((j : Int) < (l.length : Int)) := by omega
        have hjn : l.take j = l := List.take_of_length_le (by omega)
        rw [hjn]
        clear hjn
        generalize l.contains t = C at *
        go_wp2_with fail
        go_ret
        refine ⟨ret_bool ?_, hbu⟩
        rw [H0.out]
        cases C <;> cases all <;> rfl

theorem word_v {v : Bool} (t : Tx) (w : World) (h : textB t = v) :
    Calls Tryz.prog 107 #[encStr t] w fun e w' => e = .returned (.bool v) ∧ w' = w := by
  subst h
  refine (word_any t w).mono ?_
  rintro e w' ⟨rfl, rfl⟩
  exact ⟨rfl, rfl⟩
theorem lessS (a b : Tx) : Op.bytesLess a b = decide (a < b) := bytesLess_eq a b
theorem less_gt {a b : Tx} (h : b < a) : Op.bytesLess a b = false ∧ (a == b) = false := by
  have h1 : ¬ a < b := fun h2 => tx_irrefl _ (tx_lt_trans (tx_le h) h2)
  have h2 : ¬ a = b := fun h2 => by subst h2; exact tx_irrefl _ h
  exact ⟨by rw [lessS, decide_eq_false h1], by rw [beqT, decide_eq_false h2]⟩
set_option maxRecDepth 100000 in
set_option maxHeartbeats 1600000 in
theorem rising_any (A : Option Addr) (l : List Tx) (c : Nat) (w : World) (hr : RdL w 1 A (l.map tC)) (hn : l.length ≤ 9223372036854775807) (hl : l.Pairwise (· < ·)) (ht : ∀ x ∈ l, textB x = true) :
    Calls Tryz.prog 77 #[.slice A l.length c] w fun e w' => e = .returned (.bool true) ∧ Below w.heap.size w w' := by
  have HD := Lib.hid hr
  have HL := Lib.hid hl
  have HT := Lib.hid ht
  clear hr hl ht
  go_enter Tryz.func77, Tryz.ntmps77
  go_wp2_with fail
  go_loopg [3] l.length (fun k iv wr => ∃ j : Nat, j ≤ l.length ∧ l.length - j ≤ k ∧ iv = .int .i64 j ∧ Below w.heap.size w wr)
  case atStart => exact ⟨0, by omega, by omega, rfl, Below.refl _ _⟩
  case round =>
    obtain ⟨j, hj, hjk, rfl, hbel⟩ := hrel
    have hsz := hbel.size
    by_cases hlt : j < l.length
    · obtain ⟨b, off, rfl, hx0⟩ := (HD.out.below hbel).at_ hlt
      have g0 : wr.cell? ⟨b, off + j, none⟩ = some (encStr (l[j]'hlt)) := by have := hx0.get 0 (v := encStr (l[j]'hlt)) rfl; simpa using this
      have hbl : b < wr.heap.size := cell_lt g0
      have hst := HT.out _ (List.getElem_mem hlt)
      have i0 : (0 : Int) ≤ (j : Int) := by omega
      have i1 : (j : Int) < (l.length : Int) := by omega
      rcases j with _ | i
      · generalize l[0]'hlt = y at *
        clear hx0
        try simp only [Int.natCast_zero, Nat.zero_mul, Nat.add_zero] at *
        go_wp2_with fail
        go_quiet (first | (go_at_call 107; refine Calls.quiet_of_same (word_v y _ hst)) | fail)
        go_wp2_with fail
        go_roundg (l.length - 1)
        case measure => omega
        case rel => exact ⟨1, by omega, by omega, by go_num, bel⟩
      · have hp : l[i]'(by omega) < l[i + 1]'hlt := List.pairwise_iff_getElem.1 HL.out i (i + 1) (by omega) hlt (by omega)
        have g3 : wr.cell? ⟨b, off + i, none⟩ = some (encStr (l[i]'(by omega))) := by
          have h3 := (HD.out.below hbel).at_ (show i < l.length by omega)
          obtain ⟨b2, o2, e, hh⟩ := h3
          cases e
          have := hh.get 0 (v := encStr (l[i]'(by omega))) rfl
          simpa using this
        generalize l[i + 1]'hlt = y at *
        generalize l[i]'(Nat.lt_of_succ_lt hlt) = z at *
        obtain ⟨hle, heq⟩ := less_gt hp
        have e4 : decide ((0 : Int) < (i : Int) + 1) = true := decide_eq_true (by omega)
        have e8 : (i : Int) + 1 - 1 = (i : Int) := by omega
        have e9 : IntKind.i64.wrap ((i : Int) + 1 - 1) = (i : Int) := by rw [e8]; exact IntWalk.i64_in _ (by omega)
        have e5 : (i : Int) < (l.length : Int) := by omega
        have e6 : (0 : Int) ≤ (i : Int) := by omega
        clear hx0 hp
        try simp only [Int.natCast_add, Int.natCast_one] at *
        go_wp2_with fail
        go_quiet (first | (go_at_call 107; refine Calls.quiet_of_same (word_v y _ hst)) | fail)
        go_wp2_with fail
        go_roundg (l.length - (i + 2))
        case measure => omega
        case rel => exact ⟨i + 2, by omega, by omega, by go_num, bel⟩
    · have i1 : ¬ ((j : Int) < (l.length : Int)) := by omega
      go_wp2_with fail
      go_ret
      exact ⟨ret_bool rfl, hbel⟩
end Go.Proofs.YtankkadnhdfpfaaGreatDoor.Wd
