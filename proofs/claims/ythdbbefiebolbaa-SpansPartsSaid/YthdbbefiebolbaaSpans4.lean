/- Spans: slices.Clone, SortFunc and Clip as Join calls them. -/
import Derived.Test.YthdbbefiebolbaaSpans3
import Derived.Test.YthdbbefiebolbaaSpans0b
set_option linter.unusedSimpArgs false
set_option linter.unusedVariables false
namespace Go.Proofs.Ythdbbefiebolbaa
open Go.RowKit Go.Sort

theorem ltS (x y : Sp) : ltOf cmpS x y = decide (x.1 < y.1) := by
  unfold ltOf cmpS Lib.compareInt
  by_cases h1 : x.1 < y.1
  · simp [h1]
  · by_cases h2 : y.1 < x.1 <;> simp [h1, h2]
theorem swoS : SWO (ltOf cmpS) where
  irrefl x := by rw [ltS]; simp
  trans x y z h1 h2 := by rw [ltS] at *; simp at *; omega
  ntrans x y z h1 h2 := by rw [ltS] at *; simp at *; omega
theorem cmpLaysS (blk off size : Nat) (w : World) : Go.Proofs.CmpLays Try.prog 24 #[] spC 2 cmpS blk off size w :=
  fun _ _ _ _ x y => join2_any x y _

theorem below_sortWorld {base g n : Nat} {w : World} {d : Array Sp} {os : Array Obj} (hg : base ≤ g) (hb : base ≤ w.heap.size) : Below base w (Go.Proofs.sortWorldK spC 2 w g 0 n d os) := by
  refine ⟨rfl, rfl, rfl, ?_, fun k hk => ?_⟩
  · show w.heap.size ≤ (_ ++ os).size
    simp [Go.Proofs.sortWorldK, putRowK, putRow, mapBlock, Go.Sort.ahead, grow]
  · have hk2 : k < w.heap.size := by omega
    simp [Go.Proofs.sortWorldK, putRowK, putRow, mapBlock, Go.Sort.ahead, grow, Array.getElem?_append, hk2, Array.getElem?_modify]
    rw [Array.getElem_modify, if_neg (by omega)]
theorem holds_rd {w : World} {g : Nat} {d : Array Sp} (h : HoldsK spC 2 w g 0 d) : RdL w 2 (some ⟨g, 0, none⟩) (d.toList.map spC) := by
  intro j c hc
  rw [List.getElem?_map, Option.map_eq_some_iff] at hc
  obtain ⟨x, hx, rfl⟩ := hc
  obtain ⟨hj, rfl⟩ := List.getElem?_eq_some_iff.1 hx
  have hj' : j < d.size := by simpa using hj
  refine ⟨g, 0, rfl, fun i v hv => ?_⟩
  have hi : i < 2 := by have := (List.getElem?_eq_some_iff.1 hv).1; simpa [spC] using this
  have h1 := (h (j * 2 + i) (by rw [size_flatK]; omega)).1
  rw [get_flatK _ _ _ _ (by omega), show (j * 2 + i) / 2 = j by omega, show (j * 2 + i) % 2 = i by omega] at h1
  rw [show 0 + j * 2 + i = 0 + (j * 2 + i) by omega, h1]
  have h2 : d[j]! = d.toList[j]'hj := by rw [getElem!_pos d j hj']; simp
  rw [h2]
  match i, hi, hv with
  | 0, _, hv => have : v = .int .i64 (d.toList[j]'hj).1 := by simpa [spC] using hv.symm
                rw [this]; rfl
  | 1, _, hv => have : v = .int .i64 (d.toList[j]'hj).2 := by simpa [spC] using hv.symm
                rw [this]; rfl
theorem row_holds {w : World} {g : Nat} {f : Nat → Int} {l : List Sp} (hf : RowIs w g f (l.length * 2)) (hfr : ∀ o, w.frozen? ⟨g, o, none⟩ = false) (hfl : ∀ t (h : t < l.length), f (t * 2) = (l[t]'h).1 ∧ f (t * 2 + 1) = (l[t]'h).2) : HoldsK spC 2 w g 0 l.toArray := by
  intro t ht
  rw [size_flatK] at ht
  have ht' : t < l.length * 2 := by simpa using ht
  refine ⟨?_, hfr _⟩
  rw [get_flatK _ _ _ _ (by simpa using ht), Nat.zero_add, hf t ht']
  obtain ⟨q, hq⟩ : ∃ q, t = q * 2 ∨ t = q * 2 + 1 := ⟨t / 2, by omega⟩
  rcases hq with rfl | rfl
  · have hj : q < l.length := by omega
    have h2 : (l.toArray)[q]! = l[q]'hj := by rw [getElem!_pos l.toArray q (by simpa using hj)]; simp
    rw [show q * 2 / 2 = q by omega, show q * 2 % 2 = 0 by omega, h2, (hfl q hj).1]
    rfl
  · have hj : q < l.length := by omega
    have h2 : (l.toArray)[q]! = l[q]'hj := by rw [getElem!_pos l.toArray q (by simpa using hj)]; simp
    rw [show (q * 2 + 1) / 2 = q by omega, show (q * 2 + 1) % 2 = 1 by omega, h2, (hfl q hj).2]
    rfl

theorem sorted_pair {d : Array Sp} (h : SortedIn (ltOf cmpS) 0 d.size d) : d.toList.Pairwise (fun a b => a.1 ≤ b.1) := by
  rw [List.pairwise_iff_getElem]
  intro i j hi hj hij
  have h1 := h i j (Nat.zero_le _) hij (by simpa using hj)
  rw [ltS, getElem!_pos d i (by simpa using hi), getElem!_pos d j (by simpa using hj)] at h1
  simp at h1
  simpa using h1

set_option maxHeartbeats 800000 in
theorem sort_any (d : List Sp) (f : Nat → Int) (g cap base : Nat) (w : World) (hbase : base ≤ g) (hbw : base ≤ w.heap.size) (hg : g < w.heap.size) (hf : RowIs w g f (d.length * 2)) (hfr : ∀ o, w.frozen? ⟨g, o, none⟩ = false)
    (hfl : ∀ t (h : t < d.length), f (t * 2) = (d[t]'h).1 ∧ f (t * 2 + 1) = (d[t]'h).2) (hn : d.length ≤ 4611686018427387903) :
    Calls Try.prog 23 #[.slice (some ⟨g, 0, none⟩) d.length cap, .func (.func 24) #[] #[]] w fun e w' =>
      e = .returned (.tuple #[]) ∧ ∃ d' : List Sp, d'.Perm d ∧ d'.Pairwise (fun a b => a.1 ≤ b.1) ∧ RdL w' 2 (some ⟨g, 0, none⟩) (d'.map spC) ∧ Below base w w' := by
  have eg : ∀ args w, (callFunc 24 args).run Try.prog w = .ok (.enter 24 args) w := enters_of Try.func24 (by kernel_rfl) rfl
  have hH := row_holds hf hfr hfl
  have hcon := Go.Proofs.AnyQ.slices_SortFunc Try.laysSort 2 Try.isAgg35 Try.sizeOf35 spC (fun _ => rfl) (fun x v hv => by simp [spC] at hv; rcases hv with rfl | rfl <;> rfl) cmpS swoS 24 #[] g 0 cap d.toArray w eg (cmpLaysS g 0 _ w) hH hg (by simp; omega)
  have hsz : d.toArray.size = d.length := by simp
  change Calls Try.prog 23 _ _ _ at hcon
  rw [hsz] at hcon
  refine hcon.mono ?_
  rintro e w' ⟨rfl, d', n, os, hp, hs, rfl⟩
  have hsize : d'.size = d.length := by rw [hp.1, hsz]
  have hperm : d'.toList.Perm d := by
    have := hp.2.2
    have e1 : (d'.extract 0 d.length).toList = d'.toList := by rw [← hsize]; simp
    have e2 : (d.toArray.extract 0 d.length).toList = d := by simp
    rw [e1, e2] at this
    exact this
  refine ⟨rfl, d'.toList, hperm, sorted_pair (by rw [hsize]; exact hs), ?_, below_sortWorld hbase hbw⟩
  have h1 : HoldsK spC 2 (putRowK spC 2 (Go.Sort.ahead w n) g 0 d') g 0 d' := holdsK_putRowK spC 2 (Go.Sort.ahead w n) g 0 d.toArray d' hH (by rw [hsize, hsz])
  have h2 := holds_rd h1
  have hb : Below (putRowK spC 2 (Go.Sort.ahead w n) g 0 d').heap.size (putRowK spC 2 (Go.Sort.ahead w n) g 0 d') (grow (putRowK spC 2 (Go.Sort.ahead w n) g 0 d') os) :=
    ⟨rfl, rfl, rfl, by simp [grow], fun k hk => by simp [grow, Array.getElem?_append, hk]⟩
  exact h2.below hb

set_option maxHeartbeats 400000 in
theorem clip_any (v : Value) (w : World) (n c : Nat) (a : Option Addr) (hv : v = .slice a n c) (hn : a = none → n = 0) (hc : n ≤ c) :
    Calls Try.prog 26 #[v] w fun e w' => e = .returned (.slice a n n) ∧ w' = w := by
  subst hv
  cases a with
  | none =>
    have hn0 := hn rfl
    subst hn0
    go_enter Try.func26, Try.ntmps26
    go_wp2_with fail
    go_ret
    exact ⟨rfl, rfl⟩
  | some a =>
    have h1 : (n : Int) ≤ (c : Int) := by omega
    have h2 : (0 : Int) ≤ (n : Int) := by omega
    go_enter Try.func26, Try.ntmps26
    go_wp2_with fail
    go_ret
    exact ⟨rfl, rfl⟩
end Go.Proofs.Ythdbbefiebolbaa
