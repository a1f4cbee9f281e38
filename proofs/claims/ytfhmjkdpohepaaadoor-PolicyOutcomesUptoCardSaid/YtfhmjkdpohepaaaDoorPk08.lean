import Derived.Test.YtfhmjkdpohepaaaDoorPk01
import Derived.OwnWalk
import Derived.Laws.OwnMore
/- A row that a call has made reads as a list. -/
set_option linter.unusedSimpArgs false
set_option linter.unusedVariables false
namespace Go.Proofs.YtfhmjkdpohepaaaDoor
open Go.RowKit

/-- a row of its own reads as a list -/
theorem own_rd {w : World} {base : Nat} {e : TypeId} {sz : Nat} {v : Value} {n : Nat} {xs : List Value} {css : List (List Value)} (h : w.ownsRow base e sz v n xs) (hx : xs = css.flatten) (hs : ∀ c ∈ css, c.length = sz) (hn : css.length = n) :
    ∃ A c, v = .slice A n c ∧ RdL w sz A css := by
  obtain ⟨hl, h⟩ := h
  rcases h with ⟨rfl, rfl⟩ | ⟨g, cap, cur, rfl, hb, hg, h1, h2, h3, h4⟩
  · refine ⟨none, 0, rfl, ?_⟩
    obtain rfl : css = [] := List.length_eq_zero_iff.1 hn
    exact RdL.nil_ _ _ _
  · refine ⟨some ⟨g, 0, none⟩, cap, rfl, fun j c hj => ⟨g, 0, rfl, fun i u hu => ?_⟩⟩
    have hjl := (List.getElem?_eq_some_iff.1 hj).1
    have hc : c ∈ css := List.mem_of_getElem? hj
    have hil := (List.getElem?_eq_some_iff.1 hu).1
    have hcl := hs c hc
    have key : ∀ (l : List (List Value)) (j : Nat), (∀ c ∈ l, c.length = sz) → l[j]? = some c → l.flatten[j * sz + i]? = c[i]? := by
      intro l
      induction l with
      | nil => intro j _ h; simp at h
      | cons d r ih =>
        intro j hs' hj'
        cases j with
        | zero =>
          obtain rfl : d = c := by simpa using hj'
          simp only [List.flatten_cons, Nat.zero_mul, Nat.zero_add]
          exact List.getElem?_append_left hil
        | succ j =>
          have hd : d.length = sz := hs' d (by simp)
          simp only [List.flatten_cons]
          rw [List.getElem?_append_right (by rw [hd, Nat.succ_mul]; omega)]
          rw [show (j + 1) * sz + i - d.length = j * sz + i by rw [hd, Nat.succ_mul]; omega]
          exact ih j (fun c hc => hs' c (List.mem_cons_of_mem _ hc)) (by simpa using hj')
    have h5 := key css j hs hj
    rw [← hx, hu] at h5
    rw [← h4] at h5
    have h6 : cur.toList[j * sz + i]? = some u := by
      rw [List.getElem?_take] at h5
      split at h5
      · exact h5
      · cases h5
    rw [show (0 + j * sz + i) = j * sz + i by omega, cell_of_block hg]
    rw [← Array.getElem?_toList]
    exact h6

end Go.Proofs.YtfhmjkdpohepaaaDoor

/- soffitlaw17.all, walked. -/
set_option linter.unusedSimpArgs false
set_option linter.unusedVariables false
namespace Go.Proofs.YtfhmjkdpohepaaaDoor
open Go.RowKit

/-- rising numbers below n -/
structure Rise (n : Nat) (fs : List Int) : Prop where
  lo : ∀ x ∈ fs, 0 ≤ x
  hi : ∀ x ∈ fs, x < n
  up : ∀ i (h : i + 1 < fs.length), fs[i]'(by omega) < fs[i + 1]'h
theorem Rise.nil (n : Nat) : Rise n [] := ⟨by simp, by simp, fun i h => by simp at h⟩
theorem Rise.more {n : Nat} {fs : List Int} {j : Nat} (h : Rise n fs) (hj : j < n) (hb : ∀ x ∈ fs, x < j) : Rise n (fs ++ [(j : Int)]) := by
  refine ⟨?_, ?_, ?_⟩
  · intro x hx
    rcases List.mem_append.1 hx with hx | hx
    · exact h.lo x hx
    · have : x = j := by simpa using hx
      omega
  · intro x hx
    rcases List.mem_append.1 hx with hx | hx
    · exact h.hi x hx
    · have : x = j := by simpa using hx
      omega
  · intro i hi
    have hl : i + 1 < fs.length + 1 := by simpa using hi
    by_cases h1 : i + 1 < fs.length
    · rw [List.getElem_append_left (by omega), List.getElem_append_left h1]
      exact h.up i h1
    · have h2 : i + 1 = fs.length := by omega
      rw [List.getElem_append_left (show i < fs.length by omega), List.getElem_append_right (by omega)]
      simpa [h2] using hb _ (List.getElem_mem (show i < fs.length by omega))
theorem flat_intC : ∀ fs : List Int, (fs.map intC).flatten = fs.map (Value.int .i64)
  | [] => rfl
  | x :: r => by rw [List.map_cons, List.flatten_cons, flat_intC r]; rfl

set_option maxRecDepth 100000 in
set_option maxHeartbeats 1600000 in
theorem pall_any (n : Nat) (m : Int) (w : World) (hn : n ≤ 9223372036854775807) :
    Calls Tryd.prog 14 #[.int .i64 n, .int .u16 m] w fun e w' =>
      ∃ (fs : List Int) (F : Option Addr) (cap : Nat), e = .returned (.slice F fs.length cap) ∧ RdL w' 1 F (fs.map intC) ∧ Rise n fs ∧ fs.length ≤ 16 ∧ Below w.heap.size w w' := by
  obtain ⟨i0, hi, hz0, hz1, hz2⟩ := info_parts (show (Tryd.prog.info? 3).map (fun i => (i.zero, i.size, i.bytes)) = some (some (.int .i64 0), 1, 8) by kernel_rfl)
  go_enter Tryd.func14, Tryd.ntmps14
  go_wp2_with fail
  go_loopg [5, 6] 16 (fun k ov iv wr => ∃ (j : Nat) (fs : List Int), j ≤ 16 ∧ 16 - j ≤ k ∧ iv = .int .i64 j ∧ wr.ownsRow w.heap.size 3 1 ov fs.length (fs.map (Value.int .i64)) ∧ Rise n fs ∧ (∀ x ∈ fs, x < j) ∧ fs.length ≤ j ∧ Below w.heap.size w wr)
  case atStart => exact ⟨0, [], by omega, by omega, rfl, ⟨rfl, Or.inr ⟨w.heap.size, 0, #[], rfl, Nat.le_refl _, (MapKept.heap_alloc w _).1, Nat.le_refl _, Nat.zero_le _, rfl, rfl⟩⟩, Rise.nil n, by simp, by simp, bel⟩
  case round =>
    obtain ⟨j, fs, hj, hjk, rfl, hown, hrise, hlt, hlen, hbel⟩ := hrel
    have hsz := hbel.size
    by_cases h1 : (j : Int) < n
    · by_cases h2 : (j : Int) < 16
      · go_wp2_with (first
          | (at_builtin; refine wpList_append_own _ rfl _ _ 27 rfl w.heap.size 3 i0 (.int .i64 0) 1 8 Tryd.underlying27 hi hz0 hz1 hz2 rfl (by decide) _ _ _ rfl (hown.alloc _) ⟨wr.heap.size, 0, none⟩ 1 1 [.int .i64 (j : Int)] rfl rfl ?c1 ?c2 ?c3 ?c4 ?c5 ?_)
          | fail)
        case c1 =>
          intro i u hu
          match i, hu with
          | 0, hu => simp at hu; subst hu; simp [Addr.add]
        case c2 => intro u hu; simp at hu; subst hu; rfl
        case c3 => unfold maxLen; omega
        case c4 => omega
        case c5 => simp; omega
        · intro v' w1 hown' hgrow _
          have hb1 : Below w.heap.size w w1 := (hbel.alloc hsz _).grown hgrow (by simp; omega) (fun g hg => (hown.lt g hg).1)
          have hown2 : w1.ownsRow w.heap.size 3 1 v' (fs ++ [(j : Int)]).length ((fs ++ [(j : Int)]).map (Value.int .i64)) := by simpa using hown'
          clear hown' hgrow hown
          go_wp2_with fail
          go_roundg (gk - 1)
          case measure => omega
          case rel => exact ⟨j + 1, fs ++ [(j : Int)], by omega, by omega, by go_num, hown2, hrise.more (by omega) hlt, (by
            intro x hx
            rcases List.mem_append.1 hx with hx | hx
            · have := hlt x hx; omega
            · have : x = j := by simpa using hx
              omega), by simp; omega, hb1⟩
        · go_roundg (gk - 1)
          case measure => omega
          case rel => exact ⟨j + 1, fs, by omega, by omega, by go_num, hown, hrise, fun x hx => (by have := hlt x hx; omega), by omega, hbel⟩
      · obtain ⟨F, c, rfl, hrd⟩ := own_rd (css := fs.map intC) hown (flat_intC fs).symm (by intro c hc; obtain ⟨x, _, rfl⟩ := List.mem_map.1 hc; rfl) (by simp)
        go_wp2_with fail
        go_ret
        exact ⟨fs, F, ⟨c, rfl⟩, hrd, hrise, by omega, hbel⟩
    · obtain ⟨F, c, rfl, hrd⟩ := own_rd (css := fs.map intC) hown (flat_intC fs).symm (by intro c hc; obtain ⟨x, _, rfl⟩ := List.mem_map.1 hc; rfl) (by simp)
      go_wp2_with fail
      go_ret
      exact ⟨fs, F, ⟨c, rfl⟩, hrd, hrise, by omega, hbel⟩
end Go.Proofs.YtfhmjkdpohepaaaDoor
