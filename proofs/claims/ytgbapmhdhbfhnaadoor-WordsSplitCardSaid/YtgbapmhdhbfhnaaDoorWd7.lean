/- The texts that the laws of layer 14 ask for, walked. -/
import Derived.Test.YtgbapmhdhbfhnaaDoorWd6
import Derived.Test.YtgbapmhdhbfhnaaDoorOwn2
set_option linter.unusedSimpArgs false
set_option linter.unusedVariables false
namespace Go.Proofs.YtgbapmhdhbfhnaaDoor
open Go.RowKit Go.Sort Go.Lib

/-- a row of its own reads as a list -/
theorem own_rd {w : World} {base : Nat} {e : TypeId} {sz : Nat} {v : Value} {n : Nat} {xs : List Value} {css : List (List Value)} (h : w.ownsRow base e sz v n xs) (hx : xs = css.flatten) (hs : ∀ c ∈ css, c.length = sz) (hn : css.length = n) :
    ∃ A c, v = .slice A n c ∧ RdL w sz A css := by
  obtain ⟨hl, h⟩ := h
  rcases h with ⟨rfl, rfl⟩ | ⟨g, cap, cur, rfl, hb, hg, h1, h2, h3, h4⟩
  · refine ⟨none, 0, rfl, ?_⟩
    obtain rfl : css = [] := List.length_eq_zero_iff.1 hn
    exact RdL.nil_ _ _ _
  · refine ⟨some ⟨g, 0, none⟩, cap, rfl, fun j c hj => ⟨g, 0, rfl, fun i u hu => ?_⟩⟩
    have hjl := (List.getElem?_eq_some_iff.1 hj).1
    have hc : c ∈ css := List.mem_of_getElem? hj
    have hil := (List.getElem?_eq_some_iff.1 hu).1
    have hcl := hs c hc
    have key : ∀ (l : List (List Value)) (j : Nat), (∀ c ∈ l, c.length = sz) → l[j]? = some c → l.flatten[j * sz + i]? = c[i]? := by
      intro l
      induction l with
      | nil => intro j _ h; simp at h
      | cons d r ih =>
        intro j hs' hj'
        cases j with
        | zero =>
          obtain rfl : d = c := by simpa using hj'
          simp only [List.flatten_cons, Nat.zero_mul, Nat.zero_add]
          exact List.getElem?_append_left hil
        | succ j =>
          have hd : d.length = sz := hs' d (by simp)
          simp only [List.flatten_cons]
          rw [List.getElem?_append_right (by rw [hd, Nat.succ_mul]; omega)]
          rw [show (j + 1) * sz + i - d.length = j * sz + i by rw [hd, Nat.succ_mul]; omega]
          exact ih j (fun c hc => hs' c (List.mem_cons_of_mem _ hc)) (by simpa using hj')
    have h5 := key css j hs hj
    rw [← hx, hu] at h5
    rw [← h4] at h5
    have h6 : cur.toList[j * sz + i]? = some u := by
      rw [List.getElem?_take] at h5
      split at h5
      · exact h5
      · cases h5
    rw [show (0 + j * sz + i) = j * sz + i by omega, cell_of_block hg]
    rw [← Array.getElem?_toList]
    exact h6
theorem flat_tC : ∀ l : List Tx, (l.map tC).flatten = l.map encStr
  | [] => rfl
  | x :: r => by rw [List.map_cons, List.flatten_cons, flat_tC r]; rfl
theorem own_rdT {w : World} {base : Nat} {v : Value} {l : List Tx} (h : w.ownsRow base 9 1 v l.length (l.map encStr)) : ∃ A c, v = .slice A l.length c ∧ RdL w 1 A (l.map tC) :=
  own_rd h (flat_tC l).symm (fun c hc => by obtain ⟨t, _, rfl⟩ := List.mem_map.1 hc; rfl) (by simp)

set_option maxRecDepth 100000 in
set_option maxHeartbeats 3200000 in
theorem asks_any (s : Tx) (A B : Option Addr) (a b : List Tx) (ca cb : Nat) (w : World) (hA : RdL w 1 A (a.map tC)) (hB : RdL w 1 B (b.map tC)) (hs : s.length ≤ 9223372036854775807) (ha : ∀ t ∈ a, t.length ≤ 9223372036854775807) (hb : ∀ t ∈ b, t.length ≤ 9223372036854775807) (han : a.length ≤ 9223372036854775807) (hbn : b.length ≤ 9223372036854775807) :
    Calls Tryd.prog 12 #[encStr s, .slice A a.length ca, .slice B b.length cb] w fun e w' =>
      ∃ (ms : List Tx) (N : Option Addr) (cn : Nat), e = .returned (.slice N ms.length cn) ∧ RdL w' 1 N (ms.map tC) ∧ ms.length ≤ 46 ∧ (∀ t ∈ ms, t.length ≤ 9223372036854775807) ∧ Below w.heap.size w w' := by
  obtain ⟨i0, hinf, hza, hzb, hzc⟩ := info_parts (show (Tryd.prog.info? 9).map (fun i => (i.zero, i.size, i.bytes)) = some (some (.string ⟨#[]⟩), 1, 16) by kernel_rfl)
  have HA := Lib.hid hA
  have HB := Lib.hid hB
  have HLA := Lib.hid ha
  have HLB := Lib.hid hb
  clear hA hB ha hb
  have h0 : ∀ t ∈ ([s, [], [97], [120], [0], [255]] : List Tx), t.length ≤ 9223372036854775807 := by
    intro t ht
    simp at ht
    rcases ht with rfl | rfl | rfl | rfl | rfl | rfl
    · exact hs
    all_goals decide
  have H0 := Lib.hid h0
  clear h0
  go_enter Tryd.func12, Tryd.ntmps12
  go_wp2_with fail
  go_loopg [7, 8] 20 (fun k ov iv wr => ∃ (j : Nat) (ms : List Tx), j ≤ 20 ∧ 20 - j ≤ k ∧ iv = .int .i64 j ∧ wr.ownsRow w.heap.size 9 1 ov ms.length (ms.map encStr) ∧ ms.length ≤ 6 + j ∧ Hid (∀ t ∈ ms, t.length ≤ 9223372036854775807) ∧ Below w.heap.size w wr)
  case atStart => exact ⟨0, [s, [], [97], [120], [0], [255]], by omega, by omega, rfl, ⟨rfl, Or.inr ⟨w.heap.size, 6, #[encStr s, encStr [], encStr [97], encStr [120], encStr [0], encStr [255]], rfl, Nat.le_refl _, (MapKept.heap_alloc w _).1, Nat.le_refl _, by unfold maxLen; omega, rfl, rfl⟩⟩, by simp, H0, (by repeat' (first | (with_reducible exact Below.refl _ _) | (with_reducible assumption) | (with_reducible refine Below.drew ?_) | (with_reducible refine below_drewN ?_ _) | (with_reducible refine below_iterAt ?_ ?_ _ _) | (with_reducible refine below_iter ?_ ?_ _ _) | (with_reducible refine Below.alloc ?_ ?_ _) | (with_reducible refine Below.setCell ?_ ?_ _) | (with_reducible refine Below.trans ?_ (Below.mono (by assumption) ?_)) | (simp only [sz_alloc, sz_set, sz_drew, sz_drewN, sz_iterAt, sz_iter] at *; omega) | omega | (simp; done) | (simp; omega) | (apply Below.size; assumption) | (simp only [sz_drew, sz_drewN]; apply Below.size; assumption) | (refine Nat.le_trans ?_ (Below.size (by assumption)))))⟩
  case round =>
    obtain ⟨j, ms, hj, hjk, rfl, hown, hlen, HM, hbel⟩ := hrel
    have hsz := hbel.size
    rcases (show (j < a.length ∧ j < 20) ∨ (¬ j < a.length) ∨ (j < a.length ∧ ¬ j < 20) by omega) with ⟨hja, hj20⟩ | hc
    · have h4 : (j : Int) < (a.length : Int) := by omega
      have h5 : (j : Int) < 20 := by omega
      have h6 : (0 : Int) ≤ (j : Int) := by omega
      obtain ⟨b0, off, hbA, hxA⟩ := (HA.out.below hbel).at_ hja
      subst hbA
      have hxl := HLA.out _ (List.getElem_mem hja)
      have g0 : wr.cell? ⟨b0, off + j, none⟩ = some (encStr (a[j]'hja)) := by have := hxA.get 0 (v := encStr (a[j]'hja)) rfl; simpa using this
      clear hxA
      generalize a[j]'hja = x at *
      go_wp2_with (first
        | (at_builtin; refine wpList_append_own _ rfl _ _ 22 rfl w.heap.size 9 i0 (.string ⟨#[]⟩) 1 16 Tryd.underlying22 hinf hza hzb hzc rfl (by decide) _ _ _ rfl (hown.alloc _) ⟨wr.heap.size, 0, none⟩ 1 1 [encStr x] rfl rfl ?c1_1 ?c2_1 ?c3_1 ?c4_1 ?c5_1 ?_)
        | fail)
      try case c1_1 =>
        intro i u hu
        match i, hu with
        | 0, hu => simp at hu; subst hu; simp [Addr.add]
      case c2_1 => first | exact ⟨rfl, rfl⟩ | (intro u hu; simp at hu; subst hu; rfl)
      case c3_1 => unfold maxLen; (try simp); omega
      case c4_1 => (try simp); omega
      case c5_1 => (try simp); omega
      intro v1 w1 hown1 hg1 _
      have b1 : Below w.heap.size w w1 := (hbel.alloc hsz _).grown hg1 (by simp; omega) (fun g hg => (hown.lt g hg).1)
      have o1 : w1.ownsRow w.heap.size 9 1 v1 (ms ++ [x]).length ((ms ++ [x]).map encStr) := by simpa using hown1
      have HM1 : Hid (∀ t ∈ ms ++ [x], t.length ≤ 9223372036854775807) := Lib.hid (by
        intro t ht
        rcases List.mem_append.1 ht with ht | ht
        · exact HM.out t ht
        · rw [List.mem_singleton.1 ht]; exact hxl)
      clear hown1 hg1 hown
      go_wp2_with fail
      go_roundg (20 - (j + 1))
      case measure => omega
      case rel => exact ⟨j + 1, ms ++ [x], by omega, by omega, by go_num, o1, by simp; omega, HM1, b1⟩
    · have hx : ∀ (p : Prop), (¬ j < a.length → p) → ((j < a.length ∧ ¬ j < 20) → p) → p := fun p h1 h2 => hc.elim h1 h2
      rcases hc with hja | ⟨hja, hj20⟩
      all_goals
        clear hx
        first
          | (have h4 : ¬ (j : Int) < (a.length : Int) := (by omega); have h5 := h4; clear hj20)
          | (have h4 : ¬ (j : Int) < (a.length : Int) := (by omega); have h5 := h4)
          | (have h4 : (j : Int) < (a.length : Int) := (by omega); have h5 : ¬ (j : Int) < 20 := (by omega))
        clear hja
        go_wp2_with fail
        go_loopg [7, 9] 20 (fun k ov iv wq => ∃ (j : Nat) (ms : List Tx), j ≤ 20 ∧ 20 - j ≤ k ∧ iv = .int .i64 j ∧ wq.ownsRow w.heap.size 9 1 ov ms.length (ms.map encStr) ∧ ms.length ≤ 26 + j ∧ Hid (∀ t ∈ ms, t.length ≤ 9223372036854775807) ∧ Below w.heap.size w wq)
        case atStart => exact ⟨0, ms, by omega, by omega, rfl, hown, by omega, HM, hbel⟩
        case round =>
          clear hown hlen HM hsz hbel h4 h5 hj hjk
          obtain ⟨j, ms, hj, hjk, rfl, hownq, hlen, HM, hbq⟩ := hrel
          have hsq := hbq.size
          rcases (show (j < b.length ∧ j < 20) ∨ (¬ j < b.length) ∨ (j < b.length ∧ ¬ j < 20) by omega) with ⟨hja, hj20⟩ | hc
          · have h4 : (j : Int) < (b.length : Int) := by omega
            have h5 : (j : Int) < 20 := by omega
            have h6 : (0 : Int) ≤ (j : Int) := by omega
            obtain ⟨b0, off, hbB, hxB⟩ := (HB.out.below hbq).at_ hja
            subst hbB
            have hxl := HLB.out _ (List.getElem_mem hja)
            have g0 : wr.cell? ⟨b0, off + j, none⟩ = some (encStr (b[j]'hja)) := by have := hxB.get 0 (v := encStr (b[j]'hja)) rfl; simpa using this
            clear hxB
            generalize b[j]'hja = x at *
            go_wp2_with (first
              | (at_builtin; refine wpList_append_own _ rfl _ _ 22 rfl w.heap.size 9 i0 (.string ⟨#[]⟩) 1 16 Tryd.underlying22 hinf hza hzb hzc rfl (by decide) _ _ _ rfl (hownq.alloc _) ⟨wr.heap.size, 0, none⟩ 1 1 [encStr x] rfl rfl ?c1_2 ?c2_2 ?c3_2 ?c4_2 ?c5_2 ?_)
              | fail)
            try case c1_2 =>
              intro i u hu
              match i, hu with
              | 0, hu => simp at hu; subst hu; simp [Addr.add]
            case c2_2 => first | exact ⟨rfl, rfl⟩ | (intro u hu; simp at hu; subst hu; rfl)
            case c3_2 => unfold maxLen; (try simp); omega
            case c4_2 => (try simp); omega
            case c5_2 => (try simp); omega
            intro v1 w1 hownq1 hg1 _
            have b1 : Below w.heap.size w w1 := (hbq.alloc hsq _).grown hg1 (by simp; omega) (fun g hg => (hownq.lt g hg).1)
            have o1 : w1.ownsRow w.heap.size 9 1 v1 (ms ++ [x]).length ((ms ++ [x]).map encStr) := by simpa using hownq1
            have HM1 : Hid (∀ t ∈ ms ++ [x], t.length ≤ 9223372036854775807) := Lib.hid (by
              intro t ht
              rcases List.mem_append.1 ht with ht | ht
              · exact HM.out t ht
              · rw [List.mem_singleton.1 ht]; exact hxl)
            clear hownq1 hg1 hownq
            go_wp2_with fail
            go_roundg (20 - (j + 1))
            case measure => omega
            case rel => exact ⟨j + 1, ms ++ [x], by omega, by omega, by go_num, o1, by simp; omega, HM1, b1⟩

          · obtain ⟨N, cn, rfl, hrd⟩ := own_rdT hownq
            have HRD := Lib.hid hrd
            clear hrd hownq
            rcases hc with hja | ⟨hja, hj20⟩
            · have h4 : ¬ (j : Int) < (b.length : Int) := by omega
              go_wp2_with fail
              go_ret
              exact ⟨ms, N, ⟨cn, rfl⟩, HRD.out, by omega, HM.out, hbq⟩
            · have h4 : (j : Int) < (b.length : Int) := by omega
              have h5 : ¬ (j : Int) < 20 := by omega
              go_wp2_with fail
              go_ret
              exact ⟨ms, N, ⟨cn, rfl⟩, HRD.out, by omega, HM.out, hbq⟩
end Go.Proofs.YtgbapmhdhbfhnaaDoor
