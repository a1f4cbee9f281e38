/- graph.Order, walked. -/
import Derived.Test.YthmmfghcfgbblaaGr5
set_option linter.unusedSimpArgs false
set_option linter.unusedVariables false
namespace Go.Proofs.Ythmmfghcfgbblaa
open Go.RowKit Go.Sort Go.Lib

theorem alloc_old2 {w : World} {k : Nat} (o : Obj) (h : k < w.heap.size) : (w.alloc o).heap[k]? = w.heap[k]? := by
  simp only [World.alloc, Array.getElem?_push, if_neg (Nat.ne_of_lt h)]
theorem len_subN : ∀ (a b : List Nat), a.Nodup → (∀ x ∈ a, x ∈ b) → a.length ≤ b.length
  | [], _, _, _ => Nat.zero_le _
  | x :: r, b, h, hs => by
    obtain ⟨h1, h2⟩ := List.nodup_cons.1 h
    have hx := hs x (by simp)
    have := len_subN r (b.erase x) h2 (fun y hy => (List.mem_erase_of_ne (fun e => h1 (by rw [← e]; exact hy))).2 (hs y (List.mem_cons_of_mem _ hy)))
    rw [List.length_erase_of_mem hx] at this
    have := List.length_pos_of_mem hx
    simp; omega
theorem some_left {o : List Nat} {N : Nat} (h : o.length < N) : ∃ i, i < N ∧ i ∉ o := by
  refine Classical.byContradiction fun hn => ?_
  have := len_subN (List.range N) o List.nodup_range (fun x hx => Classical.byContradiction fun h2 => hn ⟨x, List.mem_range.1 hx, h2⟩)
  simp at this
  omega
theorem check0 {ns : List Tx} {nd : List (List Tx)} {n : Int} (h : CheckIs ns nd n 0) : ns.length = nd.length ∧ ns.length ≤ 4096 ∧ n = 0 ∧ ∀ l ∈ nd, ∀ s ∈ l, s ∈ ns := by
  rcases h with ⟨_, _, h⟩ | ⟨hb, ⟨_, _, _, _, _, h⟩ | ⟨_, ⟨_, _, _, _, _, h⟩ | ⟨hm, hn, _⟩⟩⟩
  · omega
  · omega
  · omega
  · refine ⟨by omega, by omega, hn, fun l hl s hs => Classical.byContradiction fun h2 => ?_⟩
    obtain ⟨j, hj, rfl⟩ := List.getElem_of_mem hl
    exact hm j hj ⟨_, List.getElem?_eq_getElem hj, s, hs, h2⟩
theorem edges_lt {ns : List Tx} {nd : List (List Tx)} (h : ∀ l ∈ nd, ∀ s ∈ l, s ∈ ns) {i : Nat} (hi : i < (edgesL ns nd).length) : ∀ k ∈ (edgesL ns nd)[i]'hi, k < ns.length := by
  intro k hk
  unfold edgesL at hk hi
  simp at hk hi
  obtain ⟨s, hs, rfl⟩ := hk
  exact List.idxOf_lt_length_iff.2 (h _ (List.getElem_mem hi) s hs)
theorem edges_len (ns : List Tx) (nd : List (List Tx)) : (edgesL ns nd).length = nd.length := by simp [edgesL]
theorem edges_row {ns : List Tx} {nd : List (List Tx)} {i : Nat} (hi : i < (edgesL ns nd).length) : ∃ l ∈ nd, ((edgesL ns nd)[i]'hi).length = l.length := by
  unfold edgesL at hi ⊢
  simp at hi
  exact ⟨_, List.getElem_mem hi, by simp⟩
theorem DoneG.same {w w' : World} {p q N : Nat} {o : List Nat} (h : DoneG w p q N o) (hp : w'.heap[p]? = w.heap[p]?) (hq : w'.heap[q]? = w.heap[q]?) : DoneG w' p q N o :=
  ⟨(World.cell?_of_block (a := ⟨p, 0, none⟩) hp).trans h.box, fun i hi => (World.cell?_of_block (a := ⟨q, i, none⟩) hq).trans (h.flag i hi), fun i => (World.frozen?_of_block (a := ⟨q, i, none⟩) hq).trans (h.free i)⟩
theorem DoneG.mark {w : World} {p q N i : Nat} {o : List Nat} (h : DoneG w p q N o) (hpq : p ≠ q) (hi : i < N) : DoneG (w.setCell ⟨q, i, none⟩ (.bool true)) p q N (o ++ [i]) := by
  refine ⟨?_, fun j hj => ?_, fun j => by rw [frozen_setCell]; exact h.free j⟩
  · rw [World.cell?_setCell_other _ _ _ _ (by intro hh; injection hh with h1 _; omega)]
    exact h.box
  · by_cases e : j = i
    · subst e
      rw [World.cell?_setCell_same _ _ _ (h.flag j hj)]
      simp
    · rw [World.cell?_setCell_other _ _ _ _ (by intro hh; injection hh with _ h2; omega), h.flag j hj]
      congr 2
      rw [Bool.eq_iff_iff]
      simp [e]
theorem ready_iff {E : List (List Nat)} {o : List Nat} {i : Nat} (hi : i < E.length) : Ready E o i ↔ (o.contains i = false ∧ ((E[i]'hi).any fun k => !o.contains k) = false) := by
  unfold Ready
  constructor
  · rintro ⟨_, h1, h2⟩
    refine ⟨by cases h : o.contains i; rfl; exact absurd (List.contains_iff_mem.1 h) h1, ?_⟩
    rw [List.any_eq_false]
    intro k hk
    rw [(List.contains_iff_mem).2 (h2 _ (List.getElem?_eq_getElem hi) k hk)]
    simp
  · rintro ⟨h1, h2⟩
    refine ⟨hi, fun h => (by rw [(List.contains_iff_mem).2 h] at h1; cases h1), fun l hl k hk => ?_⟩
    rw [List.getElem?_eq_getElem hi] at hl
    cases hl
    rw [List.any_eq_false] at h2
    have := h2 k hk
    exact List.contains_iff_mem.1 (by simpa using this)

set_option maxRecDepth 100000 in
set_option maxHeartbeats 3200000 in
theorem order_any (A D : Option Addr) (ns : List Tx) (xs : List TxAt) (c cd : Nat) (w : World) (hA : RdL w 1 A (ns.map tC)) (hD : RdL w 1 D (xs.map TxAt.cells)) (hx : ∀ x ∈ xs, x.ok w) (hn : ns.length ≤ 9223372036854775807) (hm : xs.length ≤ 9223372036854775807) (hs : ∀ s ∈ ns, s.length ≤ 9223372036854775807) (hxl : ∀ x ∈ xs, x.l.length ≤ 4096) :
    Calls Try.prog 9 #[.slice A ns.length c, .slice D xs.length cd] w fun e w' => ∃ v n r l, e = .returned (.tuple #[v, .int .i64 n, .int .i64 r]) ∧ OrderIs ns (xs.map TxAt.l) l n r ∧ (∃ B cb, v = .slice B l.length cb ∧ RdL w' 1 B (l.map iC)) ∧ l.length ≤ 4096 ∧ Below w.heap.size w w' := by
  have he := edges_any A D ns xs c cd w hA hD hx hn hm hs hxl
  have HE := Lib.hid he
  have HXL := Lib.hid hxl
  clear he hA hD hx hs hxl
  go_enter Try.func9, Try.ntmps9
  go_wp2_with fail
  refine HE.out.mono ?_
  rintro e w1 ⟨v, n0, e0, rfl, hC, hv0, hv1, hb1⟩
  clear HE
  by_cases hz : e0 = 0
  · subst hz
    obtain ⟨G, rfl, hR⟩ := hv1 rfl
    clear hv0 hv1
    obtain ⟨hlen, h4, rfl, hall⟩ := check0 hC
    obtain ⟨E, hE⟩ : ∃ E, edgesL ns (xs.map TxAt.l) = E := ⟨_, rfl⟩
    have hEl : E.length = ns.length := by rw [← hE, edges_len]; exact hlen.symm
    have hElt : ∀ i (hi : i < E.length), ∀ k ∈ E[i]'hi, k < ns.length := by
      subst hE
      exact fun i hi => edges_lt hall hi
    have hErl : ∀ i (hi : i < E.length), (E[i]'hi).length ≤ 4096 := by
      subst hE
      intro i hi
      obtain ⟨l, hl, e⟩ := edges_row hi
      obtain ⟨x, hx, rfl⟩ := List.mem_map.1 hl
      rw [e]; exact HXL.out x hx
    rw [hE] at hR
    have HC := Lib.hid hC
    have HEE := Lib.hid hE
    have HEL := Lib.hid hEl
    have HLT := Lib.hid hElt
    have HRL := Lib.hid hErl
    obtain ⟨N, hN⟩ : ∃ N, ns.length = N := ⟨_, rfl⟩
    have HN := Lib.hid hN
    rw [hN] at h4 ⊢
    obtain ⟨i0, hinf, hz0, hsz0, hby0⟩ := info_parts (show (Try.prog.info? 4).map (fun i => (i.zero, i.size, i.bytes)) = some (some (.bool false), 1, 1) by kernel_rfl)
    obtain ⟨j0, jinf, jz, jsz, jby⟩ := info_parts (show (Try.prog.info? 3).map (fun i => (i.zero, i.size, i.bytes)) = some (some (.int .i64 0), 1, 8) by kernel_rfl)
    have hms : (Instr.makeSlice 38 (.int .i64 (N : Int)) (.int .i64 (N : Int))).run Try.prog w1 = .ok (.slice (some ⟨w1.heap.size, 0, none⟩) N N) (w1.alloc (.cells (madeCells #[.bool false] N) 4)) := by
      have h := run_make (P := Try.prog) w1 38 4 i0 (.bool false) Try.underlying38 hinf hz0 .i64 .i64 N N (by omega) (Int.le_refl _) (by rw [hby0]; omega) (by omega)
      simpa [hsz0, Value.cells] using h
    have HR := Lib.hid hR
    clear hC hE hEl hElt hErl hlen hall hN hR
    go_wp2_with fail
    clear hms
    have hbz1 : Below w1.heap.size w1 ((w1.alloc (.cells (madeCells #[.bool false] N) 4)).alloc (.cells #[.slice (some ⟨w1.heap.size, 0, none⟩) N N] 38)) := (by repeat' (first | (with_reducible exact Below.refl _ _) | (with_reducible assumption) | (with_reducible refine Below.drew ?_) | (with_reducible refine below_drewN ?_ _) | (with_reducible refine below_iterAt ?_ ?_ _ _) | (with_reducible refine below_iter ?_ ?_ _ _) | (with_reducible refine Below.alloc ?_ ?_ _) | (with_reducible refine Below.setCell ?_ ?_ _) | (with_reducible refine Below.trans ?_ (Below.mono (by assumption) ?_)) | (simp only [sz_alloc, sz_set, sz_drew, sz_drewN, sz_iterAt, sz_iter] at *; omega) | omega | (simp; done) | (simp; omega) | (apply Below.size; assumption) | (simp only [sz_drew, sz_drewN]; apply Below.size; assumption) | (refine Nat.le_trans ?_ (Below.size (by assumption)))))
    have hDz : DoneG ((w1.alloc (.cells (madeCells #[.bool false] N) 4)).alloc (.cells #[.slice (some ⟨w1.heap.size, 0, none⟩) N N] 38)) (w1.heap.size + 1) w1.heap.size N [] := by
      have hq : ((w1.alloc (.cells (madeCells #[.bool false] N) 4)).alloc (.cells #[.slice (some ⟨w1.heap.size, 0, none⟩) N N] 38)).heap[w1.heap.size]? = some (.cells (madeCells #[.bool false] N) 4) :=
        (alloc_old2 _ (by simp)).trans (heap_alloc_new w1 _)
      have hp : ((w1.alloc (.cells (madeCells #[.bool false] N) 4)).alloc (.cells #[.slice (some ⟨w1.heap.size, 0, none⟩) N N] 38)).heap[w1.heap.size + 1]? = some (.cells #[.slice (some ⟨w1.heap.size, 0, none⟩) N N] 38) := by
        have := heap_alloc_new (w1.alloc (.cells (madeCells #[.bool false] N) 4)) (.cells #[.slice (some ⟨w1.heap.size, 0, none⟩) N N] 38)
        rw [show (w1.alloc (.cells (madeCells #[.bool false] N) 4)).heap.size = w1.heap.size + 1 by simp] at this
        exact this
      refine ⟨by rw [cell_of_block hp]; rfl, fun i hi => by rw [cell_of_block hq, made_at _ _ _ hi]; rfl, fun i => by simp only [World.frozen?, hq]; simp⟩
    have hszz : ((w1.alloc (.cells (madeCells #[.bool false] N) 4)).alloc (.cells #[.slice (some ⟨w1.heap.size, 0, none⟩) N N] 38)).heap.size = w1.heap.size + 1 + 1 := by simp
    generalize (w1.alloc (.cells (madeCells #[.bool false] N) 4)).alloc (.cells #[.slice (some ⟨w1.heap.size, 0, none⟩) N N] 38) = wz at *
    have hRz := HR.out.below hbz1
    have hlz : w1.heap.size + 1 < wz.heap.size := by omega
    have hbwz : Below w.heap.size w wz := hb1.trans (hbz1.mono hb1.size)
    have hww : w.heap.size ≤ w1.heap.size := hb1.size
    have HRZ := Lib.hid hRz
    have HDZ := Lib.hid hDz
    clear hszz hRz hDz HR hbz1 hb1
    go_loopg [11, 31] N (fun k ov iv wr => ∃ o : List Nat, o.length ≤ N ∧ N - o.length ≤ k ∧ iv = .int .i64 (o.length : Nat) ∧ Hid (OrdRun E o) ∧ Hid (wr.ownsRow wz.heap.size 3 1 ov o.length (o.map nV)) ∧ Hid (DoneG wr (w1.heap.size + 1) w1.heap.size N o) ∧ Hid (RowsG wr G w1.heap.size E) ∧ Below w.heap.size w wr ∧ wz.heap.size ≤ wr.heap.size)
    case atStart => exact ⟨[], by simp, by simp, rfl, Lib.hid OrdRun.nil, Lib.hid (World.ownsRow_nil wz _ _ _), HDZ, HRZ, hbwz, Nat.le_refl _⟩
    case round =>
      obtain ⟨o, ho, hok, rfl, HO, HOWN, HDN, HRW, hbel, hwz⟩ := hrel
      have hsz := hbel.size
      by_cases hlt : o.length < N
      · have i1 : (o.length : Int) < (N : Int) := by omega
        obtain ⟨t, ht⟩ : ∃ t, o.length = t := ⟨_, rfl⟩
        have HT := Lib.hid ht
        rw [ht] at i1 hlt ⊢
        clear ht ho
        go_wp2_with fail
        go_loopg [12, 35] N (fun k nv iv wq => ∃ i : Nat, i ≤ N ∧ N - i ≤ k ∧ nv = .int .i64 (-1) ∧ iv = .int .i64 i ∧ Hid (∀ j, j < i → ¬ Ready E o j) ∧ wr = wq)
        case atStart => exact ⟨0, by omega, by omega, rfl, rfl, Lib.hid (fun j hj => absurd hj (by omega)), rfl⟩
        case round =>
          obtain ⟨i, hi, hik, rfl, rfl, HI, rfl⟩ := hrel
          by_cases hli : i < N
          · have hiE : i < E.length := by rw [HEL.out, HN.out]; exact hli
            obtain ⟨A', c', hcell, hrd, hA'⟩ := HRW.out.row i hiE
            have hrdy := ready_iff (o := o) hiE
            have hlt2 := HLT.out i hiE
            have hrl := HRL.out i hiE
            rw [HN.out] at hlt2
            generalize E[i]'hiE = row at *
            have i2 : (0 : Int) ≤ (i : Int) := by omega
            have i3 : (i : Int) < (N : Int) := by omega
            have kb := HDN.out.box
            have kf := HDN.out.flag i hli
            have hct := containsG_any (w1.heap.size + 1) w1.heap.size N o row A' c' wr HDN.out hrd hlt2 (by omega)
            have HRDY := Lib.hid hrdy
            have HNEXT : (¬ Ready E o i) → Hid (∀ j, j < i + 1 → ¬ Ready E o j) := fun h => Lib.hid (fun j hj => by
              rcases Nat.lt_or_ge j i with h2 | h2
              · exact HI.out j h2
              · have : j = i := by omega
                subst this; exact h)
            have HNX := Lib.hid HNEXT
            clear hrdy hA' hlt2 hrd HNEXT
            cases hf : o.contains i
            · rw [hf] at kf
              cases hq : (row.any fun k => !o.contains k)
              · have hready : Ready E o i := HRDY.out.2 ⟨hf, hq⟩
                have hnx : NextIs E o i := ⟨hready, HI.out⟩
                have HRUN : Hid (OrdRun E (o ++ [i])) := Lib.hid (OrdRun.snoc HO.out hnx)
                rw [hq] at hct
                have HCT := Lib.hid hct
                have hfree := HDN.out.free
                have hmark := HDN.out.mark (by omega) hli
                have HMK := Lib.hid hmark
                have hown := HOWN.out
                have hown2 : (wr.setCell ⟨w1.heap.size, i, none⟩ (.bool true)).ownsRow wz.heap.size 3 1 u11 o.length (o.map nV) := own_setCell hown _ _ (by intro e; have := (hown.lt w1.heap.size e).1; omega)
                have hrs : RowsG (wr.setCell ⟨w1.heap.size, i, none⟩ (.bool true)) G w1.heap.size E := HRW.out.step (fun k hk _ => heap_setCell_other wr ⟨w1.heap.size, i, none⟩ k _ (by show k ≠ w1.heap.size; omega)) (fun k _ => World.cell?_setCell_other _ _ _ _ (by have := HRW.out.gt; intro hh; injection hh with h1 _; omega)) (by simp; omega)
                have HRS := Lib.hid hrs
                have hbs : Below w.heap.size w (wr.setCell ⟨w1.heap.size, i, none⟩ (.bool true)) := hbel.setCell (by show w.heap.size ≤ w1.heap.size; omega) _
                clear hct hf hq hready hnx hmark hown hrs
                have i4 : ¬ (i : Int) < 0 := by omega
                have i5 : (t : Int) + 1 = ((t + 1 : Nat) : Int) := by omega
                clear i5
                go_wp2_with fail
                refine HCT.out.mono ?_
                rintro e w' ⟨rfl, rfl⟩
                go_wp2_with (first
                  | (at_builtin; refine wpList_append_own _ rfl _ _ 26 rfl wz.heap.size 3 j0 (.int .i64 0) 1 8 Try.underlying26 jinf jz jsz jby rfl (by decide) _ _ _ rfl (hown2.alloc _) ⟨w'.heap.size, 0, none⟩ 1 1 [.int .i64 (i : Int)] rfl rfl ?c1_1 ?c2_1 ?c3_1 ?c4_1 ?c5_1 ?_)
                  | fail)
                try case c1_1 =>
                  intro jj u hu
                  match jj, hu with
                  | 0, hu =>
                    have h := heap_alloc_new (w'.setCell ⟨w1.heap.size, i, none⟩ (.bool true)) (.cells #[.int .i64 (i : Int)] 3)
                    rw [sz_set] at h
                    simp at hu
                    subst hu
                    exact (cell_of_block h 0)
                case c2_1 => first | exact ⟨rfl, rfl⟩ | (intro u hu; simp at hu; subst hu; rfl)
                case c3_1 => have := HT.out; unfold maxLen; omega
                case c4_1 => have := HT.out; omega
                case c5_1 => (try simp); omega
                intro v2 w2 hown3 hg2 _
                have o2 : w2.ownsRow wz.heap.size 3 1 v2 (o ++ [i]).length ((o ++ [i]).map nV) := by
                  rw [List.length_append, List.map_append]; exact hown3
                have hsame : ∀ k, k < wz.heap.size → w2.heap[k]? = (w'.setCell ⟨w1.heap.size, i, none⟩ (.bool true)).heap[k]? := fun k hk =>
                  (hg2.block k (by simp; omega) (fun e => by have := (hown2.lt k e.symm).1; omega)).trans (alloc_old2 _ (by simp; omega))
                have HO2 := Lib.hid o2
                have HD2 : Hid (DoneG w2 (w1.heap.size + 1) w1.heap.size N (o ++ [i])) := Lib.hid (HMK.out.same (hsame _ (by omega)) (hsame _ (by omega)))
                have HR2 : Hid (RowsG w2 G w1.heap.size E) := Lib.hid (HRS.out.step (fun k hk _ => hsame k (by omega)) (fun k _ => World.cell?_of_block (a := ⟨G, k, none⟩) (hsame G (by have := HRS.out.gt; omega))) (by have := hg2.size; simp at this; omega))
                have hb2 : Below w.heap.size w w2 := (hbs.alloc (by simp; omega) _).grown hg2 (by simp; omega) (fun g hg => by have := (hown2.lt g hg).1; omega)
                have hz2 : wz.heap.size ≤ w2.heap.size := by have := hg2.size; simp at this; omega
                have hol : (o ++ [i]).length = t + 1 := by simp; exact HT.out
                clear hown3 hg2 o2 hsame hown2
                go_wp2_with fail
                go_roundg (N - (t + 1))
                case measure => have := HT.out; omega
                case rel => exact ⟨o ++ [i], by rw [hol]; omega, by rw [hol]; omega, by rw [hol]; go_num, HRUN, HO2, HD2, HR2, hb2, hz2⟩
              · rw [hq] at hct
                have HCT := Lib.hid hct
                have HI2 := HNX.out (fun h => by have := (HRDY.out.1 h).2; rw [hq] at this; cases this)
                clear hct hf hq
                go_wp2_with fail
                refine HCT.out.mono ?_
                rintro e w' ⟨rfl, rfl⟩
                go_wp2_with fail
                go_roundg (N - (i + 1))
                case measure => omega
                case rel => exact ⟨i + 1, by omega, by omega, rfl, by go_num, HI2, rfl⟩
            · rw [hf] at kf
              have HI2 := HNX.out (fun h => by have := (HRDY.out.1 h).1; rw [hf] at this; cases this)
              clear hct hf
              go_wp2_with fail
              go_roundg (N - (i + 1))
              case measure => omega
              case rel => exact ⟨i + 1, by omega, by omega, rfl, by go_num, HI2, rfl⟩
          · have i3 : ¬ (i : Int) < (N : Int) := by omega
            have hnone : ∀ j, ¬ Ready E o j := fun j h => HI.out j (by have := h.1; rw [HEL.out, HN.out] at this; omega) h
            have hfst := firstG_any (w1.heap.size + 1) w1.heap.size N o wr HDN.out (by omega) (some_left (by have := HT.out; omega))
            have HFST := Lib.hid hfst
            have HNONE := Lib.hid hnone
            have kb := HDN.out.box
            clear hfst hnone
            go_wp2_with fail
            refine HFST.out.mono ?_
            rintro e w' ⟨f, rfl, hf1, hf2, hf3, rfl⟩
            have hO : OrderIs ns (xs.map TxAt.l) [] (f : Int) 13 := ⟨0, 0, HC.out, .inr ⟨rfl, .inr ⟨rfl, rfl, o, by rw [HEE.out]; exact HO.out, by rw [HN.out, HT.out]; exact hlt, by rw [HEE.out]; exact HNONE.out, f, rfl, by rw [HN.out]; exact hf1, hf2, hf3⟩⟩⟩
            have HOO := Lib.hid hO
            clear hO hf1 hf2 hf3
            go_wp2_with fail
            refine bodyPost_ret (v := .tuple #[.slice none 0 0, .int .i64 f, .int .i64 13]) (by simp [results, Try.results9, go_sem]) rfl ⟨_, f, 13, [], rfl, HOO.out, ⟨none, 0, rfl, RdL.nil_ _ _ _⟩, by simp, hbel⟩
      · have i1 : ¬ (o.length : Int) < (N : Int) := by omega
        have hO : OrderIs ns (xs.map TxAt.l) o 0 0 := ⟨0, 0, HC.out, .inr ⟨rfl, .inl ⟨by rw [HEE.out]; exact HO.out, by rw [HN.out]; omega, rfl, rfl⟩⟩⟩
        have HOO := Lib.hid hO
        obtain ⟨B, cb, hov, hrd, _⟩ := own_rdI HOWN.out
        have HRD := Lib.hid hrd
        have hol : o.length ≤ 4096 := by omega
        obtain ⟨t, ht⟩ : ∃ t, o.length = t := ⟨_, rfl⟩
        rw [ht] at hov i1 ⊢
        have HT := Lib.hid ht
        subst hov
        clear hO hrd HOWN ht
        go_wp2_with fail
        refine bodyPost_ret (v := .tuple #[.slice B t cb, .int .i64 0, .int .i64 0]) (by simp [results, Try.results9, go_sem]) rfl ⟨.slice B t cb, 0, 0, rfl, o, HOO.out, ⟨B, ⟨cb, by rw [HT.out]⟩, HRD.out⟩, hol, hbel⟩
  · have hv := hv0 hz
    subst hv
    have hO : OrderIs ns (xs.map TxAt.l) [] n0 e0 := ⟨n0, e0, hC, .inl ⟨hz, rfl, rfl, rfl⟩⟩
    have HO := Lib.hid hO
    have hzb : (e0 != 0) = true := by rw [bne_iff_ne]; exact hz
    clear hC hv0 hv1 hO hz
    go_wp2_with fail
    refine bodyPost_ret (v := .tuple #[.slice none 0 0, .int .i64 n0, .int .i64 e0]) (by simp [results, Try.results9, go_sem]) rfl ⟨_, n0, e0, [], rfl, HO.out, ⟨none, 0, rfl, RdL.nil_ _ _ _⟩, by simp, hb1⟩
end Go.Proofs.Ythmmfghcfgbblaa
