/- soffitref18.Order, walked. -/
import Derived.Test.YthmmfghcfgbblaaGr6
set_option linter.unusedSimpArgs false
set_option linter.unusedVariables false
namespace Go.Proofs.Ythmmfghcfgbblaa
open Go.RowKit Go.Sort Go.Lib

/-- which are done: a row of flags in block q -/
structure FlagG (w : World) (q N : Nat) (o : List Nat) : Prop where
  flag : ∀ i, i < N → w.cell? ⟨q, i, none⟩ = some (.bool (o.contains i))
  free : ∀ i, w.frozen? ⟨q, i, none⟩ = false
theorem FlagG.same {w w' : World} {q N : Nat} {o : List Nat} (h : FlagG w q N o) (hq : w'.heap[q]? = w.heap[q]?) : FlagG w' q N o :=
  ⟨fun i hi => (World.cell?_of_block (a := ⟨q, i, none⟩) hq).trans (h.flag i hi), fun i => (World.frozen?_of_block (a := ⟨q, i, none⟩) hq).trans (h.free i)⟩
theorem FlagG.mark {w : World} {q N i : Nat} {o : List Nat} (h : FlagG w q N o) (hi : i < N) : FlagG (w.setCell ⟨q, i, none⟩ (.bool true)) q N (o ++ [i]) := by
  refine ⟨fun j hj => ?_, fun j => by rw [frozen_setCell]; exact h.free j⟩
  by_cases e : j = i
  · subst e
    rw [World.cell?_setCell_same _ _ _ (h.flag j hj)]
    simp
  · rw [World.cell?_setCell_other _ _ _ _ (by intro hh; injection hh with _ h2; omega), h.flag j hj]
    congr 2
    rw [Bool.eq_iff_iff]
    simp [e]
/-- the least from i on -/
def LeastFrom (p : Nat → Prop) (N i : Nat) (v : Int) : Prop := (v = -1 ∧ ∀ j, i ≤ j → j < N → ¬ p j) ∨ ∃ m : Nat, v = m ∧ i ≤ m ∧ m < N ∧ p m ∧ ∀ j, i ≤ j → j < m → ¬ p j
theorem LeastFrom.end_ (p : Nat → Prop) (N : Nat) : LeastFrom p N N (-1) := .inl ⟨rfl, fun j h1 h2 => by omega⟩
theorem LeastFrom.yes {p : Nat → Prop} {N i : Nat} (h : p i) (hi : i < N) : LeastFrom p N i i := .inr ⟨i, rfl, Nat.le_refl _, hi, h, fun j h1 h2 => by omega⟩
theorem LeastFrom.no {p : Nat → Prop} {N i : Nat} {v : Int} (h : LeastFrom p N (i + 1) v) (hp : ¬ p i) : LeastFrom p N i v := by
  rcases h with ⟨h1, h2⟩ | ⟨m, h1, h2, h3, h4, h5⟩
  · refine .inl ⟨h1, fun j h3 h4 hj => ?_⟩
    rcases Nat.lt_or_ge i j with h | h
    · exact h2 j h h4 hj
    · have : j = i := by omega
      subst this; exact hp hj
  · refine .inr ⟨m, h1, by omega, h3, h4, fun j h6 h7 hj => ?_⟩
    rcases Nat.lt_or_ge i j with h | h
    · exact h5 j h h7 hj
    · have : j = i := by omega
      subst this; exact hp hj
theorem ready_all {E : List (List Nat)} {o : List Nat} {i : Nat} (hi : i < E.length) : Ready E o i ↔ (o.contains i = false ∧ ((E[i]'hi).all fun k => o.contains k) = true) := by
  rw [ready_iff hi]
  constructor
  · rintro ⟨h1, h2⟩
    refine ⟨h1, ?_⟩
    rw [List.any_eq_false] at h2
    rw [List.all_eq_true]
    intro k hk
    have := h2 k hk
    cases h : o.contains k
    · rw [h] at this; simp at this
    · rfl
  · rintro ⟨h1, h2⟩
    refine ⟨h1, ?_⟩
    rw [List.all_eq_true] at h2
    rw [List.any_eq_false]
    intro k hk
    rw [h2 k hk]; simp
theorem edges_at {ns : List Tx} {xs : List TxAt} {i : Nat} (hi : i < (edgesL ns (xs.map TxAt.l)).length) (hx : i < xs.length) : (edgesL ns (xs.map TxAt.l))[i]'hi = (xs[i]'hx).l.map fun s => ns.idxOf s := by simp [edgesL]

set_option maxRecDepth 100000 in
set_option maxHeartbeats 3200000 in
theorem rOrder_any (A D : Option Addr) (ns : List Tx) (xs : List TxAt) (c cd : Nat) (w : World) (hA : RdL w 1 A (ns.map tC)) (hD : RdL w 1 D (xs.map TxAt.cells)) (hx : ∀ x ∈ xs, x.ok w) (hn : ns.length ≤ 9223372036854775807) (hm : xs.length ≤ 9223372036854775807) (hxl : ∀ x ∈ xs, x.l.length ≤ 4096) :
    Calls Try.prog 10 #[.slice A ns.length c, .slice D xs.length cd] w fun e w' => ∃ v n r l, e = .returned (.tuple #[v, .int .i64 n, .int .i64 r]) ∧ OrderIs ns (xs.map TxAt.l) l n r ∧ (∃ B cb, v = .slice B l.length cb ∧ RdL w' 1 B (l.map iC)) ∧ l.length ≤ 4096 ∧ Below w.heap.size w w' := by
  have hc := check_any A D ns xs c cd w hA hD hx hn hm
  have HCK := Lib.hid hc
  have HXL := Lib.hid hxl
  have HX := Lib.hid hx
  have HA := Lib.hid hA
  have HD := Lib.hid hD
  clear hc hA hD hx hxl
  go_enter Try.func10, Try.ntmps10
  go_wp2_with fail
  refine HCK.out.mono ?_
  rintro e w1 ⟨n0, e0, rfl, hC, rfl⟩
  clear HCK
  by_cases hz : e0 = 0
  · subst hz
    obtain ⟨hlen, h4, rfl, hall⟩ := check0 hC
    rw [List.length_map] at hlen
    have HC := Lib.hid hC
    have HALL := Lib.hid hall
    have HLEN := Lib.hid hlen
    obtain ⟨E, hE⟩ : ∃ E, edgesL ns (xs.map TxAt.l) = E := ⟨_, rfl⟩
    have HEL : Hid (E.length = ns.length) := Lib.hid (by rw [← hE, edges_len]; simp; exact hlen.symm)
    have HEAT : Hid (∀ i (hi : i < E.length) (hx : i < xs.length), E[i]'hi = (xs[i]'hx).l.map fun s => ns.idxOf s) := Lib.hid (by subst hE; exact fun i hi hx => edges_at hi hx)
    have HEE := Lib.hid hE
    obtain ⟨i0, hinf, hz0, hsz0, hby0⟩ := info_parts (show (Try.prog.info? 4).map (fun i => (i.zero, i.size, i.bytes)) = some (some (.bool false), 1, 1) by kernel_rfl)
    obtain ⟨j0, jinf, jz, jsz, jby⟩ := info_parts (show (Try.prog.info? 3).map (fun i => (i.zero, i.size, i.bytes)) = some (some (.int .i64 0), 1, 8) by kernel_rfl)
    obtain ⟨N, hN⟩ : ∃ N, ns.length = N := ⟨_, rfl⟩
    have hms : (Instr.makeSlice 38 (.int .i64 (N : Int)) (.int .i64 (N : Int))).run Try.prog w1 = .ok (.slice (some ⟨w1.heap.size, 0, none⟩) N N) (w1.alloc (.cells (madeCells #[.bool false] N) 4)) := by
      have h := run_make (P := Try.prog) w1 38 4 i0 (.bool false) Try.underlying38 hinf hz0 .i64 .i64 N N (by omega) (Int.le_refl _) (by rw [hby0]; omega) (by omega)
      simpa [hsz0, Value.cells] using h
    have HN := Lib.hid hN
    rw [hN] at h4 ⊢
    clear hC hlen hall hE hN
    go_wp2_with fail
    clear hms
    have hown0 := World.ownsRow_lit (base := w1.heap.size + 1) (e := 3) (size := 1) (w1.alloc (.cells (madeCells #[.bool false] N) 4)) #[] 0 (by simp) (by decide) rfl
    rw [show (w1.alloc (.cells (madeCells #[.bool false] N) 4)).heap.size = w1.heap.size + 1 by simp] at hown0
    have hq0 : ((w1.alloc (.cells (madeCells #[.bool false] N) 4)).alloc (.cells #[] 3)).heap[w1.heap.size]? = some (.cells (madeCells #[.bool false] N) 4) :=
      (alloc_old2 _ (by simp)).trans (heap_alloc_new w1 _)
    have hF0 : FlagG ((w1.alloc (.cells (madeCells #[.bool false] N) 4)).alloc (.cells #[] 3)) w1.heap.size N [] :=
      ⟨fun i hi => by rw [cell_of_block hq0, made_at _ _ _ hi]; rfl, fun i => by simp only [World.frozen?, hq0]; simp⟩
    have hb0 : Below w1.heap.size w1 ((w1.alloc (.cells (madeCells #[.bool false] N) 4)).alloc (.cells #[] 3)) := (by repeat' (first | (with_reducible exact Below.refl _ _) | (with_reducible assumption) | (with_reducible refine Below.drew ?_) | (with_reducible refine below_drewN ?_ _) | (with_reducible refine below_iterAt ?_ ?_ _ _) | (with_reducible refine below_iter ?_ ?_ _ _) | (with_reducible refine Below.alloc ?_ ?_ _) | (with_reducible refine Below.setCell ?_ ?_ _) | (with_reducible refine Below.trans ?_ (Below.mono (by assumption) ?_)) | (simp only [sz_alloc, sz_set, sz_drew, sz_drewN, sz_iterAt, sz_iter] at *; omega) | omega | (simp; done) | (simp; omega) | (apply Below.size; assumption) | (simp only [sz_drew, sz_drewN]; apply Below.size; assumption) | (refine Nat.le_trans ?_ (Below.size (by assumption)))))
    have hz0' : w1.heap.size + 1 ≤ ((w1.alloc (.cells (madeCells #[.bool false] N) 4)).alloc (.cells #[] 3)).heap.size := by simp
    have HF0 := Lib.hid hF0
    have HOWN0 : Hid (((w1.alloc (.cells (madeCells #[.bool false] N) 4)).alloc (.cells #[] 3)).ownsRow (w1.heap.size + 1) 3 1 (.slice (some ⟨w1.heap.size + 1, 0, none⟩) 0 0) ([] : List Nat).length (([] : List Nat).map nV)) := Lib.hid hown0
    clear hown0 hq0 hF0
    generalize (w1.alloc (.cells (madeCells #[.bool false] N) 4)).alloc (.cells #[] 3) = wz at *
    go_loopg [10] N (fun k ov wr => ∃ (o : List Nat), o.length ≤ N ∧ N - o.length ≤ k ∧ Hid (OrdRun E o) ∧ Hid (wr.ownsRow (w1.heap.size + 1) 3 1 ov o.length (o.map nV)) ∧ Hid (FlagG wr w1.heap.size N o) ∧ Below w1.heap.size w1 wr ∧ w1.heap.size + 1 ≤ wr.heap.size)
    case atStart => exact ⟨[], by simp, by simp, Lib.hid OrdRun.nil, HOWN0, HF0, hb0, hz0'⟩
    case round =>
      clear HF0 HOWN0 hb0 hz0'
      obtain ⟨o, ho, hok, HO, HOWN, HFL, hbel, hwz⟩ := hrel
      have hsz := hbel.size
      obtain ⟨B, cb, hov, hrd, _⟩ := own_rdI HOWN.out
      have HRD := Lib.hid hrd
      obtain ⟨t, ht⟩ : ∃ t, o.length = t := ⟨_, rfl⟩
      rw [ht] at hov ho hok
      have HT := Lib.hid ht
      have HOW := HOWN
      rw [hov] at HOW
      subst hov
      clear hrd ht HOWN
      by_cases hlt : t < N
      · have i1 : (t : Int) < (N : Int) := by omega
        have hw1 : IntKind.i64.wrap ((N : Int) - 1) = (N : Int) - 1 := IntWalk.i64_in _ (by omega)
        go_wp2_with fail
        go_loopg [11, 12, 13] N (fun k nv fv iv wq => ∃ (i : Nat) (nx fs : Int), i ≤ N ∧ i ≤ k ∧ nv = .int .i64 nx ∧ fv = .int .i64 fs ∧ iv = .int .i64 ((i : Int) - 1) ∧ Hid (LeastFrom (Ready E o) N i nx) ∧ Hid (LeastFrom (fun j => j ∉ o) N i fs) ∧ wr = wq)
        case atStart => exact ⟨N, -1, -1, by omega, by omega, rfl, rfl, rfl, Lib.hid (LeastFrom.end_ _ _), Lib.hid (LeastFrom.end_ _ _), rfl⟩
        case round =>
          clear hw1
          obtain ⟨i, nx, fs, hi, hik, rfl, rfl, rfl, HNX, HFS, rfl⟩ := hrel
          rcases i with _ | j
          · rw [show (((0 : Nat) : Int) - 1) = -1 from rfl]
            rcases HNX.out with ⟨hnx, hnone⟩ | ⟨m, hnx, _, hmN, hrdy, hleast⟩
            · subst hnx
              rcases HFS.out with ⟨_, hno⟩ | ⟨f, hfs, _, hfN, hf, hfl⟩
              · exfalso
                obtain ⟨y, hy1, hy2⟩ := some_left (o := o) (N := N) (by rw [HT.out]; exact hlt)
                exact hno y (by omega) hy1 hy2
              · subst hfs
                have hO : OrderIs ns (xs.map TxAt.l) [] (f : Int) 13 := ⟨0, 0, HC.out, .inr ⟨rfl, .inr ⟨rfl, rfl, o, by rw [HEE.out]; exact HO.out, by rw [HN.out, HT.out]; exact hlt, by rw [HEE.out]; exact fun y hy => hnone y (by omega) (by have := hy.1; rw [HEL.out, HN.out] at this; exact this) hy, f, rfl, by rw [HN.out]; exact hfN, hf, fun y hy => Classical.byContradiction fun h => hfl y (by omega) hy h⟩⟩⟩
                have HOO := Lib.hid hO
                clear hO hnone hf hfl
                go_wp2_with fail
                refine bodyPost_ret (v := .tuple #[.slice none 0 0, .int .i64 f, .int .i64 13]) (by simp [results, Try.results10, go_sem]) rfl ⟨_, f, 13, [], rfl, HOO.out, ⟨none, 0, rfl, RdL.nil_ _ _ _⟩, by simp, hbel⟩
            · subst hnx
              have i4 : ¬ (m : Int) < 0 := by omega
              have i5 : (m : Int) < (N : Int) := by omega
              have i6 : (0 : Int) ≤ (m : Int) := by omega
              have HRUN : Hid (OrdRun E (o ++ [m])) := Lib.hid (OrdRun.snoc HO.out ⟨hrdy, fun y hy => hleast y (by omega) hy⟩)
              have kf := HFL.out.flag m hmN
              have kfr := HFL.out.free
              have hmark := HFL.out.mark hmN
              have HMK := Lib.hid hmark
              have hown := HOW.out
              have hown2 : (wr.setCell ⟨w1.heap.size, m, none⟩ (.bool true)).ownsRow (w1.heap.size + 1) 3 1 (.slice B t cb) o.length (o.map nV) := own_setCell hown _ _ (by intro e; have := (hown.lt w1.heap.size e).1; omega)
              have hbs : Below w1.heap.size w1 (wr.setCell ⟨w1.heap.size, m, none⟩ (.bool true)) := hbel.setCell (Nat.le_refl _) _
              clear hmark hown hrdy hleast
              go_wp2_with (first
                | (at_builtin; refine wpList_append_own _ rfl _ _ 26 rfl (w1.heap.size + 1) 3 j0 (.int .i64 0) 1 8 Try.underlying26 jinf jz jsz jby rfl (by decide) _ _ _ rfl (hown2.alloc _) ⟨wr.heap.size, 0, none⟩ 1 1 [.int .i64 (m : Int)] rfl rfl ?c1_1 ?c2_1 ?c3_1 ?c4_1 ?c5_1 ?_)
                | fail)
              try case c1_1 =>
                intro jj u hu
                match jj, hu with
                | 0, hu =>
                  have h := heap_alloc_new (wr.setCell ⟨w1.heap.size, m, none⟩ (.bool true)) (.cells #[.int .i64 (m : Int)] 3)
                  rw [sz_set] at h
                  simp at hu
                  subst hu
                  exact (cell_of_block h 0)
              try case c2_1 => first | rfl | exact ⟨rfl, rfl⟩ | (intro u hu; simp at hu; subst hu; rfl)
              case c3_1 => have := HT.out; unfold maxLen; omega
              case c4_1 => have := HT.out; omega
              try case c5_1 => (try simp); omega
              intro v2 w2 hown3 hg2 _
              have o2 : w2.ownsRow (w1.heap.size + 1) 3 1 v2 (o ++ [m]).length ((o ++ [m]).map nV) := by
                rw [List.length_append, List.map_append]; exact hown3
              have hsame : w2.heap[w1.heap.size]? = (wr.setCell ⟨w1.heap.size, m, none⟩ (.bool true)).heap[w1.heap.size]? :=
                (hg2.block _ (by simp; omega) (fun e => by have := (hown2.lt w1.heap.size e.symm).1; omega)).trans (alloc_old2 _ (by simp; omega))
              have HO2 := Lib.hid o2
              have HF2 : Hid (FlagG w2 w1.heap.size N (o ++ [m])) := Lib.hid (HMK.out.same hsame)
              have hb2 : Below w1.heap.size w1 w2 := (hbs.alloc (by simp; omega) _).grown hg2 (by simp; omega) (fun g hg => by have := (hown2.lt g hg).1; omega)
              have hz2 : w1.heap.size + 1 ≤ w2.heap.size := by have := hg2.size; simp at this; omega
              have hol : (o ++ [m]).length = t + 1 := by simp; exact HT.out
              clear hown3 hg2 o2 hsame hown2
              go_wp2_with fail
              go_roundg (N - (t + 1))
              case measure => omega
              case rel => exact ⟨o ++ [m], by rw [hol]; omega, by rw [hol]; omega, HRUN, HO2, HF2, hb2, hz2⟩
          · rw [show (((j + 1 : Nat) : Int) - 1) = (j : Int) from by omega]
            have hjN : j < N := by omega
            have i2 : (0 : Int) ≤ (j : Int) := by omega
            have i3 : (j : Int) < (N : Int) := by omega
            have i7 : (j : Int) < (xs.length : Int) := by have := HLEN.out; have := HN.out; omega
            have hw2 : IntKind.i64.wrap ((j : Int) - 1) = (j : Int) - 1 := IntWalk.i64_in _ (by omega)
            have kf := HFL.out.flag j hjN
            have hjE : j < E.length := by rw [HEL.out, HN.out]; exact hjN
            have hjx : j < xs.length := by have := HLEN.out; have := HN.out; omega
            have hra := ready_all (o := o) hjE
            have HRA := Lib.hid hra
            clear hra
            cases hf : o.contains j
            · rw [hf] at kf
              obtain ⟨b, off, hbe, g0⟩ := rdA_at (HD.out.below hbel) hjx
              subst hbe
              have hxo := (HX.out _ (List.getElem_mem hjx))
              have hea := HEAT.out j hjE hjx
              have hal := HALL.out (xs[j]'hjx).l (List.mem_map_of_mem (List.getElem_mem hjx))
              rw [hea] at HRA
              have HFS2 : Hid (LeastFrom (fun j => j ∉ o) N j (j : Int)) := Lib.hid (LeastFrom.yes (fun h => by rw [(List.contains_iff_mem).2 h] at hf; cases hf) hjN)
              clear hea
              generalize xs[j]'hjx = x at *
              obtain ⟨xl, xA, xc⟩ := x
              dsimp only at g0 hal HRA
              have HXO := Lib.hid hxo
              have HAL := Lib.hid hal
              have hxn : xl.length ≤ 9223372036854775807 := hxo.len
              clear hxo hal
              go_wp2_with fail
              go_loopg [14, 15] xl.length (fun k rv kv wq => ∃ q : Nat, q ≤ xl.length ∧ xl.length - q ≤ k ∧ rv = .bool (((xl.take q).map fun s => ns.idxOf s).all fun k => o.contains k) ∧ kv = .int .i64 q ∧ wr = wq)
              case atStart => exact ⟨0, by omega, by omega, rfl, rfl, rfl⟩
              case round =>
                obtain ⟨q, hq, hqk, rfl, rfl, rfl⟩ := hrel
                by_cases hlq : q < xl.length
                · obtain ⟨b', off', hbe, g1⟩ := rdT_at (HXO.out.below hbel).rd hlq
                  subst hbe
                  have i8 : (0 : Int) ≤ (q : Int) := by omega
                  have i9 : (q : Int) < (xl.length : Int) := by omega
                  have htk : ((xl.take (q + 1)).map fun s => ns.idxOf s).all (fun k => o.contains k) = (((xl.take q).map fun s => ns.idxOf s).all (fun k => o.contains k) && o.contains (ns.idxOf (xl[q]'hlq))) := by
                    rw [List.take_succ_eq_append_getElem hlq, List.map_append, List.all_append]
                    simp only [List.map_cons, List.map_nil, List.all_cons, List.all_nil, Bool.and_true]
                  have hsn := HAL.out _ (List.getElem_mem hlq)
                  generalize xl[q]'hlq = s at *
                  have hfc := find_any A ns c s wr (HA.out.below hbel) hn
                  have hix : ns.idxOf s < N := by rw [← HN.out]; exact List.idxOf_lt_length_iff.2 hsn
                  unfold findV at hfc
                  rw [if_pos hsn, HN.out] at hfc
                  generalize ns.idxOf s = y at *
                  have kf2 := HFL.out.flag y hix
                  have i10 : (0 : Int) ≤ (y : Int) := by omega
                  have i11 : (y : Int) < (N : Int) := by omega
                  generalize o.contains y = Z at *
                  have HFC := Lib.hid hfc
                  have HTK := Lib.hid htk
                  clear hfc hsn htk
                  cases hR : (((xl.take q).map fun s => ns.idxOf s).all fun k => o.contains k)
                  · rw [hR] at HTK
                    go_wp2_with fail
                    go_roundg (xl.length - (q + 1))
                    case measure => omega
                    case rel => exact ⟨q + 1, by omega, by omega, by rw [HTK.out]; rfl, by go_num, rfl⟩
                  · rw [hR] at HTK
                    clear hR
                    go_wp2_with fail
                    refine HFC.out.mono ?_
                    rintro e w' ⟨rfl, rfl⟩
                    go_wp2_with fail
                    go_roundg (xl.length - (q + 1))
                    case measure => omega
                    case rel => exact ⟨q + 1, by omega, by omega, by rw [HTK.out, Bool.true_and], by go_num, rfl⟩
                · have i9 : ¬ (q : Int) < (xl.length : Int) := by omega
                  rw [List.take_of_length_le (show xl.length ≤ q by omega)]
                  cases hR : ((xl.map fun s => ns.idxOf s).all fun k => o.contains k)
                  · have HNX2 : Hid (LeastFrom (Ready E o) N j nx) := Lib.hid (HNX.out.no (fun h => by have := (HRA.out.1 h).2; rw [hR] at this; cases this))
                    clear hR
                    go_wp2_with fail
                    go_roundg j
                    case measure => omega
                    case rel => exact ⟨j, nx, (j : Int), by omega, by omega, rfl, rfl, by go_num, HNX2, HFS2, rfl⟩
                  · have HNX2 : Hid (LeastFrom (Ready E o) N j (j : Int)) := Lib.hid (LeastFrom.yes (HRA.out.2 ⟨hf, hR⟩) hjN)
                    clear hR
                    go_wp2_with fail
                    go_roundg j
                    case measure => omega
                    case rel => exact ⟨j, (j : Int), (j : Int), by omega, by omega, rfl, rfl, by go_num, HNX2, HFS2, rfl⟩
            · rw [hf] at kf
              have HNX2 : Hid (LeastFrom (Ready E o) N j nx) := Lib.hid (HNX.out.no (fun h => by have := (HRA.out.1 h).1; rw [hf] at this; cases this))
              have HFS2 : Hid (LeastFrom (fun j => j ∉ o) N j fs) := Lib.hid (HFS.out.no (fun h => h (List.contains_iff_mem.1 hf)))
              clear hf
              go_wp2_with fail
              go_roundg j
              case measure => omega
              case rel => exact ⟨j, nx, fs, by omega, by omega, rfl, rfl, by go_num, HNX2, HFS2, rfl⟩
      · have i1 : ¬ (t : Int) < (N : Int) := by omega
        have hO : OrderIs ns (xs.map TxAt.l) o 0 0 := ⟨0, 0, HC.out, .inr ⟨rfl, .inl ⟨by rw [HEE.out]; exact HO.out, by rw [HN.out, HT.out]; omega, rfl, rfl⟩⟩⟩
        have HOO := Lib.hid hO
        have hol : o.length ≤ 4096 := by rw [HT.out]; omega
        clear hO
        go_wp2_with fail
        refine bodyPost_ret (v := .tuple #[.slice B t cb, .int .i64 0, .int .i64 0]) (by simp [results, Try.results10, go_sem]) rfl ?_
        first
          | exact ⟨.slice B t cb, 0, 0, rfl, o, HOO.out, ⟨B, ⟨cb, by rw [HT.out]⟩, HRD.out⟩, hol, hbel⟩
          | exact ⟨.slice B t cb, 0, 0, o, rfl, HOO.out, ⟨B, cb, by rw [HT.out], HRD.out⟩, hol, hbel⟩
  · have hO : OrderIs ns (xs.map TxAt.l) [] n0 e0 := ⟨n0, e0, hC, .inl ⟨hz, rfl, rfl, rfl⟩⟩
    have HO := Lib.hid hO
    have hzb : (e0 != 0) = true := by rw [bne_iff_ne]; exact hz
    clear hC hO hz
    go_wp2_with fail
    refine bodyPost_ret (v := .tuple #[.slice none 0 0, .int .i64 n0, .int .i64 e0]) (by simp [results, Try.results10, go_sem]) rfl ⟨_, n0, e0, [], rfl, HO.out, ⟨none, 0, rfl, RdL.nil_ _ _ _⟩, by simp, (by repeat' (first | (with_reducible exact Below.refl _ _) | (with_reducible assumption) | (with_reducible refine Below.drew ?_) | (with_reducible refine below_drewN ?_ _) | (with_reducible refine below_iterAt ?_ ?_ _ _) | (with_reducible refine below_iter ?_ ?_ _ _) | (with_reducible refine Below.alloc ?_ ?_ _) | (with_reducible refine Below.setCell ?_ ?_ _) | (with_reducible refine Below.trans ?_ (Below.mono (by assumption) ?_)) | (simp only [sz_alloc, sz_set, sz_drew, sz_drewN, sz_iterAt, sz_iter] at *; omega) | omega | (simp; done) | (simp; omega) | (apply Below.size; assumption) | (simp only [sz_drew, sz_drewN]; apply Below.size; assumption) | (refine Nat.le_trans ?_ (Below.size (by assumption)))))⟩
end Go.Proofs.Ythmmfghcfgbblaa
