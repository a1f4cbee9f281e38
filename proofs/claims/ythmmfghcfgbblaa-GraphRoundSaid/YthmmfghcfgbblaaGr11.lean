/- soffitref18.Above, walked. -/
import Derived.Test.YthmmfghcfgbblaaGr10
set_option linter.unusedSimpArgs false
set_option linter.unusedVariables false
namespace Go.Proofs.Ythmmfghcfgbblaa
open Go.RowKit Go.Sort Go.Lib Go.ChangeMaps Go.WideShapes

/-- what m needs lies in o, and what o's need -/
def ClosedAt (E : List (List Nat)) (m : Nat) (o : List Nat) (i : Nat) : Prop := ∀ j, j < i → (j ∈ o ∨ j = m) → ∀ l, E[j]? = some l → ∀ k ∈ l, k ∈ o
theorem reach_of_closed {E : List (List Nat)} {m : Nat} {o : List Nat} (hc : ClosedAt E m o E.length) (hr : ∀ k ∈ o, Reach E m k) (k : Nat) : k ∈ o ↔ Reach E m k := by
  constructor
  · exact hr k
  · intro h
    induction h with
    | one h1 h2 => exact hc _ (List.getElem?_eq_some_iff.1 h1).1 (.inr rfl) _ h1 _ h2
    | step _ h1 h2 ih => exact hc _ (List.getElem?_eq_some_iff.1 h1).1 (.inl ih) _ h1 _ h2
structure PassAt (E : List (List Nat)) (m : Nat) (o0 o : List Nat) (a : Bool) (i : Nat) : Prop where
  nd : o.Nodup
  re : ∀ k ∈ o, Reach E m k
  no : a = false → o = o0 ∧ ClosedAt E m o i
  yes : a = true → o0.length < o.length
theorem PassAt.start {E : List (List Nat)} {m : Nat} {o : List Nat} (h : o.Nodup ∧ ∀ k ∈ o, Reach E m k) : PassAt E m o o false 0 :=
  ⟨h.1, h.2, fun _ => ⟨rfl, fun j hj => by omega⟩, fun h => by cases h⟩
theorem PassAt.skip {E : List (List Nat)} {m : Nat} {o0 o : List Nat} {a : Bool} {i : Nat} (h : PassAt E m o0 o a i) (h1 : i ∉ o) (h2 : i ≠ m) : PassAt E m o0 o a (i + 1) := by
  refine ⟨h.nd, h.re, fun ha => ⟨(h.no ha).1, fun j hj hjo l hl k hk => ?_⟩, h.yes⟩
  rcases Nat.lt_or_ge j i with h3 | h3
  · exact (h.no ha).2 j h3 hjo l hl k hk
  · have : j = i := by omega
    subst this
    rcases hjo with h4 | h4
    · exact absurd h4 h1
    · exact absurd h4 h2
structure RowAt (E : List (List Nat)) (m : Nat) (o0 o : List Nat) (a : Bool) (i : Nat) (row : List Nat) (q : Nat) : Prop where
  pass : PassAt E m o0 o a i
  got : a = false → ∀ k ∈ row.take q, k ∈ o
theorem RowAt.start {E : List (List Nat)} {m : Nat} {o0 o : List Nat} {a : Bool} {i : Nat} (row : List Nat) (h : PassAt E m o0 o a i) : RowAt E m o0 o a i row 0 := ⟨h, fun _ k hk => by simp at hk⟩
theorem RowAt.old {E : List (List Nat)} {m : Nat} {o0 o : List Nat} {a : Bool} {i : Nat} {row : List Nat} {q : Nat} {y : Nat} (h : RowAt E m o0 o a i row q) (hq : q < row.length) (hy : row[q]'hq = y) (hx : y ∈ o) : RowAt E m o0 o a i row (q + 1) := by
  subst hy
  refine ⟨h.pass, fun ha k hk => ?_⟩
  rw [List.take_succ_eq_append_getElem hq] at hk
  rcases List.mem_append.1 hk with h1 | h1
  · exact h.got ha k h1
  · rw [List.mem_singleton.1 h1]; exact hx
theorem RowAt.new {E : List (List Nat)} {m : Nat} {o0 o : List Nat} {a : Bool} {i : Nat} {row : List Nat} {q : Nat} {y : Nat} (h : RowAt E m o0 o a i row q) (hq : q < row.length) (hy : row[q]'hq = y) (hx : y ∉ o) (hr : Reach E m y) : RowAt E m o0 (o ++ [y]) true i row (q + 1) := by
  subst hy
  refine ⟨⟨?_, ?_, fun h => (by cases h), fun _ => ?_⟩, fun h => (by cases h)⟩
  · rw [List.nodup_append]
    exact ⟨h.pass.nd, by simp, fun a ha b hb e => hx (by rw [List.mem_singleton] at hb; rw [← hb, ← e]; exact ha)⟩
  · intro k hk
    rcases List.mem_append.1 hk with h1 | h1
    · exact h.pass.re k h1
    · rw [List.mem_singleton.1 h1]; exact hr
  · cases a with
    | false => rw [(h.pass.no rfl).1]; simp
    | true => have := h.pass.yes rfl; simp; omega
theorem RowAt.end_ {E : List (List Nat)} {m : Nat} {o0 o : List Nat} {a : Bool} {i : Nat} {row : List Nat} {q : Nat} (h : RowAt E m o0 o a i row q) (hq : row.length ≤ q) (hi : i < E.length) (he : E[i]'hi = row) : PassAt E m o0 o a (i + 1) := by
  refine ⟨h.pass.nd, h.pass.re, fun ha => ⟨(h.pass.no ha).1, fun j hj hjo l hl k hk => ?_⟩, h.pass.yes⟩
  rcases Nat.lt_or_ge j i with h3 | h3
  · exact (h.pass.no ha).2 j h3 hjo l hl k hk
  · have : j = i := by omega
    subst this
    rw [List.getElem?_eq_getElem hi, he] at hl
    cases hl
    exact h.got ha k (by rw [List.take_of_length_le hq]; exact hk)
theorem FlagG.again {w : World} {q N i : Nat} {o : List Nat} (h : FlagG w q N o) (hi : i < N) (hio : i ∈ o) : FlagG (w.setCell ⟨q, i, none⟩ (.bool true)) q N o := by
  have h1 := h.mark hi
  refine ⟨fun j hj => (h1.flag j hj).trans ?_, h1.free⟩
  congr 2
  rw [Bool.eq_iff_iff]
  simp only [List.contains_iff_mem, List.mem_append, List.mem_singleton]
  exact ⟨fun h => h.elim id (fun e => by subst e; exact hio), .inl⟩
/-- the numbers below i that lie in o, in order -/
def upN (o : List Nat) (i : Nat) : List Nat := (List.range i).filter fun k => o.contains k
theorem upN_succ (o : List Nat) (i : Nat) : upN o (i + 1) = upN o i ++ (if o.contains i then [i] else []) := by
  unfold upN
  rw [List.range_succ, List.filter_append]
  cases h : o.contains i
  · have h2 : i ∉ o := fun h3 => by rw [List.contains_iff_mem.2 h3] at h; cases h
    simp [h2]
  · have h2 := List.contains_iff_mem.1 h
    simp [h2]
theorem upN_len (o : List Nat) (i : Nat) : (upN o i).length ≤ i := by
  have := List.length_filter_le (fun k => o.contains k) (List.range i)
  simpa [upN] using this
theorem upN_sorted (o : List Nat) (i : Nat) : (upN o i).Pairwise (· < ·) := List.Pairwise.filter _ List.pairwise_lt_range
theorem upN_mem {o : List Nat} {N : Nat} (h : ∀ k ∈ o, k < N) (k : Nat) : k ∈ upN o N ↔ k ∈ o := by
  unfold upN
  simp only [List.mem_filter, List.mem_range, List.contains_iff_mem]
  exact ⟨fun h => h.2, fun hk => ⟨h k hk, hk⟩⟩

set_option maxRecDepth 100000 in
set_option maxHeartbeats 3200000 in
theorem rAbove_any (A D : Option Addr) (ns : List Tx) (xs : List TxAt) (c cd : Nat) (n : Int) (w : World) (hA : RdL w 1 A (ns.map tC)) (hD : RdL w 1 D (xs.map TxAt.cells)) (hx : ∀ x ∈ xs, x.ok w) (hn : ns.length ≤ 9223372036854775807) (hm : xs.length ≤ 9223372036854775807) :
    Calls Try.prog 13 #[.slice A ns.length c, .slice D xs.length cd, .int .i64 n] w fun e w' => ∃ v r l, e = .returned (.tuple #[v, .int .i64 r]) ∧ AboveIs ns (xs.map TxAt.l) n l r ∧ (∃ B cb, v = .slice B l.length cb ∧ RdL w' 1 B (l.map iC)) ∧ l.length ≤ 4096 ∧ Below w.heap.size w w' := by
  have hc := check_any A D ns xs c cd w hA hD hx hn hm
  have HCK := Lib.hid hc
  have HX := Lib.hid hx
  have HA := Lib.hid hA
  have HD := Lib.hid hD
  clear hc hA hD hx
  go_enter Try.func13, Try.ntmps13
  go_wp2_with fail
  refine HCK.out.mono ?_
  rintro e w1 ⟨n0, e0, rfl, hC, rfl⟩
  clear HCK
  by_cases hz : e0 = 0
  · subst hz
    obtain ⟨hlen, h4, rfl, hall⟩ := check0 hC
    rw [List.length_map] at hlen
    have HC := Lib.hid hC
    have HALL := Lib.hid hall
    have HLEN := Lib.hid hlen
    obtain ⟨E, hE⟩ : ∃ E, edgesL ns (xs.map TxAt.l) = E := ⟨_, rfl⟩
    have HEL : Hid (E.length = ns.length) := Lib.hid (by rw [← hE, edges_len]; simp; exact hlen.symm)
    have HEAT : Hid (∀ i (hi : i < E.length) (hx : i < xs.length), E[i]'hi = (xs[i]'hx).l.map fun s => ns.idxOf s) := Lib.hid (by subst hE; exact fun i hi hx => edges_at hi hx)
    have HLT : Hid (∀ i (hi : i < E.length), ∀ k ∈ E[i]'hi, k < ns.length) := Lib.hid (by subst hE; exact fun i hi => edges_lt hall hi)
    have HEE := Lib.hid hE
    obtain ⟨i0, hinf, hz0, hsz0, hby0⟩ := info_parts (show (Try.prog.info? 4).map (fun i => (i.zero, i.size, i.bytes)) = some (some (.bool false), 1, 1) by kernel_rfl)
    obtain ⟨N, hN⟩ : ∃ N, ns.length = N := ⟨_, rfl⟩
    have hms : (Instr.makeSlice 38 (.int .i64 (N : Int)) (.int .i64 (N : Int))).run Try.prog w1 = .ok (.slice (some ⟨w1.heap.size, 0, none⟩) N N) (w1.alloc (.cells (madeCells #[.bool false] N) 4)) := by
      have h := run_make (P := Try.prog) w1 38 4 i0 (.bool false) Try.underlying38 hinf hz0 .i64 .i64 N N (by omega) (Int.le_refl _) (by rw [hby0]; omega) (by omega)
      simpa [hsz0, Value.cells] using h
    have HN := Lib.hid hN
    rw [hN] at h4 ⊢
    clear hC hlen hall hE hN
    by_cases hin : 0 ≤ n ∧ n < (N : Int)
    · obtain ⟨m, rfl⟩ : ∃ m : Nat, n = m := ⟨n.toNat, by omega⟩
      have hmN : m < N := by omega
      clear hin
      have i3 : ¬ (m : Int) < 0 := by omega
      have i4 : ¬ (N : Int) ≤ (m : Int) := by omega
      have HRLT : Hid (∀ k, Reach E m k → k < N) := Lib.hid (fun k hk => by have := hk.lt HLT.out; rw [HN.out] at this; exact this)
      have hq0 : (w1.alloc (.cells (madeCells #[.bool false] N) 4)).heap[w1.heap.size]? = some (.cells (madeCells #[.bool false] N) 4) := heap_alloc_new w1 _
      have hF0 : FlagG (w1.alloc (.cells (madeCells #[.bool false] N) 4)) w1.heap.size N [] :=
        ⟨fun i hi => by rw [cell_of_block hq0, made_at _ _ _ hi]; rfl, fun i => by simp only [World.frozen?, hq0]; simp⟩
      have hb0 : Below w1.heap.size w1 (w1.alloc (.cells (madeCells #[.bool false] N) 4)) := (by repeat' (first | (with_reducible exact Below.refl _ _) | (with_reducible assumption) | (with_reducible refine Below.drew ?_) | (with_reducible refine below_drewN ?_ _) | (with_reducible refine below_iterAt ?_ ?_ _ _) | (with_reducible refine below_iter ?_ ?_ _ _) | (with_reducible refine Below.alloc ?_ ?_ _) | (with_reducible refine Below.setCell ?_ ?_ _) | (with_reducible refine Below.trans ?_ (Below.mono (by assumption) ?_)) | (simp only [sz_alloc, sz_set, sz_drew, sz_drewN, sz_iterAt, sz_iter] at *; omega) | omega | (simp; done) | (simp; omega) | (apply Below.size; assumption) | (simp only [sz_drew, sz_drewN]; apply Below.size; assumption) | (refine Nat.le_trans ?_ (Below.size (by assumption)))))
      have hz0' : w1.heap.size + 1 ≤ (w1.alloc (.cells (madeCells #[.bool false] N) 4)).heap.size := by simp
      have HF0 := Lib.hid hF0
      have HB0 := Lib.hid hb0
      have HZ0 := Lib.hid hz0'
      clear hq0 hF0 hb0 hz0'
      go_wp2_with fail
      clear hms
      go_loopg [11] (2 * N + 1) (fun k av wr => ∃ (o : List Nat) (a : Bool), av = .bool a ∧ 2 * (N - o.length) + a.toNat ≤ k ∧ Hid (o.Nodup ∧ ∀ k ∈ o, Reach E m k) ∧ Hid (a = false → ClosedAt E m o E.length) ∧ Hid (FlagG wr w1.heap.size N o) ∧ Below w1.heap.size w1 wr ∧ w1.heap.size + 1 ≤ wr.heap.size)
      case atStart => exact ⟨[], true, rfl, by simp, Lib.hid ⟨List.nodup_nil, fun k hk => by simp at hk⟩, Lib.hid (fun h => by cases h), HF0, HB0.out, HZ0.out⟩
      case round =>
        clear HF0 HB0 HZ0
        obtain ⟨o0, a, rfl, hk, HO, HCL, HFL, hbel, hwz⟩ := hrel
        cases a
        · have HRES := Lib.hid (reach_of_closed (HCL.out rfl) HO.out.2)
          have hup : AboveIs ns (xs.map TxAt.l) (m : Int) (upN o0 N) 0 := ⟨0, 0, HC.out, .inr ⟨rfl, .inr ⟨m, rfl, by rw [HN.out]; exact hmN, upN_sorted _ _, fun k => by rw [HEE.out, upN_mem (fun k hk => HRLT.out k (HO.out.2 k hk))]; exact HRES.out k, rfl⟩⟩⟩
          have HUP := Lib.hid hup
          have hlN := upN_len o0 N
          have HLN : Hid ((upN o0 N).length ≤ 4096) := Lib.hid (by omega)
          obtain ⟨R, hR⟩ : ∃ R, wr.heap.size = R := ⟨_, rfl⟩
          have hown0 := World.ownsRow_lit (base := R) (e := 3) (size := 1) wr #[] 0 (by omega) (by decide) rfl
          rw [hR] at hown0 hwz
          have hFL0 : Hid (FlagG (wr.alloc (.cells #[] 3)) w1.heap.size N o0) := Lib.hid (HFL.out.same (alloc_old2 _ (by omega)))
          have hb0 : Below w1.heap.size w1 (wr.alloc (.cells #[] 3)) := hbel.alloc hbel.size _
          have hz0' : R + 1 ≤ (wr.alloc (.cells #[] 3)).heap.size := by rw [sz_alloc]; omega
          have HOWN0 : Hid ((wr.alloc (.cells #[] 3)).ownsRow R 3 1 (.slice (some ⟨R, 0, none⟩) 0 0) (upN o0 0).length ((upN o0 0).map nV)) := Lib.hid hown0
          have HB0 := Lib.hid hb0
          have HZ0 := Lib.hid hz0'
          have hRw : w1.heap.size < R := by omega
          clear hup hlN hown0 hb0 hz0' HRES
          go_wp2_with fail
          clear hR
          generalize wr.alloc (.cells #[] 3) = wz at *
          go_loopg [15, 16] N (fun k ov iv wq => ∃ i : Nat, iv = .int .i64 i ∧ i ≤ N ∧ N - i ≤ k ∧ Hid (wq.ownsRow R 3 1 ov (upN o0 i).length ((upN o0 i).map nV)) ∧ Hid (FlagG wq w1.heap.size N o0) ∧ Below w1.heap.size w1 wq ∧ R + 1 ≤ wq.heap.size)
          case atStart => exact ⟨0, rfl, by omega, by omega, HOWN0, hFL0, HB0.out, HZ0.out⟩
          case round =>
            clear hFL0 HOWN0 HB0 HZ0
            obtain ⟨i, rfl, hi, hik, HOW, HF, hbq, hwq⟩ := hrel
            obtain ⟨B, cb, hov⟩ := own_shape HOW.out
            have HOWN := HOW
            rw [hov] at HOWN
            subst hov
            clear HOW
            by_cases hlt : i < N
            · have i1 : (i : Int) < (N : Int) := by omega
              have i2 : (0 : Int) ≤ (i : Int) := by omega
              have kf := HF.out.flag i hlt
              have hsu := upN_succ o0 i
              have hul := upN_len o0 i
              cases hc : o0.contains i
              · rw [hc] at kf hsu
                have HOW2 : Hid (_) := HOWN
                rw [show upN o0 i = upN o0 (i + 1) by rw [hsu]; simp] at HOW2
                have HSU := Lib.hid hsu
                have hlen : (upN o0 (i + 1)).length = (upN o0 i).length := by rw [hsu]; simp
                have HLE := Lib.hid hlen
                clear hc hsu hul hlen
                go_wp2_with fail
                go_roundg (N - (i + 1))
                case measure => omega
                case rel => exact ⟨i + 1, by go_num, by omega, by omega, by rw [HLE.out] at HOW2 ⊢; exact HOW2, HF, hbq, hwq⟩
              · rw [hc] at kf hsu
                rw [if_pos rfl] at hsu
                obtain ⟨u, hu⟩ : ∃ u, upN o0 i = u := ⟨_, rfl⟩
                rw [hu] at HOWN hsu hul
                have HSU := Lib.hid hsu
                have hown1 : (wr.alloc (.cells #[.int .i64 (i : Int)] 3)).ownsRow R 3 1 (.slice B u.length cb) u.length (u.map nV) := HOWN.out.alloc _
                have hrd1 := rd_one wr i 3
                have hz1 : R ≤ (wr.alloc (.cells #[.int .i64 (i : Int)] 3)).heap.size := by rw [sz_alloc]; omega
                have hol1 : u.length + [i].length ≤ 17000000 := by simp; omega
                clear hc hsu hul
                rw [hu]
                go_wp2_with (first
                  | (at_builtin; refine wpList_append_row _ rfl _ _ rfl R hz1 _ u rfl hown1 (some ⟨wr.heap.size, 0, none⟩) 1 [i] rfl hrd1 hol1 ?_)
                  | fail)
                intro v7 w7 hown7 hg7
                have HOW7 : Hid (w7.ownsRow R 3 1 v7 (upN o0 (i + 1)).length ((upN o0 (i + 1)).map nV)) := Lib.hid (by rw [HSU.out, List.length_append, List.map_append]; exact hown7)
                have HF7 : Hid (FlagG w7 w1.heap.size N o0) := Lib.hid (HF.out.same ((hg7.block _ (by rw [sz_alloc]; omega) (fun e => by have := (hown1.lt _ e.symm).1; omega)).trans (alloc_old2 _ (by omega))))
                have hb7 : Below w1.heap.size w1 w7 := (hbq.alloc hbq.size _).grown hg7 (by rw [sz_alloc]; omega) (fun j hj => by have := (hown1.lt j hj).1; omega)
                have hz7 : R + 1 ≤ w7.heap.size := by have := hg7.size; rw [sz_alloc] at this; omega
                clear hown7 hg7 hown1 hrd1 hz1 hol1
                go_wp2_with fail
                go_roundg (N - (i + 1))
                case measure => omega
                case rel => exact ⟨i + 1, by go_num, by omega, by omega, HOW7, HF7, hb7, hz7⟩
            · have i1 : ¬ (i : Int) < (N : Int) := by omega
              have hiN : i = N := by omega
              subst hiN
              obtain ⟨A7, c7, e7, hrd7, _⟩ := own_rdI HOWN.out
              cases e7
              have HRD := Lib.hid hrd7
              clear hrd7
              go_wp2_with fail
              refine bodyPost_ret (v := .tuple #[.slice B (upN o0 i).length cb, .int .i64 0]) (by simp [results, Try.results13, go_sem]) rfl ⟨_, 0, rfl, upN o0 i, HUP.out, ⟨B, ⟨cb, rfl⟩, HRD.out⟩, HLN.out, hbq⟩
        · go_wp2_with fail
          go_loopg [11, 12] N (fun k av iv wr => ∃ (o : List Nat) (a : Bool) (i : Nat), av = .bool a ∧ iv = .int .i64 i ∧ i ≤ N ∧ N - i ≤ k ∧ Hid (PassAt E m o0 o a i) ∧ Hid (FlagG wr w1.heap.size N o) ∧ Below w1.heap.size w1 wr ∧ w1.heap.size + 1 ≤ wr.heap.size)
          case atStart => exact ⟨o0, false, 0, rfl, rfl, by omega, by omega, Lib.hid (PassAt.start HO.out), HFL, hbel, hwz⟩
          case round =>
            clear HFL hbel hwz
            obtain ⟨o, a, i, rfl, rfl, hi, hik, HPA, HFL, hbel, hwz⟩ := hrel
            by_cases hlt : i < N
            · have i1 : (i : Int) < (N : Int) := by omega
              have i2 : (0 : Int) ≤ (i : Int) := by omega
              have i5 : (i : Int) < (xs.length : Int) := by have := HLEN.out; have := HN.out; omega
              have hiE : i < E.length := by rw [HEL.out, HN.out]; exact hlt
              have hix : i < xs.length := by have := HLEN.out; have := HN.out; omega
              obtain ⟨b, off, hbe, hg0⟩ := rdA_at HD.out hix
              clear hg0
              subst hbe
              have HG : Hid (∀ wq, Below w1.heap.size w1 wq → wq.cell? ⟨b, off + i, none⟩ = some (.slice (xs[i]'hix).A (xs[i]'hix).l.length (xs[i]'hix).c)) := Lib.hid (fun wq h => by obtain ⟨b', off', e, g⟩ := rdA_at (HD.out.below h) hix; cases e; exact g)
              have hxo := (HX.out _ (List.getElem_mem hix))
              have hea := HEAT.out i hiE hix
              have hal := HALL.out (xs[i]'hix).l (List.mem_map_of_mem (List.getElem_mem hix))
              generalize xs[i]'hix = x at *
              obtain ⟨xl, xA, xc⟩ := x
              dsimp only at HG hal hea
              have HXO := Lib.hid hxo
              have HAL := Lib.hid hal
              have HEA := Lib.hid hea
              have hxn : xl.length ≤ 9223372036854775807 := hxo.len
              have HROW0 : Hid (RowAt E m o0 o a i (xl.map fun s => ns.idxOf s) 0) := Lib.hid (RowAt.start _ HPA.out)
              clear hxo hal hea
              go_wp2_with fail
              go_loopg [11, 13] xl.length (fun k av kv wq => ∃ (o : List Nat) (a : Bool) (q : Nat), av = .bool a ∧ kv = .int .i64 q ∧ q ≤ xl.length ∧ xl.length - q ≤ k ∧ Hid (RowAt E m o0 o a i (xl.map fun s => ns.idxOf s) q) ∧ Hid (FlagG wq w1.heap.size N o) ∧ Below w1.heap.size w1 wq ∧ w1.heap.size + 1 ≤ wq.heap.size)
              case atStart => exact ⟨o, a, 0, rfl, rfl, by omega, by omega, HROW0, HFL, hbel, hwz⟩
              case round =>
                clear HROW0 HFL hbel hwz HPA
                obtain ⟨o, a, q, rfl, rfl, hq, hqk, HROW, HFL, hbel, hwz⟩ := hrel
                have g0 := HG.out _ hbel
                by_cases hlq : q < xl.length
                · have kf := HFL.out.flag i hlt
                  by_cases him : o.contains i = false ∧ i ≠ m
                  · obtain ⟨h1, h2⟩ := him
                    rw [h1] at kf
                    have HPA2 := Lib.hid (HROW.out.pass.skip (fun h => by rw [List.contains_iff_mem.2 h] at h1; cases h1) h2)
                    have h3 : ¬ ((i : Int) = (m : Int)) := by omega
                    have h4' : ((i : Int) == (m : Int)) = false := by rw [beq_eq_false_iff_ne]; exact h3
                    have i8 : (q : Int) < (xl.length : Int) := by omega
                    clear h1 h2
                    go_wp2_with fail
                    go_roundg (N - (i + 1))
                    case measure => omega
                    case rel => exact ⟨o, a, i + 1, rfl, by go_num, by omega, by omega, HPA2, HFL, hbel, hwz⟩
                  · obtain ⟨b', off', hbe, g1⟩ := rdT_at (HXO.out.below hbel).rd hlq
                    subst hbe
                    have i8 : (0 : Int) ≤ (q : Int) := by omega
                    have i9 : (q : Int) < (xl.length : Int) := by omega
                    have hsn := HAL.out _ (List.getElem_mem hlq)
                    have hrow : (xl.map fun s => ns.idxOf s)[q]'(by simpa using hlq) = ns.idxOf (xl[q]'hlq) := by simp
                    have hrw := hrow
                    generalize xl[q]'hlq = s at *
                    have hfc := find_any A ns c s wr (HA.out.below hbel) hn
                    have hyN : ns.idxOf s < N := by rw [← HN.out]; exact List.idxOf_lt_length_iff.2 hsn
                    unfold findV at hfc
                    rw [if_pos hsn, HN.out] at hfc
                    generalize ns.idxOf s = y at *
                    have kf2 := HFL.out.flag y hyN
                    have kfr := HFL.out.free
                    have i10 : (0 : Int) ≤ (y : Int) := by omega
                    have i11 : (y : Int) < (N : Int) := by omega
                    have HFC := Lib.hid hfc
                    have HRQ : Hid (∃ h, (xl.map fun s => ns.idxOf s)[q]'h = y) := Lib.hid ⟨_, hrow⟩
                    have HRE : Hid (Reach E m y) := Lib.hid (by
                      have h1 : E[i]? = some (xl.map fun s => ns.idxOf s) := by rw [List.getElem?_eq_getElem hiE, HEA.out]
                      have h2 : y ∈ (xl.map fun s => ns.idxOf s) := by obtain ⟨h, e⟩ := HRQ.out; rw [← e]; exact List.getElem_mem h
                      by_cases hio : i ∈ o
                      · exact .step (HROW.out.pass.re i hio) h1 h2
                      · have : i = m := Classical.byContradiction fun h => him ⟨by cases hh : o.contains i; rfl; exact absurd (List.contains_iff_mem.1 hh) hio, h⟩
                        subst this; exact .one h1 h2)
                    have hz2 : w1.heap.size + 1 ≤ (wr.setCell ⟨w1.heap.size, y, none⟩ (.bool true)).heap.size := by simp; exact hwz
                    have hbs : Below w1.heap.size w1 (wr.setCell ⟨w1.heap.size, y, none⟩ (.bool true)) := hbel.setCell (Nat.le_refl _) _
                    have HZ2 := Lib.hid hz2
                    have HBS := Lib.hid hbs
                    have hnext : ∃ o2 : List Nat, Hid (RowAt E m o0 o2 (a || !(o.contains y)) i (xl.map fun s => ns.idxOf s) (q + 1)) ∧ Hid (FlagG (wr.setCell ⟨w1.heap.size, y, none⟩ (.bool true)) w1.heap.size N o2) := by
                      obtain ⟨hq1, hq2⟩ := HRQ.out
                      cases hc : o.contains y
                      · have hno : y ∉ o := fun h => by rw [List.contains_iff_mem.2 h] at hc; cases hc
                        exact ⟨o ++ [y], Lib.hid (by have := HROW.out.new hq1 hq2 hno HRE.out; cases a <;> exact this), Lib.hid (HFL.out.mark hyN)⟩
                      · have hyo := List.contains_iff_mem.1 hc
                        exact ⟨o, Lib.hid (by have := HROW.out.old hq1 hq2 hyo; cases a <;> exact this), Lib.hid (HFL.out.again hyN hyo)⟩
                    obtain ⟨o2, HROW2, HFL2⟩ := hnext
                    clear hfc hsn hrow hrw hz2 hbs HRE HRQ
                    have hcond : (o.contains i = true) ∨ (o.contains i = false ∧ i = m) := by
                      cases hh : o.contains i
                      · exact .inr ⟨rfl, Classical.byContradiction fun h => him ⟨hh, h⟩⟩
                      · exact .inl rfl
                    clear him
                    generalize o.contains i = Zi at *
                    generalize o.contains y = Zy at *
                    rcases hcond with rfl | ⟨rfl, rfl⟩
                    · go_wp2_with fail
                      refine HFC.out.mono ?_
                      rintro e w' ⟨rfl, rfl⟩
                      cases a
                      · go_wp2_with fail
                        go_roundg (xl.length - (q + 1))
                        case measure => omega
                        case rel => exact ⟨o2, _, q + 1, rfl, by go_num, by omega, by omega, HROW2, HFL2, HBS.out, HZ2.out⟩
                      · go_wp2_with fail
                        go_roundg (xl.length - (q + 1))
                        case measure => omega
                        case rel => exact ⟨o2, _, q + 1, rfl, by go_num, by omega, by omega, HROW2, HFL2, HBS.out, HZ2.out⟩
                    · go_wp2_with fail
                      refine HFC.out.mono ?_
                      rintro e w' ⟨rfl, rfl⟩
                      cases a
                      · go_wp2_with fail
                        go_roundg (xl.length - (q + 1))
                        case measure => omega
                        case rel => exact ⟨o2, _, q + 1, rfl, by go_num, by omega, by omega, HROW2, HFL2, HBS.out, HZ2.out⟩
                      · go_wp2_with fail
                        go_roundg (xl.length - (q + 1))
                        case measure => omega
                        case rel => exact ⟨o2, _, q + 1, rfl, by go_num, by omega, by omega, HROW2, HFL2, HBS.out, HZ2.out⟩
                · have i9 : ¬ (q : Int) < (xl.length : Int) := by omega
                  have HPA2 := Lib.hid (HROW.out.end_ (by simp; omega) hiE HEA.out)
                  go_wp2_with fail
                  go_roundg (N - (i + 1))
                  case measure => omega
                  case rel => exact ⟨o, a, i + 1, rfl, by go_num, by omega, by omega, HPA2, HFL, hbel, hwz⟩
            · have i1 : ¬ (i : Int) < (N : Int) := by omega
              have hol : o.length ≤ N := by
                have := len_subN o (List.range N) HPA.out.nd (fun x hx => List.mem_range.2 (HRLT.out x (HPA.out.re x hx)))
                simpa using this
              have hEN : E.length = N := by rw [HEL.out, HN.out]
              have hme : 2 * (N - o.length) + a.toNat < 2 * (N - o0.length) + 1 := by
                cases a
                · rw [(HPA.out.no rfl).1]; simp
                · have := HPA.out.yes rfl; simp; omega
              have HO2 : Hid (o.Nodup ∧ ∀ k ∈ o, Reach E m k) := Lib.hid ⟨HPA.out.nd, HPA.out.re⟩
              have HCL2 : Hid (a = false → ClosedAt E m o E.length) := Lib.hid (fun h j hj => (HPA.out.no h).2 j (by omega))
              have HME := Lib.hid hme
              clear hol hEN hme
              go_wp2_with fail
              go_roundg (2 * (N - o.length) + a.toNat)
              case measure => have := HME.out; simp at hk; omega
              case rel => exact ⟨o, a, rfl, Nat.le_refl _, HO2, HCL2, HFL, hbel, hwz⟩
    · have hA : AboveIs ns (xs.map TxAt.l) n [] 1 := ⟨0, 0, HC.out, .inr ⟨rfl, .inl ⟨by rw [HN.out]; exact hin, rfl, rfl⟩⟩⟩
      have HA := Lib.hid hA
      have HNP := HN.out
      clear hA HEE HEL HLT HC HEAT
      by_cases h0 : n < 0
      · clear hin
        go_wp2_with fail
        refine bodyPost_ret (v := .tuple #[.slice none 0 0, .int .i64 1]) (by simp [results, Try.results13, go_sem]) rfl ⟨_, 1, [], rfl, HA.out, ⟨none, 0, rfl, RdL.nil_ _ _ _⟩, by simp, Below.refl _ _⟩
      · have h1 : (N : Int) ≤ n := by omega
        have h2 : (0 : Int) ≤ n := by omega
        clear hin HNP
        go_wp2_with fail
        all_goals refine bodyPost_ret (v := .tuple #[.slice none 0 0, .int .i64 1]) (by simp [results, Try.results13, go_sem]) rfl (by
          first
            | exact ⟨_, 1, [], rfl, HA.out, ⟨none, 0, rfl, RdL.nil_ _ _ _⟩, by simp, Below.refl _ _⟩
            | exact ⟨_, 1, rfl, [], HA.out, ⟨none, ⟨0, rfl⟩, RdL.nil_ _ _ _⟩, by simp, Below.refl _ _⟩)
  · have hO : AboveIs ns (xs.map TxAt.l) n [] e0 := ⟨n0, e0, hC, .inl ⟨hz, rfl, rfl⟩⟩
    have HO := Lib.hid hO
    have hzb : (e0 != 0) = true := by rw [bne_iff_ne]; exact hz
    clear hC hO hz
    go_wp2_with fail
    refine bodyPost_ret (v := .tuple #[.slice none 0 0, .int .i64 e0]) (by simp [results, Try.results13, go_sem]) rfl ⟨_, e0, [], rfl, HO.out, ⟨none, 0, rfl, RdL.nil_ _ _ _⟩, by simp, (by repeat' (first | (with_reducible exact Below.refl _ _) | (with_reducible assumption) | (with_reducible refine Below.drew ?_) | (with_reducible refine below_drewN ?_ _) | (with_reducible refine below_iterAt ?_ ?_ _ _) | (with_reducible refine below_iter ?_ ?_ _ _) | (with_reducible refine Below.alloc ?_ ?_ _) | (with_reducible refine Below.setCell ?_ ?_ _) | (with_reducible refine Below.trans ?_ (Below.mono (by assumption) ?_)) | (simp only [sz_alloc, sz_set, sz_drew, sz_drewN, sz_iterAt, sz_iter] at *; omega) | omega | (simp; done) | (simp; omega) | (apply Below.size; assumption) | (simp only [sz_drew, sz_drewN]; apply Below.size; assumption) | (refine Nat.le_trans ?_ (Below.size (by assumption)))))⟩
end Go.Proofs.Ythmmfghcfgbblaa
