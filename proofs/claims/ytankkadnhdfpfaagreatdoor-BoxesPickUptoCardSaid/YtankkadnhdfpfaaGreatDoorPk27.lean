import Derived.Test.YtankkadnhdfpfaaGreatDoorPk26
import Derived.Lib.AppendZeros
/- slices.Clone of up to 2^48 bytes, Make of it; slices.Grow, Concat; Meet of two that are both "all but some". -/
set_option linter.unusedSimpArgs false
set_option linter.unusedVariables false
namespace Go.Proofs.YtankkadnhdfpfaaGreatDoor.Wd
open Go.RowKit Go.Sort Go.Lib

theorem infoStr : ∃ i0, Tryz.prog.info? 9 = some i0 ∧ i0.zero = some (.string ⟨#[]⟩) ∧ i0.size = 1 ∧ i0.bytes = 16 := by
  obtain ⟨i0, h1, h2, h3, h4⟩ := info_parts (show (Tryz.prog.info? 9).map (fun i => (i.zero, i.size, i.bytes)) = some (some (.string ⟨#[]⟩), 1, 16) by kernel_rfl)
  exact ⟨i0, h1, h2, h3, h4⟩
theorem enc_at (l : List Tx) {j : Nat} {v : Value} (h : (l.map encStr)[j]? = some v) : ∃ h2 : j < l.length, v = encStr (l[j]'h2) := by
  rw [List.getElem?_map, Option.map_eq_some_iff] at h
  obtain ⟨x, hx, rfl⟩ := h
  obtain ⟨h2, rfl⟩ := List.getElem?_eq_some_iff.1 hx
  exact ⟨h2, rfl⟩
theorem news_of {w : World} {b off : Nat} {l : List Tx} (hr : RdL w 1 (some ⟨b, off, none⟩) (l.map tC)) (j : Nat) (v : Value) (h : (l.map encStr)[j]? = some v) : w.cell? ((⟨b, off, none⟩ : Addr).add j) = some v := by
  obtain ⟨h2, rfl⟩ := enc_at l h
  obtain ⟨b2, o2, e, hx⟩ := hr.at_ h2
  cases e
  have := hx.get 0 (v := encStr (l[j]'h2)) rfl
  rw [Nat.mul_one, Nat.add_zero] at this
  unfold Addr.add
  split
  · rename_i h0; subst h0; simpa using this
  · exact this

set_option maxRecDepth 100000 in
set_option maxHeartbeats 800000 in
theorem cloneN (b off : Nat) (l : List Tx) (c : Nat) (w : World) (hr : RdL w 1 (some ⟨b, off, none⟩) (l.map tC)) (hne : 0 < l.length) (hn : l.length * 16 ≤ 281474976710656) :
    Calls Tryz.prog 129 #[.slice (some ⟨b, off, none⟩) l.length c] w fun e w' => ∃ cap, e = .returned (.slice (some ⟨w.heap.size + 1, 0, none⟩) l.length cap) ∧ l.length ≤ cap ∧ OwnF w' w.heap.size (some ⟨w.heap.size + 1, 0, none⟩) l ∧ Below w.heap.size w w' := by
  obtain ⟨i0, hinf, hz, hsz, hby⟩ := infoStr
  have HN := Lib.hid (news_of (hr.below (show Below w.heap.size w (w.alloc (.cells #[] 9)) from bel)))
  have HFT : Hid (Builtin.nextslicecap (0 + l.length) 0 * i0.bytes ≤ 281474976710656) := Lib.hid (by rw [Nat.zero_add, nextslicecap_zero hne, hby]; exact hn)
  clear hr
  have q22 : ∀ (w : World) (a : Option Addr) (n c n' c' : Nat), (binOp .eql 32 (.slice a n c) (.slice none n' c')).run Tryz.prog w = .ok (.bool a.isNone) w := fun w a n c n' c' => Lib.run_eql_slice_nil w _ _ a n c n' c' Tryz.underlying32
  go_enter Tryz.func129, Tryz.ntmps129
  go_wp2_with (first
    | (at_builtin; refine Lib.wpList_append_run _ rfl _ _ _ _ rfl _ _ rfl rfl _ _ (run_append_grow _ 32 _ 9 i0 (.string ⟨#[]⟩) Tryz.underlying32 hinf hz ⟨w.heap.size, 0, none⟩ 0 0 [] (by simp) (by simp) ⟨b, off, none⟩ l.length c (l.map encStr) (by rw [hsz]; simp) HN.out (by omega) (by omega) HFT.out) ?_)
    | fail)
  have hge := grownCap_ge (w.alloc (.cells #[] 9)) l.length 0 9
  generalize grownCap (w.alloc (.cells #[] 9)) l.length 0 9 = cap at *
  generalize Builtin.zeroCells #[Value.string ⟨#[]⟩] (cap - l.length) = Z at *
  have hb2 : ((w.alloc (.cells #[] 9)).alloc (.cells ((l.map encStr).toArray ++ Z) 9)).drew.heap[w.heap.size + 1]? = some (.cells ((l.map encStr).toArray ++ Z) 9) := by
    have := heap_alloc_new (w.alloc (.cells #[] 9)) (.cells ((l.map encStr).toArray ++ Z) 9)
    rw [show (w.alloc (.cells #[] 9)).heap.size = w.heap.size + 1 by simp] at this
    exact this
  have hbw : Below w.heap.size w ((w.alloc (.cells #[] 9)).alloc (.cells ((l.map encStr).toArray ++ Z) 9)).drew := bel
  generalize ((w.alloc (.cells #[] 9)).alloc (.cells ((l.map encStr).toArray ++ Z) 9)).drew = w9 at *
  have hown : OwnF w9 w.heap.size (some ⟨w.heap.size + 1, 0, none⟩) l := by
    refine .inr ⟨w.heap.size + 1, rfl, by omega, lt_of_block hb2, fun j hj => ?_, fun o => by simp [World.frozen?, hb2]⟩
    show _ = some (encStr (l[j]?.getD []))
    rw [cell_of_block hb2, getD_at hj, Array.getElem?_append_left (by simpa using hj)]
    simp [hj]
  refine bodyPost_ret (v := .slice (some ⟨w.heap.size + 1, 0, none⟩) l.length cap) (by simp [results, Tryz.results129, go_sem]) rfl ⟨cap, rfl, hge, hown, hbw⟩
theorem cloneB (A : Option Addr) (l : List Tx) (c : Nat) (w : World) (hr : RdL w 1 A (l.map tC)) (hn : l.length * 16 ≤ 281474976710656) :
    Calls Tryz.prog 129 #[.slice A l.length c] w fun e w' => ∃ A' cap, e = .returned (.slice A' l.length cap) ∧ l.length ≤ cap ∧ OwnF w' w.heap.size A' l ∧ Below w.heap.size w w' ∧ (A' = none → l.length = 0) := by
  by_cases hne : l = []
  · subst hne
    exact cloneT A [] c w hr (by decide)
  · obtain ⟨b, off, rfl, _⟩ := cellsOf_rd hr hne
    refine (cloneN b off l c w hr (List.length_pos_iff.2 hne) hn).mono ?_
    rintro e w' ⟨cap, rfl, h1, h2, h3⟩
    exact ⟨_, cap, rfl, h1, h2, h3, fun h => by cases h⟩

set_option maxHeartbeats 800000 in
theorem makeBig (all : Bool) (A : Option Addr) (l : List Tx) (c : Nat) (w : World) (hE : Env w) (hr : RdL w 1 A (l.map tC)) (hs : ∀ t ∈ l, t.length ≤ 9223372036854775807) (hn : l.length * 16 ≤ 281474976710656) :
    Calls Tryz.prog 85 #[.bool all, .slice A l.length c] w fun e w' => ∃ A', e = .returned (.agg #[.bool all, .slice A' (norm l).length (norm l).length]) ∧ OwnT w' w.heap.size A' (norm l) ∧ Below w.heap.size w w' := by
  have eg : ∀ args W, (callFunc 130 args).run Tryz.prog W = .ok (.enter 130 args) W := enters_of Tryz.func130 (by kernel_rfl) rfl
  have HEG := Lib.hid eg
  have HS := Lib.hid hs
  have HR := Lib.hid hr
  clear eg hs hr
  go_enter Tryz.func85, Tryz.ntmps85
  go_wp2_with fail
  generalize hEu : w.alloc _ = u
  have hbu : Below w.heap.size w u := (by rw [← hEu]; exact bel)
  have lu_0 : w.heap.size < u.heap.size := lsz hEu
  have qu_0 : ∀ o, u.cell? ⟨w.heap.size, o, none⟩ = _ := fun o => congrArg (fun W : World => W.cell? ⟨w.heap.size, o, none⟩) hEu.symm
  have ru_0 : ∀ o, u.frozen? ⟨w.heap.size, o, none⟩ = _ := fun o => congrArg (fun W : World => W.frozen? ⟨w.heap.size, o, none⟩) hEu.symm
  clear hEu
  have hszu : w.heap.size ≤ u.heap.size := hbu.size
  refine (cloneB A l c u (HR.out.below hbu) hn).mono ?_
  rintro e w1 ⟨A1, cap, rfl, hcap, ho, hb1, hA1⟩
  have hz1 := hb1.size
  have HO := Lib.hid ho
  clear ho
  go_wp2_with fail
  refine (deleteT 130 textB A1 l cap u.heap.size w1 hz1 HO.out hcap (by omega) (fun x hx W hW hsz => make1_any x W (hE.below (hbu.trans ((hb1.trans hW).mono hszu))) (HS.out x hx)) HEG.out).mono ?_
  rintro e w2 ⟨rfl, ho2, hb2⟩
  have hz2 := hb2.size
  have hl2 : (l.filter textB).length ≤ l.length := List.length_filter_le _ _
  have HO2 := Lib.hid ho2
  clear ho2
  go_wp2_with fail
  refine (sortT A1 _ cap u.heap.size w2 (by omega) HO2.out (by omega)).mono ?_
  rintro e w3 ⟨rfl, ho3, hb3⟩
  have hz3 := hb3.size
  have HO3 := Lib.hid ho3
  clear ho3
  have hl3 : (srt (l.filter textB)).length = (l.filter textB).length := by simp [srt]
  have hl4 := norm_length l
  go_wp2_with fail
  refine ((hl3 ▸ compactT A1 _ cap u.heap.size w3 (by omega) HO3.out (by omega) (by omega) :)).mono ?_
  rintro e w4 ⟨rfl, ho4, hb4⟩
  have hz4 := hb4.size
  have HO4 : Hid (OwnT w4 u.heap.size A1 (norm l)) := ho4
  clear ho4
  have hA4 : A1 = none → (norm l).length = 0 := fun h => by have := hA1 h; omega
  go_wp2_with fail
  refine (clip_any _ _ (norm l).length cap A1 rfl hA4 (by omega)).mono ?_
  rintro e w5 ⟨rfl, rfl⟩
  have hbx : Below u.heap.size u w5 := ((hb1.trans hb2).trans hb3).trans hb4
  have q5 := fun o => (hbx.cell (p := ⟨w.heap.size, o, none⟩) lu_0).trans (qu_0 o)
  have r5 := fun o => (hbx.frozen (p := ⟨w.heap.size, o, none⟩) lu_0).trans (ru_0 o)
  have l5 : w.heap.size < w5.heap.size := by omega
  have hb5 : Below w.heap.size w w5 := hbu.trans (hbx.mono hszu)
  clear hbx qu_0 ru_0 hb1 hb2 hb3 hb4 hA4 hA1
  go_wp2_with fail
  have hfin : OwnT ((w5.setCell ⟨w.heap.size, 0, none⟩ (.bool all)).setCell ⟨w.heap.size, 1, none⟩ (.slice A1 (norm l).length (norm l).length)) u.heap.size A1 (norm l) := by
    exact (HO4.out.set_ lu_0 0 _).set_ lu_0 1 _
  refine bodyPost_ret (v := .agg #[.bool all, .slice A1 (norm l).length (norm l).length]) (by simp [results, Tryz.results85, go_sem, *]) rfl ⟨A1, rfl, hfin.base hszu, bel⟩
end Go.Proofs.YtankkadnhdfpfaaGreatDoor.Wd

/- slices.Grow from nil, Concat of two rows of texts. -/
set_option linter.unusedSimpArgs false
set_option linter.unusedVariables false
namespace Go.Proofs.YtankkadnhdfpfaaGreatDoor.Wd
open Go.RowKit Go.Sort Go.Lib

def RoomT (w : World) (base : Nat) (v : Value) (l : List Tx) (n : Nat) : Prop :=
  (n = 0 ∧ l = [] ∧ v = .slice none 0 0) ∨ ∃ g cap, v = .slice (some ⟨g, 0, none⟩) l.length cap ∧ n ≤ cap ∧ w.ownsRow base 9 1 v l.length (l.map encStr)

set_option maxRecDepth 100000 in
set_option maxHeartbeats 800000 in
theorem grow0_any (w : World) : Calls Tryz.prog 160 #[.slice none 0 0, .int .i64 0] w fun e w' => e = .returned (.slice none 0 0) ∧ w = w' := by
  go_enter Tryz.func160, Tryz.ntmps160
  go_wp2_with fail
  go_ret
  exact ⟨rfl, rfl⟩
set_option maxRecDepth 100000 in
set_option maxHeartbeats 800000 in
theorem grow_any (n : Nat) (w : World) (h0 : 0 < n) (hn : n * 16 ≤ 281474976710656) :
    Calls Tryz.prog 160 #[.slice none 0 0, .int .i64 n] w fun e w' => ∃ cap, e = .returned (.slice (some ⟨w.heap.size, 0, none⟩) 0 cap) ∧ n ≤ cap ∧ w'.ownsRow w.heap.size 9 1 (.slice (some ⟨w.heap.size, 0, none⟩) 0 cap) 0 [] ∧ Below w.heap.size w w' := by
  obtain ⟨i0, hinf, hz, hsz, hby⟩ := infoStr
  have HB : Hid (n * i0.bytes ≤ 281474976710656) := Lib.hid (by rw [hby]; exact hn)
  have HSZ : Hid (0 < i0.size) := Lib.hid (by omega)
  have hw : IntKind.i64.wrap (n : Int) = n := IntWalk.i64_in _ (by omega)
  have e1 : ¬ (n : Int) < 0 := by omega
  have e2 : (0 : Int) < (n : Int) := by omega
  have HM : Hid ((n : Int) ≤ 9223372036854775807) := Lib.hid (by omega)
  clear hn
  go_enter Tryz.func160, Tryz.ntmps160
  go_wp2_with (at_builtin; refine Lib.wpList_append_run _ rfl _ _ _ _ rfl _ _ rfl rfl _ _ (run_append_nil_zeros _ 32 3 _ 9 i0 (.string ⟨#[]⟩) .i64 .i64 Tryz.underlying32 Tryz.underlying3 hinf hz n h0 HSZ.out HM.out HB.out) ?_)
  have hge := grownCap_ge w n 0 9
  have hle := grownCap_le_maxLen w n 0 9 (by have := HM.out; unfold maxLen; omega)
  generalize grownCap w n 0 9 = cap at *
  obtain ⟨Z, hZ⟩ : ∃ Z, Builtin.zeroCells #[Value.string ⟨#[]⟩] n ++ Builtin.zeroCells #[Value.string ⟨#[]⟩] (cap - n) = Z := ⟨_, rfl⟩
  rw [hZ]
  have hZs : Z.size = cap := by rw [← hZ]; simp [size_zeroCells]; omega
  have hb2 : (w.alloc (.cells Z 9)).drew.heap[w.heap.size]? = some (.cells Z 9) := heap_alloc_new w _
  have hbw : Below w.heap.size w (w.alloc (.cells Z 9)).drew := bel
  have hown : (w.alloc (.cells Z 9)).drew.ownsRow w.heap.size 9 1 (.slice (some ⟨w.heap.size, 0, none⟩) 0 cap) 0 [] :=
    ⟨rfl, .inr ⟨w.heap.size, cap, Z, rfl, Nat.le_refl _, hb2, Nat.zero_le _, hle, by omega, rfl⟩⟩
  generalize (w.alloc (.cells Z 9)).drew = w9 at *
  refine bodyPost_ret (v := .slice (some ⟨w.heap.size, 0, none⟩) 0 cap) (by simp [results, Tryz.results160, go_sem]) rfl ⟨cap, rfl, hge, hown, hbw⟩

set_option maxRecDepth 100000 in
theorem appendT (base : Nat) (v : Value) (acc l : List Tx) (A : Option Addr) (c n : Nat) (ty : TypeId) (w : World) (hb : base ≤ w.heap.size) (hv : RoomT w base v acc n) (hr : RdL w 1 A (l.map tC)) (hn : acc.length + l.length ≤ n) :
    ∃ v' w', (Builtin.append_ #[32, 32] ty #[v, .slice A l.length c]).run Tryz.prog w = .ok v' w' ∧ RoomT w' base v' (acc ++ l) n ∧ Below base w w' := by
  obtain ⟨i0, hinf, hz, hsz, hby⟩ := infoStr
  have ht := Tryz.underlying32
  by_cases hl : l = []
  · subst hl
    rcases hv with ⟨rfl, rfl, rfl⟩ | ⟨g, cap, rfl, h1, h2⟩
    · refine ⟨.slice none 0 0, w, ?_, .inl ⟨rfl, rfl, rfl⟩, Below.refl _ _⟩
      cases A <;> simp [Builtin.append_, run_underlying ht, sizeOf, typeInfo, hinf, Builtin.lenOf, Builtin.firstCells, loadCells, loadCellsFrom]
    · cases A with
      | none => exact ⟨_, w, run_append_owned_none (P := Tryz.prog) w base _ ty _ i0 1 ht hinf _ _ _ h2, .inr ⟨g, cap, by rw [List.append_nil], h1, by rw [List.append_nil]; exact h2⟩, Below.refl _ _⟩
      | some a =>
        obtain ⟨w', hrun, ho, hg⟩ := run_append_fits (P := Tryz.prog) w base 32 ty 9 i0 1 ht hinf hsz g acc.length cap (acc.map encStr) h2 a 0 c [] (by simp) (by simp) (by simp) (by
          rcases h2.2 with ⟨h, _⟩ | ⟨g', cap', cur, h, _, _, hnc, _⟩
          · cases h
          · injection h with _ _ h3; omega)
        refine ⟨_, w', hrun, .inr ⟨g, cap, by simp, h1, by simpa using ho⟩, (Below.refl _ w).grown hg hb (fun k hk => by cases hk; exact (h2.lt _ rfl).1)⟩
  · obtain ⟨b, off, rfl, _⟩ := cellsOf_rd hr hl
    have hl0 := List.length_pos_iff.2 hl
    rcases hv with ⟨rfl, rfl, rfl⟩ | ⟨g, cap, rfl, h1, h2⟩
    · exact absurd (show l = [] by simpa using hn) hl
    · obtain ⟨w', hrun, ho, hg⟩ := run_append_fits (P := Tryz.prog) w base 32 ty 9 i0 1 ht hinf hsz g acc.length cap (acc.map encStr) h2 ⟨b, off, none⟩ l.length c (l.map encStr) (by simp) (news_of hr) (by intro u hu; obtain ⟨x, _, rfl⟩ := List.mem_map.1 hu; rfl) (by omega)
      refine ⟨_, w', hrun, .inr ⟨g, cap, by rw [List.length_append], h1, ?_⟩, ?_⟩
      · rw [List.length_append, List.map_append]; exact ho
      · exact (Below.refl _ w).grown hg hb (fun k hk => by cases hk; exact (h2.lt _ rfl).1)

theorem growT (n : Nat) (w : World) (hn : n * 16 ≤ 281474976710656) :
    Calls Tryz.prog 160 #[.slice none 0 0, .int .i64 n] w fun e w' => ∃ v, e = .returned v ∧ RoomT w' w.heap.size v [] n ∧ Below w.heap.size w w' := by
  by_cases h0 : n = 0
  · subst h0
    refine (grow0_any w).mono ?_
    rintro e w' ⟨rfl, rfl⟩
    exact ⟨_, rfl, .inl ⟨rfl, rfl, rfl⟩, Below.refl _ _⟩
  · refine (grow_any n w (by omega) hn).mono ?_
    rintro e w' ⟨cap, rfl, h1, h2, h3⟩
    exact ⟨_, rfl, .inr ⟨w.heap.size, cap, rfl, h1, h2⟩, h3⟩
def twoR (la lb : List Tx) : Nat → List Tx
  | 0 => []
  | 1 => la
  | _ => la ++ lb
set_option maxRecDepth 100000 in
set_option maxHeartbeats 1600000 in
theorem concat_any (B : Nat) (A D : Option Addr) (la lb : List Tx) (ca cb : Nat) (w : World) (p0 : w.cell? ⟨B, 0, none⟩ = some (.slice A la.length ca)) (p1 : w.cell? ⟨B, 1, none⟩ = some (.slice D lb.length cb)) (hA : RdL w 1 A (la.map tC)) (hB : RdL w 1 D (lb.map tC)) (hn : (la.length + lb.length) * 16 ≤ 281474976710656) :
    Calls Tryz.prog 134 #[.slice (some ⟨B, 0, none⟩) 2 2] w fun e w' => ∃ A' c', e = .returned (.slice A' (la ++ lb).length c') ∧ RdL w' 1 A' ((la ++ lb).map tC) ∧ Below w.heap.size w w' := by
  have HA := Lib.hid hA
  have HB := Lib.hid hB
  clear hA hB
  have hw1 : IntKind.i64.wrap (la.length : Int) = la.length := IntWalk.i64_in _ (by omega)
  have hw2 : IntKind.i64.wrap ((la.length : Int) + (lb.length : Int)) = (la.length : Int) + (lb.length : Int) := IntWalk.i64_in _ (by omega)
  have hn1 : ¬ ((la.length : Int) < 0) := by omega
  have hn2 : ¬ ((la.length : Int) + (lb.length : Int) < 0) := by omega
  go_enter Tryz.func134, Tryz.ntmps134
  go_wp2_with fail
  go_loopg [3, 11] 2 (fun k sv iv wr => ∃ j : Nat, j ≤ 2 ∧ 2 - j ≤ k ∧ iv = .int .i64 j ∧ sv = .int .i64 ((twoR la lb j).length : Nat) ∧ w = wr)
  case atStart => exact ⟨0, by omega, by omega, rfl, rfl, rfl⟩
  case round =>
    obtain ⟨j, hj, hjk, rfl, rfl, rfl⟩ := hrel
    match j, hj with
    | 0, _ =>
      simp only [twoR, List.length_nil, Int.natCast_zero] at *
      go_wp2_with fail
      go_roundg 1
      case measure => omega
      case rel => exact ⟨1, by omega, by omega, by go_num, rfl, rfl⟩
    | 1, _ =>
      simp only [twoR, Int.natCast_one] at *
      go_wp2_with fail
      go_roundg 0
      case measure => omega
      case rel => exact ⟨2, by omega, by omega, by go_num, by simp [twoR], rfl⟩
    | 2, _ =>
      obtain ⟨N, hN⟩ : ∃ N, (twoR la lb 2).length = N := ⟨_, rfl⟩
      have hN2 : la.length + lb.length = N := by rw [← hN]; simp [twoR]
      rw [hN]
      clear hw1 hw2 hn1 hn2 hN
      go_wp2_with fail
      refine (growT N w (by omega)).mono ?_
      rintro e w1 ⟨v0, rfl, hv0, hb1⟩
      have hz1 := hb1.size
      have HV := Lib.hid hv0
      clear hv0
      go_wp2_with fail
      go_loopg [6, 27] 2 (fun k v iv wr => ∃ j : Nat, j ≤ 2 ∧ 2 - j ≤ k ∧ iv = .int .i64 j ∧ Hid (RoomT wr w.heap.size v (twoR la lb j) N) ∧ Below w.heap.size w wr)
      case atStart => exact ⟨0, by omega, by omega, rfl, HV, hb1⟩
      case round =>
        clear HV hb1 hz1 hj hjk
        obtain ⟨j, hj, hjk, rfl, HV, hbel⟩ := hrel
        have hz := hbel.size
        have q0 := cell_below hbel p0
        have q1 := cell_below hbel p1
        match j, hj with
        | 0, _ =>
          obtain ⟨v', w', hrun, hrm, hbl⟩ := appendT w.heap.size _ _ la A ca N 32 wr hz HV.out (HA.out.below hbel) (by simp [twoR]; omega)
          have HRM : Hid (RoomT w' w.heap.size v' (twoR la lb 1) N) := Lib.hid (by simpa [twoR] using hrm)
          have HRUN := Lib.hid hrun
          have hb' : Below w.heap.size w w' := hbel.trans hbl
          clear hrm hrun hbl HV
          go_wp2_with (first
            | (at_builtin; refine Lib.wpList_append_run _ rfl _ _ _ _ rfl _ _ rfl rfl _ _ HRUN.out ?_)
            | fail)
          go_roundg 1
          case measure => omega
          case rel => exact ⟨1, by omega, by omega, by go_num, HRM, hb'⟩
        | 1, _ =>
          obtain ⟨v', w', hrun, hrm, hbl⟩ := appendT w.heap.size _ _ lb D cb N 32 wr hz HV.out (HB.out.below hbel) (by simp [twoR]; omega)
          have HRM : Hid (RoomT w' w.heap.size v' (twoR la lb 2) N) := Lib.hid (by simpa [twoR] using hrm)
          have HRUN := Lib.hid hrun
          have hb' : Below w.heap.size w w' := hbel.trans hbl
          clear hrm hrun hbl HV
          go_wp2_with (first
            | (at_builtin; refine Lib.wpList_append_run _ rfl _ _ _ _ rfl _ _ rfl rfl _ _ HRUN.out ?_)
            | fail)
          go_roundg 0
          case measure => omega
          case rel => exact ⟨2, by omega, by omega, by go_num, HRM, hb'⟩
        | 2, _ =>
          rcases HV.out with ⟨h1, h2, rfl⟩ | ⟨g, cap, rfl, h1, h2⟩
          · have hl : la ++ lb = [] := h2
            go_wp2_with fail
            refine bodyPost_ret (v := .slice none 0 0) (by simp [results, Tryz.results134, go_sem]) rfl ⟨none, 0, by rw [hl]; rfl, by rw [hl]; exact RdL.nil_ _ _ _, hbel⟩
          · obtain ⟨A', c', e, hrd⟩ := own_rdT h2
            have hl : twoR la lb 2 = la ++ lb := rfl
            rw [hl] at e hrd ⊢
            rw [e]
            have HRD := Lib.hid hrd
            clear hrd h2 HV e hl h1
            go_wp2_with fail
            refine bodyPost_ret (v := .slice A' (la ++ lb).length c') (by simp [results, Tryz.results134, go_sem]) rfl ⟨A', c', rfl, HRD.out, hbel⟩
end Go.Proofs.YtankkadnhdfpfaaGreatDoor.Wd

/- words.Meet, walked whole. -/
set_option linter.unusedSimpArgs false
set_option linter.unusedVariables false
namespace Go.Proofs.YtankkadnhdfpfaaGreatDoor.Wd
open Go.RowKit Go.Sort Go.Lib

set_option maxRecDepth 100000 in
set_option maxHeartbeats 1600000 in
theorem meetC_any (A B : Option Addr) (la lb : List Tx) (ca cb : Nat) (w : World) (hE : Env w) (hA : RdL w 1 A (la.map tC)) (hB : RdL w 1 B (lb.map tC)) (hsa : ∀ t ∈ la, t.length ≤ 9223372036854775807) (hsb : ∀ t ∈ lb, t.length ≤ 9223372036854775807) (hna : la.length * 16 ≤ 140737488355328) (hnb : lb.length * 16 ≤ 140737488355328) :
    Calls Tryz.prog 87 #[.agg #[.bool true, .slice A la.length ca], .agg #[.bool true, .slice B lb.length cb]] w fun e w' => ∃ A', e = .returned (.agg #[.bool (meetW true la true lb).1, .slice A' (meetW true la true lb).2.length (meetW true la true lb).2.length]) ∧ OwnT w' w.heap.size A' (meetW true la true lb).2 ∧ Below w.heap.size w w' := by
  have HSA := Lib.hid hsa
  have HSB := Lib.hid hsb
  have HA := Lib.hid hA
  have HB := Lib.hid hB
  have HE := Lib.hid hE
  clear hsa hsb hA hB hE
  go_enter Tryz.func87, Tryz.ntmps87
  go_wp2_with fail
  generalize hEu : ((w.alloc _).alloc _).alloc _ = u
  have hbu : Below w.heap.size w u := by rw [← hEu]; exact bel
  have hzu : u.heap.size = w.heap.size + 1 + 1 + 1 := by rw [← hEu]; simp
  have qu : ∀ o, u.cell? ⟨w.heap.size + 1 + 1, o, none⟩ = _ := fun o => congrArg (fun W : World => W.cell? ⟨w.heap.size + 1 + 1, o, none⟩) hEu.symm
  have ru : ∀ o, u.frozen? ⟨w.heap.size + 1 + 1, o, none⟩ = _ := fun o => congrArg (fun W : World => W.frozen? ⟨w.heap.size + 1 + 1, o, none⟩) hEu.symm
  clear hEu
  have lu : w.heap.size + 1 + 1 < u.heap.size := by omega
  have p0 : (u.alloc (.cells #[.slice A la.length ca, .slice B lb.length cb] 32)).cell? ⟨u.heap.size, 0, none⟩ = some (.slice A la.length ca) := by simp [go_sem]
  have p1 : (u.alloc (.cells #[.slice A la.length ca, .slice B lb.length cb] 32)).cell? ⟨u.heap.size, 1, none⟩ = some (.slice B lb.length cb) := by simp [go_sem]
  have hba : Below u.heap.size u (u.alloc (.cells #[.slice A la.length ca, .slice B lb.length cb] 32)) := bel
  rw [hzu] at p0 p1
  refine (concat_any _ A B la lb ca cb _ p0 p1 ((HA.out.below hbu).below hba) ((HB.out.below hbu).below hba) (by omega)).mono ?_
  rintro e w1 ⟨A1, c1, rfl, hr1, hb1⟩
  have hb01 : Below u.heap.size u w1 := hba.trans (hb1.mono hba.size)
  have hz1 := hb01.size
  have HR1 := Lib.hid hr1
  have hfs : ∀ t ∈ la ++ lb, t.length ≤ 9223372036854775807 := fun t ht => (List.mem_append.1 ht).elim (HSA.out t) (HSB.out t)
  have HFS := Lib.hid hfs
  have hll : (la ++ lb).length = la.length + lb.length := by simp
  obtain ⟨fl, hfl⟩ : ∃ fl, la ++ lb = fl := ⟨_, rfl⟩
  rw [hfl] at hll HFS HR1 ⊢
  have HFL := Lib.hid hfl
  have HLL := Lib.hid hll
  clear hr1 hfs hb1 hba p0 p1 hfl hll
  go_wp2_with fail
  refine (makeBig true A1 fl c1 w1 (HE.out.below (hbu.trans (hb01.mono hbu.size))) HR1.out HFS.out (by have := HLL.out; omega)).mono ?_
  rintro e w3 ⟨A3, rfl, ho3, hb3⟩
  have hz3 := hb3.size
  obtain ⟨m, hm⟩ : ∃ m, norm fl = m := ⟨_, rfl⟩
  rw [hm] at ho3 ⊢
  have HM : Hid ((meetW true la true lb) = (true, m)) := Lib.hid (by rw [← hm, ← HFL.out]; rfl)
  have HO3 := Lib.hid ho3
  clear ho3 hm
  have hbx : Below u.heap.size u w3 := hb01.trans (hb3.mono (by omega))
  have q5 := fun o => (hbx.cell (p := ⟨w.heap.size + 1 + 1, o, none⟩) lu).trans (qu o)
  have r5 := fun o => (hbx.frozen (p := ⟨w.heap.size + 1 + 1, o, none⟩) lu).trans (ru o)
  have l5 : w.heap.size + 1 + 1 < w3.heap.size := by omega
  have hb5 : Below w.heap.size w w3 := hbu.trans (hbx.mono hbu.size)
  clear hbx qu ru hb3 hb01 hzu
  go_wp2_with fail
  have hfin : OwnT ((w3.setCell ⟨w.heap.size + 1 + 1, 0, none⟩ (.bool true)).setCell ⟨w.heap.size + 1 + 1, 1, none⟩ (.slice A3 m.length m.length)) w1.heap.size A3 m := by
    exact (HO3.out.set_ (by omega) 0 _).set_ (by omega) 1 _
  rw [HM.out]
  refine bodyPost_ret (v := .agg #[.bool true, .slice A3 m.length m.length]) (by simp [results, Tryz.results87, go_sem, *]) rfl ⟨A3, rfl, hfin.base (by omega), bel⟩
theorem meet_any (aA bA : Bool) (A B : Option Addr) (la lb : List Tx) (ca cb : Nat) (w : World) (hE : Env w) (hA : RdL w 1 A (la.map tC)) (hB : RdL w 1 B (lb.map tC)) (hsa : ∀ t ∈ la, t.length ≤ 9223372036854775807) (hsb : ∀ t ∈ lb, t.length ≤ 9223372036854775807) (hna : la.length * 16 ≤ 140737488355328) (hnb : lb.length * 16 ≤ 140737488355328) :
    Calls Tryz.prog 87 #[.agg #[.bool aA, .slice A la.length ca], .agg #[.bool bA, .slice B lb.length cb]] w fun e w' => ∃ A', e = .returned (.agg #[.bool (meetW aA la bA lb).1, .slice A' (meetW aA la bA lb).2.length (meetW aA la bA lb).2.length]) ∧ OwnT w' w.heap.size A' (meetW aA la bA lb).2 ∧ Below w.heap.size w w' := by
  cases aA
  · exact meetA_any bA A B la lb ca cb w hE hA hB hsa hsb hna hnb
  · cases bA
    · exact meetB_any A B la lb ca cb w hE hA hB hsa hsb hna hnb
    · exact meetC_any A B la lb ca cb w hE hA hB hsa hsb hna hnb
end Go.Proofs.YtankkadnhdfpfaaGreatDoor.Wd
