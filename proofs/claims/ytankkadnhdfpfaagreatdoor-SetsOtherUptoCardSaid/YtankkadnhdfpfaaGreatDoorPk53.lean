import Derived.Test.YtankkadnhdfpfaaGreatDoorPk50
import Derived.Test.YtankkadnhdfpfaaGreatDoorPk38
import Derived.Test.YtankkadnhdfpfaaGreatDoorPk18
import Derived.Test.YtankkadnhdfpfaaGreatDoorPk51
import Derived.Test.YtankkadnhdfpfaaGreatDoorPk52
/- soffitlaw15.asks: walked. -/
set_option linter.unusedSimpArgs false
set_option linter.unusedVariables false
namespace Go.Proofs.YtankkadnhdfpfaaGreatDoor
open Go.RowKit Sp Wd

theorem own_new {w : World} {base g : Nat} {e : TypeId} {sz n : Nat} {cs : Array Value} (hg : ∃ t, t = e ∧ w.heap[g]? = some (.cells cs t)) (hb : base ≤ g) (hn : cs.size = n * sz) (hm : n ≤ maxLen) : w.ownsRow base e sz (.slice (some ⟨g, 0, none⟩) n n) n cs.toList := by
  obtain ⟨t, rfl, hg⟩ := hg
  exact ⟨by rw [Array.length_toList, hn], Or.inr ⟨g, n, cs, rfl, hb, hg, Nat.le_refl _, hm, hn, by rw [← hn, ← Array.length_toList, List.take_length]⟩⟩
theorem own_alloc {w : World} {base g : Nat} {e : TypeId} {sz n : Nat} {cs : Array Value} (hg : g = w.heap.size) (hb : base ≤ g) (hn : cs.size = n * sz) (hm : n ≤ maxLen) : (w.alloc (.cells cs e)).ownsRow base e sz (.slice (some ⟨g, 0, none⟩) n n) n cs.toList := by
  subst hg
  exact own_new ⟨e, rfl, (MapKept.heap_alloc w _).1⟩ hb hn hm
/-- the values that are asked, so many at most, in memory of the call's own -/
structure AskAt (w : World) (B : Nat) (sv : Value) (l : List Vl) (m : Nat) : Prop where
  own : w.ownsRow B 30 5 sv l.length (l.flatMap Vl.cells5)
  wf : ∀ x ∈ l, x.wf
  len : l.length ≤ m
theorem AskAt.below {w w' : World} {B : Nat} {sv : Value} {l : List Vl} {m : Nat} (h : AskAt w B sv l m) (hb : Below w.heap.size w w') : AskAt w' B sv l m := ⟨own_below h.own hb, h.wf, h.len⟩
theorem AskAt.ne {w : World} {B : Nat} {sv : Value} {l : List Vl} {m : Nat} (h : AskAt w B sv l m) {b : Nat} (hb : b < B ∨ w.heap.size ≤ b) : sv.ownBlock ≠ some b := by
  intro e
  have h1 := (h.own.lt b e).1
  have h2 := (h.own.lt b e).2
  omega
theorem AskAt.more {w w' : World} {B : Nat} {sv sv' : Value} {l : List Vl} {m n : Nat} (h : AskAt w B sv l m) (ys : List Vl) (hy : ∀ y ∈ ys, y.wf) (ho : w'.ownsRow B 30 5 sv' (l.length + n) (l.flatMap Vl.cells5 ++ ys.flatMap Vl.cells5)) (hn : n = ys.length) : AskAt w' B sv' (l ++ ys) (m + n) := by
  subst hn
  refine ⟨?_, fun x hx => ?_, ?_⟩
  · rw [List.length_append, List.flatMap_append]; exact ho
  · rcases List.mem_append.1 hx with h1 | h1
    · exact h.wf x h1
    · exact hy x h1
  · rw [List.length_append]; have := h.len; omega
theorem AskAt.mono {w : World} {B : Nat} {sv : Value} {l : List Vl} {m n : Nat} (h : AskAt w B sv l m) (hn : m ≤ n) : AskAt w B sv l n := ⟨h.own, h.wf, Nat.le_trans h.len hn⟩
theorem grown_box {w w' : World} {b : Nat} {vs : Array Value} {k : Option Nat} (K : BoxIs w b vs) (hg : w.grownBy w' k) (hk : k ≠ some b) : BoxIs w' b vs := by
  have hl := K.lt
  obtain ⟨t, h⟩ := K
  exact ⟨t, (hg.block b hl (fun e => hk e.symm)).trans h⟩
theorem i64_0 : I64 0 := ⟨by decide, by decide⟩
theorem i64_1 : I64 1 := ⟨by decide, by decide⟩
theorem i64_4 : I64 4 := ⟨by decide, by decide⟩
theorem wf_num {a b : Int} (ha : I64 a) (hb : I64 b) : (⟨1, a, b, ⟨#[]⟩, 0⟩ : Vl).wf := ⟨i64_1, ha, hb, i64_0, Nat.zero_le _⟩
theorem wf_day {a : Int} (ha : I64 a) : (⟨4, 0, 0, ⟨#[]⟩, a⟩ : Vl).wf := ⟨i64_4, i64_0, i64_0, ha, Nat.zero_le _⟩
theorem cells_one (ys : List Vl) : ∀ u ∈ ys.flatMap Vl.cells5, u.oneCell' = true := by
  intro u hu
  obtain ⟨y, -, hy⟩ := List.mem_flatMap.1 hu
  simp [Vl.cells5] at hy
  rcases hy with rfl | rfl | rfl | rfl | rfl <;> rfl
theorem lit_cells (w : World) (cs : List Value) (t : TypeId) (j : Nat) (u : Value) (h : cs[j]? = some u) : (w.alloc (.cells cs.toArray t)).cell? ((⟨w.heap.size, 0, none⟩ : Addr).add j) = some u := by
  have K : BoxIs (w.alloc (.cells cs.toArray t)) w.heap.size cs.toArray := BoxIs.new rfl
  have h2 := K.c (0 + j)
  rw [show (0 + j) = j by omega, List.getElem?_toArray, h] at h2
  rw [Addr.add_lit, show 0 + j = j by omega]
  exact h2

set_option maxRecDepth 100000 in
set_option maxHeartbeats 25600000 in
theorem asks_any (t : Ty) (v : Vl) (ts : List Tst) (T A : Option Addr) (ct ca : Nat) (w : World) (hA : RdL w 13 A (ts.map Tst.cells)) (hw : ∀ x ∈ ts, x.wf) (hn : ts.length ≤ 9223372036854775807) (hv : v.wf) (hs : 0 ≤ t.sc ∧ t.sc ≤ 6) :
    Calls Tryz.prog 41 #[.agg #[.int .i64 t.k, .int .i64 t.sc, .bool t.c.any, .bool t.c.neg, .slice T t.c.ts.length ct], .agg #[.int .i64 v.k, .int .i64 v.n, .int .i64 v.s, .string v.t, .int .i64 v.i], .slice A ts.length ca] w fun e w' => ∃ (l : List Vl) (sv : Value), e = .returned sv ∧ AskAt w' w.heap.size sv l 72 ∧ Below w.heap.size w w' := by
  obtain ⟨i0, hinf, hza, hzb, hzc⟩ := info_parts (show (Tryz.prog.info? 30).map (fun i => (i.zero, i.size, i.bytes)) = some (some (.agg #[.int .i64 0, .int .i64 0, .int .i64 0, .string ⟨#[]⟩, .int .i64 0]), 5, 48) by kernel_rfl)
  have HA := Lib.hid hA
  have HW := Lib.hid hw
  have HV := Lib.hid hv
  have HSC := Lib.hid hs
  obtain ⟨n, hn'⟩ : ∃ n, ts.length = n := ⟨_, rfl⟩
  have HN := Lib.hid hn'
  rw [hn'] at hn ⊢
  clear hA hw hv hs hn'
  go_enter Tryz.func41, Tryz.ntmps41
  go_wp2_with fail
  generalize hW0 : ((w.alloc _).alloc _).alloc _ = W0
  have hb0 : Below w.heap.size w W0 := (by rw [← hW0]; exact bel)
  have K0 : BoxIs W0 w.heap.size #[.int .i64 t.k, .int .i64 t.sc, .bool t.c.any, .bool t.c.neg, .slice T t.c.ts.length ct] := (by rw [← hW0]; exact ((BoxIs.new (t := 26) rfl).alloc _).alloc _)
  have hO0 : ∃ g, g = w.heap.size + 2 ∧ AskAt W0 (w.heap.size + 1) (.slice (some ⟨g, 0, none⟩) 8 8) [v, Vl.zero, ⟨3, 0, 0, ⟨#[]⟩, 0⟩, ⟨3, 0, 0, ⟨#[]⟩, 1⟩, ⟨2, 0, 0, ⟨#[]⟩, 0⟩, ⟨2, 0, 0, ⟨#[97]⟩, 0⟩, ⟨1, 0, 0, ⟨#[]⟩, 0⟩, ⟨4, 0, 0, ⟨#[]⟩, 730119⟩] 8 := by
    refine ⟨_, rfl, ⟨?_, ?_, by simp⟩⟩
    · rw [← hW0]
      refine own_alloc (n := 8) ?_ ?_ ?_ ?_
      · simp
      · omega
      · rfl
      · unfold maxLen; omega
    · intro x hx
      simp only [List.mem_cons, List.not_mem_nil, or_false] at hx
      rcases hx with rfl | rfl | rfl | rfl | rfl | rfl | rfl | rfl
      · exact HV.out
      all_goals exact ⟨⟨by decide, by decide⟩, ⟨by decide, by decide⟩, ⟨by decide, by decide⟩, ⟨by decide, by decide⟩, by decide⟩
  obtain ⟨g0, hg0, hO0⟩ := hO0
  rw [← hg0]
  clear hW0 hg0
  obtain ⟨B, hB⟩ : ∃ B, w.heap.size + 1 = B := ⟨_, rfl⟩
  rw [hB] at hO0
  have HBB : Hid (w.heap.size < B ∧ B ≤ w.heap.size + 1) := Lib.hid (by omega)
  clear hB
  go_loopg [7, 8] 8 (fun k sv iv wr => ∃ (l : List Vl) (i : Nat), i ≤ 8 ∧ i ≤ n ∧ 8 - i ≤ k ∧ iv = .int .i64 i ∧ Hid (AskAt wr B sv l (8 + 8 * i)) ∧ Hid (BoxIs wr w.heap.size #[.int .i64 t.k, .int .i64 t.sc, .bool t.c.any, .bool t.c.neg, .slice T t.c.ts.length ct]) ∧ Below w.heap.size w wr)
  case atStart => exact ⟨_, 0, by omega, by omega, by omega, rfl, hO0, K0, hb0⟩
  case round =>
    clear hO0 K0 hb0
    obtain ⟨l, i, hi8, hin, hik, rfl, HO, HK, hbel⟩ := hrel
    have hsz := hbel.size
    by_cases hl : i < n ∧ i < 8
    rotate_left
    · have HF : Hid (AskAt wr w.heap.size u7 l 72 ∧ Below w.heap.size w wr) := Lib.hid ⟨⟨own_base HO.out.own (by have := HBB.out; omega), HO.out.wf, by have := HO.out.len; omega⟩, hbel⟩
      by_cases h1 : i < n
      · have i1 : (i : Int) < (n : Int) := by omega
        have i2 : ¬ (i : Int) < 8 := by omega
        clear HO HK hbel hl h1
        go_wp2_with fail
        go_ret
        exact ⟨l, u7, rfl, HF.out⟩
      · have i1 : ¬ (i : Int) < (n : Int) := by omega
        clear HO HK hbel hl h1
        go_wp2_with fail
        go_ret
        exact ⟨l, u7, rfl, HF.out⟩
    · obtain ⟨hl1, hl2⟩ := hl
      have i1 : (i : Int) < (n : Int) := by omega
      have i2 : (i : Int) < 8 := by omega
      have i3 : (0 : Int) ≤ (i : Int) := by omega
      have hil : i < ts.length := by rw [HN.out]; omega
      obtain ⟨b, off, hAe, hx⟩ := (HA.out.below hbel).at_ hil
      subst hAe
      have hxw := HW.out _ (List.getElem_mem hil)
      generalize ts[i]'hil = x at *
      have HX := Lib.hid hxw
      have x1 : wr.cell? ⟨b, off + i * 13 + 1, none⟩ = some (.int .i64 x.lo.k) := hx.get 1 rfl
      have x2 : wr.cell? ⟨b, off + i * 13 + 2, none⟩ = some (.int .i64 x.lo.n) := hx.get 2 rfl
      have x3 : wr.cell? ⟨b, off + i * 13 + 3, none⟩ = some (.int .i64 x.lo.s) := hx.get 3 rfl
      have x4 : wr.cell? ⟨b, off + i * 13 + 4, none⟩ = some (.string x.lo.t) := hx.get 4 rfl
      have x5 : wr.cell? ⟨b, off + i * 13 + 5, none⟩ = some (.int .i64 x.lo.i) := hx.get 5 rfl
      have x6 : wr.cell? ⟨b, off + i * 13 + 6, none⟩ = some (.int .i64 x.hi.k) := hx.get 6 rfl
      have x7 : wr.cell? ⟨b, off + i * 13 + 7, none⟩ = some (.int .i64 x.hi.n) := hx.get 7 rfl
      have x8 : wr.cell? ⟨b, off + i * 13 + 8, none⟩ = some (.int .i64 x.hi.s) := hx.get 8 rfl
      have x9 : wr.cell? ⟨b, off + i * 13 + 9, none⟩ = some (.string x.hi.t) := hx.get 9 rfl
      have x10 : wr.cell? ⟨b, off + i * 13 + 10, none⟩ = some (.int .i64 x.hi.i) := hx.get 10 rfl
      clear hx hxw hil
      go_wp2_with fail
      go_region
      go_wp2_with fail
      generalize hWp : World.drew (World.alloc wr _) = Wp
      have hbp : Below wr.heap.size wr Wp := (by rw [← hWp]; exact bel)
      have KP : BoxIs Wp wr.heap.size #[.int .i64 x.lo.k, .int .i64 x.lo.n, .int .i64 x.lo.s, .string x.lo.t, .int .i64 x.lo.i, .int .i64 x.hi.k, .int .i64 x.hi.n, .int .i64 x.hi.s, .string x.hi.t, .int .i64 x.hi.i] := (by rw [← hWp]; exact (BoxIs.new (t := 30) rfl : BoxIs (wr.alloc _) _ _))
      have HNE : Hid (u7.ownBlock ≠ some wr.heap.size) := Lib.hid (HO.out.ne (.inr (Nat.le_refl _)))
      have HO := Lib.hid (HO.out.below hbp)
      have HK := Lib.hid (HK.out.below hbp)
      have hbel := hbel.trans (hbp.mono hbel.size)
      obtain ⟨bp, hbp'⟩ : ∃ bp, wr.heap.size = bp := ⟨_, rfl⟩
      rw [hbp'] at KP HNE
      rw [hbp']
      clear hWp hbp hbp' hsz x1 x2 x3 x4 x5 x6 x7 x8 x9 x10
      go_loopg [7, 42] 2 (fun k sv jv wq => ∃ (l : List Vl) (j : Nat), j ≤ 2 ∧ 2 - j ≤ k ∧ jv = .int .i64 j ∧ Hid (AskAt wq B sv l (8 + 8 * i + 4 * j)) ∧ Hid (sv.ownBlock ≠ some bp) ∧ Hid (BoxIs wq w.heap.size #[.int .i64 t.k, .int .i64 t.sc, .bool t.c.any, .bool t.c.neg, .slice T t.c.ts.length ct]) ∧ Hid (BoxIs wq bp #[.int .i64 x.lo.k, .int .i64 x.lo.n, .int .i64 x.lo.s, .string x.lo.t, .int .i64 x.lo.i, .int .i64 x.hi.k, .int .i64 x.hi.n, .int .i64 x.hi.s, .string x.hi.t, .int .i64 x.hi.i]) ∧ Below w.heap.size w wq)
      case atStart => exact ⟨l, 0, by omega, by omega, rfl, HO, HNE, HK, KP, hbel⟩
      case round =>
        clear HO HNE HK KP hbel
        obtain ⟨l, j, hj, hjk, rfl, HO, HNE, HK, HP, hbel⟩ := hrel
        have hj3 : j = 2 ∨ j = 0 ∨ j = 1 := by omega
        rcases hj3 with rfl | rfl | rfl
        · go_wp2_with fail
          go_roundg (8 - (i + 1))
          case measure => omega
          case rel => exact ⟨l, i + 1, by omega, by omega, Nat.le_refl _, by go_num, Lib.hid (HO.out.mono (by omega)), HK, hbel⟩
        · have hyw : (x.lo).wf := HX.out.lo
          have p0 : wr.cell? ⟨bp, 0, none⟩ = some (.int .i64 (x.lo).k) := HP.out.c 0
          have p1 : wr.cell? ⟨bp, 1, none⟩ = some (.int .i64 (x.lo).n) := HP.out.c 1
          have p2 : wr.cell? ⟨bp, 2, none⟩ = some (.int .i64 (x.lo).s) := HP.out.c 2
          have p3 : wr.cell? ⟨bp, 3, none⟩ = some (.string (x.lo).t) := HP.out.c 3
          have p4 : wr.cell? ⟨bp, 4, none⟩ = some (.int .i64 (x.lo).i) := HP.out.c 4
          obtain ⟨y, hy⟩ : ∃ y, x.lo = y := ⟨_, rfl⟩
          rw [hy] at hyw p0 p1 p2 p3 p4
          have HY := Lib.hid hyw
          clear hy hyw
          go_upto_region 8 with fail
          generalize hWx : World.alloc wr _ = Wx
          have hbx : Below wr.heap.size wr Wx := (by rw [← hWx]; exact Below.alloc (Below.refl _ _) (Nat.le_refl _) _)
          have KX : BoxIs Wx wr.heap.size #[.int .i64 y.k, .int .i64 y.n, .int .i64 y.s, .string y.t, .int .i64 y.i] := (by rw [← hWx]; exact BoxIs.new (t := 30) rfl)
          have HNX : Hid (u7.ownBlock ≠ some wr.heap.size) := Lib.hid (HO.out.ne (.inr (Nat.le_refl _)))
          have HO := Lib.hid (HO.out.below hbx)
          have HK := Lib.hid (HK.out.below hbx)
          have HP := Lib.hid (HP.out.below hbx)
          have hbel := hbel.trans (hbx.mono hbel.size)
          obtain ⟨bx, hbx'⟩ : ∃ bx, wr.heap.size = bx := ⟨_, rfl⟩
          rw [hbx'] at KX HNX
          rw [hbx']
          clear hWx hbx hbx' p0 p1 p2 p3 p4
          have hBs : B ≤ Wx.heap.size := by have := HBB.out; have := HK.out.lt; omega
          have kx := KX.c
          have lx := KX.lt
          have hlen := HO.out.len
          go_wp2_with (first
            | (at_builtin; refine wpList_append_own2 _ rfl _ _ 50 rfl B 30 i0 (.agg #[.int .i64 0, .int .i64 0, .int .i64 0, .string ⟨#[]⟩, .int .i64 0]) 5 48 Tryz.underlying50 hinf hza hzb hzc rfl (by decide) _ _ _ rfl (HO.out.own.alloc _) ⟨Wx.heap.size, 0, none⟩ 1 1 (List.flatMap Vl.cells5 [y]) rfl rfl (fun j u h => lit_cells _ _ _ j u h) (cells_one [y]) ?c3 ?c4 ?c5 ?_)
            | fail)
          case c3 => unfold maxLen; omega
          case c4 => omega
          case c5 => simp; omega
          intro v' w5 hown' hgrow hblk
          have hb5 : Below w.heap.size w w5 := (hbel.alloc hbel.size _).grown hgrow (by simp; have := hbel.size; omega) (fun g hg => by have := (HO.out.own.lt g hg).1; have := HBB.out; omega)
          have HO5 := Lib.hid ((HO.out.more (n := 1) [y] (by intro z hz; rw [List.mem_singleton.1 hz]; exact HY.out) hown' rfl))
          have hN5 : ∀ b, b < Wx.heap.size + 1 → u7.ownBlock ≠ some b → v'.ownBlock ≠ some b := fun b hb h1 h2 => by
            rcases hblk b h2 with h3 | h3
            · exact h1 h3
            · first | omega | (simp at h3; omega)
          have HNE5 := Lib.hid (hN5 bp (by have := HP.out.lt; omega) HNE.out)
          have HNX5 := Lib.hid (hN5 bx (by omega) HNX.out)
          have HK5 := Lib.hid (grown_box (HK.out.alloc _) hgrow (HO.out.ne (.inl HBB.out.1)))
          have HP5 := Lib.hid (grown_box (HP.out.alloc _) hgrow HNE.out)
          have KX5 := grown_box (KX.alloc _) hgrow HNX.out
          clear hown' hgrow hblk hN5 HO HNE HNX HK HP KX hbel kx lx hBs
          have kx := KX5.c
          have lx := KX5.lt
          go_upto_region 9 with fail
          have hB5 : B ≤ w5.heap.size := by have := HBB.out; have := HK5.out.lt; omega
          have hl5 : (l ++ [y]).length ≤ 8 + 8 * i + 4 * 0 + 1 := HO5.out.len
          generalize l ++ [y] = l5 at *
          have five : (y.k = 4 ∧ 0 < y.i ∧ y.i < 3652058) ∨ (y.k = 4 ∧ 0 < y.i ∧ ¬ y.i < 3652058) ∨ (y.k = 4 ∧ ¬ 0 < y.i) ∨ y.k = 1 ∨ (y.k ≠ 4 ∧ y.k ≠ 1) := by omega
          rcases five with ⟨h1, h2, h3⟩ | ⟨h1, h2, h3⟩ | ⟨h1, h2⟩ | h1 | ⟨h1, h2⟩
          · have e4 : (y.k == 4) = true := by simp [h1]
            have e1 : (y.k == 1) = false := by simp [h1]
            have a1 : wrap64 (y.i + 1) = y.i + 1 := (IntWalk.i64_left _).symm.trans (IntWalk.i64_in _ (by omega))
            have a2 : wrap64 (y.i - 1) = y.i - 1 := (IntWalk.i64_left _).symm.trans (IntWalk.i64_in _ (by omega))
            have a3 : IntKind.i64.wrap (y.i + 1) = y.i + 1 := IntWalk.i64_in _ (by omega)
            have a4 : IntKind.i64.wrap (y.i - 1) = y.i - 1 := IntWalk.i64_in _ (by omega)
            have HY1 : Hid ((⟨4, 0, 0, ⟨#[]⟩, y.i + 1⟩ : Vl).wf) := Lib.hid (wf_day ⟨by omega, by omega⟩)
            have HY2 : Hid ((⟨4, 0, 0, ⟨#[]⟩, y.i - 1⟩ : Vl).wf) := Lib.hid (wf_day ⟨by omega, by omega⟩)
            clear h1
            go_wp2_with (first
              | (at_builtin; refine wpList_append_own2 _ rfl _ _ 50 rfl B 30 i0 (.agg #[.int .i64 0, .int .i64 0, .int .i64 0, .string ⟨#[]⟩, .int .i64 0]) 5 48 Tryz.underlying50 hinf hza hzb hzc rfl (by decide) _ _ _ rfl (HO5.out.own.alloc _) ⟨w5.heap.size, 0, none⟩ 2 2 (List.flatMap Vl.cells5 [⟨4, 0, 0, ⟨#[]⟩, y.i + 1⟩, ⟨4, 0, 0, ⟨#[]⟩, y.i - 1⟩]) rfl rfl (fun j u h => lit_cells _ _ _ j u h) (cells_one [⟨4, 0, 0, ⟨#[]⟩, y.i + 1⟩, ⟨4, 0, 0, ⟨#[]⟩, y.i - 1⟩]) ?c3 ?c4 ?c5 ?_)
              | fail)
            case c3 => unfold maxLen; omega
            case c4 => omega
            case c5 => simp; omega
            intro v6 w6 hown' hgrow hblk
            have hb6 : Below w.heap.size w w6 := (hb5.alloc hb5.size _).grown hgrow (by simp; have := hb5.size; omega) (fun g hg => by have := (HO5.out.own.lt g hg).1; have := HBB.out; omega)
            have HO6 := Lib.hid ((HO5.out.more (n := 2) [⟨4, 0, 0, ⟨#[]⟩, y.i + 1⟩, ⟨4, 0, 0, ⟨#[]⟩, y.i - 1⟩] (by intro z hz; simp only [List.mem_cons, List.not_mem_nil, or_false] at hz; rcases hz with rfl | rfl; exact HY1.out; exact HY2.out) hown' rfl))
            have hN6 : ∀ b, b < w5.heap.size + 1 → v'.ownBlock ≠ some b → v6.ownBlock ≠ some b := fun b hb h1 h2 => by
              rcases hblk b h2 with h3 | h3
              · exact h1 h3
              · first | omega | (simp at h3; omega)
            have HNE6 := Lib.hid (hN6 bp (by have := HP5.out.lt; omega) HNE5.out)
            have HK6 := Lib.hid (grown_box (HK5.out.alloc _) hgrow (HO5.out.ne (.inl HBB.out.1)))
            have HP6 := Lib.hid (grown_box (HP5.out.alloc _) hgrow HNE5.out)
            have KX6 := grown_box (KX5.alloc _) hgrow HNX5.out
            clear kx lx
            have kx := KX6.c
            have lx := KX6.lt
            clear hown' hgrow hblk hN6
            go_wp2_with fail
            go_roundg (2 - (0 + 1))
            case measure => omega
            case rel => exact ⟨_, 0 + 1, by omega, by omega, rfl, Lib.hid (HO6.out.mono (by omega)), HNE6, HK6, HP6, hb6⟩
          · have e4 : (y.k == 4) = true := by simp [h1]
            have e1 : (y.k == 1) = false := by simp [h1]
            clear h1
            go_wp2_with fail
            go_roundg (2 - (0 + 1))
            case measure => omega
            case rel => exact ⟨l5, 0 + 1, by omega, by omega, rfl, Lib.hid (HO5.out.mono (by omega)), HNE5, HK5, HP5, hb5⟩
          · have e4 : (y.k == 4) = true := by simp [h1]
            have e1 : (y.k == 1) = false := by simp [h1]
            clear h1
            go_wp2_with fail
            go_roundg (2 - (0 + 1))
            case measure => omega
            case rel => exact ⟨l5, 0 + 1, by omega, by omega, rfl, Lib.hid (HO5.out.mono (by omega)), HNE5, HK5, HP5, hb5⟩
          · have e4 : (y.k == 4) = false := by simp [h1]
            have e1 : (y.k == 1) = true := by simp [h1]
            clear h1
            go_wp2_with fail
            refine (rSound_any y _ HY.out).mono ?_
            rintro e w6 ⟨rfl, hb6'⟩
            have HO6 := Lib.hid (HO5.out.below hb6')
            have HK6 := Lib.hid (HK5.out.below hb6')
            have HP6 := Lib.hid (HP5.out.below hb6')
            have KX6 := KX5.below hb6'
            clear kx lx
            have kx := KX6.c
            have lx := KX6.lt
            have hb6 := hb5.trans (hb6'.mono hb5.size)
            have hB6 : B ≤ w6.heap.size := by have := hb6'.size; omega
            clear hb6' HO5 HK5 HP5 KX5 hB5 hb5
            cases hsy : sndB y
            · clear hsy
              go_wp2_with fail
              go_roundg (2 - (0 + 1))
              case measure => omega
              case rel => exact ⟨l5, 0 + 1, by omega, by omega, rfl, Lib.hid (HO6.out.mono (by omega)), HNE5, HK6, HP6, hb6⟩
            · clear hsy
              go_wp2_with fail
              have HKK : ∀ w', Below w6.heap.size w6 w' → (∀ o, w'.cell? ⟨w.heap.size, o, none⟩ = (#[.int .i64 t.k, .int .i64 t.sc, .bool t.c.any, .bool t.c.neg, .slice T t.c.ts.length ct] : Array Value)[o]?) ∧ (∀ o, w'.cell? ⟨bx, o, none⟩ = (#[.int .i64 y.k, .int .i64 y.n, .int .i64 y.s, .string y.t, .int .i64 y.i] : Array Value)[o]?) := fun w' hb => ⟨(HK6.out.below hb).c, (KX6.below hb).c⟩
              refine wp_region_held_drew (S := (fun w' => (∀ o, w'.cell? ⟨w.heap.size, o, none⟩ = (#[.int .i64 t.k, .int .i64 t.sc, .bool t.c.any, .bool t.c.neg, .slice T t.c.ts.length ct] : Array Value)[o]?) ∧ (∀ o, w'.cell? ⟨bx, o, none⟩ = (#[.int .i64 y.k, .int .i64 y.n, .int .i64 y.s, .string y.t, .int .i64 y.i] : Array Value)[o]?))) (by kernel_rfl) (HKK _ (Below.drew (Below.refl _ _))) (fun hHeld => ?_)
              refine tkH 0 ?_
              try simp only [shH]
              refine tkH 1 ?_
              try simp only [shH]
              refine tkH 2 ?_
              try simp only [shH]
              refine tkH 4 ?_
              try simp only [shH]
              refine tkH 5 ?_
              try simp only [shH]
              refine tkH 7 ?_
              try simp only [shH]
              refine tkH 8 ?_
              try simp only [shH]
              refine rdH [3] ?_
              refine AllReadyH.cons rfl (fun K hK => ?_) AllReadyH.nil
              go_simp
              go_at_call 78
              refine (unit_any t y 0 T ct _ HY.out HSC.out).mono ?_
              rintro e z1 ⟨n1, k1, rfl, i1, j1, hz1⟩
              have hZ1 : Below w6.heap.size w6 z1 := (by first | exact hz1 | exact undrew hz1)
              refine hK.out _ _ ?_ (fun hH2 => ?_)
              · exact HKK _ hZ1
              clear hK K hHeld
              have hHeld := hH2
              clear hH2
              try simp only [shH]
              refine rdH [6] ?_
              refine AllReadyH.cons rfl (fun K hK => ?_) AllReadyH.nil
              go_simp
              go_at_call 78
              refine (unit_any t y 1 T ct _ HY.out HSC.out).mono ?_
              rintro e z2 ⟨n2, k2, rfl, i2, j2, hz2⟩
              have hZ2 : Below w6.heap.size w6 z2 := hZ1.trans (hz2.mono hZ1.size)
              refine hK.out _ _ ?_ (fun hH2 => ?_)
              · exact HKK _ hZ2
              clear hK K hHeld
              have hHeld := hH2
              clear hH2
              try simp only [shH]
              refine rdH [9] ?_
              refine AllReadyH.cons rfl (fun K hK => ?_) AllReadyH.nil
              go_simp
              go_at_call 78
              refine (unit_any t y (-1) T ct _ HY.out HSC.out).mono ?_
              rintro e z3 ⟨n3, k3, rfl, i3, j3, hz3⟩
              have hZ3 : Below w6.heap.size w6 z3 := hZ2.trans (hz3.mono hZ2.size)
              refine hK.out _ _ ?_ (fun hH2 => ?_)
              · exact HKK _ hZ3
              clear hK K hHeld
              have hHeld := hH2
              clear hH2
              try simp only [shH]
              refine rdH [10] ?_
              refine AllReadyH.cons rfl (fun K hK => ?_) AllReadyH.nil
              go_simp
              refine hK.out _ _ ?_ (fun hH2 => ?_)
              · exact HKK _ bel
              clear hK K hHeld
              have hHeld := hH2
              clear hH2
              try simp only [shH]
              refine rdH [11] ?_
              refine AllReadyH.cons rfl (fun K hK => ?_) AllReadyH.nil
              refine step_own2 rfl _ _ 50 rfl B 30 i0 (.agg #[.int .i64 0, .int .i64 0, .int .i64 0, .string ⟨#[]⟩, .int .i64 0]) 5 48 Tryz.underlying50 hinf hza hzb hzc rfl (by decide) _ _ _ rfl ((own_below HO6.out.own hZ3).alloc _) ⟨z3.heap.size, 0, none⟩ 3 3 (List.flatMap Vl.cells5 [⟨1, n1, k1, ⟨#[]⟩, 0⟩, ⟨1, n2, k2, ⟨#[]⟩, 0⟩, ⟨1, n3, k3, ⟨#[]⟩, 0⟩]) rfl rfl (fun j u h => lit_cells _ _ _ j u h) (cells_one _) ?c3 ?c4 ?c5 ?_
              case c3 => unfold maxLen; omega
              case c4 => omega
              case c5 => rw [sz_alloc]; have := hZ3.size; omega
              intro v6 w7 hown' hgrow hblk
              have hZ4 := (hZ3.alloc hZ3.size (.cells (List.flatMap Vl.cells5 [⟨1, n1, k1, ⟨#[]⟩, 0⟩, ⟨1, n2, k2, ⟨#[]⟩, 0⟩, ⟨1, n3, k3, ⟨#[]⟩, 0⟩]).toArray 30))
              have hb7 : Below w.heap.size w w7 := (hb6.trans (hZ4.mono hb6.size)).grown hgrow (by rw [sz_alloc]; have := hZ3.size; have := hb6.size; omega) (fun g hg => by have := (HO6.out.own.lt g hg).1; have := HBB.out; omega)
              have HO7 := Lib.hid ((HO6.out.more (n := 3) [⟨1, n1, k1, ⟨#[]⟩, 0⟩, ⟨1, n2, k2, ⟨#[]⟩, 0⟩, ⟨1, n3, k3, ⟨#[]⟩, 0⟩] (by
                intro z hz
                simp only [List.mem_cons, List.not_mem_nil, or_false] at hz
                rcases hz with rfl | rfl | rfl
                · exact wf_num i1 j1
                · exact wf_num i2 j2
                · exact wf_num i3 j3) hown' rfl))
              have hN7 : ∀ b, b < w6.heap.size → v'.ownBlock ≠ some b → v6.ownBlock ≠ some b := fun b hb h1 h2 => by
                rcases hblk b h2 with h3 | h3
                · exact h1 h3
                · have := hZ3.size; first | omega | (simp at h3; omega)
              have HNE7 := Lib.hid (hN7 bp (by have := HP6.out.lt; omega) HNE5.out)
              have HK7 := Lib.hid (grown_box (HK6.out.below hZ4) hgrow (HO6.out.ne (.inl HBB.out.1)))
              have HP7 := Lib.hid (grown_box (HP6.out.below hZ4) hgrow HNE5.out)
              have KX7 := grown_box (KX6.below hZ4) hgrow HNX5.out
              refine hK.out _ _ ?_ (fun hH2 => ?_)
              · exact ⟨HK7.out.c, KX7.c⟩
              clear hK K hHeld
              have hHeld := hH2
              clear hH2
              try simp only [shH]
              refine tkH 12 ?_
              try simp only [shH]
              refine dnH ?_ _
              clear hHeld hown' hgrow hblk hN7 hZ4 kx lx
              (try simp only [Exit.then, Exit.inBlock])
              have kx := KX7.c
              have lx := KX7.lt
              go_wp2_with fail
              go_roundg (2 - (0 + 1))
              case measure => omega
              case rel => exact ⟨_, 0 + 1, by omega, by omega, rfl, Lib.hid (HO7.out.mono (by omega)), HNE7, HK7, HP7, hb7⟩
          · have e4 : (y.k == 4) = false := by simp [h1]
            have e1 : (y.k == 1) = false := by simp [h2]
            clear h1 h2
            go_wp2_with fail
            go_roundg (2 - (0 + 1))
            case measure => omega
            case rel => exact ⟨l5, 0 + 1, by omega, by omega, rfl, Lib.hid (HO5.out.mono (by omega)), HNE5, HK5, HP5, hb5⟩
        · have hyw : (x.hi).wf := HX.out.hi
          have p0 : wr.cell? ⟨bp, 5, none⟩ = some (.int .i64 (x.hi).k) := HP.out.c 5
          have p1 : wr.cell? ⟨bp, 6, none⟩ = some (.int .i64 (x.hi).n) := HP.out.c 6
          have p2 : wr.cell? ⟨bp, 7, none⟩ = some (.int .i64 (x.hi).s) := HP.out.c 7
          have p3 : wr.cell? ⟨bp, 8, none⟩ = some (.string (x.hi).t) := HP.out.c 8
          have p4 : wr.cell? ⟨bp, 9, none⟩ = some (.int .i64 (x.hi).i) := HP.out.c 9
          obtain ⟨y, hy⟩ : ∃ y, x.hi = y := ⟨_, rfl⟩
          rw [hy] at hyw p0 p1 p2 p3 p4
          have HY := Lib.hid hyw
          clear hy hyw
          go_upto_region 8 with fail
          generalize hWx : World.alloc wr _ = Wx
          have hbx : Below wr.heap.size wr Wx := (by rw [← hWx]; exact Below.alloc (Below.refl _ _) (Nat.le_refl _) _)
          have KX : BoxIs Wx wr.heap.size #[.int .i64 y.k, .int .i64 y.n, .int .i64 y.s, .string y.t, .int .i64 y.i] := (by rw [← hWx]; exact BoxIs.new (t := 30) rfl)
          have HNX : Hid (u7.ownBlock ≠ some wr.heap.size) := Lib.hid (HO.out.ne (.inr (Nat.le_refl _)))
          have HO := Lib.hid (HO.out.below hbx)
          have HK := Lib.hid (HK.out.below hbx)
          have HP := Lib.hid (HP.out.below hbx)
          have hbel := hbel.trans (hbx.mono hbel.size)
          obtain ⟨bx, hbx'⟩ : ∃ bx, wr.heap.size = bx := ⟨_, rfl⟩
          rw [hbx'] at KX HNX
          rw [hbx']
          clear hWx hbx hbx' p0 p1 p2 p3 p4
          have hBs : B ≤ Wx.heap.size := by have := HBB.out; have := HK.out.lt; omega
          have kx := KX.c
          have lx := KX.lt
          have hlen := HO.out.len
          go_wp2_with (first
            | (at_builtin; refine wpList_append_own2 _ rfl _ _ 50 rfl B 30 i0 (.agg #[.int .i64 0, .int .i64 0, .int .i64 0, .string ⟨#[]⟩, .int .i64 0]) 5 48 Tryz.underlying50 hinf hza hzb hzc rfl (by decide) _ _ _ rfl (HO.out.own.alloc _) ⟨Wx.heap.size, 0, none⟩ 1 1 (List.flatMap Vl.cells5 [y]) rfl rfl (fun j u h => lit_cells _ _ _ j u h) (cells_one [y]) ?c3 ?c4 ?c5 ?_)
            | fail)
          case c3 => unfold maxLen; omega
          case c4 => omega
          case c5 => simp; omega
          intro v' w5 hown' hgrow hblk
          have hb5 : Below w.heap.size w w5 := (hbel.alloc hbel.size _).grown hgrow (by simp; have := hbel.size; omega) (fun g hg => by have := (HO.out.own.lt g hg).1; have := HBB.out; omega)
          have HO5 := Lib.hid ((HO.out.more (n := 1) [y] (by intro z hz; rw [List.mem_singleton.1 hz]; exact HY.out) hown' rfl))
          have hN5 : ∀ b, b < Wx.heap.size + 1 → u7.ownBlock ≠ some b → v'.ownBlock ≠ some b := fun b hb h1 h2 => by
            rcases hblk b h2 with h3 | h3
            · exact h1 h3
            · first | omega | (simp at h3; omega)
          have HNE5 := Lib.hid (hN5 bp (by have := HP.out.lt; omega) HNE.out)
          have HNX5 := Lib.hid (hN5 bx (by omega) HNX.out)
          have HK5 := Lib.hid (grown_box (HK.out.alloc _) hgrow (HO.out.ne (.inl HBB.out.1)))
          have HP5 := Lib.hid (grown_box (HP.out.alloc _) hgrow HNE.out)
          have KX5 := grown_box (KX.alloc _) hgrow HNX.out
          clear hown' hgrow hblk hN5 HO HNE HNX HK HP KX hbel kx lx hBs
          have kx := KX5.c
          have lx := KX5.lt
          go_upto_region 9 with fail
          have hB5 : B ≤ w5.heap.size := by have := HBB.out; have := HK5.out.lt; omega
          have hl5 : (l ++ [y]).length ≤ 8 + 8 * i + 4 * 1 + 1 := HO5.out.len
          generalize l ++ [y] = l5 at *
          have five : (y.k = 4 ∧ 0 < y.i ∧ y.i < 3652058) ∨ (y.k = 4 ∧ 0 < y.i ∧ ¬ y.i < 3652058) ∨ (y.k = 4 ∧ ¬ 0 < y.i) ∨ y.k = 1 ∨ (y.k ≠ 4 ∧ y.k ≠ 1) := by omega
          rcases five with ⟨h1, h2, h3⟩ | ⟨h1, h2, h3⟩ | ⟨h1, h2⟩ | h1 | ⟨h1, h2⟩
          · have e4 : (y.k == 4) = true := by simp [h1]
            have e1 : (y.k == 1) = false := by simp [h1]
            have a1 : wrap64 (y.i + 1) = y.i + 1 := (IntWalk.i64_left _).symm.trans (IntWalk.i64_in _ (by omega))
            have a2 : wrap64 (y.i - 1) = y.i - 1 := (IntWalk.i64_left _).symm.trans (IntWalk.i64_in _ (by omega))
            have a3 : IntKind.i64.wrap (y.i + 1) = y.i + 1 := IntWalk.i64_in _ (by omega)
            have a4 : IntKind.i64.wrap (y.i - 1) = y.i - 1 := IntWalk.i64_in _ (by omega)
            have HY1 : Hid ((⟨4, 0, 0, ⟨#[]⟩, y.i + 1⟩ : Vl).wf) := Lib.hid (wf_day ⟨by omega, by omega⟩)
            have HY2 : Hid ((⟨4, 0, 0, ⟨#[]⟩, y.i - 1⟩ : Vl).wf) := Lib.hid (wf_day ⟨by omega, by omega⟩)
            clear h1
            go_wp2_with (first
              | (at_builtin; refine wpList_append_own2 _ rfl _ _ 50 rfl B 30 i0 (.agg #[.int .i64 0, .int .i64 0, .int .i64 0, .string ⟨#[]⟩, .int .i64 0]) 5 48 Tryz.underlying50 hinf hza hzb hzc rfl (by decide) _ _ _ rfl (HO5.out.own.alloc _) ⟨w5.heap.size, 0, none⟩ 2 2 (List.flatMap Vl.cells5 [⟨4, 0, 0, ⟨#[]⟩, y.i + 1⟩, ⟨4, 0, 0, ⟨#[]⟩, y.i - 1⟩]) rfl rfl (fun j u h => lit_cells _ _ _ j u h) (cells_one [⟨4, 0, 0, ⟨#[]⟩, y.i + 1⟩, ⟨4, 0, 0, ⟨#[]⟩, y.i - 1⟩]) ?c3 ?c4 ?c5 ?_)
              | fail)
            case c3 => unfold maxLen; omega
            case c4 => omega
            case c5 => simp; omega
            intro v6 w6 hown' hgrow hblk
            have hb6 : Below w.heap.size w w6 := (hb5.alloc hb5.size _).grown hgrow (by simp; have := hb5.size; omega) (fun g hg => by have := (HO5.out.own.lt g hg).1; have := HBB.out; omega)
            have HO6 := Lib.hid ((HO5.out.more (n := 2) [⟨4, 0, 0, ⟨#[]⟩, y.i + 1⟩, ⟨4, 0, 0, ⟨#[]⟩, y.i - 1⟩] (by intro z hz; simp only [List.mem_cons, List.not_mem_nil, or_false] at hz; rcases hz with rfl | rfl; exact HY1.out; exact HY2.out) hown' rfl))
            have hN6 : ∀ b, b < w5.heap.size + 1 → v'.ownBlock ≠ some b → v6.ownBlock ≠ some b := fun b hb h1 h2 => by
              rcases hblk b h2 with h3 | h3
              · exact h1 h3
              · first | omega | (simp at h3; omega)
            have HNE6 := Lib.hid (hN6 bp (by have := HP5.out.lt; omega) HNE5.out)
            have HK6 := Lib.hid (grown_box (HK5.out.alloc _) hgrow (HO5.out.ne (.inl HBB.out.1)))
            have HP6 := Lib.hid (grown_box (HP5.out.alloc _) hgrow HNE5.out)
            have KX6 := grown_box (KX5.alloc _) hgrow HNX5.out
            clear kx lx
            have kx := KX6.c
            have lx := KX6.lt
            clear hown' hgrow hblk hN6
            go_wp2_with fail
            go_roundg (2 - (1 + 1))
            case measure => omega
            case rel => exact ⟨_, 1 + 1, by omega, by omega, rfl, Lib.hid (HO6.out.mono (by omega)), HNE6, HK6, HP6, hb6⟩
          · have e4 : (y.k == 4) = true := by simp [h1]
            have e1 : (y.k == 1) = false := by simp [h1]
            clear h1
            go_wp2_with fail
            go_roundg (2 - (1 + 1))
            case measure => omega
            case rel => exact ⟨l5, 1 + 1, by omega, by omega, rfl, Lib.hid (HO5.out.mono (by omega)), HNE5, HK5, HP5, hb5⟩
          · have e4 : (y.k == 4) = true := by simp [h1]
            have e1 : (y.k == 1) = false := by simp [h1]
            clear h1
            go_wp2_with fail
            go_roundg (2 - (1 + 1))
            case measure => omega
            case rel => exact ⟨l5, 1 + 1, by omega, by omega, rfl, Lib.hid (HO5.out.mono (by omega)), HNE5, HK5, HP5, hb5⟩
          · have e4 : (y.k == 4) = false := by simp [h1]
            have e1 : (y.k == 1) = true := by simp [h1]
            clear h1
            go_wp2_with fail
            refine (rSound_any y _ HY.out).mono ?_
            rintro e w6 ⟨rfl, hb6'⟩
            have HO6 := Lib.hid (HO5.out.below hb6')
            have HK6 := Lib.hid (HK5.out.below hb6')
            have HP6 := Lib.hid (HP5.out.below hb6')
            have KX6 := KX5.below hb6'
            clear kx lx
            have kx := KX6.c
            have lx := KX6.lt
            have hb6 := hb5.trans (hb6'.mono hb5.size)
            have hB6 : B ≤ w6.heap.size := by have := hb6'.size; omega
            clear hb6' HO5 HK5 HP5 KX5 hB5 hb5
            cases hsy : sndB y
            · clear hsy
              go_wp2_with fail
              go_roundg (2 - (1 + 1))
              case measure => omega
              case rel => exact ⟨l5, 1 + 1, by omega, by omega, rfl, Lib.hid (HO6.out.mono (by omega)), HNE5, HK6, HP6, hb6⟩
            · clear hsy
              go_wp2_with fail
              have HKK : ∀ w', Below w6.heap.size w6 w' → (∀ o, w'.cell? ⟨w.heap.size, o, none⟩ = (#[.int .i64 t.k, .int .i64 t.sc, .bool t.c.any, .bool t.c.neg, .slice T t.c.ts.length ct] : Array Value)[o]?) ∧ (∀ o, w'.cell? ⟨bx, o, none⟩ = (#[.int .i64 y.k, .int .i64 y.n, .int .i64 y.s, .string y.t, .int .i64 y.i] : Array Value)[o]?) := fun w' hb => ⟨(HK6.out.below hb).c, (KX6.below hb).c⟩
              refine wp_region_held_drew (S := (fun w' => (∀ o, w'.cell? ⟨w.heap.size, o, none⟩ = (#[.int .i64 t.k, .int .i64 t.sc, .bool t.c.any, .bool t.c.neg, .slice T t.c.ts.length ct] : Array Value)[o]?) ∧ (∀ o, w'.cell? ⟨bx, o, none⟩ = (#[.int .i64 y.k, .int .i64 y.n, .int .i64 y.s, .string y.t, .int .i64 y.i] : Array Value)[o]?))) (by kernel_rfl) (HKK _ (Below.drew (Below.refl _ _))) (fun hHeld => ?_)
              refine tkH 0 ?_
              try simp only [shH]
              refine tkH 1 ?_
              try simp only [shH]
              refine tkH 2 ?_
              try simp only [shH]
              refine tkH 4 ?_
              try simp only [shH]
              refine tkH 5 ?_
              try simp only [shH]
              refine tkH 7 ?_
              try simp only [shH]
              refine tkH 8 ?_
              try simp only [shH]
              refine rdH [3] ?_
              refine AllReadyH.cons rfl (fun K hK => ?_) AllReadyH.nil
              go_simp
              go_at_call 78
              refine (unit_any t y 0 T ct _ HY.out HSC.out).mono ?_
              rintro e z1 ⟨n1, k1, rfl, i1, j1, hz1⟩
              have hZ1 : Below w6.heap.size w6 z1 := (by first | exact hz1 | exact undrew hz1)
              refine hK.out _ _ ?_ (fun hH2 => ?_)
              · exact HKK _ hZ1
              clear hK K hHeld
              have hHeld := hH2
              clear hH2
              try simp only [shH]
              refine rdH [6] ?_
              refine AllReadyH.cons rfl (fun K hK => ?_) AllReadyH.nil
              go_simp
              go_at_call 78
              refine (unit_any t y 1 T ct _ HY.out HSC.out).mono ?_
              rintro e z2 ⟨n2, k2, rfl, i2, j2, hz2⟩
              have hZ2 : Below w6.heap.size w6 z2 := hZ1.trans (hz2.mono hZ1.size)
              refine hK.out _ _ ?_ (fun hH2 => ?_)
              · exact HKK _ hZ2
              clear hK K hHeld
              have hHeld := hH2
              clear hH2
              try simp only [shH]
              refine rdH [9] ?_
              refine AllReadyH.cons rfl (fun K hK => ?_) AllReadyH.nil
              go_simp
              go_at_call 78
              refine (unit_any t y (-1) T ct _ HY.out HSC.out).mono ?_
              rintro e z3 ⟨n3, k3, rfl, i3, j3, hz3⟩
              have hZ3 : Below w6.heap.size w6 z3 := hZ2.trans (hz3.mono hZ2.size)
              refine hK.out _ _ ?_ (fun hH2 => ?_)
              · exact HKK _ hZ3
              clear hK K hHeld
              have hHeld := hH2
              clear hH2
              try simp only [shH]
              refine rdH [10] ?_
              refine AllReadyH.cons rfl (fun K hK => ?_) AllReadyH.nil
              go_simp
              refine hK.out _ _ ?_ (fun hH2 => ?_)
              · exact HKK _ bel
              clear hK K hHeld
              have hHeld := hH2
              clear hH2
              try simp only [shH]
              refine rdH [11] ?_
              refine AllReadyH.cons rfl (fun K hK => ?_) AllReadyH.nil
              refine step_own2 rfl _ _ 50 rfl B 30 i0 (.agg #[.int .i64 0, .int .i64 0, .int .i64 0, .string ⟨#[]⟩, .int .i64 0]) 5 48 Tryz.underlying50 hinf hza hzb hzc rfl (by decide) _ _ _ rfl ((own_below HO6.out.own hZ3).alloc _) ⟨z3.heap.size, 0, none⟩ 3 3 (List.flatMap Vl.cells5 [⟨1, n1, k1, ⟨#[]⟩, 0⟩, ⟨1, n2, k2, ⟨#[]⟩, 0⟩, ⟨1, n3, k3, ⟨#[]⟩, 0⟩]) rfl rfl (fun j u h => lit_cells _ _ _ j u h) (cells_one _) ?c3 ?c4 ?c5 ?_
              case c3 => unfold maxLen; omega
              case c4 => omega
              case c5 => rw [sz_alloc]; have := hZ3.size; omega
              intro v6 w7 hown' hgrow hblk
              have hZ4 := (hZ3.alloc hZ3.size (.cells (List.flatMap Vl.cells5 [⟨1, n1, k1, ⟨#[]⟩, 0⟩, ⟨1, n2, k2, ⟨#[]⟩, 0⟩, ⟨1, n3, k3, ⟨#[]⟩, 0⟩]).toArray 30))
              have hb7 : Below w.heap.size w w7 := (hb6.trans (hZ4.mono hb6.size)).grown hgrow (by rw [sz_alloc]; have := hZ3.size; have := hb6.size; omega) (fun g hg => by have := (HO6.out.own.lt g hg).1; have := HBB.out; omega)
              have HO7 := Lib.hid ((HO6.out.more (n := 3) [⟨1, n1, k1, ⟨#[]⟩, 0⟩, ⟨1, n2, k2, ⟨#[]⟩, 0⟩, ⟨1, n3, k3, ⟨#[]⟩, 0⟩] (by
                intro z hz
                simp only [List.mem_cons, List.not_mem_nil, or_false] at hz
                rcases hz with rfl | rfl | rfl
                · exact wf_num i1 j1
                · exact wf_num i2 j2
                · exact wf_num i3 j3) hown' rfl))
              have hN7 : ∀ b, b < w6.heap.size → v'.ownBlock ≠ some b → v6.ownBlock ≠ some b := fun b hb h1 h2 => by
                rcases hblk b h2 with h3 | h3
                · exact h1 h3
                · have := hZ3.size; first | omega | (simp at h3; omega)
              have HNE7 := Lib.hid (hN7 bp (by have := HP6.out.lt; omega) HNE5.out)
              have HK7 := Lib.hid (grown_box (HK6.out.below hZ4) hgrow (HO6.out.ne (.inl HBB.out.1)))
              have HP7 := Lib.hid (grown_box (HP6.out.below hZ4) hgrow HNE5.out)
              have KX7 := grown_box (KX6.below hZ4) hgrow HNX5.out
              refine hK.out _ _ ?_ (fun hH2 => ?_)
              · exact ⟨HK7.out.c, KX7.c⟩
              clear hK K hHeld
              have hHeld := hH2
              clear hH2
              try simp only [shH]
              refine tkH 12 ?_
              try simp only [shH]
              refine dnH ?_ _
              clear hHeld hown' hgrow hblk hN7 hZ4 kx lx
              (try simp only [Exit.then, Exit.inBlock])
              have kx := KX7.c
              have lx := KX7.lt
              go_wp2_with fail
              go_roundg (2 - (1 + 1))
              case measure => omega
              case rel => exact ⟨_, 1 + 1, by omega, by omega, rfl, Lib.hid (HO7.out.mono (by omega)), HNE7, HK7, HP7, hb7⟩
          · have e4 : (y.k == 4) = false := by simp [h1]
            have e1 : (y.k == 1) = false := by simp [h2]
            clear h1 h2
            go_wp2_with fail
            go_roundg (2 - (1 + 1))
            case measure => omega
            case rel => exact ⟨l5, 1 + 1, by omega, by omega, rfl, Lib.hid (HO5.out.mono (by omega)), HNE5, HK5, HP5, hb5⟩
end Go.Proofs.YtankkadnhdfpfaaGreatDoor
