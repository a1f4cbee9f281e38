import Derived.Test.YtankkadnhdfpfaaGreatDoorPk30
import Derived.Test.YtankkadnhdfpfaaGreatDoorPk35
import Derived.Test.YtankkadnhdfpfaaGreatDoorPk19
import Derived.Test.YtankkadnhdfpfaaGreatDoorPk36
import Derived.Test.YtankkadnhdfpfaaGreatDoorPk32
import Derived.Test.YtankkadnhdfpfaaGreatDoorPk38
/- soffit/boxes.Full: walked. -/
set_option linter.unusedSimpArgs false
set_option linter.unusedVariables false
namespace Go.Proofs.YtankkadnhdfpfaaGreatDoor
open Go.RowKit Sp Wd

theorem st_lt {w : World} {r : St} {X Y : Option Addr} (h : StAt w r X Y) : (∀ p, X = some p → r.sp = [] ∨ p.block < w.heap.size) ∧ (∀ p, Y = some p → r.ws = [] ∨ p.block < w.heap.size) := by
  constructor
  · intro p hp
    by_cases h0 : r.sp = []
    · exact .inl h0
    · obtain ⟨b, off, e, hx⟩ := h.sp.at_ (List.length_pos_iff.2 h0)
      have hb : p.block = b := by rw [hp] at e; cases e; rfl
      exact .inr (by rw [hb]; exact cell_lt (hx.get 0 rfl))
  · intro p hp
    by_cases h0 : r.ws = []
    · exact .inl h0
    · obtain ⟨b, off, e, hx⟩ := h.ws.at_ (List.length_pos_iff.2 h0)
      have hb : p.block = b := by rw [hp] at e; cases e; rfl
      exact .inr (by rw [hb]; exact cell_lt (hx.get 0 rfl))
structure RowBx (w : World) (B : Nat) (ov : Value) (l : List StArg) : Prop where
  own : w.ownsRow B 36 6 ov l.length (l.flatMap StArg.cells)
  st : ∀ x ∈ l, StAt w x.s x.A x.B
  fr : ∀ x ∈ l, (∀ p, x.A = some p → x.s.sp = [] ∨ ov.ownBlock ≠ some p.block) ∧ (∀ p, x.B = some p → x.s.ws = [] ∨ ov.ownBlock ≠ some p.block)
theorem RowBx.below {w w' : World} {B : Nat} {ov : Value} {l : List StArg} (h : RowBx w B ov l) (hb : Below w.heap.size w w') : RowBx w' B ov l := ⟨own_below h.own hb, fun x hx => (h.st x hx).below hb, h.fr⟩
theorem RowBx.nil (w : World) (B : Nat) : RowBx w B (.slice none 0 0) [] := ⟨World.ownsRow_nil _ _ _ _, by simp, by simp⟩
theorem RowBx.more {w w' : World} {B b : Nat} {ov v' : Value} {l : List StArg} {x : StArg} (h : RowBx w B ov l) (hx : StAt w x.s x.A x.B) (hb : ∀ g, ov.ownBlock = some g → g < b) (hf : FrSt b x.s x.A x.B)
    (ho : w'.ownsRow B 36 6 v' (l.length + 1) (l.flatMap StArg.cells ++ [x].flatMap StArg.cells)) (hg : w.grownBy w' ov.ownBlock) (hblk : ∀ g, v'.ownBlock = some g → ov.ownBlock = some g ∨ w.heap.size ≤ g) : RowBx w' B v' (l ++ [x]) := by
  have hfx : (∀ p, x.A = some p → x.s.sp = [] ∨ ov.ownBlock ≠ some p.block) ∧ (∀ p, x.B = some p → x.s.ws = [] ∨ ov.ownBlock ≠ some p.block) :=
    ⟨fun p hp => (hf.1 p hp).imp id (fun h1 e => by have := hb _ e; omega), fun p hp => (hf.2 p hp).imp id (fun h1 e => by have := hb _ e; omega)⟩
  have all : ∀ y ∈ l ++ [x], StAt w y.s y.A y.B ∧ (∀ p, y.A = some p → y.s.sp = [] ∨ ov.ownBlock ≠ some p.block) ∧ (∀ p, y.B = some p → y.s.ws = [] ∨ ov.ownBlock ≠ some p.block) := fun y hy => by
    rcases List.mem_append.1 hy with h1 | h1
    · exact ⟨h.st y h1, h.fr y h1⟩
    · rw [List.mem_singleton.1 h1]; exact ⟨hx, hfx⟩
  refine ⟨by rw [List.length_append, List.flatMap_append]; exact ho, fun y hy => ?_, fun y hy => ?_⟩
  · obtain ⟨h1, h2, h3⟩ := all y hy
    exact h1.grown hg h2 h3
  · obtain ⟨h1, h2, h3⟩ := all y hy
    obtain ⟨l1, l2⟩ := st_lt h1
    refine ⟨fun p hp => ?_, fun p hp => ?_⟩
    · rcases l1 p hp with h4 | h4
      · exact .inl h4
      · refine (h2 p hp).imp id (fun h5 e => ?_)
        rcases hblk _ e with h6 | h6
        · exact h5 h6
        · omega
    · rcases l2 p hp with h4 | h4
      · exact .inl h4
      · refine (h3 p hp).imp id (fun h5 e => ?_)
        rcases hblk _ e with h6 | h6
        · exact h5 h6
        · omega
theorem RowBx.box {w : World} {B : Nat} {ov : Value} {l : List StArg} (h : RowBx w B ov l) (hl : l.length ≤ 9223372036854775807) : ∃ A c, ov = .slice A l.length c ∧ BoxAt w A l := by
  obtain ⟨A, c, e, hr⟩ := Go.Proofs.YtankkadnhdfpfaaGreatDoor.own_rd (css := l.map StArg.cells) h.own (by rw [List.flatMap_def]) (by intro c hc; obtain ⟨x, _, rfl⟩ := List.mem_map.1 hc; rfl) (by rw [List.length_map])
  exact ⟨A, c, e, hr, h.st, hl⟩
def FullOf : List TyArg → List StArg → Prop
  | t :: ts, s :: ss => (Is (fullG t.t) s.s ∧ StOk 9 s.s) ∧ FullOf ts ss
  | [], [] => True
  | _, _ => False
theorem fullOf_len : ∀ {ts : List TyArg} {l : List StArg}, FullOf ts l → l.length = ts.length
  | [], [], _ => rfl
  | t :: ts, s :: ss, h => by have := fullOf_len (ts := ts) (l := ss) h.2; simp [this]
  | [], _ :: _, h => h.elim
  | _ :: _, [], h => h.elim
theorem fullOf_more {t : TyArg} {s : StArg} (hs : Is (fullG t.t) s.s ∧ StOk 9 s.s) : ∀ {ts : List TyArg} {l : List StArg}, FullOf ts l → FullOf (ts ++ [t]) (l ++ [s])
  | [], [], _ => ⟨hs, trivial⟩
  | _ :: ts, _ :: ss, h => ⟨h.1, fullOf_more (ts := ts) (l := ss) hs h.2⟩
  | [], _ :: _, h => h.elim
  | _ :: _, [], h => h.elim
theorem fullOf_get : ∀ {ts : List TyArg} {l : List StArg}, FullOf ts l → ∀ i (h1 : i < ts.length) (h2 : i < l.length), Is (fullG (ts[i]'h1).t) (l[i]'h2).s ∧ StOk 9 (l[i]'h2).s
  | _ :: _, _ :: _, h, 0, _, _ => h.1
  | _ :: ts, _ :: ss, h, i + 1, h1, h2 => fullOf_get (ts := ts) (l := ss) h.2 i (by simpa using h1) (by simpa using h2)
theorem allSnd_take {ts : List TyArg} {k : Nat} (h : k < ts.length) (h1 : allSnd (ts.take k) = true) : allSnd (ts.take (k + 1)) = tySnd (ts[k]'h).t := by
  unfold allSnd at *
  rw [List.take_succ_eq_append_getElem h, List.all_append, h1]; simp
theorem allSnd_bad {ts : List TyArg} {k : Nat} (h : k < ts.length) (h1 : tySnd (ts[k]'h).t = false) : allSnd ts = false := by
  cases e : allSnd ts
  · rfl
  · unfold allSnd at e
    rw [List.all_eq_true] at e
    rw [e _ (List.getElem_mem h)] at h1; cases h1
theorem cells_set (ys : List StArg) : ∀ u ∈ ys.flatMap StArg.cells, u.oneCell' = true := by
  intro u hu
  obtain ⟨y, -, hy⟩ := List.mem_flatMap.1 hu
  simp [StArg.cells] at hy
  rcases hy with rfl | rfl | rfl | rfl | rfl | rfl <;> rfl
theorem lit_cells6 (w : World) (cs : List Value) (t : TypeId) (j : Nat) (u : Value) (h : cs[j]? = some u) : (w.alloc (.cells cs.toArray t)).cell? ((⟨w.heap.size, 0, none⟩ : Addr).add j) = some u := by
  have K : BoxIs (w.alloc (.cells cs.toArray t)) w.heap.size cs.toArray := BoxIs.new rfl
  have h2 := K.c (0 + j)
  rw [show (0 + j) = j by omega, List.getElem?_toArray, h] at h2
  rw [Addr.add_lit, show 0 + j = j by omega]
  exact h2

set_option maxRecDepth 100000 in
set_option maxHeartbeats 6400000 in
theorem bxFull_any (ts : List TyArg) (T : Option Addr) (ct : Nat) (w : World) (hT : TysAt w T ts) (h20 : ts.length ≤ 1048576) (hE : Env w) :
    Calls Tryz.prog 27 #[.slice T ts.length ct] w fun e w' => ∃ (l : List StArg) (ov : Value) (n : Int), e = .returned (.tuple #[ov, .int .i64 n]) ∧ ((n = 0 ∧ allSnd ts = true ∧ RowBx w' w.heap.size ov l ∧ FullOf ts l) ∨ (n = 2 ∧ allSnd ts = false ∧ ov = .slice none 0 0)) ∧ Below w.heap.size w w' := by
  obtain ⟨i0, hinf, hza, hzb, hzc⟩ := info_parts (show (Tryz.prog.info? 36).map (fun i => (i.zero, i.size, i.bytes)) = some (some (.agg #[.int .i64 0, .slice none 0 0, .bool false, .slice none 0 0, .int .i64 0, .bool false]), 6, 80) by kernel_rfl)
  have HT := Lib.hid hT
  have HE := Lib.hid hE
  obtain ⟨n, hn⟩ : ∃ n, ts.length = n := ⟨_, rfl⟩
  have HN := Lib.hid hn
  rw [hn] at h20 ⊢
  clear hT hE hn
  go_enter Tryz.func27, Tryz.ntmps27
  go_wp2_with fail
  go_loopg [4, 11] n (fun k ov iv wr => ∃ (l : List StArg) (i : Nat), i ≤ n ∧ n - i ≤ k ∧ iv = .int .i64 i ∧ Hid (RowBx wr w.heap.size ov l) ∧ Hid (FullOf (ts.take i) l) ∧ Hid (allSnd (ts.take i) = true) ∧ Below w.heap.size w wr)
  case atStart => exact ⟨[], 0, by omega, by omega, rfl, Lib.hid (RowBx.nil _ _), Lib.hid (by rw [List.take_zero]; trivial), Lib.hid (by rw [List.take_zero]; rfl), Below.refl _ _⟩
  case round =>
    obtain ⟨l, i, hi, hik, rfl, HR, HF, HS, hbel⟩ := hrel
    have hln : l.length = i := (fullOf_len HF.out).trans (by rw [List.length_take, HN.out]; omega)
    have HLN := Lib.hid hln
    clear hln
    by_cases hlt : i < n
    · have i1 : (i : Int) < (n : Int) := by omega
      have i3 : (0 : Int) ≤ (i : Int) := by omega
      have hil : i < ts.length := by rw [HN.out]; omega
      have htk := allSnd_take hil HS.out
      have hbad := allSnd_bad hil
      have hts := List.take_succ_eq_append_getElem hil
      obtain ⟨b, off, hAe, hx⟩ := (HT.out.rd.below hbel).at_ hil
      have hty := (HT.out.ty _ (List.getElem_mem hil)).below hbel
      have hnn := HN.out
      generalize ts[i]'hil = x at *
      subst hAe
      have HTK := Lib.hid htk
      have HBAD := Lib.hid hbad
      have HTS := Lib.hid hts
      have x0 : wr.cell? ⟨b, off + i * 5, none⟩ = some (.int .i64 x.t.k) := hx.get 0 rfl
      have x1 : wr.cell? ⟨b, off + i * 5 + 1, none⟩ = some (.int .i64 x.t.sc) := hx.get 1 rfl
      have x2 : wr.cell? ⟨b, off + i * 5 + 2, none⟩ = some (.bool x.t.c.any) := hx.get 2 rfl
      have x3 : wr.cell? ⟨b, off + i * 5 + 3, none⟩ = some (.bool x.t.c.neg) := hx.get 3 rfl
      have x4 : wr.cell? ⟨b, off + i * 5 + 4, none⟩ = some (.slice x.T x.t.c.ts.length x.ct) := hx.get 4 rfl
      clear hx hil hnn htk hbad hts
      go_wp2_with fail
      generalize hXW1 : World.alloc wr _ = W1
      have hbW1 : Below wr.heap.size wr W1 := (by rw [← hXW1]; exact Below.alloc (Below.refl _ _) (Nat.le_refl _) _)
      have KT : BoxIs W1 wr.heap.size #[.int .i64 x.t.k, .int .i64 x.t.sc, .bool x.t.c.any, .bool x.t.c.neg, .slice x.T x.t.c.ts.length x.ct] := (by rw [← hXW1]; exact BoxIs.new (t := 26) rfl)
      obtain ⟨bT, hqT⟩ : ∃ bT, wr.heap.size = bT := ⟨_, rfl⟩
      rw [hqT] at KT
      rw [hqT]
      clear hXW1 hqT
      have hB1 : Below w.heap.size w W1 := hbel.trans (hbW1.mono hbel.size)
      have hty := hty.below hbW1
      have hR := HR.out.below hbW1
      have hlt1 : ∀ g, u4.ownBlock = some g → g < W1.heap.size := fun g hg => (hR.own.lt g hg).2
      have HR1 := Lib.hid hR
      have HLT := Lib.hid hlt1
      clear hbW1 hbel HR hR hlt1 x0 x1 x2 x3 x4
      cases hs : tySnd x.t
      · have HALL := Lib.hid (HBAD.out hs)
        refine (setFull_no x.t x.T x.ct _ hs hty (HE.out.below hB1)).mono ?_
        rintro e w2 ⟨rfl, hb2⟩
        have hB2 : Below w.heap.size w w2 := hB1.trans (hb2.mono hB1.size)
        clear hb2 hB1 hs HBAD KT
        go_wp2_with fail
        refine bodyPost_ret (v := .tuple #[.slice none 0 0, .int .i64 2]) (by simp [results, Tryz.results27, go_sem, *]) rfl ⟨[], _, 2, rfl, .inr ⟨rfl, HALL.out, rfl⟩, bel⟩
      · have HALL : Hid (allSnd (ts.take (i + 1)) = true) := Lib.hid (HTK.out.trans hs)
        refine (fullF_any x.t x.T x.ct _ hs hty (HE.out.below hB1)).mono ?_
        rintro e w2 ⟨r, X, Y, cx, cy, rfl, hRS, ir, okr, fr, hb2⟩
        have hR := HR1.out.below hb2
        have hB2 : Below w.heap.size w w2 := hB1.trans (hb2.mono hB1.size)
        have HFR := Lib.hid fr
        have HIS : Hid (Is (fullG x.t) r ∧ StOk 9 r) := Lib.hid ⟨ir, okr⟩
        clear hb2 hB1 hs HBAD HTK KT HR1 ir okr fr
        go_upto_region 8 with fail
        generalize hXW2 : World.alloc w2 _ = W2
        have hbW2 : Below w2.heap.size w2 W2 := (by rw [← hXW2]; exact Below.alloc (Below.refl _ _) (Nat.le_refl _) _)
        have KS : BoxIs W2 w2.heap.size #[.int .i64 r.k, .slice X r.sp.length cx, .bool r.al, .slice Y r.ws.length cy, .int .i64 r.b, .bool r.nul] := (by rw [← hXW2]; exact BoxIs.new (t := 36) rfl)
        obtain ⟨bS, hqS⟩ : ∃ bS, w2.heap.size = bS := ⟨_, rfl⟩
        rw [hqS] at KS
        rw [hqS]
        clear hXW2 hqS
        have hB3 : Below w.heap.size w W2 := hB2.trans (hbW2.mono hB2.size)
        have HR := Lib.hid (hR.below hbW2)
        have HRS := Lib.hid (hRS.below hbW2)
        have cS := KS.c
        have lS := KS.lt
        have hlen : l.length ≤ n := by rw [HLN.out]; omega
        clear hbW2 hB2 hR hRS
        go_wp2_with (first
          | (at_builtin; refine wpList_append_own2 _ rfl _ _ 48 rfl w.heap.size 36 i0 (.agg #[.int .i64 0, .slice none 0 0, .bool false, .slice none 0 0, .int .i64 0, .bool false]) 6 80 Tryz.underlying48 hinf hza hzb hzc rfl (by decide) _ _ _ rfl (HR.out.own.alloc _) ⟨W2.heap.size, 0, none⟩ 1 1 (List.flatMap StArg.cells [⟨r, X, cx, Y, cy⟩]) rfl rfl (fun j u h => lit_cells6 _ _ _ j u h) (cells_set _) ?c3 ?c4 ?c5 ?_)
          | fail)
        case c3 => unfold maxLen; omega
        case c4 => omega
        case c5 => simp; have := hB3.size; omega
        intro v' w5 hown' hgrow hblk
        have hb5 : Below w.heap.size w w5 := (hB3.alloc hB3.size _).grown hgrow (by simp; have := hB3.size; omega) (fun g hg => (HR.out.own.lt g hg).1)
        have HR5 := Lib.hid (RowBx.more (x := ⟨r, X, cx, Y, cy⟩) (HR.out.below ((Below.refl _ _).alloc (Nat.le_refl _) _)) (HRS.out.alloc _) HLT.out HFR.out (by rw [show List.flatMap StArg.cells [⟨r, X, cx, Y, cy⟩] = (⟨r, X, cx, Y, cy⟩ : StArg).cells by simp]; exact hown') hgrow (fun g hg => by rw [sz_alloc]; exact hblk g hg))
        have HF5 := Lib.hid (fullOf_more (t := x) (s := ⟨r, X, cx, Y, cy⟩) HIS.out HF.out)
        clear hown' hgrow hblk HR HRS cS lS KS hlen hB3
        go_wp2_with fail
        go_roundg (n - (i + 1))
        case measure => omega
        case rel => exact ⟨_, i + 1, by omega, Nat.le_refl _, by go_num, HR5, Lib.hid (by rw [HTS.out]; exact HF5.out), HALL, hb5⟩
    · have i1 : ¬ (i : Int) < (n : Int) := by omega
      have htk : ts.take i = ts := List.take_of_length_le (by rw [HN.out]; omega)
      have HTK := Lib.hid htk
      clear htk
      go_wp2_with fail
      refine bodyPost_ret (v := .tuple #[u4, .int .i64 0]) (by simp [results, Tryz.results27, go_sem, *]) rfl ⟨l, _, 0, rfl, .inl ⟨rfl, by rw [← HTK.out]; exact HS.out, HR.out, by rw [← HTK.out]; exact HF.out⟩, hbel⟩
end Go.Proofs.YtankkadnhdfpfaaGreatDoor

/- A set stored into a row of sets. -/
set_option linter.unusedSimpArgs false
set_option linter.unusedVariables false
namespace Go.Proofs.YtankkadnhdfpfaaGreatDoor
open Go.RowKit Sp Wd

theorem six_get (cur : Array Value) (m : Nat) (v0 v1 v2 v3 v4 v5 : Value) (hm : m + 6 ≤ cur.size) (q : Nat) :
    ((((((cur.setIfInBounds m v0).setIfInBounds (m + 1) v1).setIfInBounds (m + 2) v2).setIfInBounds (m + 3) v3).setIfInBounds (m + 4) v4).setIfInBounds (m + 5) v5)[q]? = if m ≤ q ∧ q < m + 6 then [v0, v1, v2, v3, v4, v5][q - m]? else cur[q]? := by
  by_cases h : m ≤ q ∧ q < m + 6
  · rw [if_pos h]
    have six : q = m ∨ q = m + 1 ∨ q = m + 2 ∨ q = m + 3 ∨ q = m + 4 ∨ q = m + 5 := by omega
    rcases six with rfl | rfl | rfl | rfl | rfl | rfl
    all_goals
      simp only [Array.getElem?_setIfInBounds, Array.size_setIfInBounds]
      simp
      try omega
  · rw [if_neg h]
    simp only [Array.getElem?_setIfInBounds]
    rw [if_neg (by omega), if_neg (by omega), if_neg (by omega), if_neg (by omega), if_neg (by omega), if_neg (by omega)]
theorem rd_six {w W : World} {g : Nat} {cur : Array Value} {l : List StArg} {k : Nat} (hk : k < l.length) (x : StArg) (hw : BoxIs w g cur) (hc : 6 * l.length ≤ cur.size) (h : RdL w 6 (some ⟨g, 0, none⟩) (l.map StArg.cells))
    (hW : W = (((((w.setCell ⟨g, k * 6, none⟩ (.int .i64 x.s.k)).setCell ⟨g, k * 6 + 1, none⟩ (.slice x.A x.s.sp.length x.ca)).setCell ⟨g, k * 6 + 2, none⟩ (.bool x.s.al)).setCell ⟨g, k * 6 + 3, none⟩ (.slice x.B x.s.ws.length x.cb)).setCell ⟨g, k * 6 + 4, none⟩ (.int .i64 x.s.b)).setCell ⟨g, k * 6 + 5, none⟩ (.bool x.s.nul)) :
    RdL W 6 (some ⟨g, 0, none⟩) ((l.set k x).map StArg.cells) := by
  have hW2 := (((((hw.set (k * 6) (.int .i64 x.s.k)).set (k * 6 + 1) (.slice x.A x.s.sp.length x.ca)).set (k * 6 + 2) (.bool x.s.al)).set (k * 6 + 3) (.slice x.B x.s.ws.length x.cb)).set (k * 6 + 4) (.int .i64 x.s.b)).set (k * 6 + 5) (.bool x.s.nul)
  rw [← hW] at hW2
  have hsz : k * 6 + 6 ≤ cur.size := by omega
  intro j c hc'
  rw [List.getElem?_map, Option.map_eq_some_iff] at hc'
  obtain ⟨y, hy, rfl⟩ := hc'
  have hjl : j < l.length := by have := (List.getElem?_eq_some_iff.1 hy).1; simpa using this
  refine ⟨g, 0, rfl, fun i u hu => ?_⟩
  have hi : i < 6 := by have := (List.getElem?_eq_some_iff.1 hu).1; simpa [StArg.cells] using this
  rw [hW2.c, show 0 + j * 6 + i = j * 6 + i by omega, six_get _ _ _ _ _ _ _ _ hsz]
  by_cases hjk : j = k
  · subst hjk
    rw [if_pos (by omega), show j * 6 + i - j * 6 = i by omega]
    have : y = x := by rw [List.getElem?_set_self hjl] at hy; exact (Option.some.inj hy).symm
    rw [this] at hu
    exact hu
  · rw [if_neg (by omega)]
    rw [List.getElem?_set_ne (fun e => hjk e.symm)] at hy
    obtain ⟨b, off, e, hx⟩ := h j y.cells (by rw [List.getElem?_map, hy]; rfl)
    cases e
    have := hx i u hu
    rw [hw.c, show 0 + j * 6 + i = j * 6 + i by omega] at this
    exact this
theorem six_far {w : World} {g m : Nat} {v0 v1 v2 v3 v4 v5 : Value} (k : Nat) (hk : k ≠ g) : ((((((w.setCell ⟨g, m, none⟩ v0).setCell ⟨g, m + 1, none⟩ v1).setCell ⟨g, m + 2, none⟩ v2).setCell ⟨g, m + 3, none⟩ v3).setCell ⟨g, m + 4, none⟩ v4).setCell ⟨g, m + 5, none⟩ v5).heap[k]? = w.heap[k]? := by
  rw [heap_setCell_other _ _ _ _ hk, heap_setCell_other _ _ _ _ hk, heap_setCell_other _ _ _ _ hk, heap_setCell_other _ _ _ _ hk, heap_setCell_other _ _ _ _ hk, heap_setCell_other _ _ _ _ hk]
theorem rd_away {α : Type} {w w' : World} {sz : Nat} {A : Option Addr} {f : α → List Value} {l : List α} {g : Nat} (h : RdL w sz A (l.map f)) (hw : ∀ k, k ≠ g → w'.heap[k]? = w.heap[k]?) (hA : ∀ p, A = some p → l = [] ∨ some g ≠ some p.block) : RdL w' sz A (l.map f) := by
  by_cases h0 : l = []
  · subst h0; exact RdL.nil_ _ _ _
  · refine h.of_block (fun p hp => hw _ (fun e => ?_))
    rcases hA p hp with h1 | h1
    · exact h0 h1
    · exact h1 (by rw [e])
theorem StAt.away {w w' : World} {r : St} {X Y : Option Addr} {g : Nat} (h : StAt w r X Y) (hw : ∀ k, k ≠ g → w'.heap[k]? = w.heap[k]?) (hX : ∀ p, X = some p → r.sp = [] ∨ some g ≠ some p.block) (hY : ∀ p, Y = some p → r.ws = [] ∨ some g ≠ some p.block) : StAt w' r X Y :=
  ⟨rd_away h.sp hw hX, rd_away h.ws hw hY⟩
theorem RowBx.open_ {w : World} {B : Nat} {ov : Value} {l : List StArg} (h : RowBx w B ov l) (hl : l ≠ []) : ∃ g c cur, ov = .slice (some ⟨g, 0, none⟩) l.length c ∧ B ≤ g ∧ BoxIs w g cur ∧ 6 * l.length ≤ cur.size ∧ RdL w 6 (some ⟨g, 0, none⟩) (l.map StArg.cells) := by
  obtain ⟨A, c, e, hr⟩ := Go.Proofs.YtankkadnhdfpfaaGreatDoor.own_rd (css := l.map StArg.cells) h.own (by rw [List.flatMap_def]) (by intro c hc; obtain ⟨x, _, rfl⟩ := List.mem_map.1 hc; rfl) (by rw [List.length_map])
  rcases h.own.2 with ⟨h1, h2⟩ | ⟨g, cap, cur, rfl, hb, hg, hnc, hcm, hcs, htake⟩
  · rw [h1] at e
    injection e with e1 e2 e3
    exact absurd (List.eq_nil_of_length_eq_zero e2.symm) hl
  · injection e with e1 e2 e3
    subst e1
    exact ⟨g, cap, cur, rfl, hb, ⟨_, hg⟩, by rw [hcs]; have := Nat.mul_le_mul_right 6 hnc; omega, hr⟩
end Go.Proofs.YtankkadnhdfpfaaGreatDoor

/- soffit/boxes.With: walked. -/
set_option linter.unusedSimpArgs false
set_option linter.unusedVariables false
namespace Go.Proofs.YtankkadnhdfpfaaGreatDoor
open Go.RowKit Sp Wd

def WithOk (ts : List TyArg) (n : Int) (s : St) : Prop := ∃ k : Nat, n = (k : Int) ∧ ∃ h : k < ts.length, s.k = (ts[k]'h).t.k
structure WithOf (ts : List TyArg) (n : Int) (s : St) (l : List StArg) : Prop where
  at_ : ∃ (k : Nat) (l0 : List StArg) (x : StArg) (h1 : k < ts.length), n = (k : Int) ∧ s.k = (ts[k]'h1).t.k ∧ FullOf ts l0 ∧ l = l0.set k x ∧ Is ((fullG (ts[k]'h1).t).meet s.sg) x.s
  ok : ∀ x ∈ l, ∃ N, N ≤ 1048600 ∧ StOk N x.s

set_option maxRecDepth 100000 in
set_option maxHeartbeats 6400000 in
theorem bxWith_any (ts : List TyArg) (n : Int) (s : St) (N : Nat) (T A B : Option Addr) (ct ca cb : Nat) (w : World) (hT : TysAt w T ts) (h20 : ts.length ≤ 1048576) (hS : StAt w s A B) (os : StOk N s) (hN : N ≤ 1048576) (hE : Env w) :
    Calls Tryz.prog 28 #[.slice T ts.length ct, .int .i64 n, .agg #[.int .i64 s.k, .slice A s.sp.length ca, .bool s.al, .slice B s.ws.length cb, .int .i64 s.b, .bool s.nul]] w fun e w' => ∃ (l : List StArg) (C : Option Addr) (c : Nat) (m : Int), e = .returned (.tuple #[.slice C l.length c, .int .i64 m]) ∧ ((m = 0 ∧ allSnd ts = true ∧ BoxAt w' C l ∧ WithOf ts n s l) ∨ (m = 2 ∧ allSnd ts = false ∧ l = []) ∨ (m = 1 ∧ allSnd ts = true ∧ ¬ WithOk ts n s ∧ l = [])) ∧ Below w.heap.size w w' := by
  have HT := Lib.hid hT
  have HS := Lib.hid hS
  have HE := Lib.hid hE
  obtain ⟨q, hq⟩ : ∃ q, ts.length = q := ⟨_, rfl⟩
  have HQ := Lib.hid hq
  have hq20 : q ≤ 1048576 := by omega
  rw [hq]
  clear hT hS hE hq
  go_enter Tryz.func28, Tryz.ntmps28
  go_wp2_with fail
  generalize hWa : w.alloc _ = Wa
  have hb0 : Below w.heap.size w Wa := (by rw [← hWa]; exact bel)
  have K0 : BoxIs Wa w.heap.size #[.int .i64 s.k, .slice A s.sp.length ca, .bool s.al, .slice B s.ws.length cb, .int .i64 s.b, .bool s.nul] := (by rw [← hWa]; exact BoxIs.new (t := 36) rfl)
  have hsza : Wa.heap.size = w.heap.size + 1 := by rw [← hWa]; simp
  clear hWa
  have hFull := bxFull_any ts T ct Wa (HT.out.below hb0) h20 (HE.out.below hb0)
  rw [HQ.out] at hFull
  refine hFull.mono ?_
  rintro e W0 ⟨l, ov, m, rfl, hres, hb1⟩
  have K0 := K0.below hb1
  have hbw : Below w.heap.size w W0 := hb0.trans (hb1.mono hb0.size)
  rw [hsza] at hres
  clear hb0 hb1 hFull hsza
  rcases hres with ⟨rfl, hall, hrow, hfull⟩ | ⟨rfl, hall, rfl⟩
  rotate_left
  · have HALL := Lib.hid hall
    clear hall
    go_wp2_with fail
    refine bodyPost_ret (v := .tuple #[.slice none 0 0, .int .i64 2]) (by simp [results, Tryz.results28, go_sem, *]) rfl ⟨[], none, 0, 2, rfl, .inr (.inl ⟨rfl, HALL.out, rfl⟩), hbw⟩
  · have hlen := fullOf_len hfull
    obtain ⟨A1, c1, rfl, hbox⟩ := hrow.box (by rw [hlen, HQ.out]; omega)
    have HLEN : Hid (l.length = q) := Lib.hid (hlen.trans HQ.out)
    rw [HLEN.out]
    have HROW := Lib.hid hrow
    have HFULL := Lib.hid hfull
    have HALL := Lib.hid hall
    clear hlen hrow hfull hbox hall
    by_cases hn : 0 ≤ n ∧ n < (q : Int)
    rotate_left
    · have HBAD : Hid (¬ WithOk ts n s) := Lib.hid (by rintro ⟨k, rfl, hk, -⟩; rw [HQ.out] at hk; exact hn ⟨by omega, by omega⟩)
      by_cases hn0 : n < 0
      · clear hn
        go_wp2_with fail
        refine bodyPost_ret (v := .tuple #[.slice none 0 0, .int .i64 1]) (by simp [results, Tryz.results28, go_sem, *]) rfl ⟨[], none, 0, 1, rfl, .inr (.inr ⟨rfl, HALL.out, HBAD.out, rfl⟩), hbw⟩
      · have hn1 : (q : Int) ≤ n := by omega
        clear hn
        go_wp2_with fail
        refine bodyPost_ret (v := .tuple #[.slice none 0 0, .int .i64 1]) (by simp [results, Tryz.results28, go_sem, *]) rfl ⟨[], none, 0, 1, rfl, .inr (.inr ⟨rfl, HALL.out, HBAD.out, rfl⟩), hbw⟩
    · obtain ⟨k, rfl⟩ : ∃ k : Nat, n = (k : Int) := ⟨n.toNat, by omega⟩
      have i0 : (0 : Int) ≤ (k : Int) := by omega
      have i1 : (k : Int) < (q : Int) := by omega
      have hkl : k < l.length := by rw [HLEN.out]; omega
      have hkt : k < ts.length := by rw [HQ.out]; omega
      obtain ⟨g, c, cur, he, hgB, hgc, hg6, hrd⟩ := HROW.out.open_ (by intro e; rw [e] at hkl; simp at hkl)
      rw [HLEN.out] at he
      have he1 : A1 = some ⟨g, 0, none⟩ := by injection he
      have he2 : c1 = c := by injection he
      have hown : Value.ownBlock (.slice A1 l.length c1) = some g := by rw [he1]; rfl
      subst he1
      subst he2
      obtain ⟨b, off, hAe, hx⟩ := hrd.at_ hkl
      cases hAe
      have hget := fullOf_get HFULL.out k hkt hkl
      have hyst := HROW.out.st _ (List.getElem_mem hkl)
      have hlq := HLEN.out
      have htk := HQ.out
      have HKLT := Lib.hid hkl
      generalize hyy : l[k]'hkl = y at *
      have HTY : Hid (∃ h : k < ts.length, (ts[k]'h).t.k = y.s.k ∧ (1 ≤ y.s.k ∧ y.s.k ≤ 4)) := Lib.hid ⟨hkt, by
        have h1 := hget.1.k
        rw [fullG_k] at h1
        have h2 : tySnd (ts[k]'hkt).t = true := List.all_eq_true.1 HALL.out _ (List.getElem_mem hkt)
        have h3 := (ty_of h2).1
        exact ⟨h1.symm, by omega, by omega⟩⟩
      have HY := Lib.hid hyst
      have HYO := Lib.hid hget.2
      have HIS : Hid (∃ h : k < ts.length, Is (fullG (ts[k]'h).t) y.s) := Lib.hid ⟨hkt, hget.1⟩
      have HYS := Lib.hid (HTY.out.2.2)
      have x0 : W0.cell? ⟨g, k * 6, none⟩ = some (.int .i64 y.s.k) := by have h := hx.get 0 (v := .int .i64 y.s.k) rfl; rw [Nat.zero_add] at h; exact h
      have x1 : W0.cell? ⟨g, k * 6 + 1, none⟩ = some (.slice y.A y.s.sp.length y.ca) := by have h := hx.get 1 (v := .slice y.A y.s.sp.length y.ca) rfl; rw [Nat.zero_add] at h; exact h
      have x2 : W0.cell? ⟨g, k * 6 + 2, none⟩ = some (.bool y.s.al) := by have h := hx.get 2 (v := .bool y.s.al) rfl; rw [Nat.zero_add] at h; exact h
      have x3 : W0.cell? ⟨g, k * 6 + 3, none⟩ = some (.slice y.B y.s.ws.length y.cb) := by have h := hx.get 3 (v := .slice y.B y.s.ws.length y.cb) rfl; rw [Nat.zero_add] at h; exact h
      have x4 : W0.cell? ⟨g, k * 6 + 4, none⟩ = some (.int .i64 y.s.b) := by have h := hx.get 4 (v := .int .i64 y.s.b) rfl; rw [Nat.zero_add] at h; exact h
      have x5 : W0.cell? ⟨g, k * 6 + 5, none⟩ = some (.bool y.s.nul) := by have h := hx.get 5 (v := .bool y.s.nul) rfl; rw [Nat.zero_add] at h; exact h
      have HGB := Lib.hid hgB
      have HGC := Lib.hid hgc
      have HG6 := Lib.hid hg6
      have HRD := Lib.hid hrd
      have HOWN := Lib.hid hown
      have HS0 := Lib.hid (HS.out.below hbw)
      have HE0 := Lib.hid (HE.out.below hbw)
      have hgsz := hgc.lt
      have hne : w.heap.size ≠ g := by omega
      have k0 := K0.c
      have l0 := K0.lt
      clear hx hyst hget hlq htk hn hkl hkt hgB hgc hg6 hrd hown hyy he
      have HK : ∀ w', Below (w.heap.size + 1) W0 w' → Below (w.heap.size + 1) W0 w' ∧ (∀ o, w'.cell? ⟨w.heap.size, o, none⟩ = (#[.int .i64 s.k, .slice A s.sp.length ca, .bool s.al, .slice B s.ws.length cb, .int .i64 s.b, .bool s.nul] : Array Value)[o]?) := fun w' hb => ⟨hb, (K0.low hb (by omega)).c⟩
      by_cases hsk : y.s.k = s.k
      · have HYK := Lib.hid hsk
        clear hsk
        go_wp2_with fail
        refine wp_region_held_drew (S := (fun w' => Below (w.heap.size + 1) W0 w' ∧ (∀ o, w'.cell? ⟨w.heap.size, o, none⟩ = (#[.int .i64 s.k, .slice A s.sp.length ca, .bool s.al, .slice B s.ws.length cb, .int .i64 s.b, .bool s.nul] : Array Value)[o]?))) (by kernel_rfl) (HK _ (Below.drew (Below.refl _ _))) (fun hHeld => ?_)
        refine tkH 0 ?_
        try simp only [shH]
        refine tkH 1 ?_
        try simp only [shH]
        refine tkH 2 ?_
        try simp only [shH]
        refine tkH 3 ?_
        try simp only [shH]
        refine tkH 4 ?_
        try simp only [shH]
        refine tkH 6 ?_
        try simp only [shH]
        refine rdH [5] ?_
        refine AllReadyH.cons rfl (fun K hK => ?_) AllReadyH.nil
        go_simp
        refine hK.out _ _ ?_ (fun hH2 => ?_)
        · exact HK _ (Below.drew (Below.refl _ _))
        clear hK K hHeld
        have hHeld := hH2
        clear hH2
        try simp only [shH]
        refine rdH [7] ?_
        refine AllReadyH.cons rfl (fun K hK => ?_) AllReadyH.nil
        go_simp
        go_at_call 16
        refine (meetF_any y.s s 9 N y.A y.B A B y.ca y.cb ca cb _ HYK.out (by have := HYS.out; omega) (HY.out.below bel) (HS0.out.below bel) HYO.out os (by omega) (by omega) (by omega) (HE0.out.below bel)).mono ?_
        rintro e w1 ⟨r, X, Y, cx, cy, rfl, hR, ir, okr, alr, fr, hb1⟩
        have hB1 : Below W0.heap.size W0 w1 := (by first | exact hb1 | exact undrew hb1)
        clear alr
        have gf := (HGC.out.below hB1).f
        have y0 := cell_below hB1 x0
        have y1 := cell_below hB1 x1
        have y2 := cell_below hB1 x2
        have y3 := cell_below hB1 x3
        have y4 := cell_below hB1 x4
        have y5 := cell_below hB1 x5
        refine hK.out _ _ ?_ (fun hH2 => ?_)
        · exact HK _ (Below.mono hB1 (by have := HGB.out; omega))
        clear hK K hHeld
        have hHeld := hH2
        clear hH2
        try simp only [shH]
        refine tkH 8 ?_
        try simp only [shH]
        refine tkH 9 ?_
        try simp only [shH]
        refine tkH 10 ?_
        try simp only [shH]
        refine tkH 11 ?_
        try simp only [shH]
        refine rdH [12] ?_
        refine AllReadyH.cons rfl (fun K hK => ?_) AllReadyH.nil
        go_simp
        refine hK.out _ _ ?_ (fun hH2 => ?_)
        · exact HK _ (by have := HGB.out; exact bel)
        clear hK K hHeld
        have hHeld := hH2
        clear hH2
        try simp only [shH]
        refine tkH 13 ?_
        try simp only [shH]
        refine dnH ?_ _
        clear hHeld
        (try simp only [Exit.then, Exit.inBlock])
        generalize hWz : (((((w1.setCell _ _).setCell _ _).setCell _ _).setCell _ _).setCell _ _).setCell _ _ = Wz
        have hgc1 := HGC.out.below hB1
        have hrd1 := HRD.out.below hB1
        have hnew := rd_six HKLT.out ⟨r, X, cx, Y, cy⟩ hgc1 HG6.out hrd1 hWz.symm
        have hfar : ∀ j, j ≠ g → Wz.heap[j]? = w1.heap[j]? := fun j hj => by rw [← hWz]; exact six_far j hj
        have hbz : Below w.heap.size w Wz := by
          have h1 := hbw.trans (hB1.mono hbw.size)
          have h2 : w.heap.size ≤ g := by have := HGB.out; omega
          rw [← hWz]; exact bel
        have hst : ∀ x ∈ l.set k ⟨r, X, cx, Y, cy⟩, StAt Wz x.s x.A x.B := fun x hx => by
          rcases List.mem_or_eq_of_mem_set hx with h1 | h1
          · have h2 := HROW.out.fr x h1
            rw [HOWN.out] at h2
            exact ((HROW.out.st x h1).below hB1).away hfar h2.1 h2.2
          · subst h1
            exact hR.away hfar (fun p hp => (fr.1 p hp).imp id (fun h e => by have h' : W0.heap.size ≤ p.block := h; have h3 := HGC.out.lt; injection e with e; omega)) (fun p hp => (fr.2 p hp).imp id (fun h e => by have h' : W0.heap.size ≤ p.block := h; have h3 := HGC.out.lt; injection e with e; omega))
        have HFIN : Hid (BoxAt Wz (some ⟨g, 0, none⟩) (l.set k ⟨r, X, cx, Y, cy⟩) ∧ WithOf ts (k : Int) s (l.set k ⟨r, X, cx, Y, cy⟩) ∧ Below w.heap.size w Wz) := Lib.hid ⟨⟨hnew, hst, by rw [List.length_set, HLEN.out]; omega⟩, ⟨by
            obtain ⟨h1, h2, -⟩ := HTY.out
            obtain ⟨h3, h4⟩ := HIS.out
            rw [h4.sg_eq (by rw [fullG_k, h2]; exact HYS.out)] at ir
            exact ⟨k, l, ⟨r, X, cx, Y, cy⟩, h1, rfl, HYK.out.symm.trans h2.symm, HFULL.out, rfl, ir⟩, fun x hx => by
            rcases List.mem_or_eq_of_mem_set hx with h1 | h1
            · obtain ⟨j, hj, rfl⟩ := List.getElem_of_mem h1
              exact ⟨9, by omega, (fullOf_get HFULL.out j (by rw [HQ.out, ← HLEN.out]; exact hj) hj).2⟩
            · subst h1; exact ⟨9 + N, by omega, okr⟩⟩, hbz⟩
        have hls : (l.set k ⟨r, X, cx, Y, cy⟩).length = q := by rw [List.length_set, HLEN.out]
        have HLS := Lib.hid hls
        clear gf y0 y1 y2 y3 y4 y5 x0 x1 x2 x3 x4 x5 hWz hgc1 hrd1 hnew hfar hbz hst hls hB1 hR ir okr fr hb1 HK K0 k0 l0
        go_wp2_with fail
        refine bodyPost_ret (v := .tuple #[.slice (some ⟨g, 0, none⟩) q c1, .int .i64 0]) (by simp [results, Tryz.results28, go_sem, *]) rfl ⟨_, some ⟨g, 0, none⟩, c1, 0, by rw [HLS.out], .inl ⟨rfl, HALL.out, HFIN.out.1, HFIN.out.2.1⟩, HFIN.out.2.2⟩
      · have HYN : Hid ((y.s.k == s.k && decide (1 ≤ y.s.k ∧ y.s.k ≤ 4)) = false) := Lib.hid (by rw [show (y.s.k == s.k) = false by simp [hsk]]; rfl)
        have HBAD : Hid (¬ WithOk ts (k : Int) s) := Lib.hid (by
          rintro ⟨k', hk', h', hs'⟩
          obtain rfl : k = k' := by omega
          obtain ⟨h1, h2, -⟩ := HTY.out
          exact hsk (h2.symm.trans hs'.symm))
        clear hsk
        go_wp2_with fail
        refine wp_region_held_drew (S := (fun w' => Below (w.heap.size + 1) W0 w' ∧ (∀ o, w'.cell? ⟨w.heap.size, o, none⟩ = (#[.int .i64 s.k, .slice A s.sp.length ca, .bool s.al, .slice B s.ws.length cb, .int .i64 s.b, .bool s.nul] : Array Value)[o]?))) (by kernel_rfl) (HK _ (Below.drew (Below.refl _ _))) (fun hHeld => ?_)
        refine tkH 0 ?_
        try simp only [shH]
        refine tkH 1 ?_
        try simp only [shH]
        refine tkH 2 ?_
        try simp only [shH]
        refine tkH 3 ?_
        try simp only [shH]
        refine tkH 4 ?_
        try simp only [shH]
        refine tkH 6 ?_
        try simp only [shH]
        refine rdH [5] ?_
        refine AllReadyH.cons rfl (fun K hK => ?_) AllReadyH.nil
        go_simp
        refine hK.out _ _ ?_ (fun hH2 => ?_)
        · exact HK _ (Below.drew (Below.refl _ _))
        clear hK K hHeld
        have hHeld := hH2
        clear hH2
        try simp only [shH]
        refine rdH [7] ?_
        refine AllReadyH.cons rfl (fun K hK => ?_) AllReadyH.nil
        go_simp
        go_at_call 16
        refine (setMeet2_no y.s s y.A y.B A B y.ca y.cb ca cb _ HYN.out).mono ?_
        rintro e w1 ⟨rfl, hb1⟩
        have hB1 : Below W0.heap.size W0 w1 := (by first | exact hb1 | exact undrew hb1)
        have gf := (HGC.out.below hB1).f
        have y0 := cell_below hB1 x0
        have y1 := cell_below hB1 x1
        have y2 := cell_below hB1 x2
        have y3 := cell_below hB1 x3
        have y4 := cell_below hB1 x4
        have y5 := cell_below hB1 x5
        refine hK.out _ _ ?_ (fun hH2 => ?_)
        · exact HK _ (Below.mono hB1 (by have := HGB.out; omega))
        clear hK K hHeld
        have hHeld := hH2
        clear hH2
        try simp only [shH]
        refine tkH 8 ?_
        try simp only [shH]
        refine tkH 9 ?_
        try simp only [shH]
        refine tkH 10 ?_
        try simp only [shH]
        refine tkH 11 ?_
        try simp only [shH]
        refine rdH [12] ?_
        refine AllReadyH.cons rfl (fun K hK => ?_) AllReadyH.nil
        go_simp
        refine hK.out _ _ ?_ (fun hH2 => ?_)
        · exact HK _ (by have := HGB.out; exact bel)
        clear hK K hHeld
        have hHeld := hH2
        clear hH2
        try simp only [shH]
        refine tkH 13 ?_
        try simp only [shH]
        refine dnH ?_ _
        clear hHeld
        (try simp only [Exit.then, Exit.inBlock])
        generalize hWz : (((((w1.setCell _ _).setCell _ _).setCell _ _).setCell _ _).setCell _ _).setCell _ _ = Wz
        have hbz : Below w.heap.size w Wz := by
          have h1 := hbw.trans (hB1.mono hbw.size)
          have h2 : w.heap.size ≤ g := by have := HGB.out; omega
          rw [← hWz]; exact bel
        clear gf y0 y1 y2 y3 y4 y5 x0 x1 x2 x3 x4 x5 hWz hB1 hb1 HK K0 k0 l0
        go_wp2_with fail
        refine bodyPost_ret (v := .tuple #[.slice none 0 0, .int .i64 1]) (by simp [results, Tryz.results28, go_sem, *]) rfl ⟨[], none, 0, 1, rfl, .inr (.inr ⟨rfl, HALL.out, HBAD.out, rfl⟩), hbz⟩
end Go.Proofs.YtankkadnhdfpfaaGreatDoor

/- slices.ContainsFunc at sets, at boxes and at types; boxes.Empty, Budget; alike's inner functions: walked. -/
set_option linter.unusedSimpArgs false
set_option linter.unusedVariables false
namespace Go.Proofs.YtankkadnhdfpfaaGreatDoor
open Go.RowKit Sp Wd

def bsGives (g : Nat) (fv : Array Value) (p : StArg → Bool) (xs : List StArg) (w : World) : Prop :=
  ∀ x ∈ xs, ∀ W : World, Below w.heap.size w W → Calls Tryz.prog g (#[.agg #[.int .i64 x.s.k, .slice x.A x.s.sp.length x.ca, .bool x.s.al, .slice x.B x.s.ws.length x.cb, .int .i64 x.s.b, .bool x.s.nul]] ++ fv) W fun e w' => e = .returned (.bool (p x)) ∧ Below W.heap.size W w'

set_option maxRecDepth 100000 in
set_option maxHeartbeats 800000 in
theorem bsIndex (g : Nat) (p : StArg → Bool) (xs : List StArg) (A : Option Addr) (c : Nat) (w : World) (hr : RdL w 6 A (xs.map StArg.cells)) (hn : xs.length ≤ 9223372036854775807)
    (hg : bsGives g #[] p xs w) (he : ∀ args W, (callFunc g args).run Tryz.prog W = .ok (.enter g args) W) :
    Calls Tryz.prog 150 #[.slice A xs.length c, .func (.func g) #[] #[]] w fun e w' => e = .returned (.int .i64 (idxF p xs 0)) ∧ Below w.heap.size w w' := by
  go_enter Tryz.func150, Tryz.ntmps150
  go_wp2_with fail
  go_loopg [8] xs.length (fun k i wr => ∃ j : Nat, j ≤ xs.length ∧ xs.length - j ≤ k ∧ Hid (idxF p xs 0 = idxF p (xs.drop j) j) ∧ i = .int .i64 j ∧ Below w.heap.size w wr)
  case atStart => exact ⟨0, by omega, by omega, rfl, rfl, Below.refl _ _⟩
  case round =>
    obtain ⟨j, hj, hjk, hi, rfl, hbel⟩ := hrel
    by_cases hlt : j < xs.length
    · obtain ⟨b, off, rfl, hx⟩ := (hr.below hbel).at_ hlt
      have hmem : xs[j]'hlt ∈ xs := List.getElem_mem hlt
      have hyes := fun h => idxF_drop_yes (p := p) hlt h
      have hno := fun h => idxF_drop_no (p := p) hlt h
      generalize hX : xs[j]'hlt = x at *
      have hgx := hg x hmem
      have g0 : wr.cell? ⟨b, off + j * 6, none⟩ = some (.int .i64 x.s.k) := hx.get 0 rfl
      have g1 : wr.cell? ⟨b, off + j * 6 + 1, none⟩ = some (.slice x.A x.s.sp.length x.ca) := hx.get 1 rfl
      have g2 : wr.cell? ⟨b, off + j * 6 + 2, none⟩ = some (.bool x.s.al) := hx.get 2 rfl
      have g3 : wr.cell? ⟨b, off + j * 6 + 3, none⟩ = some (.slice x.B x.s.ws.length x.cb) := hx.get 3 rfl
      have g4 : wr.cell? ⟨b, off + j * 6 + 4, none⟩ = some (.int .i64 x.s.b) := hx.get 4 rfl
      have g5 : wr.cell? ⟨b, off + j * 6 + 5, none⟩ = some (.bool x.s.nul) := hx.get 5 rfl
      have HG := Lib.hid hgx
      have HYES := Lib.hid hyes
      have HNO := Lib.hid hno
      have hsz := hbel.size
      clear hgx hyes hno hX hmem hx
      cases hp : p x
      · have HN := Lib.hid (HNO.out hp)
        go_wp2_with fail
        refine (HG.out _ bel).mono ?_
        rintro e w1 ⟨rfl, hb1⟩
        rw [hp]
        clear hp
        go_wp2_with fail
        go_roundg (gk - 1)
        case measure => omega
        case rel => exact ⟨j + 1, by omega, by omega, hi.out.trans HN.out, by go_num, bel⟩
      · have HY := Lib.hid (HYES.out hp)
        go_wp2_with fail
        refine (HG.out _ bel).mono ?_
        rintro e w1 ⟨rfl, hb1⟩
        rw [hp]
        clear hp
        go_wp2_with fail
        go_ret
        exact ⟨ret_int (by rw [hi.out, HY.out]), bel⟩
    · have HE := Lib.hid (idxF_drop_end (p := p) hlt)
      go_wp2_with fail
      go_ret
      exact ⟨ret_int (by rw [hi.out, HE.out]), hbel⟩

set_option maxHeartbeats 400000 in
theorem bsContains (g : Nat) (p : StArg → Bool) (xs : List StArg) (A : Option Addr) (c : Nat) (w : World) (hr : RdL w 6 A (xs.map StArg.cells)) (hn : xs.length ≤ 9223372036854775807)
    (hg : bsGives g #[] p xs w) (he : ∀ args W, (callFunc g args).run Tryz.prog W = .ok (.enter g args) W) :
    Calls Tryz.prog 111 #[.slice A xs.length c, .func (.func g) #[] #[]] w fun e w' => e = .returned (.bool (xs.any p)) ∧ Below w.heap.size w w' := by
  have HA := Lib.hid (idxF_any p xs 0)
  go_enter Tryz.func111, Tryz.ntmps111
  go_wp2_with fail
  refine (bsIndex g p xs A c _ hr hn hg he).mono ?_
  rintro e w1 ⟨rfl, hb1⟩
  generalize idxF p xs 0 = r at *
  go_wp2_with fail
  go_ret
  exact ⟨ret_bool HA.out, hb1⟩

def blGives (g : Nat) (fv : Array Value) (p : BxArg → Bool) (xs : List BxArg) (w : World) : Prop :=
  ∀ x ∈ xs, ∀ W : World, Below w.heap.size w W → Calls Tryz.prog g (#[.slice x.A x.l.length x.c] ++ fv) W fun e w' => e = .returned (.bool (p x)) ∧ Below W.heap.size W w'

set_option maxRecDepth 100000 in
set_option maxHeartbeats 800000 in
theorem blIndex (g : Nat) (q : Addr) (p : BxArg → Bool) (xs : List BxArg) (A : Option Addr) (c : Nat) (w : World) (hr : RdL w 1 A (xs.map BxArg.cells)) (hn : xs.length ≤ 9223372036854775807)
    (hg : blGives g #[.pointer (some q)] p xs w) (he : ∀ args W, (callFunc g args).run Tryz.prog W = .ok (.enter g args) W) :
    Calls Tryz.prog 101 #[.slice A xs.length c, .func (.func g) #[] #[.pointer (some q)]] w fun e w' => e = .returned (.int .i64 (idxF p xs 0)) ∧ Below w.heap.size w w' := by
  go_enter Tryz.func101, Tryz.ntmps101
  go_wp2_with fail
  go_loopg [8] xs.length (fun k i wr => ∃ j : Nat, j ≤ xs.length ∧ xs.length - j ≤ k ∧ Hid (idxF p xs 0 = idxF p (xs.drop j) j) ∧ i = .int .i64 j ∧ Below w.heap.size w wr)
  case atStart => exact ⟨0, by omega, by omega, rfl, rfl, Below.refl _ _⟩
  case round =>
    obtain ⟨j, hj, hjk, hi, rfl, hbel⟩ := hrel
    by_cases hlt : j < xs.length
    · obtain ⟨b, off, rfl, hx⟩ := (hr.below hbel).at_ hlt
      have hmem : xs[j]'hlt ∈ xs := List.getElem_mem hlt
      have hyes := fun h => idxF_drop_yes (p := p) hlt h
      have hno := fun h => idxF_drop_no (p := p) hlt h
      generalize hX : xs[j]'hlt = x at *
      have hgx := hg x hmem
      have g0 : wr.cell? ⟨b, off + j, none⟩ = some (.slice x.A x.l.length x.c) := by have := hx.get 0 rfl; simpa using this
      have HG := Lib.hid hgx
      have HYES := Lib.hid hyes
      have HNO := Lib.hid hno
      have hsz := hbel.size
      clear hgx hyes hno hX hmem hx
      cases hp : p x
      · have HN := Lib.hid (HNO.out hp)
        go_wp2_with fail
        refine (HG.out _ bel).mono ?_
        rintro e w1 ⟨rfl, hb1⟩
        rw [hp]
        clear hp
        go_wp2_with fail
        go_roundg (gk - 1)
        case measure => omega
        case rel => exact ⟨j + 1, by omega, by omega, hi.out.trans HN.out, by go_num, bel⟩
      · have HY := Lib.hid (HYES.out hp)
        go_wp2_with fail
        refine (HG.out _ bel).mono ?_
        rintro e w1 ⟨rfl, hb1⟩
        rw [hp]
        clear hp
        go_wp2_with fail
        go_ret
        exact ⟨ret_int (by rw [hi.out, HY.out]), bel⟩
    · have HE := Lib.hid (idxF_drop_end (p := p) hlt)
      go_wp2_with fail
      go_ret
      exact ⟨ret_int (by rw [hi.out, HE.out]), hbel⟩

set_option maxHeartbeats 400000 in
theorem blContains (g : Nat) (q : Addr) (p : BxArg → Bool) (xs : List BxArg) (A : Option Addr) (c : Nat) (w : World) (hr : RdL w 1 A (xs.map BxArg.cells)) (hn : xs.length ≤ 9223372036854775807)
    (hg : blGives g #[.pointer (some q)] p xs w) (he : ∀ args W, (callFunc g args).run Tryz.prog W = .ok (.enter g args) W) :
    Calls Tryz.prog 60 #[.slice A xs.length c, .func (.func g) #[] #[.pointer (some q)]] w fun e w' => e = .returned (.bool (xs.any p)) ∧ Below w.heap.size w w' := by
  have HA := Lib.hid (idxF_any p xs 0)
  go_enter Tryz.func60, Tryz.ntmps60
  go_wp2_with fail
  refine (blIndex g q p xs A c _ hr hn hg he).mono ?_
  rintro e w1 ⟨rfl, hb1⟩
  generalize idxF p xs 0 = r at *
  go_wp2_with fail
  go_ret
  exact ⟨ret_bool HA.out, hb1⟩

def btGives (g : Nat) (fv : Array Value) (p : TyArg → Bool) (xs : List TyArg) (w : World) : Prop :=
  ∀ x ∈ xs, ∀ W : World, Below w.heap.size w W → Calls Tryz.prog g (#[.agg #[.int .i64 x.t.k, .int .i64 x.t.sc, .bool x.t.c.any, .bool x.t.c.neg, .slice x.T x.t.c.ts.length x.ct]] ++ fv) W fun e w' => e = .returned (.bool (p x)) ∧ Below W.heap.size W w'

set_option maxRecDepth 100000 in
set_option maxHeartbeats 800000 in
theorem btIndex (g : Nat) (p : TyArg → Bool) (xs : List TyArg) (A : Option Addr) (c : Nat) (w : World) (hr : RdL w 5 A (xs.map TyArg.cells)) (hn : xs.length ≤ 9223372036854775807)
    (hg : btGives g #[] p xs w) (he : ∀ args W, (callFunc g args).run Tryz.prog W = .ok (.enter g args) W) :
    Calls Tryz.prog 100 #[.slice A xs.length c, .func (.func g) #[] #[]] w fun e w' => e = .returned (.int .i64 (idxF p xs 0)) ∧ Below w.heap.size w w' := by
  go_enter Tryz.func100, Tryz.ntmps100
  go_wp2_with fail
  go_loopg [8] xs.length (fun k i wr => ∃ j : Nat, j ≤ xs.length ∧ xs.length - j ≤ k ∧ Hid (idxF p xs 0 = idxF p (xs.drop j) j) ∧ i = .int .i64 j ∧ Below w.heap.size w wr)
  case atStart => exact ⟨0, by omega, by omega, rfl, rfl, Below.refl _ _⟩
  case round =>
    obtain ⟨j, hj, hjk, hi, rfl, hbel⟩ := hrel
    by_cases hlt : j < xs.length
    · obtain ⟨b, off, rfl, hx⟩ := (hr.below hbel).at_ hlt
      have hmem : xs[j]'hlt ∈ xs := List.getElem_mem hlt
      have hyes := fun h => idxF_drop_yes (p := p) hlt h
      have hno := fun h => idxF_drop_no (p := p) hlt h
      generalize hX : xs[j]'hlt = x at *
      have hgx := hg x hmem
      have g0 : wr.cell? ⟨b, off + j * 5, none⟩ = some (.int .i64 x.t.k) := hx.get 0 rfl
      have g1 : wr.cell? ⟨b, off + j * 5 + 1, none⟩ = some (.int .i64 x.t.sc) := hx.get 1 rfl
      have g2 : wr.cell? ⟨b, off + j * 5 + 2, none⟩ = some (.bool x.t.c.any) := hx.get 2 rfl
      have g3 : wr.cell? ⟨b, off + j * 5 + 3, none⟩ = some (.bool x.t.c.neg) := hx.get 3 rfl
      have g4 : wr.cell? ⟨b, off + j * 5 + 4, none⟩ = some (.slice x.T x.t.c.ts.length x.ct) := hx.get 4 rfl
      have HG := Lib.hid hgx
      have HYES := Lib.hid hyes
      have HNO := Lib.hid hno
      have hsz := hbel.size
      clear hgx hyes hno hX hmem hx
      cases hp : p x
      · have HN := Lib.hid (HNO.out hp)
        go_wp2_with fail
        refine (HG.out _ bel).mono ?_
        rintro e w1 ⟨rfl, hb1⟩
        rw [hp]
        clear hp
        go_wp2_with fail
        go_roundg (gk - 1)
        case measure => omega
        case rel => exact ⟨j + 1, by omega, by omega, hi.out.trans HN.out, by go_num, bel⟩
      · have HY := Lib.hid (HYES.out hp)
        go_wp2_with fail
        refine (HG.out _ bel).mono ?_
        rintro e w1 ⟨rfl, hb1⟩
        rw [hp]
        clear hp
        go_wp2_with fail
        go_ret
        exact ⟨ret_int (by rw [hi.out, HY.out]), bel⟩
    · have HE := Lib.hid (idxF_drop_end (p := p) hlt)
      go_wp2_with fail
      go_ret
      exact ⟨ret_int (by rw [hi.out, HE.out]), hbel⟩

set_option maxHeartbeats 400000 in
theorem btContains (g : Nat) (p : TyArg → Bool) (xs : List TyArg) (A : Option Addr) (c : Nat) (w : World) (hr : RdL w 5 A (xs.map TyArg.cells)) (hn : xs.length ≤ 9223372036854775807)
    (hg : btGives g #[] p xs w) (he : ∀ args W, (callFunc g args).run Tryz.prog W = .ok (.enter g args) W) :
    Calls Tryz.prog 58 #[.slice A xs.length c, .func (.func g) #[] #[]] w fun e w' => e = .returned (.bool (xs.any p)) ∧ Below w.heap.size w w' := by
  have HA := Lib.hid (idxF_any p xs 0)
  go_enter Tryz.func58, Tryz.ntmps58
  go_wp2_with fail
  refine (btIndex g p xs A c _ hr hn hg he).mono ?_
  rintro e w1 ⟨rfl, hb1⟩
  generalize idxF p xs 0 = r at *
  go_wp2_with fail
  go_ret
  exact ⟨ret_bool HA.out, hb1⟩

noncomputable def emptyB (s : St) : Bool := @decide (∃ r, Is s.sg r ∧ r.al = (s.k == 2 && s.al) ∧ emptyG r = true) (Classical.propDecidable _)
theorem emptyB_eq {s r : St} (h : Is s.sg r) (ha : r.al = (s.k == 2 && s.al)) : emptyG r = emptyB s := by
  unfold emptyB
  rw [Bool.eq_iff_iff, @decide_eq_true_iff _ (Classical.propDecidable _)]
  constructor
  · intro he; exact ⟨r, h, ha, he⟩
  · rintro ⟨r', h', ha', he⟩
    rw [is_uniq h h' (ha.trans ha'.symm)]; exact he
set_option maxRecDepth 100000 in
set_option maxHeartbeats 1600000 in
theorem bxEmpty_any (l : List StArg) (A : Option Addr) (c : Nat) (w : World) (hB : BoxAt w A l) (N : Nat) (hO : ∀ x ∈ l, StOk N x.s) (hN : N ≤ 8000000000000) (hE : Env w) :
    Calls Tryz.prog 75 #[.slice A l.length c] w fun e w' => e = .returned (.bool (l.any fun x => emptyB x.s)) ∧ Below w.heap.size w w' := by
  have HC := bsContains 17 (fun x => emptyB x.s) l A c w hB.rd hB.n (fun x hx W hW => by
    refine (setEmpty_any x.s N x.A x.B x.ca x.cb W ((hB.st x hx).below hW) (hO x hx) hN (hE.below hW)).mono ?_
    rintro e w' ⟨r, rfl, ir, alr, hb⟩
    exact ⟨by rw [emptyB_eq ir alr], hb⟩) (enters_of Tryz.func17 (by kernel_rfl) rfl)
  obtain ⟨R, hR⟩ : ∃ R, (l.any fun x => emptyB x.s) = R := ⟨_, rfl⟩
  rw [hR] at HC ⊢
  clear hR
  go_enter Tryz.func75, Tryz.ntmps75
  go_wp2_with fail
  refine HC.mono ?_
  rintro e w1 ⟨rfl, hb1⟩
  go_wp2_with fail
  go_ret
  exact ⟨rfl, hb1⟩
def budM (n : Int) : Int := if n = -1 ∨ 4096 < n then 4096 else n
def budB (n : Int) : Bool := decide (-1 ≤ n)
set_option maxHeartbeats 800000 in
theorem budget_any (n : Int) (w : World) : Calls Tryz.prog 70 #[.int .i64 n] w fun e w' => e = .returned (.tuple #[.int .i64 (budM n), .bool (budB n)]) ∧ Below w.heap.size w w' := by
  have four : n = -1 ∨ (n ≠ -1 ∧ 4096 < n) ∨ (n ≠ -1 ∧ ¬ 4096 < n ∧ 0 ≤ n) ∨ (n ≠ -1 ∧ ¬ 4096 < n ∧ ¬ 0 ≤ n) := by omega
  rcases four with h | ⟨h, h2⟩ | ⟨h, h2, h3⟩ | ⟨h, h2, h3⟩
  · subst h
    rw [show budM (-1) = 4096 from rfl, show budB (-1) = true from rfl]
    go_enter Tryz.func70, Tryz.ntmps70
    go_wp2_with fail
    refine bodyPost_ret (v := .tuple #[.int .i64 4096, .bool true]) (by simp [results, Tryz.results70, go_sem, *]) rfl ⟨rfl, bel⟩
  · have e1 : (n == -1) = false := by simp [h]
    rw [show budM n = 4096 from if_pos (.inr h2), show budB n = true from decide_eq_true (by omega)]
    clear h
    go_enter Tryz.func70, Tryz.ntmps70
    go_wp2_with fail
    refine bodyPost_ret (v := .tuple #[.int .i64 4096, .bool true]) (by simp [results, Tryz.results70, go_sem, *]) rfl ⟨rfl, bel⟩
  · have e1 : (n == -1) = false := by simp [h]
    rw [show budM n = n from if_neg (by omega), show budB n = true from decide_eq_true (by omega)]
    clear h
    go_enter Tryz.func70, Tryz.ntmps70
    go_wp2_with fail
    refine bodyPost_ret (v := .tuple #[.int .i64 n, .bool true]) (by simp [results, Tryz.results70, go_sem, *]) rfl ⟨rfl, bel⟩
  · have e1 : (n == -1) = false := by simp [h]
    rw [show budM n = n from if_neg (by omega), show budB n = false from decide_eq_false (by omega)]
    clear h
    go_enter Tryz.func70, Tryz.ntmps70
    go_wp2_with fail
    refine bodyPost_ret (v := .tuple #[.int .i64 n, .bool false]) (by simp [results, Tryz.results70, go_sem, *]) rfl ⟨rfl, bel⟩
def badK (x : StArg) : Bool := !decide (1 ≤ x.s.k ∧ x.s.k ≤ 4)
set_option maxHeartbeats 800000 in
theorem alike2_any (x : StArg) (w : World) : Calls Tryz.prog 112 #[.agg #[.int .i64 x.s.k, .slice x.A x.s.sp.length x.ca, .bool x.s.al, .slice x.B x.s.ws.length x.cb, .int .i64 x.s.b, .bool x.s.nul]] w fun e w' => e = .returned (.bool (badK x)) ∧ Below w.heap.size w w' := by
  have three : x.s.k < 1 ∨ (¬ x.s.k < 1 ∧ 4 < x.s.k) ∨ (¬ x.s.k < 1 ∧ ¬ 4 < x.s.k) := by omega
  rcases three with h | ⟨h, h2⟩ | ⟨h, h2⟩
  · have HB : Hid (badK x = true) := Lib.hid (by unfold badK; simp; omega)
    go_enter Tryz.func112, Tryz.ntmps112
    go_wp2_with fail
    go_ret
    exact ⟨ret_bool HB.out.symm, bel⟩
  · have HB : Hid (badK x = true) := Lib.hid (by unfold badK; simp; omega)
    go_enter Tryz.func112, Tryz.ntmps112
    go_wp2_with fail
    go_ret
    exact ⟨ret_bool HB.out.symm, bel⟩
  · have HB : Hid (badK x = false) := Lib.hid (by unfold badK; simp; omega)
    go_enter Tryz.func112, Tryz.ntmps112
    go_wp2_with fail
    go_ret
    exact ⟨ret_bool HB.out.symm, bel⟩
end Go.Proofs.YtankkadnhdfpfaaGreatDoor
