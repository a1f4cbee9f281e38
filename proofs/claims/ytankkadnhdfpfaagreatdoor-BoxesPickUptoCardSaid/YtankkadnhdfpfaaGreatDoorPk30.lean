import Derived.Test.YtankkadnhdfpfaaGreatDoorPk15
import Derived.Test.YtankkadnhdfpfaaGreatDoorPk28
import Derived.Test.YtankkadnhdfpfaaGreatDoorPk29
import Derived.Test.YtankkadnhdfpfaaGreatDoorPk13
/- From the arguments' readings to Lean data: sets, lists of sets, lists of boxes; how many values they hold at most. -/
set_option linter.unusedSimpArgs false
set_option linter.unusedVariables false
namespace Go.Proofs.YtankkadnhdfpfaaGreatDoor
open Go.RowKit Go.ChangeShapes Go.WideShapes Go.Deep Sp Wd
set_option maxRecDepth 100000

theorem bulk_pos {H : Type} (d : DataW H) : 1 ≤ Rows.uptoBulk d := by
  cases d with
  | lit l => cases l <;> simp [Rows.uptoBulk]
  | nil => simp [Rows.uptoBulk]
  | ptr d => simp [Rows.uptoBulk]
  | slice elems spare => simp [Rows.uptoBulk]
  | agg parts => simp [Rows.uptoBulk]
  | iface t d => simp [Rows.uptoBulk]
  | map entries => simp [Rows.uptoBulk]
  | held h => simp [Rows.uptoBulk]
theorem bulk_part {H : Type} {d : DataW H} {l : List (DataW H)} (h : d ∈ l) : Rows.uptoBulk d ≤ Rows.uptoBulkAll l := by
  induction l with
  | nil => cases h
  | cons x r ih =>
    simp only [Rows.uptoBulkAll]
    cases List.mem_cons.1 h with
    | inl e => subst e; omega
    | inr e => have := ih e; omega
theorem bulk_length {H : Type} (l : List (DataW H)) : l.length ≤ Rows.uptoBulkAll l := by
  induction l with
  | nil => simp [Rows.uptoBulkAll]
  | cons x r ih => have := bulk_pos x; simp only [Rows.uptoBulkAll, List.length_cons]; omega
theorem bulk_slice {H : Type} (elems spare : List (DataW H)) : Rows.uptoBulkAll elems ≤ Rows.uptoBulk (.slice elems spare) := by
  simp only [Rows.uptoBulk]; omega
theorem bulk_agg {H : Type} (parts : List (DataW H)) : Rows.uptoBulkAll parts ≤ Rows.uptoBulk (.agg parts) := by
  simp only [Rows.uptoBulk]; omega
theorem bulk_small {H : Type} {l : List (DataW H)} (hk : Rows.uptoSmall H l = true) : Rows.uptoBulkAll l ≤ 1048576 := of_decide_eq_true hk
theorem bulk_arg {H : Type} {l : List (DataW H)} (hk : Rows.uptoSmall H l = true) {d : DataW H} (hd : d ∈ l) : Rows.uptoBulk d ≤ 1048576 := Nat.le_trans (bulk_part hd) (bulk_small hk)

section
variable {H : Type} {enc : TypeId × Value → H} {w : World} {base : Nat} {held : Bool} {fuel : Nat} {cs : List Value} {y : DataW H × List MemPlace}
set_option maxHeartbeats 800000 in
theorem open_listB {α : Type} {t e : TypeId} {sz : Nat} (f : α → List Value) (Q : α → Prop) (Q2 : Nat → α → Prop) (ht : Tryz.prog.underlying t = some (.slice e)) (hc : Tryz.prog.cellsOf e = sz) (hsz : 0 < sz)
    (he : ∀ n cs' y', DataW.trod enc Tryz.prog w base (fun _ => true) held n e cs' = some y' → ∃ x : α, cs' = f x ∧ Q x ∧ ∀ N, Rows.uptoBulk y'.1 ≤ N → Q2 N x)
    (h : DataW.trod enc Tryz.prog w base (fun _ => true) held fuel t cs = some y) :
    ∃ (A : Option Addr) (xs : List α) (cap : Nat), cs = [.slice A xs.length cap] ∧ RdL w sz A (xs.map f) ∧ (∀ x ∈ xs, Q x) ∧ xs.length ≤ 9223372036854775807 ∧ xs.length ≤ cap ∧ ∀ N, Rows.uptoBulk y.1 ≤ N → xs.length ≤ N ∧ ∀ x ∈ xs, Q2 N x := by
  rcases open_slice ht h with ⟨rfl, rfl⟩ | ⟨a, len, cap, m, n, D, Pl, rfl, hb, hl, hm, hmm, rfl, hx⟩
  · exact ⟨none, [], 0, rfl, fun j c hj => by simp at hj, fun x hx => by simp at hx, by simp, by simp, fun N _ => ⟨Nat.zero_le _, fun x hx => by simp at hx⟩⟩
  rw [hc] at hx
  obtain ⟨xs, hxl, hxs⟩ := pick_list (P := fun i x => w.cells? base (a.add (i * sz)) sz = some (f x) ∧ Q x ∧ ∀ N, Rows.uptoBulk (D i) ≤ N → Q2 N x) len (fun i hi => by
    obtain ⟨cs', h1, h2⟩ := hx i (by simp at hmm; omega)
    obtain ⟨x, rfl, hq⟩ := he _ _ _ h2
    exact ⟨x, h1, hq⟩)
  subst hxl
  refine ⟨some a, xs, cap, rfl, ?_, ?_, by unfold maxLen at hm; omega, hl, ?_⟩
  · intro j c hj
    rw [List.getElem?_map, Option.map_eq_some_iff] at hj
    obtain ⟨x, hx1, rfl⟩ := hj
    obtain ⟨hjl, rfl⟩ := List.getElem?_eq_some_iff.1 hx1
    have hspot : a.spot = none := by
      have h0 : 0 < xs.length := by omega
      obtain ⟨_, hlen, hcell⟩ := World.cells?_some (hxs 0 h0).1
      have := hcell 0 hsz
      rw [List.getElem?_eq_getElem (by omega)] at this
      simpa [Addr.add] using World.cell?_spot this
    obtain ⟨b, off, spot⟩ := a
    subst hspot
    refine ⟨b, off, rfl, fun i v hv => ?_⟩
    obtain ⟨_, hlen, hcell⟩ := World.cells?_some (hxs j hjl).1
    have hi : i < sz := by have := (List.getElem?_eq_some_iff.1 hv).1; omega
    have := hcell i hi
    rw [add_add] at this
    rw [hv] at this
    by_cases hz : j * sz + i = 0
    · rw [hz] at this
      rw [show off + j * sz + i = off by omega]
      simpa [Addr.add] using this
    · rw [show off + j * sz + i = off + (j * sz + i) by omega]
      unfold Addr.add at this
      rw [if_neg hz] at this
      exact this
  · intro x hx
    obtain ⟨i, hi, rfl⟩ := List.getElem_of_mem hx
    exact (hxs i hi).2.1
  · intro N hN
    have h1 := Nat.le_trans (bulk_slice _ _) hN
    refine ⟨?_, fun x hx => ?_⟩
    · have := bulk_length ((List.range xs.length).map D)
      rw [List.length_map, List.length_range] at this
      omega
    · obtain ⟨i, hi, rfl⟩ := List.getElem_of_mem hx
      exact (hxs i hi).2.2 N (Nat.le_trans (bulk_part (List.mem_map.2 ⟨i, List.mem_range.2 hi, rfl⟩)) h1)

theorem cSpan : Tryz.prog.cellsOf 86 = 2 := by kernel_rfl
theorem cStr : Tryz.prog.cellsOf 9 = 1 := by kernel_rfl
theorem cSet : Tryz.prog.cellsOf 36 = 6 := by kernel_rfl
theorem cWords : Tryz.prog.cellsOf 34 = 2 := by kernel_rfl
theorem cLs : Tryz.prog.cellsOf 32 = 1 := by kernel_rfl
theorem cLp : Tryz.prog.cellsOf 31 = 1 := by kernel_rfl
theorem open_span (h : DataW.trod enc Tryz.prog w base (fun _ => true) held fuel 86 cs = some y) : ∃ s : Sp, cs = spC s ∧ SpWf s := by
  obtain ⟨xs, n, rfl, rfl, hl, hlen, hf⟩ := DataW.trod_struct Tryz.underlying86 h
  rw [cSpan] at hl
  obtain ⟨y0, e0⟩ := getx hlen (i := 0) (by decide)
  obtain ⟨y1, e1⟩ := getx hlen (i := 1) (by decide)
  obtain ⟨a, ca, _, wa⟩ := DataW.trod_int Tryz.underlying3 ((hf 0 _ rfl).trans e0)
  obtain ⟨b, cb, _, wb⟩ := DataW.trod_int Tryz.underlying3 ((hf 1 _ rfl).trans e1)
  have ia := bounds_i64 wa
  have ib := bounds_i64 wb
  match cs, hl with
  | [x0, x1], _ =>
    simp [cI] at ca cb
    exact ⟨(a, b), by rw [ca, cb]; rfl, ⟨ia.1, ia.2, ib.1, ib.2⟩⟩
theorem open_textB (h : DataW.trod enc Tryz.prog w base (fun _ => true) held fuel 9 cs = some y) : ∃ t : Tx, cs = tC t ∧ t.length ≤ 9223372036854775807 := by
  obtain ⟨s, rfl, _, hs⟩ := DataW.trod_string Tryz.underlying9 h
  refine ⟨s.data.toList, ?_, ?_⟩
  · show [Value.string s] = [Value.string ⟨s.data.toList.toArray⟩]
    simp
  · unfold maxLen at hs
    have : s.data.toList.length = s.size := Array.length_toList
    omega
structure StArg where
  s : St
  A : Option Addr
  ca : Nat
  B : Option Addr
  cb : Nat
def StArg.cells (x : StArg) : List Value := [.int .i64 x.s.k, .slice x.A x.s.sp.length x.ca, .bool x.s.al, .slice x.B x.s.ws.length x.cb, .int .i64 x.s.b, .bool x.s.nul]
set_option maxHeartbeats 1600000 in
theorem open_set (h : DataW.trod enc Tryz.prog w base (fun _ => true) held fuel 36 cs = some y) : ∃ x : StArg, cs = x.cells ∧ StAt w x.s x.A x.B ∧ ∀ N, Rows.uptoBulk y.1 ≤ N → StOk N x.s := by
  obtain ⟨xs, n, rfl, hx, hl, hlen, hf⟩ := DataW.trod_struct Tryz.underlying36 h
  rw [cSet] at hl
  obtain ⟨y0, e0⟩ := getx hlen (i := 0) (by decide)
  obtain ⟨y1, e1⟩ := getx hlen (i := 1) (by decide)
  obtain ⟨y2, e2⟩ := getx hlen (i := 2) (by decide)
  obtain ⟨y3, e3⟩ := getx hlen (i := 3) (by decide)
  obtain ⟨y4, e4⟩ := getx hlen (i := 4) (by decide)
  obtain ⟨k, ck, _, wk⟩ := DataW.trod_int Tryz.underlying3 ((hf 0 _ rfl).trans e0)
  obtain ⟨A, sp, ca, csp, rsp, qsp, _, _, nsp⟩ := open_listB spC SpWf (fun _ _ => True) Tryz.underlying31 cSpan (by decide) (fun _ _ _ h => by obtain ⟨x, e, q⟩ := open_span h; exact ⟨x, e, q, fun _ _ => trivial⟩) ((hf 1 _ rfl).trans e1)
  obtain ⟨zs, n', _, hz, hzl, hzlen, zf⟩ := DataW.trod_struct Tryz.underlying34 ((hf 2 _ rfl).trans e2)
  obtain ⟨z0, g0⟩ := getx hzlen (i := 0) (by decide)
  obtain ⟨z1, g1⟩ := getx hzlen (i := 1) (by decide)
  obtain ⟨al, cal⟩ := open_bln Tryz.underlying4 ((zf 0 _ rfl).trans g0)
  obtain ⟨B, ws, cb, cws, rws, qws, _, _, nws⟩ := open_listB tC (fun t => t.length ≤ 9223372036854775807) (fun _ _ => True) Tryz.underlying32 cStr (by decide) (fun _ _ _ h => by obtain ⟨x, e, q⟩ := open_textB h; exact ⟨x, e, q, fun _ _ => trivial⟩) ((zf 1 _ rfl).trans g1)
  obtain ⟨b, cbb, _, wb⟩ := DataW.trod_int Tryz.underlying3 ((hf 3 _ rfl).trans e3)
  obtain ⟨nul, cnul⟩ := open_bln Tryz.underlying4 ((hf 4 _ rfl).trans e4)
  have hm1 : y1.1 ∈ xs.map (·.1) := List.mem_map.2 ⟨y1, List.mem_of_getElem? e1, rfl⟩
  have hm2 : y2.1 ∈ xs.map (·.1) := List.mem_map.2 ⟨y2, List.mem_of_getElem? e2, rfl⟩
  have hm3 : z1.1 ∈ zs.map (·.1) := List.mem_map.2 ⟨z1, List.mem_of_getElem? g1, rfl⟩
  have hy : y.1 = .agg (xs.map (·.1)) := by rw [hx]
  have hz' : y2.1 = .agg (zs.map (·.1)) := by rw [hz]
  match cs, hl with
  | [x0, x1, x2, x3, x4, x5], _ =>
    simp [cI, cB, cLp, cWords, cLs] at ck csp cal cws cbb cnul
    refine ⟨⟨⟨k, sp, al, ws, b, nul⟩, A, ca, B, cb⟩, by rw [ck, csp, cal, cws, cbb, cnul]; rfl, ⟨rsp, rws⟩, fun N hN => ?_⟩
    rw [hy] at hN
    have h1 := Nat.le_trans (bulk_part hm1) (Nat.le_trans (bulk_agg _) hN)
    have h2 := Nat.le_trans (bulk_part hm2) (Nat.le_trans (bulk_agg _) hN)
    rw [hz'] at h2
    have h3 := Nat.le_trans (bulk_part hm3) (Nat.le_trans (bulk_agg _) h2)
    exact ⟨qsp, qws, (nsp N h1).1, (nws N h3).1⟩
end
end Go.Proofs.YtankkadnhdfpfaaGreatDoor

/- Boxes: types, sets and boxes as they lie in the world; what they mean; from the arguments' readings to them. -/
set_option linter.unusedSimpArgs false
set_option linter.unusedVariables false
namespace Go.Proofs.YtankkadnhdfpfaaGreatDoor
open Go.RowKit Go.ChangeShapes Go.WideShapes Go.Deep Sp Wd
set_option maxRecDepth 100000

structure TyArg where
  t : Ty
  T : Option Addr
  ct : Nat
def TyArg.cells (x : TyArg) : List Value := [.int .i64 x.t.k, .int .i64 x.t.sc, .bool x.t.c.any, .bool x.t.c.neg, .slice x.T x.t.c.ts.length x.ct]
structure TysAt (w : World) (A : Option Addr) (l : List TyArg) : Prop where
  rd : RdL w 5 A (l.map TyArg.cells)
  ty : ∀ x ∈ l, TyAt w x.t x.T
  n : l.length ≤ 9223372036854775807
theorem TysAt.below {w w' : World} {A : Option Addr} {l : List TyArg} (h : TysAt w A l) (hb : Below w.heap.size w w') : TysAt w' A l := ⟨h.rd.below hb, fun x hx => (h.ty x hx).below hb, h.n⟩
structure BoxAt (w : World) (A : Option Addr) (l : List StArg) : Prop where
  rd : RdL w 6 A (l.map StArg.cells)
  st : ∀ x ∈ l, StAt w x.s x.A x.B
  n : l.length ≤ 9223372036854775807
theorem BoxAt.below {w w' : World} {A : Option Addr} {l : List StArg} (h : BoxAt w A l) (hb : Below w.heap.size w w') : BoxAt w' A l := ⟨h.rd.below hb, fun x hx => (h.st x hx).below hb, h.n⟩
def BoxOk (N : Nat) (l : List StArg) : Prop := l.length ≤ N ∧ ∀ x ∈ l, StOk N x.s
structure BxArg where
  l : List StArg
  A : Option Addr
  c : Nat
def BxArg.cells (x : BxArg) : List Value := [.slice x.A x.l.length x.c]
structure BoxesAt (w : World) (A : Option Addr) (l : List BxArg) : Prop where
  rd : RdL w 1 A (l.map BxArg.cells)
  bx : ∀ x ∈ l, BoxAt w x.A x.l
  n : l.length ≤ 9223372036854775807
theorem BoxesAt.below {w w' : World} {A : Option Addr} {l : List BxArg} (h : BoxesAt w A l) (hb : Below w.heap.size w w') : BoxesAt w' A l := ⟨h.rd.below hb, fun x hx => (h.bx x hx).below hb, h.n⟩
def BoxesOk (N : Nat) (l : List BxArg) : Prop := l.length ≤ N ∧ ∀ x ∈ l, BoxOk N x.l
structure ValsAt (w : World) (A : Option Addr) (l : List Vl) : Prop where
  rd : RdL w 5 A (l.map Vl.cells5)
  wf : ∀ x ∈ l, x.wf
  n : l.length ≤ 9223372036854775807
theorem ValsAt.below {w w' : World} {A : Option Addr} {l : List Vl} (h : ValsAt w A l) (hb : Below w.heap.size w w') : ValsAt w' A l := ⟨h.rd.below hb, h.wf, h.n⟩

def hasAll : List TyArg → List StArg → List Vl → Bool
  | t :: ts, s :: ss, v :: vs => hasSt t.t s.s v && hasAll ts ss vs
  | [], [], [] => true
  | _, _, _ => false
theorem hasAll_len : ∀ (ts : List TyArg) (ss : List StArg) (vs : List Vl), hasAll ts ss vs = true → ss.length = ts.length ∧ vs.length = ts.length
  | t :: ts, s :: ss, v :: vs, h => by
    have h' : (hasSt t.t s.s v && hasAll ts ss vs) = true := h
    rw [Bool.and_eq_true] at h'
    have := hasAll_len ts ss vs h'.2
    simp [this]
  | [], [], [], _ => ⟨rfl, rfl⟩
  | [], [], _ :: _, h => by cases h
  | [], _ :: _, _, h => by cases h
  | _ :: _, [], _, h => by cases h
  | _ :: _, _ :: _, [], h => by cases h
theorem hasAll_ne {ts : List TyArg} {ss : List StArg} {vs : List Vl} (h : ¬ (ss.length = ts.length ∧ vs.length = ts.length)) : hasAll ts ss vs = false := by
  cases e : hasAll ts ss vs
  · rfl
  · exact absurd (hasAll_len ts ss vs e) h
theorem hasAll_drop {ts : List TyArg} {ss : List StArg} {vs : List Vl} {k : Nat} (h1 : k < ts.length) (h2 : k < ss.length) (h3 : k < vs.length) :
    hasAll (ts.drop k) (ss.drop k) (vs.drop k) = (hasSt (ts[k]'h1).t (ss[k]'h2).s (vs[k]'h3) && hasAll (ts.drop (k + 1)) (ss.drop (k + 1)) (vs.drop (k + 1))) := by
  rw [List.drop_eq_getElem_cons h1, List.drop_eq_getElem_cons h2, List.drop_eq_getElem_cons h3]; rfl
theorem hasAll_end {ts : List TyArg} {ss : List StArg} {vs : List Vl} {k : Nat} (h1 : ts.length ≤ k) (h2 : ss.length ≤ k) (h3 : vs.length ≤ k) : hasAll (ts.drop k) (ss.drop k) (vs.drop k) = true := by
  rw [List.drop_of_length_le h1, List.drop_of_length_le h2, List.drop_of_length_le h3]; rfl
def anyBox (ts : List TyArg) (bs : List BxArg) (vs : List Vl) : Bool := bs.any fun b => hasAll ts b.l vs
theorem anyBox_drop {ts : List TyArg} {bs : List BxArg} {vs : List Vl} {k : Nat} (h : k < bs.length) : anyBox ts (bs.drop k) vs = (hasAll ts (bs[k]'h).l vs || anyBox ts (bs.drop (k + 1)) vs) := by
  rw [List.drop_eq_getElem_cons h]; rfl
theorem anyBox_end {ts : List TyArg} {bs : List BxArg} {vs : List Vl} {k : Nat} (h : bs.length ≤ k) : anyBox ts (bs.drop k) vs = false := by
  rw [List.drop_of_length_le h]; rfl
def allSnd (ts : List TyArg) : Bool := ts.all fun t => tySnd t.t
theorem allSnd_drop {ts : List TyArg} {k : Nat} (h : k < ts.length) : allSnd (ts.drop k) = (tySnd (ts[k]'h).t && allSnd (ts.drop (k + 1))) := by
  rw [List.drop_eq_getElem_cons h]; rfl
theorem allSnd_end {ts : List TyArg} {k : Nat} (h : ts.length ≤ k) : allSnd (ts.drop k) = true := by
  rw [List.drop_of_length_le h]; rfl
theorem RdL.takeA {α : Type} {w : World} {sz : Nat} {A : Option Addr} {f : α → List Value} {xs : List α} (h : RdL w sz A (xs.map f)) (n : Nat) : RdL w sz A ((xs.take n).map f) := by
  intro j c hc
  refine h j c ?_
  rw [List.getElem?_map] at hc ⊢
  rw [Option.map_eq_some_iff] at hc ⊢
  obtain ⟨x, hx, rfl⟩ := hc
  rw [List.getElem?_take] at hx
  split at hx
  · exact ⟨x, hx, rfl⟩
  · cases hx

section
variable {H : Type} {enc : TypeId × Value → H} {w : World} {base : Nat} {held : Bool} {fuel : Nat} {cs : List Value} {y : DataW H × List MemPlace}
theorem cTy : Tryz.prog.cellsOf 26 = 5 := by kernel_rfl
theorem cLs6 : Tryz.prog.cellsOf 48 = 1 := by kernel_rfl
theorem open_types (h : DataW.trod enc Tryz.prog w base (fun _ => true) held fuel 47 cs = some y) :
    ∃ (A : Option Addr) (l : List TyArg) (c : Nat), cs = [.slice A l.length c] ∧ TysAt w A l ∧ l.length ≤ c ∧ ∀ N, Rows.uptoBulk y.1 ≤ N → l.length ≤ N := by
  obtain ⟨A, l, c, e, r, q, n, lc, b⟩ := open_listB TyArg.cells (fun x => TyAt w x.t x.T) (fun _ _ => True) Tryz.underlying47 cTy (by decide)
    (fun _ _ _ h => by obtain ⟨t, T, ct, e, q⟩ := open_type h; exact ⟨⟨t, T, ct⟩, e, q, fun _ _ => trivial⟩) h
  exact ⟨A, l, c, e, ⟨r, q, n⟩, lc, fun N hN => (b N hN).1⟩
theorem open_vals (h : DataW.trod enc Tryz.prog w base (fun _ => true) held fuel 50 cs = some y) :
    ∃ (A : Option Addr) (l : List Vl) (c : Nat), cs = [.slice A l.length c] ∧ ValsAt w A l ∧ ∀ N, Rows.uptoBulk y.1 ≤ N → l.length ≤ N := by
  obtain ⟨A, l, c, e, r, q, n, lc, b⟩ := open_listB Vl.cells5 (fun x => x.wf) (fun _ _ => True) Tryz.underlying50 cV (by decide)
    (fun _ _ _ h => by obtain ⟨v, e, q⟩ := open_val h; exact ⟨v, e, q, fun _ _ => trivial⟩) h
  exact ⟨A, l, c, e, ⟨r, q, n⟩, fun N hN => (b N hN).1⟩
theorem open_box (h : DataW.trod enc Tryz.prog w base (fun _ => true) held fuel 48 cs = some y) :
    ∃ (A : Option Addr) (l : List StArg) (c : Nat), cs = [.slice A l.length c] ∧ BoxAt w A l ∧ l.length ≤ c ∧ ∀ N, Rows.uptoBulk y.1 ≤ N → BoxOk N l := by
  obtain ⟨A, l, c, e, r, q, n, lc, b⟩ := open_listB StArg.cells (fun x => StAt w x.s x.A x.B) (fun N x => StOk N x.s) Tryz.underlying48 cSet (by decide)
    (fun _ _ _ h => by obtain ⟨x, e, q, r⟩ := open_set h; exact ⟨x, e, q, r⟩) h
  exact ⟨A, l, c, e, ⟨r, q, n⟩, lc, fun N hN => b N hN⟩
theorem open_boxes (h : DataW.trod enc Tryz.prog w base (fun _ => true) held fuel 49 cs = some y) :
    ∃ (A : Option Addr) (l : List BxArg) (c : Nat), cs = [.slice A l.length c] ∧ BoxesAt w A l ∧ l.length ≤ c ∧ ∀ N, Rows.uptoBulk y.1 ≤ N → BoxesOk N l := by
  obtain ⟨A, l, c, e, r, q, n, lc, b⟩ := open_listB BxArg.cells (fun x => BoxAt w x.A x.l) (fun N x => BoxOk N x.l) Tryz.underlying49 cLs6 (by decide)
    (fun _ _ _ h => by obtain ⟨A, l, c, e, q, _, r⟩ := open_box h; exact ⟨⟨l, A, c⟩, e, q, r⟩) h
  exact ⟨A, l, c, e, ⟨r, q, n⟩, lc, fun N hN => b N hN⟩
end
end Go.Proofs.YtankkadnhdfpfaaGreatDoor
