import Derived.Test.YtfhmjkdpohepaaaDoorPk18
import Derived.Test.YtfhmjkdpohepaaaDoorPk01
import Derived.Test.YtfhmjkdpohepaaaDoorPk23
import Derived.Test.YtfhmjkdpohepaaaDoorPk13
import Derived.Test.YtfhmjkdpohepaaaDoorPk24
import Derived.Maps.AppendAt
/- soffitref17.Outcome: plain; an append in a region that draws its order. -/
set_option linter.unusedSimpArgs false
set_option linter.unusedVariables false
namespace Go.Proofs.YtfhmjkdpohepaaaDoor
open Go.RowKit

/-- the rule that fired last ahead of a place -/
def lastI (fs : List Int) (j : Nat) : Int := if j = 0 then -1 else (fs[j - 1]?).getD (-1)
theorem lastI_zero (fs : List Int) : lastI fs 0 = -1 := rfl
theorem lastI_succ {fs : List Int} {j : Nat} (h : j < fs.length) : lastI fs (j + 1) = fs[j]'h := by
  unfold lastI
  rw [if_neg (by omega), Nat.add_sub_cancel, List.getElem?_eq_getElem h]; rfl
theorem Rise.last {n : Nat} {fs : List Int} (h : Rise n fs) {j : Nat} (hj : j < fs.length) : lastI fs j < fs[j]'hj ∧ fs[j]'hj < n := by
  have h0 := h.lo _ (List.getElem_mem hj)
  have h1 := h.hi _ (List.getElem_mem hj)
  refine ⟨?_, h1⟩
  rcases j with _ | i
  · rw [lastI_zero]; omega
  · rw [lastI_succ (by omega)]; exact h.up i hj
theorem BadAt.last {n : Nat} {fs : List Int} {q : Nat} (h : BadAt n fs q) {j : Nat} (hj : j < q) : lastI fs j < fs[j]'(Nat.lt_trans hj h.lt) ∧ fs[j]'(Nat.lt_trans hj h.lt) < n := by
  have h0 := h.lo j hj
  refine ⟨?_, h0.2⟩
  rcases j with _ | i
  · rw [lastI_zero]; omega
  · rw [lastI_succ (by have := h.lt; omega)]; exact h.up i hj
theorem BadAt.stop {n : Nat} {fs : List Int} {q : Nat} (h : BadAt n fs q) : fs[q]'h.lt ≤ lastI fs q ∨ (n : Int) ≤ fs[q]'h.lt := by
  have hl := h.lt
  rcases h.bad with h1 | h1 | ⟨h1, h2⟩
  · rcases q with _ | i
    · rw [lastI_zero]; left; omega
    · have := h.lo i (by omega)
      rw [lastI_succ (by omega)]; left; omega
  · exact .inr h1
  · obtain ⟨i, rfl⟩ : ∃ i, q = i + 1 := ⟨q - 1, by omega⟩
    rw [lastI_succ (by omega)]
    exact .inl (h2 _ (by rw [Nat.add_sub_cancel]; exact List.getElem?_eq_getElem _))
theorem allSnd_mem {vs : List Vl} : allSnd vs = true ↔ ∀ v ∈ vs, sndB v = true := by
  unfold allSnd
  rw [Bool.not_eq_true', List.any_eq_false]
  simp
theorem sndAll_mem {os od : List Vl} {df : Vl} : sndAll os od df = true ↔ ∀ v ∈ os ++ od ++ [df], sndB v = true := by
  unfold sndAll
  rw [Bool.and_eq_true, Bool.and_eq_true, allSnd_mem, allSnd_mem, allSnd_mem]
  constructor
  · rintro ⟨⟨h1, h2⟩, h3⟩ v hv
    rcases List.mem_append.1 hv with hv | hv
    · rcases List.mem_append.1 hv with hv | hv
      · exact h1 v hv
      · exact h2 v hv
    · exact h3 v hv
  · intro h
    exact ⟨⟨fun v hv => h v (by simp [hv]), fun v hv => h v (by simp [hv])⟩, fun v hv => h v (by simp at hv; simp [hv])⟩
theorem rdv_none {w : World} {A : Option Addr} {l : List Vl} (h : RdL w 5 A (l.map Vl.cells5)) (hA : A = none) : l.length = 0 := by
  rcases Nat.eq_zero_or_pos l.length with h0 | h0
  · exact h0
  · obtain ⟨b, off, e, _⟩ := h.at_ h0
    rw [hA] at e; cases e
theorem rdv_news {w : World} {A : Option Addr} {l : List Vl} (h : RdL w 5 A (l.map Vl.cells5)) : ∀ ad, A = some ad → ∀ j u, (l.flatMap Vl.cells5)[j]? = some u → w.cell? (ad.add j) = some u := by
  intro ad hA j u hj
  subst hA
  exact rd_flat h (five_all _) (by decide) j u (by rw [← List.flatMap_def]; exact hj)
/-- as step_spread, with the block of what comes out -/
theorem step_spread2 {P : Program} {ops : Array Oper} {o : Oper} {a : Act} {w : World} {K : Act → World → Prop} {Q : Exit → Act → World → Prop} {E : Prop} (hgd : o.guard = none) (s x : Operand) (t : TypeId)
    (ho : o.op = .call { callee := .builtin .append, args := #[s, x], argTypes := #[t, t] })
    (base : Nat) (e : TypeId) (i : TypeInfo) (z : Value) (size bytes : Nat) (ht : P.underlying t = some (.slice e)) (hi : P.info? e = some i) (hz : i.zero = some z)
    (hsize : i.size = size) (hby : i.bytes = bytes) (hzs : z.cells.size = size) (hsz : 0 < size)
    (v : Value) (n : Nat) (xs : List Value) (hs : a.eval s = v) (hown : w.ownsRow base e size v n xs)
    (A0 : Option Addr) (m c : Nat) (news : List Value) (hx : a.eval x = .slice A0 m c) (hl : news.length = m * size) (hA : A0 = none → m = 0)
    (hnews : ∀ ad, A0 = some ad → ∀ j u, news[j]? = some u → w.cell? (ad.add j) = some u) (h1 : ∀ u ∈ news, u.oneCell' = true)
    (h63 : n + m ≤ maxLen) (hbytes : (n + m) * bytes ≤ 140737488355328) (hbase : base ≤ w.heap.size)
    (h : ∀ v' w', w'.ownsRow base e size v' (n + m) (xs ++ news) → w.grownBy w' v.ownBlock → (v'.ownBlock = v.ownBlock ∨ v'.ownBlock = some w.heap.size) → K (a.put o.dst v') w') :
    if Region.wanted o (yielded ops a.tmps) = true then Oper.wp P o a w K Q else E := by
  obtain ⟨v', w', hr, h2, h3, h4⟩ : ∃ v' w', (Builtin.append_ #[t, t] o.type #[v, .slice A0 m c]).run P w = .ok v' w' ∧ w'.ownsRow base e size v' (n + m) (xs ++ news) ∧ w.grownBy w' v.ownBlock ∧ (v'.ownBlock = v.ownBlock ∨ v'.ownBlock = some w.heap.size) := by
    by_cases hm : m = 0
    · subst hm
      obtain rfl : news = [] := List.eq_nil_of_length_eq_zero (by simpa using hl)
      exact ⟨v, w, run_append_zero w base t o.type e i size ht hi v n xs hown A0 c, by simpa using hown, ⟨rfl, rfl, rfl, Nat.le_refl _, fun _ _ _ => rfl⟩, .inl rfl⟩
    · cases A0 with
      | none => exact absurd (hA rfl) hm
      | some ad =>
        obtain ⟨v', w', hr, h2, h3, _, h5⟩ := run_append_own_at (P := P) w base t o.type e i z size bytes ht hi hz hsize hby hzs hsz v n xs hown ad m c news hl (hnews ad rfl) h1 h63 hbytes hbase
        exact ⟨v', w', hr, h2, h3, h5⟩
  have hw : Region.wanted o (yielded ops a.tmps) = true := by simp [Region.wanted, hgd]
  rw [if_pos hw]
  unfold Oper.wp execOp
  simp only [ho, resolve, invoke, builtin, Sem.run_bind, Sem.run_pure, Result.andThen_ok, List.map_toArray, List.map_cons, List.map_nil, hs, hx, hr]
  exact h v' w' h2 h3 h4
/-- what lies in a block that an append does not write -/
theorem BoxIs.grown {w w' : World} {b : Nat} {vs : Array Value} {g : Option Nat} (h : BoxIs w b vs) (hg : w.grownBy w' g) (hne : g ≠ some b) : BoxIs w' b vs := by
  have hl := h.lt
  obtain ⟨t, h⟩ := h
  exact ⟨t, (hg.block b hl (fun h => hne h.symm)).trans h⟩
theorem BoxIs.news {w : World} {b : Nat} {l : List Value} (h : BoxIs w b l.toArray) : ∀ ad : Addr, some (⟨b, 0, none⟩ : Addr) = some ad → ∀ j u, l[j]? = some u → w.cell? (ad.add j) = some u := by
  intro ad hA j u hj
  cases hA
  rw [Addr.add_lit, Nat.zero_add, h.c]
  simpa using hj
theorem pick_snd {os : List Vl} (hw : ∀ v ∈ os, v.wf) (hs : ∀ v ∈ os, sndB v = true) (fs : List Int) : (∀ v ∈ fs.map (pickV os), v.wf) ∧ (∀ v ∈ fs.map (pickV os), sndB v = true) := by
  have key : ∀ v ∈ fs.map (pickV os), v.wf ∧ sndB v = true := by
    intro v hv
    obtain ⟨x, _, rfl⟩ := List.mem_map.1 hv
    unfold pickV
    cases he : os[x.toNat]? with
    | none => exact ⟨zero_wf, zero_sound⟩
    | some u => exact ⟨hw u (List.mem_of_getElem? he), hs u (List.mem_of_getElem? he)⟩
  exact ⟨fun v hv => (key v hv).1, fun v hv => (key v hv).2⟩
end Go.Proofs.YtfhmjkdpohepaaaDoor

/- soffitref17.Outcome, walked: no policy. -/
set_option linter.unusedSimpArgs false
set_option linter.unusedVariables false
namespace Go.Proofs.YtfhmjkdpohepaaaDoor
open Go.RowKit

set_option maxRecDepth 100000 in
set_option maxHeartbeats 6400000 in
theorem roNo0 (os od : List Vl) (df : Vl) (fs : List Int) (A B F : Option Addr) (ca cb cf : Nat) (w : World) (hA : RdL w 5 A (os.map Vl.cells5)) (hB : RdL w 5 B (od.map Vl.cells5)) (hF : RdL w 1 F (fs.map intC)) (hos : ∀ v ∈ os, v.wf) (hod : ∀ v ∈ od, v.wf) (hdf : df.wf) (n1 : os.length ≤ 1000000) (n2 : od.length ≤ 1000000) (n3 : fs.length ≤ 9223372036854775807)
    (p : Int) (hk : knownB p = false) :
    Calls Tryd.prog 10 #[.int .i64 p, .slice A os.length ca, .slice B od.length cb, .agg #[.int .i64 df.k, .int .i64 df.n, .int .i64 df.s, .string df.t, .int .i64 df.i], .slice F fs.length cf] w fun e w' =>
      e = .returned (.tuple #[.agg #[.int .i64 0, .int .i64 0, .int .i64 0, .string ⟨#[]⟩, .int .i64 0], .int .i64 1]) ∧ Below w.heap.size w w' := by
  have HA := Lib.hid hA
  have HB := Lib.hid hB
  have HF := Lib.hid hF
  have HDF := Lib.hid hdf
  have HOS := Lib.hid hos
  have HOD := Lib.hid hod
  clear hA hB hF hos hod hdf
  go_enter Tryd.func10, Tryd.ntmps10
  go_wp2_with fail
  have K0 : BoxIs (((w.alloc (.cells #[.int .i64 df.k, .int .i64 df.n, .int .i64 df.s, .string df.t, .int .i64 df.i] 26)).alloc (.cells #[.int .i64 0, .int .i64 0, .int .i64 0, .string ⟨#[]⟩, .int .i64 0] 26)).alloc (.cells #[.int .i64 0, .int .i64 0, .int .i64 0, .string ⟨#[]⟩, .int .i64 0] 26)) w.heap.size #[.int .i64 df.k, .int .i64 df.n, .int .i64 df.s, .string df.t, .int .i64 df.i] := ((BoxIs.new rfl).alloc _).alloc _
  have K1 : BoxIs (((w.alloc (.cells #[.int .i64 df.k, .int .i64 df.n, .int .i64 df.s, .string df.t, .int .i64 df.i] 26)).alloc (.cells #[.int .i64 0, .int .i64 0, .int .i64 0, .string ⟨#[]⟩, .int .i64 0] 26)).alloc (.cells #[.int .i64 0, .int .i64 0, .int .i64 0, .string ⟨#[]⟩, .int .i64 0] 26)) (w.heap.size + 1) #[.int .i64 0, .int .i64 0, .int .i64 0, .string ⟨#[]⟩, .int .i64 0] := (BoxIs.new (by simp)).alloc _
  have K2 : BoxIs (((w.alloc (.cells #[.int .i64 df.k, .int .i64 df.n, .int .i64 df.s, .string df.t, .int .i64 df.i] 26)).alloc (.cells #[.int .i64 0, .int .i64 0, .int .i64 0, .string ⟨#[]⟩, .int .i64 0] 26)).alloc (.cells #[.int .i64 0, .int .i64 0, .int .i64 0, .string ⟨#[]⟩, .int .i64 0] 26)) (w.heap.size + 2) #[.int .i64 0, .int .i64 0, .int .i64 0, .string ⟨#[]⟩, .int .i64 0] := BoxIs.new (by simp)
  refine (rKnown_any p _).mono ?_
  rintro e w1 ⟨rfl, hb1⟩
  rw [hk]
  clear hk
  have K0 := K0.below hb1
  have K1 := K1.below hb1
  have K2 := K2.below hb1
  have hbw1 : Below w.heap.size w w1 := bel
  have k0 := K0.c
  have k1 := K1.c
  have k2 := K2.c
  have f1 := K1.f
  clear hb1
  go_wp2_with fail
  refine bodyPost_ret (v := .tuple #[.agg #[.int .i64 0, .int .i64 0, .int .i64 0, .string ⟨#[]⟩, .int .i64 0], .int .i64 1]) (by simp [results, Tryd.results10, go_sem, *]) rfl ⟨?_, bel⟩
  rfl
end Go.Proofs.YtfhmjkdpohepaaaDoor

/- soffitref17.Outcome, walked: fired rules that may not be. -/
set_option linter.unusedSimpArgs false
set_option linter.unusedVariables false
namespace Go.Proofs.YtfhmjkdpohepaaaDoor
open Go.RowKit

set_option maxRecDepth 100000 in
set_option maxHeartbeats 6400000 in
theorem roBad (os od : List Vl) (df : Vl) (fs : List Int) (A B F : Option Addr) (ca cb cf : Nat) (w : World) (hA : RdL w 5 A (os.map Vl.cells5)) (hB : RdL w 5 B (od.map Vl.cells5)) (hF : RdL w 1 F (fs.map intC)) (hos : ∀ v ∈ os, v.wf) (hod : ∀ v ∈ od, v.wf) (hdf : df.wf) (n1 : os.length ≤ 1000000) (n2 : od.length ≤ 1000000) (n3 : fs.length ≤ 9223372036854775807)
    (p : Int) (hk : knownB p = true) (q : Nat) (hq : BadAt os.length fs q) :
    Calls Tryd.prog 10 #[.int .i64 p, .slice A os.length ca, .slice B od.length cb, .agg #[.int .i64 df.k, .int .i64 df.n, .int .i64 df.s, .string df.t, .int .i64 df.i], .slice F fs.length cf] w fun e w' =>
      e = .returned (.tuple #[.agg #[.int .i64 0, .int .i64 0, .int .i64 0, .string ⟨#[]⟩, .int .i64 0], .int .i64 1]) ∧ Below w.heap.size w w' := by
  have hql : q < fs.length := hq.lt
  have hqs : fs[q]'hql ≤ lastI fs q ∨ (os.length : Int) ≤ fs[q]'hql := hq.stop
  have HQ := Lib.hid hq
  have HQS := Lib.hid hqs
  clear hq hqs
  have HA := Lib.hid hA
  have HB := Lib.hid hB
  have HF := Lib.hid hF
  have HDF := Lib.hid hdf
  have HOS := Lib.hid hos
  have HOD := Lib.hid hod
  clear hA hB hF hos hod hdf
  go_enter Tryd.func10, Tryd.ntmps10
  go_wp2_with fail
  have K0 : BoxIs (((w.alloc (.cells #[.int .i64 df.k, .int .i64 df.n, .int .i64 df.s, .string df.t, .int .i64 df.i] 26)).alloc (.cells #[.int .i64 0, .int .i64 0, .int .i64 0, .string ⟨#[]⟩, .int .i64 0] 26)).alloc (.cells #[.int .i64 0, .int .i64 0, .int .i64 0, .string ⟨#[]⟩, .int .i64 0] 26)) w.heap.size #[.int .i64 df.k, .int .i64 df.n, .int .i64 df.s, .string df.t, .int .i64 df.i] := ((BoxIs.new rfl).alloc _).alloc _
  have K1 : BoxIs (((w.alloc (.cells #[.int .i64 df.k, .int .i64 df.n, .int .i64 df.s, .string df.t, .int .i64 df.i] 26)).alloc (.cells #[.int .i64 0, .int .i64 0, .int .i64 0, .string ⟨#[]⟩, .int .i64 0] 26)).alloc (.cells #[.int .i64 0, .int .i64 0, .int .i64 0, .string ⟨#[]⟩, .int .i64 0] 26)) (w.heap.size + 1) #[.int .i64 0, .int .i64 0, .int .i64 0, .string ⟨#[]⟩, .int .i64 0] := (BoxIs.new (by simp)).alloc _
  have K2 : BoxIs (((w.alloc (.cells #[.int .i64 df.k, .int .i64 df.n, .int .i64 df.s, .string df.t, .int .i64 df.i] 26)).alloc (.cells #[.int .i64 0, .int .i64 0, .int .i64 0, .string ⟨#[]⟩, .int .i64 0] 26)).alloc (.cells #[.int .i64 0, .int .i64 0, .int .i64 0, .string ⟨#[]⟩, .int .i64 0] 26)) (w.heap.size + 2) #[.int .i64 0, .int .i64 0, .int .i64 0, .string ⟨#[]⟩, .int .i64 0] := BoxIs.new (by simp)
  refine (rKnown_any p _).mono ?_
  rintro e w1 ⟨rfl, hb1⟩
  rw [hk]
  clear hk
  have K0 := K0.below hb1
  have K1 := K1.below hb1
  have K2 := K2.below hb1
  have hbw1 : Below w.heap.size w w1 := bel
  have k0 := K0.c
  have k1 := K1.c
  have k2 := K2.c
  have f1 := K1.f
  clear hb1
  go_wp2_with fail
  go_loopg [13, 14] q (fun k lv iv wr => ∃ j : Nat, j ≤ q ∧ q - j ≤ k ∧ lv = .int .i64 (lastI fs j) ∧ iv = .int .i64 j ∧ wr = w1)
  case atStart => exact ⟨0, by omega, by omega, rfl, rfl, rfl⟩
  case round =>
    obtain ⟨j, hj, hjk, rfl, rfl, hwr⟩ := hrel
    subst wr
    have hlt : j < fs.length := by omega
    obtain ⟨b, off, rfl, hx⟩ := (HF.out.below hbw1).at_ hlt
    have g0 : w1.cell? ⟨b, off + j, none⟩ = some (.int .i64 (fs[j]'hlt)) := by have := hx.get 0 rfl; simpa using this
    have i0 : (0 : Int) ≤ (j : Int) := by omega
    have i1 : (j : Int) < (fs.length : Int) := by omega
    have hls := lastI_succ hlt
    by_cases hjq : j < q
    · have hl2 := HQ.out.last hjq
      generalize fs[j]'hlt = x at *
      generalize lastI fs j = l at *
      have e1 : ¬ x ≤ l := by omega
      have e2 : ¬ (os.length : Int) ≤ x := by omega
      have HLS := Lib.hid hls
      clear hx hls hl2
      go_wp2_with fail
      go_roundg (gk - 1)
      case measure => omega
      case rel => exact ⟨j + 1, by omega, by omega, by rw [HLS.out], by go_num, rfl⟩
    · have hje : j = q := by omega
      subst hje
      have hst := HQS.out
      clear HQ HQS hj hjk hjq hls
      generalize fs[j]'hlt = x at *
      generalize lastI fs j = l at *
      have hst2 : x ≤ l ∨ (¬ x ≤ l ∧ (os.length : Int) ≤ x) := by omega
      clear hst hx
      rcases hst2 with e1 | ⟨e1, e2⟩
      · go_wp2_with fail
        refine bodyPost_ret (v := .tuple #[.agg #[.int .i64 0, .int .i64 0, .int .i64 0, .string ⟨#[]⟩, .int .i64 0], .int .i64 1]) (by simp [results, Tryd.results10, go_sem, *]) rfl ⟨?_, bel⟩
        rfl
      · go_wp2_with fail
        refine bodyPost_ret (v := .tuple #[.agg #[.int .i64 0, .int .i64 0, .int .i64 0, .string ⟨#[]⟩, .int .i64 0], .int .i64 1]) (by simp [results, Tryd.results10, go_sem, *]) rfl ⟨?_, bel⟩
        rfl
end Go.Proofs.YtfhmjkdpohepaaaDoor
