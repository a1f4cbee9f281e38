import Derived.Test.YtfhmjkdpohepaaaDoorPk16
import Derived.Test.YtfhmjkdpohepaaaDoorPk18
import Derived.Test.YtfhmjkdpohepaaaDoorPk08
/- slices.Clone, SortFunc and Clip at values, as value.Sort calls them. -/
set_option linter.unusedSimpArgs false
set_option linter.unusedVariables false
namespace Go.Proofs.YtfhmjkdpohepaaaDoor
open Go.RowKit Go.Sort

abbrev SV := {v : Vl // v.wf ∧ sndB v = true}
theorem vz_wf : Vl.zero.wf := ⟨by unfold I64 Vl.zero; simp, by unfold I64 Vl.zero; simp, by unfold I64 Vl.zero; simp, by unfold I64 Vl.zero; simp, by show (0 : Nat) ≤ 9223372036854775807; omega⟩
theorem vz_nil : (⟨#[]⟩ : ByteArray).toList = [] := by rw [ByteArray.toList_eq]
theorem vz_snd : sndB Vl.zero = true := by unfold sndB Vl.zero; simp [vz_nil]
instance : Inhabited SV := ⟨⟨Vl.zero, vz_wf, vz_snd⟩⟩
def encV (x : SV) : List Value := x.1.cells5
def cmpSV (x y : SV) : Int := cmpV x.1 y.1
theorem ltOf_cmpSV (x y : SV) : ltOf cmpSV x y = ltV x.1 y.1 := ltOf_cmpV x.1 y.1
theorem swoSV : SWO (ltOf cmpSV) := by
  have : ltOf cmpSV = fun x y : SV => ltV x.1 y.1 := by funext x y; exact ltOf_cmpSV x y
  rw [this]
  exact swo_pull swo_ltV (fun x : SV => x.1)
theorem cmpLaysV (blk off size : Nat) (w : World) : Go.Proofs.CmpLays Tryd.prog 55 #[] encV 5 cmpSV blk off size w :=
  fun _ _ _ _ x y => (order_anyD x.1 y.1 _ x.2.1 y.2.1 x.2.2 y.2.2).mono fun _ _ ⟨he, hb⟩ => ⟨he, hb.grow_⟩
/-- a list of sound values as such -/
theorem sv_list : ∀ (l : List Vl), (∀ v ∈ l, v.wf) → (∀ v ∈ l, sndB v = true) → ∃ L : List SV, L.map (fun x => x.1) = l
  | [], _, _ => ⟨[], rfl⟩
  | v :: r, h1, h2 => by
    obtain ⟨L, hL⟩ := sv_list r (fun x hx => h1 x (List.mem_cons_of_mem _ hx)) (fun x hx => h2 x (List.mem_cons_of_mem _ hx))
    exact ⟨⟨v, h1 v (by simp), h2 v (by simp)⟩ :: L, by rw [List.map_cons, hL]⟩

theorem getI {l : List Value} {i : Nat} {v : Value} (h : l[i]? = some v) : l[i]! = v := by rw [List.getElem!_eq_getElem?_getD, h]; rfl
theorem below_sortV {base g n : Nat} {w : World} {d : Array SV} {os : Array Obj} (hg : base ≤ g) (hb : base ≤ w.heap.size) : Below base w (Go.Proofs.sortWorldK encV 5 w g 0 n d os) := by
  refine ⟨rfl, rfl, rfl, ?_, fun k hk => ?_⟩
  · show w.heap.size ≤ (_ ++ os).size
    simp [Go.Proofs.sortWorldK, putRowK, putRow, mapBlock, Go.Sort.ahead, grow]
  · have hk2 : k < w.heap.size := by omega
    simp [Go.Proofs.sortWorldK, putRowK, putRow, mapBlock, Go.Sort.ahead, grow, Array.getElem?_append, hk2, Array.getElem?_modify]
    rw [Array.getElem_modify, if_neg (by omega)]
theorem holds_rdV {w : World} {g : Nat} {d : Array SV} (h : HoldsK encV 5 w g 0 d) : RdL w 5 (some ⟨g, 0, none⟩) (d.toList.map encV) ∧ ∀ t, t < d.size * 5 → w.frozen? ⟨g, t, none⟩ = false := by
  refine ⟨fun j c hc => ?_, fun t ht => ?_⟩
  · rw [List.getElem?_map, Option.map_eq_some_iff] at hc
    obtain ⟨x, hx, rfl⟩ := hc
    obtain ⟨hj, rfl⟩ := List.getElem?_eq_some_iff.1 hx
    have hj' : j < d.size := by simpa using hj
    refine ⟨g, 0, rfl, fun i v hv => ?_⟩
    have hi : i < 5 := (List.getElem?_eq_some_iff.1 hv).1
    have h1 := (h (j * 5 + i) (by rw [size_flatK]; omega)).1
    rw [get_flatK _ _ _ _ (by omega), show (j * 5 + i) / 5 = j by omega, show (j * 5 + i) % 5 = i by omega] at h1
    rw [show 0 + j * 5 + i = 0 + (j * 5 + i) by omega, h1]
    have h2 : d[j]! = d.toList[j]'hj := by rw [getElem!_pos d j hj']; simp
    rw [h2]
    show some (id _) = _
    rw [getI hv]; rfl
  · have := (h t (by rw [size_flatK]; exact ht)).2
    rwa [Nat.zero_add] at this
theorem row_holdsV {w : World} {g : Nat} {l : List SV} (hr : RdL w 5 (some ⟨g, 0, none⟩) (l.map encV)) (hfr : ∀ t, t < l.length * 5 → w.frozen? ⟨g, t, none⟩ = false) : HoldsK encV 5 w g 0 l.toArray := by
  intro t ht
  rw [size_flatK] at ht
  have ht' : t < l.length * 5 := by simpa using ht
  have hj : t / 5 < l.length := by omega
  refine ⟨?_, by rw [Nat.zero_add]; exact hfr t ht'⟩
  rw [get_flatK _ _ _ _ (by simpa using ht), Nat.zero_add]
  obtain ⟨b, off, e, hx⟩ := hr.at_ hj
  cases e
  have h2 : (l.toArray)[t / 5]! = l[t / 5]'hj := by rw [getElem!_pos l.toArray (t / 5) (by simpa using hj)]; simp
  have hm : t % 5 < (encV (l[t / 5]'hj)).length := Nat.mod_lt _ (by decide)
  have h3 := hx (t % 5) _ (List.getElem?_eq_getElem hm)
  rw [show 0 + t / 5 * 5 + t % 5 = t by omega] at h3
  rw [h3, h2]
  show some _ = some (id _)
  rw [getI (List.getElem?_eq_getElem hm)]; rfl
theorem sorted_pairV {d : Array SV} (h : SortedIn (ltOf cmpSV) 0 d.size d) : d.toList.Pairwise (fun a b => ltV b.1 a.1 = false) := by
  rw [List.pairwise_iff_getElem]
  intro i j hi hj hij
  have h1 := h i j (Nat.zero_le _) hij (by simpa using hj)
  rw [ltOf_cmpSV, getElem!_pos d i (by simpa using hi), getElem!_pos d j (by simpa using hj)] at h1
  simpa using h1

set_option maxHeartbeats 800000 in
theorem vsortf_any (l : List SV) (g cap base : Nat) (w : World) (hbase : base ≤ g) (hbw : base ≤ w.heap.size) (hg : g < w.heap.size) (hr : RdL w 5 (some ⟨g, 0, none⟩) (l.map encV)) (hfr : ∀ t, t < l.length * 5 → w.frozen? ⟨g, t, none⟩ = false) (hn : l.length ≤ 4611686018427387903) :
    Calls Tryd.prog 54 #[.slice (some ⟨g, 0, none⟩) l.length cap, .func (.func 55) #[] #[]] w fun e w' =>
      e = .returned (.tuple #[]) ∧ ∃ d : List SV, d.Perm l ∧ d.Pairwise (fun a b => ltV b.1 a.1 = false) ∧ RdL w' 5 (some ⟨g, 0, none⟩) (d.map encV) ∧ (∀ t, t < d.length * 5 → w'.frozen? ⟨g, t, none⟩ = false) ∧ Below base w w' := by
  have eg : ∀ args w, (callFunc 55 args).run Tryd.prog w = .ok (.enter 55 args) w := enters_of Tryd.func55 (by kernel_rfl) rfl
  have hH := row_holdsV hr hfr
  have hcon := Go.Proofs.AnyQ.slices_SortFunc Tryd.laysSort 5 Tryd.isAgg26 Tryd.sizeOf26 encV (fun _ => rfl) (fun x v hv => by simp [encV, Vl.cells5] at hv; rcases hv with rfl | rfl | rfl | rfl | rfl <;> rfl) cmpSV swoSV 55 #[] g 0 cap l.toArray w eg (cmpLaysV g 0 _ w) hH hg (by simp; omega)
  have hsz : l.toArray.size = l.length := by simp
  change Calls Tryd.prog 54 _ _ _ at hcon
  rw [hsz] at hcon
  refine hcon.mono ?_
  rintro e w' ⟨rfl, d', n, os, hp, hs, rfl⟩
  have hsize : d'.size = l.length := by rw [hp.1, hsz]
  have hperm : d'.toList.Perm l := by
    have := hp.2.2
    have e1 : (d'.extract 0 l.length).toList = d'.toList := by rw [← hsize]; simp
    have e2 : (l.toArray.extract 0 l.length).toList = l := by simp
    rw [e1, e2] at this
    exact this
  have h1 : HoldsK encV 5 (putRowK encV 5 (Go.Sort.ahead w n) g 0 d') g 0 d' := holdsK_putRowK encV 5 (Go.Sort.ahead w n) g 0 l.toArray d' hH (by rw [hsize, hsz])
  have h2 := holds_rdV h1
  have hgb : g < (putRowK encV 5 (Go.Sort.ahead w n) g 0 d').heap.size := by rw [size_putRowK]; exact hg
  have hb : Below (putRowK encV 5 (Go.Sort.ahead w n) g 0 d').heap.size (putRowK encV 5 (Go.Sort.ahead w n) g 0 d') (grow (putRowK encV 5 (Go.Sort.ahead w n) g 0 d') os) :=
    ⟨rfl, rfl, rfl, by simp [grow], fun k hk => by simp [grow, Array.getElem?_append, hk]⟩
  refine ⟨rfl, d'.toList, hperm, sorted_pairV (by rw [hsize]; exact hs), h2.1.below hb, fun t ht => ?_, below_sortV hbase hbw⟩
  exact (hb.frozen (p := ⟨g, t, none⟩) hgb).trans (h2.2 t (by simpa using ht))

theorem five_len : ∀ (l : List Vl), (l.flatMap Vl.cells5).length = l.length * 5
  | [] => rfl
  | x :: r => by rw [List.flatMap_cons, List.length_append, five_len r, List.length_cons]; simp [Vl.cells5]; omega
theorem five_one (l : List Vl) : ∀ u ∈ l.flatMap Vl.cells5, u.oneCell' = true := by
  intro u hu
  obtain ⟨x, _, hx⟩ := List.mem_flatMap.1 hu
  simp [Vl.cells5] at hx
  rcases hx with rfl | rfl | rfl | rfl | rfl <;> rfl
theorem five_all (l : List Vl) : ∀ c ∈ l.map Vl.cells5, c.length = 5 := by intro c hc; obtain ⟨x, _, rfl⟩ := List.mem_map.1 hc; rfl

set_option maxHeartbeats 800000 in
theorem vclone_any (l : List Vl) (b off c : Nat) (w : World) (hr : RdL w 5 (some ⟨b, off, none⟩) (l.map Vl.cells5)) (hn : l.length ≤ 1000000000) :
    Calls Tryd.prog 53 #[.slice (some ⟨b, off, none⟩) l.length c] w fun e w' =>
      ∃ (g cap : Nat), e = .returned (.slice (some ⟨g, 0, none⟩) l.length cap) ∧ w.heap.size ≤ g ∧ g < w'.heap.size ∧ l.length ≤ cap ∧ cap ≤ 9223372036854775807 ∧ RdL w' 5 (some ⟨g, 0, none⟩) (l.map Vl.cells5) ∧ (∀ o, w'.frozen? ⟨g, o, none⟩ = false) ∧ Below w.heap.size w w' := by
  obtain ⟨i0, hinf, hza, hzb, hzc⟩ := info_parts (show (Tryd.prog.info? 26).map (fun i => (i.zero, i.size, i.bytes)) = some (some (.agg #[.int .i64 0, .int .i64 0, .int .i64 0, .string ⟨#[]⟩, .int .i64 0]), 5, 48) by kernel_rfl)
  have hcon := Go.Proofs.AnyE.slices_Clone Tryd.laysClone i0 (.agg #[.int .i64 0, .int .i64 0, .int .i64 0, .string ⟨#[]⟩, .int .i64 0]) 5 48 hinf hza hzb hzc rfl (by decide) Tryd.sizeOf26 b off l.length c (l.flatMap Vl.cells5) w (five_len l) (by unfold maxLen; omega) (by omega)
    (fun j u hj => by have := rd_flat hr (five_all l) (by decide) j u (by rw [← List.flatMap_def]; exact hj); rw [Addr.add_lit] at this; exact this) (five_one l)
  change Calls Tryd.prog 53 _ _ _ at hcon
  refine hcon.mono ?_
  rintro e w' ⟨v', rfl, hown, hne, hb⟩
  have hown0 := hown
  rcases hown.2 with ⟨h1, _⟩ | ⟨g, cap, cur, rfl, hg, hc, hnc, hcm, hcs, htake⟩
  · exact absurd h1 hne
  have hrd : RdL w' 5 (some ⟨g, 0, none⟩) (l.map Vl.cells5) := by
    intro j cc hcc
    obtain ⟨A, c9, e, hh⟩ := own_rd (css := l.map Vl.cells5) hown0 (by rw [List.flatMap_def]) (five_all l) (by simp)
    cases e
    exact hh j cc hcc
  exact ⟨g, cap, rfl, hg, (Array.getElem?_eq_some_iff.1 hc).1, hnc, by unfold maxLen at hcm; omega, hrd, fun o => by simp [World.frozen?, hc], hb⟩

set_option maxHeartbeats 400000 in
theorem vclip_any (n c : Nat) (a : Addr) (w : World) (hc : n ≤ c) :
    Calls Tryd.prog 56 #[.slice (some a) n c] w fun e w' => e = .returned (.slice (some a) n n) ∧ w' = w := by
  have h1 : (n : Int) ≤ (c : Int) := by omega
  have h2 : (0 : Int) ≤ (n : Int) := by omega
  go_enter Tryd.func56, Tryd.ntmps56
  go_wp2_with fail
  go_ret
  exact ⟨rfl, rfl⟩
end Go.Proofs.YtfhmjkdpohepaaaDoor

/- slices.Compact at values, as value.Sort calls it, walked. -/
set_option linter.unusedSimpArgs false
set_option linter.unusedVariables false
namespace Go.Proofs.YtfhmjkdpohepaaaDoor
open Go.RowKit Go.Sort

/-- a row on the way: what is written, what is still to be read -/
structure CInv (d rows : List Vl) (kk r : Nat) : Prop where
  len : rows.length = d.length
  kl : kk = (cpT d r).length
  lt : kk < r
  low : ∀ t, t < kk → rows[t]? = (cpT d r)[t]?
  high : ∀ t, r - 1 ≤ t → rows[t]? = d[t]?
theorem CInv.start {d : List Vl} {i : Nat} (h : i < d.length) (h0 : 0 < i) (hd : ∀ t, 0 < t → t < i → ∀ (h : t < d.length), d[t - 1]? ≠ some (d[t]'h)) (he : d[i - 1]? = some (d[i]'h)) : CInv d d i (i + 1) := by
  have e1 : cpT d (i + 1) = d.take i := by rw [cpT_old (List.getElem?_eq_getElem h) ⟨h0, he⟩, cpT_all d i (by omega) hd]
  refine ⟨rfl, by rw [e1, List.length_take]; omega, by omega, fun t ht => by rw [e1, List.getElem?_take, if_pos ht], fun t _ => rfl⟩
theorem CInv.skip {d rows : List Vl} {kk r : Nat} (h : CInv d rows kk r) (hr : r < d.length) (h0 : 0 < r) (he : d[r - 1]? = some (d[r]'hr)) : CInv d rows kk (r + 1) := by
  have e1 : cpT d (r + 1) = cpT d r := cpT_old (List.getElem?_eq_getElem hr) ⟨h0, he⟩
  exact ⟨h.len, by rw [e1]; exact h.kl, by have := h.lt; omega, fun t ht => by rw [e1]; exact h.low t ht, fun t ht => h.high t (by omega)⟩
theorem CInv.keep {d rows : List Vl} {kk r : Nat} (h : CInv d rows kk r) (hr : r < d.length) (h0 : 0 < r) (he : d[r - 1]? ≠ some (d[r]'hr)) : CInv d (rows.set kk (d[r]'hr)) (kk + 1) (r + 1) := by
  have e1 : cpT d (r + 1) = cpT d r ++ [d[r]'hr] := cpT_new (List.getElem?_eq_getElem hr) (fun hn => he hn.2)
  have hk := h.kl
  have hl := h.len
  have hlt := h.lt
  refine ⟨by rw [List.length_set]; exact hl, by rw [e1, List.length_append, ← hk]; rfl, by omega, fun t ht => ?_, fun t ht => ?_⟩
  · rw [e1]
    by_cases e : kk = t
    · subst e
      rw [List.getElem?_set_self (by omega), List.getElem?_append_right (by omega), ← hk, Nat.sub_self]; rfl
    · rw [List.getElem?_set_ne e, h.low t (by omega), List.getElem?_append_left (by omega)]
  · rw [List.getElem?_set_ne (by omega)]; exact h.high t (by omega)

set_option maxRecDepth 100000 in
set_option maxHeartbeats 3200000 in
theorem vcompact_any (d : List Vl) (g cap base : Nat) (w : World) (h0 : 0 < d.length) (hbase : base ≤ g) (hbw : base ≤ w.heap.size) (hg : g < w.heap.size) (hr : RdL w 5 (some ⟨g, 0, none⟩) (d.map Vl.cells5)) (hfr : ∀ t, t < d.length * 5 → w.frozen? ⟨g, t, none⟩ = false)
    (hcap : d.length ≤ cap) (hn : d.length ≤ 1000000000) (hcm : cap ≤ 9223372036854775807) :
    Calls Tryd.prog 57 #[.slice (some ⟨g, 0, none⟩) d.length cap] w fun e w' =>
      e = .returned (.slice (some ⟨g, 0, none⟩) (cpT d d.length).length cap) ∧ RdL w' 5 (some ⟨g, 0, none⟩) ((cpT d d.length).map Vl.cells5) ∧ Below base w w' := by
  have HR := Lib.hid hr
  have HF := Lib.hid hfr
  clear hr hfr
  by_cases h1 : d.length < 2
  · have hone : cpT d d.length = d := by rw [cpT_all d d.length (Nat.le_refl _) (fun t a b => by omega), List.take_length]
    rw [hone]
    have i1 : (d.length : Int) < 2 := by omega
    go_enter Tryd.func57, Tryd.ntmps57
    go_wp2_with fail
    go_ret
    exact ⟨rfl, HR.out, Below.refl _ _⟩
  · have i1 : ¬ ((d.length : Int) < 2) := by omega
    go_enter Tryd.func57, Tryd.ntmps57
    go_wp2_with fail
    clear h1 i1
    go_loopg [3] d.length (fun k kv wr => ∃ p : Nat, p + 1 ≤ d.length ∧ d.length - p ≤ k ∧ kv = .int .i64 ((p : Int) + 1) ∧ Hid (∀ t, 0 < t → t < p + 1 → ∀ (h : t < d.length), d[t - 1]? ≠ some (d[t]'h)) ∧ Below w.heap.size w wr)
    case atStart => exact ⟨0, by omega, by omega, rfl, fun t a b => by omega, Below.refl _ _⟩
    case round =>
      obtain ⟨p, hp, hpk, rfl, hdd, hbel⟩ := hrel
      have hsz := hbel.size
      by_cases hlt : p + 1 < d.length
      · obtain ⟨b1, o1, e1, hx⟩ := (HR.out.below hbel).at_ hlt
        cases e1
        obtain ⟨b1, o1, e1, hy⟩ := (HR.out.below hbel).at_ (show p < d.length by omega)
        cases e1
        have hpe : d[p]? = some (d[p]'(by omega)) := List.getElem?_eq_getElem (by omega)
        obtain ⟨x, hxe⟩ : ∃ x, d[p + 1]'hlt = x := ⟨_, rfl⟩
        obtain ⟨y, hye⟩ : ∃ y, d[p]'(by omega) = y := ⟨_, rfl⟩
        rw [hxe] at hx
        rw [hye] at hy hpe
        have x0 : wr.cell? ⟨g, (p + 1) * 5, none⟩ = some (.int .i64 x.k) := by have := hx.get 0 rfl; simpa using this
        have x1 : wr.cell? ⟨g, (p + 1) * 5 + 1, none⟩ = some (.int .i64 x.n) := by have := hx.get 1 rfl; simpa using this
        have x2 : wr.cell? ⟨g, (p + 1) * 5 + 2, none⟩ = some (.int .i64 x.s) := by have := hx.get 2 rfl; simpa using this
        have x3 : wr.cell? ⟨g, (p + 1) * 5 + 3, none⟩ = some (.string x.t) := by have := hx.get 3 rfl; simpa using this
        have x4 : wr.cell? ⟨g, (p + 1) * 5 + 4, none⟩ = some (.int .i64 x.i) := by have := hx.get 4 rfl; simpa using this
        have y0 : wr.cell? ⟨g, p * 5, none⟩ = some (.int .i64 y.k) := by have := hy.get 0 rfl; simpa using this
        have y1 : wr.cell? ⟨g, p * 5 + 1, none⟩ = some (.int .i64 y.n) := by have := hy.get 1 rfl; simpa using this
        have y2 : wr.cell? ⟨g, p * 5 + 2, none⟩ = some (.int .i64 y.s) := by have := hy.get 2 rfl; simpa using this
        have y3 : wr.cell? ⟨g, p * 5 + 3, none⟩ = some (.string y.t) := by have := hy.get 3 rfl; simpa using this
        have y4 : wr.cell? ⟨g, p * 5 + 4, none⟩ = some (.int .i64 y.i) := by have := hy.get 4 rfl; simpa using this
        have j1 : (p : Int) + 1 < (d.length : Int) := by omega
        have j2 : (0 : Int) ≤ (p : Int) + 1 := by omega
        have j3 : (p : Int) + 1 - 1 = (p : Int) := by omega
        have j4 : IntKind.i64.wrap ((p : Int) + 1 - 1) = (p : Int) := by rw [j3]; exact IntWalk.i64_in _ (by omega)
        have j5 : (p : Int) < (d.length : Int) := by omega
        have j6 : (0 : Int) ≤ (p : Int) := by omega
        have hq := fun W : World => eqV_run x y W
        have HX := Lib.hid hxe
        have HPE := Lib.hid hpe
        clear hx hy hxe hye hpe
        cases hp2 : eqB x y
        · rw [hp2] at hq
          have hne : y ≠ x := by intro h; rw [h, (eqB_iff x x).2 rfl] at hp2; cases hp2
          have HNE := Lib.hid hne
          clear hp2 hne
          go_wp2_with fail
          go_quiet (fail)
          go_wp2_with fail
          go_roundg (d.length - (p + 1))
          case measure => omega
          case rel =>
            refine ⟨p + 1, by omega, by omega, by go_num, fun t a b h => ?_, bel⟩
            by_cases ht : t < p + 1
            · exact hdd.out t a ht h
            · obtain rfl : t = p + 1 := by omega
              rw [Nat.add_sub_cancel, HPE.out, HX.out]
              intro h2; exact HNE.out (Option.some.inj h2)
        · rw [hp2] at hq
          have hye2 : y = x := ((eqB_iff x y).1 hp2).symm
          have hst : CInv d d (p + 1) (p + 1 + 1) := CInv.start hlt (by omega) hdd.out (by rw [Nat.add_sub_cancel, HPE.out, HX.out, hye2])
          have HST := Lib.hid hst
          clear hp2 hst hye2
          go_wp2_with fail
          go_quiet (fail)
          go_wp2_with fail
          have hgw : g < wr.heap.size := by omega
          have hbz : Below base w (wr.drewN nq) := below_drewN (hbel.mono hbw) nq
          have hrz : RdL (wr.drewN nq) 5 (some ⟨g, 0, none⟩) (d.map Vl.cells5) := HR.out.below (below_drewN hbel nq)
          have hfz : ∀ t, t < d.length * 5 → (wr.drewN nq).frozen? ⟨g, t, none⟩ = false := fun t ht => ((below_drewN hbel nq).frozen (p := ⟨g, t, none⟩) hg).trans (HF.out t ht)
          have hsz2 : (wr.drewN nq).heap.size = wr.heap.size := rfl
          have HRZ := Lib.hid hrz
          have HFZ := Lib.hid hfz
          have HBZ := Lib.hid hbz
          have hbs : base ≤ wr.heap.size := by omega
          clear hrz hfz hbz hq x0 x1 x2 x3 x4 y0 y1 y2 y3 y4
          generalize hWZ : wr.drewN nq = wz at *
          generalize hn2 : d.length - (p + 1) = n2
          have HN2 := Lib.hid hn2
          clear hn2
          go_loopg [3, 5] n2 (fun k kv k2v wr => ∃ (m kk : Nat) (rows : List Vl), k2v = .int .i64 ((m : Int) + 1) ∧ m + 1 ≤ n2 ∧ n2 - m ≤ k ∧ kv = .int .i64 kk ∧ Hid (CInv d rows kk (p + 1 + (m + 1))) ∧ Hid (RdL wr 5 (some ⟨g, 0, none⟩) (rows.map Vl.cells5)) ∧ Hid (∀ t, t < d.length * 5 → wr.frozen? ⟨g, t, none⟩ = false) ∧ base ≤ wr.heap.size ∧ Below base w wr)
          case atStart => exact ⟨0, p + 1, d, by go_num, by have := HN2.out; omega, by omega, by go_num, HST.out, HRZ.out, HFZ.out, by omega, HBZ.out⟩
          case round =>
            obtain ⟨m, kk, rows, rfl, hm, hmk, rfl, hC, hR, hFR, hbr, hbq⟩ := hrel
            have hlt2 := hC.out.lt
            have hlen := hC.out.len
            have hn2e := HN2.out
            have hkn : kk < rows.length := by omega
            obtain ⟨z, hz⟩ : ∃ z, rows[kk]'hkn = z := ⟨_, rfl⟩
            obtain ⟨b3, o3, e3, hzc⟩ := hR.out.at_ hkn
            cases e3
            rw [hz] at hzc
            have z0 : wr.cell? ⟨g, kk * 5, none⟩ = some (.int .i64 z.k) := by have := hzc.get 0 rfl; simpa using this
            have z1 : wr.cell? ⟨g, kk * 5 + 1, none⟩ = some (.int .i64 z.n) := by have := hzc.get 1 rfl; simpa using this
            have z2 : wr.cell? ⟨g, kk * 5 + 2, none⟩ = some (.int .i64 z.s) := by have := hzc.get 2 rfl; simpa using this
            have z3 : wr.cell? ⟨g, kk * 5 + 3, none⟩ = some (.string z.t) := by have := hzc.get 3 rfl; simpa using this
            have z4 : wr.cell? ⟨g, kk * 5 + 4, none⟩ = some (.int .i64 z.i) := by have := hzc.get 4 rfl; simpa using this
            have f0 : wr.frozen? ⟨g, kk * 5, none⟩ = false := hFR.out _ (by omega)
            have f1 : wr.frozen? ⟨g, kk * 5 + 1, none⟩ = false := hFR.out _ (by omega)
            have f2 : wr.frozen? ⟨g, kk * 5 + 2, none⟩ = false := hFR.out _ (by omega)
            have f3 : wr.frozen? ⟨g, kk * 5 + 3, none⟩ = false := hFR.out _ (by omega)
            have f4 : wr.frozen? ⟨g, kk * 5 + 4, none⟩ = false := hFR.out _ (by omega)
            have k1 : (kk : Int) < (d.length : Int) := by omega
            have k2 : (0 : Int) ≤ (kk : Int) := by omega
            have hgr : g < wr.heap.size := cell_lt z0
            clear hzc hz
            by_cases hml : m + 1 < n2
            · have hrl : p + 1 + (m + 1) < d.length := by omega
              have hrr : p + 1 + (m + 1) < rows.length := by omega
              have hrr2 : p + 1 + m < rows.length := by omega
              have hx1 := hC.out.high (p + 1 + (m + 1)) (by omega)
              have hy1 := hC.out.high (p + 1 + m) (by omega)
              rw [List.getElem?_eq_getElem hrr, List.getElem?_eq_getElem hrl] at hx1
              have hx2 := Option.some.inj hx1
              obtain ⟨x, hxe⟩ : ∃ x, d[p + 1 + (m + 1)]'hrl = x := ⟨_, rfl⟩
              obtain ⟨y, hye⟩ : ∃ y, rows[p + 1 + m]'hrr2 = y := ⟨_, rfl⟩
              rw [hxe] at hx2
              have hdy : d[p + 1 + (m + 1) - 1]? = some y := by rw [show p + 1 + (m + 1) - 1 = p + 1 + m by omega, ← hy1, List.getElem?_eq_getElem hrr2, hye]
              obtain ⟨b3, o3, e3, hxc⟩ := hR.out.at_ hrr
              cases e3
              obtain ⟨b3, o3, e3, hyc⟩ := hR.out.at_ hrr2
              cases e3
              rw [hx2] at hxc
              rw [hye] at hyc
              have ex : 0 + (p + 1 + (m + 1)) * 5 = (p + 1) * 5 + (m + 1) * 5 := by omega
              have ey : 0 + (p + 1 + m) * 5 = (p + 1) * 5 + m * 5 := by omega
              rw [ex] at hxc
              rw [ey] at hyc
              have x0 : wr.cell? ⟨g, (p + 1) * 5 + (m + 1) * 5, none⟩ = some (.int .i64 x.k) := hxc.get 0 rfl
              have x1 : wr.cell? ⟨g, (p + 1) * 5 + (m + 1) * 5 + 1, none⟩ = some (.int .i64 x.n) := hxc.get 1 rfl
              have x2 : wr.cell? ⟨g, (p + 1) * 5 + (m + 1) * 5 + 2, none⟩ = some (.int .i64 x.s) := hxc.get 2 rfl
              have x3 : wr.cell? ⟨g, (p + 1) * 5 + (m + 1) * 5 + 3, none⟩ = some (.string x.t) := hxc.get 3 rfl
              have x4 : wr.cell? ⟨g, (p + 1) * 5 + (m + 1) * 5 + 4, none⟩ = some (.int .i64 x.i) := hxc.get 4 rfl
              have y0 : wr.cell? ⟨g, (p + 1) * 5 + m * 5, none⟩ = some (.int .i64 y.k) := hyc.get 0 rfl
              have y1 : wr.cell? ⟨g, (p + 1) * 5 + m * 5 + 1, none⟩ = some (.int .i64 y.n) := hyc.get 1 rfl
              have y2 : wr.cell? ⟨g, (p + 1) * 5 + m * 5 + 2, none⟩ = some (.int .i64 y.s) := hyc.get 2 rfl
              have y3 : wr.cell? ⟨g, (p + 1) * 5 + m * 5 + 3, none⟩ = some (.string y.t) := hyc.get 3 rfl
              have y4 : wr.cell? ⟨g, (p + 1) * 5 + m * 5 + 4, none⟩ = some (.int .i64 y.i) := hyc.get 4 rfl
              have l1 : (m : Int) + 1 < (n2 : Int) := by omega
              have l2 : (0 : Int) ≤ (m : Int) + 1 := by omega
              have l3 : (m : Int) + 1 - 1 = (m : Int) := by omega
              have l4 : IntKind.i64.wrap ((m : Int) + 1 - 1) = (m : Int) := by rw [l3]; exact IntWalk.i64_in _ (by omega)
              have l5 : (m : Int) < (n2 : Int) := by omega
              have l6 : (0 : Int) ≤ (m : Int) := by omega
              have HXE := Lib.hid hxe
              have HDY := Lib.hid hdy
              have HLEN := Lib.hid hlen
              have HKN := Lib.hid hkn
              clear hx1 hy1 hx2 hxe hye hdy hxc hyc ex ey hlen hkn hn2e hWZ
              cases hp3 : eqB x y
              · have hnq : ∀ W : World, _ := fun W => (neV_run x y W).trans (by rw [hp3])
                have hne : y ≠ x := by intro h; rw [h, (eqB_iff x x).2 rfl] at hp3; cases hp3
                have hk2 : CInv d (rows.set kk x) (kk + 1) (p + 1 + (m + 1) + 1) := by
                  have := hC.out.keep hrl (by omega) (by rw [HDY.out, HXE.out]; intro h; exact hne (Option.some.inj h))
                  rw [HXE.out] at this
                  exact this
                have HK2 := Lib.hid hk2
                clear hp3 hne hk2
                go_wp2_with fail
                go_quiet (fail)
                go_wp2_with fail
                go_roundg (n2 - (m + 1))
                case measure => omega
                case rel =>
                  refine ⟨m + 1, kk + 1, rows.set kk x, by go_num, by omega, by omega, by go_num, HK2.out, ?_, ?_, ?_, ?_⟩
                  · exact rd_set5 (hR.out.below (below_drewN (Below.refl _ _) _)) kk HKN.out x
                  · intro t ht
                    exact (World.frozen?_setCells g x.cells5 (kk * 5) (wr.drewN _) _).trans (hFR.out t ht)
                  · exact Nat.le_trans hbr (Nat.le_of_eq (size_setCells g x.cells5 (kk * 5) (wr.drewN _)).symm)
                  · exact below_cells hbase x.cells5 (kk * 5) (below_drewN hbq _)
              · have hnq : ∀ W : World, _ := fun W => (neV_run x y W).trans (by rw [hp3])
                have hye2 : y = x := ((eqB_iff x y).1 hp3).symm
                have hk2 : CInv d rows kk (p + 1 + (m + 1) + 1) := hC.out.skip hrl (by omega) (by rw [HDY.out, HXE.out, hye2])
                have HK2 := Lib.hid hk2
                clear hp3 hye2 hk2
                go_wp2_with fail
                go_quiet (fail)
                go_wp2_with fail
                go_roundg (n2 - (m + 1))
                case measure => omega
                case rel => exact ⟨m + 1, kk, rows, by go_num, by omega, by omega, rfl, HK2.out, hR.out.below (below_drewN (Below.refl _ _) _), hFR.out, hbr, below_drewN hbq _⟩
            · have hre : p + 1 + (m + 1) = d.length := by omega
              have hK := hC.out
              rw [hre] at hK
              have hkl := hK.kl
              have hlow := hK.low
              have hkd : kk < d.length := by omega
              have l1 : ¬ ((m : Int) + 1 < (n2 : Int)) := by omega
              have l2 : (0 : Int) ≤ (m : Int) + 1 := by omega
              have k3 : (kk : Int) ≤ (d.length : Int) := by omega
              have k4 : (kk : Int) ≤ (cap : Int) := by omega
              have k5 : (d.length : Int) ≤ (cap : Int) := by omega
              obtain ⟨vs, hcl⟩ := run_clear5 wr g (kk * 5) (d.length - kk) (cap - kk) (by omega) (fun t ht => by
                obtain ⟨b3, o3, e3, hxc⟩ := hR.out.at_ (show (kk * 5 + t) / 5 < rows.length by omega)
                cases e3
                have hm5 : (kk * 5 + t) % 5 < ((rows[(kk * 5 + t) / 5]'(by omega)).cells5).length := Nat.mod_lt _ (by decide)
                have h3 := hxc ((kk * 5 + t) % 5) _ (List.getElem?_eq_getElem hm5)
                rw [show 0 + (kk * 5 + t) / 5 * 5 + (kk * 5 + t) % 5 = kk * 5 + t by omega] at h3
                rw [h3]; rfl) (fun t ht => hFR.out _ (by omega)) (ty := 0)
              have hcl2 : ∀ ty, (Builtin.clear_ #[22] ty #[.slice (some ⟨g, kk * 5, none⟩) (d.length - kk) (cap - kk)]).run Tryd.prog wr = .ok (.tuple #[]) (wr.setCells g (kk * 5) vs) := fun ty => hcl
              have HKL := Lib.hid hkl
              have HLOW := Lib.hid hlow
              clear hre hK hkl hlow hn2e hlen hkn hWZ hcl z0 z1 z2 z3 z4 f0 f1 f2 f3 f4
              go_wp2_with fail
              go_ret
              refine ⟨by rw [← HKL.out]; rfl, ?_, below_cells hbase vs (kk * 5) hbq⟩
              exact rd_front (n := 0) hR.out vs kk (Nat.le_of_eq HKL.out.symm) (fun t ht => HLOW.out t (by rw [HKL.out]; exact ht))
      · have hpe : p + 1 = d.length := by omega
        have hall : cpT d d.length = d := by rw [cpT_all d d.length (Nat.le_refl _) (fun t a b h => hdd.out t a (by omega) h), List.take_length]
        have HALL := Lib.hid hall
        clear hall
        have j1 : ¬ ((p : Int) + 1 < (d.length : Int)) := by omega
        go_wp2_with fail
        go_ret
        refine ⟨by rw [HALL.out]; rfl, by rw [HALL.out]; exact HR.out.below hbel, hbel.mono hbw⟩
end Go.Proofs.YtfhmjkdpohepaaaDoor
