/- slices.Clone, SortFunc and Clip at values, as value.Sort calls them. -/
import Derived.Test.YtfhmjkdpohepaaaDoorVRow
import Derived.Test.YtfhmjkdpohepaaaDoorSpread
import Derived.Test.YtfhmjkdpohepaaaDoorPAll
set_option linter.unusedSimpArgs false
set_option linter.unusedVariables false
namespace Go.Proofs.YtfhmjkdpohepaaaDoor
open Go.RowKit Go.Sort

abbrev SV := {v : Vl // v.wf ∧ sndB v = true}
theorem vz_wf : Vl.zero.wf := ⟨by unfold I64 Vl.zero; simp, by unfold I64 Vl.zero; simp, by unfold I64 Vl.zero; simp, by unfold I64 Vl.zero; simp, by show (0 : Nat) ≤ 9223372036854775807; omega⟩
theorem vz_nil : (⟨#[]⟩ : ByteArray).toList = [] := by rw [ByteArray.toList_eq]
theorem vz_snd : sndB Vl.zero = true := by unfold sndB Vl.zero; simp [vz_nil]
instance : Inhabited SV := ⟨⟨Vl.zero, vz_wf, vz_snd⟩⟩
def encV (x : SV) : List Value := x.1.cells5
def cmpSV (x y : SV) : Int := cmpV x.1 y.1
theorem ltOf_cmpSV (x y : SV) : ltOf cmpSV x y = ltV x.1 y.1 := ltOf_cmpV x.1 y.1
theorem swoSV : SWO (ltOf cmpSV) := by
  have : ltOf cmpSV = fun x y : SV => ltV x.1 y.1 := by funext x y; exact ltOf_cmpSV x y
  rw [this]
  exact swo_pull swo_ltV (fun x : SV => x.1)
theorem cmpLaysV (blk off size : Nat) (w : World) : Go.Proofs.CmpLays Tryd.prog 55 #[] encV 5 cmpSV blk off size w :=
  fun _ _ _ _ x y => (order_anyD x.1 y.1 _ x.2.1 y.2.1 x.2.2 y.2.2).mono fun _ _ ⟨he, hb⟩ => ⟨he, hb.grow_⟩
/-- a list of sound values as such -/
theorem sv_list : ∀ (l : List Vl), (∀ v ∈ l, v.wf) → (∀ v ∈ l, sndB v = true) → ∃ L : List SV, L.map (fun x => x.1) = l
  | [], _, _ => ⟨[], rfl⟩
  | v :: r, h1, h2 => by
    obtain ⟨L, hL⟩ := sv_list r (fun x hx => h1 x (List.mem_cons_of_mem _ hx)) (fun x hx => h2 x (List.mem_cons_of_mem _ hx))
    exact ⟨⟨v, h1 v (by simp), h2 v (by simp)⟩ :: L, by rw [List.map_cons, hL]⟩

theorem getI {l : List Value} {i : Nat} {v : Value} (h : l[i]? = some v) : l[i]! = v := by rw [List.getElem!_eq_getElem?_getD, h]; rfl
theorem below_sortV {base g n : Nat} {w : World} {d : Array SV} {os : Array Obj} (hg : base ≤ g) (hb : base ≤ w.heap.size) : Below base w (Go.Proofs.sortWorldK encV 5 w g 0 n d os) := by
  refine ⟨rfl, rfl, rfl, ?_, fun k hk => ?_⟩
  · show w.heap.size ≤ (_ ++ os).size
    simp [Go.Proofs.sortWorldK, putRowK, putRow, mapBlock, Go.Sort.ahead, grow]
  · have hk2 : k < w.heap.size := by omega
    simp [Go.Proofs.sortWorldK, putRowK, putRow, mapBlock, Go.Sort.ahead, grow, Array.getElem?_append, hk2, Array.getElem?_modify]
    rw [Array.getElem_modify, if_neg (by omega)]
theorem holds_rdV {w : World} {g : Nat} {d : Array SV} (h : HoldsK encV 5 w g 0 d) : RdL w 5 (some ⟨g, 0, none⟩) (d.toList.map encV) ∧ ∀ t, t < d.size * 5 → w.frozen? ⟨g, t, none⟩ = false := by
  refine ⟨fun j c hc => ?_, fun t ht => ?_⟩
  · rw [List.getElem?_map, Option.map_eq_some_iff] at hc
    obtain ⟨x, hx, rfl⟩ := hc
    obtain ⟨hj, rfl⟩ := List.getElem?_eq_some_iff.1 hx
    have hj' : j < d.size := by simpa using hj
    refine ⟨g, 0, rfl, fun i v hv => ?_⟩
    have hi : i < 5 := (List.getElem?_eq_some_iff.1 hv).1
    have h1 := (h (j * 5 + i) (by rw [size_flatK]; omega)).1
    rw [get_flatK _ _ _ _ (by omega), show (j * 5 + i) / 5 = j by omega, show (j * 5 + i) % 5 = i by omega] at h1
    rw [show 0 + j * 5 + i = 0 + (j * 5 + i) by omega, h1]
    have h2 : d[j]! = d.toList[j]'hj := by rw [getElem!_pos d j hj']; simp
    rw [h2]
    show some (id _) = _
    rw [getI hv]; rfl
  · have := (h t (by rw [size_flatK]; exact ht)).2
    rwa [Nat.zero_add] at this
theorem row_holdsV {w : World} {g : Nat} {l : List SV} (hr : RdL w 5 (some ⟨g, 0, none⟩) (l.map encV)) (hfr : ∀ t, t < l.length * 5 → w.frozen? ⟨g, t, none⟩ = false) : HoldsK encV 5 w g 0 l.toArray := by
  intro t ht
  rw [size_flatK] at ht
  have ht' : t < l.length * 5 := by simpa using ht
  have hj : t / 5 < l.length := by omega
  refine ⟨?_, by rw [Nat.zero_add]; exact hfr t ht'⟩
  rw [get_flatK _ _ _ _ (by simpa using ht), Nat.zero_add]
  obtain ⟨b, off, e, hx⟩ := hr.at_ hj
  cases e
  have h2 : (l.toArray)[t / 5]! = l[t / 5]'hj := by rw [getElem!_pos l.toArray (t / 5) (by simpa using hj)]; simp
  have hm : t % 5 < (encV (l[t / 5]'hj)).length := Nat.mod_lt _ (by decide)
  have h3 := hx (t % 5) _ (List.getElem?_eq_getElem hm)
  rw [show 0 + t / 5 * 5 + t % 5 = t by omega] at h3
  rw [h3, h2]
  show some _ = some (id _)
  rw [getI (List.getElem?_eq_getElem hm)]; rfl
theorem sorted_pairV {d : Array SV} (h : SortedIn (ltOf cmpSV) 0 d.size d) : d.toList.Pairwise (fun a b => ltV b.1 a.1 = false) := by
  rw [List.pairwise_iff_getElem]
  intro i j hi hj hij
  have h1 := h i j (Nat.zero_le _) hij (by simpa using hj)
  rw [ltOf_cmpSV, getElem!_pos d i (by simpa using hi), getElem!_pos d j (by simpa using hj)] at h1
  simpa using h1

set_option maxHeartbeats 800000 in
theorem vsortf_any (l : List SV) (g cap base : Nat) (w : World) (hbase : base ≤ g) (hbw : base ≤ w.heap.size) (hg : g < w.heap.size) (hr : RdL w 5 (some ⟨g, 0, none⟩) (l.map encV)) (hfr : ∀ t, t < l.length * 5 → w.frozen? ⟨g, t, none⟩ = false) (hn : l.length ≤ 4611686018427387903) :
    Calls Tryd.prog 54 #[.slice (some ⟨g, 0, none⟩) l.length cap, .func (.func 55) #[] #[]] w fun e w' =>
      e = .returned (.tuple #[]) ∧ ∃ d : List SV, d.Perm l ∧ d.Pairwise (fun a b => ltV b.1 a.1 = false) ∧ RdL w' 5 (some ⟨g, 0, none⟩) (d.map encV) ∧ (∀ t, t < d.length * 5 → w'.frozen? ⟨g, t, none⟩ = false) ∧ Below base w w' := by
  have eg : ∀ args w, (callFunc 55 args).run Tryd.prog w = .ok (.enter 55 args) w := enters_of Tryd.func55 (by kernel_rfl) rfl
  have hH := row_holdsV hr hfr
  have hcon := Go.Proofs.AnyQ.slices_SortFunc Tryd.laysSort 5 Tryd.isAgg26 Tryd.sizeOf26 encV (fun _ => rfl) (fun x v hv => by simp [encV, Vl.cells5] at hv; rcases hv with rfl | rfl | rfl | rfl | rfl <;> rfl) cmpSV swoSV 55 #[] g 0 cap l.toArray w eg (cmpLaysV g 0 _ w) hH hg (by simp; omega)
  have hsz : l.toArray.size = l.length := by simp
  change Calls Tryd.prog 54 _ _ _ at hcon
  rw [hsz] at hcon
  refine hcon.mono ?_
  rintro e w' ⟨rfl, d', n, os, hp, hs, rfl⟩
  have hsize : d'.size = l.length := by rw [hp.1, hsz]
  have hperm : d'.toList.Perm l := by
    have := hp.2.2
    have e1 : (d'.extract 0 l.length).toList = d'.toList := by rw [← hsize]; simp
    have e2 : (l.toArray.extract 0 l.length).toList = l := by simp
    rw [e1, e2] at this
    exact this
  have h1 : HoldsK encV 5 (putRowK encV 5 (Go.Sort.ahead w n) g 0 d') g 0 d' := holdsK_putRowK encV 5 (Go.Sort.ahead w n) g 0 l.toArray d' hH (by rw [hsize, hsz])
  have h2 := holds_rdV h1
  have hgb : g < (putRowK encV 5 (Go.Sort.ahead w n) g 0 d').heap.size := by rw [size_putRowK]; exact hg
  have hb : Below (putRowK encV 5 (Go.Sort.ahead w n) g 0 d').heap.size (putRowK encV 5 (Go.Sort.ahead w n) g 0 d') (grow (putRowK encV 5 (Go.Sort.ahead w n) g 0 d') os) :=
    ⟨rfl, rfl, rfl, by simp [grow], fun k hk => by simp [grow, Array.getElem?_append, hk]⟩
  refine ⟨rfl, d'.toList, hperm, sorted_pairV (by rw [hsize]; exact hs), h2.1.below hb, fun t ht => ?_, below_sortV hbase hbw⟩
  exact (hb.frozen (p := ⟨g, t, none⟩) hgb).trans (h2.2 t (by simpa using ht))

theorem five_len : ∀ (l : List Vl), (l.flatMap Vl.cells5).length = l.length * 5
  | [] => rfl
  | x :: r => by rw [List.flatMap_cons, List.length_append, five_len r, List.length_cons]; simp [Vl.cells5]; omega
theorem five_one (l : List Vl) : ∀ u ∈ l.flatMap Vl.cells5, u.oneCell' = true := by
  intro u hu
  obtain ⟨x, _, hx⟩ := List.mem_flatMap.1 hu
  simp [Vl.cells5] at hx
  rcases hx with rfl | rfl | rfl | rfl | rfl <;> rfl
theorem five_all (l : List Vl) : ∀ c ∈ l.map Vl.cells5, c.length = 5 := by intro c hc; obtain ⟨x, _, rfl⟩ := List.mem_map.1 hc; rfl

set_option maxHeartbeats 800000 in
theorem vclone_any (l : List Vl) (b off c : Nat) (w : World) (hr : RdL w 5 (some ⟨b, off, none⟩) (l.map Vl.cells5)) (hn : l.length ≤ 1000000000) :
    Calls Tryd.prog 53 #[.slice (some ⟨b, off, none⟩) l.length c] w fun e w' =>
      ∃ (g cap : Nat), e = .returned (.slice (some ⟨g, 0, none⟩) l.length cap) ∧ w.heap.size ≤ g ∧ g < w'.heap.size ∧ l.length ≤ cap ∧ cap ≤ 9223372036854775807 ∧ RdL w' 5 (some ⟨g, 0, none⟩) (l.map Vl.cells5) ∧ (∀ o, w'.frozen? ⟨g, o, none⟩ = false) ∧ Below w.heap.size w w' := by
  obtain ⟨i0, hinf, hza, hzb, hzc⟩ := info_parts (show (Tryd.prog.info? 26).map (fun i => (i.zero, i.size, i.bytes)) = some (some (.agg #[.int .i64 0, .int .i64 0, .int .i64 0, .string ⟨#[]⟩, .int .i64 0]), 5, 48) by kernel_rfl)
  have hcon := Go.Proofs.AnyE.slices_Clone Tryd.laysClone i0 (.agg #[.int .i64 0, .int .i64 0, .int .i64 0, .string ⟨#[]⟩, .int .i64 0]) 5 48 hinf hza hzb hzc rfl (by decide) Tryd.sizeOf26 b off l.length c (l.flatMap Vl.cells5) w (five_len l) (by unfold maxLen; omega) (by omega)
    (fun j u hj => by have := rd_flat hr (five_all l) (by decide) j u (by rw [← List.flatMap_def]; exact hj); rw [Addr.add_lit] at this; exact this) (five_one l)
  change Calls Tryd.prog 53 _ _ _ at hcon
  refine hcon.mono ?_
  rintro e w' ⟨v', rfl, hown, hne, hb⟩
  have hown0 := hown
  rcases hown.2 with ⟨h1, _⟩ | ⟨g, cap, cur, rfl, hg, hc, hnc, hcm, hcs, htake⟩
  · exact absurd h1 hne
  have hrd : RdL w' 5 (some ⟨g, 0, none⟩) (l.map Vl.cells5) := by
    intro j cc hcc
    obtain ⟨A, c9, e, hh⟩ := own_rd (css := l.map Vl.cells5) hown0 (by rw [List.flatMap_def]) (five_all l) (by simp)
    cases e
    exact hh j cc hcc
  exact ⟨g, cap, rfl, hg, (Array.getElem?_eq_some_iff.1 hc).1, hnc, by unfold maxLen at hcm; omega, hrd, fun o => by simp [World.frozen?, hc], hb⟩

set_option maxHeartbeats 400000 in
theorem vclip_any (n c : Nat) (a : Addr) (w : World) (hc : n ≤ c) :
    Calls Tryd.prog 56 #[.slice (some a) n c] w fun e w' => e = .returned (.slice (some a) n n) ∧ w' = w := by
  have h1 : (n : Int) ≤ (c : Int) := by omega
  have h2 : (0 : Int) ≤ (n : Int) := by omega
  go_enter Tryd.func56, Tryd.ntmps56
  go_wp2_with fail
  go_ret
  exact ⟨rfl, rfl⟩
end Go.Proofs.YtfhmjkdpohepaaaDoor
