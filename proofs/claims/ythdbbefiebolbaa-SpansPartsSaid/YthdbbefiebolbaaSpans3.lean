/- Spans: slices.DeleteFunc as Join calls it, walked. -/
import Derived.Test.YthdbbefiebolbaaSpans2
set_option linter.unusedSimpArgs false
set_option linter.unusedVariables false
namespace Go.Proofs.Ythdbbefiebolbaa
open Go.RowKit Go.Sort

theorem row_rd {w : World} {g : Nat} {f : Nat → Int} {l : List Sp} (hf : RowIs w g f (l.length * 2)) (hfl : ∀ t (h : t < l.length), f (t * 2) = (l[t]'h).1 ∧ f (t * 2 + 1) = (l[t]'h).2) : RdL w 2 (some ⟨g, 0, none⟩) (l.map spC) := by
  intro j c hc
  rw [List.getElem?_map, Option.map_eq_some_iff] at hc
  obtain ⟨x, hx, rfl⟩ := hc
  obtain ⟨hj, rfl⟩ := List.getElem?_eq_some_iff.1 hx
  refine ⟨g, 0, rfl, fun i v hv => ?_⟩
  have h := hfl j hj
  match i, hv with
  | 0, hv =>
    have e : v = .int .i64 (l[j]'hj).1 := by simpa [spC] using hv.symm
    rw [show 0 + j * 2 + 0 = j * 2 by omega, hf (j * 2) (by omega), e, h.1]
  | 1, hv =>
    have e : v = .int .i64 (l[j]'hj).2 := by simpa [spC] using hv.symm
    rw [show 0 + j * 2 + 1 = j * 2 + 1 by omega, hf (j * 2 + 1) (by omega), e, h.2]
  | i + 2, hv => simp [spC] at hv
theorem RowIs.less {w : World} {g n m : Nat} {f : Nat → Int} (h : RowIs w g f n) (hm : m ≤ n) : RowIs w g f m := fun j hj => h j (by omega)

theorem below_setCells {base g : Nat} (hg : base ≤ g) {a : World} : ∀ (vs : List Value) (o : Nat) {w : World}, Below base a w → Below base a (w.setCells g o vs)
  | [], _, _, h => h
  | v :: r, o, _, h => below_setCells hg r (o + 1) (h.setCell (by exact hg) _)

set_option maxRecDepth 100000 in
set_option maxHeartbeats 1600000 in
theorem delete_any (l : List Sp) (f : Nat → Int) (g cap base : Nat) (w : World) (hbase : base ≤ g) (hbw : base ≤ w.heap.size) (hg : g < w.heap.size) (hf : RowIs w g f (l.length * 2)) (hfr : ∀ o, w.frozen? ⟨g, o, none⟩ = false)
    (hfl : ∀ t (h : t < l.length), f (t * 2) = (l[t]'h).1 ∧ f (t * 2 + 1) = (l[t]'h).2) (hcap : l.length ≤ cap) (hn : l.length ≤ 4611686018427387903) :
    Calls Try.prog 20 #[.slice (some ⟨g, 0, none⟩) l.length cap, .func (.func 22) #[] #[]] w fun e w' =>
      e = .returned (.slice (some ⟨g, 0, none⟩) (l.filter okS).length cap) ∧ ∃ f', RowIs w' g f' ((l.filter okS).length * 2) ∧ (∀ o, w'.frozen? ⟨g, o, none⟩ = false) ∧
        (∀ t (h : t < (l.filter okS).length), f' (t * 2) = ((l.filter okS)[t]'h).1 ∧ f' (t * 2 + 1) = ((l.filter okS)[t]'h).2) ∧ Below base w w' := by
  have hgives : spGives 22 #[] (fun x => !okS x) l w := fun x _ W _ => join1_any x W
  have eg : ∀ args W, (callFunc 22 args).run Try.prog W = .ok (.enter 22 args) W := enters_of Try.func22 (by kernel_rfl) rfl
  have hix := spIndex 22 (fun x => !okS x) l _ cap w (row_rd hf hfl) (by omega) hgives eg
  have HFL := Lib.hid hfl
  clear hfl hgives
  rcases idxF_spec (p := fun x => !okS x) l 0 with ⟨h1, h2⟩ | ⟨i0, hi0, h1, h2, h3⟩
  · have hall : l.filter okS = l := filter_all fun t h => by simpa using h2 t h
    rw [hall]
    rw [h1] at hix
    have HF := Lib.hid hf
    clear h1 h2 hall hf eg
    go_enter Try.func20, Try.ntmps20
    go_wp2_with fail
    refine hix.mono ?_
    rintro e w1 ⟨rfl, hb1⟩
    clear hix
    go_wp2_with fail
    go_ret
    exact ⟨rfl, f, HF.out.below hb1, fun o => (hb1.frozen (p := ⟨g, o, none⟩) hg).trans (hfr o), HFL.out, hb1.mono hbw⟩
  · rw [h1, Nat.zero_add] at hix
    have hstart := KInv.start hi0 (by simpa using h2) (fun t h h' => by simpa using h3 t h h') HFL.out
    have HS := Lib.hid hstart
    have HF := Lib.hid hf
    have HEG := Lib.hid eg
    have hne : ((i0 : Int) == -1) = false := beq_eq_false_iff_ne.2 (by omega)
    clear h1 h2 h3 hf hstart eg
    go_enter Try.func20, Try.ntmps20
    go_wp2_with fail
    refine hix.mono ?_
    rintro e w1 ⟨rfl, hb1⟩
    clear hix
    have hz1 := hb1.size
    have hbm1 : Below base w w1 := hb1.mono hbw
    have hrow1 : RowIs w1 g f (l.length * 2) := HF.out.below hb1
    have hfr1 : ∀ o, w1.frozen? ⟨g, o, none⟩ = false := fun o => (hb1.frozen (p := ⟨g, o, none⟩) hg).trans (hfr o)
    have HR1 := Lib.hid hrow1
    have HFR1 := Lib.hid hfr1
    clear hrow1 hfr1 hfr hb1
    go_wp2_with fail
    clear hne
    go_loopg [5, 6] l.length (fun k iv jv wr => ∃ (i j : Nat) (f' : Nat → Int), iv = .int .i64 i ∧ jv = .int .i64 j ∧ l.length - j ≤ k ∧ Hid (KInv l f' i j) ∧ Hid (RowIs wr g f' (l.length * 2)) ∧ Hid (∀ o, wr.frozen? ⟨g, o, none⟩ = false) ∧ g < wr.heap.size ∧ base ≤ wr.heap.size ∧ Below base w wr)
    case atStart => exact ⟨i0, i0 + 1, f, rfl, by go_num, by omega, HS, HR1, HFR1, by omega, by omega, hbm1⟩
    case round =>
      obtain ⟨i, j, f', rfl, rfl, hjk, hK, hR, hFR, hgr, hbr, hbel⟩ := hrel
      have hKo := hK.out
      have hij := hKo.lt
      have hjl := hKo.le
      clear hKo
      by_cases hlt : j < l.length
      · have hx := hK.out.high j hlt (Nat.le_refl _)
        have hok : okS (l[j]'hlt) = okS (l[j]'hlt) := rfl
        obtain ⟨x, hxe⟩ : ∃ x, l[j]'hlt = x := ⟨_, rfl⟩
        rw [hxe] at hx
        have c0 : wr.cell? ⟨g, j * 2, none⟩ = some (.int .i64 x.1) := by rw [hR.out (j * 2) (by omega), hx.1]
        have c1 : wr.cell? ⟨g, j * 2 + 1, none⟩ = some (.int .i64 x.2) := by rw [hR.out (j * 2 + 1) (by omega), hx.2]
        have HX := Lib.hid hxe
        clear hx hok hxe
        have a1 : (0 : Int) ≤ (j : Int) := by omega
        have a2 : (j : Int) < (l.length : Int) := by omega
        have a3 : (0 : Int) ≤ (i : Int) := by omega
        have a4 : (i : Int) < (l.length : Int) := by omega
        cases hk : okS x
        · go_wp2_with fail
          refine (join1_any x _).mono ?_
          rintro e w2 ⟨rfl, hb2⟩
          rw [hk]
          have hz2 := hb2.size
          try simp at hz2
          go_wp2_with fail
          go_roundg (l.length - (j + 1))
          case measure => omega
          case rel =>
            refine ⟨i, j + 1, f', by go_num, by go_num, by omega, hK.out.skip hlt (by rw [HX.out]; exact hk), ?_, ?_, by omega, by omega, ?_⟩
            · exact (hR.out.below (by exact (by repeat' (first | (with_reducible exact Below.refl _ _) | (with_reducible assumption) | (with_reducible refine Below.drew ?_) | (with_reducible refine below_drewN ?_ _) | (with_reducible refine below_iterAt ?_ ?_ _ _) | (with_reducible refine below_iter ?_ ?_ _ _) | (with_reducible refine Below.alloc ?_ ?_ _) | (with_reducible refine Below.setCell ?_ ?_ _) | (with_reducible refine Below.trans ?_ (Below.mono (by assumption) ?_)) | (simp only [sz_alloc, sz_set, sz_drew, sz_drewN, sz_iterAt, sz_iter] at *; omega) | omega | (simp; done) | (simp; omega) | (apply Below.size; assumption) | (simp only [sz_drew, sz_drewN]; apply Below.size; assumption) | (refine Nat.le_trans ?_ (Below.size (by assumption))))) : Below wr.heap.size wr w2))
            · exact fun o => ((by exact (by repeat' (first | (with_reducible exact Below.refl _ _) | (with_reducible assumption) | (with_reducible refine Below.drew ?_) | (with_reducible refine below_drewN ?_ _) | (with_reducible refine below_iterAt ?_ ?_ _ _) | (with_reducible refine below_iter ?_ ?_ _ _) | (with_reducible refine Below.alloc ?_ ?_ _) | (with_reducible refine Below.setCell ?_ ?_ _) | (with_reducible refine Below.trans ?_ (Below.mono (by assumption) ?_)) | (simp only [sz_alloc, sz_set, sz_drew, sz_drewN, sz_iterAt, sz_iter] at *; omega) | omega | (simp; done) | (simp; omega) | (apply Below.size; assumption) | (simp only [sz_drew, sz_drewN]; apply Below.size; assumption) | (refine Nat.le_trans ?_ (Below.size (by assumption))))) : Below wr.heap.size wr w2).frozen (p := ⟨g, o, none⟩) hgr).trans (hFR.out o)
            · exact hbel.trans ((by exact (by repeat' (first | (with_reducible exact Below.refl _ _) | (with_reducible assumption) | (with_reducible refine Below.drew ?_) | (with_reducible refine below_drewN ?_ _) | (with_reducible refine below_iterAt ?_ ?_ _ _) | (with_reducible refine below_iter ?_ ?_ _ _) | (with_reducible refine Below.alloc ?_ ?_ _) | (with_reducible refine Below.setCell ?_ ?_ _) | (with_reducible refine Below.trans ?_ (Below.mono (by assumption) ?_)) | (simp only [sz_alloc, sz_set, sz_drew, sz_drewN, sz_iterAt, sz_iter] at *; omega) | omega | (simp; done) | (simp; omega) | (apply Below.size; assumption) | (simp only [sz_drew, sz_drewN]; apply Below.size; assumption) | (refine Nat.le_trans ?_ (Below.size (by assumption))))) : Below wr.heap.size wr w2).mono hbr)
        · go_wp2_with fail
          refine (join1_any x _).mono ?_
          rintro e w2 ⟨rfl, hb2⟩
          rw [hk]
          obtain ⟨hc2, hf2⟩ := bcell hb2
          have hz2 := hb2.size
          try simp at hz2
          have q2_0 := fun o => hc2 (wr.heap.size) o (by first | omega | (simp only [sz_alloc, sz_set, sz_drew, sz_drewN, sz_iterAt, sz_iter] at *; omega) | (simp; done) | (simp; omega) | (simp at *; omega))
          have l2_0 : wr.heap.size < w2.heap.size := by omega
          have r2_0 := fun o => hf2 (wr.heap.size) o (by first | omega | (simp only [sz_alloc, sz_set, sz_drew, sz_drewN, sz_iterAt, sz_iter] at *; omega) | (simp; done) | (simp; omega) | (simp at *; omega))
          clear hc2 hf2
          have hbz : Below wr.heap.size wr w2 := (by repeat' (first | (with_reducible exact Below.refl _ _) | (with_reducible assumption) | (with_reducible refine Below.drew ?_) | (with_reducible refine below_drewN ?_ _) | (with_reducible refine below_iterAt ?_ ?_ _ _) | (with_reducible refine below_iter ?_ ?_ _ _) | (with_reducible refine Below.alloc ?_ ?_ _) | (with_reducible refine Below.setCell ?_ ?_ _) | (with_reducible refine Below.trans ?_ (Below.mono (by assumption) ?_)) | (simp only [sz_alloc, sz_set, sz_drew, sz_drewN, sz_iterAt, sz_iter] at *; omega) | omega | (simp; done) | (simp; omega) | (apply Below.size; assumption) | (simp only [sz_drew, sz_drewN]; apply Below.size; assumption) | (refine Nat.le_trans ?_ (Below.size (by assumption)))))
          have hzz := hbz.size
          have hR2 : RowIs w2 g f' (l.length * 2) := hR.out.below hbz
          have hF2 : ∀ o, w2.frozen? ⟨g, o, none⟩ = false := fun o => (hbz.frozen (p := ⟨g, o, none⟩) hgr).trans (hFR.out o)
          have d0 := hR2 (i * 2) (by omega)
          have d1 := hR2 (i * 2 + 1) (by omega)
          have e0 := hF2 (i * 2)
          have e1 := hF2 (i * 2 + 1)
          have HR2 := Lib.hid hR2
          have HF2 := Lib.hid hF2
          clear hR2 hF2
          go_wp2_with fail
          go_roundg (l.length - (j + 1))
          case measure => omega
          case rel =>
            have hk2 := hK.out.keep hlt (by rw [HX.out]; exact hk)
            rw [HX.out] at hk2
            refine ⟨i + 1, j + 1, _, by go_num, by go_num, by omega, hk2, ?_, ?_, by simp; omega, by simp; omega, ?_⟩
            · have := (HR2.out.set_ (i * 2) (by omega) x.1).set_ (i * 2 + 1) (by omega) x.2
              exact this
            · intro o
              rw [frozen_setCell, frozen_setCell]
              exact HF2.out o
            · have h0 : Below base w w2 := hbel.trans (hbz.mono hbr)
              exact (h0.setCell (by exact hbase) _).setCell (by exact hbase) _
      · have hje : j = l.length := by omega
        subst hje
        have hK2 := hK.out
        have hlen : (l.filter okS).length = i := by have := hK2.len; rw [List.take_length] at this; exact this
        have hlow : ∀ t (h : t < (l.filter okS).length), f' (t * 2) = ((l.filter okS)[t]'h).1 ∧ f' (t * 2 + 1) = ((l.filter okS)[t]'h).2 := by
          intro t h
          have hq : t < ((l.take l.length).filter okS).length := by rw [List.take_length]; exact h
          have := hK2.low t hq
          simp only [List.take_length] at this
          exact this
        have a2 : ¬ ((l.length : Int) < (l.length : Int)) := by omega
        have a3 : (0 : Int) ≤ (i : Int) := by omega
        have a4 : (i : Int) ≤ (l.length : Int) := by omega
        have a5 : (l.length : Int) ≤ (cap : Int) := by omega
        have a6 : (i : Int) ≤ (cap : Int) := by omega
        have hcl := run_clear2 wr g (i * 2) (l.length - i) (cap - i) (by omega) (fun t ht => by rw [hR.out (i * 2 + t) (by omega)]; rfl) (fun t ht => hFR.out _)
        have HL := Lib.hid hlen
        have HLOW := Lib.hid hlow
        clear hK2 hlen hlow
        go_wp2_with fail
        go_ret
        refine ⟨by rw [HL.out]; rfl, f', ?_, ?_, HLOW.out, below_setCells hbase _ _ hbel⟩
        · rw [HL.out]
          intro t ht
          rw [World.cell?_setCells_out g _ _ _ _ (fun _ _ => Or.inl (show t < i * 2 by omega))]
          exact hR.out t (by omega)
        · intro o
          rw [World.frozen?_setCells]
          exact hFR.out o
end Go.Proofs.Ythdbbefiebolbaa
