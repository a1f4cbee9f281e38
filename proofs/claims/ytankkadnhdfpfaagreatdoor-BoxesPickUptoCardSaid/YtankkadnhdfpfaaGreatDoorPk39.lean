import Derived.Test.YtankkadnhdfpfaaGreatDoorPk37
import Derived.Test.YtankkadnhdfpfaaGreatDoorPk32
import Derived.Lib.AppendZeros
/- soffit/boxes.kinds, alike's function: walked. -/
set_option linter.unusedSimpArgs false
set_option linter.unusedVariables false
namespace Go.Proofs.YtankkadnhdfpfaaGreatDoor
open Go.RowKit Sp Wd

def iV (n : Int) : Value := .int .i64 n
def iVC (n : Int) : List Value := [.int .i64 n]
def kindsOf (l : List StArg) : List Int := l.map fun x => x.s.k
theorem lit1 (w : World) (cs : List Value) (t : TypeId) (j : Nat) (u : Value) (h : cs[j]? = some u) : (w.alloc (.cells cs.toArray t)).cell? ((⟨w.heap.size, 0, none⟩ : Addr).add j) = some u := by
  have K : BoxIs (w.alloc (.cells cs.toArray t)) w.heap.size cs.toArray := BoxIs.new rfl
  have h2 := K.c (0 + j)
  rw [show (0 + j) = j by omega, List.getElem?_toArray, h] at h2
  rw [Addr.add_lit, show 0 + j = j by omega]
  exact h2
theorem flat_iVC (l : List Int) : l.map iV = (l.map iVC).flatten := by
  induction l with
  | nil => rfl
  | cons x r ih => rw [List.map_cons, List.map_cons, List.flatten_cons, ← ih]; rfl
set_option maxRecDepth 100000 in
set_option maxHeartbeats 6400000 in
theorem kinds_any (l : List StArg) (A : Option Addr) (c : Nat) (w : World) (hB : BoxAt w A l) (h20 : l.length ≤ 1048576) :
    Calls Tryz.prog 110 #[.slice A l.length c] w fun e w' => ∃ (C : Option Addr) (cc : Nat), e = .returned (.slice C l.length cc) ∧ RdL w' 1 C ((kindsOf l).map iVC) ∧ Below w.heap.size w w' := by
  obtain ⟨i0, hinf, hza, hzb, hzc⟩ := info_parts (show (Tryz.prog.info? 3).map (fun i => (i.zero, i.size, i.bytes)) = some (some (.int .i64 0), 1, 8) by kernel_rfl)
  have HB := Lib.hid hB
  obtain ⟨n, hn⟩ : ∃ n, l.length = n := ⟨_, rfl⟩
  have HN := Lib.hid hn
  have hn20 : n ≤ 1048576 := by omega
  rw [hn]
  clear hB hn h20
  go_enter Tryz.func110, Tryz.ntmps110
  go_wp2_with fail
  go_loopg [3, 8] n (fun k ov iv wr => ∃ i : Nat, i ≤ n ∧ n - i ≤ k ∧ iv = .int .i64 i ∧ Hid (wr.ownsRow w.heap.size 3 1 ov i ((kindsOf (l.take i)).map iV)) ∧ Below w.heap.size w wr)
  case atStart => exact ⟨0, by omega, by omega, rfl, Lib.hid (by rw [List.take_zero]; exact World.ownsRow_nil _ _ _ _), Below.refl _ _⟩
  case round =>
    obtain ⟨i, hi, hik, rfl, HO, hbel⟩ := hrel
    by_cases hlt : i < n
    · have i1 : (i : Int) < (n : Int) := by omega
      have i3 : (0 : Int) ≤ (i : Int) := by omega
      have hil : i < l.length := by rw [HN.out]; omega
      have htk : (kindsOf (l.take (i + 1))).map iV = (kindsOf (l.take i)).map iV ++ [iV (l[i]'hil).s.k] := by unfold kindsOf; rw [List.take_succ_eq_append_getElem hil, List.map_append, List.map_append]; rfl
      obtain ⟨b, off, hAe, hx⟩ := (HB.out.rd.below hbel).at_ hil
      have hnn := HN.out
      generalize l[i]'hil = x at *
      subst hAe
      have HTK := Lib.hid htk
      have x0 : wr.cell? ⟨b, off + i * 6, none⟩ = some (.int .i64 x.s.k) := hx.get 0 rfl
      have x1 : wr.cell? ⟨b, off + i * 6 + 1, none⟩ = some (.slice x.A x.s.sp.length x.ca) := hx.get 1 rfl
      have x2 : wr.cell? ⟨b, off + i * 6 + 2, none⟩ = some (.bool x.s.al) := hx.get 2 rfl
      have x3 : wr.cell? ⟨b, off + i * 6 + 3, none⟩ = some (.slice x.B x.s.ws.length x.cb) := hx.get 3 rfl
      have x4 : wr.cell? ⟨b, off + i * 6 + 4, none⟩ = some (.int .i64 x.s.b) := hx.get 4 rfl
      have x5 : wr.cell? ⟨b, off + i * 6 + 5, none⟩ = some (.bool x.s.nul) := hx.get 5 rfl
      clear hx hil hnn htk
      go_upto_region 5 with fail
      generalize hXW1 : World.alloc wr _ = W1
      have hbW1 : Below wr.heap.size wr W1 := (by rw [← hXW1]; exact Below.alloc (Below.refl _ _) (Nat.le_refl _) _)
      have KS : BoxIs W1 wr.heap.size #[.int .i64 x.s.k, .slice x.A x.s.sp.length x.ca, .bool x.s.al, .slice x.B x.s.ws.length x.cb, .int .i64 x.s.b, .bool x.s.nul] := (by rw [← hXW1]; exact BoxIs.new (t := 36) rfl)
      obtain ⟨bS, hqS⟩ : ∃ bS, wr.heap.size = bS := ⟨_, rfl⟩
      rw [hqS] at KS
      rw [hqS]
      clear hXW1 hqS
      have hB1 : Below w.heap.size w W1 := hbel.trans (hbW1.mono hbel.size)
      have HO1 := Lib.hid (own_below HO.out hbW1)
      have cS := KS.c
      have lS := KS.lt
      clear hbW1 hbel HO x0 x1 x2 x3 x4 x5
      go_wp2_with (first
        | (at_builtin; refine wpList_append_own2 _ rfl _ _ 141 rfl w.heap.size 3 i0 (.int .i64 0) 1 8 Tryz.underlying141 hinf hza hzb hzc rfl (by decide) _ _ _ rfl (HO1.out.alloc _) ⟨W1.heap.size, 0, none⟩ 1 1 [iV x.s.k] rfl rfl (fun j u h => lit1 _ _ _ j u h) (fun u hu => by rw [List.mem_singleton.1 hu]; rfl) ?c3 ?c4 ?c5 ?_)
        | fail)
      case c3 => unfold maxLen; omega
      case c4 => omega
      case c5 => simp; have := hB1.size; omega
      intro v' w5 hown' hgrow hblk
      have hb5 : Below w.heap.size w w5 := (hB1.alloc hB1.size _).grown hgrow (by simp; have := hB1.size; omega) (fun g hg => (HO1.out.lt g hg).1)
      have HO5 : Hid (w5.ownsRow w.heap.size 3 1 v' (i + 1) ((kindsOf (l.take (i + 1))).map iV)) := Lib.hid (by rw [HTK.out]; exact hown')
      clear hown' hgrow hblk HO1 cS lS KS hB1
      go_wp2_with fail
      go_roundg (n - (i + 1))
      case measure => omega
      case rel => exact ⟨i + 1, by omega, Nat.le_refl _, by go_num, HO5, hb5⟩
    · have i1 : ¬ (i : Int) < (n : Int) := by omega
      have hin : i = n := by omega
      have hown := HO.out
      rw [List.take_of_length_le (by rw [HN.out]; omega), hin] at hown
      obtain ⟨C, cc, rfl, hC⟩ := Go.Proofs.YtankkadnhdfpfaaGreatDoor.own_rd (css := (kindsOf l).map iVC) hown (flat_iVC _) (by intro c hc; obtain ⟨x, _, rfl⟩ := List.mem_map.1 hc; rfl) (by rw [List.length_map]; unfold kindsOf; rw [List.length_map, HN.out])
      have HC := Lib.hid hC
      clear hin hown HO hC
      go_wp2_with fail
      go_ret
      exact ⟨C, ⟨cc, rfl⟩, HC.out, hbel⟩
theorem rd_int {w : World} {C : Option Addr} {l : List Int} (h : RdL w 1 C (l.map iVC)) (b o : Nat) (hC : C = some ⟨b, o, none⟩) : ∀ j, j < l.length → w.cell? ⟨b, o + j, none⟩ = some (.int .i64 (l.getD j 0)) := by
  intro j hj
  subst hC
  obtain ⟨b', o', e, hx⟩ := h j (iVC (l[j]'hj)) (by rw [List.getElem?_map, List.getElem?_eq_getElem hj]; rfl)
  cases e
  have := hx 0 (.int .i64 (l[j]'hj)) rfl
  rw [show o + j * 1 + 0 = o + j by omega] at this
  rw [this, List.getD_eq_getElem?_getD, List.getElem?_eq_getElem hj]; rfl
theorem rd_some {w : World} {C : Option Addr} {l : List Int} (h : RdL w 1 C (l.map iVC)) (hl : l ≠ []) : ∃ b o, C = some ⟨b, o, none⟩ := by
  obtain ⟨b, off, e, -⟩ := h.at_ (List.length_pos_iff.2 hl)
  exact ⟨b, off, e⟩
theorem eqInts_any (k m : List Int) (C D : Option Addr) (cc cd : Nat) (w : World) (hk : RdL w 1 C (k.map iVC)) (hm : RdL w 1 D (m.map iVC)) (n1 : k.length ≤ 9223372036854775807) (n2 : m.length ≤ 9223372036854775807) :
    Calls Tryz.prog 109 #[.slice C k.length cc, .slice D m.length cd] w fun e w' => e = .returned (.bool (k == m)) ∧ Below w.heap.size w w' := by
  by_cases hlen : k.length = m.length
  · by_cases h0 : k = []
    · have hm0 : m = [] := List.eq_nil_of_length_eq_zero (by rw [← hlen, h0]; rfl)
      subst h0 hm0
      refine (Tryz.slices_Equal_int_empty C D cc 0 cd w (by omega)).mono ?_
      rintro e w' ⟨rfl, rfl⟩
      exact ⟨rfl, Below.refl _ _⟩
    · obtain ⟨b1, o1, rfl⟩ := rd_some hk h0
      obtain ⟨b2, o2, rfl⟩ := rd_some hm (by intro e; rw [e] at hlen; exact h0 (List.eq_nil_of_length_eq_zero hlen))
      refine (Tryz.slices_Equal_int b1 o1 k.length cc b2 o2 m.length cd k m w (Nat.le_refl _) (Nat.le_refl _) n1 n2 (rd_int hk b1 o1 rfl) (rd_int hm b2 o2 rfl)).mono ?_
      rintro e w' ⟨rfl, q, rfl⟩
      rw [List.take_length, List.take_length]
      exact ⟨rfl, below_drewN (Below.refl _ _) _⟩
  · refine (Tryz.slices_Equal_int_lens C D k.length cc m.length cd w hlen).mono ?_
    rintro e w' ⟨rfl, rfl⟩
    refine ⟨?_, Below.refl _ _⟩
    rw [show (k == m) = false by rw [beq_eq_false_iff_ne]; intro e; rw [e] at hlen; exact hlen rfl]
def notLike (k : List Int) (x : BxArg) : Bool := !(kindsOf x.l == k) || x.l.any badK
set_option maxRecDepth 100000 in
set_option maxHeartbeats 6400000 in
theorem alike1_any (x : BxArg) (bs : List BxArg) (y : BxArg) (q b0 o0 cm : Nat) (w : World) (hX : BoxAt w x.A x.l) (hY : BoxAt w y.A y.l) (hx20 : x.l.length ≤ 1048576) (hy20 : y.l.length ≤ 1048576) (hne : 0 < bs.length)
    (hq : w.cell? ⟨q, 0, none⟩ = some (.slice (some ⟨b0, o0, none⟩) bs.length cm)) (hy : w.cell? ⟨b0, o0, none⟩ = some (.slice y.A y.l.length y.c)) :
    Calls Tryz.prog 108 #[.slice x.A x.l.length x.c, .pointer (some ⟨q, 0, none⟩)] w fun e w' => e = .returned (.bool (notLike (kindsOf y.l) x)) ∧ Below w.heap.size w w' := by
  obtain ⟨R, hR⟩ : ∃ R, notLike (kindsOf y.l) x = R := ⟨_, rfl⟩
  rw [hR]
  unfold notLike at hR
  have HK1 := Lib.hid (fun (W : World) (hW : Below w.heap.size w W) => kinds_any x.l x.A x.c W (hX.below hW) hx20)
  have HK2 := Lib.hid (fun (W : World) (hW : Below w.heap.size w W) => kinds_any y.l y.A y.c W (hY.below hW) hy20)
  have HCF := Lib.hid (fun (W : World) (hW : Below w.heap.size w W) => bsContains 112 badK x.l x.A x.c W (hX.rd.below hW) hX.n (fun z _ W' _ => alike2_any z W') (enters_of Tryz.func112 (by kernel_rfl) rfl))
  obtain ⟨n, hn⟩ : ∃ n, x.l.length = n := ⟨_, rfl⟩
  obtain ⟨p, hp⟩ : ∃ p, y.l.length = p := ⟨_, rfl⟩
  obtain ⟨m, hm⟩ : ∃ m, bs.length = m := ⟨_, rfl⟩
  obtain ⟨E, hE⟩ : ∃ E, (kindsOf x.l == kindsOf y.l) = E := ⟨_, rfl⟩
  obtain ⟨F, hF⟩ : ∃ F, x.l.any badK = F := ⟨_, rfl⟩
  have HX2 : Hid ((kindsOf x.l).length = n) := Lib.hid (by unfold kindsOf; rw [List.length_map, hn])
  have HP2 : Hid ((kindsOf y.l).length = p) := Lib.hid (by unfold kindsOf; rw [List.length_map, hp])
  have HEQ := Lib.hid hE
  rw [hE, hF] at hR
  rw [hF] at HCF
  rw [hn] at HK1 HCF hx20 ⊢
  rw [hp] at HK2 hy20 hy
  rw [hm] at hq hne
  have HR : Hid (R = (!E || F)) := Lib.hid hR.symm
  have i1 : (0 : Int) < (m : Int) := by omega
  have lq := cell_lt hq
  have l0 := cell_lt hy
  have HKK : ∀ w', Below w.heap.size w w' → Below w.heap.size w w' ∧ w'.cell? ⟨q, 0, none⟩ = some (.slice (some ⟨b0, o0, none⟩) m cm) ∧ w'.cell? ⟨b0, o0, none⟩ = some (.slice y.A p y.c) := fun w' hb => ⟨hb, cell_below hb hq, cell_below hb hy⟩
  clear hn hp hm hE hF hR hX hY
  go_enter Tryz.func108, Tryz.ntmps108
  go_wp2_with fail
  cases E
  · have HR : Hid (R = true) := HR
    refine wp_region_held_drew (S := (fun w' => Below w.heap.size w w' ∧ w'.cell? ⟨q, 0, none⟩ = some (.slice (some ⟨b0, o0, none⟩) m cm) ∧ w'.cell? ⟨b0, o0, none⟩ = some (.slice y.A p y.c))) (by kernel_rfl) (HKK _ (Below.drew (Below.refl _ _))) (fun hHeld => ?_)
    refine tkH 0 ?_
    try simp only [shH]
    refine tkH 2 ?_
    try simp only [shH]
    refine tkH 3 ?_
    try simp only [shH]
    refine tkH 4 ?_
    try simp only [shH]
    refine rdH [1] ?_
    refine AllReadyH.cons rfl (fun K hK => ?_) AllReadyH.nil
    go_simp
    go_at_call 110
    refine (HK1.out _ (Below.drew (Below.refl _ _))).mono ?_
    rintro e w1 ⟨C1, e1, rfl, hC1, hb1⟩
    have hB1 : Below w.heap.size w w1 := (by first | exact hb1 | exact undrew hb1)
    refine hK.out _ _ ?_ (fun hH2 => ?_)
    · exact HKK _ hB1
    clear hK K hHeld
    have hHeld := hH2
    clear hH2
    try simp only [shH]
    refine rdH [5] ?_
    refine AllReadyH.cons rfl (fun K hK => ?_) AllReadyH.nil
    go_simp
    go_at_call 110
    refine (HK2.out _ hB1).mono ?_
    rintro e w2 ⟨C2, e2, rfl, hC2, hb2⟩
    have hB2 : Below w.heap.size w w2 := hB1.trans (hb2.mono hB1.size)
    refine hK.out _ _ ?_ (fun hH2 => ?_)
    · exact HKK _ hB2
    clear hK K hHeld
    have hHeld := hH2
    clear hH2
    try simp only [shH]
    refine rdH [6] ?_
    refine AllReadyH.cons rfl (fun K hK => ?_) AllReadyH.nil
    go_simp
    go_at_call 109
    have hEQ := eqInts_any (kindsOf x.l) (kindsOf y.l) C1 C2 e1 e2 _ (hC1.below hb2) hC2 (by rw [HX2.out]; omega) (by rw [HP2.out]; omega)
    rw [HX2.out, HP2.out, HEQ.out] at hEQ
    refine hEQ.mono ?_
    rintro e w3 ⟨rfl, hb3⟩
    have hB3 : Below w.heap.size w w3 := hB2.trans (hb3.mono hB2.size)
    clear hEQ
    refine hK.out _ _ ?_ (fun hH2 => ?_)
    · exact HKK _ hB3
    clear hK K hHeld
    have hHeld := hH2
    clear hH2
    try simp only [shH]
    refine tkH 7 ?_
    try simp only [shH]
    refine tkH 8 ?_
    try simp only [shH]
    refine tnH 9 ?_
    try simp only [shH]
    refine tnH 10 ?_
    try simp only [shH]
    refine tkH 11 ?_
    try simp only [shH]
    refine tkH 12 ?_
    try simp only [shH]
    refine dnH ?_ _
    clear hHeld
    (try simp only [Exit.then, Exit.inBlock])
    go_wp2_with fail
    go_ret
    exact ⟨ret_bool HR.out.symm, hB3⟩
  · have HR : Hid (R = F) := HR
    refine wp_region_held_drew (S := (fun w' => Below w.heap.size w w' ∧ w'.cell? ⟨q, 0, none⟩ = some (.slice (some ⟨b0, o0, none⟩) m cm) ∧ w'.cell? ⟨b0, o0, none⟩ = some (.slice y.A p y.c))) (by kernel_rfl) (HKK _ (Below.drew (Below.refl _ _))) (fun hHeld => ?_)
    refine tkH 0 ?_
    try simp only [shH]
    refine tkH 2 ?_
    try simp only [shH]
    refine tkH 3 ?_
    try simp only [shH]
    refine tkH 4 ?_
    try simp only [shH]
    refine rdH [1] ?_
    refine AllReadyH.cons rfl (fun K hK => ?_) AllReadyH.nil
    go_simp
    go_at_call 110
    refine (HK1.out _ (Below.drew (Below.refl _ _))).mono ?_
    rintro e w1 ⟨C1, e1, rfl, hC1, hb1⟩
    have hB1 : Below w.heap.size w w1 := (by first | exact hb1 | exact undrew hb1)
    refine hK.out _ _ ?_ (fun hH2 => ?_)
    · exact HKK _ hB1
    clear hK K hHeld
    have hHeld := hH2
    clear hH2
    try simp only [shH]
    refine rdH [5] ?_
    refine AllReadyH.cons rfl (fun K hK => ?_) AllReadyH.nil
    go_simp
    go_at_call 110
    refine (HK2.out _ hB1).mono ?_
    rintro e w2 ⟨C2, e2, rfl, hC2, hb2⟩
    have hB2 : Below w.heap.size w w2 := hB1.trans (hb2.mono hB1.size)
    refine hK.out _ _ ?_ (fun hH2 => ?_)
    · exact HKK _ hB2
    clear hK K hHeld
    have hHeld := hH2
    clear hH2
    try simp only [shH]
    refine rdH [6] ?_
    refine AllReadyH.cons rfl (fun K hK => ?_) AllReadyH.nil
    go_simp
    go_at_call 109
    have hEQ := eqInts_any (kindsOf x.l) (kindsOf y.l) C1 C2 e1 e2 _ (hC1.below hb2) hC2 (by rw [HX2.out]; omega) (by rw [HP2.out]; omega)
    rw [HX2.out, HP2.out, HEQ.out] at hEQ
    refine hEQ.mono ?_
    rintro e w3 ⟨rfl, hb3⟩
    have hB3 : Below w.heap.size w w3 := hB2.trans (hb3.mono hB2.size)
    clear hEQ
    refine hK.out _ _ ?_ (fun hH2 => ?_)
    · exact HKK _ hB3
    clear hK K hHeld
    have hHeld := hH2
    clear hH2
    try simp only [shH]
    refine tkH 7 ?_
    try simp only [shH]
    refine tkH 8 ?_
    try simp only [shH]
    refine tkH 9 ?_
    try simp only [shH]
    refine rdH [10] ?_
    refine AllReadyH.cons rfl (fun K hK => ?_) AllReadyH.nil
    go_simp
    go_at_call 111
    refine (HCF.out _ hB3).mono ?_
    rintro e w4 ⟨rfl, hb4⟩
    have hB4 : Below w.heap.size w w4 := hB3.trans (hb4.mono hB3.size)
    refine hK.out _ _ ?_ (fun hH2 => ?_)
    · exact HKK _ hB4
    clear hK K hHeld
    have hHeld := hH2
    clear hH2
    try simp only [shH]
    refine tkH 11 ?_
    try simp only [shH]
    refine tkH 12 ?_
    try simp only [shH]
    refine dnH ?_ _
    clear hHeld
    (try simp only [Exit.then, Exit.inBlock])
    go_wp2_with fail
    go_ret
    exact ⟨ret_bool HR.out.symm, hB4⟩
end Go.Proofs.YtankkadnhdfpfaaGreatDoor

/- slices.Grow from nil, Concat of two lists of boxes. -/
set_option linter.unusedSimpArgs false
set_option linter.unusedVariables false
namespace Go.Proofs.YtankkadnhdfpfaaGreatDoor
open Go.RowKit Go.Sort Go.Lib Sp Wd

theorem infoBl : ∃ i0, Tryz.prog.info? 48 = some i0 ∧ i0.zero = some (.slice none 0 0) ∧ i0.size = 1 ∧ i0.bytes = 24 := by
  obtain ⟨i0, h1, h2, h3, h4⟩ := info_parts (show (Tryz.prog.info? 48).map (fun i => (i.zero, i.size, i.bytes)) = some (some (.slice none 0 0), 1, 24) by kernel_rfl)
  exact ⟨i0, h1, h2, h3, h4⟩
theorem bxC_len : ∀ (l : List BxArg), ∀ c ∈ l.map BxArg.cells, c.length = 1 := by intro l c hc; obtain ⟨x, _, rfl⟩ := List.mem_map.1 hc; rfl
theorem news_ofL {w : World} {b off : Nat} {l : List BxArg} (hr : RdL w 1 (some ⟨b, off, none⟩) (l.map BxArg.cells)) (j : Nat) (v : Value) (h : (l.flatMap BxArg.cells)[j]? = some v) : w.cell? ((⟨b, off, none⟩ : Addr).add j) = some v :=
  rd_flat hr (bxC_len l) (by decide) j v (by rw [← List.flatMap_def]; exact h)
theorem flat_oneL (l : List BxArg) : ∀ u ∈ l.flatMap BxArg.cells, u.oneCell' = true := by
  intro u hu
  obtain ⟨x, _, hx⟩ := List.mem_flatMap.1 hu
  simp [BxArg.cells] at hx
  rw [hx]; rfl
theorem flat_lenL : ∀ l : List BxArg, (l.flatMap BxArg.cells).length = l.length * 1
  | [] => rfl
  | x :: r => by rw [List.flatMap_cons, List.length_append, flat_lenL r, List.length_cons]; show 1 + _ = _; omega
def RoomL (w : World) (base : Nat) (v : Value) (l : List BxArg) (n : Nat) : Prop :=
  (n = 0 ∧ l = [] ∧ v = .slice none 0 0) ∨ ∃ g cap, v = .slice (some ⟨g, 0, none⟩) l.length cap ∧ n ≤ cap ∧ w.ownsRow base 48 1 v l.length (l.flatMap BxArg.cells)

set_option maxRecDepth 100000 in
set_option maxHeartbeats 800000 in
theorem growL0 (w : World) : Calls Tryz.prog 113 #[.slice none 0 0, .int .i64 0] w fun e w' => e = .returned (.slice none 0 0) ∧ w = w' := by
  go_enter Tryz.func113, Tryz.ntmps113
  go_wp2_with fail
  go_ret
  exact ⟨rfl, rfl⟩
set_option maxRecDepth 100000 in
set_option maxHeartbeats 800000 in
theorem growL1 (n : Nat) (w : World) (h0 : 0 < n) (hn : n * 24 ≤ 281474976710656) :
    Calls Tryz.prog 113 #[.slice none 0 0, .int .i64 n] w fun e w' => ∃ cap, e = .returned (.slice (some ⟨w.heap.size, 0, none⟩) 0 cap) ∧ n ≤ cap ∧ w'.ownsRow w.heap.size 48 1 (.slice (some ⟨w.heap.size, 0, none⟩) 0 cap) 0 [] ∧ Below w.heap.size w w' := by
  obtain ⟨i0, hinf, hz, hsz, hby⟩ := infoBl
  have HB : Hid (n * i0.bytes ≤ 281474976710656) := Lib.hid (by rw [hby]; exact hn)
  have HSZ : Hid (0 < i0.size) := Lib.hid (by omega)
  have hw : IntKind.i64.wrap (n : Int) = n := IntWalk.i64_in _ (by omega)
  have e1 : ¬ (n : Int) < 0 := by omega
  have e2 : (0 : Int) < (n : Int) := by omega
  have HM : Hid ((n : Int) ≤ 9223372036854775807) := Lib.hid (by omega)
  clear hn
  go_enter Tryz.func113, Tryz.ntmps113
  go_wp2_with (at_builtin; refine Lib.wpList_append_run _ rfl _ _ _ _ rfl _ _ rfl rfl _ _ (run_append_nil_zeros _ 49 3 _ 48 i0 (.slice none 0 0) .i64 .i64 Tryz.underlying49 Tryz.underlying3 hinf hz n h0 HSZ.out HM.out HB.out) ?_)
  have hge := grownCap_ge w n 0 48
  have hle := grownCap_le_maxLen w n 0 48 (by have := HM.out; unfold maxLen; omega)
  generalize grownCap w n 0 48 = cap at *
  obtain ⟨Z, hZ⟩ : ∃ Z, Builtin.zeroCells #[Value.slice none 0 0] n ++ Builtin.zeroCells #[Value.slice none 0 0] (cap - n) = Z := ⟨_, rfl⟩
  rw [hZ]
  have hZs : Z.size = cap * 1 := by rw [← hZ]; simp [size_zeroCells]; omega
  have hb2 : (w.alloc (.cells Z 48)).drew.heap[w.heap.size]? = some (.cells Z 48) := heap_alloc_new w _
  have hbw : Below w.heap.size w (w.alloc (.cells Z 48)).drew := bel
  have hown : (w.alloc (.cells Z 48)).drew.ownsRow w.heap.size 48 1 (.slice (some ⟨w.heap.size, 0, none⟩) 0 cap) 0 [] :=
    ⟨rfl, .inr ⟨w.heap.size, cap, Z, rfl, Nat.le_refl _, hb2, Nat.zero_le _, hle, by omega, rfl⟩⟩
  generalize (w.alloc (.cells Z 48)).drew = w9 at *
  refine bodyPost_ret (v := .slice (some ⟨w.heap.size, 0, none⟩) 0 cap) (by simp [results, Tryz.results113, go_sem]) rfl ⟨cap, rfl, hge, hown, hbw⟩

set_option maxRecDepth 100000 in
theorem appendL (base : Nat) (v : Value) (acc l : List BxArg) (A : Option Addr) (c n : Nat) (ty : TypeId) (w : World) (hb : base ≤ w.heap.size) (hv : RoomL w base v acc n) (hr : RdL w 1 A (l.map BxArg.cells)) (hn : acc.length + l.length ≤ n) :
    ∃ v' w', (Builtin.append_ #[49, 49] ty #[v, .slice A l.length c]).run Tryz.prog w = .ok v' w' ∧ RoomL w' base v' (acc ++ l) n ∧ Below base w w' := by
  obtain ⟨i0, hinf, hz, hsz, hby⟩ := infoBl
  have ht := Tryz.underlying49
  by_cases hl : l = []
  · subst hl
    rcases hv with ⟨rfl, rfl, rfl⟩ | ⟨g, cap, rfl, h1, h2⟩
    · refine ⟨.slice none 0 0, w, ?_, .inl ⟨rfl, rfl, rfl⟩, Below.refl _ _⟩
      cases A <;> simp [Builtin.append_, run_underlying ht, sizeOf, typeInfo, hinf, Builtin.lenOf, Builtin.firstCells, loadCells, loadCellsFrom]
    · cases A with
      | none => exact ⟨_, w, run_append_owned_none (P := Tryz.prog) w base _ ty _ i0 1 ht hinf _ _ _ h2, .inr ⟨g, cap, by rw [List.append_nil], h1, by rw [List.append_nil]; exact h2⟩, Below.refl _ _⟩
      | some a =>
        obtain ⟨w', hrun, ho, hg⟩ := run_append_fits (P := Tryz.prog) w base 49 ty 48 i0 1 ht hinf hsz g acc.length cap (acc.flatMap BxArg.cells) h2 a 0 c [] (by simp) (by simp) (by simp) (by
          rcases h2.2 with ⟨h, _⟩ | ⟨g', cap', cur, h, _, _, hnc, _⟩
          · cases h
          · injection h with _ _ h3; omega)
        refine ⟨_, w', hrun, .inr ⟨g, cap, by simp, h1, by simpa using ho⟩, (Below.refl _ w).grown hg hb (fun k hk => by cases hk; exact (h2.lt _ rfl).1)⟩
  · have hl0 := List.length_pos_iff.2 hl
    obtain ⟨b, off, rfl, _⟩ := hr.at_ hl0
    rcases hv with ⟨rfl, rfl, rfl⟩ | ⟨g, cap, rfl, h1, h2⟩
    · exact absurd (show l = [] by simpa using hn) hl
    · obtain ⟨w', hrun, ho, hg⟩ := run_append_fits (P := Tryz.prog) w base 49 ty 48 i0 1 ht hinf hsz g acc.length cap (acc.flatMap BxArg.cells) h2 ⟨b, off, none⟩ l.length c (l.flatMap BxArg.cells) (flat_lenL l) (news_ofL hr) (flat_oneL l) (by omega)
      refine ⟨_, w', hrun, .inr ⟨g, cap, by rw [List.length_append], h1, ?_⟩, ?_⟩
      · rw [List.length_append, List.flatMap_append]; exact ho
      · exact (Below.refl _ w).grown hg hb (fun k hk => by cases hk; exact (h2.lt _ rfl).1)

theorem growL (n : Nat) (w : World) (hn : n * 24 ≤ 281474976710656) :
    Calls Tryz.prog 113 #[.slice none 0 0, .int .i64 n] w fun e w' => ∃ v, e = .returned v ∧ RoomL w' w.heap.size v [] n ∧ Below w.heap.size w w' := by
  by_cases h0 : n = 0
  · subst h0
    refine (growL0 w).mono ?_
    rintro e w' ⟨rfl, rfl⟩
    exact ⟨_, rfl, .inl ⟨rfl, rfl, rfl⟩, Below.refl _ _⟩
  · refine (growL1 n w (by omega) hn).mono ?_
    rintro e w' ⟨cap, rfl, h1, h2, h3⟩
    exact ⟨_, rfl, .inr ⟨w.heap.size, cap, rfl, h1, h2⟩, h3⟩
def twoL (la lb : List BxArg) : Nat → List BxArg
  | 0 => []
  | 1 => la
  | _ => la ++ lb
set_option maxRecDepth 100000 in
set_option maxHeartbeats 1600000 in
theorem concatL (B : Nat) (A D : Option Addr) (la lb : List BxArg) (ca cb : Nat) (w : World) (p0 : w.cell? ⟨B, 0, none⟩ = some (.slice A la.length ca)) (p1 : w.cell? ⟨B, 1, none⟩ = some (.slice D lb.length cb)) (hA : RdL w 1 A (la.map BxArg.cells)) (hB : RdL w 1 D (lb.map BxArg.cells)) (hn : (la.length + lb.length) * 24 ≤ 281474976710656) :
    Calls Tryz.prog 72 #[.slice (some ⟨B, 0, none⟩) 2 2] w fun e w' => ∃ A' c', e = .returned (.slice A' (la ++ lb).length c') ∧ RdL w' 1 A' ((la ++ lb).map BxArg.cells) ∧ (∀ p, A' = some p → w.heap.size ≤ p.block) ∧ Below w.heap.size w w' := by
  have HA := Lib.hid hA
  have HB := Lib.hid hB
  clear hA hB
  have hw1 : IntKind.i64.wrap (la.length : Int) = la.length := IntWalk.i64_in _ (by omega)
  have hw2 : IntKind.i64.wrap ((la.length : Int) + (lb.length : Int)) = (la.length : Int) + (lb.length : Int) := IntWalk.i64_in _ (by omega)
  have hn1 : ¬ ((la.length : Int) < 0) := by omega
  have hn2 : ¬ ((la.length : Int) + (lb.length : Int) < 0) := by omega
  go_enter Tryz.func72, Tryz.ntmps72
  go_wp2_with fail
  go_loopg [3, 11] 2 (fun k sv iv wr => ∃ j : Nat, j ≤ 2 ∧ 2 - j ≤ k ∧ iv = .int .i64 j ∧ sv = .int .i64 ((twoL la lb j).length : Nat) ∧ w = wr)
  case atStart => exact ⟨0, by omega, by omega, rfl, rfl, rfl⟩
  case round =>
    obtain ⟨j, hj, hjk, rfl, rfl, rfl⟩ := hrel
    match j, hj with
    | 0, _ =>
      simp only [twoL, List.length_nil, Int.natCast_zero] at *
      go_wp2_with fail
      go_roundg 1
      case measure => omega
      case rel => exact ⟨1, by omega, by omega, by go_num, rfl, rfl⟩
    | 1, _ =>
      simp only [twoL, Int.natCast_one] at *
      go_wp2_with fail
      go_roundg 0
      case measure => omega
      case rel => exact ⟨2, by omega, by omega, by go_num, by simp [twoL], rfl⟩
    | 2, _ =>
      obtain ⟨N, hN⟩ : ∃ N, (twoL la lb 2).length = N := ⟨_, rfl⟩
      have hN2 : la.length + lb.length = N := by rw [← hN]; simp [twoL]
      rw [hN]
      clear hw1 hw2 hn1 hn2 hN
      go_wp2_with fail
      refine (growL N w (by omega)).mono ?_
      rintro e w1 ⟨v0, rfl, hv0, hb1⟩
      have hz1 := hb1.size
      have HV := Lib.hid hv0
      clear hv0
      go_wp2_with fail
      go_loopg [6, 27] 2 (fun k v iv wr => ∃ j : Nat, j ≤ 2 ∧ 2 - j ≤ k ∧ iv = .int .i64 j ∧ Hid (RoomL wr w.heap.size v (twoL la lb j) N) ∧ Below w.heap.size w wr)
      case atStart => exact ⟨0, by omega, by omega, rfl, HV, hb1⟩
      case round =>
        clear HV hb1 hz1 hj hjk
        obtain ⟨j, hj, hjk, rfl, HV, hbel⟩ := hrel
        have hz := hbel.size
        have q0 := cell_below hbel p0
        have q1 := cell_below hbel p1
        match j, hj with
        | 0, _ =>
          obtain ⟨v', w', hrun, hrm, hbl⟩ := appendL w.heap.size _ _ la A ca N 49 wr hz HV.out (HA.out.below hbel) (by simp [twoL]; omega)
          have HRM : Hid (RoomL w' w.heap.size v' (twoL la lb 1) N) := Lib.hid (by simpa [twoL] using hrm)
          have HRUN := Lib.hid hrun
          have hb' : Below w.heap.size w w' := hbel.trans hbl
          clear hrm hrun hbl HV
          go_wp2_with (first
            | (at_builtin; refine Lib.wpList_append_run _ rfl _ _ _ _ rfl _ _ rfl rfl _ _ HRUN.out ?_)
            | fail)
          go_roundg 1
          case measure => omega
          case rel => exact ⟨1, by omega, by omega, by go_num, HRM, hb'⟩
        | 1, _ =>
          obtain ⟨v', w', hrun, hrm, hbl⟩ := appendL w.heap.size _ _ lb D cb N 49 wr hz HV.out (HB.out.below hbel) (by simp [twoL]; omega)
          have HRM : Hid (RoomL w' w.heap.size v' (twoL la lb 2) N) := Lib.hid (by simpa [twoL] using hrm)
          have HRUN := Lib.hid hrun
          have hb' : Below w.heap.size w w' := hbel.trans hbl
          clear hrm hrun hbl HV
          go_wp2_with (first
            | (at_builtin; refine Lib.wpList_append_run _ rfl _ _ _ _ rfl _ _ rfl rfl _ _ HRUN.out ?_)
            | fail)
          go_roundg 0
          case measure => omega
          case rel => exact ⟨2, by omega, by omega, by go_num, HRM, hb'⟩
        | 2, _ =>
          rcases HV.out with ⟨h1, h2, rfl⟩ | ⟨g, cap, rfl, h1, h2⟩
          · have hl : la ++ lb = [] := h2
            go_wp2_with fail
            refine bodyPost_ret (v := .slice none 0 0) (by simp [results, Tryz.results72, go_sem]) rfl ⟨none, 0, by rw [hl]; rfl, by rw [hl]; exact RdL.nil_ _ _ _, fun p hp => (by cases hp), hbel⟩
          · obtain ⟨A', c', e, hrd⟩ := Go.Proofs.YtankkadnhdfpfaaGreatDoor.own_rd (css := (twoL la lb 2).map BxArg.cells) h2 (by rw [List.flatMap_def]) (bxC_len _) (by simp)
            have hl : twoL la lb 2 = la ++ lb := rfl
            rw [hl] at e hrd ⊢
            have hfresh : ∀ p, A' = some p → w.heap.size ≤ p.block := fun p hp => by
              have h3 := (h2.lt g rfl).1
              injection e with e1
              rw [← e1] at hp
              cases hp
              exact h3
            have HFR := Lib.hid hfresh
            rw [e]
            have HRD := Lib.hid hrd
            clear hrd h2 HV e hl h1 hfresh
            go_wp2_with fail
            refine bodyPost_ret (v := .slice A' (la ++ lb).length c') (by simp [results, Tryz.results72, go_sem]) rfl ⟨A', c', rfl, HRD.out, HFR.out, hbel⟩
end Go.Proofs.YtankkadnhdfpfaaGreatDoor

/- soffit/boxes.alike: walked. -/
set_option linter.unusedSimpArgs false
set_option linter.unusedVariables false
namespace Go.Proofs.YtankkadnhdfpfaaGreatDoor
open Go.RowKit Sp Wd

def alikeB (l : List BxArg) : Bool := match l with
  | [] => true
  | y :: _ => !(l.any (notLike (kindsOf y.l)))
set_option maxRecDepth 100000 in
set_option maxHeartbeats 6400000 in
theorem alike_any (xa xb : List BxArg) (B : Nat) (A D : Option Addr) (ca cb : Nat) (w : World) (p0 : w.cell? ⟨B, 0, none⟩ = some (.slice A xa.length ca)) (p1 : w.cell? ⟨B, 1, none⟩ = some (.slice D xb.length cb)) (hA : BoxesAt w A xa) (hB : BoxesAt w D xb)
    (ho : ∀ x ∈ xa ++ xb, x.l.length ≤ 1048576) (hn : xa.length + xb.length ≤ 2097152) :
    Calls Tryz.prog 71 #[.slice (some ⟨B, 0, none⟩) 2 2] w fun e w' => e = .returned (.bool (alikeB (xa ++ xb))) ∧ Below w.heap.size w w' := by
  obtain ⟨R, hR⟩ : ∃ R, alikeB (xa ++ xb) = R := ⟨_, rfl⟩
  rw [hR]
  have HR := Lib.hid hR
  have hcc := concatL B A D xa xb ca cb w p0 p1 hA.rd hB.rd (by omega)
  have HBX := Lib.hid (fun (x : BxArg) (hx : x ∈ xa ++ xb) => (List.mem_append.1 hx).elim (hA.bx x) (hB.bx x))
  have HO := Lib.hid ho
  have hlen : (xa ++ xb).length ≤ 2097152 := by rw [List.length_append]; exact hn
  generalize xa ++ xb = l at *
  clear hR p0 p1 hA hB ho hn
  go_enter Tryz.func71, Tryz.ntmps71
  go_wp2_with fail
  refine hcc.mono ?_
  rintro e w1 ⟨A', c', rfl, hr, -, hb1⟩
  clear hcc
  go_wp2_with fail
  generalize hX : World.alloc w1 _ = W1
  have hbW : Below w1.heap.size w1 W1 := (by rw [← hX]; exact Below.alloc (Below.refl _ _) (Nat.le_refl _) _)
  have KQ : BoxIs W1 w1.heap.size #[.slice A' l.length c'] := (by rw [← hX]; exact BoxIs.new (t := 49) rfl)
  obtain ⟨q, hq⟩ : ∃ q, w1.heap.size = q := ⟨_, rfl⟩
  rw [hq] at KQ
  rw [hq]
  have hr1 := hr.below hbW
  have hB1 : Below w.heap.size w W1 := hb1.trans (hbW.mono hb1.size)
  clear hX hq hr hb1 hbW
  have HC : Hid (Calls Tryz.prog 60 #[.slice A' l.length c', .func (.func 108) #[] #[.pointer (some ⟨q, 0, none⟩)]] W1 fun e w' => e = .returned (.bool (!R)) ∧ Below W1.heap.size W1 w') := Lib.hid (by
    cases hl : l with
    | nil =>
      subst hl
      have h := blContains 108 ⟨q, 0, none⟩ (fun _ => false) [] A' c' W1 hr1 (by simp) (fun x hx => by simp at hx) (enters_of Tryz.func108 (by kernel_rfl) rfl)
      rw [← HR.out]
      exact h
    | cons y r =>
      subst hl
      obtain ⟨b0, o0, hAe, hx⟩ := hr1.at_ (show 0 < (y :: r).length by simp)
      subst hAe
      have hy0 : W1.cell? ⟨b0, o0, none⟩ = some (.slice y.A y.l.length y.c) := by have := hx.get 0 (v := .slice y.A y.l.length y.c) rfl; simpa using this
      have hq0 : W1.cell? ⟨q, 0, none⟩ = some (.slice (some ⟨b0, o0, none⟩) (y :: r).length c') := KQ.c 0
      have h := blContains 108 ⟨q, 0, none⟩ (notLike (kindsOf y.l)) (y :: r) _ c' W1 hr1 (by omega) (fun x hx W hW => by
        exact alike1_any x (y :: r) y q b0 o0 c' W ((HBX.out x hx).below (hB1.trans (hW.mono hB1.size))) ((HBX.out y (by simp)).below (hB1.trans (hW.mono hB1.size))) (HO.out x hx) (HO.out y (by simp)) (by simp) (cell_below hW hq0) (cell_below hW hy0)) (enters_of Tryz.func108 (by kernel_rfl) rfl)
      have hRR : (!R) = (y :: r).any (notLike (kindsOf y.l)) := by rw [← HR.out]; unfold alikeB; simp
      rw [hRR]
      exact h)
  have cQ := KQ.c
  have lQ := KQ.lt
  go_wp2_with fail
  refine HC.out.mono ?_
  rintro e w2 ⟨rfl, hb2⟩
  go_wp2_with fail
  go_ret
  exact ⟨ret_bool (by simp), hB1.trans (hb2.mono hB1.size)⟩
end Go.Proofs.YtankkadnhdfpfaaGreatDoor

/- slices.Equal at spans and at texts; soffit/sets.Same: walked. -/
set_option linter.unusedSimpArgs false
set_option linter.unusedVariables false
namespace Go.Proofs.YtankkadnhdfpfaaGreatDoor
open Go.RowKit Sp Wd

theorem neS_run (a b : Sp) (w : World) : (binOp .neq 86 (.agg #[.int .i64 a.1, .int .i64 a.2]) (.agg #[.int .i64 b.1, .int .i64 b.2])).run Tryz.prog w = .ok (.bool (!decide (a = b))) w := by
  obtain ⟨x, y⟩ := a
  obtain ⟨x', y'⟩ := b
  go_simp
  by_cases h1 : x = x' <;> by_cases h2 : y = y' <;> simp [h1, h2]
theorem drop_eq {α : Type} [DecidableEq α] {a b : List α} {k : Nat} (h1 : k < a.length) (h2 : k < b.length) : decide (a.drop k = b.drop k) = (decide (a[k]'h1 = b[k]'h2) && decide (a.drop (k + 1) = b.drop (k + 1))) := by
  rw [List.drop_eq_getElem_cons h1, List.drop_eq_getElem_cons h2, Bool.eq_iff_iff, Bool.and_eq_true, decide_eq_true_eq, decide_eq_true_eq, decide_eq_true_eq, List.cons.injEq]
set_option maxRecDepth 100000 in
set_option maxHeartbeats 3200000 in
theorem eqSpans_any (a b : List Sp) (A B : Option Addr) (ca cb : Nat) (w : World) (hA : RdL w 2 A (a.map spC)) (hB : RdL w 2 B (b.map spC)) (n1 : a.length ≤ 9223372036854775807) :
    Calls Tryz.prog 152 #[.slice A a.length ca, .slice B b.length cb] w fun e w' => e = .returned (.bool (decide (a = b))) ∧ Below w.heap.size w w' := by
  obtain ⟨R, hR⟩ : ∃ R, decide (a = b) = R := ⟨_, rfl⟩
  rw [hR]
  obtain ⟨n, hn⟩ : ∃ n, a.length = n := ⟨_, rfl⟩
  obtain ⟨m, hm⟩ : ∃ m, b.length = m := ⟨_, rfl⟩
  have HN := Lib.hid hn
  have HM := Lib.hid hm
  have HA := Lib.hid hA
  have HB := Lib.hid hB
  rw [hn] at n1
  rw [hn, hm]
  by_cases hnm : n = m
  · have HNM := Lib.hid hnm
    have e1 : ((n : Int) != (m : Int)) = false := by simp [hnm]
    have HR : Hid (decide (a.drop 0 = b.drop 0) = R) := Lib.hid hR
    clear hA hB hn hm hR hnm
    go_enter Tryz.func152, Tryz.ntmps152
    go_wp2_with fail
    go_loopg [13] n (fun k iv wr => ∃ i : Nat, i ≤ n ∧ n - i ≤ k ∧ iv = .int .i64 i ∧ Hid (decide (a.drop i = b.drop i) = R) ∧ Below w.heap.size w wr)
    case atStart => exact ⟨0, by omega, by omega, rfl, HR, Below.refl _ _⟩
    case round =>
      obtain ⟨i, hi, hik, rfl, HD, hbel⟩ := hrel
      by_cases hlt : i < n
      · have i1 : (i : Int) < (n : Int) := by omega
        have i2 : (i : Int) < (m : Int) := by have := HNM.out; omega
        have i3 : (0 : Int) ≤ (i : Int) := by omega
        have h1 : i < a.length := by rw [HN.out]; omega
        have h2 : i < b.length := by rw [HM.out]; have := HNM.out; omega
        have hd := (drop_eq h1 h2).symm.trans HD.out
        obtain ⟨b1, o1, hA1, hx1⟩ := (HA.out.below hbel).at_ h1
        obtain ⟨b2, o2, hA2, hx2⟩ := (HB.out.below hbel).at_ h2
        have q1 := HN.out
        have q2 := HM.out
        generalize a[i]'h1 = x at *
        generalize b[i]'h2 = y at *
        subst hA1
        subst hA2
        have x0 : wr.cell? ⟨b1, o1 + i * 2, none⟩ = some (.int .i64 x.1) := hx1.get 0 rfl
        have x1 : wr.cell? ⟨b1, o1 + i * 2 + 1, none⟩ = some (.int .i64 x.2) := hx1.get 1 rfl
        have y0 : wr.cell? ⟨b2, o2 + i * 2, none⟩ = some (.int .i64 y.1) := hx2.get 0 rfl
        have y1 : wr.cell? ⟨b2, o2 + i * 2 + 1, none⟩ = some (.int .i64 y.2) := hx2.get 1 rfl
        have hq : ∀ W : World, (binOp .neq 86 (.agg #[.int .i64 x.1, .int .i64 x.2]) (.agg #[.int .i64 y.1, .int .i64 y.2])).run Tryz.prog W = .ok (.bool (!decide (x = y))) W := fun W => neS_run x y W
        obtain ⟨E, hE⟩ : ∃ E, decide (x = y) = E := ⟨_, rfl⟩
        rw [hE] at hd hq
        have HDD := Lib.hid hd
        clear hx1 hx2 q1 q2 h1 h2 hd hE HD
        cases E
        · have HF : Hid (R = false) := Lib.hid HDD.out.symm
          go_wp2_with fail
          go_region
          go_wp2_with fail
          go_ret
          exact ⟨ret_bool HF.out.symm, bel⟩
        · have HF := HDD.out
          rw [Bool.true_and] at HF
          have HF := Lib.hid HF
          go_wp2_with fail
          go_region
          go_wp2_with fail
          go_roundg (n - (i + 1))
          case measure => omega
          case rel => exact ⟨i + 1, by omega, Nat.le_refl _, by go_num, HF, bel⟩
      · have i1 : ¬ (i : Int) < (n : Int) := by omega
        have HF : Hid (R = true) := Lib.hid (HD.out.symm.trans (by rw [List.drop_of_length_le (show a.length ≤ i by rw [HN.out]; omega), List.drop_of_length_le (show b.length ≤ i by rw [HM.out]; have := HNM.out; omega)]; rfl))
        go_wp2_with fail
        go_ret
        exact ⟨ret_bool HF.out.symm, hbel⟩
  · have e1 : ((n : Int) != (m : Int)) = true := by simp; omega
    have HF : Hid (R = false) := Lib.hid (by rw [← hR, decide_eq_false_iff_not]; intro e; rw [e, hm] at hn; exact hnm hn.symm)
    clear hA hB hn hm hR hnm
    go_enter Tryz.func152, Tryz.ntmps152
    go_wp2_with fail
    go_ret
    exact ⟨ret_bool HF.out.symm, bel⟩
theorem rdT_some {w : World} {C : Option Addr} {l : List Tx} (h : RdL w 1 C (l.map tC)) (hl : l ≠ []) : ∃ b o, C = some ⟨b, o, none⟩ := by
  obtain ⟨b, off, e, -⟩ := h.at_ (List.length_pos_iff.2 hl)
  exact ⟨b, off, e⟩
theorem rdT_cell {w : World} {C : Option Addr} {l : List Tx} (h : RdL w 1 C (l.map tC)) (b o : Nat) (hC : C = some ⟨b, o, none⟩) : ∀ j, j < (l.map bs).length → w.cell? ⟨b, o + j, none⟩ = some (.string ((l.map bs).getD j ByteArray.empty)) := by
  intro j hj
  have hj' : j < l.length := by simpa using hj
  subst hC
  obtain ⟨b', o', e, hx⟩ := h j (tC (l[j]'hj')) (by rw [List.getElem?_map, List.getElem?_eq_getElem hj']; rfl)
  cases e
  have := hx 0 (.string (bs (l[j]'hj'))) rfl
  rw [show o + j * 1 + 0 = o + j by omega] at this
  rw [this, List.getD_eq_getElem?_getD, List.getElem?_map, List.getElem?_eq_getElem hj']; rfl
theorem map_bs_inj {k m : List Tx} : k.map bs = m.map bs ↔ k = m := by
  constructor
  · intro h
    exact List.map_inj_right (f := bs) (fun x y h => bs_inj h) |>.1 h
  · rintro rfl; rfl
theorem eqTexts_any (k m : List Tx) (C D : Option Addr) (cc cd : Nat) (w : World) (hk : RdL w 1 C (k.map tC)) (hm : RdL w 1 D (m.map tC)) (n1 : k.length ≤ 9223372036854775807) (n2 : m.length ≤ 9223372036854775807) :
    Calls Tryz.prog 151 #[.slice C k.length cc, .slice D m.length cd] w fun e w' => e = .returned (.bool (decide (k = m))) ∧ Below w.heap.size w w' := by
  by_cases hlen : k.length = m.length
  · by_cases h0 : k = []
    · have hm0 : m = [] := List.eq_nil_of_length_eq_zero (by rw [← hlen, h0]; rfl)
      subst h0 hm0
      refine (Tryz.slices_Equal_string_empty C D cc 0 cd w (by omega)).mono ?_
      rintro e w' ⟨rfl, rfl⟩
      exact ⟨rfl, Below.refl _ _⟩
    · obtain ⟨b1, o1, rfl⟩ := rdT_some hk h0
      obtain ⟨b2, o2, rfl⟩ := rdT_some hm (by intro e; rw [e] at hlen; exact h0 (List.eq_nil_of_length_eq_zero hlen))
      have h := Tryz.slices_Equal_string b1 o1 k.length cc b2 o2 m.length cd (k.map bs) (m.map bs) w (by simp) (by simp) n1 n2 (rdT_cell hk b1 o1 rfl) (rdT_cell hm b2 o2 rfl)
      refine h.mono ?_
      rintro e w' ⟨rfl, q, rfl⟩
      rw [List.take_of_length_le (by simp), List.take_of_length_le (by simp)]
      refine ⟨?_, below_drewN (Below.refl _ _) _⟩
      rw [show decide (k.map bs = m.map bs) = decide (k = m) by rw [decide_eq_decide]; exact map_bs_inj]
  · refine (Tryz.slices_Equal_string_lens C D k.length cc m.length cd w hlen).mono ?_
    rintro e w' ⟨rfl, rfl⟩
    refine ⟨?_, Below.refl _ _⟩
    rw [show decide (k = m) = false by rw [decide_eq_false_iff_not]; intro e; rw [e] at hlen; exact hlen rfl]
end Go.Proofs.YtankkadnhdfpfaaGreatDoor

/- soffit/sets.Same; slices.EqualFunc at sets with it: walked. -/
set_option linter.unusedSimpArgs false
set_option linter.unusedVariables false
namespace Go.Proofs.YtankkadnhdfpfaaGreatDoor
open Go.RowKit Sp Wd

def sameB (a b : St) : Bool := a.k == b.k && (a.nul == b.nul && (a.b == b.b && (a.al == b.al && (decide (a.ws = b.ws) && decide (a.sp = b.sp)))))
theorem sameB_iff (a b : St) : sameB a b = true ↔ a = b := by
  obtain ⟨k, sp, al, ws, n, nul⟩ := a
  obtain ⟨k', sp', al', ws', n', nul'⟩ := b
  unfold sameB
  simp only [Bool.and_eq_true, beq_iff_eq, decide_eq_true_eq, St.mk.injEq]
  constructor
  · rintro ⟨h1, h2, h3, h4, h5, h6⟩; exact ⟨h1, h6, h4, h5, h3, h2⟩
  · rintro ⟨h1, h6, h4, h5, h3, h2⟩; exact ⟨h1, h2, h3, h4, h5, h6⟩
set_option maxRecDepth 100000 in
set_option maxHeartbeats 6400000 in
theorem same_any (a b : St) (A B C D : Option Addr) (ca cb cc cd : Nat) (w : World) (hA : StAt w a A B) (hB : StAt w b C D) (n1 : a.sp.length ≤ 9223372036854775807) (n2 : a.ws.length ≤ 9223372036854775807) (n3 : b.ws.length ≤ 9223372036854775807) :
    Calls Tryz.prog 116 #[.agg #[.int .i64 a.k, .slice A a.sp.length ca, .bool a.al, .slice B a.ws.length cb, .int .i64 a.b, .bool a.nul], .agg #[.int .i64 b.k, .slice C b.sp.length cc, .bool b.al, .slice D b.ws.length cd, .int .i64 b.b, .bool b.nul]] w fun e w' => e = .returned (.bool (sameB a b)) ∧ Below w.heap.size w w' := by
  obtain ⟨R, hR⟩ : ∃ R, sameB a b = R := ⟨_, rfl⟩
  rw [hR]
  unfold sameB at hR
  have HT := Lib.hid (fun (W : World) (hW : Below w.heap.size w W) => eqTexts_any a.ws b.ws B D cb cd W (hA.ws.below hW) (hB.ws.below hW) n2 n3)
  have HS := Lib.hid (fun (W : World) (hW : Below w.heap.size w W) => eqSpans_any a.sp b.sp A C ca cc W (hA.sp.below hW) (hB.sp.below hW) n1)
  clear hA hB
  cases e1 : (a.k == b.k)
  · have HR : Hid (R = false) := Lib.hid (by rw [← hR, e1]; rfl)
    clear hR
    go_enter Tryz.func116, Tryz.ntmps116
    go_wp2_with fail
    go_ret
    exact ⟨ret_bool HR.out.symm, bel⟩
  · rw [e1, Bool.true_and] at hR
    cases e2 : (a.nul == b.nul)
    · have HR : Hid (R = false) := Lib.hid (by rw [← hR, e2]; rfl)
      clear hR
      go_enter Tryz.func116, Tryz.ntmps116
      go_wp2_with fail
      go_ret
      exact ⟨ret_bool HR.out.symm, bel⟩
    · rw [e2, Bool.true_and] at hR
      cases e3 : (a.b == b.b)
      · have HR : Hid (R = false) := Lib.hid (by rw [← hR, e3]; rfl)
        clear hR
        go_enter Tryz.func116, Tryz.ntmps116
        go_wp2_with fail
        go_ret
        exact ⟨ret_bool HR.out.symm, bel⟩
      · rw [e3, Bool.true_and] at hR
        cases e4 : (a.al == b.al)
        · have HR : Hid (R = false) := Lib.hid (by rw [← hR, e4]; rfl)
          clear hR
          go_enter Tryz.func116, Tryz.ntmps116
          go_wp2_with fail
          go_ret
          exact ⟨ret_bool HR.out.symm, bel⟩
        · rw [e4, Bool.true_and] at hR
          obtain ⟨E, hE⟩ : ∃ E, decide (a.ws = b.ws) = E := ⟨_, rfl⟩
          obtain ⟨F, hF⟩ : ∃ F, decide (a.sp = b.sp) = F := ⟨_, rfl⟩
          rw [hE] at hR HT
          rw [hF] at hR HS
          have HR : Hid (R = (E && F)) := Lib.hid hR.symm
          clear hR hE hF
          cases E
          · have HR : Hid (R = false) := HR
            go_enter Tryz.func116, Tryz.ntmps116
            go_wp2_with fail
            refine (HT.out _ bel).mono ?_
            rintro e w1 ⟨rfl, hb1⟩
            go_wp2_with fail
            go_ret
            exact ⟨ret_bool HR.out.symm, bel⟩
          · have HR : Hid (R = F) := HR
            go_enter Tryz.func116, Tryz.ntmps116
            go_wp2_with fail
            refine (HT.out _ bel).mono ?_
            rintro e w1 ⟨rfl, hb1⟩
            have hz1 := hb1.size
            try simp at hz1
            obtain ⟨q1_0, l1_0, r1_0⟩ := aft hb1 (w.heap.size)
            obtain ⟨q1_1, l1_1, r1_1⟩ := aft hb1 (w.heap.size + 1)
            go_wp2_with fail
            refine (HS.out _ bel).mono ?_
            rintro e w2 ⟨rfl, hb2⟩
            go_wp2_with fail
            go_ret
            exact ⟨ret_bool HR.out.symm, bel⟩
def sameBx : List StArg → List StArg → Bool
  | x :: r, y :: q => sameB x.s y.s && sameBx r q
  | [], [] => true
  | _, _ => false
theorem sameBx_len : ∀ {l m : List StArg}, sameBx l m = true → l.length = m.length
  | [], [], _ => rfl
  | x :: r, y :: q, h => by
    have h' : (sameB x.s y.s && sameBx r q) = true := h
    rw [Bool.and_eq_true] at h'
    simp [sameBx_len h'.2]
  | [], _ :: _, h => by cases h
  | _ :: _, [], h => by cases h
theorem sameBx_drop {l m : List StArg} {k : Nat} (h1 : k < l.length) (h2 : k < m.length) : sameBx (l.drop k) (m.drop k) = (sameB (l[k]'h1).s (m[k]'h2).s && sameBx (l.drop (k + 1)) (m.drop (k + 1))) := by
  rw [List.drop_eq_getElem_cons h1, List.drop_eq_getElem_cons h2]; rfl
set_option maxRecDepth 100000 in
set_option maxHeartbeats 6400000 in
theorem eqBox_any (l m : List StArg) (A B : Option Addr) (ca cb : Nat) (w : World) (hA : BoxAt w A l) (hB : BoxAt w B m) (hl : ∀ x ∈ l ++ m, x.s.sp.length ≤ 9223372036854775807 ∧ x.s.ws.length ≤ 9223372036854775807) :
    Calls Tryz.prog 115 #[.slice A l.length ca, .slice B m.length cb, .func (.func 116) #[] #[]] w fun e w' => e = .returned (.bool (sameBx l m)) ∧ Below w.heap.size w w' := by
  obtain ⟨R, hR⟩ : ∃ R, sameBx l m = R := ⟨_, rfl⟩
  rw [hR]
  obtain ⟨n, hn⟩ : ∃ n, l.length = n := ⟨_, rfl⟩
  obtain ⟨q, hq⟩ : ∃ q, m.length = q := ⟨_, rfl⟩
  have HN := Lib.hid hn
  have HQ := Lib.hid hq
  have HA := Lib.hid hA
  have HB := Lib.hid hB
  have HL := Lib.hid hl
  have hen : ∀ args W, (callFunc 116 args).run Tryz.prog W = .ok (.enter 116 args) W := enters_of Tryz.func116 (by kernel_rfl) rfl
  have n63 : n ≤ 9223372036854775807 := by rw [← hn]; exact hA.n
  rw [hn, hq]
  by_cases hnm : n = q
  · have HNM := Lib.hid hnm
    have e1 : ((n : Int) != (q : Int)) = false := by simp [hnm]
    have HR : Hid (sameBx (l.drop 0) (m.drop 0) = R) := Lib.hid hR
    clear hA hB hl hn hq hR hnm
    go_enter Tryz.func115, Tryz.ntmps115
    go_wp2_with fail
    go_loopg [17] n (fun k iv wr => ∃ i : Nat, i ≤ n ∧ n - i ≤ k ∧ iv = .int .i64 i ∧ Hid (sameBx (l.drop i) (m.drop i) = R) ∧ Below w.heap.size w wr)
    case atStart => exact ⟨0, by omega, by omega, rfl, HR, Below.refl _ _⟩
    case round =>
      obtain ⟨i, hi, hik, rfl, HD, hbel⟩ := hrel
      by_cases hlt : i < n
      · have i1 : (i : Int) < (n : Int) := by omega
        have i2 : (i : Int) < (q : Int) := by have := HNM.out; omega
        have i3 : (0 : Int) ≤ (i : Int) := by omega
        have h1 : i < l.length := by rw [HN.out]; omega
        have h2 : i < m.length := by rw [HQ.out]; have := HNM.out; omega
        have hd := (sameBx_drop h1 h2).symm.trans HD.out
        obtain ⟨b1, o1, hA1, hx1⟩ := (HA.out.rd.below hbel).at_ h1
        obtain ⟨b2, o2, hA2, hx2⟩ := (HB.out.rd.below hbel).at_ h2
        have s1 := (HA.out.st _ (List.getElem_mem h1)).below hbel
        have s2 := (HB.out.st _ (List.getElem_mem h2)).below hbel
        have k1 := HL.out _ (List.mem_append_left _ (List.getElem_mem h1))
        have k2 := HL.out _ (List.mem_append_right _ (List.getElem_mem h2))
        have q1 := HN.out
        have q2 := HQ.out
        generalize l[i]'h1 = x at *
        generalize m[i]'h2 = y at *
        subst hA1
        subst hA2
        have x0 : wr.cell? ⟨b1, o1 + i * 6, none⟩ = some (.int .i64 x.s.k) := hx1.get 0 rfl
        have x1 : wr.cell? ⟨b1, o1 + i * 6 + 1, none⟩ = some (.slice x.A x.s.sp.length x.ca) := hx1.get 1 rfl
        have x2 : wr.cell? ⟨b1, o1 + i * 6 + 2, none⟩ = some (.bool x.s.al) := hx1.get 2 rfl
        have x3 : wr.cell? ⟨b1, o1 + i * 6 + 3, none⟩ = some (.slice x.B x.s.ws.length x.cb) := hx1.get 3 rfl
        have x4 : wr.cell? ⟨b1, o1 + i * 6 + 4, none⟩ = some (.int .i64 x.s.b) := hx1.get 4 rfl
        have x5 : wr.cell? ⟨b1, o1 + i * 6 + 5, none⟩ = some (.bool x.s.nul) := hx1.get 5 rfl
        have y0 : wr.cell? ⟨b2, o2 + i * 6, none⟩ = some (.int .i64 y.s.k) := hx2.get 0 rfl
        have y1 : wr.cell? ⟨b2, o2 + i * 6 + 1, none⟩ = some (.slice y.A y.s.sp.length y.ca) := hx2.get 1 rfl
        have y2 : wr.cell? ⟨b2, o2 + i * 6 + 2, none⟩ = some (.bool y.s.al) := hx2.get 2 rfl
        have y3 : wr.cell? ⟨b2, o2 + i * 6 + 3, none⟩ = some (.slice y.B y.s.ws.length y.cb) := hx2.get 3 rfl
        have y4 : wr.cell? ⟨b2, o2 + i * 6 + 4, none⟩ = some (.int .i64 y.s.b) := hx2.get 4 rfl
        have y5 : wr.cell? ⟨b2, o2 + i * 6 + 5, none⟩ = some (.bool y.s.nul) := hx2.get 5 rfl
        have lb1 := cell_lt x0
        have lb2 := cell_lt y0
        have HSAME := Lib.hid (fun (W : World) (hW : Below wr.heap.size wr W) => same_any x.s y.s x.A x.B y.A y.B x.ca x.cb y.ca y.cb W (s1.below hW) (s2.below hW) k1.1 k1.2 k2.2)
        obtain ⟨E, hE⟩ : ∃ E, sameB x.s y.s = E := ⟨_, rfl⟩
        rw [hE] at hd HSAME
        have HDD := Lib.hid hd
        have hsz := hbel.size
        clear hx1 hx2 q1 q2 h1 h2 hd hE HD s1 s2 k1 k2
        cases E
        · have HF : Hid (R = false) := Lib.hid HDD.out.symm
          go_wp2_with fail
          refine (HSAME.out _ bel).mono ?_
          rintro e w1 ⟨rfl, hb1⟩
          go_wp2_with fail
          go_ret
          exact ⟨ret_bool HF.out.symm, bel⟩
        · have HF := HDD.out
          rw [Bool.true_and] at HF
          have HF := Lib.hid HF
          go_wp2_with fail
          refine (HSAME.out _ bel).mono ?_
          rintro e w1 ⟨rfl, hb1⟩
          go_wp2_with fail
          go_roundg (n - (i + 1))
          case measure => omega
          case rel => exact ⟨i + 1, by omega, Nat.le_refl _, by go_num, HF, bel⟩
      · have i1 : ¬ (i : Int) < (n : Int) := by omega
        have HF : Hid (R = true) := Lib.hid (HD.out.symm.trans (by rw [List.drop_of_length_le (show l.length ≤ i by rw [HN.out]; omega), List.drop_of_length_le (show m.length ≤ i by rw [HQ.out]; have := HNM.out; omega)]; rfl))
        go_wp2_with fail
        go_ret
        exact ⟨ret_bool HF.out.symm, hbel⟩
  · have e1 : ((n : Int) != (q : Int)) = true := by simp; omega
    have HF : Hid (R = false) := Lib.hid (by
      rw [← hR]
      cases h : sameBx l m
      · rfl
      · have := sameBx_len h; omega)
    clear hA hB hl hn hq hR hnm
    go_enter Tryz.func115, Tryz.ntmps115
    go_wp2_with fail
    go_ret
    exact ⟨ret_bool HF.out.symm, bel⟩
end Go.Proofs.YtankkadnhdfpfaaGreatDoor
