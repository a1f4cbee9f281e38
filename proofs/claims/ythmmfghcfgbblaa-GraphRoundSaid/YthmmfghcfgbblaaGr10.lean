/- graph.Above, walked. -/
import Derived.Test.YthmmfghcfgbblaaGr9
set_option linter.unusedSimpArgs false
set_option linter.unusedVariables false
namespace Go.Proofs.Ythmmfghcfgbblaa
open Go.RowKit Go.Sort Go.Lib Go.ChangeMaps Go.WideShapes

theorem run_append_nil {P : Program} {w : World} (base : Nat) (t ty e : TypeId) (i : TypeInfo) (size : Nat) (ht : P.underlying t = some (.slice e)) (hi : P.info? e = some i)
    (v : Value) (n c : Nat) (xs : List Value) (hown : w.ownsRow base e size v n xs) :
    (Builtin.append_ #[t, t] ty #[v, .slice none 0 c]).run P w = .ok v w := by
  rcases hown.2 with ⟨rfl, rfl⟩ | ⟨g, cap, cur, rfl, _, _, hnc, _⟩
  · simp [Builtin.append_, run_underlying ht, sizeOf, typeInfo, hi, Builtin.lenOf, Builtin.firstCells]
  · simp [Builtin.append_, run_underlying ht, sizeOf, typeInfo, hi, Builtin.lenOf, Builtin.firstCells, hnc, storeCells]
/-- numbers behind numbers, wherever they lie -/
theorem wpList_append_row (w : World) {ops : Array Oper} {rest : List Oper} {o : Oper} {a : Act} {Q : Exit → Act → World → Prop} (hgd : o.guard = none) (s x : Operand)
    (ho : o.op = .call { callee := .builtin .append, args := #[s, x], argTypes := #[26, 26] })
    (base : Nat) (hbase : base ≤ w.heap.size) (v : Value) (l : List Nat) (hs : a.eval s = v) (hown : w.ownsRow base 3 1 v l.length (l.map nV))
    (A : Option Addr) (c : Nat) (r : List Nat) (hx : a.eval x = .slice A r.length c) (hr : RdL w 1 A (r.map iC)) (hb : l.length + r.length ≤ 17000000)
    (h : ∀ v' w', w'.ownsRow base 3 1 v' (l ++ r).length ((l ++ r).map nV) → w.grownBy w' v.ownBlock → wpList Try.prog ops Q rest (a.put o.dst v') w') : wpList Try.prog ops Q (o :: rest) a w := by
  obtain ⟨j0, jinf, jz, jsz, jby⟩ := info_parts (show (Try.prog.info? 3).map (fun i => (i.zero, i.size, i.bytes)) = some (some (.int .i64 0), 1, 8) by kernel_rfl)
  have key : ∀ ad : Addr, A = some ad → (∀ j u, (r.map nV)[j]? = some u → w.cell? (ad.add j) = some u) → wpList Try.prog ops Q (o :: rest) a w := by
    intro ad hA hc
    subst hA
    refine wpList_append_own w hgd s x 26 ho base 3 j0 (.int .i64 0) 1 8 Try.underlying26 jinf jz jsz jby rfl (by decide) v l.length _ hs hown ad r.length c (r.map nV) hx (by simp) hc ?_ (by unfold maxLen; omega) (by omega) hbase ?_
    · intro u hu
      obtain ⟨k, _, rfl⟩ := List.mem_map.1 hu
      rfl
    · intro v' w' h1 h2 _
      refine h v' w' ?_ h2
      rw [List.length_append, List.map_append]
      exact h1
  rcases r with _ | ⟨y, r⟩
  · cases A with
    | none =>
      refine wpList_plain hgd fun K hK => ?_
      have hrun := run_append_nil (P := Try.prog) (w := w) base 26 o.type 3 j0 1 Try.underlying26 jinf v l.length c _ hown
      have hx' : a.eval x = .slice none 0 c := hx
      unfold Oper.wp
      simp [execOp, ho, resolve, invoke, builtin, hs, hx', hrun, Result.andThen]
      refine hK _ _ (h v w (by rw [List.append_nil]; exact hown) ⟨rfl, rfl, rfl, Nat.le_refl _, fun _ _ _ => rfl⟩)
    | some ad => exact key ad rfl (fun j u hu => by simp at hu)
  · obtain ⟨b, off, rfl, _⟩ := rdI_at hr (j := 0) (by simp)
    refine key _ rfl (fun j u hu => ?_)
    have hj : j < (y :: r).length := by have := (List.getElem?_eq_some_iff.1 hu).1; simpa using this
    obtain ⟨b', off', e, g⟩ := rdI_at hr (j := j) hj
    cases e
    rw [List.getElem?_map, List.getElem?_eq_getElem hj] at hu
    cases hu
    have e : (Addr.add ⟨b, off, none⟩ j) = ⟨b, off + j, none⟩ := by simp [Addr.add]
    rw [e]
    exact g
theorem left_new {left : Lit → Bool} {S o : List Nat} {n : Nat} (h : ∀ kl, left kl = true ↔ ∃ n ∈ S, n ∉ o ∧ kl = .int .i64 (n : Int)) (kl : Lit) :
    ((left kl && !kl.sameKey (.int .i64 (n : Int))) = true) ↔ ∃ m ∈ S, m ∉ o ++ [n] ∧ kl = .int .i64 (m : Int) := by
  rw [Bool.and_eq_true, h]
  constructor
  · rintro ⟨⟨m, hm, hmo, rfl⟩, h2⟩
    refine ⟨m, hm, fun hx => ?_, rfl⟩
    rcases List.mem_append.1 hx with h3 | h3
    · exact hmo h3
    · rw [List.mem_singleton] at h3
      subst h3
      rw [WideAt.sameKey_self (show WideAt.IsKeyLit (.int .i64 (m : Int)) from trivial)] at h2
      cases h2
  · rintro ⟨m, hm, hmo, rfl⟩
    refine ⟨⟨m, hm, fun h => hmo (List.mem_append_left _ h), rfl⟩, ?_⟩
    rw [Maps.sameKey_ne (by intro e; injection e with _ e; exact hmo (by rw [show m = n by omega]; simp))]
    rfl
theorem own_shape {w : World} {base : Nat} {v : Value} {n : Nat} {xs : List Value} (h : w.ownsRow base 3 1 v n xs) : ∃ A c, v = .slice A n c := by
  rcases h.2 with ⟨rfl, rfl⟩ | ⟨g, cap, cur, rfl, _⟩
  · exact ⟨none, 0, rfl⟩
  · exact ⟨_, _, rfl⟩

theorem rd_one (w : World) (n : Nat) (t : TypeId) : RdL (w.alloc (.cells #[.int .i64 (n : Int)] t)) 1 (some ⟨w.heap.size, 0, none⟩) ([n].map iC) := by
  intro j c hc
  match j, hc with
  | 0, hc =>
    simp at hc
    subst hc
    refine ⟨w.heap.size, 0, rfl, fun i v hv => ?_⟩
    match i, hv with
    | 0, hv =>
      have hv' : v = .int .i64 (n : Int) := by simpa [iC] using hv.symm
      subst hv'
      exact cell_of_block (heap_alloc_new w (.cells #[.int .i64 (n : Int)] t)) 0

set_option maxRecDepth 100000 in
set_option maxHeartbeats 3200000 in
theorem above_any (A D : Option Addr) (ns : List Tx) (xs : List TxAt) (c cd : Nat) (n : Int) (w : World) (hA : RdL w 1 A (ns.map tC)) (hD : RdL w 1 D (xs.map TxAt.cells)) (hx : ∀ x ∈ xs, x.ok w) (hn : ns.length ≤ 9223372036854775807) (hm : xs.length ≤ 9223372036854775807) (hs : ∀ s ∈ ns, s.length ≤ 9223372036854775807) (hxl : ∀ x ∈ xs, x.l.length ≤ 4096) :
    Calls Try.prog 12 #[.slice A ns.length c, .slice D xs.length cd, .int .i64 n] w fun e w' => ∃ v r l, e = .returned (.tuple #[v, .int .i64 r]) ∧ AboveIs ns (xs.map TxAt.l) n l r ∧ (∃ B cb, v = .slice B l.length cb ∧ RdL w' 1 B (l.map iC)) ∧ l.length ≤ 4096 ∧ Below w.heap.size w w' := by
  have he := edges_any A D ns xs c cd w hA hD hx hn hm hs hxl
  have HE := Lib.hid he
  have HXL := Lib.hid hxl
  clear he hA hD hx hs hxl
  have hmm := @run_makeMap Try.prog
  go_enter Try.func12, Try.ntmps12
  go_wp2_with fail
  refine HE.out.mono ?_
  rintro e w1 ⟨v, n0, e0, rfl, hC, hv0, hv1, hb1⟩
  clear HE
  by_cases hz : e0 = 0
  · subst hz
    obtain ⟨G, rfl, hR⟩ := hv1 rfl
    clear hv0 hv1
    obtain ⟨hlen, h4, rfl, hall⟩ := check0 hC
    obtain ⟨E, hE⟩ : ∃ E, edgesL ns (xs.map TxAt.l) = E := ⟨_, rfl⟩
    have hEl : E.length = ns.length := by rw [← hE, edges_len]; exact hlen.symm
    have hElt : ∀ i (hi : i < E.length), ∀ k ∈ E[i]'hi, k < ns.length := by
      subst hE
      exact fun i hi => edges_lt hall hi
    have hErl : ∀ i (hi : i < E.length), (E[i]'hi).length ≤ 4096 := by
      subst hE
      intro i hi
      obtain ⟨l, hl, e⟩ := edges_row hi
      obtain ⟨x, hx, rfl⟩ := List.mem_map.1 hl
      rw [e]; exact HXL.out x hx
    rw [hE] at hR
    have HC := Lib.hid hC
    have HEE := Lib.hid hE
    have HEL := Lib.hid hEl
    have HLT := Lib.hid hElt
    have HRL := Lib.hid hErl
    obtain ⟨N, hN⟩ : ∃ N, ns.length = N := ⟨_, rfl⟩
    have HN := Lib.hid hN
    have HR := Lib.hid hR
    rw [hN] at h4 ⊢
    clear hC hE hEl hElt hErl hlen hall hN hR
    by_cases hin : 0 ≤ n ∧ n < (N : Int)
    · obtain ⟨m, rfl⟩ : ∃ m : Nat, n = m := ⟨n.toNat, by omega⟩
      have hmN : m < N := by omega
      clear hin
      have i1 : (0 : Int) ≤ (m : Int) := by omega
      have i2 : (m : Int) < (N : Int) := by omega
      have i3 : ¬ (m : Int) < 0 := by omega
      have i4 : ¬ (N : Int) ≤ (m : Int) := by omega
      have hmE : m < E.length := by rw [HEL.out, HN.out]; exact hmN
      have hb0 : Below w1.heap.size w1 (w1.alloc (.map #[] 0)) := (by repeat' (first | (with_reducible exact Below.refl _ _) | (with_reducible assumption) | (with_reducible refine Below.drew ?_) | (with_reducible refine below_drewN ?_ _) | (with_reducible refine below_iterAt ?_ ?_ _ _) | (with_reducible refine below_iter ?_ ?_ _ _) | (with_reducible refine Below.alloc ?_ ?_ _) | (with_reducible refine Below.setCell ?_ ?_ _) | (with_reducible refine Below.trans ?_ (Below.mono (by assumption) ?_)) | (simp only [sz_alloc, sz_set, sz_drew, sz_drewN, sz_iterAt, sz_iter] at *; omega) | omega | (simp; done) | (simp; omega) | (apply Below.size; assumption) | (simp only [sz_drew, sz_drewN]; apply Below.size; assumption) | (refine Nat.le_trans ?_ (Below.size (by assumption)))))
      have hR0 := HR.out.below hb0
      obtain ⟨A', c', hcell, hrd, _⟩ := hR0.row m hmE
      have hcl := cloneG_any A' (E[m]'hmE) c' _ hrd (HRL.out m hmE)
      have hst := DfsAt.start hmE
      have hbnd : restN E [] + (E[m]'hmE).length ≤ 16785408 := by
        have h1 := restN_le [] HRL.out
        have h2 := HRL.out m hmE
        rw [HEL.out, HN.out] at h1
        have h3 := Nat.mul_le_mul_right 4096 h4
        omega
      have hmap := MapS.made w1
      have hszz : (w1.alloc (.map #[] 0)).heap.size = w1.heap.size + 1 := by simp
      rw [hszz] at hcl
      generalize E[m]'hmE = row at *
      have HCL := Lib.hid hcl
      have HST := Lib.hid hst
      have HMP := Lib.hid hmap
      have HR0 := Lib.hid hR0
      have HB0 := Lib.hid hb0
      have HSZ := Lib.hid hszz
      have HBND := Lib.hid hbnd
      clear hcl hst hmap hR0 hb0 hszz hrd HR hbnd
      go_wp2_with fail
      refine HCL.out.mono ?_
      rintro e w2 ⟨tv, rfl, hown, hb2⟩
      clear hcell hmm
      have hb2' : Below (w1.alloc (.map #[] 0)).heap.size (w1.alloc (.map #[] 0)) w2 := by rw [HSZ.out]; exact hb2
      have HOWN0 := Lib.hid hown
      have HM0 := Lib.hid (HMP.out.below hb2')
      have HR2 := Lib.hid (HR0.out.below hb2')
      have hbw : Below w.heap.size w w2 := hb1.trans ((HB0.out.trans (hb2.mono (Nat.le_succ _))).mono hb1.size)
      have hwz : w1.heap.size + 1 ≤ w2.heap.size := by have := hb2'.size; rw [HSZ.out] at this; exact this
      have hww : w.heap.size ≤ w1.heap.size := hb1.size
      clear hown hb2 hb2' HCL HMP HR0 HB0 HSZ hb1
      go_wp2_with fail
      go_loopg [12] (restN E [] + row.length) (fun k tv wr => ∃ S T : List Nat, restN E S + T.length ≤ k ∧ Hid (restN E S + T.length ≤ 16785408) ∧ Hid (DfsAt E m S T) ∧ Hid (wr.ownsRow (w1.heap.size + 1) 3 1 tv T.length (T.map nV)) ∧ Hid (MapS wr w1.heap.size S) ∧ Hid (RowsG wr G w1.heap.size E) ∧ Below w.heap.size w wr ∧ w1.heap.size + 1 ≤ wr.heap.size)
      case atStart => exact ⟨[], row, Nat.le_refl _, HBND, HST, HOWN0, HM0, HR2, hbw, hwz⟩
      case round =>
        clear HOWN0 HM0 HR2 hbw hwz HST HBND
        obtain ⟨S, T, hk, HBD, HDF, HOW, HMS, HRG, hbel, hwz⟩ := hrel
        rcases List.eq_nil_or_concat T with rfl | ⟨T', k, rfl⟩
        · obtain ⟨B0, cb0, hov⟩ := own_shape HOW.out
          subst hov
          obtain ⟨Dm, hD1, hD2, _⟩ := HMS.out
          have HALL : Hid (∀ k, k ∈ S ↔ Reach E m k) := Lib.hid HDF.out.done
          have HSN : Hid (∀ k ∈ S, k < N) := Lib.hid (fun k hk => by have := (HDF.out.re k (.inl hk)).lt HLT.out; rw [HN.out] at this; exact this)
          have HD2 := Lib.hid hD2
          have hmax : Maps.size Dm ≤ S.length := hD1.size_le
          clear hD2 HDF HOW HMS HBD hmax
          go_wp2_with (first
            | (at_range; refine wpList_range_own _ rfl _ 45 rfl 3 4 lawI Try.underlying45 _ w1.heap.size S.length Dm rfl hD1 ?_; intro w5 hrg0 hg0 hs0)
            | fail)
          go_frame
          have hbr : Below w.heap.size w w5 := hbel.grown hg0 (by omega) (fun j hj => by cases hj)
          have HR0 := Lib.hid hrg0
          have HL0 : Hid (∀ kl, Maps.has Dm kl = true ↔ ∃ n ∈ S, n ∉ ([] : List Nat) ∧ kl = .int .i64 (n : Int)) := Lib.hid (fun kl => by rw [HD2.out]; simp)
          obtain ⟨R, hR⟩ : ∃ R, wr.heap.size = R := ⟨_, rfl⟩
          rw [hR] at HR0 hs0 ⊢
          have hRz : R + 1 ≤ w5.heap.size := by omega
          have hRw : w.heap.size ≤ R := by omega
          have hRm : w1.heap.size < R := by omega
          clear hrg0 hg0 hs0 hD1 hR hbel hk hwz
          go_loopg [14] (Maps.size Dm) (fun k ov wq => ∃ (o : List Nat) (left : Lit → Bool) (cnt : Nat), cnt ≤ k ∧ Hid (wq.ranges Try.prog 3 (plainElem Try.prog 4) w1.heap.size R S.length Dm left cnt) ∧ Hid (∀ kl, left kl = true ↔ ∃ n ∈ S, n ∉ o ∧ kl = .int .i64 (n : Int)) ∧ Hid (o.Nodup ∧ ∀ k ∈ o, k ∈ S) ∧ Hid (wq.ownsRow (R + 1) 3 1 ov o.length (o.map nV)) ∧ Below w.heap.size w wq ∧ R + 1 ≤ wq.heap.size)
          case atStart => exact ⟨[], _, _, Nat.le_refl _, HR0, HL0, Lib.hid ⟨List.nodup_nil, fun k hk => by simp at hk⟩, Lib.hid (World.ownsRow_nil _ _ _ _), hbr, hRz⟩
          case round =>
            clear HR0 HL0 hbr hRz
            obtain ⟨o, left, cnt, hk, HRA, HL, HO, HOW, hbel, hwz⟩ := hrel
            have hrg := HRA.out
            obtain ⟨B, cb, hov⟩ := own_shape HOW.out
            have HOWN := HOW
            rw [hov] at HOWN
            subst hov
            clear HOW
            go_wp2_with (first
              | (at_next
                 refine wpList_next_ranges _ rfl _ rfl 3 lawI (plainElem Try.prog 4) (Value.int .i64) Value.bool (fun key kl hkey => by obtain ⟨x, rfl, _⟩ := Maps.keyOf_int_inv Try.underlying3 hkey; exact ⟨x, rfl⟩) (fun v y hv => by obtain ⟨x, rfl, _⟩ := plainElem_bool_inv Try.underlying4 hv; exact ⟨x, rfl⟩) w1.heap.size R S.length _ _ _ rfl hrg (fun hc0 hl0 => ?_) (fun x cv kl y w6 cnt6 hkey hlk hv hat hrg6 hlt6 hg6 hs6 hen => ?_)
                 rotate_left 1
                 obtain ⟨x', ex, hklx, hwx⟩ := Maps.keyOf_int_inv Try.underlying3 hkey
                 cases ex
                 subst hklx
                 obtain ⟨n, hnS, hno, hkl⟩ := (HL.out _).1 hlk
                 injection hkl with _ hkl
                 subst hkl
                 have hown6 : (w6.alloc (.cells #[.int .i64 (n : Int)] 3)).ownsRow (R + 1) 3 1 (.slice B o.length cb) o.length (o.map nV) := (HOWN.out.kept hg6 (.inr (fun e => by have := (HOWN.out.lt R e).1; omega))).alloc _
                 have hrd6 := rd_one w6 n 3
                 have hz6 : R + 1 ≤ (w6.alloc (.cells #[.int .i64 (n : Int)] 3)).heap.size := by rw [sz_alloc]; omega
                 have hol6 : o.length + [n].length ≤ 17000000 := by
                   have h1 := len_subN o (List.range N) HO.out.1 (fun x hx => List.mem_range.2 (HSN.out x (HO.out.2 x hx)))
                   simp at h1 ⊢; omega
                 have HRA6 := Lib.hid (hrg6.alloc (.cells #[.int .i64 (n : Int)] 3))
                 have HL6 := Lib.hid (left_new (n := n) HL.out)
                 have HO6 : Hid ((o ++ [n]).Nodup ∧ ∀ k ∈ o ++ [n], k ∈ S) := Lib.hid ⟨by rw [List.nodup_append]; exact ⟨HO.out.1, by simp, fun a ha b hb e => hno (by rw [List.mem_singleton] at hb; rw [← hb, ← e]; exact ha)⟩, fun k hk => by
                   rcases List.mem_append.1 hk with h | h
                   · exact HO.out.2 k h
                   · rw [List.mem_singleton.1 h]; exact hnS⟩
                 have hb6 : Below w.heap.size w (w6.alloc (.cells #[.int .i64 (n : Int)] 3)) := (hbel.grown hg6 (by omega) (fun j hj => by injection hj with hj; omega)).alloc (by omega) _
                 have hne6 : w1.heap.size < R ∧ R < R + 1 := ⟨hRm, by omega⟩
                 clear hkey hlk hv hat hrg6 hg6 hnS hno hs6
                 rotate_right 1)
              | (at_builtin; refine wpList_append_row _ rfl _ _ rfl (R + 1) hz6 _ o rfl hown6 (some ⟨w6.heap.size, 0, none⟩) 1 [n] rfl hrd6 hol6 ?_)
              | fail)
            · have hso : ∀ k, k ∈ o ↔ k ∈ S := fun k => ⟨HO.out.2 k, fun hk => Classical.byContradiction fun h => by
                have := (HL.out (.int .i64 (k : Int))).2 ⟨k, hk, h, rfl⟩
                rw [hl0] at this; cases this⟩
              have hol : o.length ≤ N := by
                have := len_subN o (List.range N) HO.out.1 (fun x hx => List.mem_range.2 (HSN.out x (HO.out.2 x hx)))
                simpa using this
              have hA : AboveIs ns (xs.map TxAt.l) m (srtN o) 0 := ⟨0, 0, HC.out, .inr ⟨rfl, .inr ⟨m, rfl, by rw [HN.out]; exact hmN, srtN_sorted HO.out.1, fun k => by rw [srtN_mem, hso, HALL.out, HEE.out], rfl⟩⟩⟩
              have hst := sortG_any (R + 1) _ o wr HOWN.out (by omega)
              have HST := Lib.hid hst
              have HA := Lib.hid hA
              have HOL : Hid ((srtN o).length = o.length ∧ o.length ≤ 4096) := Lib.hid ⟨srtN_len o, by omega⟩
              have HSI : Hid (∀ w7, wr.grownBy w7 (Value.slice B o.length cb).ownBlock → Below w.heap.size w w7) := Lib.hid (fun w7 h7 => hbel.grown h7 (by omega) (fun j hj => by have := (HOWN.out.lt j hj).1; omega))
              clear hso hol hA hst hl0 hrg HRA HL HO HOWN hc0 hk
              go_wp2_with fail
              refine HST.out.mono ?_
              rintro e w7 ⟨rfl, hown7, hg7⟩
              have hb7 := HSI.out w7 hg7
              clear hg7 HSI HST
              go_wp2_with fail
              obtain ⟨A7, c7, e7, hrd7, _⟩ := own_rdI (l := srtN o) (by rw [HOL.out.1]; exact hown7)
              refine bodyPost_ret (v := .tuple #[.slice B o.length cb, .int .i64 0]) (by simp [results, Try.results12, go_sem]) rfl ⟨_, 0, srtN o, rfl, HA.out, ⟨A7, c7, e7, hrd7⟩, by rw [HOL.out.1]; exact HOL.out.2, hb7⟩
            · intro v7 w7 hown7 hg7
              have HRA7 := Lib.hid (HRA6.out.kept hg7 (fun e => by have := (hown6.lt _ e.symm).1; omega) (fun e => by have := (hown6.lt _ e.symm).1; omega))
              have HOW7 : Hid (w7.ownsRow (R + 1) 3 1 v7 (o ++ [n]).length ((o ++ [n]).map nV)) := Lib.hid (by rw [List.length_append, List.map_append]; exact hown7)
              have hb7 : Below w.heap.size w w7 := hb6.grown hg7 (by omega) (fun j hj => by have := (hown6.lt j hj).1; omega)
              have hz7 : R + 1 ≤ w7.heap.size := by have := hg7.size; omega
              clear hown7 hg7 hb6 hown6 hrd6 hz6 hol6 HRA6
              go_wp2_with fail
              go_roundg cnt6
              case measure => omega
              case rel => exact ⟨o ++ [n], _, cnt6, Nat.le_refl _, HRA7, HL6, HO6, HOW7, hb7, hz7⟩
        · rw [List.concat_eq_append] at *
          have hkr : Reach E m k := HDF.out.re k (.inr (by simp))
          have hkN : k < N := by have := hkr.lt HLT.out; rw [HN.out] at this; exact this
          have hkE : k < E.length := by rw [HEL.out, HN.out]; exact hkN
          obtain ⟨u, hu⟩ : ∃ u, (T' ++ [k]).length = u := ⟨_, rfl⟩
          have HU : Hid (u = T'.length + 1) := Lib.hid (by rw [← hu]; simp)
          have HOW2 := HOW.out
          rw [hu] at HOW2
          obtain ⟨g, cap, rfl, hcap1, hcap2, g0, hpop⟩ := own_take HOW2 HU.out
          have hub : u ≤ 16785408 := by have := HBD.out; rw [hu] at this; omega
          have HUE := Lib.hid hu
          obtain ⟨t, ht⟩ : ∃ t, T'.length = t := ⟨_, rfl⟩
          have HT := Lib.hid ht
          rw [ht] at g0 hpop
          have hut : u = t + 1 := by rw [HU.out, ht]
          have i5 : (0 : Int) < (u : Int) := by omega
          have i6 : (0 : Int) ≤ (t : Int) := by omega
          have i7 : (t : Int) < (u : Int) := by omega
          have i8 : (t : Int) ≤ (cap : Int) := by omega
          have hw1 : IntKind.i64.wrap ((u : Int) - 1) = (t : Int) := by rw [show (u : Int) - 1 = (t : Int) by omega]; exact IntWalk.i64_in _ (by omega)
          have hlook := HMS.out.look k (by omega)
          have HPOP := Lib.hid hpop
          have HKN := Lib.hid hkN
          have HKE := Lib.hid hkE
          have HUT := Lib.hid hut
          have HUB := Lib.hid hub
          have i9 : (0 : Int) ≤ (k : Int) := by omega
          have i10 : (k : Int) < (N : Int) := by omega
          clear hu ht hut hub hpop hkr hcap1 hcap2 HOW2
          cases hc : S.contains k
          · rw [hc] at hlook
            have hno : k ∉ S := fun h => by rw [List.contains_iff_mem.2 h] at hc; cases hc
            have hSl : S.length ≤ N := by
              have := len_subN S (List.range N) HDF.out.nd (fun x hx => List.mem_range.2 (by have := (HDF.out.re x (.inl hx)).lt HLT.out; rw [HN.out] at this; exact this))
              simpa using this
            obtain ⟨w3, hup, hms3, hg3⟩ := HMS.out.store k (by omega) (by omega) hno
            have hGt := HRG.out.gt
            have hR3 : RowsG w3 G w1.heap.size E := HRG.out.step (fun j hj _ => hg3.block j (by omega) (fun e => by injection e with e; omega)) (fun i _ => World.cell?_of_block (a := ⟨G, i, none⟩) (hg3.block G (by omega) (fun e => by injection e with e; omega))) (by have := hg3.size; omega)
            obtain ⟨A2, c2, hcell, hrd, _⟩ := hR3.row k HKE.out
            have hp3 : w3.ownsRow (w1.heap.size + 1) 3 1 (.slice (some ⟨g, 0, none⟩) t cap) T'.length (T'.map nV) := by
              rw [HT.out]
              exact HPOP.out.kept hg3 (.inr (show some g ≠ some w1.heap.size from fun e => by have := (HPOP.out.lt g rfl).1; injection e with e; omega))
            have hdf := HDF.out.new hno HKE.out
            have hrest := restN_new hno HKE.out
            have hle := HBD.out
            rw [HUE.out] at hle
            generalize E[k]'HKE.out = row2 at *
            have hb3 : Below w.heap.size w w3 := hbel.grown hg3 (by omega) (fun j hj => by injection hj with hj; omega)
            have hz3 := hg3.size
            have HDF2 := Lib.hid hdf
            have HMS3 := Lib.hid hms3
            have HR3 := Lib.hid hR3
            have HREST := Lib.hid hrest
            have HLE := Lib.hid hle
            have hlens : T'.length + row2.length ≤ 17000000 := by have := HUT.out; rw [HT.out]; omega
            have hzz : w1.heap.size + 1 ≤ w3.heap.size := by omega
            clear hc hno hdf hms3 hR3 hrest hle hGt
            go_wp2_with (first
              | (at_builtin; refine wpList_append_row _ rfl _ _ rfl (w1.heap.size + 1) hzz _ T' rfl hp3 A2 c2 row2 rfl hrd hlens ?_)
              | fail)
            intro v4 w4 hown4 hg4
            have HOW4 : Hid (w4.ownsRow (w1.heap.size + 1) 3 1 v4 (T' ++ row2).length ((T' ++ row2).map nV)) := Lib.hid (by rw [List.length_append, List.map_append]; exact hown4)
            have hold : ∀ j, j < w1.heap.size + 1 → w4.heap[j]? = w3.heap[j]? := fun j hj => hg4.block j (by omega) (fun e => by have := (hp3.lt j e.symm).1; omega)
            have HMS4 : Hid (MapS w4 w1.heap.size (S ++ [k])) := Lib.hid (HMS3.out.kept hg4 (fun e => by have := (hp3.lt w1.heap.size e.symm).1; omega))
            have HR4 : Hid (RowsG w4 G w1.heap.size E) := Lib.hid (HR3.out.step (fun j hj _ => hold j (by omega)) (fun i _ => World.cell?_of_block (a := ⟨G, i, none⟩) (hold G (by have := HR3.out.gt; omega))) (by have := hg4.size; omega))
            have hb4 : Below w.heap.size w w4 := hb3.grown hg4 (by omega) (fun j hj => by have := (hp3.lt j hj).1; omega)
            have hz4 : w1.heap.size + 1 ≤ w4.heap.size := by have := hg4.size; omega
            clear hold hg4 hp3 hg3 hb3 hz3 hup hcell hrd hown4
            go_wp2_with fail
            go_roundg (restN E (S ++ [k]) + (T' ++ row2).length)
            case measure =>
              have h1 := HREST.out
              rw [HUE.out] at hk
              have h2 := HUT.out
              rw [List.length_append, HT.out]; omega
            case rel => exact ⟨S ++ [k], T' ++ row2, Nat.le_refl _, Lib.hid (by have h1 := HREST.out; have h2 := HUT.out; have h3 := HLE.out; rw [List.length_append, HT.out]; omega), HDF2, HOW4, HMS4, HR4, hb4, hz4⟩
          · rw [hc] at hlook
            have HDF2 := Lib.hid (HDF.out.old (List.contains_iff_mem.1 hc))
            clear hc
            go_wp2_with fail
            go_roundg (restN E S + t)
            case measure => rw [HUE.out] at hk; have := HUT.out; omega
            case rel => exact ⟨S, T', by rw [HT.out]; exact Nat.le_refl _, Lib.hid (by have := HBD.out; rw [HUE.out] at this; rw [HT.out]; have := HUT.out; omega), HDF2, Lib.hid (by rw [HT.out]; exact HPOP.out), HMS, HRG, hbel, hwz⟩
    · have hA : AboveIs ns (xs.map TxAt.l) n [] 1 := ⟨0, 0, HC.out, .inr ⟨rfl, .inl ⟨by rw [HN.out]; exact hin, rfl, rfl⟩⟩⟩
      have HA := Lib.hid hA
      have HNP := HN.out
      clear hA HR HEE HEL HLT HRL HC
      by_cases h0 : n < 0
      · clear hin
        go_wp2_with fail
        refine bodyPost_ret (v := .tuple #[.slice none 0 0, .int .i64 1]) (by simp [results, Try.results12, go_sem]) rfl ⟨_, 1, [], rfl, HA.out, ⟨none, 0, rfl, RdL.nil_ _ _ _⟩, by simp, hb1⟩
      · have h1 : (N : Int) ≤ n := by omega
        have h2 : (0 : Int) ≤ n := by omega
        clear hin HNP
        go_wp2_with fail
        refine bodyPost_ret (v := .tuple #[.slice none 0 0, .int .i64 1]) (by simp [results, Try.results12, go_sem]) rfl ⟨_, 1, rfl, [], HA.out, ⟨none, ⟨0, rfl⟩, RdL.nil_ _ _ _⟩, by simp, hb1⟩
  · have hv := hv0 hz
    subst hv
    have hO : AboveIs ns (xs.map TxAt.l) n [] e0 := ⟨n0, e0, hC, .inl ⟨hz, rfl, rfl⟩⟩
    have HO := Lib.hid hO
    have hzb : (e0 != 0) = true := by rw [bne_iff_ne]; exact hz
    clear hC hv0 hv1 hO hz hmm
    go_wp2_with fail
    refine bodyPost_ret (v := .tuple #[.slice none 0 0, .int .i64 e0]) (by simp [results, Try.results12, go_sem]) rfl ⟨_, e0, [], rfl, HO.out, ⟨none, 0, rfl, RdL.nil_ _ _ _⟩, by simp, hb1⟩
end Go.Proofs.Ythmmfghcfgbblaa
