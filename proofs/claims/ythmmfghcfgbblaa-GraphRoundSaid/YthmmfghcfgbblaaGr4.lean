/- graph.edges, walked. -/
import Derived.Test.YthmmfghcfgbblaaGr3b
set_option linter.unusedSimpArgs false
set_option linter.unusedVariables false
namespace Go.Proofs.Ythmmfghcfgbblaa
open Go.RowKit Go.Sort Go.Lib Go.ChangeMaps Go.WideShapes

theorem MapG.same {w w' : World} {b : Nat} {ns : List Tx} (h : MapG w b ns) (hb : w'.heap[b]? = w.heap[b]?) : MapG w' b ns := by
  obtain ⟨D, ⟨es, clock, h1, h2⟩, h3⟩ := h
  exact ⟨D, ⟨es, clock, hb.trans h1, h2⟩, h3⟩
theorem MapG.lt {w : World} {b : Nat} {ns : List Tx} (h : MapG w b ns) : b < w.heap.size := by
  obtain ⟨D, h1, _⟩ := h
  exact h1.lt
theorem made_at (z : Value) (n i : Nat) (h : i < n) : (madeCells #[z] n)[i]? = some z := by
  simp [madeCells, h, Nat.mod_one]
theorem edges_take (ns : List Tx) (nd : List (List Tx)) (j : Nat) (h : j < nd.length) : (edgesL ns nd).take (j + 1) = (edgesL ns nd).take j ++ [(nd[j]'h).map fun s => ns.idxOf s] := by
  unfold edgesL
  rw [List.take_succ_eq_append_getElem (by simpa using h)]
  simp
theorem dupAt_contains {ns : List Tx} {i : Nat} (h : i < ns.length) : dupAt ns i ↔ (ns.take i).contains (ns[i]'h) = true := by
  unfold dupAt
  rw [List.contains_iff_mem]
  constructor
  · rintro ⟨s, hs, ht⟩
    rw [List.getElem?_eq_getElem h] at hs
    cases hs
    exact ht
  · exact fun ht => ⟨_, List.getElem?_eq_getElem h, ht⟩
set_option maxRecDepth 100000 in
set_option maxHeartbeats 1600000 in
theorem edges_any (A D : Option Addr) (ns : List Tx) (xs : List TxAt) (c cd : Nat) (w : World) (hA : RdL w 1 A (ns.map tC)) (hD : RdL w 1 D (xs.map TxAt.cells)) (hx : ∀ x ∈ xs, x.ok w) (hn : ns.length ≤ 9223372036854775807) (hm : xs.length ≤ 9223372036854775807) (hs : ∀ s ∈ ns, s.length ≤ 9223372036854775807) (hxl : ∀ x ∈ xs, x.l.length ≤ 4096) :
    Calls Try.prog 14 #[.slice A ns.length c, .slice D xs.length cd] w fun e w' => ∃ v n r, e = .returned (.tuple #[v, .int .i64 n, .int .i64 r]) ∧ CheckIs ns (xs.map TxAt.l) n r ∧ (r ≠ 0 → v = .slice none 0 0) ∧ (r = 0 → ∃ G, v = .slice (some ⟨G, 0, none⟩) ns.length ns.length ∧ RowsG w' G w'.heap.size (edgesL ns (xs.map TxAt.l))) ∧ Below w.heap.size w w' := by
  have HA := Lib.hid hA
  have HD := Lib.hid hD
  have HX := Lib.hid hx
  have HS := Lib.hid hs
  have HXL := Lib.hid hxl
  clear hA hD hx hs hxl
  by_cases h1 : ns.length = xs.length
  · by_cases h2 : 4096 < ns.length
    · have i1 : (4096 : Int) < (xs.length : Int) := by omega
      have hC : CheckIs ns (xs.map TxAt.l) 0 1 := .inl ⟨.inr h2, rfl, rfl⟩
      rw [h1]
      clear h2
      go_enter Try.func14, Try.ntmps14
      go_wp2_with fail
      refine bodyPost_ret (v := .tuple #[.slice none 0 0, .int .i64 0, .int .i64 1]) (by simp [results, Try.results14, go_sem]) rfl ⟨_, 0, 1, rfl, hC, fun _ => rfl, fun h => absurd h (by omega), (by repeat' (first | (with_reducible exact Below.refl _ _) | (with_reducible assumption) | (with_reducible refine Below.drew ?_) | (with_reducible refine below_drewN ?_ _) | (with_reducible refine below_iterAt ?_ ?_ _ _) | (with_reducible refine below_iter ?_ ?_ _ _) | (with_reducible refine Below.alloc ?_ ?_ _) | (with_reducible refine Below.setCell ?_ ?_ _) | (with_reducible refine Below.trans ?_ (Below.mono (by assumption) ?_)) | (simp only [sz_alloc, sz_set, sz_drew, sz_drewN, sz_iterAt, sz_iter] at *; omega) | omega | (simp; done) | (simp; omega) | (apply Below.size; assumption) | (simp only [sz_drew, sz_drewN]; apply Below.size; assumption) | (refine Nat.le_trans ?_ (Below.size (by assumption)))))⟩
    · have i1 : ¬ (4096 : Int) < (ns.length : Int) := by omega
      have hb : ¬ (ns.length ≠ (xs.map TxAt.l).length ∨ 4096 < ns.length) := by simp; omega
      have HBB := Lib.hid hb
      have HL := Lib.hid h1
      have hn4 : ns.length ≤ 4096 := by omega
      have e1 : ((ns.length : Int) != (xs.length : Int)) = false := by rw [h1]; simp
      have hmk : ∀ W : World, (Instr.makeMap 48 none).run Try.prog W = .ok (.map (some W.heap.size)) (W.alloc (.map #[] 0)) := fun W => rfl
      clear h1 h2 hb
      go_enter Try.func14, Try.ntmps14
      go_wp2_with fail
      go_loopg [32] ns.length (fun k iv wr => ∃ j : Nat, j ≤ ns.length ∧ ns.length - j ≤ k ∧ iv = .int .i64 j ∧ Hid (MapG wr w.heap.size (ns.take j)) ∧ Hid (∀ i, i < j → ¬ dupAt ns i) ∧ Below w.heap.size w wr)
      case atStart => exact ⟨0, by omega, by omega, rfl, Lib.hid (MapG.made w), Lib.hid (fun i hi => absurd hi (by omega)), (by repeat' (first | (with_reducible exact Below.refl _ _) | (with_reducible assumption) | (with_reducible refine Below.drew ?_) | (with_reducible refine below_drewN ?_ _) | (with_reducible refine below_iterAt ?_ ?_ _ _) | (with_reducible refine below_iter ?_ ?_ _ _) | (with_reducible refine Below.alloc ?_ ?_ _) | (with_reducible refine Below.setCell ?_ ?_ _) | (with_reducible refine Below.trans ?_ (Below.mono (by assumption) ?_)) | (simp only [sz_alloc, sz_set, sz_drew, sz_drewN, sz_iterAt, sz_iter] at *; omega) | omega | (simp; done) | (simp; omega) | (apply Below.size; assumption) | (simp only [sz_drew, sz_drewN]; apply Below.size; assumption) | (refine Nat.le_trans ?_ (Below.size (by assumption)))))⟩
      case round =>
        clear e1 i1
        obtain ⟨j, hj, hjk, rfl, HMG, HI, hbel⟩ := hrel
        have hsz := hbel.size
        by_cases hlt : j < ns.length
        · obtain ⟨b, off, hbe, g0⟩ := rdT_at (HA.out.below hbel) hlt
          subst hbe
          have i1 : (0 : Int) ≤ (j : Int) := by omega
          have i2 : (j : Int) < (ns.length : Int) := by omega
          have hdi := dupAt_contains hlt
          have hsl := HS.out _ (List.getElem_mem hlt)
          have htk : ns.take (j + 1) = ns.take j ++ [ns[j]'hlt] := List.take_succ_eq_append_getElem hlt
          have htl : (ns.take j).length = j := by simp; omega
          generalize ns[j]'hlt = x at *
          obtain ⟨cc, hlk, _⟩ := HMG.out.look x hsl
          have HDI := Lib.hid hdi
          clear hdi
          cases hd : (ns.take j).contains x
          · have hst := HMG.out.store x hsl (by rw [htl]; omega) (fun h => by rw [(List.contains_iff_mem).2 h] at hd; cases hd)
            rw [htl, ← htk] at hst
            obtain ⟨w2, hrun, hmg, hgr⟩ := hst
            have HJ : Hid (∀ i, i < j + 1 → ¬ dupAt ns i) := Lib.hid (fun i hi hdd => by
              rcases Nat.lt_or_ge i j with h | h
              · exact HI.out i h hdd
              · have : i = j := by omega
                subst this
                rw [HDI.out.1 hdd] at hd; cases hd)
            have hb2 : Below w.heap.size w w2 := hbel.grown hgr hsz (fun g hg => by cases hg; exact Nat.le_refl _)
            have HMG2 := Lib.hid hmg
            rw [hd] at hlk
            clear htk htl hmg hgr HMG hd
            go_wp2_with fail
            go_roundg (ns.length - (j + 1))
            case measure => omega
            case rel => exact ⟨j + 1, by omega, by omega, by go_num, HMG2, HJ, hb2⟩
          · have hC : CheckIs ns (xs.map TxAt.l) (j : Int) 7 := .inr ⟨HBB.out, .inl ⟨j, hlt, HDI.out.2 hd, HI.out, rfl, rfl⟩⟩
            have HC := Lib.hid hC
            rw [hd] at hlk
            clear hC htk htl hd
            go_wp2_with fail
            refine bodyPost_ret (v := .tuple #[.slice none 0 0, .int .i64 j, .int .i64 7]) (by simp [results, Try.results14, go_sem]) rfl ⟨_, j, 7, rfl, HC.out, fun _ => rfl, fun h => absurd h (by omega), (by repeat' (first | (with_reducible exact Below.refl _ _) | (with_reducible assumption) | (with_reducible refine Below.drew ?_) | (with_reducible refine below_drewN ?_ _) | (with_reducible refine below_iterAt ?_ ?_ _ _) | (with_reducible refine below_iter ?_ ?_ _ _) | (with_reducible refine Below.alloc ?_ ?_ _) | (with_reducible refine Below.setCell ?_ ?_ _) | (with_reducible refine Below.trans ?_ (Below.mono (by assumption) ?_)) | (simp only [sz_alloc, sz_set, sz_drew, sz_drewN, sz_iterAt, sz_iter] at *; omega) | omega | (simp; done) | (simp; omega) | (apply Below.size; assumption) | (simp only [sz_drew, sz_drewN]; apply Below.size; assumption) | (refine Nat.le_trans ?_ (Below.size (by assumption)))))⟩
        · have i2 : ¬ (j : Int) < (ns.length : Int) := by omega
          have HND : Hid (∀ i, i < ns.length → ¬ dupAt ns i) := Lib.hid (fun i hi => HI.out i (by omega))
          have hmg := HMG.out
          rw [List.take_of_length_le (by omega)] at hmg
          have HMN := Lib.hid hmg
          clear hmg HMG HI
          obtain ⟨i0, hinf, hz0, hsz0, hby0⟩ := info_parts (show (Try.prog.info? 26).map (fun i => (i.zero, i.size, i.bytes)) = some (some (.slice none 0 0), 1, 24) by kernel_rfl)
          obtain ⟨j0, jinf, jz, jsz, jby⟩ := info_parts (show (Try.prog.info? 3).map (fun i => (i.zero, i.size, i.bytes)) = some (some (.int .i64 0), 1, 8) by kernel_rfl)
          have hms : (Instr.makeSlice 35 (.int .i64 (ns.length : Int)) (.int .i64 (ns.length : Int))).run Try.prog wr = .ok (.slice (some ⟨wr.heap.size, 0, none⟩) ns.length ns.length) (wr.alloc (.cells (madeCells #[.slice none 0 0] ns.length) 26)) := by
            have h := run_make (P := Try.prog) wr 35 26 i0 (.slice none 0 0) Try.underlying35 hinf hz0 .i64 .i64 ns.length ns.length (by omega) (Int.le_refl _) (by rw [hby0]; omega) (by omega)
            simpa [hsz0, Value.cells] using h
          obtain ⟨G, hG⟩ : ∃ G, G = wr.heap.size := ⟨_, rfl⟩
          have hGw : w.heap.size < G := by rw [hG]; exact HMN.out.lt
          have hGs : G < (wr.alloc (.cells (madeCells #[.slice none 0 0] ns.length) 26)).heap.size := by rw [hG]; simp
          have hGb : (wr.alloc (.cells (madeCells #[.slice none 0 0] ns.length) 26)).heap[G]? = some (.cells (madeCells #[.slice none 0 0] ns.length) 26) := by rw [hG]; exact heap_alloc_new wr _
          rw [← hG] at hms
          have hbz : Below w.heap.size w (wr.alloc (.cells (madeCells #[.slice none 0 0] ns.length) 26)) := (by repeat' (first | (with_reducible exact Below.refl _ _) | (with_reducible assumption) | (with_reducible refine Below.drew ?_) | (with_reducible refine below_drewN ?_ _) | (with_reducible refine below_iterAt ?_ ?_ _ _) | (with_reducible refine below_iter ?_ ?_ _ _) | (with_reducible refine Below.alloc ?_ ?_ _) | (with_reducible refine Below.setCell ?_ ?_ _) | (with_reducible refine Below.trans ?_ (Below.mono (by assumption) ?_)) | (simp only [sz_alloc, sz_set, sz_drew, sz_drewN, sz_iterAt, sz_iter] at *; omega) | omega | (simp; done) | (simp; omega) | (apply Below.size; assumption) | (simp only [sz_drew, sz_drewN]; apply Below.size; assumption) | (refine Nat.le_trans ?_ (Below.size (by assumption)))))
          have hmz : MapG (wr.alloc (.cells (madeCells #[.slice none 0 0] ns.length) 26)) w.heap.size ns := HMN.out.below (by repeat' (first | (with_reducible exact Below.refl _ _) | (with_reducible assumption) | (with_reducible refine Below.drew ?_) | (with_reducible refine below_drewN ?_ _) | (with_reducible refine below_iterAt ?_ ?_ _ _) | (with_reducible refine below_iter ?_ ?_ _ _) | (with_reducible refine Below.alloc ?_ ?_ _) | (with_reducible refine Below.setCell ?_ ?_ _) | (with_reducible refine Below.trans ?_ (Below.mono (by assumption) ?_)) | (simp only [sz_alloc, sz_set, sz_drew, sz_drewN, sz_iterAt, sz_iter] at *; omega) | omega | (simp; done) | (simp; omega) | (apply Below.size; assumption) | (simp only [sz_drew, sz_drewN]; apply Below.size; assumption) | (refine Nat.le_trans ?_ (Below.size (by assumption)))))
          have hnil : ∀ i, 0 ≤ i → i < ns.length → (wr.alloc (.cells (madeCells #[.slice none 0 0] ns.length) 26)).cell? ⟨G, i, none⟩ = some (.slice none 0 0) := fun i _ hi => by rw [cell_of_block hGb, made_at _ _ _ hi]
          have hfree : ∀ o, (wr.alloc (.cells (madeCells #[.slice none 0 0] ns.length) 26)).frozen? ⟨G, o, none⟩ = false := fun o => by simp only [World.frozen?, hGb]; simp
          have HNIL := Lib.hid hnil
          have HFREE := Lib.hid hfree
          have HMZ := Lib.hid hmz
          have HBZ := Lib.hid hbz
          have HGS := Lib.hid hGs
          clear hG hGb hnil hfree hmz hbz HMN hGs
          go_wp2_with fail
          clear hms
          generalize wr.alloc (.cells (madeCells #[.slice none 0 0] ns.length) 26) = wz at *
          go_loopg [54] xs.length (fun k iv wq => ∃ j : Nat, j ≤ xs.length ∧ xs.length - j ≤ k ∧ iv = .int .i64 j ∧ Hid (∀ i, i < j → ¬ missAt ns (xs.map TxAt.l) i) ∧ Hid (RowsG wq G wq.heap.size ((edgesL ns (xs.map TxAt.l)).take j)) ∧ Hid (∀ i, j ≤ i → i < ns.length → wq.cell? ⟨G, i, none⟩ = some (.slice none 0 0)) ∧ Hid (∀ o, wq.frozen? ⟨G, o, none⟩ = false) ∧ Hid (MapG wq w.heap.size ns) ∧ Below w.heap.size w wq)
          case atStart => exact ⟨0, by omega, by omega, rfl, Lib.hid (fun i hi => absurd hi (by omega)), Lib.hid ⟨fun i hi => by simp at hi, HGS.out, Nat.le_refl _⟩, HNIL, HFREE, HMZ, HBZ.out⟩
          case round =>
            clear i2 hj hjk hlt hsz hbel
            obtain ⟨j, hj, hjk, rfl, HI, HROW, HNI, HFR, HMP, hbel⟩ := hrel
            have hsz := hbel.size
            by_cases hlt : j < xs.length
            · have hjn : j < ns.length := by have := HL.out; omega
              obtain ⟨b, off, hbe, g0⟩ := rdA_at (HD.out.below hbel) hlt
              subst hbe
              have i1 : (0 : Int) ≤ (j : Int) := by omega
              have i2 : (j : Int) < (xs.length : Int) := by omega
              have i5 : (j : Int) < (ns.length : Int) := by omega
              have hxo := (HX.out _ (List.getElem_mem hlt))
              have hndl : j < (xs.map TxAt.l).length := by simpa using hlt
              have hnde : (xs.map TxAt.l)[j]'hndl = (xs[j]'hlt).l := by simp
              have het := edges_take ns (xs.map TxAt.l) j hndl
              rw [hnde] at het
              have hel : ((edgesL ns (xs.map TxAt.l)).take j).length = j := by unfold edgesL; simp; omega
              have hmi : missAt ns (xs.map TxAt.l) j ↔ ∃ s ∈ (xs[j]'hlt).l, s ∉ ns := by
                unfold missAt
                rw [List.getElem?_map, List.getElem?_eq_getElem hlt]
                constructor
                · rintro ⟨l, hl, h⟩
                  cases hl
                  exact h
                · intro h
                  exact ⟨_, rfl, h⟩
              have hx4 := HXL.out _ (List.getElem_mem hlt)
              clear hnde
              generalize xs[j]'hlt = x at *
              obtain ⟨xl, xA, xc⟩ := x
              dsimp only at g0 het hmi hx4
              generalize hE : (edgesL ns (xs.map TxAt.l)).take j = E at *
              have HMI := Lib.hid hmi
              have HXO := Lib.hid hxo
              have HET := Lib.hid het
              have HEL := Lib.hid hel
              have hxn : xl.length ≤ 9223372036854775807 := hxo.len
              have hfill : FillG wr G wr.heap.size ns.length E (.slice none 0 0) [] := ⟨HROW.out, by rw [HEL.out]; exact HNI.out j (by omega) hjn, World.ownsRow_nil wr _ _ _, fun i h1 h2 => HNI.out i (by rw [HEL.out] at h1; omega) h2, HFR.out⟩
              have HF0 := Lib.hid hfill
              obtain ⟨top, htop⟩ : ∃ top, wr.heap.size = top := ⟨_, rfl⟩
              rw [htop] at HF0
              have HTOP := Lib.hid htop
              have htw : w.heap.size ≤ top := by omega
              clear hmi hxo het hel hE hfill htop HROW HNI HFR hsz
              go_wp2_with fail
              go_loopg [61] xl.length (fun k iv wq => ∃ (q : Nat) (v : Value), q ≤ xl.length ∧ xl.length - q ≤ k ∧ iv = .int .i64 q ∧ Hid (∀ s ∈ xl.take q, s ∈ ns) ∧ Hid (FillG wq G top ns.length E v ((xl.take q).map fun s => ns.idxOf s)) ∧ Hid (MapG wq w.heap.size ns) ∧ Below w.heap.size w wq)
              case atStart => exact ⟨0, _, by omega, by omega, rfl, Lib.hid (fun s hs => by simp at hs), HF0, HMP, hbel⟩
              case round =>
                clear HF0 HMP g0 hbel
                obtain ⟨q, v, hq, hqk, rfl, HQ, HF, HMP, hbel⟩ := hrel
                have hsz := hbel.size
                by_cases hlq : q < xl.length
                · obtain ⟨b', off', hbe, g1⟩ := rdT_at (HXO.out.below hbel).rd hlq
                  have i3 : (0 : Int) ≤ (q : Int) := by omega
                  have i4 : (q : Int) < (xl.length : Int) := by omega
                  have htk : xl.take (q + 1) = xl.take q ++ [xl[q]'hlq] := List.take_succ_eq_append_getElem hlq
                  have hmem : xl[q]'hlq ∈ xl := List.getElem_mem hlq
                  have hsl := HXO.out.str _ hmem
                  generalize xl[q]'hlq = s at *
                  obtain ⟨cc, hlk, hcc⟩ := HMP.out.look s hsl
                  subst hbe
                  by_cases hsn : s ∈ ns
                  · have HJ : Hid (∀ s ∈ xl.take (q + 1), s ∈ ns) := Lib.hid (by
                      rw [htk]
                      intro t ht
                      rcases List.mem_append.1 ht with h | h
                      · exact HQ.out t h
                      · rw [List.mem_singleton.1 h]; exact hsn)
                    have hmp : (xl.take (q + 1)).map (fun s => ns.idxOf s) = (xl.take q).map (fun s => ns.idxOf s) ++ [ns.idxOf s] := by rw [htk]; simp
                    have hql : ((xl.take q).map fun s => ns.idxOf s).length = q := by simp; omega
                    rw [hcc hsn, (List.contains_iff_mem).2 hsn] at hlk
                    have kc : wr.cell? ⟨G, j, none⟩ = some v := by rw [← HEL.out]; exact HF.out.cell
                    generalize hni : ns.idxOf s = n at *
                    generalize (xl.take q).map (fun s => ns.idxOf s) = R at *
                    have HMPP := Lib.hid hmp
                    have hown := HF.out.own
                    have HQL := Lib.hid hql
                    have hgl : G < top := HF.out.rows.gt
                    have htl : top ≤ wr.heap.size := HF.out.rows.le
                    clear htk hmem hcc hmp hni hsn hql
                    go_wp2_with (first
                      | (at_builtin; refine wpList_append_own _ rfl _ _ 26 rfl top 3 j0 (.int .i64 0) 1 8 Try.underlying26 jinf jz jsz jby rfl (by decide) _ _ _ rfl (hown.alloc _) ⟨wr.heap.size, 0, none⟩ 1 1 [.int .i64 (n : Int)] rfl rfl ?c1_1 ?c2_1 ?c3_1 ?c4_1 ?c5_1 ?_)
                      | fail)
                    try case c1_1 =>
                      intro i u hu
                      match i, hu with
                      | 0, hu => simp at hu; subst hu; simp [Addr.add]
                    case c2_1 => first | exact ⟨rfl, rfl⟩ | (intro u hu; simp at hu; subst hu; rfl)
                    case c3_1 => have := HQL.out; unfold maxLen; omega
                    case c4_1 => have := HQL.out; omega
                    case c5_1 => (try simp); omega
                    intro v1 w1 hown1 hg1 _
                    have o1 : w1.ownsRow top 3 1 v1 (R ++ [n]).length ((R ++ [n]).map nV) := by
                      rw [List.length_append, List.map_append]; exact hown1
                    obtain ⟨A1, c1', hv1, _, _⟩ := own_rdI o1
                    obtain ⟨L, hL⟩ : ∃ L, (R ++ [n]).length = L := ⟨_, rfl⟩
                    rw [hL] at hv1
                    subst hv1
                    clear hL
                    have hba : Below wr.heap.size wr (wr.alloc (.cells #[.int .i64 (n : Int)] 3)) := (by repeat' (first | (with_reducible exact Below.refl _ _) | (with_reducible assumption) | (with_reducible refine Below.drew ?_) | (with_reducible refine below_drewN ?_ _) | (with_reducible refine below_iterAt ?_ ?_ _ _) | (with_reducible refine below_iter ?_ ?_ _ _) | (with_reducible refine Below.alloc ?_ ?_ _) | (with_reducible refine Below.setCell ?_ ?_ _) | (with_reducible refine Below.trans ?_ (Below.mono (by assumption) ?_)) | (simp only [sz_alloc, sz_set, sz_drew, sz_drewN, sz_iterAt, sz_iter] at *; omega) | omega | (simp; done) | (simp; omega) | (apply Below.size; assumption) | (simp only [sz_drew, sz_drewN]; apply Below.size; assumption) | (refine Nat.le_trans ?_ (Below.size (by assumption)))))
                    have hmore := FillG.more HF.out (by rw [HEL.out]; omega) hba o1 hg1
                    have hsame := FillG.same HF.out hba hg1
                    have q1 : ∀ o, w1.cell? ⟨G, o, none⟩ = wr.cell? ⟨G, o, none⟩ := fun o => World.cell?_of_block (a := ⟨G, o, none⟩) (hsame G hgl)
                    have q2 : ∀ o, w1.frozen? ⟨G, o, none⟩ = false := fun o => (World.frozen?_of_block (a := ⟨G, o, none⟩) (hsame G hgl)).trans (HF.out.free o)
                    have hb1 : Below w.heap.size w w1 := (hbel.alloc hsz _).grown hg1 (by simp; omega) (fun g hg => by have := (hown.lt g hg).1; omega)
                    have hmg1 : MapG (w1.setCell ⟨G, j, none⟩ (.slice A1 L c1')) w.heap.size ns := HMP.out.same (by
                      rw [heap_setCell_other w1 ⟨G, j, none⟩ _ (.slice A1 L c1') (by show w.heap.size ≠ G; omega)]
                      exact hsame _ (by omega))
                    rw [HEL.out, ← HMPP.out] at hmore
                    have HMORE := Lib.hid hmore
                    have HMG1 := Lib.hid hmg1
                    have hb2 : Below w.heap.size w (w1.setCell ⟨G, j, none⟩ (.slice A1 L c1')) := hb1.setCell (by show w.heap.size ≤ G; omega) _
                    clear hown hown1 hg1 o1 hba hmore hsame hmg1
                    go_wp2_with fail
                    go_roundg (xl.length - (q + 1))
                    case measure => omega
                    case rel => exact ⟨q + 1, _, by omega, by omega, by go_num, HJ, HMORE, HMG1, hb2⟩
                  · have hC : CheckIs ns (xs.map TxAt.l) (j : Int) 12 := .inr ⟨HBB.out, .inr ⟨HND.out, .inl ⟨j, hndl, HMI.out.2 ⟨s, hmem, hsn⟩, HI.out, rfl, rfl⟩⟩⟩
                    have HC := Lib.hid hC
                    have hcf : ns.contains s = false := by
                      cases h : ns.contains s
                      · rfl
                      · exact absurd ((List.contains_iff_mem).1 h) hsn
                    rw [hcf] at hlk
                    clear hC hcf htk hmem hcc hsn
                    go_wp2_with fail
                    refine bodyPost_ret (v := .tuple #[.slice none 0 0, .int .i64 j, .int .i64 12]) (by simp [results, Try.results14, go_sem]) rfl ⟨_, j, 12, rfl, HC.out, fun _ => rfl, fun h => absurd h (by omega), (by repeat' (first | (with_reducible exact Below.refl _ _) | (with_reducible assumption) | (with_reducible refine Below.drew ?_) | (with_reducible refine below_drewN ?_ _) | (with_reducible refine below_iterAt ?_ ?_ _ _) | (with_reducible refine below_iter ?_ ?_ _ _) | (with_reducible refine Below.alloc ?_ ?_ _) | (with_reducible refine Below.setCell ?_ ?_ _) | (with_reducible refine Below.trans ?_ (Below.mono (by assumption) ?_)) | (simp only [sz_alloc, sz_set, sz_drew, sz_drewN, sz_iterAt, sz_iter] at *; omega) | omega | (simp; done) | (simp; omega) | (apply Below.size; assumption) | (simp only [sz_drew, sz_drewN]; apply Below.size; assumption) | (refine Nat.le_trans ?_ (Below.size (by assumption)))))⟩
                · have i4 : ¬ (q : Int) < (xl.length : Int) := by omega
                  have HJ : Hid (∀ i, i < j + 1 → ¬ missAt ns (xs.map TxAt.l) i) := Lib.hid (fun i hi hdd => by
                    rcases Nat.lt_or_ge i j with h | h
                    · exact HI.out i h hdd
                    · have : i = j := by omega
                      subst this
                      obtain ⟨s, hs, hns⟩ := HMI.out.1 hdd
                      refine hns (HQ.out s ?_)
                      rw [List.take_of_length_le (by omega)]; exact hs)
                  have hf := HF.out
                  rw [List.take_of_length_le (by omega)] at hf
                  have hrows := RowsG.add (l := xl.map fun s => ns.idxOf s) hf.rows hf.cell hf.own
                  rw [← HET.out] at hrows
                  have HROWS := Lib.hid hrows
                  have HNI2 : Hid (∀ i, j + 1 ≤ i → i < ns.length → wr.cell? ⟨G, i, none⟩ = some (.slice none 0 0)) := Lib.hid (fun i h1 h2 => hf.nil i (by rw [HEL.out]; omega) h2)
                  have HFR2 := Lib.hid hf.free
                  clear hf hrows HF
                  go_wp2_with fail
                  go_roundg (xs.length - (j + 1))
                  case measure => omega
                  case rel => exact ⟨j + 1, by omega, by omega, by go_num, HJ, HROWS, HNI2, HFR2, HMP, hbel⟩
            · have i2 : ¬ (j : Int) < (xs.length : Int) := by omega
              have hC : CheckIs ns (xs.map TxAt.l) 0 0 := .inr ⟨HBB.out, .inr ⟨HND.out, .inr ⟨fun i hi => HI.out i (by simp at hi; omega), rfl, rfl⟩⟩⟩
              have HC := Lib.hid hC
              have hrows := HROW.out
              rw [List.take_of_length_le (by unfold edgesL; simp; omega)] at hrows
              have HROWS := Lib.hid hrows
              clear hC hrows HROW HNI HFR HMP
              go_wp2_with fail
              refine bodyPost_ret (v := .tuple #[.slice (some ⟨G, 0, none⟩) ns.length ns.length, .int .i64 0, .int .i64 0]) (by simp [results, Try.results14, go_sem]) rfl ⟨_, 0, 0, rfl, HC.out, fun h => absurd rfl h, fun _ => ⟨G, rfl, HROWS.out⟩, hbel⟩
  · have hC : CheckIs ns (xs.map TxAt.l) 0 1 := .inl ⟨.inl (by simpa using h1), rfl, rfl⟩
    have e1 : ((ns.length : Int) != (xs.length : Int)) = true := by rw [bne_iff_ne]; omega
    clear h1
    go_enter Try.func14, Try.ntmps14
    go_wp2_with fail
    refine bodyPost_ret (v := .tuple #[.slice none 0 0, .int .i64 0, .int .i64 1]) (by simp [results, Try.results14, go_sem]) rfl ⟨_, 0, 1, rfl, hC, fun _ => rfl, fun h => absurd h (by omega), (by repeat' (first | (with_reducible exact Below.refl _ _) | (with_reducible assumption) | (with_reducible refine Below.drew ?_) | (with_reducible refine below_drewN ?_ _) | (with_reducible refine below_iterAt ?_ ?_ _ _) | (with_reducible refine below_iter ?_ ?_ _ _) | (with_reducible refine Below.alloc ?_ ?_ _) | (with_reducible refine Below.setCell ?_ ?_ _) | (with_reducible refine Below.trans ?_ (Below.mono (by assumption) ?_)) | (simp only [sz_alloc, sz_set, sz_drew, sz_drewN, sz_iterAt, sz_iter] at *; omega) | omega | (simp; done) | (simp; omega) | (apply Below.size; assumption) | (simp only [sz_drew, sz_drewN]; apply Below.size; assumption) | (refine Nat.le_trans ?_ (Below.size (by assumption)))))⟩
end Go.Proofs.Ythmmfghcfgbblaa
