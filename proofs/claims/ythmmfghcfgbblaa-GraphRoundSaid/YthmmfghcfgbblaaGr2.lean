/- soffitref01.Ints, small, soffitref18.check, walked. -/
import Derived.Test.YthmmfghcfgbblaaGr1
set_option linter.unusedSimpArgs false
set_option linter.unusedVariables false
namespace Go.Proofs.Ythmmfghcfgbblaa
open Go.RowKit Go.Sort Go.Lib

theorem rdI_at {w : World} {A : Option Addr} {l : List Nat} (hr : RdL w 1 A (l.map iC)) {j : Nat} (h : j < l.length) : ∃ b off, A = some ⟨b, off, none⟩ ∧ w.cell? ⟨b, off + j, none⟩ = some (.int .i64 ((l[j]'h : Nat) : Int)) := by
  obtain ⟨b, off, rfl, hx⟩ := hr.at_ h
  refine ⟨b, off, rfl, ?_⟩
  have := hx.get 0 (v := .int .i64 ((l[j]'h : Nat) : Int)) rfl
  simpa using this
theorem rdA_at {w : World} {D : Option Addr} {xs : List TxAt} (hr : RdL w 1 D (xs.map TxAt.cells)) {j : Nat} (h : j < xs.length) : ∃ b off, D = some ⟨b, off, none⟩ ∧ w.cell? ⟨b, off + j, none⟩ = some (.slice (xs[j]'h).A (xs[j]'h).l.length (xs[j]'h).c) := by
  obtain ⟨b, off, rfl, hx⟩ := hr.at_ h
  refine ⟨b, off, rfl, ?_⟩
  have := hx.get 0 (v := .slice (xs[j]'h).A (xs[j]'h).l.length (xs[j]'h).c) rfl
  simpa using this
set_option maxHeartbeats 800000 in
/-- two lists of the same numbers are the same -/
theorem ints_any (A B : Option Addr) (l : List Nat) (ca cb : Nat) (w : World) (hA : RdL w 1 A (l.map iC)) (hB : RdL w 1 B (l.map iC)) (hn : l.length ≤ 9223372036854775807) :
    Calls Try.prog 11 #[.slice A l.length ca, .slice B l.length cb] w fun e w' => e = .returned (.bool true) ∧ Below w.heap.size w w' := by
  have HA := Lib.hid hA
  have HB := Lib.hid hB
  clear hA hB
  go_enter Try.func11, Try.ntmps11
  go_wp2_with fail
  go_loopg [5] l.length (fun k iv wr => ∃ j : Nat, j ≤ l.length ∧ l.length - j ≤ k ∧ iv = .int .i64 j ∧ Below w.heap.size w wr)
  case atStart => exact ⟨0, by omega, by omega, rfl, Below.refl _ _⟩
  case round =>
    obtain ⟨j, hj, hjk, rfl, hbel⟩ := hrel
    by_cases hlt : j < l.length
    · obtain ⟨b, off, hbe, g0⟩ := rdI_at (HA.out.below hbel) hlt
      subst hbe
      obtain ⟨b', off', hbe, g1⟩ := rdI_at (HB.out.below hbel) hlt
      subst hbe
      generalize ((l[j]'hlt : Nat) : Int) = x at *
      have i1 : (0 : Int) ≤ (j : Int) := by omega
      have i2 : (j : Int) < (l.length : Int) := by omega
      go_wp2_with fail
      go_quiet (fail)
      go_wp2_with fail
      go_roundg (l.length - (j + 1))
      case measure => omega
      case rel => exact ⟨j + 1, by omega, by omega, by go_num, (by repeat' (first | (with_reducible exact Below.refl _ _) | (with_reducible assumption) | (with_reducible refine Below.drew ?_) | (with_reducible refine below_drewN ?_ _) | (with_reducible refine below_iterAt ?_ ?_ _ _) | (with_reducible refine below_iter ?_ ?_ _ _) | (with_reducible refine Below.alloc ?_ ?_ _) | (with_reducible refine Below.setCell ?_ ?_ _) | (with_reducible refine Below.trans ?_ (Below.mono (by assumption) ?_)) | (simp only [sz_alloc, sz_set, sz_drew, sz_drewN, sz_iterAt, sz_iter] at *; omega) | omega | (simp; done) | (simp; omega) | (apply Below.size; assumption) | (simp only [sz_drew, sz_drewN]; apply Below.size; assumption) | (refine Nat.le_trans ?_ (Below.size (by assumption)))))⟩
    · have i2 : ¬ (j : Int) < (l.length : Int) := by omega
      go_wp2_with fail
      go_ret
      exact ⟨ret_bool rfl, hbel⟩
def smallB (n : Nat) (xs : List TxAt) : Bool := decide (n ≤ 60) && decide (xs.length ≤ 60) && xs.all fun x => decide (x.l.length ≤ 60)
set_option maxRecDepth 100000 in
set_option maxHeartbeats 1600000 in
theorem check_any (A D : Option Addr) (ns : List Tx) (xs : List TxAt) (c cd : Nat) (w : World) (hA : RdL w 1 A (ns.map tC)) (hD : RdL w 1 D (xs.map TxAt.cells)) (hx : ∀ x ∈ xs, x.ok w) (hn : ns.length ≤ 9223372036854775807) (hm : xs.length ≤ 9223372036854775807) :
    Calls Try.prog 18 #[.slice A ns.length c, .slice D xs.length cd] w fun e w' => ∃ n r, e = .returned (.tuple #[.int .i64 n, .int .i64 r]) ∧ CheckIs ns (xs.map TxAt.l) n r ∧ w' = w := by
  have HA := Lib.hid hA
  have HD := Lib.hid hD
  have HX := Lib.hid hx
  clear hA hD hx
  by_cases h1 : ns.length = xs.length
  · by_cases h2 : 4096 < ns.length
    · have i1 : (4096 : Int) < (xs.length : Int) := by omega
      have hC : CheckIs ns (xs.map TxAt.l) 0 1 := .inl ⟨.inr h2, rfl, rfl⟩
      rw [h1]
      clear h2
      go_enter Try.func18, Try.ntmps18
      go_wp2_with fail
      refine bodyPost_ret (v := .tuple #[.int .i64 0, .int .i64 1]) (by simp [results, Try.results18, go_sem]) rfl ⟨0, 1, rfl, hC, rfl⟩
    · have i1 : ¬ (4096 : Int) < (ns.length : Int) := by omega
      have hb : ¬ (ns.length ≠ (xs.map TxAt.l).length ∨ 4096 < ns.length) := by simp; omega
      have HBB := Lib.hid hb
      have HL := Lib.hid h1
      have e1 : ((ns.length : Int) != (xs.length : Int)) = false := by rw [h1]; simp
      clear h1 h2 hb
      go_enter Try.func18, Try.ntmps18
      go_wp2_with fail
      go_loopg [6] ns.length (fun k iv wr => ∃ j : Nat, j ≤ ns.length ∧ ns.length - j ≤ k ∧ iv = .int .i64 j ∧ Hid (∀ i, i < j → ¬ dupAt ns i) ∧ w = wr)
      case atStart => exact ⟨0, by omega, by omega, rfl, Lib.hid (fun i hi => absurd hi (by omega)), rfl⟩
      case round =>
        clear e1 i1
        obtain ⟨j, hj, hjk, rfl, HI, rfl⟩ := hrel
        by_cases hlt : j < ns.length
        · obtain ⟨b, off, hbe, g0⟩ := rdT_at HA.out hlt
          subst hbe
          have i1 : (0 : Int) ≤ (j : Int) := by omega
          have i2 : (j : Int) < (ns.length : Int) := by omega
          have hdi := dupAt_iff hlt
          generalize ns[j]'hlt = x at *
          obtain ⟨F, hF⟩ : ∃ F, findV ns x = F := ⟨_, rfl⟩
          have hfc := find_any _ ns c x w HA.out hn
          rw [hF] at hdi hfc
          have HFC := Lib.hid hfc
          have HDI := Lib.hid hdi
          clear hdi hfc hF
          by_cases hd : F < (j : Int)
          · have hC : CheckIs ns (xs.map TxAt.l) (j : Int) 7 := .inr ⟨HBB.out, .inl ⟨j, hlt, HDI.out.2 hd, HI.out, rfl, rfl⟩⟩
            have HC := Lib.hid hC
            clear hC
            go_wp2_with fail
            refine HFC.out.mono ?_
            rintro e w' ⟨rfl, rfl⟩
            go_wp2_with fail
            refine bodyPost_ret (v := .tuple #[.int .i64 j, .int .i64 7]) (by simp [results, Try.results18, go_sem]) rfl ⟨j, 7, rfl, HC.out, rfl⟩
          · have HJ : Hid (∀ i, i < j + 1 → ¬ dupAt ns i) := Lib.hid (fun i hi hdd => by
              rcases Nat.lt_or_ge i j with h | h
              · exact HI.out i h hdd
              · have : i = j := by omega
                subst this
                exact hd (HDI.out.1 hdd))
            go_wp2_with fail
            refine HFC.out.mono ?_
            rintro e w' ⟨rfl, rfl⟩
            go_wp2_with fail
            go_roundg (ns.length - (j + 1))
            case measure => omega
            case rel => exact ⟨j + 1, by omega, by omega, by go_num, HJ, rfl⟩
        · have i2 : ¬ (j : Int) < (ns.length : Int) := by omega
          have HND : Hid (∀ i, i < ns.length → ¬ dupAt ns i) := Lib.hid (fun i hi => HI.out i (by omega))
          go_wp2_with fail
          go_loopg [7] xs.length (fun k iv wr => ∃ j : Nat, j ≤ xs.length ∧ xs.length - j ≤ k ∧ iv = .int .i64 j ∧ Hid (∀ i, i < j → ¬ missAt ns (xs.map TxAt.l) i) ∧ w = wr)
          case atStart => exact ⟨0, by omega, by omega, rfl, Lib.hid (fun i hi => absurd hi (by omega)), rfl⟩
          case round =>
            clear i2 hj hjk HI hlt
            obtain ⟨j, hj, hjk, rfl, HI, rfl⟩ := hrel
            by_cases hlt : j < xs.length
            · obtain ⟨b, off, hbe, g0⟩ := rdA_at HD.out hlt
              subst hbe
              have i1 : (0 : Int) ≤ (j : Int) := by omega
              have i2 : (j : Int) < (xs.length : Int) := by omega
              have hxo := HX.out _ (List.getElem_mem hlt)
              have hmi : missAt ns (xs.map TxAt.l) j ↔ ∃ s ∈ (xs[j]'hlt).l, s ∉ ns := by
                unfold missAt
                rw [List.getElem?_map, List.getElem?_eq_getElem hlt]
                constructor
                · rintro ⟨l, hl, h⟩
                  cases hl
                  exact h
                · intro h
                  exact ⟨_, rfl, h⟩
              generalize xs[j]'hlt = x at *
              have HMI := Lib.hid hmi
              have HXO := Lib.hid hxo
              have hxn := hxo.len
              clear hmi hxo
              go_wp2_with fail
              go_loopg [8] x.l.length (fun k iv wr => ∃ q : Nat, q ≤ x.l.length ∧ x.l.length - q ≤ k ∧ iv = .int .i64 q ∧ Hid (∀ s ∈ x.l.take q, s ∈ ns) ∧ w = wr)
              case atStart => exact ⟨0, by omega, by omega, rfl, Lib.hid (fun s hs => by simp at hs), rfl⟩
              case round =>
                obtain ⟨q, hq, hqk, rfl, HQ, rfl⟩ := hrel
                by_cases hlq : q < x.l.length
                · obtain ⟨b', off', hbe, g1⟩ := rdT_at HXO.out.rd hlq
                  rw [hbe] at g0
                  have i3 : (0 : Int) ≤ (q : Int) := by omega
                  have i4 : (q : Int) < (x.l.length : Int) := by omega
                  have htk : x.l.take (q + 1) = x.l.take q ++ [x.l[q]'hlq] := List.take_succ_eq_append_getElem hlq
                  have hmem : x.l[q]'hlq ∈ x.l := List.getElem_mem hlq
                  generalize x.l[q]'hlq = s at *
                  by_cases hs : s ∈ ns
                  · have HJ : Hid (∀ s ∈ x.l.take (q + 1), s ∈ ns) := Lib.hid (by
                      rw [htk]
                      intro t ht
                      rcases List.mem_append.1 ht with h | h
                      · exact HQ.out t h
                      · rw [List.mem_singleton.1 h]; exact hs)
                    have hfc := find_any A ns c s w HA.out hn
                    have hFv : ¬ (findV ns s < 0) := by unfold findV; rw [if_pos hs]; omega
                    generalize findV ns s = F at *
                    have HFC := Lib.hid hfc
                    clear hfc htk hmem hs
                    go_wp2_with fail
                    refine HFC.out.mono ?_
                    rintro e w' ⟨rfl, rfl⟩
                    go_wp2_with fail
                    go_roundg (x.l.length - (q + 1))
                    case measure => omega
                    case rel => exact ⟨q + 1, by omega, by omega, by go_num, HJ, rfl⟩
                  · have hfc := find_any A ns c s w HA.out hn
                    have hFv : findV ns s < 0 := by unfold findV; rw [if_neg hs]; omega
                    generalize findV ns s = F at *
                    have HFC := Lib.hid hfc
                    have hC : CheckIs ns (xs.map TxAt.l) (j : Int) 12 := .inr ⟨HBB.out, .inr ⟨HND.out, .inl ⟨j, by simpa using hlt, HMI.out.2 ⟨s, hmem, hs⟩, HI.out, rfl, rfl⟩⟩⟩
                    have HC := Lib.hid hC
                    clear hfc htk hmem hs hC
                    go_wp2_with fail
                    refine HFC.out.mono ?_
                    rintro e w' ⟨rfl, rfl⟩
                    go_wp2_with fail
                    refine bodyPost_ret (v := .tuple #[.int .i64 j, .int .i64 12]) (by simp [results, Try.results18, go_sem]) rfl ⟨j, 12, rfl, HC.out, rfl⟩
                · have i4 : ¬ (q : Int) < (x.l.length : Int) := by omega
                  have HJ : Hid (∀ i, i < j + 1 → ¬ missAt ns (xs.map TxAt.l) i) := Lib.hid (fun i hi hdd => by
                    rcases Nat.lt_or_ge i j with h | h
                    · exact HI.out i h hdd
                    · have : i = j := by omega
                      subst this
                      obtain ⟨s, hs, hns⟩ := HMI.out.1 hdd
                      refine hns (HQ.out s ?_)
                      rw [List.take_of_length_le (by omega)]; exact hs)
                  go_wp2_with fail
                  go_roundg (xs.length - (j + 1))
                  case measure => omega
                  case rel => exact ⟨j + 1, by omega, by omega, by go_num, HJ, rfl⟩
            · have i2 : ¬ (j : Int) < (xs.length : Int) := by omega
              have hC : CheckIs ns (xs.map TxAt.l) 0 0 := .inr ⟨HBB.out, .inr ⟨HND.out, .inr ⟨fun i hi => HI.out i (by simp at hi; omega), rfl, rfl⟩⟩⟩
              have HC := Lib.hid hC
              clear hC
              go_wp2_with fail
              refine bodyPost_ret (v := .tuple #[.int .i64 0, .int .i64 0]) (by simp [results, Try.results18, go_sem]) rfl ⟨0, 0, rfl, HC.out, rfl⟩
  · have hC : CheckIs ns (xs.map TxAt.l) 0 1 := .inl ⟨.inl (by simpa using h1), rfl, rfl⟩
    have e1 : ((ns.length : Int) != (xs.length : Int)) = true := by rw [bne_iff_ne]; omega
    clear h1
    go_enter Try.func18, Try.ntmps18
    go_wp2_with fail
    refine bodyPost_ret (v := .tuple #[.int .i64 0, .int .i64 1]) (by simp [results, Try.results18, go_sem]) rfl ⟨0, 1, rfl, hC, rfl⟩
end Go.Proofs.Ythmmfghcfgbblaa
