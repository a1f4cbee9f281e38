/- GraphRound, walked: it gives true. -/
import Derived.Test.YthmmfghcfgbblaaGr14
set_option linter.unusedSimpArgs false
set_option linter.unusedVariables false
namespace Go.Proofs.Ythmmfghcfgbblaa
open Go.RowKit Go.Sort Go.Lib

def BoolIs (b : Bool) (p : Prop) : Prop := b = true ↔ p
set_option maxRecDepth 100000 in
set_option maxHeartbeats 3200000 in
theorem lawR_any (A D : Option Addr) (ns : List Tx) (xs : List TxAt) (c cd : Nat) (w : World) (hA : RdL w 1 A (ns.map tC)) (hD : RdL w 1 D (xs.map TxAt.cells)) (hx : ∀ x ∈ xs, x.ok w) (hn : ns.length ≤ 9223372036854775807) (hm : xs.length ≤ 9223372036854775807) (hs : ∀ s ∈ ns, s.length ≤ 9223372036854775807) :
    Calls Try.prog 6 #[.slice A ns.length c, .slice D xs.length cd] w fun e w' => e = .returned (.bool true) ∧ Below w.heap.size w w' := by
  have hsm := small_any A D ns.length xs c cd w hD (fun x h => (hx x h).len)
  have HSM := Lib.hid hsm
  have HA := Lib.hid hA
  have HD := Lib.hid hD
  have HX := Lib.hid hx
  have HS := Lib.hid hs
  clear hsm hA hD hx hs
  go_enter Try.func6, Try.ntmps6
  go_wp2_with fail
  refine HSM.out.mono ?_
  rintro e w1 ⟨rfl, rfl⟩
  clear HSM
  cases hB : smallB ns.length xs
  · go_wp2_with fail
    refine (awake_any w1).mono ?_
    rintro e w2 ⟨rfl, hb2⟩
    go_wp2_with fail
    go_ret
    exact ⟨ret_bool rfl, (by repeat' (first | (with_reducible exact Below.refl _ _) | (with_reducible assumption) | (with_reducible refine Below.drew ?_) | (with_reducible refine below_drewN ?_ _) | (with_reducible refine below_iterAt ?_ ?_ _ _) | (with_reducible refine below_iter ?_ ?_ _ _) | (with_reducible refine Below.alloc ?_ ?_ _) | (with_reducible refine Below.setCell ?_ ?_ _) | (with_reducible refine Below.trans ?_ (Below.mono (by assumption) ?_)) | (simp only [sz_alloc, sz_set, sz_drew, sz_drewN, sz_iterAt, sz_iter] at *; omega) | omega | (simp; done) | (simp; omega) | (apply Below.size; assumption) | (simp only [sz_drew, sz_drewN]; apply Below.size; assumption) | (refine Nat.le_trans ?_ (Below.size (by assumption)))))⟩
  · have hxl : ∀ x ∈ xs, x.l.length ≤ 4096 := fun x h => by have := (small_yes hB).2.2 x h; omega
    have HXL := Lib.hid hxl
    clear hB hxl
    go_wp2_with fail
    refine (order_any A D ns xs c cd w1 HA.out HD.out HX.out hn hm HS.out HXL.out).mono ?_
    rintro e w2 ⟨v, n, r, l, rfl, ho, ⟨B, cb, rfl, _⟩, hl, hb2⟩
    have HO := Lib.hid ho
    clear ho
    go_wp2_with fail
    refine (awake_any w2).mono ?_
    rintro e w3 ⟨rfl, hb3⟩
    have hbw3 : Below w1.heap.size w1 w3 := hb2.trans (hb3.mono hb2.size)
    clear hb2 hb3
    obtain ⟨N, hN⟩ : ∃ N, ns.length = N := ⟨_, rfl⟩
    have HN := Lib.hid hN
    have HAB := Lib.hid (fun (i : Nat) W (h : Below w1.heap.size w1 W) => above_any A D ns xs c cd (i : Int) W (HA.out.below h) (HD.out.below h) (fun x hx => (HX.out x hx).below h) hn hm HS.out HXL.out)
    rw [hN] at HAB ⊢
    clear hN
    by_cases hr : r = 0 ∨ r = 13
    · have hfin : CheckIs ns (xs.map TxAt.l) 0 0 ∧ ((r = 0 ∧ n = 0 ∧ ∀ i, ¬ Reach (edgesL ns (xs.map TxAt.l)) i i) ∨ (r = 13 ∧ (∃ m : Nat, n = m ∧ m < N) ∧ ∃ i, i < N ∧ Reach (edgesL ns (xs.map TxAt.l)) i i)) := by
        rcases hr with rfl | rfl
        · obtain ⟨h1, h2, h3⟩ := order_fine HO.out
          exact ⟨h1, .inl ⟨rfl, h2, h3⟩⟩
        · obtain ⟨h1, h2, h3⟩ := order_round HO.out
          rw [← HN.out]
          exact ⟨h1, .inr ⟨rfl, h2, h3⟩⟩
      obtain ⟨hck, hfin⟩ := hfin
      have h4 : N ≤ 4096 := by rw [← HN.out]; exact (check0 hck).2.1
      have HCK := Lib.hid hck
      rcases hfin with ⟨rfl, rfl, h3⟩ | ⟨rfl, ⟨m, rfl, hmN⟩, h3⟩
      · have H3 := Lib.hid h3
        clear h3 hck HO hr
        go_wp2_with fail
        go_loopg [8, 9] N (fun k bv iv wr => ∃ (b : Bool) (i : Nat), bv = .bool b ∧ iv = .int .i64 i ∧ i ≤ N ∧ N - i ≤ k ∧ Hid (BoolIs b (∃ j, j < i ∧ Reach (edgesL ns (xs.map TxAt.l)) j j)) ∧ Below w1.heap.size w1 wr)
        case atStart => exact ⟨false, 0, rfl, rfl, by omega, by omega, Lib.hid ⟨fun h => (by cases h), fun ⟨j, hj, _⟩ => by omega⟩, hbw3⟩
        case round =>
          clear hbw3
          obtain ⟨b, i, rfl, rfl, hi, hik, HBI, hbel⟩ := hrel
          by_cases hlt : i < N
          · have i1 : (i : Int) < (N : Int) := by omega
            go_wp2_with fail
            refine (HAB.out i wr hbel).mono ?_
            rintro e w4 ⟨v, f, l2, rfl, ha, ⟨B2, cb2, rfl, hr2⟩, hl2, hb4⟩
            obtain ⟨rfl, hk2⟩ := above_ok HCK.out ha (by rw [HN.out]; exact hlt)
            have hbw4 : Below w1.heap.size w1 w4 := hbel.trans (hb4.mono hbel.size)
            have HK2 := Lib.hid hk2
            have HR2 := Lib.hid hr2
            clear ha hk2 hr2 hb4 hbel
            go_wp2_with fail
            go_loopg [8, 12] l2.length (fun k bv kv wq => ∃ (b2 : Bool) (q : Nat), bv = .bool b2 ∧ kv = .int .i64 q ∧ q ≤ l2.length ∧ l2.length - q ≤ k ∧ Hid (BoolIs b2 (b = true ∨ i ∈ l2.take q)) ∧ w4 = wq)
            case atStart => exact ⟨b, 0, rfl, rfl, by omega, by omega, Lib.hid (show b = true ↔ _ by simp), rfl⟩
            case round =>
              obtain ⟨b2, q, rfl, rfl, hq, hqk, HB2, rfl⟩ := hrel
              by_cases hlq : q < l2.length
              · obtain ⟨b', off', hbe, y0⟩ := rdI_at HR2.out hlq
                subst hbe
                have htk : l2.take (q + 1) = l2.take q ++ [l2[q]'hlq] := List.take_succ_eq_append_getElem hlq
                generalize l2[q]'hlq = x at *
                have i2 : (0 : Int) ≤ (q : Int) := by omega
                have i3 : (q : Int) < (l2.length : Int) := by omega
                cases b2
                · by_cases hxi : x = i
                  · subst hxi
                    have HB3 : Hid (BoolIs true (b = true ∨ x ∈ l2.take (q + 1))) := Lib.hid ⟨fun _ => .inr (by rw [htk]; simp), fun _ => rfl⟩
                    clear htk
                    go_wp2_with fail
                    go_roundg (l2.length - (q + 1))
                    case measure => omega
                    case rel => exact ⟨true, q + 1, by simp, by go_num, by omega, by omega, HB3, rfl⟩
                  · have HB3 : Hid (BoolIs false (b = true ∨ i ∈ l2.take (q + 1))) := Lib.hid ⟨fun h => (by cases h), fun h => HB2.out.2 (h.imp id (fun h => by
                      rw [htk] at h
                      rcases List.mem_append.1 h with h | h
                      · exact h
                      · exact absurd (List.mem_singleton.1 h).symm hxi))⟩
                    have h5 : ¬ ((x : Int) = (i : Int)) := by omega
                    have h6 : ((x : Int) == (i : Int)) = false := by rw [beq_eq_false_iff_ne]; exact h5
                    clear htk hxi
                    go_wp2_with fail
                    go_roundg (l2.length - (q + 1))
                    case measure => omega
                    case rel => exact ⟨false, q + 1, by simp [h5], by go_num, by omega, by omega, HB3, rfl⟩
                · have HB3 : Hid (BoolIs true (b = true ∨ i ∈ l2.take (q + 1))) := Lib.hid ⟨fun h => (HB2.out.1 h).imp id (fun h => by rw [htk]; exact List.mem_append_left _ h), fun _ => rfl⟩
                  clear htk
                  go_wp2_with fail
                  go_roundg (l2.length - (q + 1))
                  case measure => omega
                  case rel => exact ⟨true, q + 1, rfl, by go_num, by omega, by omega, HB3, rfl⟩
              · have i3 : ¬ (q : Int) < (l2.length : Int) := by omega
                have HBN : Hid (BoolIs b2 (∃ j, j < i + 1 ∧ Reach (edgesL ns (xs.map TxAt.l)) j j)) := Lib.hid (by
                  show b2 = true ↔ _
                  rw [show (b2 = true) = _ from propext HB2.out, List.take_of_length_le (by omega), HK2.out, show (b = true) = _ from propext HBI.out]
                  constructor
                  · rintro (⟨j, hj, hr⟩ | hr)
                    · exact ⟨j, by omega, hr⟩
                    · exact ⟨i, by omega, hr⟩
                  · rintro ⟨j, hj, hr⟩
                    by_cases hji : j = i
                    · subst hji; exact .inr hr
                    · exact .inl ⟨j, by omega, hr⟩)
                go_wp2_with fail
                go_roundg (N - (i + 1))
                case measure => omega
                case rel => exact ⟨b2, i + 1, rfl, by go_num, by omega, by omega, HBN, hbw4⟩
          · have i1 : ¬ (i : Int) < (N : Int) := by omega
            obtain rfl : b = false := by
              cases b
              · rfl
              · obtain ⟨j, _, hj⟩ := HBI.out.1 rfl
                exact absurd hj (H3.out j)
            go_wp2_with fail
            go_ret
            exact ⟨ret_bool (by simp), hbel⟩
      · have H3 := Lib.hid h3
        clear h3 hck HO hr
        go_wp2_with fail
        go_loopg [8, 9] N (fun k bv iv wr => ∃ (b : Bool) (i : Nat), bv = .bool b ∧ iv = .int .i64 i ∧ i ≤ N ∧ N - i ≤ k ∧ Hid (BoolIs b (∃ j, j < i ∧ Reach (edgesL ns (xs.map TxAt.l)) j j)) ∧ Below w1.heap.size w1 wr)
        case atStart => exact ⟨false, 0, rfl, rfl, by omega, by omega, Lib.hid ⟨fun h => (by cases h), fun ⟨j, hj, _⟩ => by omega⟩, hbw3⟩
        case round =>
          clear hbw3
          obtain ⟨b, i, rfl, rfl, hi, hik, HBI, hbel⟩ := hrel
          by_cases hlt : i < N
          · have i1 : (i : Int) < (N : Int) := by omega
            go_wp2_with fail
            refine (HAB.out i wr hbel).mono ?_
            rintro e w4 ⟨v, f, l2, rfl, ha, ⟨B2, cb2, rfl, hr2⟩, hl2, hb4⟩
            obtain ⟨rfl, hk2⟩ := above_ok HCK.out ha (by rw [HN.out]; exact hlt)
            have hbw4 : Below w1.heap.size w1 w4 := hbel.trans (hb4.mono hbel.size)
            have HK2 := Lib.hid hk2
            have HR2 := Lib.hid hr2
            clear ha hk2 hr2 hb4 hbel
            go_wp2_with fail
            go_loopg [8, 12] l2.length (fun k bv kv wq => ∃ (b2 : Bool) (q : Nat), bv = .bool b2 ∧ kv = .int .i64 q ∧ q ≤ l2.length ∧ l2.length - q ≤ k ∧ Hid (BoolIs b2 (b = true ∨ i ∈ l2.take q)) ∧ w4 = wq)
            case atStart => exact ⟨b, 0, rfl, rfl, by omega, by omega, Lib.hid (show b = true ↔ _ by simp), rfl⟩
            case round =>
              obtain ⟨b2, q, rfl, rfl, hq, hqk, HB2, rfl⟩ := hrel
              by_cases hlq : q < l2.length
              · obtain ⟨b', off', hbe, y0⟩ := rdI_at HR2.out hlq
                subst hbe
                have htk : l2.take (q + 1) = l2.take q ++ [l2[q]'hlq] := List.take_succ_eq_append_getElem hlq
                generalize l2[q]'hlq = x at *
                have i2 : (0 : Int) ≤ (q : Int) := by omega
                have i3 : (q : Int) < (l2.length : Int) := by omega
                cases b2
                · by_cases hxi : x = i
                  · subst hxi
                    have HB3 : Hid (BoolIs true (b = true ∨ x ∈ l2.take (q + 1))) := Lib.hid ⟨fun _ => .inr (by rw [htk]; simp), fun _ => rfl⟩
                    clear htk
                    go_wp2_with fail
                    go_roundg (l2.length - (q + 1))
                    case measure => omega
                    case rel => exact ⟨true, q + 1, by simp, by go_num, by omega, by omega, HB3, rfl⟩
                  · have HB3 : Hid (BoolIs false (b = true ∨ i ∈ l2.take (q + 1))) := Lib.hid ⟨fun h => (by cases h), fun h => HB2.out.2 (h.imp id (fun h => by
                      rw [htk] at h
                      rcases List.mem_append.1 h with h | h
                      · exact h
                      · exact absurd (List.mem_singleton.1 h).symm hxi))⟩
                    have h5 : ¬ ((x : Int) = (i : Int)) := by omega
                    have h6 : ((x : Int) == (i : Int)) = false := by rw [beq_eq_false_iff_ne]; exact h5
                    clear htk hxi
                    go_wp2_with fail
                    go_roundg (l2.length - (q + 1))
                    case measure => omega
                    case rel => exact ⟨false, q + 1, by simp [h5], by go_num, by omega, by omega, HB3, rfl⟩
                · have HB3 : Hid (BoolIs true (b = true ∨ i ∈ l2.take (q + 1))) := Lib.hid ⟨fun h => (HB2.out.1 h).imp id (fun h => by rw [htk]; exact List.mem_append_left _ h), fun _ => rfl⟩
                  clear htk
                  go_wp2_with fail
                  go_roundg (l2.length - (q + 1))
                  case measure => omega
                  case rel => exact ⟨true, q + 1, rfl, by go_num, by omega, by omega, HB3, rfl⟩
              · have i3 : ¬ (q : Int) < (l2.length : Int) := by omega
                have HBN : Hid (BoolIs b2 (∃ j, j < i + 1 ∧ Reach (edgesL ns (xs.map TxAt.l)) j j)) := Lib.hid (by
                  show b2 = true ↔ _
                  rw [show (b2 = true) = _ from propext HB2.out, List.take_of_length_le (by omega), HK2.out, show (b = true) = _ from propext HBI.out]
                  constructor
                  · rintro (⟨j, hj, hr⟩ | hr)
                    · exact ⟨j, by omega, hr⟩
                    · exact ⟨i, by omega, hr⟩
                  · rintro ⟨j, hj, hr⟩
                    by_cases hji : j = i
                    · subst hji; exact .inr hr
                    · exact .inl ⟨j, by omega, hr⟩)
                go_wp2_with fail
                go_roundg (N - (i + 1))
                case measure => omega
                case rel => exact ⟨b2, i + 1, rfl, by go_num, by omega, by omega, HBN, hbw4⟩
          · have i1 : ¬ (i : Int) < (N : Int) := by omega
            obtain rfl : b = true := HBI.out.2 (by
              obtain ⟨j, hj, hr⟩ := H3.out
              exact ⟨j, by omega, hr⟩)
            have i2 : (0 : Int) ≤ (m : Int) := by omega
            have i3 : (m : Int) < (N : Int) := by omega
            go_wp2_with fail
            go_ret
            exact ⟨ret_bool (by simp), hbel⟩
    · have h1 : (r != 0) = true := by rw [bne_iff_ne]; exact fun h => hr (.inl h)
      have h2 : (r != 13) = true := by rw [bne_iff_ne]; exact fun h => hr (.inr h)
      clear hr HO HAB
      go_wp2_with fail
      refine (awake_any w3).mono ?_
      rintro e w4 ⟨rfl, hb4⟩
      have hbw4 := hbw3.trans (hb4.mono hbw3.size)
      go_wp2_with fail
      go_ret
      exact ⟨ret_bool rfl, hbw4⟩
end Go.Proofs.Ythmmfghcfgbblaa
