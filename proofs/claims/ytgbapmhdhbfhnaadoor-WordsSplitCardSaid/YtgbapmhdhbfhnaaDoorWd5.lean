/- words.other, Pick, walked. -/
import Derived.Test.YtgbapmhdhbfhnaaDoorWd5p
import Derived.Test.YtgbapmhdhbfhnaaDoorWd4
import Derived.Lib.LaidTab
set_option linter.unusedSimpArgs false
set_option linter.unusedVariables false
namespace Go.Proofs.YtgbapmhdhbfhnaaDoor
open Go.RowKit Go.Sort Go.Lib

theorem tabIs_below {P : Program} {w w' : World} {name : String} {k : IntKind} {zs : List Int} (h : TabIs P w name k zs) (hb : Below w.heap.size w w') : TabIs P w' name k zs := by
  unfold TabIs World.var? at *
  cases hg : P.globalNamed name with
  | none => simp [hg] at h
  | some g =>
    simp only [hg, Option.bind_some] at h ⊢
    have hl : g < w.heap.size := by
      rcases Nat.lt_or_ge g w.heap.size with h' | h'
      · exact h'
      · rw [Array.getElem?_eq_none h'] at h; simp at h
    rw [hb.block g hl]; exact h
/-- the tables of the library, the powers of ten too -/
structure EnvP (w : World) : Prop where
  env : Env w
  pow : TabIs Tryd.prog w "internal/strconv.uint64pow10" .u64 pow10Tab
theorem EnvP.below {w w' : World} (h : EnvP w) (hb : Below w.heap.size w w') : EnvP w' := ⟨h.env.below hb, tabIs_below h.pow hb⟩
theorem itoaT (n : Nat) (hn : (n : Int) ≤ 9223372036854775807) (w : World) (hE : EnvP w) :
    Calls Tryd.prog 36 #[.int .i64 n] w fun e w' => e = .returned (encStr (decDigits n)) ∧ Below w.heap.size w w' := by
  refine (Tryd.strconv_Itoa n (by omega) hn w hE.pow).mono ?_
  rintro e w' ⟨rfl, k, os, rfl⟩
  refine ⟨by rw [itoa_nat], ?_⟩
  exact below_grow (below_drewN (Below.refl _ _) k) (Nat.le_refl _) os

set_option maxRecDepth 100000 in
set_option maxHeartbeats 1600000 in
theorem otherN_any (A : Option Addr) (l : List Tx) (c : Nat) (w : World) (hE : EnvP w) (hr : RdL w 1 A (l.map tC)) (hn : l.length * 16 ≤ 140737488355328) :
    Calls Tryd.prog 27 #[.slice A l.length c] w fun e w' => ∃ s, e = .returned (.tuple #[encStr s, .int .i64 0]) ∧ textB s = true ∧ l.contains s = false ∧ Below w.heap.size w w' := by
  have HE := Lib.hid hE
  have HD := Lib.hid hr
  clear hr hE
  go_enter Tryd.func27, Tryd.ntmps27
  go_wp2_with fail
  go_loopg [4] (l.length + 1) (fun k iv wr => ∃ n : Nat, n ≤ l.length ∧ l.length + 1 - n ≤ k ∧ iv = .int .i64 n ∧ Hid (∀ m, m < n → decDigits m ∈ l) ∧ Below w.heap.size w wr)
  case atStart => exact ⟨0, by omega, by omega, rfl, Lib.hid (fun m hm => absurd hm (by omega)), Below.refl _ _⟩
  case round =>
    obtain ⟨n, hj, hjk, rfl, HI, hbel⟩ := hrel
    have hsz := hbel.size
    have hsn := textB_dec n (by omega)
    obtain ⟨s, hs⟩ : ∃ s, decDigits n = s := ⟨_, rfl⟩
    have HS := Lib.hid hs
    rw [hs] at hsn
    have hit := fun W hW => hs ▸ itoaT n (by omega) W hW
    clear hs
    cases hx : l.contains s
    · go_wp2_with fail
      refine (hit _ (HE.out.below hbel)).mono ?_
      rintro e w1 ⟨rfl, hb1⟩
      go_wp2_with fail
      refine (containsT A l c s _ ((HD.out.below hbel).below hb1) (by omega)).mono ?_
      rintro e w2 ⟨rfl, rfl⟩
      rw [hx]
      go_wp2_with fail
      refine (hit _ ((HE.out.below hbel).below hb1)).mono ?_
      rintro e w3 ⟨rfl, hb3⟩
      go_wp2_with fail
      refine bodyPost_ret (v := .tuple #[encStr s, .int .i64 0]) (by simp [results, Tryd.results27, go_sem, *]) rfl ⟨s, rfl, hsn, hx, (by repeat' (first | (with_reducible exact Below.refl _ _) | (with_reducible assumption) | (with_reducible refine Below.drew ?_) | (with_reducible refine below_drewN ?_ _) | (with_reducible refine below_iterAt ?_ ?_ _ _) | (with_reducible refine below_iter ?_ ?_ _ _) | (with_reducible refine Below.alloc ?_ ?_ _) | (with_reducible refine Below.setCell ?_ ?_ _) | (with_reducible refine Below.trans ?_ (Below.mono (by assumption) ?_)) | (simp only [sz_alloc, sz_set, sz_drew, sz_drewN, sz_iterAt, sz_iter] at *; omega) | omega | (simp; done) | (simp; omega) | (apply Below.size; assumption) | (simp only [sz_drew, sz_drewN]; apply Below.size; assumption) | (refine Nat.le_trans ?_ (Below.size (by assumption)))))⟩
    · have hmem : s ∈ l := List.contains_iff_mem.1 hx
      have HJ : Hid (∀ m, m < n + 1 → decDigits m ∈ l) := Lib.hid (by
        intro m hm
        rcases Nat.lt_or_ge m n with h | h
        · exact HI.out m h
        · have : m = n := by omega
          subst this
          rw [HS.out]; exact hmem)
      have hle := decs_le l (n + 1) HJ.out
      go_wp2_with fail
      refine (hit _ (HE.out.below hbel)).mono ?_
      rintro e w1 ⟨rfl, hb1⟩
      go_wp2_with fail
      refine (containsT A l c s _ ((HD.out.below hbel).below hb1) (by omega)).mono ?_
      rintro e w2 ⟨rfl, rfl⟩
      rw [hx]
      go_wp2_with fail
      go_roundg (l.length + 1 - (n + 1))
      case measure => omega
      case rel => exact ⟨n + 1, by omega, by omega, by go_num, HJ, (by repeat' (first | (with_reducible exact Below.refl _ _) | (with_reducible assumption) | (with_reducible refine Below.drew ?_) | (with_reducible refine below_drewN ?_ _) | (with_reducible refine below_iterAt ?_ ?_ _ _) | (with_reducible refine below_iter ?_ ?_ _ _) | (with_reducible refine Below.alloc ?_ ?_ _) | (with_reducible refine Below.setCell ?_ ?_ _) | (with_reducible refine Below.trans ?_ (Below.mono (by assumption) ?_)) | (simp only [sz_alloc, sz_set, sz_drew, sz_drewN, sz_iterAt, sz_iter] at *; omega) | omega | (simp; done) | (simp; omega) | (apply Below.size; assumption) | (simp only [sz_drew, sz_drewN]; apply Below.size; assumption) | (refine Nat.le_trans ?_ (Below.size (by assumption)))))⟩
end Go.Proofs.YtgbapmhdhbfhnaaDoor
