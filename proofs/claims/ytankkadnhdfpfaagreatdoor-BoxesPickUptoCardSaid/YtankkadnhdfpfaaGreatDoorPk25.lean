import Derived.Test.YtankkadnhdfpfaaGreatDoorPk22
import Derived.Test.YtankkadnhdfpfaaGreatDoorPk24
import Derived.Lib.LaidTab
/- words.other, Pick, walked. -/
set_option linter.unusedSimpArgs false
set_option linter.unusedVariables false
namespace Go.Proofs.YtankkadnhdfpfaaGreatDoor.Wd
open Go.RowKit Go.Sort Go.Lib

theorem tabIs_below {P : Program} {w w' : World} {name : String} {k : IntKind} {zs : List Int} (h : TabIs P w name k zs) (hb : Below w.heap.size w w') : TabIs P w' name k zs := by
  unfold TabIs World.var? at *
  cases hg : P.globalNamed name with
  | none => simp [hg] at h
  | some g =>
    simp only [hg, Option.bind_some] at h ⊢
    have hl : g < w.heap.size := by
      rcases Nat.lt_or_ge g w.heap.size with h' | h'
      · exact h'
      · rw [Array.getElem?_eq_none h'] at h; simp at h
    rw [hb.block g hl]; exact h
structure EnvP (w : World) : Prop where
  env : Env w
  pow : TabIs Tryz.prog w "internal/strconv.uint64pow10" .u64 pow10Tab
theorem EnvP.below {w w' : World} (h : EnvP w) (hb : Below w.heap.size w w') : EnvP w' := ⟨h.env.below hb, tabIs_below h.pow hb⟩
theorem itoaT (n : Nat) (hn : (n : Int) ≤ 9223372036854775807) (w : World) (hE : EnvP w) :
    Calls Tryz.prog 147 #[.int .i64 n] w fun e w' => e = .returned (encStr (decDigits n)) ∧ Below w.heap.size w w' := by
  refine (Tryz.strconv_Itoa n (by omega) hn w hE.pow).mono ?_
  rintro e w' ⟨rfl, k, os, rfl⟩
  refine ⟨by rw [itoa_nat], ?_⟩
  exact below_grow (below_drewN (Below.refl _ _) k) (Nat.le_refl _) os

set_option maxRecDepth 100000 in
set_option maxHeartbeats 1600000 in
theorem otherN_any (A : Option Addr) (l : List Tx) (c : Nat) (w : World) (hE : EnvP w) (hr : RdL w 1 A (l.map tC)) (hn : l.length * 16 ≤ 140737488355328) :
    Calls Tryz.prog 104 #[.slice A l.length c] w fun e w' => ∃ s, e = .returned (.tuple #[encStr s, .int .i64 0]) ∧ textB s = true ∧ l.contains s = false ∧ (∃ k, s = decDigits k ∧ ∀ i, i < k → decDigits i ∈ l) ∧ Below w.heap.size w w' := by
  have HE := Lib.hid hE
  have HD := Lib.hid hr
  clear hr hE
  go_enter Tryz.func104, Tryz.ntmps104
  go_wp2_with fail
  go_loopg [4] (l.length + 1) (fun k iv wr => ∃ n : Nat, n ≤ l.length ∧ l.length + 1 - n ≤ k ∧ iv = .int .i64 n ∧ Hid (∀ m, m < n → decDigits m ∈ l) ∧ Below w.heap.size w wr)
  case atStart => exact ⟨0, by omega, by omega, rfl, Lib.hid (fun m hm => absurd hm (by omega)), Below.refl _ _⟩
  case round =>
    obtain ⟨n, hj, hjk, rfl, HI, hbel⟩ := hrel
    have hsz := hbel.size
    have hsn := textB_dec n (by omega)
    obtain ⟨s, hs⟩ : ∃ s, decDigits n = s := ⟨_, rfl⟩
    have HS := Lib.hid hs
    rw [hs] at hsn
    have hit := fun W hW => hs ▸ itoaT n (by omega) W hW
    clear hs
    cases hx : l.contains s
    · go_wp2_with fail
      refine (hit _ (HE.out.below hbel)).mono ?_
      rintro e w1 ⟨rfl, hb1⟩
      go_wp2_with fail
      refine (containsT A l c s _ ((HD.out.below hbel).below hb1) (by omega)).mono ?_
      rintro e w2 ⟨rfl, rfl⟩
      rw [hx]
      go_wp2_with fail
      refine (hit _ ((HE.out.below hbel).below hb1)).mono ?_
      rintro e w3 ⟨rfl, hb3⟩
      go_wp2_with fail
      refine bodyPost_ret (v := .tuple #[encStr s, .int .i64 0]) (by simp [results, Tryz.results104, go_sem, *]) rfl ⟨s, rfl, hsn, hx, ⟨n, HS.out.symm, HI.out⟩, bel⟩
    · have hmem : s ∈ l := List.contains_iff_mem.1 hx
      have HJ : Hid (∀ m, m < n + 1 → decDigits m ∈ l) := Lib.hid (by
        intro m hm
        rcases Nat.lt_or_ge m n with h | h
        · exact HI.out m h
        · have : m = n := by omega
          subst this
          rw [HS.out]; exact hmem)
      have hle := decs_le l (n + 1) HJ.out
      go_wp2_with fail
      refine (hit _ (HE.out.below hbel)).mono ?_
      rintro e w1 ⟨rfl, hb1⟩
      go_wp2_with fail
      refine (containsT A l c s _ ((HD.out.below hbel).below hb1) (by omega)).mono ?_
      rintro e w2 ⟨rfl, rfl⟩
      rw [hx]
      go_wp2_with fail
      go_roundg (l.length + 1 - (n + 1))
      case measure => omega
      case rel => exact ⟨n + 1, by omega, by omega, by go_num, HJ, bel⟩
end Go.Proofs.YtankkadnhdfpfaaGreatDoor.Wd

/- words.Pick, walked. -/
set_option linter.unusedSimpArgs false
set_option linter.unusedVariables false
namespace Go.Proofs.YtankkadnhdfpfaaGreatDoor.Wd
open Go.RowKit Go.Sort Go.Lib

set_option maxRecDepth 100000 in
set_option maxHeartbeats 1600000 in
theorem pick_any (all : Bool) (A : Option Addr) (l : List Tx) (c : Nat) (w : World) (hE : EnvP w) (hr : RdL w 1 A (l.map tC)) (hs : ∀ t ∈ l, t.length ≤ 9223372036854775807) (hn : l.length * 16 ≤ 140737488355328) :
    Calls Tryz.prog 64 #[.agg #[.bool all, .slice A l.length c]] w fun e w' => ∃ s n, e = .returned (.tuple #[encStr s, .int .i64 n]) ∧ PickIs all (norm l) s n ∧ Below w.heap.size w w' := by
  have HS := Lib.hid hs
  have HR := Lib.hid hr
  have HE := Lib.hid hE
  clear hs hr hE
  obtain ⟨m, hm⟩ : ∃ m, norm l = m := ⟨_, rfl⟩
  rw [hm]
  have HM := Lib.hid hm
  clear hm
  go_enter Tryz.func64, Tryz.ntmps64
  go_wp2_with fail
  generalize hEu : w.alloc _ = u
  have hbu : Below w.heap.size w u := (by rw [← hEu]; exact bel)
  have lu_0 : w.heap.size < u.heap.size := lsz hEu
  have qu_0 : ∀ o, u.cell? ⟨w.heap.size, o, none⟩ = _ := fun o => congrArg (fun W : World => W.cell? ⟨w.heap.size, o, none⟩) hEu.symm
  have ru_0 : ∀ o, u.frozen? ⟨w.heap.size, o, none⟩ = _ := fun o => congrArg (fun W : World => W.frozen? ⟨w.heap.size, o, none⟩) hEu.symm
  clear hEu
  refine (make_any all A l c u (HE.out.env.below hbu) (HR.out.below hbu) HS.out hn).mono ?_
  rintro e w1 ⟨A1, rfl, hr1, hb1⟩
  have hz1 := hb1.size
  have q1 := fun o => (hb1.cell (p := ⟨w.heap.size, o, none⟩) lu_0).trans (qu_0 o)
  have r1 := fun o => (hb1.frozen (p := ⟨w.heap.size, o, none⟩) lu_0).trans (ru_0 o)
  have l1 : w.heap.size < w1.heap.size := by omega
  have hbw : Below w.heap.size w w1 := hbu.trans (hb1.mono hbu.size)
  rw [HM.out] at hr1 ⊢
  have HR1 := Lib.hid hr1
  clear hr1
  have hnl := norm_length l
  rw [HM.out] at hnl
  clear qu_0 ru_0
  go_upto_block 0 with fail
  generalize hE2 : (w1.setCell ⟨w.heap.size, 0, none⟩ (.bool all)).setCell ⟨w.heap.size, 1, none⟩ (.slice A1 m.length m.length) = u2
  have hbu2 : Below w.heap.size w u2 := by rw [← hE2]; exact bel
  have hfin : RdL u2 1 A1 (m.map tC) := by
    rw [← hE2]
    exact ((HR1.out.set_ lu_0 0 _).set_ lu_0 1 _).rd
  have k0 : u2.cell? ⟨w.heap.size, 0, none⟩ = some (.bool all) := by rw [← hE2]; clear hE2; simp [go_sem, *]
  have k1 : u2.cell? ⟨w.heap.size, 1, none⟩ = some (.slice A1 m.length m.length) := by rw [← hE2]; clear hE2; simp [go_sem, *]
  have HF := Lib.hid hfin
  clear hE2 hfin q1 r1 hb1
  cases all
  · have i0 : (0 : Int) ≤ 0 := by decide
    cases m with
    | nil =>
      go_wp2_with fail
      refine bodyPost_ret (v := .tuple #[encStr [], .int .i64 16]) (by simp [results, Tryz.results64, go_sem, *]) rfl ⟨[], 16, rfl, .inr ⟨rfl, .inl ⟨rfl, rfl, rfl⟩⟩, bel⟩
    | cons x r =>
      obtain ⟨b, off, rfl, hx0⟩ := HF.out.at_ (show 0 < (x :: r).length by simp)
      have g0 : u2.cell? ⟨b, off, none⟩ = some (encStr x) := by have := hx0.get 0 (v := encStr x) rfl; simpa using this
      clear hx0 HF
      have hlen : (x :: r).length = r.length + 1 := rfl
      generalize hL : (x :: r).length = L at *
      have i1 : ((L : Int) == 0) = false := by rw [beq_eq_false_iff_ne]; omega
      have i2 : (0 : Int) < (L : Int) := by omega
      go_wp2_with fail
      refine bodyPost_ret (v := .tuple #[encStr x, .int .i64 0]) (by simp [results, Tryz.results64, go_sem, *]) rfl ⟨x, 0, rfl, .inr ⟨rfl, .inr ⟨rfl, r, rfl⟩⟩, bel⟩
  · go_wp2_with fail
    go_loopg [4] 257 (fun kk sv wr => ∃ k : Nat, k ≤ 256 ∧ 256 - k ≤ kk ∧ sv = encStr (aK k) ∧ Hid (∀ j, j < k → aK j ∈ m) ∧ u2 = wr)
    case atStart => exact ⟨0, by omega, by omega, rfl, Lib.hid (fun m hm => absurd hm (by omega)), rfl⟩
    case round =>
      obtain ⟨k, hk, hkk, rfl, HI, rfl⟩ := hrel
      have htx := textB_aK k
      rw [decide_eq_true hk] at htx
      cases hx : m.contains (aK k)
      · have hPI : PickIs true m (aK k) 0 := .inl ⟨rfl, rfl, htx, hx, .inl ⟨k, hk, rfl, HI.out⟩⟩
        generalize aK k = s at *
        go_wp2_with fail
        refine (containsT A1 m m.length s _ HF.out (by omega)).mono ?_
        rintro e w2 ⟨rfl, rfl⟩
        rw [hx]
        go_wp2_with fail
        refine bodyPost_ret (v := .tuple #[encStr s, .int .i64 0]) (by simp [results, Tryz.results64, go_sem, *]) rfl ⟨s, 0, rfl, hPI, bel⟩
      · have hmem : aK k ∈ m := List.contains_iff_mem.1 hx
        have HJ : Hid (∀ j, j < k + 1 → aK j ∈ m) := Lib.hid (by
          intro j hj
          rcases Nat.lt_or_ge j k with h | h
          · exact HI.out j h
          · have : j = k := by omega
            subst this
            exact hmem)
        obtain ⟨s, hs⟩ : ∃ s, aK k = s := ⟨_, rfl⟩
        rw [hs] at hx ⊢
        have hsl : s.length = k := by rw [← hs, aK_length]
        have hnx : (Value.string ({ data := List.toArray s } ++ { data := #[97] })) = encStr (aK (k + 1)) := by
          rw [aK_succ, hs]
          show Value.string _ = Value.string ⟨(s ++ [97]).toArray⟩
          congr 1
          first | done | (apply ByteArray.ext; simp)
        have HNX := Lib.hid hnx
        clear hnx
        by_cases h256 : (256 : Int) < (s.length : Int) + 1
        · have hmore : Hid (∀ j, j ≤ 256 → aK j ∈ m) := Lib.hid (fun j hj => HJ.out j (by omega))
          go_wp2_with fail
          refine (containsT A1 m m.length s _ HF.out (by omega)).mono ?_
          rintro e w2 ⟨rfl, rfl⟩
          rw [hx]
          go_wp2_with fail
          refine (otherN_any A1 m m.length _ (HE.out.below hbu2) HF.out (by omega)).mono ?_
          rintro e w3 ⟨t, rfl, ht1, ht2, ht3, hb3⟩
          go_wp2_with fail
          refine bodyPost_ret (v := .tuple #[encStr t, .int .i64 0]) (by simp [results, Tryz.results64, go_sem, *]) rfl ⟨t, 0, rfl, .inl ⟨rfl, rfl, ht1, ht2, .inr ⟨hmore.out, ht3⟩⟩, bel⟩
        · go_wp2_with fail
          refine (containsT A1 m m.length s _ HF.out (by omega)).mono ?_
          rintro e w2 ⟨rfl, rfl⟩
          rw [hx]
          go_wp2_with fail
          go_roundg (256 - (k + 1))
          case measure => omega
          case rel => exact ⟨k + 1, by omega, by omega, HNX.out, HJ, rfl⟩
end Go.Proofs.YtankkadnhdfpfaaGreatDoor.Wd
