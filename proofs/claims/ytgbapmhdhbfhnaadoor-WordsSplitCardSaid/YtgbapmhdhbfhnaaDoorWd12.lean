/- words.Meet, walked whole. -/
import Derived.Test.YtgbapmhdhbfhnaaDoorWd11
set_option linter.unusedSimpArgs false
set_option linter.unusedVariables false
namespace Go.Proofs.YtgbapmhdhbfhnaaDoor
open Go.RowKit Go.Sort Go.Lib

set_option maxRecDepth 100000 in
set_option maxHeartbeats 1600000 in
theorem meetC_any (A B : Option Addr) (la lb : List Tx) (ca cb : Nat) (w : World) (hE : Env w) (hA : RdL w 1 A (la.map tC)) (hB : RdL w 1 B (lb.map tC)) (hsa : ∀ t ∈ la, t.length ≤ 9223372036854775807) (hsb : ∀ t ∈ lb, t.length ≤ 9223372036854775807) (hna : la.length * 16 ≤ 140737488355328) (hnb : lb.length * 16 ≤ 140737488355328) :
    Calls Tryd.prog 17 #[.agg #[.bool true, .slice A la.length ca], .agg #[.bool true, .slice B lb.length cb]] w fun e w' => ∃ A', e = .returned (.agg #[.bool (meetW true la true lb).1, .slice A' (meetW true la true lb).2.length (meetW true la true lb).2.length]) ∧ OwnT w' w.heap.size A' (meetW true la true lb).2 ∧ Below w.heap.size w w' := by
  have HSA := Lib.hid hsa
  have HSB := Lib.hid hsb
  have HA := Lib.hid hA
  have HB := Lib.hid hB
  have HE := Lib.hid hE
  clear hsa hsb hA hB hE
  go_enter Tryd.func17, Tryd.ntmps17
  go_wp2_with fail
  generalize hEu : ((w.alloc _).alloc _).alloc _ = u
  have hbu : Below w.heap.size w u := by rw [← hEu]; exact (by repeat' (first | (with_reducible exact Below.refl _ _) | (with_reducible assumption) | (with_reducible refine Below.drew ?_) | (with_reducible refine below_drewN ?_ _) | (with_reducible refine below_iterAt ?_ ?_ _ _) | (with_reducible refine below_iter ?_ ?_ _ _) | (with_reducible refine Below.alloc ?_ ?_ _) | (with_reducible refine Below.setCell ?_ ?_ _) | (with_reducible refine Below.trans ?_ (Below.mono (by assumption) ?_)) | (simp only [sz_alloc, sz_set, sz_drew, sz_drewN, sz_iterAt, sz_iter] at *; omega) | omega | (simp; done) | (simp; omega) | (apply Below.size; assumption) | (simp only [sz_drew, sz_drewN]; apply Below.size; assumption) | (refine Nat.le_trans ?_ (Below.size (by assumption)))))
  have hzu : u.heap.size = w.heap.size + 1 + 1 + 1 := by rw [← hEu]; simp
  have qu : ∀ o, u.cell? ⟨w.heap.size + 1 + 1, o, none⟩ = _ := fun o => congrArg (fun W : World => W.cell? ⟨w.heap.size + 1 + 1, o, none⟩) hEu.symm
  have ru : ∀ o, u.frozen? ⟨w.heap.size + 1 + 1, o, none⟩ = _ := fun o => congrArg (fun W : World => W.frozen? ⟨w.heap.size + 1 + 1, o, none⟩) hEu.symm
  clear hEu
  have lu : w.heap.size + 1 + 1 < u.heap.size := by omega
  have p0 : (u.alloc (.cells #[.slice A la.length ca, .slice B lb.length cb] 22)).cell? ⟨u.heap.size, 0, none⟩ = some (.slice A la.length ca) := by simp [go_sem]
  have p1 : (u.alloc (.cells #[.slice A la.length ca, .slice B lb.length cb] 22)).cell? ⟨u.heap.size, 1, none⟩ = some (.slice B lb.length cb) := by simp [go_sem]
  have hba : Below u.heap.size u (u.alloc (.cells #[.slice A la.length ca, .slice B lb.length cb] 22)) := (by repeat' (first | (with_reducible exact Below.refl _ _) | (with_reducible assumption) | (with_reducible refine Below.drew ?_) | (with_reducible refine below_drewN ?_ _) | (with_reducible refine below_iterAt ?_ ?_ _ _) | (with_reducible refine below_iter ?_ ?_ _ _) | (with_reducible refine Below.alloc ?_ ?_ _) | (with_reducible refine Below.setCell ?_ ?_ _) | (with_reducible refine Below.trans ?_ (Below.mono (by assumption) ?_)) | (simp only [sz_alloc, sz_set, sz_drew, sz_drewN, sz_iterAt, sz_iter] at *; omega) | omega | (simp; done) | (simp; omega) | (apply Below.size; assumption) | (simp only [sz_drew, sz_drewN]; apply Below.size; assumption) | (refine Nat.le_trans ?_ (Below.size (by assumption)))))
  rw [hzu] at p0 p1
  refine (concat_any _ A B la lb ca cb _ p0 p1 ((HA.out.below hbu).below hba) ((HB.out.below hbu).below hba) (by omega)).mono ?_
  rintro e w1 ⟨A1, c1, rfl, hr1, hb1⟩
  have hb01 : Below u.heap.size u w1 := hba.trans (hb1.mono hba.size)
  have hz1 := hb01.size
  have HR1 := Lib.hid hr1
  have hfs : ∀ t ∈ la ++ lb, t.length ≤ 9223372036854775807 := fun t ht => (List.mem_append.1 ht).elim (HSA.out t) (HSB.out t)
  have HFS := Lib.hid hfs
  have hll : (la ++ lb).length = la.length + lb.length := by simp
  obtain ⟨fl, hfl⟩ : ∃ fl, la ++ lb = fl := ⟨_, rfl⟩
  rw [hfl] at hll HFS HR1 ⊢
  have HFL := Lib.hid hfl
  have HLL := Lib.hid hll
  clear hr1 hfs hb1 hba p0 p1 hfl hll
  go_wp2_with fail
  refine (makeBig true A1 fl c1 w1 (HE.out.below (hbu.trans (hb01.mono hbu.size))) HR1.out HFS.out (by have := HLL.out; omega)).mono ?_
  rintro e w3 ⟨A3, rfl, ho3, hb3⟩
  have hz3 := hb3.size
  obtain ⟨m, hm⟩ : ∃ m, norm fl = m := ⟨_, rfl⟩
  rw [hm] at ho3 ⊢
  have HM : Hid ((meetW true la true lb) = (true, m)) := Lib.hid (by rw [← hm, ← HFL.out]; rfl)
  have HO3 := Lib.hid ho3
  clear ho3 hm
  have hbx : Below u.heap.size u w3 := hb01.trans (hb3.mono (by omega))
  have q5 := fun o => (hbx.cell (p := ⟨w.heap.size + 1 + 1, o, none⟩) lu).trans (qu o)
  have r5 := fun o => (hbx.frozen (p := ⟨w.heap.size + 1 + 1, o, none⟩) lu).trans (ru o)
  have l5 : w.heap.size + 1 + 1 < w3.heap.size := by omega
  have hb5 : Below w.heap.size w w3 := hbu.trans (hbx.mono hbu.size)
  clear hbx qu ru hb3 hb01 hzu
  go_wp2_with fail
  have hfin : OwnT ((w3.setCell ⟨w.heap.size + 1 + 1, 0, none⟩ (.bool true)).setCell ⟨w.heap.size + 1 + 1, 1, none⟩ (.slice A3 m.length m.length)) w1.heap.size A3 m := by
    exact (HO3.out.set_ (by omega) 0 _).set_ (by omega) 1 _
  rw [HM.out]
  refine bodyPost_ret (v := .agg #[.bool true, .slice A3 m.length m.length]) (by simp [results, Tryd.results17, go_sem, *]) rfl ⟨A3, rfl, hfin.base (by omega), (by repeat' (first | (with_reducible exact Below.refl _ _) | (with_reducible assumption) | (with_reducible refine Below.drew ?_) | (with_reducible refine below_drewN ?_ _) | (with_reducible refine below_iterAt ?_ ?_ _ _) | (with_reducible refine below_iter ?_ ?_ _ _) | (with_reducible refine Below.alloc ?_ ?_ _) | (with_reducible refine Below.setCell ?_ ?_ _) | (with_reducible refine Below.trans ?_ (Below.mono (by assumption) ?_)) | (simp only [sz_alloc, sz_set, sz_drew, sz_drewN, sz_iterAt, sz_iter] at *; omega) | omega | (simp; done) | (simp; omega) | (apply Below.size; assumption) | (simp only [sz_drew, sz_drewN]; apply Below.size; assumption) | (refine Nat.le_trans ?_ (Below.size (by assumption)))))⟩
theorem meet_any (aA bA : Bool) (A B : Option Addr) (la lb : List Tx) (ca cb : Nat) (w : World) (hE : Env w) (hA : RdL w 1 A (la.map tC)) (hB : RdL w 1 B (lb.map tC)) (hsa : ∀ t ∈ la, t.length ≤ 9223372036854775807) (hsb : ∀ t ∈ lb, t.length ≤ 9223372036854775807) (hna : la.length * 16 ≤ 140737488355328) (hnb : lb.length * 16 ≤ 140737488355328) :
    Calls Tryd.prog 17 #[.agg #[.bool aA, .slice A la.length ca], .agg #[.bool bA, .slice B lb.length cb]] w fun e w' => ∃ A', e = .returned (.agg #[.bool (meetW aA la bA lb).1, .slice A' (meetW aA la bA lb).2.length (meetW aA la bA lb).2.length]) ∧ OwnT w' w.heap.size A' (meetW aA la bA lb).2 ∧ Below w.heap.size w w' := by
  cases aA
  · exact meetA_any bA A B la lb ca cb w hE hA hB hsa hsb hna hnb
  · cases bA
    · exact meetB_any A B la lb ca cb w hE hA hB hsa hsb hna hnb
    · exact meetC_any A B la lb ca cb w hE hA hB hsa hsb hna hnb
end Go.Proofs.YtgbapmhdhbfhnaaDoor
