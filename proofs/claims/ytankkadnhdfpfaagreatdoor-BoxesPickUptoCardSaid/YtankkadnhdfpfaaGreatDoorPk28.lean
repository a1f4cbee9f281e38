import Derived.Test.YtankkadnhdfpfaaGreatDoorPk14
import Derived.Test.YtankkadnhdfpfaaGreatDoorPk20
import Derived.Test.YtankkadnhdfpfaaGreatDoorPk21
import Derived.Test.YtankkadnhdfpfaaGreatDoorPk27
import Derived.Test.YtankkadnhdfpfaaGreatDoorPk01
/- soffit/sets.tidy, extent, floor, all: walked. -/
set_option linter.unusedSimpArgs false
set_option linter.unusedVariables false
namespace Go.Proofs.YtankkadnhdfpfaaGreatDoor
open Go.RowKit Sp Wd

structure StAt (w : World) (s : St) (A B : Option Addr) : Prop where
  sp : RdL w 2 A (s.sp.map spC)
  ws : RdL w 1 B (s.ws.map tC)
theorem StAt.below {w w' : World} {s : St} {A B : Option Addr} (h : StAt w s A B) (hb : Below w.heap.size w w') : StAt w' s A B := ⟨h.sp.below hb, h.ws.below hb⟩
structure StOk (N : Nat) (s : St) : Prop where
  wf : ∀ x ∈ s.sp, SpWf x
  tx : ∀ x ∈ s.ws, x.length ≤ 9223372036854775807
  ls : s.sp.length ≤ N
  lw : s.ws.length ≤ N
theorem StOk.mono {n m : Nat} {s : St} (h : StOk n s) (hm : n ≤ m) : StOk m s := ⟨h.wf, h.tx, Nat.le_trans h.ls hm, Nat.le_trans h.lw hm⟩
theorem Is.ok {g : Sg} {s : St} {n : Nat} (h : Is g s) (h1 : s.sp.length ≤ n) (h2 : s.ws.length ≤ n) : StOk n s :=
  ⟨h.wf, fun x hx => by have := h.txt x hx; unfold textB at this; rw [Bool.and_eq_true, decide_eq_true_eq] at this; omega, h1, h2⟩
theorem OwnT.at_ {w : World} {b : Nat} {A : Option Addr} {l : List Tx} (h : OwnT w b A l) : RdL w 1 A (l.map tC) := Wd.OwnT.rd h

theorem rd_set {w : World} {sz : Nat} {A : Option Addr} {css : List (List Value)} (h : RdL w sz A css) {b : Nat} (hA : ∀ p, A = some p → b < p.block) (o : Nat) (v : Value) : RdL (w.setCell ⟨b, o, none⟩ v) sz A css :=
  h.of_block (fun p hp => heap_setCell_other w _ _ v (by have := hA p hp; show p.block ≠ b; omega))
theorem rd_low {w w' : World} {sz b : Nat} {A : Option Addr} {css : List (List Value)} (h : RdL w sz A css) (hA : ∀ p, A = some p → b ≤ p.block) (hb : ∀ k, b ≤ k → w'.heap[k]? = w.heap[k]?) : RdL w' sz A css :=
  h.of_block (fun p hp => hb _ (hA p hp))
theorem ownT_low {w : World} {b : Nat} {A : Option Addr} {l : List Tx} (h : OwnT w b A l) (hl : l ≠ []) : ∀ p, A = some p → b ≤ p.block := by
  rcases h with h | ⟨g, rfl, h1, _, _⟩
  · exact absurd h hl
  · intro p hp; cases hp; exact h1
theorem ownT_set {w : World} {b : Nat} {A : Option Addr} {l : List Tx} (h : OwnT w b A l) {c : Nat} (hc : c < b) (o : Nat) (v : Value) : OwnT (w.setCell ⟨c, o, none⟩ v) b A l := Wd.OwnT.set_ h hc o v

set_option maxRecDepth 100000 in
set_option maxHeartbeats 3200000 in
theorem tidy_any (s : St) (N : Nat) (A B : Option Addr) (ca cb : Nat) (w : World) (hS : StAt w s A B) (hO : StOk N s) (hN : N ≤ 8000000000000) (hE : Env w) :
    Calls Tryz.prog 46 #[.agg #[.int .i64 s.k, .slice A s.sp.length ca, .bool s.al, .slice B s.ws.length cb, .int .i64 s.b, .bool s.nul]] w fun e w' => ∃ (r : St) (C D : Option Addr) (cc cd : Nat), e = .returned (.agg #[.int .i64 r.k, .slice C r.sp.length cc, .bool r.al, .slice D r.ws.length cd, .int .i64 r.b, .bool r.nul]) ∧ StAt w' r C D ∧ Is s.sg r ∧ StOk N r ∧ r.al = (s.k == 2 && s.al) ∧ Below w.heap.size w w' := by
  have HS := Lib.hid hS
  have HO := Lib.hid hO
  clear hS hO
  have five : s.k = 1 ∨ s.k = 4 ∨ s.k = 2 ∨ s.k = 3 ∨ ¬ (1 ≤ s.k ∧ s.k ≤ 4) := by omega
  rcases five with hk | hk | hk | hk | hk
  · have HAL : Hid (false = (s.k == 2 && s.al)) := Lib.hid (by rw [show (s.k == 2) = false by simp; omega]; rfl)
    have HK : Hid (numK s.k = true) := by show _ = _; rw [hk]; rfl
    have e1 : (s.k == 1) = true := by simp [hk]
    clear hk
    go_enter Tryz.func46, Tryz.ntmps46
    go_wp2_with fail
    refine (Sp.join_any s.sp A ca _ (HS.out.sp.below bel) HO.out.wf (by have := HO.out.ls; omega)).mono ?_
    rintro e w1 ⟨R, C, cc, rfl, hR, hJ, hcc, hlow, hb1⟩
    have hz1 := hb1.size
    try simp at hz1
    obtain ⟨q1_0, l1_0, r1_0⟩ := aft hb1 (w.heap.size)
    obtain ⟨q1_1, l1_1, r1_1⟩ := aft hb1 (w.heap.size + 1)
    obtain ⟨q1_2, l1_2, r1_2⟩ := aft hb1 (w.heap.size + 2)
    have HI := Lib.hid (tidy_num (s := s) HK.out hJ)
    have HR := Lib.hid hR
    have HJ := Lib.hid hJ
    have HLOW : Hid (∀ p, C = some p → w.heap.size + 2 < p.block) := Lib.hid (fun p hp => by have := (hlow p hp).1; simp at this; omega)
    clear hR hJ hlow
    go_wp2_with fail
    refine bodyPost_ret (v := .agg #[.int .i64 s.k, .slice C R.length cc, .bool false, .slice none 0 0, .int .i64 0, .bool s.nul]) (by simp [results, Tryz.results46, go_sem, *]) rfl ⟨_, C, none, cc, 0, rfl, ⟨?_, RdL.nil_ _ _ _⟩, HI.out, HI.out.ok (Nat.le_trans HJ.out.len HO.out.ls) (by simp), HAL.out, bel⟩
    repeat (refine rd_set ?_ (fun p hp => by have := HLOW.out p hp; omega) _ _)
    exact HR.out
  · have HAL : Hid (false = (s.k == 2 && s.al)) := Lib.hid (by rw [show (s.k == 2) = false by simp; omega]; rfl)
    have HK : Hid (numK s.k = true) := by show _ = _; rw [hk]; rfl
    have e1 : (s.k == 1) = false := by simp [hk]
    have e4 : (s.k == 4) = true := by simp [hk]
    clear hk
    go_enter Tryz.func46, Tryz.ntmps46
    go_wp2_with fail
    refine (Sp.join_any s.sp A ca _ (HS.out.sp.below bel) HO.out.wf (by have := HO.out.ls; omega)).mono ?_
    rintro e w1 ⟨R, C, cc, rfl, hR, hJ, hcc, hlow, hb1⟩
    have hz1 := hb1.size
    try simp at hz1
    obtain ⟨q1_0, l1_0, r1_0⟩ := aft hb1 (w.heap.size)
    obtain ⟨q1_1, l1_1, r1_1⟩ := aft hb1 (w.heap.size + 1)
    obtain ⟨q1_2, l1_2, r1_2⟩ := aft hb1 (w.heap.size + 2)
    have HI := Lib.hid (tidy_num (s := s) HK.out hJ)
    have HR := Lib.hid hR
    have HJ := Lib.hid hJ
    have HLOW : Hid (∀ p, C = some p → w.heap.size + 2 < p.block) := Lib.hid (fun p hp => by have := (hlow p hp).1; simp at this; omega)
    clear hR hJ hlow
    go_wp2_with fail
    refine bodyPost_ret (v := .agg #[.int .i64 s.k, .slice C R.length cc, .bool false, .slice none 0 0, .int .i64 0, .bool s.nul]) (by simp [results, Tryz.results46, go_sem, *]) rfl ⟨_, C, none, cc, 0, rfl, ⟨?_, RdL.nil_ _ _ _⟩, HI.out, HI.out.ok (Nat.le_trans HJ.out.len HO.out.ls) (by simp), HAL.out, bel⟩
    repeat (refine rd_set ?_ (fun p hp => by have := HLOW.out p hp; omega) _ _)
    exact HR.out
  · have HAL : Hid (s.al = (s.k == 2 && s.al)) := Lib.hid (by rw [show (s.k == 2) = true by simp; omega]; rfl)
    have HK := Lib.hid hk
    have e1 : (s.k == 1) = false := by simp [hk]
    have e4 : (s.k == 4) = false := by simp [hk]
    have e2 : (s.k == 2) = true := by simp [hk]
    clear hk
    go_enter Tryz.func46, Tryz.ntmps46
    go_wp2_with fail
    refine (Wd.make_any s.al B s.ws cb _ (hE.below bel) (HS.out.ws.below bel) HO.out.tx (by have := HO.out.lw; omega)).mono ?_
    rintro e w1 ⟨D, rfl, hR, hb1⟩
    have hz1 := hb1.size
    try simp at hz1
    obtain ⟨q1_0, l1_0, r1_0⟩ := aft hb1 (w.heap.size)
    obtain ⟨q1_1, l1_1, r1_1⟩ := aft hb1 (w.heap.size + 1)
    obtain ⟨q1_2, l1_2, r1_2⟩ := aft hb1 (w.heap.size + 2)
    have HI := Lib.hid (tidy_text (s := s) HK.out)
    have HR := Lib.hid hR
    have HL := Lib.hid (norm_length s.ws)
    clear hR
    generalize norm s.ws = R at *
    go_wp2_with fail
    refine bodyPost_ret (v := .agg #[.int .i64 s.k, .slice none 0 0, .bool s.al, .slice D R.length R.length, .int .i64 0, .bool s.nul]) (by simp [results, Tryz.results46, go_sem, *]) rfl ⟨_, none, D, 0, R.length, rfl, ⟨RdL.nil_ _ _ _, Wd.OwnT.rd (base := w.heap.size + 3) ?_⟩, HI.out, HI.out.ok (by simp) (Nat.le_trans HL.out HO.out.lw), HAL.out, bel⟩
    repeat (refine ownT_set ?_ (by omega) _ _)
    exact Wd.OwnT.base HR.out (by simp)
  · have HAL : Hid (false = (s.k == 2 && s.al)) := Lib.hid (by rw [show (s.k == 2) = false by simp; omega]; rfl)
    have HK := Lib.hid hk
    have e1 : (s.k == 1) = false := by simp [hk]
    have e4 : (s.k == 4) = false := by simp [hk]
    have e2 : (s.k == 2) = false := by simp [hk]
    have e3 : (s.k == 3) = true := by simp [hk]
    have ea := and3 s.b
    clear hk
    go_enter Tryz.func46, Tryz.ntmps46
    go_wp2_with fail
    have HI := Lib.hid (tidy_bool (s := s) HK.out)
    refine bodyPost_ret (v := .agg #[.int .i64 s.k, .slice none 0 0, .bool false, .slice none 0 0, .int .i64 (s.b % 4), .bool s.nul]) (by simp [results, Tryz.results46, go_sem, *]) rfl ⟨_, none, none, 0, 0, rfl, ⟨RdL.nil_ _ _ _, RdL.nil_ _ _ _⟩, HI.out, HI.out.ok (by simp) (by simp), HAL.out, bel⟩
  · have HAL : Hid (false = (s.k == 2 && s.al)) := Lib.hid (by rw [show (s.k == 2) = false by simp; omega]; rfl)
    have HI := Lib.hid (tidy_none (s := s) hk)
    have e1 : (s.k == 1) = false := by simp; omega
    have e4 : (s.k == 4) = false := by simp; omega
    have e2 : (s.k == 2) = false := by simp; omega
    have e3 : (s.k == 3) = false := by simp; omega
    clear hk
    go_enter Tryz.func46, Tryz.ntmps46
    go_wp2_with fail
    refine bodyPost_ret (v := .agg #[.int .i64 s.k, .slice none 0 0, .bool false, .slice none 0 0, .int .i64 0, .bool false]) (by simp [results, Tryz.results46, go_sem, *]) rfl ⟨_, none, none, 0, 0, rfl, ⟨RdL.nil_ _ _ _, RdL.nil_ _ _ _⟩, HI.out, HI.out.ok (by simp) (by simp), HAL.out, bel⟩
end Go.Proofs.YtankkadnhdfpfaaGreatDoor

/- soffit/sets.meet: walked. -/
set_option linter.unusedSimpArgs false
set_option linter.unusedVariables false
namespace Go.Proofs.YtankkadnhdfpfaaGreatDoor
open Go.RowKit Sp Wd

theorem rd_alloc {w : World} {sz : Nat} {A : Option Addr} {css : List (List Value)} (h : RdL w sz A css) (o : Obj) : RdL (w.alloc o) sz A css := h.below ((Below.refl _ _).alloc (Nat.le_refl _) o)
theorem meetW_le (aA bA : Bool) (la lb : List Tx) : (meetW aA la bA lb).2.length ≤ la.length + lb.length := by
  unfold meetW
  split
  · refine Nat.le_trans (norm_length _) (by rw [List.length_append]; exact Nat.le_refl _)
  · split
    · exact Nat.le_trans (norm_length _) (Nat.le_trans (List.length_filter_le _ _) (Nat.le_add_left _ _))
    · exact Nat.le_trans (norm_length _) (Nat.le_trans (List.length_filter_le _ _) (Nat.le_add_right _ _))
set_option maxRecDepth 100000 in
set_option maxHeartbeats 12800000 in
theorem setMeet_any (a b : St) (g h : Sg) (N M : Nat) (A B C D : Option Addr) (ca cb cc cd : Nat) (w : World) (hA : StAt w a A B) (hB : StAt w b C D) (ia : Is g a) (ib : Is h b) (hk : g.k = h.k) (oa : StOk N a) (ob : StOk M b) (hN : N ≤ 4000000000000) (hM : M ≤ 4000000000000) (hNM : N * M ≤ 8000000000000) (hE : Env w) :
    Calls Tryz.prog 47 #[.agg #[.int .i64 a.k, .slice A a.sp.length ca, .bool a.al, .slice B a.ws.length cb, .int .i64 a.b, .bool a.nul], .agg #[.int .i64 b.k, .slice C b.sp.length cc, .bool b.al, .slice D b.ws.length cd, .int .i64 b.b, .bool b.nul]] w fun e w' => ∃ (r : St) (X Y : Option Addr) (cx cy : Nat), e = .returned (.agg #[.int .i64 r.k, .slice X r.sp.length cx, .bool r.al, .slice Y r.ws.length cy, .int .i64 r.b, .bool r.nul]) ∧ StAt w' r X Y ∧ Is (g.meet h) r ∧ StOk (N + M) r ∧ r.al = (a.al && b.al) ∧ Below w.heap.size w w' := by
  have HLS : Hid (a.sp.length + b.sp.length ≤ N + M) := Lib.hid (Nat.add_le_add oa.ls ob.ls)
  have HLW : Hid ((meetW a.al a.ws b.al b.ws).2.length ≤ N + M) := Lib.hid (Nat.le_trans (meetW_le _ _ _ _) (Nat.add_le_add oa.lw ob.lw))
  have HAL : Hid ((meetW a.al a.ws b.al b.ws).1 = (a.al && b.al)) := Lib.hid (meet_all _ _ _ _)
  have HCC : Hid (∀ W, RdL W 2 A (a.sp.map spC) → RdL W 2 C (b.sp.map spC) → Calls Tryz.prog 86 #[.slice A a.sp.length ca, .slice C b.sp.length cc] W fun e w' =>
      ∃ (R : List Sp) (C : Option Addr) (cc : Nat), e = .returned (.slice C R.length cc) ∧ RdL w' 2 C (R.map spC) ∧ SetOf (fun n => inS a.sp n && inS b.sp n) (a.sp.length + b.sp.length) R ∧ R.length ≤ cc ∧ (∀ p, C = some p → W.heap.size ≤ p.block) ∧ Below W.heap.size W w') :=
    Lib.hid (fun W h1 h2 => Sp.meetP_any a.sp b.sp A C ca cc W h1 h2 oa.wf ob.wf (by have := oa.ls; omega) (by have := ob.ls; omega) (Nat.le_trans (Nat.mul_le_mul oa.ls ob.ls) hNM))
  have HMW : Hid (∀ W, RdL W 1 B (a.ws.map tC) → RdL W 1 D (b.ws.map tC) → Env W → Calls Tryz.prog 87 #[.agg #[.bool a.al, .slice B a.ws.length cb], .agg #[.bool b.al, .slice D b.ws.length cd]] W fun e w' => ∃ A', e = .returned (.agg #[.bool (meetW a.al a.ws b.al b.ws).1, .slice A' (meetW a.al a.ws b.al b.ws).2.length (meetW a.al a.ws b.al b.ws).2.length]) ∧ OwnT w' W.heap.size A' (meetW a.al a.ws b.al b.ws).2 ∧ Below W.heap.size W w') :=
    Lib.hid (fun W h1 h2 h3 => Wd.meet_any a.al b.al B D a.ws b.ws cb cd W h3 h1 h2 oa.tx ob.tx (by have := oa.lw; omega) (by have := ob.lw; omega))
  have HI : Hid (∀ (R : List Sp) (m : Nat) (al : Bool) (ws : List Tx), SetOf (fun n => inS a.sp n && inS b.sp n) m R → (g.k = 2 → al = (meetW a.al a.ws b.al b.ws).1 ∧ ws = (meetW a.al a.ws b.al b.ws).2) → (g.k ≠ 2 → al = false ∧ ws = []) → Is (g.meet h) ⟨a.k, R, al, ws, bits .and .i64 a.b b.b, a.nul && b.nul⟩) := Lib.hid (fun R m al ws hR h1 h2 => meet_is ia ib hk hR h1 h2)
  have IK := Lib.hid ia.k
  have HSP : Hid (a.k = 2 → a.sp = []) := Lib.hid (fun h2 => ia.c1 (by rw [← ia.k, h2]; rfl))
  have HAL0 : Hid (¬ a.k = 2 → false = (a.al && b.al)) := Lib.hid (fun h2 => by rw [(ia.c2 (by rw [← ia.k]; exact h2)).1]; rfl)
  have HA := Lib.hid hA
  have HB := Lib.hid hB
  have HE := Lib.hid hE
  clear hA hB ia ib oa ob hk hNM hE
  cases hnl : a.nul
  · rw [hnl] at HI
    clear hnl
    go_enter Tryz.func47, Tryz.ntmps47
    go_wp2_with fail
    generalize hE0 : ((w.alloc _).alloc _).alloc _ = W0
    have hb0 : Below w.heap.size w W0 := (by rw [← hE0]; exact bel)
    have K0 : BoxIs W0 w.heap.size #[.int .i64 a.k, .slice A a.sp.length ca, .bool a.al, .slice B a.ws.length cb, .int .i64 a.b, .bool false] := (by rw [← hE0]; exact ((BoxIs.new (t := 36) rfl).alloc _).alloc _)
    have K1 : BoxIs W0 (w.heap.size + 1) #[.int .i64 b.k, .slice C b.sp.length cc, .bool b.al, .slice D b.ws.length cd, .int .i64 b.b, .bool b.nul] := (by rw [← hE0]; exact (BoxIs.new (t := 36) (by simp)).alloc _)
    have K2 : BoxIs W0 (w.heap.size + 2) #[.int .i64 0, .slice none 0 0, .bool false, .slice none 0 0, .int .i64 0, .bool false] := (by rw [← hE0]; exact BoxIs.new (t := 36) (by simp))
    have hs0 : W0.heap.size = w.heap.size + 3 := (by rw [← hE0]; simp)
    have HS0 := Lib.hid hs0
    clear hE0 hs0
    have HA0 := HA.out.below hb0
    have HB0 := HB.out.below hb0
    have HK : ∀ w', Below W0.heap.size W0 w' → Below W0.heap.size W0 w' ∧ (∀ o, w'.cell? ⟨w.heap.size, o, none⟩ = (#[.int .i64 a.k, .slice A a.sp.length ca, .bool a.al, .slice B a.ws.length cb, .int .i64 a.b, .bool false] : Array Value)[o]?) ∧ (∀ o, w'.cell? ⟨w.heap.size + 1, o, none⟩ = (#[.int .i64 b.k, .slice C b.sp.length cc, .bool b.al, .slice D b.ws.length cd, .int .i64 b.b, .bool b.nul] : Array Value)[o]?) := fun w' hb => ⟨hb, (K0.below hb).c, (K1.below hb).c⟩
    have TAIL : ∀ (bx : Nat) (Wz : World) (X : Option Addr) (R : List Sp) (cx : Nat), Below W0.heap.size W0 Wz → BoxIs Wz bx #[.int .i64 a.k, .slice X R.length cx, .bool false, .slice none 0 0, .int .i64 (bits .and .i64 a.b b.b), .bool false] → W0.heap.size ≤ bx → RdL Wz 2 X (R.map spC) → (∀ p, X = some p → W0.heap.size ≤ p.block) → SetOf (fun n => inS a.sp n && inS b.sp n) (a.sp.length + b.sp.length) R →
      (?Gf : Nat → World → Option Addr → List Sp → Nat → Prop) bx Wz X R cx := ?tailf
    refine wp_region_held_drew (S := (fun w' => Below W0.heap.size W0 w' ∧ (∀ o, w'.cell? ⟨w.heap.size, o, none⟩ = (#[.int .i64 a.k, .slice A a.sp.length ca, .bool a.al, .slice B a.ws.length cb, .int .i64 a.b, .bool false] : Array Value)[o]?) ∧ (∀ o, w'.cell? ⟨w.heap.size + 1, o, none⟩ = (#[.int .i64 b.k, .slice C b.sp.length cc, .bool b.al, .slice D b.ws.length cd, .int .i64 b.b, .bool b.nul] : Array Value)[o]?))) (by kernel_rfl) (HK _ bel) (fun hHeld => ?_)
    refine tkH 0 ?_
    try simp only [shH]
    refine tkH 1 ?_
    try simp only [shH]
    refine tkH 2 ?_
    try simp only [shH]
    refine tkH 3 ?_
    try simp only [shH]
    refine tkH 4 ?_
    try simp only [shH]
    refine tkH 5 ?_
    try simp only [shH]
    refine tkH 7 ?_
    try simp only [shH]
    refine tkH 8 ?_
    try simp only [shH]
    refine tkH 9 ?_
    try simp only [shH]
    refine tkH 10 ?_
    try simp only [shH]
    refine tkH 11 ?_
    try simp only [shH]
    refine tkH 12 ?_
    try simp only [shH]
    refine tkH 13 ?_
    try simp only [shH]
    refine rdH [6, 19] ?_
    refine AllReadyH.cons rfl (fun K hK => ?_) ?_
    · go_simp
      go_at_call 86
      refine (HCC.out _ (HA0.sp.below bel) (HB0.sp.below bel)).mono ?_
      rintro e wp ⟨R, X, cx, rfl, hR, hJ, hcx, hlow, hbp⟩
      refine hK.out _ _ ?_ (fun hH2 => ?_)
      · exact HK _ bel
      clear hK K hHeld
      have hHeld := hH2
      clear hH2
      try simp only [shH]
      refine tkH 14 ?_
      try simp only [shH]
      refine tnH 15 ?_
      try simp only [shH]
      refine tnH 16 ?_
      try simp only [shH]
      refine tkH 17 ?_
      try simp only [shH]
      refine tkH 18 ?_
      try simp only [shH]
      refine rdH [19] ?_
      refine AllReadyH.cons rfl (fun K hK => ?_) AllReadyH.nil
      go_simp
      refine hK.out _ _ ?_ (fun hH2 => ?_)
      · exact HK _ bel
      clear hK K hHeld
      have hHeld := hH2
      clear hH2
      try simp only [shH]
      refine rdH [20] ?_
      refine AllReadyH.cons rfl (fun K hK => ?_) AllReadyH.nil
      go_simp
      refine hK.out _ _ ?_ (fun hH2 => ?_)
      · exact HK _ bel
      clear hK K hHeld
      have hHeld := hH2
      clear hH2
      try simp only [shH]
      refine dnH ?_ _
      clear hHeld
      (try simp only [Exit.then, Exit.inBlock])
      generalize hWz : wp.alloc _ = Wz
      have hBZ : Below W0.heap.size W0 Wz := by rw [← hWz]; exact bel
      have KB : BoxIs Wz wp.heap.size #[.int .i64 a.k, .slice X R.length cx, .bool false, .slice none 0 0, .int .i64 (bits .and .i64 a.b b.b), .bool false] := by rw [← hWz]; exact BoxIs.new (t := 36) rfl
      have hRZ : RdL Wz 2 X (R.map spC) := by rw [← hWz]; exact rd_alloc hR _
      have hX : ∀ p, X = some p → W0.heap.size ≤ p.block := fun p hp => hlow p hp
      obtain ⟨bx, hbx⟩ : ∃ bx, wp.heap.size = bx := ⟨_, rfl⟩
      have hlo : W0.heap.size ≤ bx := by rw [← hbx]; exact hbp.size
      rw [hbx]
      rw [hbx] at KB
      exact TAIL bx Wz X R cx hBZ KB hlo hRZ hX hJ
    refine AllReadyH.cons rfl (fun K hK => ?_) AllReadyH.nil
    go_simp
    refine hK.out _ _ ?_ (fun hH2 => ?_)
    · exact HK _ bel
    clear hK K hHeld
    have hHeld := hH2
    clear hH2
    try simp only [shH]
    refine rdH [6] ?_
    refine AllReadyH.cons rfl (fun K hK => ?_) AllReadyH.nil
    go_simp
    go_at_call 86
    refine (HCC.out _ (HA0.sp.below bel) (HB0.sp.below bel)).mono ?_
    rintro e wp ⟨R, X, cx, rfl, hR, hJ, hcx, hlow, hbp⟩
    have KN : BoxIs wp W0.heap.size #[.int .i64 0, .slice none 0 0, .bool false, .slice none 0 0, .int .i64 0, .bool false] := BoxIs.below (BoxIs.new (w := W0) (t := 36) rfl) bel
    have n0 := KN.c
    have n1 := KN.f
    refine hK.out _ _ ?_ (fun hH2 => ?_)
    · exact HK _ bel
    clear hK K hHeld
    have hHeld := hH2
    clear hH2
    try simp only [shH]
    refine tkH 14 ?_
    try simp only [shH]
    refine tnH 15 ?_
    try simp only [shH]
    refine tnH 16 ?_
    try simp only [shH]
    refine tkH 17 ?_
    try simp only [shH]
    refine tkH 18 ?_
    try simp only [shH]
    refine rdH [20] ?_
    refine AllReadyH.cons rfl (fun K hK => ?_) AllReadyH.nil
    go_simp
    refine hK.out _ _ ?_ (fun hH2 => ?_)
    · exact HK _ bel
    clear hK K hHeld
    have hHeld := hH2
    clear hH2
    try simp only [shH]
    refine dnH ?_ _
    clear hHeld
    (try simp only [Exit.then, Exit.inBlock])
    generalize hWz : (((((wp.setCell _ _).setCell _ _).setCell _ _).setCell _ _).setCell _ _).setCell _ _ = Wz
    have hBZ : Below W0.heap.size W0 Wz := by rw [← hWz]; exact bel
    have KB : BoxIs Wz W0.heap.size #[.int .i64 a.k, .slice X R.length cx, .bool false, .slice none 0 0, .int .i64 (bits .and .i64 a.b b.b), .bool false] := by rw [← hWz]; exact (((((KN.set 0 _).set 1 _).set 2 _).set 3 _).set 4 _).set 5 _
    have hRZ : RdL Wz 2 X (R.map spC) := by
      rw [← hWz]
      repeat (with_reducible refine rd_set ?_ (fun p hp => by have := hlow p hp; simp only [sz_alloc, sz_drew] at this; omega) _ _)
      exact hR
    have hX : ∀ p, X = some p → W0.heap.size ≤ p.block := fun p hp => by have := hlow p hp; simp only [sz_alloc, sz_drew] at this; omega
    obtain ⟨bx, hbx⟩ : ∃ bx, W0.heap.size = bx := ⟨_, rfl⟩
    have hlo : W0.heap.size ≤ bx := by rw [← hbx]; exact Nat.le_refl _
    rw [hbx]
    rw [hbx] at KB
    exact TAIL bx Wz X R cx hBZ KB hlo hRZ hX hJ
    case tailf =>
      intro bx Wz X R cx hBZ KB hlo hRZ hX hJ
      have hs0 := HS0.out
      have hbw : Below w.heap.size w Wz := hb0.trans (hBZ.mono (by omega))
      have k0 := (K0.below hBZ).c
      have k1 := (K1.below hBZ).c
      have z2 := (K2.below hBZ).c
      have f2 := (K2.below hBZ).f
      have l2 := (K2.below hBZ).lt
      have l0 : w.heap.size < Wz.heap.size := by omega
      have l1 : w.heap.size + 1 < Wz.heap.size := by omega
      have zb := KB.c
      have fb := KB.f
      have lb := KB.lt
      have hne : ¬ (bx = w.heap.size + 2) := by omega
      have hbx : w.heap.size ≤ bx := by omega
      have HX : Hid (∀ p, X = some p → w.heap.size + 2 < p.block) := Lib.hid (fun p hp => by have := hX p hp; omega)
      have HAZ := HA0.below hBZ
      have HBZ := HB0.below hBZ
      have HJ := Lib.hid hJ
      have HRZ := Lib.hid hRZ
      clear HK K0 K1 K2 KB HA0 HB0 hBZ hX hJ hRZ hb0 hs0 hlo
      by_cases h2 : a.k = 2
      · have e2 : (a.k == 2) = true := by simpa using h2
        have hR0 : R = [] := ordL_none HJ.out.ord (fun n => by rw [HJ.out.same, HSP.out h2]; rfl)
        subst hR0
        have HII := Lib.hid (HI.out [] _ _ _ HJ.out (fun _ => ⟨rfl, rfl⟩) (fun hh => absurd (by rw [← IK.out]; exact h2) hh))
        clear h2
        go_wp2_with fail
        refine (HMW.out _ (HAZ.ws.below bel) (HBZ.ws.below bel) (HE.out.below bel)).mono ?_
        rintro e w2 ⟨Y, rfl, hY, hb2⟩
        have HY := Lib.hid hY
        obtain ⟨q1, q2, q3⟩ := aft hb2 (w.heap.size + 2) l2
        obtain ⟨q4, q5, q6⟩ := aft hb2 bx lb
        have hbw2 : Below w.heap.size w w2 := hbw.trans (hb2.mono hbw.size)
        obtain ⟨m1, hm1⟩ : ∃ m1, (meetW a.al a.ws b.al b.ws).1 = m1 := ⟨_, rfl⟩
        obtain ⟨m2, hm2⟩ : ∃ m2, (meetW a.al a.ws b.al b.ws).2 = m2 := ⟨_, rfl⟩
        rw [hm1] at HAL HII
        rw [hm2] at HLW HII HY
        rw [hm1, hm2]
        clear hm1 hm2 hY hbw hb2 k0 k1
        go_wp2_with fail
        refine bodyPost_ret (v := .agg #[.int .i64 a.k, .slice X 0 cx, .bool m1, .slice Y m2.length m2.length, .int .i64 (bits .and .i64 a.b b.b), .bool false]) (by simp [results, Tryz.results47, go_sem, *]) rfl ⟨⟨a.k, [], m1, m2, bits .and .i64 a.b b.b, false⟩, X, Y, cx, _, rfl, ⟨RdL.nil_ _ _ _, Wd.OwnT.rd (base := Wz.heap.size) ?_⟩, HII.out, HII.out.ok (by simp) HLW.out, HAL.out, bel⟩
        repeat (with_reducible refine ownT_set ?_ (by omega) _ _)
        exact HY.out
      · have e2 : (a.k == 2) = false := by simpa using h2
        have HII := Lib.hid (HI.out R _ false [] HJ.out (fun hh => absurd (by rw [IK.out]; exact hh) h2) (fun _ => ⟨rfl, rfl⟩))
        have HAL1 := Lib.hid (HAL0.out h2)
        clear h2
        go_wp2_with fail
        refine bodyPost_ret (v := .agg #[.int .i64 a.k, .slice X R.length cx, .bool false, .slice none 0 0, .int .i64 (bits .and .i64 a.b b.b), .bool false]) (by simp [results, Tryz.results47, go_sem, *]) rfl ⟨⟨a.k, R, false, [], bits .and .i64 a.b b.b, false⟩, X, none, cx, 0, rfl, ⟨?_, RdL.nil_ _ _ _⟩, HII.out, HII.out.ok (Nat.le_trans HJ.out.len HLS.out) (Nat.zero_le _), HAL1.out, bel⟩
        repeat (with_reducible refine rd_set ?_ (fun p hp => by have := HX.out p hp; omega) _ _)
        exact HRZ.out
  · rw [hnl] at HI
    clear hnl
    go_enter Tryz.func47, Tryz.ntmps47
    go_wp2_with fail
    generalize hE0 : ((w.alloc _).alloc _).alloc _ = W0
    have hb0 : Below w.heap.size w W0 := (by rw [← hE0]; exact bel)
    have K0 : BoxIs W0 w.heap.size #[.int .i64 a.k, .slice A a.sp.length ca, .bool a.al, .slice B a.ws.length cb, .int .i64 a.b, .bool true] := (by rw [← hE0]; exact ((BoxIs.new (t := 36) rfl).alloc _).alloc _)
    have K1 : BoxIs W0 (w.heap.size + 1) #[.int .i64 b.k, .slice C b.sp.length cc, .bool b.al, .slice D b.ws.length cd, .int .i64 b.b, .bool b.nul] := (by rw [← hE0]; exact (BoxIs.new (t := 36) (by simp)).alloc _)
    have K2 : BoxIs W0 (w.heap.size + 2) #[.int .i64 0, .slice none 0 0, .bool false, .slice none 0 0, .int .i64 0, .bool false] := (by rw [← hE0]; exact BoxIs.new (t := 36) (by simp))
    have hs0 : W0.heap.size = w.heap.size + 3 := (by rw [← hE0]; simp)
    have HS0 := Lib.hid hs0
    clear hE0 hs0
    have HA0 := HA.out.below hb0
    have HB0 := HB.out.below hb0
    have HK : ∀ w', Below W0.heap.size W0 w' → Below W0.heap.size W0 w' ∧ (∀ o, w'.cell? ⟨w.heap.size, o, none⟩ = (#[.int .i64 a.k, .slice A a.sp.length ca, .bool a.al, .slice B a.ws.length cb, .int .i64 a.b, .bool true] : Array Value)[o]?) ∧ (∀ o, w'.cell? ⟨w.heap.size + 1, o, none⟩ = (#[.int .i64 b.k, .slice C b.sp.length cc, .bool b.al, .slice D b.ws.length cd, .int .i64 b.b, .bool b.nul] : Array Value)[o]?) := fun w' hb => ⟨hb, (K0.below hb).c, (K1.below hb).c⟩
    have TAIL : ∀ (bx : Nat) (Wz : World) (X : Option Addr) (R : List Sp) (cx : Nat), Below W0.heap.size W0 Wz → BoxIs Wz bx #[.int .i64 a.k, .slice X R.length cx, .bool false, .slice none 0 0, .int .i64 (bits .and .i64 a.b b.b), .bool b.nul] → W0.heap.size ≤ bx → RdL Wz 2 X (R.map spC) → (∀ p, X = some p → W0.heap.size ≤ p.block) → SetOf (fun n => inS a.sp n && inS b.sp n) (a.sp.length + b.sp.length) R →
      (?Gt : Nat → World → Option Addr → List Sp → Nat → Prop) bx Wz X R cx := ?tailt
    refine wp_region_held_drew (S := (fun w' => Below W0.heap.size W0 w' ∧ (∀ o, w'.cell? ⟨w.heap.size, o, none⟩ = (#[.int .i64 a.k, .slice A a.sp.length ca, .bool a.al, .slice B a.ws.length cb, .int .i64 a.b, .bool true] : Array Value)[o]?) ∧ (∀ o, w'.cell? ⟨w.heap.size + 1, o, none⟩ = (#[.int .i64 b.k, .slice C b.sp.length cc, .bool b.al, .slice D b.ws.length cd, .int .i64 b.b, .bool b.nul] : Array Value)[o]?))) (by kernel_rfl) (HK _ bel) (fun hHeld => ?_)
    refine tkH 0 ?_
    try simp only [shH]
    refine tkH 1 ?_
    try simp only [shH]
    refine tkH 2 ?_
    try simp only [shH]
    refine tkH 3 ?_
    try simp only [shH]
    refine tkH 4 ?_
    try simp only [shH]
    refine tkH 5 ?_
    try simp only [shH]
    refine tkH 7 ?_
    try simp only [shH]
    refine tkH 8 ?_
    try simp only [shH]
    refine tkH 9 ?_
    try simp only [shH]
    refine tkH 10 ?_
    try simp only [shH]
    refine tkH 11 ?_
    try simp only [shH]
    refine tkH 12 ?_
    try simp only [shH]
    refine tkH 13 ?_
    try simp only [shH]
    refine rdH [6, 19] ?_
    refine AllReadyH.cons rfl (fun K hK => ?_) ?_
    · go_simp
      go_at_call 86
      refine (HCC.out _ (HA0.sp.below bel) (HB0.sp.below bel)).mono ?_
      rintro e wp ⟨R, X, cx, rfl, hR, hJ, hcx, hlow, hbp⟩
      refine hK.out _ _ ?_ (fun hH2 => ?_)
      · exact HK _ bel
      clear hK K hHeld
      have hHeld := hH2
      clear hH2
      try simp only [shH]
      refine tkH 14 ?_
      try simp only [shH]
      refine tkH 15 ?_
      try simp only [shH]
      refine tkH 16 ?_
      try simp only [shH]
      refine tkH 17 ?_
      try simp only [shH]
      refine tkH 18 ?_
      try simp only [shH]
      refine rdH [19] ?_
      refine AllReadyH.cons rfl (fun K hK => ?_) AllReadyH.nil
      go_simp
      refine hK.out _ _ ?_ (fun hH2 => ?_)
      · exact HK _ bel
      clear hK K hHeld
      have hHeld := hH2
      clear hH2
      try simp only [shH]
      refine rdH [20] ?_
      refine AllReadyH.cons rfl (fun K hK => ?_) AllReadyH.nil
      go_simp
      refine hK.out _ _ ?_ (fun hH2 => ?_)
      · exact HK _ bel
      clear hK K hHeld
      have hHeld := hH2
      clear hH2
      try simp only [shH]
      refine dnH ?_ _
      clear hHeld
      (try simp only [Exit.then, Exit.inBlock])
      generalize hWz : wp.alloc _ = Wz
      have hBZ : Below W0.heap.size W0 Wz := by rw [← hWz]; exact bel
      have KB : BoxIs Wz wp.heap.size #[.int .i64 a.k, .slice X R.length cx, .bool false, .slice none 0 0, .int .i64 (bits .and .i64 a.b b.b), .bool b.nul] := by rw [← hWz]; exact BoxIs.new (t := 36) rfl
      have hRZ : RdL Wz 2 X (R.map spC) := by rw [← hWz]; exact rd_alloc hR _
      have hX : ∀ p, X = some p → W0.heap.size ≤ p.block := fun p hp => hlow p hp
      obtain ⟨bx, hbx⟩ : ∃ bx, wp.heap.size = bx := ⟨_, rfl⟩
      have hlo : W0.heap.size ≤ bx := by rw [← hbx]; exact hbp.size
      rw [hbx]
      rw [hbx] at KB
      exact TAIL bx Wz X R cx hBZ KB hlo hRZ hX hJ
    refine AllReadyH.cons rfl (fun K hK => ?_) AllReadyH.nil
    go_simp
    refine hK.out _ _ ?_ (fun hH2 => ?_)
    · exact HK _ bel
    clear hK K hHeld
    have hHeld := hH2
    clear hH2
    try simp only [shH]
    refine rdH [6] ?_
    refine AllReadyH.cons rfl (fun K hK => ?_) AllReadyH.nil
    go_simp
    go_at_call 86
    refine (HCC.out _ (HA0.sp.below bel) (HB0.sp.below bel)).mono ?_
    rintro e wp ⟨R, X, cx, rfl, hR, hJ, hcx, hlow, hbp⟩
    have KN : BoxIs wp W0.heap.size #[.int .i64 0, .slice none 0 0, .bool false, .slice none 0 0, .int .i64 0, .bool false] := BoxIs.below (BoxIs.new (w := W0) (t := 36) rfl) bel
    have n0 := KN.c
    have n1 := KN.f
    refine hK.out _ _ ?_ (fun hH2 => ?_)
    · exact HK _ bel
    clear hK K hHeld
    have hHeld := hH2
    clear hH2
    try simp only [shH]
    refine tkH 14 ?_
    try simp only [shH]
    refine tkH 15 ?_
    try simp only [shH]
    refine tkH 16 ?_
    try simp only [shH]
    refine tkH 17 ?_
    try simp only [shH]
    refine tkH 18 ?_
    try simp only [shH]
    refine rdH [20] ?_
    refine AllReadyH.cons rfl (fun K hK => ?_) AllReadyH.nil
    go_simp
    refine hK.out _ _ ?_ (fun hH2 => ?_)
    · exact HK _ bel
    clear hK K hHeld
    have hHeld := hH2
    clear hH2
    try simp only [shH]
    refine dnH ?_ _
    clear hHeld
    (try simp only [Exit.then, Exit.inBlock])
    generalize hWz : (((((wp.setCell _ _).setCell _ _).setCell _ _).setCell _ _).setCell _ _).setCell _ _ = Wz
    have hBZ : Below W0.heap.size W0 Wz := by rw [← hWz]; exact bel
    have KB : BoxIs Wz W0.heap.size #[.int .i64 a.k, .slice X R.length cx, .bool false, .slice none 0 0, .int .i64 (bits .and .i64 a.b b.b), .bool b.nul] := by rw [← hWz]; exact (((((KN.set 0 _).set 1 _).set 2 _).set 3 _).set 4 _).set 5 _
    have hRZ : RdL Wz 2 X (R.map spC) := by
      rw [← hWz]
      repeat (with_reducible refine rd_set ?_ (fun p hp => by have := hlow p hp; simp only [sz_alloc, sz_drew] at this; omega) _ _)
      exact hR
    have hX : ∀ p, X = some p → W0.heap.size ≤ p.block := fun p hp => by have := hlow p hp; simp only [sz_alloc, sz_drew] at this; omega
    obtain ⟨bx, hbx⟩ : ∃ bx, W0.heap.size = bx := ⟨_, rfl⟩
    have hlo : W0.heap.size ≤ bx := by rw [← hbx]; exact Nat.le_refl _
    rw [hbx]
    rw [hbx] at KB
    exact TAIL bx Wz X R cx hBZ KB hlo hRZ hX hJ
    case tailt =>
      intro bx Wz X R cx hBZ KB hlo hRZ hX hJ
      have hs0 := HS0.out
      have hbw : Below w.heap.size w Wz := hb0.trans (hBZ.mono (by omega))
      have k0 := (K0.below hBZ).c
      have k1 := (K1.below hBZ).c
      have z2 := (K2.below hBZ).c
      have f2 := (K2.below hBZ).f
      have l2 := (K2.below hBZ).lt
      have l0 : w.heap.size < Wz.heap.size := by omega
      have l1 : w.heap.size + 1 < Wz.heap.size := by omega
      have zb := KB.c
      have fb := KB.f
      have lb := KB.lt
      have hne : ¬ (bx = w.heap.size + 2) := by omega
      have hbx : w.heap.size ≤ bx := by omega
      have HX : Hid (∀ p, X = some p → w.heap.size + 2 < p.block) := Lib.hid (fun p hp => by have := hX p hp; omega)
      have HAZ := HA0.below hBZ
      have HBZ := HB0.below hBZ
      have HJ := Lib.hid hJ
      have HRZ := Lib.hid hRZ
      clear HK K0 K1 K2 KB HA0 HB0 hBZ hX hJ hRZ hb0 hs0 hlo
      by_cases h2 : a.k = 2
      · have e2 : (a.k == 2) = true := by simpa using h2
        have hR0 : R = [] := ordL_none HJ.out.ord (fun n => by rw [HJ.out.same, HSP.out h2]; rfl)
        subst hR0
        have HII := Lib.hid (HI.out [] _ _ _ HJ.out (fun _ => ⟨rfl, rfl⟩) (fun hh => absurd (by rw [← IK.out]; exact h2) hh))
        clear h2
        go_wp2_with fail
        refine (HMW.out _ (HAZ.ws.below bel) (HBZ.ws.below bel) (HE.out.below bel)).mono ?_
        rintro e w2 ⟨Y, rfl, hY, hb2⟩
        have HY := Lib.hid hY
        obtain ⟨q1, q2, q3⟩ := aft hb2 (w.heap.size + 2) l2
        obtain ⟨q4, q5, q6⟩ := aft hb2 bx lb
        have hbw2 : Below w.heap.size w w2 := hbw.trans (hb2.mono hbw.size)
        obtain ⟨m1, hm1⟩ : ∃ m1, (meetW a.al a.ws b.al b.ws).1 = m1 := ⟨_, rfl⟩
        obtain ⟨m2, hm2⟩ : ∃ m2, (meetW a.al a.ws b.al b.ws).2 = m2 := ⟨_, rfl⟩
        rw [hm1] at HAL HII
        rw [hm2] at HLW HII HY
        rw [hm1, hm2]
        clear hm1 hm2 hY hbw hb2 k0 k1
        go_wp2_with fail
        refine bodyPost_ret (v := .agg #[.int .i64 a.k, .slice X 0 cx, .bool m1, .slice Y m2.length m2.length, .int .i64 (bits .and .i64 a.b b.b), .bool b.nul]) (by simp [results, Tryz.results47, go_sem, *]) rfl ⟨⟨a.k, [], m1, m2, bits .and .i64 a.b b.b, b.nul⟩, X, Y, cx, _, rfl, ⟨RdL.nil_ _ _ _, Wd.OwnT.rd (base := Wz.heap.size) ?_⟩, HII.out, HII.out.ok (by simp) HLW.out, HAL.out, bel⟩
        repeat (with_reducible refine ownT_set ?_ (by omega) _ _)
        exact HY.out
      · have e2 : (a.k == 2) = false := by simpa using h2
        have HII := Lib.hid (HI.out R _ false [] HJ.out (fun hh => absurd (by rw [IK.out]; exact hh) h2) (fun _ => ⟨rfl, rfl⟩))
        have HAL1 := Lib.hid (HAL0.out h2)
        clear h2
        go_wp2_with fail
        refine bodyPost_ret (v := .agg #[.int .i64 a.k, .slice X R.length cx, .bool false, .slice none 0 0, .int .i64 (bits .and .i64 a.b b.b), .bool b.nul]) (by simp [results, Tryz.results47, go_sem, *]) rfl ⟨⟨a.k, R, false, [], bits .and .i64 a.b b.b, b.nul⟩, X, none, cx, 0, rfl, ⟨?_, RdL.nil_ _ _ _⟩, HII.out, HII.out.ok (Nat.le_trans HJ.out.len HLS.out) (Nat.zero_le _), HAL1.out, bel⟩
        repeat (with_reducible refine rd_set ?_ (fun p hp => by have := HX.out p hp; omega) _ _)
        exact HRZ.out
end Go.Proofs.YtankkadnhdfpfaaGreatDoor

/- soffit/sets.all: walked. -/
set_option linter.unusedSimpArgs false
set_option linter.unusedVariables false
namespace Go.Proofs.YtankkadnhdfpfaaGreatDoor
open Go.RowKit Sp Wd

theorem rd_one {w : World} {g : Nat} {x : Sp} {t : TypeId} (h : w.heap[g]? = some (.cells #[.int .i64 x.1, .int .i64 x.2] t)) : RdL w 2 (some ⟨g, 0, none⟩) ([x].map spC) := by
  intro j c hc
  match j, hc with
  | 0, hc =>
    obtain rfl : spC x = c := by simpa using hc
    refine ⟨g, 0, rfl, fun i v hv => ?_⟩
    rw [cell_of_block h]
    match i, hv with
    | 0, hv => simpa [spC] using hv
    | 1, hv => simpa [spC] using hv
    | i + 2, hv => simp [spC] at hv
  | j + 1, hc => simp at hc
set_option maxRecDepth 100000 in
set_option maxHeartbeats 3200000 in
theorem setAll_any (t : Ty) (A : Option Addr) (c : Nat) (w : World) (ht : 1 ≤ t.k ∧ t.k ≤ 4) (hE : Env w) :
    Calls Tryz.prog 88 #[.agg #[.int .i64 t.k, .int .i64 t.sc, .bool t.c.any, .bool t.c.neg, .slice A t.c.ts.length c]] w fun e w' => ∃ (r : St) (X Y : Option Addr) (cx cy : Nat), e = .returned (.agg #[.int .i64 r.k, .slice X r.sp.length cx, .bool r.al, .slice Y r.ws.length cy, .int .i64 r.b, .bool r.nul]) ∧ StAt w' r X Y ∧ Is (allG t.k) r ∧ StOk 1 r ∧ r.al = (t.k == 2) ∧ Below w.heap.size w w' := by
  have three : t.k = 2 ∨ t.k = 3 ∨ numK t.k = true := by unfold numK; simp only [Bool.or_eq_true, beq_iff_eq]; omega
  rcases three with hk | hk | hk
  · have HI := Lib.hid (all_text hk)
    have HAL : Hid (true = (t.k == 2)) := Lib.hid (by rw [show (t.k == 2) = true by simp; omega])
    have e2 : (t.k == 2) = true := by simp [hk]
    have HL : Hid ((norm []).length = 0) := Lib.hid (by rw [norm_nil]; rfl)
    clear hk ht
    go_enter Tryz.func88, Tryz.ntmps88
    go_wp2_with fail
    refine (Wd.make_any true none [] 0 _ (hE.below bel) (RdL.nil_ _ _ _) (by simp) (by simp)).mono ?_
    rintro e w1 ⟨D, rfl, hR, hb1⟩
    have hz1 := hb1.size
    try simp at hz1
    obtain ⟨q1_0, l1_0, r1_0⟩ := aft hb1 (w.heap.size)
    obtain ⟨q1_1, l1_1, r1_1⟩ := aft hb1 (w.heap.size + 1)
    obtain ⟨q1_2, l1_2, r1_2⟩ := aft hb1 (w.heap.size + 2)
    have HR := Lib.hid hR
    clear hR
    generalize norm [] = R at *
    go_wp2_with fail
    refine bodyPost_ret (v := .agg #[.int .i64 t.k, .slice none 0 0, .bool true, .slice D R.length R.length, .int .i64 0, .bool true]) (by simp [results, Tryz.results88, go_sem, *]) rfl ⟨_, none, D, 0, R.length, rfl, ⟨RdL.nil_ _ _ _, Wd.OwnT.rd (base := w.heap.size + 3) ?_⟩, HI.out, HI.out.ok (by simp) (by show R.length ≤ 1; rw [HL.out]; omega), HAL.out, bel⟩
    repeat (with_reducible refine ownT_set ?_ (by omega) _ _)
    exact Wd.OwnT.base HR.out (by simp)
  · have HI := Lib.hid (all_bool hk)
    have HAL : Hid (false = (t.k == 2)) := Lib.hid (by rw [show (t.k == 2) = false by simp; omega])
    have e2 : (t.k == 2) = false := by simp [hk]
    have e3 : (t.k == 3) = true := by simp [hk]
    clear hk ht
    go_enter Tryz.func88, Tryz.ntmps88
    go_wp2_with fail
    refine bodyPost_ret (v := .agg #[.int .i64 t.k, .slice none 0 0, .bool false, .slice none 0 0, .int .i64 3, .bool true]) (by simp [results, Tryz.results88, go_sem, *]) rfl ⟨_, none, none, 0, 0, rfl, ⟨RdL.nil_ _ _ _, RdL.nil_ _ _ _⟩, HI.out, HI.out.ok (by simp) (by simp), HAL.out, bel⟩
  · have HI := Lib.hid (all_num hk)
    have h14 : t.k = 1 ∨ t.k = 4 := by simpa [numK] using hk
    have HAL : Hid (false = (t.k == 2)) := Lib.hid (by rw [show (t.k == 2) = false by simp; omega])
    have e2 : (t.k == 2) = false := by simp; omega
    have e3 : (t.k == 3) = false := by simp; omega
    clear hk ht h14
    go_enter Tryz.func88, Tryz.ntmps88
    go_wp2_with fail
    refine (extent_any t A c _).mono ?_
    rintro e w1 ⟨rfl, hb1⟩
    have hz1 := hb1.size
    try simp at hz1
    obtain ⟨q1_0, l1_0, r1_0⟩ := aft hb1 (w.heap.size)
    obtain ⟨q1_1, l1_1, r1_1⟩ := aft hb1 (w.heap.size + 1)
    obtain ⟨q1_2, l1_2, r1_2⟩ := aft hb1 (w.heap.size + 2)
    generalize lowK t.k = l0 at *
    generalize topK t.k = t0 at *
    have co0 : w1.cell? ⟨w.heap.size + 2, 0, none⟩ = some (.int .i64 t.k) := by simp [go_sem, *]
    have co1 : w1.cell? ⟨w.heap.size + 2, 1, none⟩ = some (.slice none 0 0) := by simp [go_sem, *]
    have co2 : w1.cell? ⟨w.heap.size + 2, 2, none⟩ = some (.bool false) := by simp [go_sem, *]
    have co3 : w1.cell? ⟨w.heap.size + 2, 3, none⟩ = some (.slice none 0 0) := by simp [go_sem, *]
    have co4 : w1.cell? ⟨w.heap.size + 2, 4, none⟩ = some (.int .i64 0) := by simp [go_sem, *]
    have co5 : w1.cell? ⟨w.heap.size + 2, 5, none⟩ = some (.bool true) := by simp [go_sem, *]
    have cz0 : w1.cell? ⟨w.heap.size + 1, 0, none⟩ = some (.int .i64 0) := by simp [go_sem, *]
    have cz1 : w1.cell? ⟨w.heap.size + 1, 1, none⟩ = some (.slice none 0 0) := by simp [go_sem, *]
    have cz2 : w1.cell? ⟨w.heap.size + 1, 2, none⟩ = some (.bool false) := by simp [go_sem, *]
    have cz3 : w1.cell? ⟨w.heap.size + 1, 3, none⟩ = some (.slice none 0 0) := by simp [go_sem, *]
    have cz4 : w1.cell? ⟨w.heap.size + 1, 4, none⟩ = some (.int .i64 0) := by simp [go_sem, *]
    have cz5 : w1.cell? ⟨w.heap.size + 1, 5, none⟩ = some (.bool false) := by simp [go_sem, *]
    have co : ∀ o, w1.frozen? ⟨w.heap.size + 2, o, none⟩ = false := fun o => (r1_2 o).trans (by simp [go_sem])
    have cz : ∀ o, w1.frozen? ⟨w.heap.size + 1, o, none⟩ = false := fun o => (r1_1 o).trans (by simp [go_sem])
    clear q1_0 q1_1 q1_2 r1_0 r1_1 r1_2
    obtain ⟨wa, hwa⟩ : ∃ f : Obj → World, ∀ o, w1.alloc o = f o := ⟨_, fun _ => rfl⟩
    have hba : ∀ o, Below w1.heap.size w1 (wa o) := fun o => by rw [← hwa]; exact (Below.refl _ _).alloc (Nat.le_refl _) o
    have HBA := Lib.hid hba
    have o0 : ∀ o, (wa o).cell? ⟨w.heap.size + 2, 0, none⟩ = some (.int .i64 t.k) := fun o => cell_below (hba o) co0
    have o1 : ∀ o, (wa o).cell? ⟨w.heap.size + 2, 1, none⟩ = some (.slice none 0 0) := fun o => cell_below (hba o) co1
    have o2 : ∀ o, (wa o).cell? ⟨w.heap.size + 2, 2, none⟩ = some (.bool false) := fun o => cell_below (hba o) co2
    have o3 : ∀ o, (wa o).cell? ⟨w.heap.size + 2, 3, none⟩ = some (.slice none 0 0) := fun o => cell_below (hba o) co3
    have o4 : ∀ o, (wa o).cell? ⟨w.heap.size + 2, 4, none⟩ = some (.int .i64 0) := fun o => cell_below (hba o) co4
    have o5 : ∀ o, (wa o).cell? ⟨w.heap.size + 2, 5, none⟩ = some (.bool true) := fun o => cell_below (hba o) co5
    have z0 : ∀ o, (wa o).cell? ⟨w.heap.size + 1, 0, none⟩ = some (.int .i64 0) := fun o => cell_below (hba o) cz0
    have z1 : ∀ o, (wa o).cell? ⟨w.heap.size + 1, 1, none⟩ = some (.slice none 0 0) := fun o => cell_below (hba o) cz1
    have z2 : ∀ o, (wa o).cell? ⟨w.heap.size + 1, 2, none⟩ = some (.bool false) := fun o => cell_below (hba o) cz2
    have z3 : ∀ o, (wa o).cell? ⟨w.heap.size + 1, 3, none⟩ = some (.slice none 0 0) := fun o => cell_below (hba o) cz3
    have z4 : ∀ o, (wa o).cell? ⟨w.heap.size + 1, 4, none⟩ = some (.int .i64 0) := fun o => cell_below (hba o) cz4
    have z5 : ∀ o, (wa o).cell? ⟨w.heap.size + 1, 5, none⟩ = some (.bool false) := fun o => cell_below (hba o) cz5
    have of : ∀ x o, (wa x).frozen? ⟨w.heap.size + 2, o, none⟩ = false := fun x o => ((hba x).frozen (p := ⟨w.heap.size + 2, o, none⟩) l1_2).trans (co o)
    have zf : ∀ x o, (wa x).frozen? ⟨w.heap.size + 1, o, none⟩ = false := fun x o => ((hba x).frozen (p := ⟨w.heap.size + 1, o, none⟩) l1_1).trans (cz o)
    clear hba co cz co0 co1 co2 co3 co4 co5 cz0 cz1 cz2 cz3 cz4 cz5
    have HBW : Hid (∀ o, Below w.heap.size w (wa o)) := Lib.hid (fun o => (show Below w.heap.size w w1 from bel).trans ((HBA.out o).mono (by omega)))
    clear hb1
    go_wp2_with fail
    have hbx := HBW.out (.cells #[.int .i64 l0, .int .i64 t0] 86)
    refine bodyPost_ret (v := .agg #[.int .i64 t.k, .slice (some ⟨w1.heap.size, 0, none⟩) 1 1, .bool false, .slice none 0 0, .int .i64 0, .bool true]) (by simp [results, Tryz.results88, go_sem, *]) rfl ⟨⟨t.k, [(l0, t0)], false, [], 0, true⟩, some ⟨w1.heap.size, 0, none⟩, none, 1, 0, rfl, ⟨?_, RdL.nil_ _ _ _⟩, HI.out, HI.out.ok (by simp) (by simp), HAL.out, bel⟩
    repeat (with_reducible refine rd_set ?_ (fun p hp => by cases hp; show _ < w1.heap.size; omega) _ _)
    rw [← hwa]
    exact rd_one (MapKept.heap_alloc w1 _).1
end Go.Proofs.YtankkadnhdfpfaaGreatDoor
