import Derived.Test.YtankkadnhdfpfaaGreatDoorPk14
import Derived.Test.YtankkadnhdfpfaaGreatDoorPk28
/- soffit/sets.test: walked. -/
set_option linter.unusedSimpArgs false
set_option linter.unusedVariables false
namespace Go.Proofs.YtankkadnhdfpfaaGreatDoor
open Go.RowKit Sp Wd

theorem rd_box {w : World} {g : Nat} {x : Sp} (h : BoxIs w g #[.int .i64 x.1, .int .i64 x.2]) : RdL w 2 (some ⟨g, 0, none⟩) ([x].map spC) := by
  obtain ⟨t, h⟩ := h; exact rd_one h
theorem rd_txt {w : World} {g : Nat} {v : Vl} (h : BoxIs w g #[.string v.t]) : RdL w 1 (some ⟨g, 0, none⟩) ([txt v].map tC) := by
  intro j c hc
  match j, hc with
  | 0, hc =>
    obtain rfl : tC (txt v) = c := by simpa using hc
    refine ⟨g, 0, rfl, fun i u hu => ?_⟩
    rw [h.c]
    match i, hu with
    | 0, hu => have e : encStr (txt v) = .string v.t := congrArg Value.string (bs_txt v); unfold tC at hu; rw [e] at hu; simpa using hu
    | i + 1, hu => unfold tC at hu; simp at hu
  | j + 1, hc => simp at hc
theorem test_null {t : Ty} {x : Tst} (h : x.lo.k = 0) : Is (testG t x) ⟨t.k, [], false, [], 0, true⟩ := by
  unfold testG
  rw [if_pos h]
  exact ⟨rfl, by simp, trivial, fun _ => rfl, List.Pairwise.nil, by simp, fun x => inW_false x, rfl, rfl, fun _ => rfl, fun _ => ⟨rfl, rfl⟩, fun _ => ⟨rfl, rfl⟩⟩
theorem test_none {t : Ty} {x : Tst} (h : x.lo.k ≠ 0) (h2 : x.lo.k ≠ t.k) : Is (testG t x) ⟨t.k, [], false, [], 0, false⟩ := by
  unfold testG
  rw [if_neg h, if_neg h2]
  exact none_is t.k
theorem test_text {t : Ty} {x : Tst} (h2 : x.lo.k = t.k) (hk : t.k = 2) : Is (testG t x) ⟨t.k, [], false, norm [txt x.lo], 0, false⟩ := by
  have e2 : (t.k == 2) = true := by simp; omega
  have e3 : (t.k == 3) = false := by simp; omega
  have e1 : numK t.k = false := by unfold numK; simp; omega
  unfold testG
  rw [if_neg (by omega), if_pos h2]
  refine ⟨rfl, by simp, trivial, fun n => ?_, norm_lt _, fun x hx => (mem_norm.1 hx).2, fun y => ?_, ?_, rfl, fun _ => rfl, fun h => absurd hk h, fun _ => ?_⟩
  · show inS [] n = (numK t.k && _); rw [e1]; rfl
  · show inW false (norm [txt x.lo]) y = (t.k == 2 && (textB y && y == txt x.lo))
    rw [inW_norm, e2]
    unfold inW
    rw [Bool.eq_iff_iff]
    simp
  · show (0 : Int) = bN (t.k == 3 && _) (t.k == 3 && _); rw [e3]; rfl
  · show (t.k == 3 && _) = false ∧ (t.k == 3 && _) = false; rw [e3]; exact ⟨rfl, rfl⟩
theorem test_bool {t : Ty} {x : Tst} (h2 : x.lo.k = t.k) (hk : t.k = 3) (hi : x.lo.i = 0 ∨ x.lo.i = 1) : Is (testG t x) ⟨t.k, [], false, [], if x.lo.i = 0 then 1 else 2, false⟩ := by
  have e2 : (t.k == 2) = false := by simp; omega
  have e3 : (t.k == 3) = true := by simp; omega
  have e1 : numK t.k = false := by unfold numK; simp; omega
  unfold testG
  rw [if_neg (by omega), if_pos h2]
  refine ⟨rfl, by simp, trivial, fun n => ?_, List.Pairwise.nil, by simp, fun y => ?_, ?_, rfl, fun _ => rfl, fun _ => ⟨rfl, rfl⟩, fun h => absurd hk h⟩
  · show inS [] n = (numK t.k && _); rw [e1]; rfl
  · show inW false [] y = (t.k == 2 && _); rw [inW_false, e2]; rfl
  · show (if x.lo.i = 0 then (1 : Int) else 2) = bN (t.k == 3 && x.lo.i == 0) (t.k == 3 && x.lo.i == 1)
    rw [e3]
    rcases hi with h | h <;> rw [h] <;> rfl
theorem test_num {t : Ty} {x : Tst} (h2 : x.lo.k = t.k) (hk : numK t.k = true) {R : List Sp} {m : Nat} (hR : SetOf (fun n => inS [(lowK t.k, topK t.k)] n && inS [(betwLo t x, betwHi t x)] n) m R) : Is (testG t x) ⟨t.k, R, false, [], 0, false⟩ := by
  have h14 : t.k = 1 ∨ t.k = 4 := by simpa [numK] using hk
  have e2 : (t.k == 2) = false := by simp; omega
  have e3 : (t.k == 3) = false := by simp; omega
  unfold testG
  rw [if_neg (by omega), if_pos h2]
  refine ⟨rfl, hR.wf, hR.ord, fun n => ?_, List.Pairwise.nil, by simp, fun y => ?_, ?_, rfl, fun h => ?_, fun _ => ⟨rfl, rfl⟩, fun _ => ?_⟩
  · show inS R n = (numK t.k && (extP t.k n && hasS (betwLo t x, betwHi t x) n))
    rw [hR.same, hk]
    unfold inS extP hasS
    simp
  · show inW false [] y = (t.k == 2 && _); rw [inW_false, e2]; rfl
  · show (0 : Int) = bN (t.k == 3 && _) (t.k == 3 && _); rw [e3]; rfl
  · have : numK t.k = false := h; rw [hk] at this; cases this
  · show (t.k == 3 && _) = false ∧ (t.k == 3 && _) = false; rw [e3]; exact ⟨rfl, rfl⟩

set_option maxRecDepth 100000 in
set_option maxHeartbeats 12800000 in
theorem setTest_any (t : Ty) (x : Tst) (T : Option Addr) (ct : Nat) (w : World) (ht : 1 ≤ t.k ∧ t.k ≤ 4) (hs : 0 ≤ t.sc ∧ t.sc ≤ 6) (hu : uOneB x = true) (hw : x.wf) (hE : Env w) :
    Calls Tryz.prog 80 #[.agg #[.int .i64 t.k, .int .i64 t.sc, .bool t.c.any, .bool t.c.neg, .slice T t.c.ts.length ct], .agg #[.int .i64 x.k, .int .i64 x.lo.k, .int .i64 x.lo.n, .int .i64 x.lo.s, .string x.lo.t, .int .i64 x.lo.i, .int .i64 x.hi.k, .int .i64 x.hi.n, .int .i64 x.hi.s, .string x.hi.t, .int .i64 x.hi.i, .bool x.ol, .bool x.oh]] w fun e w' => ∃ (r : St) (X Y : Option Addr) (cx cy : Nat), e = .returned (.agg #[.int .i64 r.k, .slice X r.sp.length cx, .bool r.al, .slice Y r.ws.length cy, .int .i64 r.b, .bool r.nul]) ∧ StAt w' r X Y ∧ Is (testG t x) r ∧ StOk 1 r ∧ Below w.heap.size w w' := by
  have hsl : sndB x.lo = true := by unfold uOneB at hu; rw [Bool.and_eq_true, Bool.and_eq_true] at hu; exact hu.1.1
  by_cases h0 : x.lo.k = 0
  · have HI := Lib.hid (test_null (t := t) h0)
    have e0 : (x.lo.k == 0) = true := by simp [h0]
    clear h0 hs hu hw hsl ht hE
    go_enter Tryz.func80, Tryz.ntmps80
    go_wp2_with fail
    refine bodyPost_ret (v := .agg #[.int .i64 t.k, .slice none 0 0, .bool false, .slice none 0 0, .int .i64 0, .bool true]) (by simp [results, Tryz.results80, go_sem, *]) rfl ⟨_, none, none, 0, 0, rfl, ⟨RdL.nil_ _ _ _, RdL.nil_ _ _ _⟩, HI.out, HI.out.ok (by simp) (by simp), bel⟩
  by_cases h2 : x.lo.k = t.k
  rotate_left
  · have HI := Lib.hid (test_none h0 h2)
    have e0 : (x.lo.k == 0) = false := by simpa using h0
    have e1 : (x.lo.k != t.k) = true := by simpa using h2
    clear h0 h2 hs hu hw hsl ht hE
    go_enter Tryz.func80, Tryz.ntmps80
    go_wp2_with fail
    refine bodyPost_ret (v := .agg #[.int .i64 t.k, .slice none 0 0, .bool false, .slice none 0 0, .int .i64 0, .bool false]) (by simp [results, Tryz.results80, go_sem, *]) rfl ⟨_, none, none, 0, 0, rfl, ⟨RdL.nil_ _ _ _, RdL.nil_ _ _ _⟩, HI.out, HI.out.ok (by simp) (by simp), bel⟩
  have e0 : (x.lo.k == 0) = false := by simpa using h0
  have e1 : (x.lo.k != t.k) = false := by simp [h2]
  have three : t.k = 2 ∨ t.k = 3 ∨ numK t.k = true := by unfold numK; simp only [Bool.or_eq_true, beq_iff_eq]; omega
  rcases three with hk | hk | hk
  · have HI := Lib.hid (test_text h2 hk)
    have HL := Lib.hid (norm_length [txt x.lo])
    have HTX : Hid (∀ y ∈ [txt x.lo], y.length ≤ 9223372036854775807) := Lib.hid (fun y hy => by
      have : y = txt x.lo := by simpa using hy
      rw [this, txt_len]; have := (sndTwo hsl (h2.trans hk)).2.2.2.1; omega)
    have e2 : (t.k == 2) = true := by simp [hk]
    have HE := Lib.hid hE
    clear h0 h2 hs hu hw hsl ht hk hE
    go_enter Tryz.func80, Tryz.ntmps80
    go_wp2_with fail
    refine (Wd.make_any false (some ⟨w.heap.size + 3 + 1, 0, none⟩) [txt x.lo] 1 _ (HE.out.below bel) (rd_txt (BoxIs.new (by simp))) HTX.out (by show 1 * 16 ≤ 140737488355328; omega)).mono ?_
    rintro e w1 ⟨D, rfl, hR, hb1⟩
    have hz1 := hb1.size
    try simp at hz1
    obtain ⟨q1_0, l1_0, r1_0⟩ := aft hb1 (w.heap.size)
    obtain ⟨q1_1, l1_1, r1_1⟩ := aft hb1 (w.heap.size + 1)
    obtain ⟨q1_2, l1_2, r1_2⟩ := aft hb1 (w.heap.size + 2)
    obtain ⟨q1_3, l1_3, r1_3⟩ := aft hb1 (w.heap.size + 3)
    have HR := Lib.hid hR
    clear hR
    generalize norm [txt x.lo] = R at *
    go_wp2_with fail
    refine bodyPost_ret (v := .agg #[.int .i64 t.k, .slice none 0 0, .bool false, .slice D R.length R.length, .int .i64 0, .bool false]) (by simp [results, Tryz.results80, go_sem, *]) rfl ⟨_, none, D, 0, R.length, rfl, ⟨RdL.nil_ _ _ _, Wd.OwnT.rd (base := w.heap.size + 4) ?_⟩, HI.out, HI.out.ok (by simp) HL.out, bel⟩
    repeat (with_reducible refine ownT_set ?_ (by omega) _ _)
    exact Wd.OwnT.base HR.out (by simp)
  · have hi := (sndThree hsl (h2.trans hk)).2.2.2
    have HI := Lib.hid (test_bool h2 hk hi)
    have e2 : (t.k == 2) = false := by simp [hk]
    have e3 : (t.k == 3) = true := by simp [hk]
    clear h0 h2 hs hu hw hsl ht hk hE
    rcases hi with hi | hi
    · have HJ : Hid (Is (testG t x) ⟨t.k, [], false, [], 1, false⟩) := Lib.hid (by have := HI.out; rw [hi] at this; exact this)
      rw [hi]
      clear hi HI
      go_enter Tryz.func80, Tryz.ntmps80
      go_wp2_with fail
      refine bodyPost_ret (v := .agg #[.int .i64 t.k, .slice none 0 0, .bool false, .slice none 0 0, .int .i64 1, .bool false]) (by simp [results, Tryz.results80, go_sem, *]) rfl ⟨_, none, none, 0, 0, rfl, ⟨RdL.nil_ _ _ _, RdL.nil_ _ _ _⟩, HJ.out, HJ.out.ok (by simp) (by simp), bel⟩
    · have HJ : Hid (Is (testG t x) ⟨t.k, [], false, [], 2, false⟩) := Lib.hid (by have := HI.out; rw [hi] at this; exact this)
      rw [hi]
      clear hi HI
      go_enter Tryz.func80, Tryz.ntmps80
      go_wp2_with fail
      refine bodyPost_ret (v := .agg #[.int .i64 t.k, .slice none 0 0, .bool false, .slice none 0 0, .int .i64 2, .bool false]) (by simp [results, Tryz.results80, go_sem, *]) rfl ⟨_, none, none, 0, 0, rfl, ⟨RdL.nil_ _ _ _, RdL.nil_ _ _ _⟩, HJ.out, HJ.out.ok (by simp) (by simp), bel⟩
  · have HBW := Lib.hid (fun W => betw_any t x T ct W hu hw h2 hk hs)
    have HWB : Hid (∀ s ∈ [(betwLo t x, betwHi t x)], SpWf s) := Lib.hid (fun s hss => by have : s = _ := List.mem_singleton.1 hss; rw [this]; exact betw_wf hu hw h2 hk hs)
    have HWE : Hid (∀ s ∈ [(lowK t.k, topK t.k)], SpWf s) := Lib.hid (all_num hk).wf
    have HI : Hid (∀ (R : List Sp) (m : Nat), SetOf (fun n => inS [(lowK t.k, topK t.k)] n && inS [(betwLo t x, betwHi t x)] n) m R → Is (testG t x) ⟨t.k, R, false, [], 0, false⟩) := Lib.hid (fun R m hR => test_num h2 hk hR)
    have h14 : t.k = 1 ∨ t.k = 4 := by simpa [numK] using hk
    have e2 : (t.k == 2) = false := by simp; omega
    have e3 : (t.k == 3) = false := by simp; omega
    clear h0 h2 hs hu hw hsl ht hk hE h14
    go_enter Tryz.func80, Tryz.ntmps80
    go_wp2_with fail
    generalize hE0 : (((w.alloc _).alloc _).alloc _).alloc _ = W0
    have hb0 : Below w.heap.size w W0 := (by rw [← hE0]; exact bel)
    have K0 : BoxIs W0 w.heap.size #[.int .i64 t.k, .int .i64 t.sc, .bool t.c.any, .bool t.c.neg, .slice T t.c.ts.length ct] := (by rw [← hE0]; exact (((BoxIs.new (t := 26) rfl).alloc _).alloc _).alloc _)
    have K1 : BoxIs W0 (w.heap.size + 1) #[.int .i64 x.k, .int .i64 x.lo.k, .int .i64 x.lo.n, .int .i64 x.lo.s, .string x.lo.t, .int .i64 x.lo.i, .int .i64 x.hi.k, .int .i64 x.hi.n, .int .i64 x.hi.s, .string x.hi.t, .int .i64 x.hi.i, .bool x.ol, .bool x.oh] := (by rw [← hE0]; exact ((BoxIs.new (t := 84) (by simp)).alloc _).alloc _)
    have K2 : BoxIs W0 (w.heap.size + 2) #[.int .i64 0, .slice none 0 0, .bool false, .slice none 0 0, .int .i64 0, .bool false] := (by rw [← hE0]; exact (BoxIs.new (t := 36) (by simp)).alloc _)
    have K3 : BoxIs W0 (w.heap.size + 3) #[.int .i64 t.k, .slice none 0 0, .bool false, .slice none 0 0, .int .i64 0, .bool false] := (by rw [← hE0]; exact BoxIs.new (t := 36) (by simp))
    have hs0 : W0.heap.size = w.heap.size + 4 := (by rw [← hE0]; simp)
    have HS0 := Lib.hid hs0
    clear hE0 hs0
    have HK : ∀ w', Below W0.heap.size W0 w' → Below W0.heap.size W0 w' ∧ (∀ o, w'.cell? ⟨w.heap.size, o, none⟩ = (#[.int .i64 t.k, .int .i64 t.sc, .bool t.c.any, .bool t.c.neg, .slice T t.c.ts.length ct] : Array Value)[o]?) ∧ (∀ o, w'.cell? ⟨w.heap.size + 1, o, none⟩ = (#[.int .i64 x.k, .int .i64 x.lo.k, .int .i64 x.lo.n, .int .i64 x.lo.s, .string x.lo.t, .int .i64 x.lo.i, .int .i64 x.hi.k, .int .i64 x.hi.n, .int .i64 x.hi.s, .string x.hi.t, .int .i64 x.hi.i, .bool x.ol, .bool x.oh] : Array Value)[o]?) := fun w' hb => ⟨hb, (K0.below hb).c, (K1.below hb).c⟩
    have HK2 : ∀ w', Below (w.heap.size + 3) W0 w' → Below (w.heap.size + 3) W0 w' ∧ (∀ o, w'.cell? ⟨w.heap.size, o, none⟩ = (#[.int .i64 t.k, .int .i64 t.sc, .bool t.c.any, .bool t.c.neg, .slice T t.c.ts.length ct] : Array Value)[o]?) ∧ (∀ o, w'.cell? ⟨w.heap.size + 1, o, none⟩ = (#[.int .i64 x.k, .int .i64 x.lo.k, .int .i64 x.lo.n, .int .i64 x.lo.s, .string x.lo.t, .int .i64 x.lo.i, .int .i64 x.hi.k, .int .i64 x.hi.n, .int .i64 x.hi.s, .string x.hi.t, .int .i64 x.hi.i, .bool x.ol, .bool x.oh] : Array Value)[o]?) := fun w' hb => ⟨hb, (K0.low hb (by omega)).c, (K1.low hb (by omega)).c⟩
    have TAIL : ∀ (l1 l2 : Nat) (Wm : World), Below W0.heap.size W0 Wm → BoxIs Wm l1 #[.int .i64 (lowK t.k), .int .i64 (topK t.k)] → BoxIs Wm l2 #[.int .i64 (betwLo t x), .int .i64 (betwHi t x)] → (?G : Nat → Nat → World → Prop) l1 l2 Wm := ?tail
    refine wp_region_held_drew (S := (fun w' => Below (w.heap.size + 3) W0 w' ∧ (∀ o, w'.cell? ⟨w.heap.size, o, none⟩ = (#[.int .i64 t.k, .int .i64 t.sc, .bool t.c.any, .bool t.c.neg, .slice T t.c.ts.length ct] : Array Value)[o]?) ∧ (∀ o, w'.cell? ⟨w.heap.size + 1, o, none⟩ = (#[.int .i64 x.k, .int .i64 x.lo.k, .int .i64 x.lo.n, .int .i64 x.lo.s, .string x.lo.t, .int .i64 x.lo.i, .int .i64 x.hi.k, .int .i64 x.hi.n, .int .i64 x.hi.s, .string x.hi.t, .int .i64 x.hi.i, .bool x.ol, .bool x.oh] : Array Value)[o]?))) (by kernel_rfl) (HK2 _ (Below.mono (bel : Below W0.heap.size W0 _) (by rw [HS0.out]; omega))) (fun hHeld => ?_)
    refine tkH 0 ?_
    try simp only [shH]
    refine tkH 3 ?_
    try simp only [shH]
    refine tkH 4 ?_
    try simp only [shH]
    refine rdH [1] ?_
    refine AllReadyH.cons rfl (fun K hK => ?_) AllReadyH.nil
    go_simp
    go_at_call 118
    refine (extent_any t T ct _).mono ?_
    rintro e w1 ⟨rfl, hb1⟩
    have hz1 : W0.heap.size ≤ w1.heap.size := by have := hb1.size; (try simp only [sz_alloc, sz_drew] at this); omega
    refine hK.out _ _ ?_ (fun hH2 => ?_)
    · exact HK2 _ (Below.mono (bel : Below W0.heap.size W0 _) (by rw [HS0.out]; omega))
    clear hK K hHeld
    have hHeld := hH2
    clear hH2
    try simp only [shH]
    refine rdH [2, 5] ?_
    refine AllReadyH.cons rfl (fun K hK => ?_) ?_
    · go_simp
      refine hK.out _ _ ?_ (fun hH2 => ?_)
      · exact HK2 _ (Below.mono (bel : Below W0.heap.size W0 _) (by rw [HS0.out]; omega))
      clear hK K hHeld
      have hHeld := hH2
      clear hH2
      try simp only [shH]
      refine rdH [5] ?_
      refine AllReadyH.cons rfl (fun K hK => ?_) AllReadyH.nil
      go_simp
      go_at_call 119
      refine (HBW.out _).mono ?_
      rintro e w2 ⟨rfl, hb2⟩
      have hz2 : W0.heap.size ≤ w2.heap.size := by have := hb2.size; (try simp only [sz_alloc, sz_drew] at this); omega
      refine hK.out _ _ ?_ (fun hH2 => ?_)
      · exact HK2 _ (Below.mono (bel : Below W0.heap.size W0 _) (by rw [HS0.out]; omega))
      clear hK K hHeld
      have hHeld := hH2
      clear hH2
      try simp only [shH]
      refine rdH [6] ?_
      refine AllReadyH.cons rfl (fun K hK => ?_) AllReadyH.nil
      go_simp
      refine hK.out _ _ ?_ (fun hH2 => ?_)
      · exact HK2 _ (Below.mono (bel : Below W0.heap.size W0 _) (by rw [HS0.out]; omega))
      clear hK K hHeld
      have hHeld := hH2
      clear hH2
      try simp only [shH]
      generalize hWm : World.alloc _ _ = Wm
      have hBm : Below W0.heap.size W0 Wm := by rw [← hWm]; exact bel
      have M1 : BoxIs Wm (w1.heap.size) #[.int .i64 (lowK t.k), .int .i64 (topK t.k)] := by rw [← hWm]; exact ((BoxIs.new (w := w1) (t := 86) rfl).below (by first | exact hb2 | exact undrew hb2)).alloc _
      have M2 : BoxIs Wm (w2.heap.size) #[.int .i64 (betwLo t x), .int .i64 (betwHi t x)] := by rw [← hWm]; exact BoxIs.new (w := w2) (t := 86) rfl
      obtain ⟨l1, hl1⟩ : ∃ l1, w1.heap.size = l1 := ⟨_, rfl⟩
      obtain ⟨l2, hl2⟩ : ∃ l2, w2.heap.size = l2 := ⟨_, rfl⟩
      rw [hl2, hl1]
      rw [hl1] at M1
      rw [hl2] at M2
      exact TAIL l1 l2 Wm hBm M1 M2
    refine AllReadyH.cons rfl (fun K hK => ?_) AllReadyH.nil
    go_simp
    go_at_call 119
    refine (HBW.out _).mono ?_
    rintro e w2 ⟨rfl, hb2⟩
    have hz2 : W0.heap.size ≤ w2.heap.size := by have := hb2.size; (try simp only [sz_alloc, sz_drew] at this); omega
    refine hK.out _ _ ?_ (fun hH2 => ?_)
    · exact HK2 _ (Below.mono (bel : Below W0.heap.size W0 _) (by rw [HS0.out]; omega))
    clear hK K hHeld
    have hHeld := hH2
    clear hH2
    try simp only [shH]
    refine rdH [2, 6] ?_
    refine AllReadyH.cons rfl (fun K hK => ?_) ?_
    · go_simp
      refine hK.out _ _ ?_ (fun hH2 => ?_)
      · exact HK2 _ (Below.mono (bel : Below W0.heap.size W0 _) (by rw [HS0.out]; omega))
      clear hK K hHeld
      have hHeld := hH2
      clear hH2
      try simp only [shH]
      refine rdH [6] ?_
      refine AllReadyH.cons rfl (fun K hK => ?_) AllReadyH.nil
      go_simp
      refine hK.out _ _ ?_ (fun hH2 => ?_)
      · exact HK2 _ (Below.mono (bel : Below W0.heap.size W0 _) (by rw [HS0.out]; omega))
      clear hK K hHeld
      have hHeld := hH2
      clear hH2
      try simp only [shH]
      generalize hWm : World.alloc _ _ = Wm
      have hBm : Below W0.heap.size W0 Wm := by rw [← hWm]; exact bel
      have M1 : BoxIs Wm (w2.heap.size) #[.int .i64 (lowK t.k), .int .i64 (topK t.k)] := by rw [← hWm]; exact (BoxIs.new (w := w2) (t := 86) rfl).alloc _
      have M2 : BoxIs Wm (w2.heap.size + 1) #[.int .i64 (betwLo t x), .int .i64 (betwHi t x)] := by rw [← hWm]; exact BoxIs.new (w := w2.alloc _) (t := 86) (by rw [sz_alloc])
      obtain ⟨l1, hl1⟩ : ∃ l1, w2.heap.size = l1 := ⟨_, rfl⟩
      obtain ⟨l2, hl2⟩ : ∃ l2, w2.heap.size + 1 = l2 := ⟨_, rfl⟩
      rw [hl2, hl1]
      rw [hl1] at M1
      rw [hl2] at M2
      exact TAIL l1 l2 Wm hBm M1 M2
    refine AllReadyH.cons rfl (fun K hK => ?_) AllReadyH.nil
    go_simp
    refine hK.out _ _ ?_ (fun hH2 => ?_)
    · exact HK2 _ (Below.mono (bel : Below W0.heap.size W0 _) (by rw [HS0.out]; omega))
    clear hK K hHeld
    have hHeld := hH2
    clear hH2
    try simp only [shH]
    refine rdH [2] ?_
    refine AllReadyH.cons rfl (fun K hK => ?_) AllReadyH.nil
    go_simp
    refine hK.out _ _ ?_ (fun hH2 => ?_)
    · exact HK2 _ (Below.mono (bel : Below W0.heap.size W0 _) (by rw [HS0.out]; omega))
    clear hK K hHeld
    have hHeld := hH2
    clear hH2
    try simp only [shH]
    generalize hWm : World.alloc _ _ = Wm
    have hBm : Below W0.heap.size W0 Wm := by rw [← hWm]; exact bel
    have M1 : BoxIs Wm (w2.heap.size + 1) #[.int .i64 (lowK t.k), .int .i64 (topK t.k)] := by rw [← hWm]; exact BoxIs.new (w := w2.alloc _) (t := 86) (by rw [sz_alloc])
    have M2 : BoxIs Wm (w2.heap.size) #[.int .i64 (betwLo t x), .int .i64 (betwHi t x)] := by rw [← hWm]; exact (BoxIs.new (w := w2) (t := 86) rfl).alloc _
    obtain ⟨l1, hl1⟩ : ∃ l1, w2.heap.size + 1 = l1 := ⟨_, rfl⟩
    obtain ⟨l2, hl2⟩ : ∃ l2, w2.heap.size = l2 := ⟨_, rfl⟩
    rw [hl1, hl2]
    rw [hl1] at M1
    rw [hl2] at M2
    exact TAIL l1 l2 Wm hBm M1 M2
    case tail =>
      intro l1 l2 Wm hBm M1 M2
      have hHeld := HK2 Wm (hBm.mono (by rw [HS0.out]; omega))
      refine rdH [7] ?_
      refine AllReadyH.cons rfl (fun K hK => ?_) AllReadyH.nil
      go_simp
      go_at_call 86
      refine (Sp.meetB_any [(lowK t.k, topK t.k)] [(betwLo t x, betwHi t x)] (some ⟨l1, 0, none⟩) (some ⟨l2, 0, none⟩) 1 1 _ ((rd_box M1).below bel) ((rd_box M2).below bel) HWE.out HWB.out (by simp) (by simp) (by simp)).mono ?_
      rintro e w3 ⟨R, X, cx, rfl, hR, hJ, hcx, hlow, hb3⟩
      have HR := Lib.hid hR
      have HJ := Lib.hid hJ
      have HX : Hid (∀ p, X = some p → W0.heap.size ≤ p.block) := Lib.hid (fun p hp => by have := hlow p hp; (try simp only [sz_drew] at this); have := hBm.size; omega)
      have hB3 : Below W0.heap.size W0 w3 := hBm.trans ((by first | exact hb3 | exact undrew hb3 : Below Wm.heap.size Wm w3).mono hBm.size)
      have hB4 := hB3.mono (by rw [HS0.out]; omega : w.heap.size + 3 ≤ W0.heap.size)
      have c4 := (K3.below hB3).c
      have f4 := (K3.below hB3).f
      have c5 := (K2.below hB3).c
      have f5 := (K2.below hB3).f
      clear hR hJ hlow hcx
      refine hK.out _ _ ?_ (fun hH2 => ?_)
      · exact HK2 _ bel
      clear hK K hHeld
      have hHeld := hH2
      clear hH2
      try simp only [shH]
      refine tkH 8 ?_
      try simp only [shH]
      refine rdH [9] ?_
      refine AllReadyH.cons rfl (fun K hK => ?_) AllReadyH.nil
      go_simp
      refine hK.out _ _ ?_ (fun hH2 => ?_)
      · exact HK2 _ bel
      clear hK K hHeld
      have hHeld := hH2
      clear hH2
      try simp only [shH]
      refine dnH ?_ _
      clear hHeld
      (try simp only [Exit.then, Exit.inBlock])
      have hs0 := HS0.out
      have hbw3 : Below w.heap.size w w3 := hb0.trans (hB3.mono (by omega))
      have HX2 : Hid (∀ p, X = some p → w.heap.size + 3 < p.block) := Lib.hid (fun p hp => by have := HX.out p hp; omega)
      have l3 : w.heap.size + 3 < w3.heap.size := (K3.below hB3).lt
      have l2' : w.heap.size + 2 < w3.heap.size := by omega
      have HII := Lib.hid (HI.out R _ HJ.out)
      clear HK HK2 hB4 K0 K1 K2 K3 M1 M2 hBm hb3 hb0 hs0
      go_wp2_with fail
      refine bodyPost_ret (v := .agg #[.int .i64 t.k, .slice X R.length cx, .bool false, .slice none 0 0, .int .i64 0, .bool false]) (by simp [results, Tryz.results80, go_sem, *]) rfl ⟨_, X, none, cx, 0, rfl, ⟨?_, RdL.nil_ _ _ _⟩, HII.out, HII.out.ok HJ.out.len (by simp), bel⟩
      repeat (with_reducible refine rd_set ?_ (fun p hp => by have := HX2.out p hp; omega) _ _)
      exact HR.out
end Go.Proofs.YtankkadnhdfpfaaGreatDoor

/- soffit/sets.less: walked. -/
set_option linter.unusedSimpArgs false
set_option linter.unusedVariables false
namespace Go.Proofs.YtankkadnhdfpfaaGreatDoor
open Go.RowKit Sp Wd

set_option maxRecDepth 100000 in
set_option maxHeartbeats 12800000 in
theorem setLess_any (t : Ty) (s : St) (g : Sg) (N : Nat) (T A B : Option Addr) (ct ca cb : Nat) (w : World) (hA : StAt w s A B) (ia : Is g s) (hk : g.k = t.k) (ht : 1 ≤ t.k ∧ t.k ≤ 4) (oa : StOk N s) (hN : N ≤ 4000000000000) (hE : Env w) :
    Calls Tryz.prog 50 #[.agg #[.int .i64 t.k, .int .i64 t.sc, .bool t.c.any, .bool t.c.neg, .slice T t.c.ts.length ct], .agg #[.int .i64 s.k, .slice A s.sp.length ca, .bool s.al, .slice B s.ws.length cb, .int .i64 s.b, .bool s.nul]] w fun e w' => ∃ (r : St) (X Y : Option Addr) (cx cy : Nat), e = .returned (.agg #[.int .i64 r.k, .slice X r.sp.length cx, .bool r.al, .slice Y r.ws.length cy, .int .i64 r.b, .bool r.nul]) ∧ StAt w' r X Y ∧ Is (lessG g) r ∧ StOk (N + 1) r ∧ r.al = (t.k == 2 && !s.al) ∧ Below w.heap.size w w' := by
  have HLW : Hid ((norm s.ws).length ≤ N + 1) := Lib.hid (by have := norm_length s.ws; have := oa.lw; omega)
  have HLN : Hid (s.sp.length + 1 ≤ N + 1) := Lib.hid (by have := oa.ls; omega)
  have HCC : Hid (∀ u, Is (allG t.k) u → StOk 1 u → ∀ U cu W, RdL W 2 U (u.sp.map spC) → RdL W 2 A (s.sp.map spC) → Calls Tryz.prog 90 #[.slice U u.sp.length cu, .slice A s.sp.length ca] W fun e w' =>
      ∃ (R : List Sp) (C : Option Addr) (cc : Nat), e = .returned (.slice C R.length cc) ∧ RdL w' 2 C (R.map spC) ∧ SetOf (fun n => inS u.sp n && !inS s.sp n) (u.sp.length + s.sp.length) R ∧ R.length ≤ cc ∧ (∀ p, C = some p → W.heap.size ≤ p.block) ∧ Below W.heap.size W w') :=
    Lib.hid (fun u iu ou U cu W h1 h2 => Sp.withoutP_any u.sp s.sp U A cu ca W h1 h2 iu.wf oa.wf (by have := ou.ls; omega) (by have := oa.ls; omega) (Nat.le_trans (Nat.mul_le_mul ou.ls (Nat.add_le_add_right oa.ls 1)) (by omega)))
  have HWO : Hid (∀ W, RdL W 1 B (s.ws.map tC) → Env W → Calls Tryz.prog 91 #[.agg #[.bool s.al, .slice B s.ws.length cb]] W fun e w' => ∃ A', e = .returned (.agg #[.bool (!s.al), .slice A' (norm s.ws).length (norm s.ws).length]) ∧ OwnT w' W.heap.size A' (norm s.ws) ∧ Below W.heap.size W w') :=
    Lib.hid (fun W h1 h2 => Wd.other_any s.al B s.ws cb W h2 h1 oa.tx (by have := oa.lw; omega))
  have HI : Hid (∀ u, Is (allG t.k) u → ∀ (R : List Sp) (m : Nat) (al : Bool) (ws : List Tx), SetOf (fun n => inS u.sp n && !inS s.sp n) m R → (g.k = 2 → al = !s.al ∧ ws = norm s.ws) → (g.k ≠ 2 → al = false ∧ ws = []) → Is (lessG g) ⟨t.k, R, al, ws, bits .andNot .i64 u.b s.b, !s.nul⟩) := Lib.hid (fun u iu R m al ws hR h1 h2 => by
    rw [← hk]
    exact less_is (by rw [hk]; exact iu) ia hR h1 h2)
  have IK := Lib.hid hk
  have HT := Lib.hid ht
  have HA := Lib.hid hA
  have HE := Lib.hid hE
  clear hA ia oa hk hE ht
  go_enter Tryz.func50, Tryz.ntmps50
  go_wp2_with fail
  generalize hE0 : ((w.alloc _).alloc _).alloc _ = w0
  have hb0 : Below w.heap.size w w0 := (by rw [← hE0]; exact bel)
  have K0 : BoxIs w0 w.heap.size #[.int .i64 t.k, .int .i64 t.sc, .bool t.c.any, .bool t.c.neg, .slice T t.c.ts.length ct] := (by rw [← hE0]; exact ((BoxIs.new (t := 26) rfl).alloc _).alloc _)
  have K1 : BoxIs w0 (w.heap.size + 1) #[.int .i64 s.k, .slice A s.sp.length ca, .bool s.al, .slice B s.ws.length cb, .int .i64 s.b, .bool s.nul] := (by rw [← hE0]; exact (BoxIs.new (t := 36) (by simp)).alloc _)
  have K2 : BoxIs w0 (w.heap.size + 2) #[.int .i64 0, .slice none 0 0, .bool false, .slice none 0 0, .int .i64 0, .bool false] := (by rw [← hE0]; exact BoxIs.new (t := 36) (by simp))
  have hs0 : w0.heap.size = w.heap.size + 3 := (by rw [← hE0]; simp)
  have HS0 := Lib.hid hs0
  clear hE0 hs0
  refine (setAll_any t T ct _ HT.out (HE.out.below hb0)).mono ?_
  rintro e w1 ⟨u, U, V, cu, cv, rfl, hU, iu, ou, hau, hb1⟩
  clear hau
  go_wp2_with fail
  generalize hW0 : w1.alloc _ = W0
  have hB0 : Below w1.heap.size w1 W0 := (by rw [← hW0]; exact Below.alloc (Below.refl _ _) (Nat.le_refl _) _)
  have K3 : BoxIs W0 w1.heap.size #[.int .i64 u.k, .slice U u.sp.length cu, .bool u.al, .slice V u.ws.length cv, .int .i64 u.b, .bool u.nul] := (by rw [← hW0]; exact BoxIs.new (t := 36) rfl)
  have hBw1 : Below w0.heap.size w0 W0 := hb1.trans (hB0.mono hb1.size)
  have hBw : Below w.heap.size w W0 := hb0.trans (hBw1.mono hb0.size)
  have K0 := K0.below hBw1
  have K1 := K1.below hBw1
  have K2 := K2.below hBw1
  have hU0 := hU.below hB0
  have HA0 := HA.out.below hBw
  have h3 : w.heap.size + 3 ≤ w1.heap.size := by rw [← HS0.out]; exact hb1.size
  have H3 := Lib.hid h3
  clear hW0 hB0 hBw1 hb0 hb1 hU h3 HS0
  have HK : ∀ w', Below W0.heap.size W0 w' → Below W0.heap.size W0 w' ∧ (∀ o, w'.cell? ⟨w.heap.size, o, none⟩ = (#[.int .i64 t.k, .int .i64 t.sc, .bool t.c.any, .bool t.c.neg, .slice T t.c.ts.length ct] : Array Value)[o]?) ∧ (∀ o, w'.cell? ⟨w.heap.size + 1, o, none⟩ = (#[.int .i64 s.k, .slice A s.sp.length ca, .bool s.al, .slice B s.ws.length cb, .int .i64 s.b, .bool s.nul] : Array Value)[o]?) ∧ (∀ o, w'.cell? ⟨w1.heap.size, o, none⟩ = (#[.int .i64 u.k, .slice U u.sp.length cu, .bool u.al, .slice V u.ws.length cv, .int .i64 u.b, .bool u.nul] : Array Value)[o]?) := fun w' hb => ⟨hb, (K0.below hb).c, (K1.below hb).c, (K3.below hb).c⟩
  have TAIL : ∀ (bx : Nat) (Wz : World) (X : Option Addr) (R : List Sp) (cx : Nat), Below W0.heap.size W0 Wz → BoxIs Wz bx #[.int .i64 t.k, .slice X R.length cx, .bool false, .slice none 0 0, .int .i64 (bits .andNot .i64 u.b s.b), .bool (!s.nul)] → W0.heap.size ≤ bx → RdL Wz 2 X (R.map spC) → (∀ p, X = some p → W0.heap.size ≤ p.block) → SetOf (fun n => inS u.sp n && !inS s.sp n) (u.sp.length + s.sp.length) R →
    (?G : Nat → World → Option Addr → List Sp → Nat → Prop) bx Wz X R cx := ?tail
  refine wp_region_held_drew (S := (fun w' => Below W0.heap.size W0 w' ∧ (∀ o, w'.cell? ⟨w.heap.size, o, none⟩ = (#[.int .i64 t.k, .int .i64 t.sc, .bool t.c.any, .bool t.c.neg, .slice T t.c.ts.length ct] : Array Value)[o]?) ∧ (∀ o, w'.cell? ⟨w.heap.size + 1, o, none⟩ = (#[.int .i64 s.k, .slice A s.sp.length ca, .bool s.al, .slice B s.ws.length cb, .int .i64 s.b, .bool s.nul] : Array Value)[o]?) ∧ (∀ o, w'.cell? ⟨w1.heap.size, o, none⟩ = (#[.int .i64 u.k, .slice U u.sp.length cu, .bool u.al, .slice V u.ws.length cv, .int .i64 u.b, .bool u.nul] : Array Value)[o]?))) (by kernel_rfl) (HK _ bel) (fun hHeld => ?_)
  refine tkH 0 ?_
  try simp only [shH]
  refine tkH 1 ?_
  try simp only [shH]
  refine tkH 2 ?_
  try simp only [shH]
  refine tkH 3 ?_
  try simp only [shH]
  refine tkH 4 ?_
  try simp only [shH]
  refine tkH 5 ?_
  try simp only [shH]
  refine tkH 7 ?_
  try simp only [shH]
  refine tkH 8 ?_
  try simp only [shH]
  refine tkH 9 ?_
  try simp only [shH]
  refine tkH 10 ?_
  try simp only [shH]
  refine tkH 11 ?_
  try simp only [shH]
  refine tkH 12 ?_
  try simp only [shH]
  refine tkH 13 ?_
  try simp only [shH]
  refine tkH 14 ?_
  try simp only [shH]
  refine rdH [6, 16] ?_
  refine AllReadyH.cons rfl (fun K hK => ?_) ?_
  · go_simp
    go_at_call 90
    refine (HCC.out u iu ou _ cu _ (hU0.sp.below bel) (HA0.sp.below bel)).mono ?_
    rintro e wp ⟨R, X, cx, rfl, hR, hJ, hcx, hlow, hbp⟩
    refine hK.out _ _ ?_ (fun hH2 => ?_)
    · exact HK _ bel
    clear hK K hHeld
    have hHeld := hH2
    clear hH2
    try simp only [shH]
    refine tkH 15 ?_
    try simp only [shH]
    refine rdH [16] ?_
    refine AllReadyH.cons rfl (fun K hK => ?_) AllReadyH.nil
    go_simp
    refine hK.out _ _ ?_ (fun hH2 => ?_)
    · exact HK _ bel
    clear hK K hHeld
    have hHeld := hH2
    clear hH2
    try simp only [shH]
    refine rdH [17] ?_
    refine AllReadyH.cons rfl (fun K hK => ?_) AllReadyH.nil
    go_simp
    refine hK.out _ _ ?_ (fun hH2 => ?_)
    · exact HK _ bel
    clear hK K hHeld
    have hHeld := hH2
    clear hH2
    try simp only [shH]
    refine dnH ?_ _
    clear hHeld
    (try simp only [Exit.then, Exit.inBlock])
    generalize hWz : wp.alloc _ = Wz
    have hBZ : Below W0.heap.size W0 Wz := by rw [← hWz]; exact bel
    have KB : BoxIs Wz wp.heap.size #[.int .i64 t.k, .slice X R.length cx, .bool false, .slice none 0 0, .int .i64 (bits .andNot .i64 u.b s.b), .bool (!s.nul)] := by rw [← hWz]; exact BoxIs.new (t := 36) rfl
    have hRZ : RdL Wz 2 X (R.map spC) := by rw [← hWz]; exact rd_alloc hR _
    have hX : ∀ p, X = some p → W0.heap.size ≤ p.block := fun p hp => hlow p hp
    obtain ⟨bx, hbx⟩ : ∃ bx, wp.heap.size = bx := ⟨_, rfl⟩
    have hlo : W0.heap.size ≤ bx := by rw [← hbx]; exact hbp.size
    rw [hbx]
    rw [hbx] at KB
    exact TAIL bx Wz X R cx hBZ KB hlo hRZ hX hJ
  refine AllReadyH.cons rfl (fun K hK => ?_) AllReadyH.nil
  go_simp
  refine hK.out _ _ ?_ (fun hH2 => ?_)
  · exact HK _ bel
  clear hK K hHeld
  have hHeld := hH2
  clear hH2
  try simp only [shH]
  refine rdH [6] ?_
  refine AllReadyH.cons rfl (fun K hK => ?_) AllReadyH.nil
  go_simp
  go_at_call 90
  refine (HCC.out u iu ou _ cu _ (hU0.sp.below bel) (HA0.sp.below bel)).mono ?_
  rintro e wp ⟨R, X, cx, rfl, hR, hJ, hcx, hlow, hbp⟩
  have KN : BoxIs wp W0.heap.size #[.int .i64 0, .slice none 0 0, .bool false, .slice none 0 0, .int .i64 0, .bool false] := BoxIs.below (BoxIs.new (w := W0) (t := 36) rfl) bel
  have n0 := KN.c
  have n1 := KN.f
  refine hK.out _ _ ?_ (fun hH2 => ?_)
  · exact HK _ bel
  clear hK K hHeld
  have hHeld := hH2
  clear hH2
  try simp only [shH]
  refine tkH 15 ?_
  try simp only [shH]
  refine rdH [17] ?_
  refine AllReadyH.cons rfl (fun K hK => ?_) AllReadyH.nil
  go_simp
  refine hK.out _ _ ?_ (fun hH2 => ?_)
  · exact HK _ bel
  clear hK K hHeld
  have hHeld := hH2
  clear hH2
  try simp only [shH]
  refine dnH ?_ _
  clear hHeld
  (try simp only [Exit.then, Exit.inBlock])
  generalize hWz : (((((wp.setCell _ _).setCell _ _).setCell _ _).setCell _ _).setCell _ _).setCell _ _ = Wz
  have hBZ : Below W0.heap.size W0 Wz := by rw [← hWz]; exact bel
  have KB : BoxIs Wz W0.heap.size #[.int .i64 t.k, .slice X R.length cx, .bool false, .slice none 0 0, .int .i64 (bits .andNot .i64 u.b s.b), .bool (!s.nul)] := by rw [← hWz]; exact (((((KN.set 0 _).set 1 _).set 2 _).set 3 _).set 4 _).set 5 _
  have hRZ : RdL Wz 2 X (R.map spC) := by
    rw [← hWz]
    repeat (with_reducible refine rd_set ?_ (fun p hp => by have := hlow p hp; (try simp only [sz_alloc, sz_drew] at this); omega) _ _)
    exact hR
  have hX : ∀ p, X = some p → W0.heap.size ≤ p.block := fun p hp => by have := hlow p hp; (try simp only [sz_alloc, sz_drew] at this); omega
  obtain ⟨bx, hbx⟩ : ∃ bx, W0.heap.size = bx := ⟨_, rfl⟩
  have hlo : W0.heap.size ≤ bx := by rw [← hbx]; exact Nat.le_refl _
  rw [hbx]
  rw [hbx] at KB
  exact TAIL bx Wz X R cx hBZ KB hlo hRZ hX hJ
  case tail =>
    intro bx Wz X R cx hBZ KB hlo hRZ hX hJ
    have h3 := H3.out
    have l3 := K3.lt
    have hbw : Below w.heap.size w Wz := hBw.trans (hBZ.mono (by omega))
    have k0 := (K0.below hBZ).c
    have k1 := (K1.below hBZ).c
    have z2 := (K2.below hBZ).c
    have f2 := (K2.below hBZ).f
    have l2 := (K2.below hBZ).lt
    have l0 : w.heap.size < Wz.heap.size := by omega
    have l1 : w.heap.size + 1 < Wz.heap.size := by omega
    have zb := KB.c
    have fb := KB.f
    have lb := KB.lt
    have hne : ¬ (bx = w.heap.size + 2) := by omega
    have hbx : w.heap.size ≤ bx := by omega
    have HX : Hid (∀ p, X = some p → w.heap.size + 2 < p.block) := Lib.hid (fun p hp => by have := hX p hp; omega)
    have HAZ := HA0.below hBZ
    have HJ := Lib.hid hJ
    have HRZ := Lib.hid hRZ
    have HU1 : Hid (R.length ≤ N + 1) := Lib.hid (by have := hJ.len; have := ou.ls; have := HLN.out; omega)
    clear HK K0 K1 K2 K3 KB HA0 hBZ hX hJ hRZ hBw hlo h3 l3
    by_cases h2 : t.k = 2
    · have e2 : (t.k == 2) = true := by simpa using h2
      have hR0 : R = [] := ordL_none HJ.out.ord (fun n => by rw [HJ.out.same, iu.c1 (show numK t.k = false by rw [h2]; rfl)]; rfl)
      subst hR0
      have HII := Lib.hid (HI.out u iu [] _ _ _ HJ.out (fun _ => ⟨rfl, rfl⟩) (fun hh => absurd (IK.out.trans h2) hh))
      have HAL : Hid ((!s.al) = (t.k == 2 && !s.al)) := Lib.hid (by rw [e2]; rfl)
      clear h2
      go_wp2_with fail
      refine (HWO.out _ (HAZ.ws.below bel) (HE.out.below bel)).mono ?_
      rintro e w2 ⟨Y, rfl, hY, hb2⟩
      have HY := Lib.hid hY
      obtain ⟨q1, q2, q3⟩ := aft hb2 (w.heap.size + 2) l2
      obtain ⟨q4, q5, q6⟩ := aft hb2 bx lb
      have hbw2 : Below w.heap.size w w2 := hbw.trans (hb2.mono hbw.size)
      obtain ⟨m2, hm2⟩ : ∃ m2, norm s.ws = m2 := ⟨_, rfl⟩
      rw [hm2] at HLW HII HY
      rw [hm2]
      clear hm2 hY hbw hb2 k0 k1
      go_wp2_with fail
      refine bodyPost_ret (v := .agg #[.int .i64 t.k, .slice X 0 cx, .bool (!s.al), .slice Y m2.length m2.length, .int .i64 (bits .andNot .i64 u.b s.b), .bool (!s.nul)]) (by simp [results, Tryz.results50, go_sem, *]) rfl ⟨⟨t.k, [], !s.al, m2, bits .andNot .i64 u.b s.b, !s.nul⟩, X, Y, cx, _, rfl, ⟨RdL.nil_ _ _ _, Wd.OwnT.rd (base := Wz.heap.size) ?_⟩, HII.out, HII.out.ok (by simp) HLW.out, HAL.out, bel⟩
      repeat (with_reducible refine ownT_set ?_ (by omega) _ _)
      exact HY.out
    · have e2 : (t.k == 2) = false := by simpa using h2
      have HII := Lib.hid (HI.out u iu R _ false [] HJ.out (fun hh => absurd (IK.out.symm.trans hh) h2) (fun _ => ⟨rfl, rfl⟩))
      have HAL : Hid (false = (t.k == 2 && !s.al)) := Lib.hid (by rw [e2]; rfl)
      clear h2
      go_wp2_with fail
      refine bodyPost_ret (v := .agg #[.int .i64 t.k, .slice X R.length cx, .bool false, .slice none 0 0, .int .i64 (bits .andNot .i64 u.b s.b), .bool (!s.nul)]) (by simp [results, Tryz.results50, go_sem, *]) rfl ⟨⟨t.k, R, false, [], bits .andNot .i64 u.b s.b, !s.nul⟩, X, none, cx, 0, rfl, ⟨?_, RdL.nil_ _ _ _⟩, HII.out, HII.out.ok HU1.out (Nat.zero_le _), HAL.out, bel⟩
      repeat (with_reducible refine rd_set ?_ (fun p hp => by have := HX.out p hp; omega) _ _)
      exact HRZ.out
end Go.Proofs.YtankkadnhdfpfaaGreatDoor
