/- What comes out of rules that stand turned round: plain. -/
import Derived.Test.YtfhmjkdpohepaaaDoorOutAny
import Derived.Test.YtfhmjkdpohepaaaDoorOutLeast
import Derived.Test.YtfhmjkdpohepaaaDoorOutMost
import Derived.Test.YtfhmjkdpohepaaaDoorOutCount
import Derived.Test.YtfhmjkdpohepaaaDoorOutSum
import Derived.Test.YtfhmjkdpohepaaaDoorOutDef
import Derived.Test.YtfhmjkdpohepaaaDoorOutc
import Derived.Test.YtfhmjkdpohepaaaDoorAwake17
set_option linter.unusedSimpArgs false
set_option linter.unusedVariables false
namespace Go.Proofs.YtfhmjkdpohepaaaDoor
open Go.RowKit

theorem units_inj {n s n' s' : Int} (h : decSnd n s = true) (h' : decSnd n' s' = true) (hu : unitsI n s = unitsI n' s') : n = n' ∧ s = s' := by
  obtain ⟨a1, a2, a3, a4, a5⟩ := decSnd_of h
  obtain ⟨b1, b2, b3, b4, b5⟩ := decSnd_of h'
  have hs : s = 0 ∨ s = 1 ∨ s = 2 ∨ s = 3 ∨ s = 4 ∨ s = 5 ∨ s = 6 := by omega
  have hs' : s' = 0 ∨ s' = 1 ∨ s' = 2 ∨ s' = 3 ∨ s' = 4 ∨ s' = 5 ∨ s' = 6 := by omega
  unfold unitsI at hu
  rcases hs with rfl | rfl | rfl | rfl | rfl | rfl | rfl <;> rcases hs' with rfl | rfl | rfl | rfl | rfl | rfl | rfl <;>
    (simp only [show (0 : Int).toNat = 0 from rfl, show (1 : Int).toNat = 1 from rfl, show (2 : Int).toNat = 2 from rfl, show (3 : Int).toNat = 3 from rfl, show (4 : Int).toNat = 4 from rfl, show (5 : Int).toNat = 5 from rfl, show (6 : Int).toNat = 6 from rfl] at hu
     simp only [Nat.reduceSub, Int.reducePow] at hu
     omega)
theorem lexB_no {α : Type} {l1 l2 : α → α → Bool} {a b : α} (h1 : lexB l1 l2 a b = false) (h2 : lexB l1 l2 b a = false) : l1 a b = false ∧ l1 b a = false ∧ l2 a b = false ∧ l2 b a = false := by
  unfold lexB at h1 h2
  cases e1 : l1 a b <;> cases e2 : l1 b a <;> simp_all
theorem nil_of_len {t : ByteArray} (h : t.toList = []) : t = ⟨#[]⟩ := toList_inj (h.trans nil_toList.symm)
theorem snd_ns {v : Vl} (h : sndB v = true) (hk : v.k ≠ 1) : v.n = 0 ∧ v.s = 0 := by
  unfold sndB at h
  by_cases h0 : v.k = 0
  · rw [if_pos h0] at h; have := of_decide_eq_true h; exact ⟨this.1, this.2.1⟩
  rw [if_neg h0, if_neg hk] at h
  by_cases h2 : v.k = 2
  · rw [if_pos h2, Bool.and_eq_true] at h; have := of_decide_eq_true h.1; exact ⟨this.1, this.2.1⟩
  rw [if_neg h2] at h
  by_cases h3 : v.k = 3
  · rw [if_pos h3] at h; have := of_decide_eq_true h; exact ⟨this.1, this.2.1⟩
  rw [if_neg h3] at h
  by_cases h4 : v.k = 4
  · rw [if_pos h4] at h; have := of_decide_eq_true h; exact ⟨this.1, this.2.1⟩
  rw [if_neg h4] at h
  cases h
theorem snd_one {v : Vl} (h : sndB v = true) (hk : v.k = 1) : v.t.toList = [] ∧ v.i = 0 := by
  unfold sndB at h
  rw [if_neg (by omega), if_pos hk] at h
  simp only [Bool.and_eq_true, decide_eq_true_eq] at h
  exact ⟨h.1.1, h.1.2⟩
/-- values of which none stands before the other are one -/
theorem tri_ltV {a b : Vl} (sa : sndB a = true) (sb : sndB b = true) (h1 : ltV a b = false) (h2 : ltV b a = false) : a = b := by
  unfold ltV at h1 h2
  obtain ⟨k1, k2, h1, h2⟩ := lexB_no h1 h2
  obtain ⟨u1, u2, h1, h2⟩ := lexB_no h1 h2
  obtain ⟨t1, t2, i1, i2⟩ := lexB_no h1 h2
  have hk : a.k = b.k := by have := of_decide_eq_false k1; have := of_decide_eq_false k2; omega
  have hu : vU a = vU b := by have := of_decide_eq_false u1; have := of_decide_eq_false u2; omega
  have ht : vT a = vT b := ltStr_tri t1 t2
  have hi : vI a = vI b := by have := of_decide_eq_false i1; have := of_decide_eq_false i2; omega
  have da := snd_dec sa
  have db := snd_dec sb
  obtain ⟨k, n, s, t, i⟩ := a
  obtain ⟨k', n', s', t', i'⟩ := b
  dsimp only at hk da db
  subst hk
  unfold vU at hu
  unfold vT at ht
  unfold vI at hi
  dsimp only at hu ht hi
  by_cases h1 : k = 1
  · subst h1
    rw [if_pos rfl, if_pos rfl] at hu
    obtain ⟨rfl, rfl⟩ := units_inj da db hu
    have a1 := snd_one sa rfl
    have b1 := snd_one sb rfl
    dsimp only at a1 b1
    rw [a1.2, b1.2, nil_of_len a1.1, nil_of_len b1.1]
  · rw [if_neg h1, if_neg h1] at ht hi
    have hn := snd_ns sa h1
    have hn' := snd_ns sb h1
    dsimp only at hn hn'
    rw [hn.1, hn.2, hn'.1, hn'.2, hi, toList_inj ht]
/-- the units of some, together -/
def unS : List Vl → Int
  | [] => 0
  | v :: r => unitsI v.n v.s + unS r
theorem unS_append : ∀ a b : List Vl, unS (a ++ b) = unS a + unS b
  | [], b => by simp [unS]
  | v :: a, b => by rw [List.cons_append, unS, unS, unS_append a b]; omega
theorem unS_reverse : ∀ a : List Vl, unS a.reverse = unS a
  | [] => rfl
  | v :: a => by rw [List.reverse_cons, unS_append, unS_reverse a, unS, unS, unS]; omega
theorem sumF_val : ∀ (xs : List Vl) (n s : Int), xs ≠ [] → sumF xs n s = Vl.zero ∨ sumF xs n s = ⟨1, addN (unitsI n s + unS xs), addS (unitsI n s + unS xs), ⟨#[]⟩, 0⟩
  | [], _, _, h => absurd rfl h
  | [v], n, s, _ => by
    rw [sumF]
    split
    · right; rw [sumF, unS, unS, Int.add_zero]
    · left; rfl
  | v :: v2 :: r, n, s, _ => by
    rw [sumF]
    split
    · rcases sumF_val (v2 :: r) (addN (unitsI n s + unitsI v.n v.s)) (addS (unitsI n s + unitsI v.n v.s)) (by simp) with h | h
      · exact .inl h
      · right
        rw [h, add_units, unS.eq_def (v :: v2 :: r)]
        dsimp only
        rw [Int.add_assoc]
    · left; rfl
theorem badK_any {o o' : Vl} {os os' : List Vl} (hm : ∀ x, x ∈ os ↔ x ∈ os') (ho : o ∈ os) (ho' : o' ∈ os') : os.any (badK o) = os'.any (badK o') := by
  have key : ∀ {o o' : Vl} {os os' : List Vl}, (∀ x, x ∈ os ↔ x ∈ os') → o ∈ os → o' ∈ os' → os.any (badK o) = false → os'.any (badK o') = false := by
    intro o o' os os' hm ho ho' h
    rw [List.any_eq_false] at h ⊢
    have hk : ∀ x ∈ os, x.k = o.k ∧ x.k ≠ 0 := fun x hx => by
      have := h x hx
      unfold badK at this
      simpa using this
    intro x hx
    have h1 := hk x ((hm x).2 hx)
    have h2 := hk o' ((hm o').2 ho')
    unfold badK
    simp only [Bool.or_eq_true, bne_iff_ne, beq_iff_eq, not_or, Decidable.not_not]
    exact ⟨by omega, h1.2⟩
  cases h : os.any (badK o)
  · exact (key hm ho ho' h).symm
  · cases h' : os'.any (badK o')
    · rw [key (fun x => (hm x).symm) ho' ho h'] at h; cases h
    · rfl
theorem endOf_same {o o' : Vl} {os os' : List Vl} {gr : Bool} {R R' : Vl} (hm : ∀ x, x ∈ os ↔ x ∈ os') (ho : o ∈ os) (ho' : o' ∈ os') (hs : ∀ v ∈ os, sndB v = true) (h : EndOf o os gr R) (h' : EndOf o' os' gr R') : R = R' := by
  have hb := badK_any hm ho ho'
  rcases h with ⟨h1, rfl⟩ | ⟨h1, h2, h3⟩ <;> rcases h' with ⟨h1', rfl⟩ | ⟨h1', h2', h3'⟩
  · rfl
  · rw [hb, h1'] at h1; cases h1
  · rw [hb, h1'] at h1; cases h1
  · have a := h3 R' ((hm R').2 h2')
    have b := h3' R ((hm R).1 h2)
    cases gr
    · exact tri_ltV (hs R h2) (hs R' ((hm R').2 h2')) (by simpa using b) (by simpa using a)
    · exact tri_ltV (hs R h2) (hs R' ((hm R').2 h2')) (by simpa using a) (by simpa using b)
theorem oneV_same {o o' : Vl} {os os' : List Vl} (hm : ∀ x, x ∈ os ↔ x ∈ os') (ho : o ∈ os) (ho' : o' ∈ os') : oneV o os = oneV o' os' := by
  have key : ∀ {o o' : Vl} {os os' : List Vl}, (∀ x, x ∈ os ↔ x ∈ os') → o' ∈ os' → os.any (fun v => !eqB v o) = false → os'.any (fun v => !eqB v o') = false ∧ o = o' := by
    intro o o' os os' hm ho' h
    rw [List.any_eq_false] at h
    have hk : ∀ x ∈ os, x = o := fun x hx => by
      have := h x hx
      cases e : eqB x o
      · rw [e] at this; simp at this
      · exact (eqB_iff _ _).1 e
    have e := hk o' ((hm o').2 ho')
    refine ⟨?_, e.symm⟩
    rw [List.any_eq_false]
    intro x hx
    have hxo := hk x ((hm x).2 hx)
    rw [hxo, e, eqB_self]; simp
  unfold oneV
  cases h : os.any (fun v => !eqB v o)
  · obtain ⟨h1, rfl⟩ := key hm ho' h
    rw [h1]
  · cases h' : os'.any (fun v => !eqB v o')
    · rw [(key (fun x => (hm x).symm) ho h').1] at h; cases h
    · rfl
def cntV' (n : Nat) : Vl := ⟨1, n, 0, ⟨#[]⟩, 0⟩
/-- what comes out, and whether it is wrong -/
def OutRel (p : Int) (os : List Vl) (fs : List Int) (R : Vl) (e : Int) : Prop :=
  (allSnd os = false ∧ R = Vl.zero ∧ e = 2) ∨ (allSnd os = true ∧ e = 0 ∧
    ((p = 35 ∧ R = cntV' fs.length) ∨ (p ≠ 35 ∧ fs = [] ∧ R = Vl.zero) ∨ (∃ f fr, fs = f :: fr ∧
      ((p = 65 ∧ R = oneV (pickV os f) (fs.map (pickV os))) ∨ (p = 43 ∧ R = sumF (fs.map (pickV os)) 0 0) ∨ (p = 60 ∧ EndOf (pickV os f) (fs.map (pickV os)) false R) ∨ (p = 62 ∧ EndOf (pickV os f) (fs.map (pickV os)) true R)))))
theorem allSnd_reverse (os : List Vl) : allSnd os.reverse = allSnd os := by unfold allSnd; rw [List.any_reverse]
theorem outRel_turned {p : Int} {os ts : List Vl} {fs bs : List Int} {R R' : Vl} {e e' : Int} (hts : ts = os.reverse) (hbs : bs.map (pickV ts) = (fs.map (pickV os)).reverse) (hsn : allSnd os = true → ∀ v ∈ fs.map (pickV os), sndB v = true) (h : OutRel p os fs R e) (h' : OutRel p ts bs R' e') :
    e = e' ∧ (R = R' ∨ (p = 43 ∧ (R = Vl.zero ∨ R' = Vl.zero))) := by
  have ha : allSnd ts = allSnd os := by rw [hts, allSnd_reverse]
  have hl : bs.length = fs.length := by have := congrArg List.length hbs; simpa using this
  rcases h with ⟨h1, rfl, rfl⟩ | ⟨h1, rfl, h⟩ <;> rcases h' with ⟨h1', rfl, rfl⟩ | ⟨h1', rfl, h'⟩
  · exact ⟨rfl, .inl rfl⟩
  · rw [ha, h1] at h1'; cases h1'
  · rw [ha, h1] at h1'; cases h1'
  refine ⟨rfl, ?_⟩
  have hm : ∀ x, x ∈ fs.map (pickV os) ↔ x ∈ bs.map (pickV ts) := fun x => by rw [hbs, List.mem_reverse]
  rcases h with ⟨rfl, rfl⟩ | ⟨hp, rfl, rfl⟩ | ⟨f, fr, rfl, h⟩
  · rcases h' with ⟨_, rfl⟩ | ⟨hp, _⟩ | ⟨_, _, _, ⟨h, _⟩ | ⟨h, _⟩ | ⟨h, _⟩ | ⟨h, _⟩⟩
    · exact .inl (by rw [hl])
    · exact absurd rfl hp
    all_goals exact absurd h (by decide)
  · have : bs = [] := List.eq_nil_of_length_eq_zero (by simpa using hl)
    subst this
    rcases h' with ⟨rfl, _⟩ | ⟨_, _, rfl⟩ | ⟨_, _, h, _⟩
    · exact absurd rfl hp
    · exact .inl rfl
    · cases h
  · obtain ⟨b, br, rfl⟩ : ∃ b br, bs = b :: br := by cases bs with | nil => simp at hl | cons b br => exact ⟨b, br, rfl⟩
    have hp35 : p ≠ 35 := by rintro rfl; rcases h with ⟨h, _⟩ | ⟨h, _⟩ | ⟨h, _⟩ | ⟨h, _⟩ <;> exact absurd h (by decide)
    rcases h' with ⟨rfl, _⟩ | ⟨_, h', _⟩ | ⟨b', br', e, h'⟩
    · exact absurd rfl hp35
    · cases h'
    cases e
    have ho : pickV os f ∈ (f :: fr).map (pickV os) := by simp
    have ho' : pickV ts b ∈ (b :: br).map (pickV ts) := by simp
    have hs := hsn h1
    rcases h with ⟨rfl, rfl⟩ | ⟨rfl, rfl⟩ | ⟨rfl, h⟩ | ⟨rfl, h⟩ <;> rcases h' with ⟨e, h'⟩ | ⟨e, h'⟩ | ⟨e, h'⟩ | ⟨e, h'⟩
    all_goals first
      | exact absurd e (by decide)
      | skip
    · subst h'; exact .inl (oneV_same hm ho ho')
    · subst h'
      rcases sumF_val ((f :: fr).map (pickV os)) 0 0 (by simp) with h1 | h1
      · exact .inr ⟨rfl, .inl h1⟩
      · rcases sumF_val ((b :: br).map (pickV ts)) 0 0 (by simp) with h2 | h2
        · exact .inr ⟨rfl, .inr h2⟩
        · left; rw [h1, h2, hbs, unS_reverse]
    · exact .inl (endOf_same hm ho ho' hs h h')
    · exact .inl (endOf_same hm ho ho' hs h h')
/-- the policies that don't look at where rules stand -/
def fiveP (p : Int) : Prop := p = 65 ∨ p = 43 ∨ p = 35 ∨ p = 60 ∨ p = 62
theorem pick_ok {os : List Vl} (hw : ∀ v ∈ os, v.wf) (hs : allSnd os = true) (fs : List Int) : (∀ v ∈ fs.map (pickV os), v.wf) ∧ (∀ v ∈ fs.map (pickV os), sndB v = true) := by
  have h2 : ∀ v ∈ os, sndB v = true := by
    intro v hv
    unfold allSnd at hs
    rw [Bool.not_eq_true', List.any_eq_false] at hs
    simpa using hs v hv
  have key : ∀ v ∈ fs.map (pickV os), v.wf ∧ sndB v = true := by
    intro v hv
    obtain ⟨x, _, rfl⟩ := List.mem_map.1 hv
    unfold pickV
    cases he : os[x.toNat]? with
    | none => exact ⟨zero_wf, zero_sound⟩
    | some u => exact ⟨hw u (List.mem_of_getElem? he), h2 u (List.mem_of_getElem? he)⟩
  exact ⟨fun v hv => (key v hv).1, fun v hv => (key v hv).2⟩
theorem outFive_any (os : List Vl) (fs : List Int) (A F : Option Addr) (ca cf : Nat) (w : World) (hA : RdL w 5 A (os.map Vl.cells5)) (hF : RdL w 1 F (fs.map intC)) (hos : ∀ v ∈ os, v.wf) (hfs : Rise os.length fs) (h16 : fs.length ≤ 16) (n1 : os.length ≤ 9223372036854775807) (hE : Env w) (p : Int) (hp : fiveP p) :
    Calls Tryd.prog 9 #[.int .i64 p, .slice A os.length ca, .slice none 0 0, .agg #[.int .i64 0, .int .i64 0, .int .i64 0, .string ⟨#[]⟩, .int .i64 0], .slice F fs.length cf] w fun e w' =>
      ∃ (R : Vl) (r : Int), e = .returned (.tuple #[.agg #[.int .i64 R.k, .int .i64 R.n, .int .i64 R.s, .string R.t, .int .i64 R.i], .int .i64 r]) ∧ OutRel p os fs R r ∧ Below w.heap.size w w' := by
  have hB : RdL w 5 none (([] : List Vl).map Vl.cells5) := RdL.nil_ _ _ _
  have hk : knownB p = true := by rcases hp with rfl | rfl | rfl | rfl | rfl <;> decide
  cases hs : allSnd os
  · refine (outNo_any os [] Vl.zero fs A none F ca 0 cf w hA hB hF hos nil_wf zero_wf hfs h16 n1 (by simp) hE p hk (by unfold sndAll; rw [hs]; rfl)).mono ?_
    rintro e w' ⟨rfl, hb⟩
    exact ⟨Vl.zero, 2, rfl, .inl ⟨hs, rfl, rfl⟩, hb⟩
  · by_cases h35 : p = 35
    · subst h35
      refine (outCount os [] Vl.zero fs A none F ca 0 cf w hA hB hF hos nil_wf zero_wf hfs h16 n1 (by simp) hE hs allSnd_nil allSnd_zero).mono ?_
      rintro e w' ⟨rfl, hb⟩
      exact ⟨cntV' fs.length, 0, rfl, .inr ⟨hs, rfl, .inl ⟨rfl, rfl⟩⟩, hb⟩
    · rcases fs with _ | ⟨f, fr⟩
      · refine (outDef os [] Vl.zero [] A none F ca 0 cf w hA hB hF hos nil_wf zero_wf hfs h16 n1 (by simp) hE p hk (by rw [beq_eq_false_iff_ne]; exact h35) rfl hs allSnd_nil allSnd_zero).mono ?_
        rintro e w' ⟨rfl, hb⟩
        exact ⟨Vl.zero, 0, rfl, .inr ⟨hs, rfl, .inr (.inl ⟨h35, rfl, rfl⟩)⟩, hb⟩
      · obtain ⟨k1, k2⟩ := pick_ok hos hs (f :: fr)
        rw [List.map_cons] at k1 k2
        rcases hp with rfl | rfl | rfl | rfl | rfl
        · refine (outAny os [] Vl.zero (f :: fr) A none F ca 0 cf w hA hB hF hos nil_wf zero_wf hfs h16 n1 (by simp) hE f fr rfl hs allSnd_nil allSnd_zero).mono ?_
          rintro e w' ⟨rfl, hb⟩
          exact ⟨_, 0, rfl, .inr ⟨hs, rfl, .inr (.inr ⟨f, fr, rfl, .inl ⟨rfl, rfl⟩⟩)⟩, hb⟩
        · refine (outSum os [] Vl.zero (f :: fr) A none F ca 0 cf w hA hB hF hos nil_wf zero_wf hfs h16 n1 (by simp) hE f fr rfl k2 hs allSnd_nil allSnd_zero).mono ?_
          rintro e w' ⟨rfl, hb⟩
          exact ⟨_, 0, rfl, .inr ⟨hs, rfl, .inr (.inr ⟨f, fr, rfl, .inr (.inl ⟨rfl, rfl⟩)⟩)⟩, hb⟩
        · exact absurd rfl h35
        · refine (outLeast os [] Vl.zero (f :: fr) A none F ca 0 cf w hA hB hF hos nil_wf zero_wf hfs h16 n1 (by simp) hE f fr rfl k1 k2 hs allSnd_nil allSnd_zero).mono ?_
          rintro e w' ⟨R, rfl, hr, hb⟩
          exact ⟨R, 0, rfl, .inr ⟨hs, rfl, .inr (.inr ⟨f, fr, rfl, .inr (.inr (.inl ⟨rfl, hr⟩))⟩)⟩, hb⟩
        · refine (outMost os [] Vl.zero (f :: fr) A none F ca 0 cf w hA hB hF hos nil_wf zero_wf hfs h16 n1 (by simp) hE f fr rfl k1 k2 hs allSnd_nil allSnd_zero).mono ?_
          rintro e w' ⟨R, rfl, hr, hb⟩
          exact ⟨R, 0, rfl, .inr ⟨hs, rfl, .inr (.inr ⟨f, fr, rfl, .inr (.inr (.inr ⟨rfl, hr⟩))⟩)⟩, hb⟩
/-- the numbers of the same rules, turned round -/
def backL (u : Nat) (fs : List Int) : List Int := fs.reverse.map fun x => (u : Int) - 1 - x
theorem back_len (u : Nat) (fs : List Int) : (backL u fs).length = fs.length := by simp [backL]
theorem rise_back {u : Nat} {fs : List Int} (h : Rise u fs) : Rise u (backL u fs) := by
  refine ⟨?_, ?_, ?_⟩
  · intro x hx
    obtain ⟨y, hy, rfl⟩ := List.mem_map.1 hx
    have := h.hi y (List.mem_reverse.1 hy)
    omega
  · intro x hx
    obtain ⟨y, hy, rfl⟩ := List.mem_map.1 hx
    have := h.lo y (List.mem_reverse.1 hy)
    omega
  · intro i hi
    have hl := back_len u fs
    have h1 : (backL u fs)[i]'(by omega) = (u : Int) - 1 - fs[fs.length - 1 - i]'(by omega) := by simp [backL]
    have h2 : (backL u fs)[i + 1]'hi = (u : Int) - 1 - fs[fs.length - 1 - (i + 1)]'(by omega) := by simp [backL]
    have h3 := h.up (fs.length - 1 - (i + 1)) (by omega)
    have h4 : fs[fs.length - 1 - (i + 1) + 1]'(by omega) = fs[fs.length - 1 - i]'(by omega) := by congr 1; omega
    rw [h1, h2]
    omega
theorem pick_back {os : List Vl} {fs : List Int} (h : Rise os.length fs) : (backL os.length fs).map (pickV os.reverse) = (fs.map (pickV os)).reverse := by
  unfold backL
  rw [List.map_map, ← List.map_reverse]
  refine List.map_congr_left fun x hx => ?_
  have h1 := h.lo x (List.mem_reverse.1 hx)
  have h2 := h.hi x (List.mem_reverse.1 hx)
  obtain ⟨i, rfl⟩ : ∃ i : Nat, x = (i : Int) := ⟨x.toNat, by omega⟩
  show pickV os.reverse ((os.length : Int) - 1 - (i : Int)) = pickV os (i : Int)
  unfold pickV
  have hi : i < os.length := by omega
  rw [show ((os.length : Int) - 1 - (i : Int)).toNat = os.length - 1 - i by omega, Int.toNat_natCast, List.getElem?_eq_getElem (by simp; omega), List.getElem?_eq_getElem hi]
  simp only [List.getElem_reverse, Option.getD_some]
  congr 1
  omega
/-- the last of some, turned round -/
theorem drop_turn {α : Type} (l : List α) (q : Nat) (hq : q < l.length) : (l.drop q).reverse = (l.drop (q + 1)).reverse ++ [l[q]'hq] := by
  rw [List.drop_eq_getElem_cons hq, List.reverse_cons]
end Go.Proofs.YtfhmjkdpohepaaaDoor
