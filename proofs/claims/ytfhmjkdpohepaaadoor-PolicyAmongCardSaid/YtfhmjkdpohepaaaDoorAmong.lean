/- soffit/policy.Outcome by U, A, P, F, < and >: what one of the rules says that fire, or null. -/
import Derived.Test.YtfhmjkdpohepaaaDoorAwake17
import Derived.Test.YtfhmjkdpohepaaaDoorOutAny
import Derived.Test.YtfhmjkdpohepaaaDoorOutLeast
import Derived.Test.YtfhmjkdpohepaaaDoorOutMost
set_option linter.unusedSimpArgs false
set_option linter.unusedVariables false
namespace Go.Proofs.YtfhmjkdpohepaaaDoor
open Go.RowKit

theorem pick_ok2 {os : List Vl} (hw : ∀ v ∈ os, v.wf) (hs : allSnd os = true) (fs : List Int) : (∀ v ∈ fs.map (pickV os), v.wf) ∧ (∀ v ∈ fs.map (pickV os), sndB v = true) := by
  have h2 : ∀ v ∈ os, sndB v = true := by
    intro v hv
    unfold allSnd at hs
    rw [Bool.not_eq_true', List.any_eq_false] at hs
    simpa using hs v hv
  have key : ∀ v ∈ fs.map (pickV os), v.wf ∧ sndB v = true := by
    intro v hv
    obtain ⟨x, _, rfl⟩ := List.mem_map.1 hv
    unfold pickV
    cases he : os[x.toNat]? with
    | none => exact ⟨zero_wf, zero_sound⟩
    | some u => exact ⟨hw u (List.mem_of_getElem? he), h2 u (List.mem_of_getElem? he)⟩
  exact ⟨fun v hv => (key v hv).1, fun v hv => (key v hv).2⟩
/-- one of some, or null; of one alone this one -/
def AmongOf (o : Vl) (ps : List Vl) (R : Vl) : Prop := (R = Vl.zero ∨ R ∈ ps) ∧ (ps.length = 1 → R = o)
theorem firstV_mem (o : Vl) (ps : List Vl) : ∀ od : List Vl, firstV o ps od = o ∨ firstV o ps od ∈ ps
  | [] => Or.inl rfl
  | v :: r => by
    cases h : ps.any (fun y => eqB v y)
    · have e : firstV o ps (v :: r) = firstV o ps r := if_neg (by rw [h]; simp)
      rw [e]; exact firstV_mem o ps r
    · have e : firstV o ps (v :: r) = v := if_pos h
      rw [e]
      obtain ⟨y, hy, he⟩ := List.any_eq_true.1 h
      rw [(eqB_iff v y).1 he]
      exact Or.inr hy
theorem among_first (o : Vl) (r od : List Vl) : AmongOf o (o :: r) (firstV o (o :: r) od) := by
  have h := firstV_mem o (o :: r) od
  refine ⟨Or.inr (h.elim (fun e => by rw [e]; simp) id), fun hl => ?_⟩
  have hr : r = [] := List.length_eq_zero_iff.1 (by simpa using hl)
  subst hr
  rcases h with h | h
  · exact h
  · simpa using h
theorem among_one (o : Vl) (r : List Vl) : AmongOf o (o :: r) (oneV o (o :: r)) := by
  unfold oneV
  split
  · rename_i h
    refine ⟨Or.inl rfl, fun hl => ?_⟩
    have hr : r = [] := List.length_eq_zero_iff.1 (by simpa using hl)
    subst hr
    simp [eqB_self] at h
  · exact ⟨Or.inr (by simp), fun _ => rfl⟩
theorem toList_nil {t : ByteArray} (h : t.toList = []) : t = ⟨#[]⟩ := by
  rw [ByteArray.toList_eq] at h
  obtain ⟨⟨l⟩⟩ := t
  simp at h
  rw [h]
theorem zero_of {o : Vl} (hk : o.k = 0) (hs : sndB o = true) : o = Vl.zero := by
  unfold sndB at hs
  rw [if_pos hk] at hs
  have h := of_decide_eq_true hs
  obtain ⟨k, n, s, t, i⟩ := o
  simp only at hk h
  obtain ⟨h1, h2, h3, h4⟩ := h
  subst hk h1 h2 h4
  rw [toList_nil h3]
  rfl
theorem among_end {o : Vl} {r : List Vl} {gr : Bool} {R : Vl} (hs : sndB o = true) (h : EndOf o (o :: r) gr R) : AmongOf o (o :: r) R := by
  rcases h with ⟨h1, h2⟩ | ⟨_, h2, _⟩
  · refine ⟨Or.inl h2, fun hl => ?_⟩
    have hr : r = [] := List.length_eq_zero_iff.1 (by simpa using hl)
    subst hr
    have hk : o.k = 0 := by simpa [badK] using h1
    rw [h2, zero_of hk hs]
  · refine ⟨Or.inr h2, fun hl => ?_⟩
    have hr : r = [] := List.length_eq_zero_iff.1 (by simpa using hl)
    subst hr
    simpa using h2
theorem among_unique (os : List Vl) (df : Vl) (f : Int) (fr : List Int) : AmongOf (pickV os f) (pickV os f :: fr.map (pickV os)) (resU os df (f :: fr)) := by
  cases fr with
  | nil => exact ⟨Or.inr (by simp [resU]), fun _ => rfl⟩
  | cons g r => exact ⟨Or.inl rfl, fun h => by simp at h⟩

def sixP (p : Int) : Prop := p = 85 ∨ p = 65 ∨ p = 80 ∨ p = 70 ∨ p = 60 ∨ p = 62
theorem outAmong_any (os od : List Vl) (df : Vl) (fs : List Int) (A B F : Option Addr) (ca cb cf : Nat) (w : World) (hA : RdL w 5 A (os.map Vl.cells5)) (hB : RdL w 5 B (od.map Vl.cells5)) (hF : RdL w 1 F (fs.map intC)) (hos : ∀ v ∈ os, v.wf) (hod : ∀ v ∈ od, v.wf) (hdf : df.wf) (hfs : Rise os.length fs) (h16 : fs.length ≤ 16) (n1 : os.length ≤ 9223372036854775807) (n2 : od.length ≤ 9223372036854775807) (hE : Env w)
    (p : Int) (hp : sixP p) (h : sndAll os od df = true) (f : Int) (fr : List Int) (hfr : fs = f :: fr) :
    Calls Tryd.prog 9 #[.int .i64 p, .slice A os.length ca, .slice B od.length cb, .agg #[.int .i64 df.k, .int .i64 df.n, .int .i64 df.s, .string df.t, .int .i64 df.i], .slice F fs.length cf] w fun e w' =>
      ∃ R : Vl, e = .returned (.tuple #[.agg #[.int .i64 R.k, .int .i64 R.n, .int .i64 R.s, .string R.t, .int .i64 R.i], .int .i64 0]) ∧ AmongOf (pickV os f) (pickV os f :: fr.map (pickV os)) R ∧ Below w.heap.size w w' := by
  obtain ⟨s1, s2, s3⟩ := sndAll_yes h
  have hpo := pick_ok2 hos s1 fs
  rw [show fs.map (pickV os) = pickV os f :: fr.map (pickV os) by rw [hfr]; rfl] at hpo
  have hso := hpo.2 (pickV os f) (by simp)
  rcases hp with rfl | rfl | rfl | rfl | rfl | rfl
  · refine (outU_any os od df fs A B F ca cb cf w hA hB hF hos hod hdf hfs h16 n1 n2 hE h).mono ?_
    rintro e w' ⟨rfl, hb⟩
    exact ⟨_, rfl, by rw [hfr]; exact among_unique os df f fr, hb⟩
  · refine (outAny os od df fs A B F ca cb cf w hA hB hF hos hod hdf hfs h16 n1 n2 hE f fr hfr s1 s2 s3).mono ?_
    rintro e w' ⟨rfl, hb⟩
    exact ⟨_, rfl, among_one _ _, hb⟩
  · refine (outPrio os od df fs A B F ca cb cf w hA hB hF hos hod hdf hfs h16 n1 n2 hE f fr hfr s1 s2 s3).mono ?_
    rintro e w' ⟨rfl, hb⟩
    exact ⟨_, rfl, among_first _ _ _, hb⟩
  · refine (outFirst os od df fs A B F ca cb cf w hA hB hF hos hod hdf hfs h16 n1 n2 hE f fr hfr s1 s2 s3).mono ?_
    rintro e w' ⟨rfl, hb⟩
    exact ⟨_, rfl, among_first _ _ _, hb⟩
  · refine (outLeast os od df fs A B F ca cb cf w hA hB hF hos hod hdf hfs h16 n1 n2 hE f fr hfr hpo.1 hpo.2 s1 s2 s3).mono ?_
    rintro e w' ⟨R, rfl, hend, hb⟩
    exact ⟨_, rfl, among_end hso hend, hb⟩
  · refine (outMost os od df fs A B F ca cb cf w hA hB hF hos hod hdf hfs h16 n1 n2 hE f fr hfr hpo.1 hpo.2 s1 s2 s3).mono ?_
    rintro e w' ⟨R, rfl, hend, hb⟩
    exact ⟨_, rfl, among_end hso hend, hb⟩
theorem six_known {p : Int} (h : sixP p) : knownB p = true ∧ (p == 35) = false := by
  rcases h with rfl | rfl | rfl | rfl | rfl | rfl <;> exact ⟨by decide, by decide⟩
end Go.Proofs.YtfhmjkdpohepaaaDoor
