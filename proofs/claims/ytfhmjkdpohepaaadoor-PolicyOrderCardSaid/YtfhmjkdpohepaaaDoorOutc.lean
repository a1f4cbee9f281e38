/- soffit/policy.Outcome for fired rules that may be, by #, F, P and U: the walks joined. -/
import Derived.Test.YtfhmjkdpohepaaaDoorOutNo1
import Derived.Test.YtfhmjkdpohepaaaDoorOutNo2
import Derived.Test.YtfhmjkdpohepaaaDoorOutNo3
import Derived.Test.YtfhmjkdpohepaaaDoorOutCount
import Derived.Test.YtfhmjkdpohepaaaDoorOutDef
import Derived.Test.YtfhmjkdpohepaaaDoorOutFirst
import Derived.Test.YtfhmjkdpohepaaaDoorOutPrio
import Derived.Test.YtfhmjkdpohepaaaDoorOutUnique1
import Derived.Test.YtfhmjkdpohepaaaDoorOutUnique2
set_option linter.unusedSimpArgs false
set_option linter.unusedVariables false
namespace Go.Proofs.YtfhmjkdpohepaaaDoor
open Go.RowKit

theorem nil_toList : (⟨#[]⟩ : ByteArray).toList = [] := by rw [ByteArray.toList_eq]
theorem zero_sound : sndB Vl.zero = true := by
  unfold sndB Vl.zero
  simp [nil_toList]
theorem zero_wf : Vl.zero.wf := ⟨by unfold I64 Vl.zero; simp, by unfold I64 Vl.zero; simp, by unfold I64 Vl.zero; simp, by unfold I64 Vl.zero; simp, by show (0 : Nat) ≤ 9223372036854775807; omega⟩
theorem allSnd_nil : allSnd [] = true := rfl
theorem allSnd_zero : allSnd [Vl.zero] = true := by unfold allSnd; simp [zero_sound]
def sndAll (os od : List Vl) (df : Vl) : Bool := allSnd os && allSnd od && allSnd [df]
theorem sndAll_yes {os od : List Vl} {df : Vl} (h : sndAll os od df = true) : allSnd os = true ∧ allSnd od = true ∧ allSnd [df] = true := by
  unfold sndAll at h
  simp only [Bool.and_eq_true] at h
  exact ⟨h.1.1, h.1.2, h.2⟩
def resF (os : List Vl) (df : Vl) : List Int → Vl
  | [] => df
  | f :: _ => pickV os f
def resP (os od : List Vl) (df : Vl) : List Int → Vl
  | [] => df
  | f :: fr => firstV (pickV os f) (pickV os f :: fr.map (pickV os)) od
def resU (os : List Vl) (df : Vl) : List Int → Vl
  | [] => df
  | [f] => pickV os f
  | _ => Vl.zero
theorem firstV_nil (o : Vl) (os : List Vl) : firstV o os [] = o := rfl

theorem outNo_any (os od : List Vl) (df : Vl) (fs : List Int) (A B F : Option Addr) (ca cb cf : Nat) (w : World) (hA : RdL w 5 A (os.map Vl.cells5)) (hB : RdL w 5 B (od.map Vl.cells5)) (hF : RdL w 1 F (fs.map intC)) (hos : ∀ v ∈ os, v.wf) (hod : ∀ v ∈ od, v.wf) (hdf : df.wf) (hfs : Rise os.length fs) (h16 : fs.length ≤ 16) (n1 : os.length ≤ 9223372036854775807) (n2 : od.length ≤ 9223372036854775807) (hE : Env w)
    (p : Int) (hk : knownB p = true) (h : sndAll os od df = false) :
    Calls Tryd.prog 9 #[.int .i64 p, .slice A os.length ca, .slice B od.length cb, .agg #[.int .i64 df.k, .int .i64 df.n, .int .i64 df.s, .string df.t, .int .i64 df.i], .slice F fs.length cf] w fun e w' =>
      e = .returned (.tuple #[.agg #[.int .i64 0, .int .i64 0, .int .i64 0, .string ⟨#[]⟩, .int .i64 0], .int .i64 2]) ∧ Below w.heap.size w w' := by
  cases s1 : allSnd os
  · exact outNo1 os od df fs A B F ca cb cf w hA hB hF hos hod hdf hfs h16 n1 n2 hE p hk s1
  cases s2 : allSnd od
  · exact outNo2 os od df fs A B F ca cb cf w hA hB hF hos hod hdf hfs h16 n1 n2 hE p hk s1 s2
  have s3 : allSnd [df] = false := by unfold sndAll at h; rw [s1, s2] at h; simpa using h
  exact outNo3 os od df fs A B F ca cb cf w hA hB hF hos hod hdf hfs h16 n1 n2 hE p hk s1 s2 s3

theorem outF_any (os od : List Vl) (df : Vl) (fs : List Int) (A B F : Option Addr) (ca cb cf : Nat) (w : World) (hA : RdL w 5 A (os.map Vl.cells5)) (hB : RdL w 5 B (od.map Vl.cells5)) (hF : RdL w 1 F (fs.map intC)) (hos : ∀ v ∈ os, v.wf) (hod : ∀ v ∈ od, v.wf) (hdf : df.wf) (hfs : Rise os.length fs) (h16 : fs.length ≤ 16) (n1 : os.length ≤ 9223372036854775807) (n2 : od.length ≤ 9223372036854775807) (hE : Env w)
    (h : sndAll os od df = true) :
    Calls Tryd.prog 9 #[.int .i64 70, .slice A os.length ca, .slice B od.length cb, .agg #[.int .i64 df.k, .int .i64 df.n, .int .i64 df.s, .string df.t, .int .i64 df.i], .slice F fs.length cf] w fun e w' =>
      e = .returned (.tuple #[.agg #[.int .i64 (resF os df fs).k, .int .i64 (resF os df fs).n, .int .i64 (resF os df fs).s, .string (resF os df fs).t, .int .i64 (resF os df fs).i], .int .i64 0]) ∧ Below w.heap.size w w' := by
  obtain ⟨s1, s2, s3⟩ := sndAll_yes h
  cases fs with
  | nil => exact outDef os od df [] A B F ca cb cf w hA hB hF hos hod hdf hfs h16 n1 n2 hE 70 (by decide) (by decide) rfl s1 s2 s3
  | cons f fr =>
    have := outFirst os od df (f :: fr) A B F ca cb cf w hA hB hF hos hod hdf hfs h16 n1 n2 hE f fr rfl s1 s2 s3
    rw [firstV_nil] at this
    exact this

theorem outP_any (os od : List Vl) (df : Vl) (fs : List Int) (A B F : Option Addr) (ca cb cf : Nat) (w : World) (hA : RdL w 5 A (os.map Vl.cells5)) (hB : RdL w 5 B (od.map Vl.cells5)) (hF : RdL w 1 F (fs.map intC)) (hos : ∀ v ∈ os, v.wf) (hod : ∀ v ∈ od, v.wf) (hdf : df.wf) (hfs : Rise os.length fs) (h16 : fs.length ≤ 16) (n1 : os.length ≤ 9223372036854775807) (n2 : od.length ≤ 9223372036854775807) (hE : Env w)
    (h : sndAll os od df = true) :
    Calls Tryd.prog 9 #[.int .i64 80, .slice A os.length ca, .slice B od.length cb, .agg #[.int .i64 df.k, .int .i64 df.n, .int .i64 df.s, .string df.t, .int .i64 df.i], .slice F fs.length cf] w fun e w' =>
      e = .returned (.tuple #[.agg #[.int .i64 (resP os od df fs).k, .int .i64 (resP os od df fs).n, .int .i64 (resP os od df fs).s, .string (resP os od df fs).t, .int .i64 (resP os od df fs).i], .int .i64 0]) ∧ Below w.heap.size w w' := by
  obtain ⟨s1, s2, s3⟩ := sndAll_yes h
  cases fs with
  | nil => exact outDef os od df [] A B F ca cb cf w hA hB hF hos hod hdf hfs h16 n1 n2 hE 80 (by decide) (by decide) rfl s1 s2 s3
  | cons f fr => exact outPrio os od df (f :: fr) A B F ca cb cf w hA hB hF hos hod hdf hfs h16 n1 n2 hE f fr rfl s1 s2 s3

theorem outU_any (os od : List Vl) (df : Vl) (fs : List Int) (A B F : Option Addr) (ca cb cf : Nat) (w : World) (hA : RdL w 5 A (os.map Vl.cells5)) (hB : RdL w 5 B (od.map Vl.cells5)) (hF : RdL w 1 F (fs.map intC)) (hos : ∀ v ∈ os, v.wf) (hod : ∀ v ∈ od, v.wf) (hdf : df.wf) (hfs : Rise os.length fs) (h16 : fs.length ≤ 16) (n1 : os.length ≤ 9223372036854775807) (n2 : od.length ≤ 9223372036854775807) (hE : Env w)
    (h : sndAll os od df = true) :
    Calls Tryd.prog 9 #[.int .i64 85, .slice A os.length ca, .slice B od.length cb, .agg #[.int .i64 df.k, .int .i64 df.n, .int .i64 df.s, .string df.t, .int .i64 df.i], .slice F fs.length cf] w fun e w' =>
      e = .returned (.tuple #[.agg #[.int .i64 (resU os df fs).k, .int .i64 (resU os df fs).n, .int .i64 (resU os df fs).s, .string (resU os df fs).t, .int .i64 (resU os df fs).i], .int .i64 0]) ∧ Below w.heap.size w w' := by
  obtain ⟨s1, s2, s3⟩ := sndAll_yes h
  match fs, hF, hfs, h16 with
  | [], hF, hfs, h16 => exact outDef os od df [] A B F ca cb cf w hA hB hF hos hod hdf hfs h16 n1 n2 hE 85 (by decide) (by decide) rfl s1 s2 s3
  | [f], hF, hfs, h16 => exact outUnique1 os od df [f] A B F ca cb cf w hA hB hF hos hod hdf hfs h16 n1 n2 hE f [] rfl rfl s1 s2 s3
  | f :: g :: fr, hF, hfs, h16 => exact outUnique2 os od df (f :: g :: fr) A B F ca cb cf w hA hB hF hos hod hdf hfs h16 n1 n2 hE f (g :: fr) rfl (by simp) s1 s2 s3
end Go.Proofs.YtfhmjkdpohepaaaDoor
