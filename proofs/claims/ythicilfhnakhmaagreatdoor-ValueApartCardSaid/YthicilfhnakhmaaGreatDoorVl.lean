/- A value of the program, as Lean data. -/
import Derived.Test.YthicilfhnakhmaaGreatDoorBase
import Derived.Test.YthicilfhnakhmaaGreatDoorNum
import Derived.Test.YthicilfhnakhmaaGreatDoorUtf
set_option linter.unusedSimpArgs false
set_option linter.unusedVariables false
namespace Go.Proofs.YthicilfhnakhmaaGreatDoor
open Go.RowKit

/-- a value: its kind, the number's N and Scale, its text, its N -/
structure Vl where
  k : Int
  n : Int
  s : Int
  t : ByteArray
  i : Int
def I64 (x : Int) : Prop := -9223372036854775808 ≤ x ∧ x ≤ 9223372036854775807
structure Vl.wf (v : Vl) : Prop where
  k : I64 v.k
  n : I64 v.n
  s : I64 v.s
  i : I64 v.i
  t : v.t.size ≤ 9223372036854775807
def Vl.zero : Vl := ⟨0, 0, 0, ⟨#[]⟩, 0⟩
/-- may it be a value? -/
def sndB (v : Vl) : Bool :=
  if v.k = 0 then decide (v.n = 0 ∧ v.s = 0 ∧ v.t.toList = [] ∧ v.i = 0)
  else if v.k = 1 then decide (v.t.toList = [] ∧ v.i = 0) && decSnd v.n v.s
  else if v.k = 2 then decide (v.n = 0 ∧ v.s = 0 ∧ v.i = 0 ∧ v.t.size ≤ 256) && goodB v.t
  else if v.k = 3 then decide (v.n = 0 ∧ v.s = 0 ∧ v.t.toList = [] ∧ (v.i = 0 ∨ v.i = 1))
  else if v.k = 4 then decide (v.n = 0 ∧ v.s = 0 ∧ v.t.toList = [] ∧ 0 ≤ v.i ∧ v.i ≤ 3652058)
  else false
end Go.Proofs.YthicilfhnakhmaaGreatDoor
