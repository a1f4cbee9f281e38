/- strings.Replacer at the two signs: build, walked. -/
import Derived.Test.YthicilfhnakhmaaGreatDoorTx1
import Derived.Deep.WholeRow
import Derived.Lib.SliceRun
import Derived.Lib.ConvBytes
import Derived.Lib.SmallJoins
import Derived.ArgAppend
import Derived.Test.YthicilfhnakhmaaGreatDoorOwn2
set_option linter.unusedSimpArgs false
set_option linter.unusedVariables false
namespace Go.Proofs.YthicilfhnakhmaaGreatDoor
open Go.RowKit Go.Sort Go.Lib

/-- a table of rows of bytes, and a list -/
def zrow (s : Value) : Array Value := (Array.replicate 256 (.slice none 0 0)).push s
theorem zrow_size (s : Value) : (zrow s).size = 257 := by simp [zrow]
theorem zrow_at (s : Value) (i : Nat) (h : i < 256) : (zrow s)[i]? = some (.slice none 0 0) := by
  unfold zrow
  rw [Array.getElem?_push_lt (by simpa using h)]
  simp
theorem zrow_last (s : Value) : (zrow s)[256]? = some s := by
  unfold zrow
  rw [Array.getElem?_push]
  simp
theorem zrow_one (a : Option Addr) (n c : Nat) : (zrow (.slice a n c)).all (·.oneCell') = true := by
  unfold zrow
  rw [Array.all_push]
  simp only [Bool.and_eq_true, Value.oneCell']
  refine ⟨?_, trivial⟩
  rw [Array.all_replicate]
  rfl
def o4 : List ByteArray := [⟨#[92]⟩, ⟨#[92, 92]⟩, ⟨#[34]⟩, ⟨#[92, 34]⟩]

theorem below_bytesW (B : Nat) (w : World) (e : TypeId) (s : ByteArray) (h : B ≤ w.heap.size) : Below B w (bytesWorld w e s) :=
  ⟨rfl, rfl, rfl, by rw [bytesWorld_size]; omega, fun j hj => bytesWorld_at_old w e s j (by omega)⟩
theorem convB (x : UInt8) (w : World) (t : TypeId) : (convert 87 9 (.slice (some ⟨w.heap.size, 0, none⟩) 1 1)).run Tryz.prog (w.alloc (.cells #[.int .u8 (x.toNat : Int)] t)) = .ok (.string ⟨#[x]⟩) (w.alloc (.cells #[.int .u8 (x.toNat : Int)] t)) := by
  have h := run_convert_bytes_back (P := Tryz.prog) (w.alloc (.cells #[.int .u8 (x.toNat : Int)] t)) 87 9 5 ⟨w.heap.size, 0, none⟩ 1 [x] (by kernel_rfl) (by kernel_rfl) (by kernel_rfl) (fun j hj => by
    have hj0 : j = 0 := by simpa using hj
    subst hj0
    rw [add_plain, World.cell?_alloc_new]
    simp)
  exact h
/-- the table while it is built: n signs are in the list (g); f: what the rows are -/
structure RplI (W : World) (B T n : Nat) (f : Nat → Value) (g : Nat → ByteArray) : Prop where
  cells : ∀ i, i < 256 → W.cell? ⟨B, i, none⟩ = some (f i)
  last : W.cell? ⟨B, 256, none⟩ = some (.slice (some ⟨T, 0, none⟩) n 2)
  fb : ∀ o, W.frozen? ⟨B, o, none⟩ = false
  ft : ∀ o, W.frozen? ⟨T, o, none⟩ = false
  lb : B < W.heap.size
  lt : T < W.heap.size
  ne : T ≠ B
  tc : ∀ j, j < 2 → W.cell? ⟨T, j, none⟩ = some (.string (g j))
theorem RplI.below {W W' : World} {B T n : Nat} {f : Nat → Value} {g : Nat → ByteArray} (h : RplI W B T n f g) (hb : Below W.heap.size W W') : RplI W' B T n f g where
  cells := fun i hi => (hb.cell (p := ⟨B, i, none⟩) h.lb).trans (h.cells i hi)
  last := (hb.cell (p := ⟨B, 256, none⟩) h.lb).trans h.last
  fb := fun o => (hb.frozen (p := ⟨B, o, none⟩) h.lb).trans (h.fb o)
  ft := fun o => (hb.frozen (p := ⟨T, o, none⟩) h.lt).trans (h.ft o)
  lb := Nat.lt_of_lt_of_le h.lb hb.size
  lt := Nat.lt_of_lt_of_le h.lt hb.size
  ne := h.ne
  tc := fun j hj => (hb.cell (p := ⟨T, j, none⟩) h.lt).trans (h.tc j hj)
/-- one sign more in the list -/
theorem RplI.more {W : World} {B T n : Nat} {f : Nat → Value} {g : Nat → ByteArray} (h : RplI W B T n f g) (hn : n < 2) (s : ByteArray) : RplI ((W.setCell ⟨T, n, none⟩ (.string s)).setCell ⟨B, 256, none⟩ (.slice (some ⟨T, 0, none⟩) (n + 1) 2)) B T (n + 1) f (fun j => if j = n then s else g j) where
  cells := fun i hi => by
    rw [World.cell?_setCell_other _ _ _ _ (by intro e; have := congrArg Addr.off e; simp at this; omega), World.cell?_setCell_other _ _ _ _ (by intro e; exact h.ne (congrArg Addr.block e))]
    exact h.cells i hi
  last := by
    refine World.cell?_setCell_same _ _ _ (u := .slice (some ⟨T, 0, none⟩) n 2) ?_
    rw [World.cell?_setCell_other _ _ _ _ (by intro e; exact h.ne (congrArg Addr.block e))]
    exact h.last
  fb := fun o => by rw [World.frozen?_setCell, World.frozen?_setCell]; exact h.fb o
  ft := fun o => by rw [World.frozen?_setCell, World.frozen?_setCell]; exact h.ft o
  lb := by rw [sz_set, sz_set]; exact h.lb
  lt := by rw [sz_set, sz_set]; exact h.lt
  ne := h.ne
  tc := fun j hj => by
    rw [World.cell?_setCell_other _ _ _ _ (by intro e; exact h.ne (congrArg Addr.block e).symm)]
    by_cases hjn : j = n
    · subst hjn
      rw [if_pos rfl]
      exact World.cell?_setCell_same _ _ _ (h.tc j hj)
    · rw [if_neg hjn, World.cell?_setCell_other _ _ _ _ (by intro e; exact hjn (congrArg Addr.off e).symm)]
      exact h.tc j hj
/-- a row for one sign -/
theorem RplI.row {W : World} {B T n : Nat} {f : Nat → Value} {g : Nat → ByteArray} (h : RplI W B T n f g) (x : Nat) (hx : x < 256) (v : Value) : RplI (W.setCell ⟨B, x, none⟩ v) B T n (fun i => if i = x then v else f i) g where
  cells := fun i hi => by
    by_cases hix : i = x
    · subst hix
      rw [if_pos rfl]
      exact World.cell?_setCell_same _ _ _ (h.cells i hi)
    · rw [if_neg hix, World.cell?_setCell_other _ _ _ _ (by intro e; exact hix (congrArg Addr.off e).symm)]
      exact h.cells i hi
  last := by rw [World.cell?_setCell_other _ _ _ _ (by intro e; have := congrArg Addr.off e; simp at this; omega)]; exact h.last
  fb := fun o => by rw [World.frozen?_setCell]; exact h.fb o
  ft := fun o => by rw [World.frozen?_setCell]; exact h.ft o
  lb := by rw [sz_set]; exact h.lb
  lt := by rw [sz_set]; exact h.lt
  ne := h.ne
  tc := fun j hj => by rw [World.cell?_setCell_other _ _ _ _ (by intro e; exact h.ne (congrArg Addr.block e).symm)]; exact h.tc j hj
/-- a row of two bytes -/
structure TwoB (W : World) (B T L N : Nat) (x y : Int) : Prop where
  lo : L ≤ N
  lt : N < W.heap.size
  nb : N ≠ B
  nt : N ≠ T
  c0 : W.cell? ⟨N, 0, none⟩ = some (.int .u8 x)
  c1 : W.cell? ⟨N, 1, none⟩ = some (.int .u8 y)
theorem TwoB.below {W W' : World} {B T L N : Nat} {x y : Int} (h : TwoB W B T L N x y) (hb : Below W.heap.size W W') : TwoB W' B T L N x y :=
  ⟨h.lo, Nat.lt_of_lt_of_le h.lt hb.size, h.nb, h.nt, (hb.cell (p := ⟨N, 0, none⟩) h.lt).trans h.c0, (hb.cell (p := ⟨N, 1, none⟩) h.lt).trans h.c1⟩
theorem TwoB.set_ {W : World} {B T L N : Nat} {x y : Int} (h : TwoB W B T L N x y) (b o : Nat) (v : Value) (hb : b = B ∨ b = T) : TwoB (W.setCell ⟨b, o, none⟩ v) B T L N x y := by
  have hne : N ≠ b := by rcases hb with rfl | rfl; exact h.nb; exact h.nt
  refine ⟨h.lo, by rw [sz_set]; exact h.lt, h.nb, h.nt, ?_, ?_⟩
  · rw [World.cell?_setCell_other _ _ _ _ (by intro e; exact hne (congrArg Addr.block e).symm)]; exact h.c0
  · rw [World.cell?_setCell_other _ _ _ _ (by intro e; exact hne (congrArg Addr.block e).symm)]; exact h.c1
def rowF (N34 c34 : Nat) : Nat → Value := fun i => if i = 34 then .slice (some ⟨N34, 0, none⟩) 2 c34 else .slice none 0 0
def rowG (N34 c34 N92 c92 : Nat) : Nat → Value := fun i => if i = 92 then .slice (some ⟨N92, 0, none⟩) 2 c92 else rowF N34 c34 i
def sgn1 : Nat → ByteArray := fun j => if j = 0 then ⟨#[34]⟩ else ⟨#[]⟩
def sgn2 : Nat → ByteArray := fun j => if j = 1 then ⟨#[92]⟩ else sgn1 j
/-- the replacer of the two signs -/
structure IsRpl (W : World) (L B : Nat) : Prop where
  of : ∃ T N c M d, L ≤ T ∧ L ≤ B ∧ RplI W B T 2 (rowG N c M d) sgn2 ∧ TwoB W B T L N 92 34 ∧ TwoB W B T L M 92 92
theorem IsRpl.below {W W' : World} {L B : Nat} (h : IsRpl W L B) (hb : Below W.heap.size W W') : IsRpl W' L B := by
  obtain ⟨T, N, c, M, d, l1, l2, h1, h2, h3⟩ := h.of
  exact ⟨⟨T, N, c, M, d, l1, l2, h1.below hb, h2.below hb, h3.below hb⟩⟩
/-- how far it is built -/
def RplQ (W : World) (B T L : Nat) : Nat → Prop
  | 2 => RplI W B T 0 (fun _ => .slice none 0 0) (fun _ => ⟨#[]⟩)
  | 1 => ∃ N c, RplI W B T 1 (rowF N c) sgn1 ∧ TwoB W B T L N 92 34
  | _ => ∃ N c M d, RplI W B T 2 (rowG N c M d) sgn2 ∧ TwoB W B T L N 92 34 ∧ TwoB W B T L M 92 92

/-- a cell of an older block is nothing to it -/
theorem IsRpl.set_ {W : World} {L B : Nat} (h : IsRpl W L B) (b o : Nat) (v : Value) (hb : b < L) : IsRpl (W.setCell ⟨b, o, none⟩ v) L B := by
  obtain ⟨T, N, c, M, d, l1, l2, h1, h2, h3⟩ := h.of
  have two : ∀ {N : Nat} {x y : Int}, TwoB W B T L N x y → TwoB (W.setCell ⟨b, o, none⟩ v) B T L N x y := by
    intro N x y h
    have hne : N ≠ b := by have := h.lo; omega
    refine ⟨h.lo, by rw [sz_set]; exact h.lt, h.nb, h.nt, ?_, ?_⟩
    · rw [World.cell?_setCell_other _ _ _ _ (by intro e; exact hne (congrArg Addr.block e).symm)]; exact h.c0
    · rw [World.cell?_setCell_other _ _ _ _ (by intro e; exact hne (congrArg Addr.block e).symm)]; exact h.c1
  refine ⟨⟨T, N, c, M, d, l1, l2, ?_, two h2, two h3⟩⟩
  have n1 : b ≠ B := by omega
  have n2 : b ≠ T := by omega
  refine ⟨fun i hi => ?_, ?_, fun o => ?_, fun o => ?_, by rw [sz_set]; exact h1.lb, by rw [sz_set]; exact h1.lt, h1.ne, fun j hj => ?_⟩
  · rw [World.cell?_setCell_other _ _ _ _ (by intro e; exact n1 (congrArg Addr.block e))]; exact h1.cells i hi
  · rw [World.cell?_setCell_other _ _ _ _ (by intro e; exact n1 (congrArg Addr.block e))]; exact h1.last
  · rw [World.frozen?_setCell]; exact h1.fb o
  · rw [World.frozen?_setCell]; exact h1.ft o
  · rw [World.cell?_setCell_other _ _ _ _ (by intro e; exact n2 (congrArg Addr.block e))]; exact h1.tc j hj
theorem IsRpl.drew {W : World} {L B : Nat} (h : IsRpl W L B) : IsRpl W.drew L B := h.below ((Below.refl _ _).drew)

set_option maxRecDepth 100000 in
set_option maxHeartbeats 12800000 in
theorem rplBuild (b : Nat) (o c : Nat) (w : World) (hb : b < w.heap.size) (ho : o < w.heap.size)
    (hc4 : w.cell? ⟨b, 4, none⟩ = some (.slice (some ⟨o, 0, none⟩) 4 c))
    (o0 : w.cell? ⟨o, 0, none⟩ = some (.string ⟨#[92]⟩)) (o1 : w.cell? ⟨o, 1, none⟩ = some (.string ⟨#[92, 92]⟩)) (o2 : w.cell? ⟨o, 2, none⟩ = some (.string ⟨#[34]⟩)) (o3 : w.cell? ⟨o, 3, none⟩ = some (.string ⟨#[92, 34]⟩)) :
    Calls Tryz.prog 75 #[.pointer (some ⟨b, 0, none⟩)] w fun e w' => ∃ B, e = .returned (.iface 155 (.pointer (some ⟨B, 0, none⟩))) ∧ IsRpl w' w.heap.size B ∧ Below w.heap.size w w' := by
  obtain ⟨s0, sinf, sza, szb, szc⟩ := info_parts (show (Tryz.prog.info? 9).map (fun i => (i.zero, i.size, i.bytes)) = some (some (.string ⟨#[]⟩), 1, 16) by kernel_rfl)
  have hz := zero_of_info (P := Tryz.prog) (t := 154) (v := .agg (zrow (.slice none 0 0))) (n := 257) (by kernel_rfl)
  have hz1 := hz.1
  have HZ2 := Lib.hid hz.2
  have hbuild : ∀ (a : Addr) (W : World), (Instr.build 154 #[(1, .slice (some a) 0 2)]).run Tryz.prog W = .ok (.agg (zrow (.slice (some a) 0 2))) W := fun a W => run_build W _ _ _ (by kernel_rfl)
  have hsc : (storeCells ⟨w.heap.size + 1, 0, none⟩ ((zrow (.slice none 0 0)).toList.set 256 (.slice (some ⟨w.heap.size, 0, none⟩) 0 2)) 0).run Tryz.prog ((w.alloc (.cells #[.string ⟨#[]⟩, .string ⟨#[]⟩] 9)).alloc (.cells (zrow (.slice none 0 0)) 154)) = .ok () ((w.alloc (.cells #[.string ⟨#[]⟩, .string ⟨#[]⟩] 9)).alloc (.cells (zrow (.slice (some ⟨w.heap.size, 0, none⟩) 0 2)) 154)) := by
    have h := run_storeCells_new (P := Tryz.prog) (w.alloc (.cells #[.string ⟨#[]⟩, .string ⟨#[]⟩] 9)) 154 (zrow (.slice none 0 0)) (zrow (.slice (some ⟨w.heap.size, 0, none⟩) 0 2)) (by rw [zrow_size]; exact HZ2.out) (by rw [zrow_size, zrow_size]) (zrow_one _ _ _)
    have e : (zrow (.slice none 0 0)).toList.set 256 (.slice (some ⟨w.heap.size, 0, none⟩) 0 2) = (zrow (.slice (some ⟨w.heap.size, 0, none⟩) 0 2)).toList := by
      unfold zrow
      rw [Array.toList_push, Array.toList_push, List.set_append_right _ _ (by simp)]
      simp
    rw [e]
    simpa using h
  have hmk : ∀ W, (Instr.makeSlice 48 (.int .i64 0) (.int .i64 2)).run Tryz.prog W = .ok (.slice (some ⟨W.heap.size, 0, none⟩) 0 2) (W.alloc (.cells #[.string ⟨#[]⟩, .string ⟨#[]⟩] 9)) := fun _ => by kernel_rfl
  clear hz
  go_enter Tryz.func75, Tryz.ntmps75
  go_wp2_with fail
  go_loopg [4, 5] 3 (fun k av iv wr => ∃ q : Nat, q ≤ 2 ∧ 2 - q ≤ k ∧ iv = .int .i64 ((2 * q : Nat) : Int) ∧ av = .bool (q == 0) ∧ w = wr)
  case atStart => exact ⟨0, by omega, by omega, rfl, rfl, rfl⟩
  case round =>
    obtain ⟨q, hq, hqk, rfl, rfl, rfl⟩ := hrel
    have hq3 : q = 0 ∨ q = 1 ∨ q = 2 := by omega
    rcases hq3 with rfl | rfl | rfl
    · simp only [Nat.mul_zero, Int.natCast_zero, Int.cast_ofNat_Int, beq_self_eq_true]
      go_wp2_with fail
      go_roundg (gk - 1)
      case measure => omega
      case rel => exact ⟨1, by omega, by omega, by first | rfl | go_num, rfl, rfl⟩
    · rw [show (((2 * 1 : Nat) : Int)) = 2 from rfl, show ((1 : Nat) == 0) = false from rfl]
      go_wp2_with fail
      go_roundg (gk - 1)
      case measure => omega
      case rel => exact ⟨2, by omega, by omega, by first | rfl | go_num, rfl, rfl⟩
    · rw [show (((2 * 2 : Nat) : Int)) = 4 from rfl, show ((2 : Nat) == 0) = false from rfl]
      go_wp2_with fail
      -- TAIL
      clear hsc hmk hbuild hz1 HZ2
      obtain ⟨B, hB⟩ : ∃ B, w.heap.size + 1 = B := ⟨_, rfl⟩
      obtain ⟨T, hT⟩ : ∃ T, w.heap.size = T := ⟨_, rfl⟩
      generalize hW1 : (w.alloc (.cells #[.string ⟨#[]⟩, .string ⟨#[]⟩] 9)).alloc (.cells (zrow (.slice (some ⟨w.heap.size, 0, none⟩) 0 2)) 154) = W1
      have hbw : Below w.heap.size w W1 := by rw [← hW1]; exact (by repeat' (first | (with_reducible exact Below.refl _ _) | (with_reducible assumption) | (with_reducible refine Below.drew ?_) | (with_reducible refine below_drewN ?_ _) | (with_reducible refine below_iterAt ?_ ?_ _ _) | (with_reducible refine below_iter ?_ ?_ _ _) | (with_reducible refine Below.alloc ?_ ?_ _) | (with_reducible refine Below.setCell ?_ ?_ _) | (with_reducible refine Below.trans ?_ (Below.mono (by assumption) ?_)) | (simp only [sz_alloc, sz_set, sz_drew, sz_drewN, sz_iterAt, sz_iter] at *; omega) | omega | (simp; done) | (simp; omega) | (apply Below.size; assumption) | (simp only [sz_drew, sz_drewN]; apply Below.size; assumption) | (refine Nat.le_trans ?_ (Below.size (by assumption)))))
      have HI : RplQ W1 B T w.heap.size 2 := by
        rw [← hW1, ← hB, ← hT]
        refine ⟨?_, ?_, ?_, ?_, ?_, ?_, by omega, ?_⟩
        · intro i hi
          rw [show w.heap.size + 1 = (w.alloc (.cells #[.string ⟨#[]⟩, .string ⟨#[]⟩] 9)).heap.size by simp, World.cell?_alloc_new]
          exact zrow_at _ i hi
        · rw [show w.heap.size + 1 = (w.alloc (.cells #[.string ⟨#[]⟩, .string ⟨#[]⟩] 9)).heap.size by simp, World.cell?_alloc_new]
          exact zrow_last _
        · intro o
          rw [show w.heap.size + 1 = (w.alloc (.cells #[.string ⟨#[]⟩, .string ⟨#[]⟩] 9)).heap.size by simp]
          exact World.frozen?_alloc_new _ _ _ _
        · intro o
          rw [World.frozen?_alloc_past _ _ _ (by simp)]
          exact World.frozen?_alloc_new _ _ _ _
        · simp
        · simp; omega
        · intro j hj
          rw [World.cell?_alloc_past _ _ _ (by simp), World.cell?_alloc_new]
          have hj2 : j = 0 ∨ j = 1 := by omega
          rcases hj2 with rfl | rfl <;> rfl
      clear hW1
      rw [hT]
      have hB2 : T + 1 = B := by omega
      rw [hB2]
      have HBW := Lib.hid hbw
      have HII := Lib.hid HI
      have HB := Lib.hid hB
      have HT := Lib.hid hT
      clear hbw HI hB hT hB2
      go_loopg [12] 3 (fun k iv wr => ∃ q : Nat, q ≤ 2 ∧ q ≤ k ∧ iv = .int .i64 (2 * (q : Int) - 2) ∧ Below w.heap.size w wr ∧ RplQ wr B T w.heap.size q)
      case atStart => exact ⟨2, by omega, by omega, by first | rfl | go_num, HBW.out, HII.out⟩
      case round =>
        obtain ⟨q, hq, hqk, rfl, hbel, hQ⟩ := hrel
        have hq3 : q = 2 ∨ q = 1 ∨ q = 0 := by omega
        have hlo : wr.cell? ⟨o, 0, none⟩ = _ := (hbel.cell (p := ⟨o, 0, none⟩) ho).trans o0
        have hlo1 : wr.cell? ⟨o, 1, none⟩ = _ := (hbel.cell (p := ⟨o, 1, none⟩) ho).trans o1
        have hlo2 : wr.cell? ⟨o, 2, none⟩ = _ := (hbel.cell (p := ⟨o, 2, none⟩) ho).trans o2
        have hlo3 : wr.cell? ⟨o, 3, none⟩ = _ := (hbel.cell (p := ⟨o, 3, none⟩) ho).trans o3
        have qT : ∀ (W : World) (a : Option Addr) (n c n' c' : Nat), (binOp .eql 87 (.slice a n c) (.slice none n' c')).run Tryz.prog W = .ok (.bool a.isNone) W := fun W a n c n' c' => Lib.run_eql_slice_nil W _ _ a n c n' c' Tryz.underlying87
        rcases hq3 with rfl | rfl | rfl
        · have hI : RplI wr B T 0 (fun _ => .slice none 0 0) (fun _ => ⟨#[]⟩) := hQ
          rw [show (2 * ((2 : Nat) : Int) - 2) = 2 from rfl]
          have rc := hI.cells 34 (by omega)
          have rl := hI.last
          have rfb := hI.fb
          have rft := hI.ft
          have rlb := hI.lb
          have rlt := hI.lt
          have rne := hI.ne
          have xx : ((⟨#[34]⟩ : ByteArray)[0]'(by decide)).toNat = 34 := rfl
          have xi : (((⟨#[34]⟩ : ByteArray)[0]'(by decide)).toNat : Int) = 34 := rfl
          have hcv : ∀ W : World, (convert 87 9 (.slice (some ⟨W.heap.size, 0, none⟩) 1 1)).run Tryz.prog (W.alloc (.cells #[.int .u8 34] 5)) = .ok (.string ⟨#[34]⟩) (W.alloc (.cells #[.int .u8 34] 5)) := fun W => convB 34 W _
          have hbe2 : Below wr.heap.size wr ((wr.alloc (.cells #[.int .u8 34] 5)).alloc (.cells #[.string ⟨#[34]⟩] 9)) := (by repeat' (first | (with_reducible exact Below.refl _ _) | (with_reducible assumption) | (with_reducible refine Below.drew ?_) | (with_reducible refine below_drewN ?_ _) | (with_reducible refine below_iterAt ?_ ?_ _ _) | (with_reducible refine below_iter ?_ ?_ _ _) | (with_reducible refine Below.alloc ?_ ?_ _) | (with_reducible refine Below.setCell ?_ ?_ _) | (with_reducible refine Below.trans ?_ (Below.mono (by assumption) ?_)) | (simp only [sz_alloc, sz_set, sz_drew, sz_drewN, sz_iterAt, sz_iter] at *; omega) | omega | (simp; done) | (simp; omega) | (apply Below.size; assumption) | (simp only [sz_drew, sz_drewN]; apply Below.size; assumption) | (refine Nat.le_trans ?_ (Below.size (by assumption)))))
          have hI2 := hI.below hbe2
          have t1 : ((wr.alloc (.cells #[.int .u8 34] 5)).alloc (.cells #[.string ⟨#[34]⟩] 9)).cell? ⟨T, 0, none⟩ = _ := hI2.tc 0 (by omega)
          have t2 : ((wr.alloc (.cells #[.int .u8 34] 5)).alloc (.cells #[.string ⟨#[34]⟩] 9)).frozen? ⟨T, 0, none⟩ = false := hI2.ft 0
          have f1 : (((wr.alloc (.cells #[.int .u8 34] 5)).alloc (.cells #[.string ⟨#[34]⟩] 9)).setCell ⟨T, 0, none⟩ (.string ⟨#[34]⟩)).cell? ⟨B, 256, none⟩ = some (.slice (some ⟨T, 0, none⟩) 0 2) := (World.cell?_setCell_other _ _ _ _ (by intro e; exact rne (congrArg Addr.block e))).trans hI2.last
          have f2 : (((wr.alloc (.cells #[.int .u8 34] 5)).alloc (.cells #[.string ⟨#[34]⟩] 9)).setCell ⟨T, 0, none⟩ (.string ⟨#[34]⟩)).frozen? ⟨B, 256, none⟩ = false := (World.frozen?_setCell _ _ _ _).trans (hI2.fb 256)
          have hbv : Below w.heap.size w ((wr.setCell ⟨T, 0, none⟩ (.string ⟨#[34]⟩)).setCell ⟨B, 256, none⟩ (.slice (some ⟨T, 0, none⟩) 1 2)) := Below.setCell (Below.setCell hbel (by have := HT.out; exact Nat.le_of_eq this) _) (by have := HB.out; have := HT.out; show w.heap.size ≤ B; omega) _
          have hbd : Below w.heap.size w ((((wr.setCell ⟨T, 0, none⟩ (.string ⟨#[34]⟩)).setCell ⟨B, 256, none⟩ (.slice (some ⟨T, 0, none⟩) 1 2)).alloc (.cells #[.int .u8 34] 5)).alloc (.cells #[.string ⟨#[34]⟩] 9)) := (hbv.alloc hbv.size _).alloc (by rw [sz_alloc]; have := hbv.size; omega) _
          have hbm : Below ((wr.setCell ⟨T, 0, none⟩ (.string ⟨#[34]⟩)).setCell ⟨B, 256, none⟩ (.slice (some ⟨T, 0, none⟩) 1 2)).heap.size ((wr.setCell ⟨T, 0, none⟩ (.string ⟨#[34]⟩)).setCell ⟨B, 256, none⟩ (.slice (some ⟨T, 0, none⟩) 1 2)) ((((wr.setCell ⟨T, 0, none⟩ (.string ⟨#[34]⟩)).setCell ⟨B, 256, none⟩ (.slice (some ⟨T, 0, none⟩) 1 2)).alloc (.cells #[.int .u8 34] 5)).alloc (.cells #[.string ⟨#[34]⟩] 9)) := ((Below.refl _ _).alloc (Nat.le_refl _) _).alloc (by rw [sz_alloc]; omega) _
          have hID := (hI.more (by omega) ⟨#[34]⟩).below hbm
          have H_I := Lib.hid hI
          have HBD := Lib.hid hbd
          have HID := Lib.hid hID
          clear hI hI2 hbe2 hbd hbv hbm hID
          go_wp2_with fail
          clear H_I t1 t2 f1 f2 rc rl rfb rft
          generalize ((((wr.setCell ⟨T, 0, none⟩ (.string ⟨#[34]⟩)).setCell ⟨B, 256, none⟩ (.slice (some ⟨T, 0, none⟩) 1 2)).alloc (.cells #[.int .u8 34] 5)).alloc (.cells #[.string ⟨#[34]⟩] 9)) = U at *
          have hIe := HID.out.below (below_bytesW _ _ 5 ⟨#[92, 34]⟩ (Nat.le_refl _))
          have g1 : (bytesWorld U 5 ⟨#[92, 34]⟩).cell? ⟨B, 34, none⟩ = some (.slice none 0 0) := (hIe.cells 34 (by omega)).trans (by rfl)
          have g2 : (bytesWorld U 5 ⟨#[92, 34]⟩).frozen? ⟨B, 34, none⟩ = false := hIe.fb 34
          have HF := Lib.hid (hIe.row 34 (by omega) (.slice (some ⟨U.heap.size, 0, none⟩) 2 (grownCap U 2 0 5)))
          have HTW : Hid (TwoB (bytesWorld U 5 ⟨#[92, 34]⟩) B T w.heap.size U.heap.size 92 34) := Lib.hid (by
            have a1 := HID.out.lb
            have a2 := HID.out.lt
            refine ⟨HBD.out.size, by rw [bytesWorld_size]; omega, by omega, by omega, ?_, ?_⟩
            · rw [bytesWorld_cell _ _ _ 0 (by decide)]; rfl
            · rw [bytesWorld_cell _ _ _ 1 (by decide)]; rfl)
          have HBF := Lib.hid (HBD.out.trans (below_bytesW _ U 5 ⟨#[92, 34]⟩ HBD.out.size))
          have HBB : Hid (w.heap.size ≤ B) := Lib.hid (by have := HB.out; have := HT.out; omega)
          have hcb : (convert 9 87 (.string ⟨#[92, 34]⟩)).run Tryz.prog U = .ok (.slice (some ⟨U.heap.size, 0, none⟩) 2 (grownCap U 2 0 5)) (bytesWorld U 5 ⟨#[92, 34]⟩) := Lib.run_convert_string_bytes U _ _ _ _ Tryz.underlying9 Tryz.underlying87 Tryz.underlying5
          clear hIe
          rw [hcb]
          simp only [Result.andThen]
          rw [Oper.upon_value]
          clear hcb
          go_wp2_with fail
          go_roundg 1
          case measure => omega
          case rel => exact ⟨1, by omega, by omega, by first | rfl | go_num, Below.setCell HBF.out (by exact HBB.out) _, ⟨_, _, HF.out, HTW.out.set_ B 34 _ (.inl rfl)⟩⟩
        · obtain ⟨N, c', hI, hN⟩ := hQ
          rw [show (2 * ((1 : Nat) : Int) - 2) = 0 from rfl]
          have rc := hI.cells 92 (by omega)
          have rl := hI.last
          have rfb := hI.fb
          have rft := hI.ft
          have rlb := hI.lb
          have rlt := hI.lt
          have rne := hI.ne
          rw [show rowF N c' 92 = .slice none 0 0 from rfl] at rc
          have xx : ((⟨#[92]⟩ : ByteArray)[0]'(by decide)).toNat = 92 := rfl
          have xi : (((⟨#[92]⟩ : ByteArray)[0]'(by decide)).toNat : Int) = 92 := rfl
          have hcv : ∀ W : World, (convert 87 9 (.slice (some ⟨W.heap.size, 0, none⟩) 1 1)).run Tryz.prog (W.alloc (.cells #[.int .u8 92] 5)) = .ok (.string ⟨#[92]⟩) (W.alloc (.cells #[.int .u8 92] 5)) := fun W => convB 92 W _
          have hbe2 : Below wr.heap.size wr ((wr.alloc (.cells #[.int .u8 92] 5)).alloc (.cells #[.string ⟨#[92]⟩] 9)) := (by repeat' (first | (with_reducible exact Below.refl _ _) | (with_reducible assumption) | (with_reducible refine Below.drew ?_) | (with_reducible refine below_drewN ?_ _) | (with_reducible refine below_iterAt ?_ ?_ _ _) | (with_reducible refine below_iter ?_ ?_ _ _) | (with_reducible refine Below.alloc ?_ ?_ _) | (with_reducible refine Below.setCell ?_ ?_ _) | (with_reducible refine Below.trans ?_ (Below.mono (by assumption) ?_)) | (simp only [sz_alloc, sz_set, sz_drew, sz_drewN, sz_iterAt, sz_iter] at *; omega) | omega | (simp; done) | (simp; omega) | (apply Below.size; assumption) | (simp only [sz_drew, sz_drewN]; apply Below.size; assumption) | (refine Nat.le_trans ?_ (Below.size (by assumption)))))
          have hI2 := hI.below hbe2
          have t1 : ((wr.alloc (.cells #[.int .u8 92] 5)).alloc (.cells #[.string ⟨#[92]⟩] 9)).cell? ⟨T, 1, none⟩ = _ := hI2.tc 1 (by omega)
          have t2 : ((wr.alloc (.cells #[.int .u8 92] 5)).alloc (.cells #[.string ⟨#[92]⟩] 9)).frozen? ⟨T, 1, none⟩ = false := hI2.ft 1
          have f1 : (((wr.alloc (.cells #[.int .u8 92] 5)).alloc (.cells #[.string ⟨#[92]⟩] 9)).setCell ⟨T, 1, none⟩ (.string ⟨#[92]⟩)).cell? ⟨B, 256, none⟩ = some (.slice (some ⟨T, 0, none⟩) 1 2) := (World.cell?_setCell_other _ _ _ _ (by intro e; exact rne (congrArg Addr.block e))).trans hI2.last
          have f2 : (((wr.alloc (.cells #[.int .u8 92] 5)).alloc (.cells #[.string ⟨#[92]⟩] 9)).setCell ⟨T, 1, none⟩ (.string ⟨#[92]⟩)).frozen? ⟨B, 256, none⟩ = false := (World.frozen?_setCell _ _ _ _).trans (hI2.fb 256)
          have hbv : Below w.heap.size w ((wr.setCell ⟨T, 1, none⟩ (.string ⟨#[92]⟩)).setCell ⟨B, 256, none⟩ (.slice (some ⟨T, 0, none⟩) 2 2)) := Below.setCell (Below.setCell hbel (by have := HT.out; exact Nat.le_of_eq this) _) (by have := HB.out; have := HT.out; show w.heap.size ≤ B; omega) _
          have hbd : Below w.heap.size w ((((wr.setCell ⟨T, 1, none⟩ (.string ⟨#[92]⟩)).setCell ⟨B, 256, none⟩ (.slice (some ⟨T, 0, none⟩) 2 2)).alloc (.cells #[.int .u8 92] 5)).alloc (.cells #[.string ⟨#[92]⟩] 9)) := (hbv.alloc hbv.size _).alloc (by rw [sz_alloc]; have := hbv.size; omega) _
          have hbm : Below ((wr.setCell ⟨T, 1, none⟩ (.string ⟨#[92]⟩)).setCell ⟨B, 256, none⟩ (.slice (some ⟨T, 0, none⟩) 2 2)).heap.size ((wr.setCell ⟨T, 1, none⟩ (.string ⟨#[92]⟩)).setCell ⟨B, 256, none⟩ (.slice (some ⟨T, 0, none⟩) 2 2)) ((((wr.setCell ⟨T, 1, none⟩ (.string ⟨#[92]⟩)).setCell ⟨B, 256, none⟩ (.slice (some ⟨T, 0, none⟩) 2 2)).alloc (.cells #[.int .u8 92] 5)).alloc (.cells #[.string ⟨#[92]⟩] 9)) := ((Below.refl _ _).alloc (Nat.le_refl _) _).alloc (by rw [sz_alloc]; omega) _
          have hID := (hI.more (by omega) ⟨#[92]⟩).below hbm
          have H_I := Lib.hid hI
          have HBD := Lib.hid hbd
          have HID := Lib.hid hID
          have HNB := Lib.hid ((((hN.set_ T 1 (.string ⟨#[92]⟩) (.inr rfl)).set_ B 256 (.slice (some ⟨T, 0, none⟩) 2 2) (.inl rfl))).below hbm)
          clear hI hI2 hbe2 hbd hbv hbm hID
          go_wp2_with fail
          clear H_I t1 t2 f1 f2 rc rl rfb rft
          generalize ((((wr.setCell ⟨T, 1, none⟩ (.string ⟨#[92]⟩)).setCell ⟨B, 256, none⟩ (.slice (some ⟨T, 0, none⟩) 2 2)).alloc (.cells #[.int .u8 92] 5)).alloc (.cells #[.string ⟨#[92]⟩] 9)) = U at *
          have hIe := HID.out.below (below_bytesW _ _ 5 ⟨#[92, 92]⟩ (Nat.le_refl _))
          have g1 : (bytesWorld U 5 ⟨#[92, 92]⟩).cell? ⟨B, 92, none⟩ = some (.slice none 0 0) := (hIe.cells 92 (by omega)).trans (by rfl)
          have g2 : (bytesWorld U 5 ⟨#[92, 92]⟩).frozen? ⟨B, 92, none⟩ = false := hIe.fb 92
          have HF := Lib.hid (hIe.row 92 (by omega) (.slice (some ⟨U.heap.size, 0, none⟩) 2 (grownCap U 2 0 5)))
          have HTW : Hid (TwoB (bytesWorld U 5 ⟨#[92, 92]⟩) B T w.heap.size U.heap.size 92 92) := Lib.hid (by
            have a1 := HID.out.lb
            have a2 := HID.out.lt
            refine ⟨HBD.out.size, by rw [bytesWorld_size]; omega, by omega, by omega, ?_, ?_⟩
            · rw [bytesWorld_cell _ _ _ 0 (by decide)]; rfl
            · rw [bytesWorld_cell _ _ _ 1 (by decide)]; rfl)
          have HNE := Lib.hid (HNB.out.below (below_bytesW _ U 5 ⟨#[92, 92]⟩ (Nat.le_refl _)))
          have HBF := Lib.hid (HBD.out.trans (below_bytesW _ U 5 ⟨#[92, 92]⟩ HBD.out.size))
          have HBB : Hid (w.heap.size ≤ B) := Lib.hid (by have := HB.out; have := HT.out; omega)
          have hcb : (convert 9 87 (.string ⟨#[92, 92]⟩)).run Tryz.prog U = .ok (.slice (some ⟨U.heap.size, 0, none⟩) 2 (grownCap U 2 0 5)) (bytesWorld U 5 ⟨#[92, 92]⟩) := Lib.run_convert_string_bytes U _ _ _ _ Tryz.underlying9 Tryz.underlying87 Tryz.underlying5
          clear hIe
          rw [hcb]
          simp only [Result.andThen]
          rw [Oper.upon_value]
          clear hcb
          go_wp2_with fail
          go_roundg 0
          case measure => omega
          case rel => exact ⟨0, by omega, by omega, by first | rfl | go_num, Below.setCell HBF.out (by exact HBB.out) _, ⟨_, _, _, _, HF.out, HNE.out.set_ B 92 _ (.inl rfl), HTW.out.set_ B 92 _ (.inl rfl)⟩⟩
        · obtain ⟨N, c', M, d, h1, h2, h3⟩ := hQ
          rw [show (2 * ((0 : Nat) : Int) - 2) = -2 from rfl]
          go_wp2_with fail
          go_ret
          exact ⟨B, rfl, ⟨⟨T, N, c', M, d, by have := HT.out; omega, by have := HB.out; have := HT.out; omega, h1, h2, h3⟩⟩, hbel⟩
end Go.Proofs.YthicilfhnakhmaaGreatDoor
