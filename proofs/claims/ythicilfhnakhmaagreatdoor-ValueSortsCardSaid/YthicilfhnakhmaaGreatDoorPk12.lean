import Derived.Test.YthicilfhnakhmaaGreatDoorPk11
import Derived.Test.YthicilfhnakhmaaGreatDoorPk05
/- (*strings.byteStringReplacer).Replace at the two signs, walked. -/
set_option linter.unusedSimpArgs false
set_option linter.unusedVariables false
namespace Go.Proofs.YthicilfhnakhmaaGreatDoor
open Go.RowKit Go.Sort Go.Lib

theorem rowG_at (N c M d : Nat) (x : UInt8) : rowG N c M d x.toNat = if x = 92 then .slice (some ⟨M, 0, none⟩) 2 d else if x = 34 then .slice (some ⟨N, 0, none⟩) 2 c else .slice none 0 0 := by
  unfold rowG rowF
  by_cases h1 : x = 92
  · subst h1; rfl
  · have : x.toNat ≠ 92 := fun h => h1 (UInt8.toNat_inj.1 h)
    rw [if_neg h1, if_neg this]
    by_cases h2 : x = 34
    · subst h2; rfl
    · have : x.toNat ≠ 34 := fun h => h2 (UInt8.toNat_inj.1 h)
      rw [if_neg h2, if_neg this]
theorem made_zero (n k : Nat) (h : k < n) : (madeCells #[.int .u8 0] n)[k]? = some (.int .u8 0) := by
  simp [madeCells, h, Nat.mod_one]

set_option maxRecDepth 100000 in
set_option maxHeartbeats 12800000 in
theorem bsr_any (L B : Nat) (s : ByteArray) (w : World) (hR : IsRpl w L B) (hs : s.size ≤ 1000) :
    Calls Tryz.prog 178 #[.pointer (some ⟨B, 0, none⟩), .string s] w fun e w' => e = .returned (.string ⟨(escL s.data.toList).toArray⟩) ∧ Below w.heap.size w w' := by
  obtain ⟨T, N, c, M, d, -, -, hI, hN, hM⟩ := hR.of
  obtain ⟨u0, uinf, uza, uzb, uzc⟩ := info_parts (show (Tryz.prog.info? 5).map (fun i => (i.zero, i.size, i.bytes)) = some (some (.int .u8 0), 1, 1) by kernel_rfl)
  obtain ⟨l, hl⟩ : ∃ l, s.data.toList = l := ⟨_, rfl⟩
  have hll : l.length = s.size := by rw [← hl]; rfl
  have hget : ∀ i (h : i < s.size) (h2 : i < l.length), l[i]'h2 = s[i]'h := by intro i h h2; subst hl; rfl
  have hcnt34 := fun W => Tryz.strings_Count_one s 34 W
  have hcnt92 := fun W => Tryz.strings_Count_one s 92 W
  rw [hl] at hcnt34 hcnt92 ⊢
  obtain ⟨k34, hk34⟩ : ∃ k, countByte l 34 = k := ⟨_, rfl⟩
  obtain ⟨k92, hk92⟩ : ∃ k, countByte l 92 = k := ⟨_, rfl⟩
  have hsp : spN l = k34 + k92 := by unfold spN; rw [hk34, hk92]
  have hb34 : k34 ≤ s.size := by rw [← hk34, ← hll]; exact List.count_le_length
  have hb92 : k92 ≤ s.size := by rw [← hk92, ← hll]; exact List.count_le_length
  have hE : (escL l).length = s.size + (k34 + k92) := by rw [escL_length, hsp, hll]
  obtain ⟨EB, hEB⟩ : ∃ EB : ByteArray, ⟨(escL l).toArray⟩ = EB := ⟨_, rfl⟩
  rw [hEB]
  have hE0 : k34 + k92 = 0 → s = EB := by
    intro h
    rw [← hEB, escL_none l (by rw [hsp]; exact h), ← hl]
  have qT : ∀ (W : World) (a : Option Addr) (n c n' c' : Nat), (binOp .neq 87 (.slice a n c) (.slice none n' c')).run Tryz.prog W = .ok (.bool (!a.isNone)) W := fun W a n c n' c' => run_neq_slice_nil_any W _ _ a n c n' c' Tryz.underlying87
  have hnot : ∀ (x : Bool) (w : World), (Op.unary .not (.bool x)).run Tryz.prog w = .ok (.bool (!x)) w := fun _ _ => rfl
  have r256 := hI.last
  have t0 : w.cell? ⟨T, 0, none⟩ = some (.string ⟨#[34]⟩) := hI.tc 0 (by omega)
  have t1 : w.cell? ⟨T, 1, none⟩ = some (.string ⟨#[92]⟩) := hI.tc 1 (by omega)
  have r34 : w.cell? ⟨B, 34, none⟩ = some (.slice (some ⟨N, 0, none⟩) 2 c) := hI.cells 34 (by omega)
  have r92 : w.cell? ⟨B, 92, none⟩ = some (.slice (some ⟨M, 0, none⟩) 2 d) := hI.cells 92 (by omega)
  have HK34 := Lib.hid hk34
  have HK92 := Lib.hid hk92
  have HSP := Lib.hid hsp
  have HE := Lib.hid hE
  have HE0 := Lib.hid hE0
  have HEB := Lib.hid hEB
  have HLL := Lib.hid hll
  have HGET := Lib.hid hget
  have HII := Lib.hid hI
  have HNN := Lib.hid hN
  have HMM := Lib.hid hM
  have HC34 := Lib.hid hcnt34
  have HC92 := Lib.hid hcnt92
  clear hk34 hk92 hsp hE hE0 hEB hll hget hI hN hM hl hR hcnt34 hcnt92
  by_cases h16 : 16 ≤ s.size
  · have h16' : (16 : Int) ≤ (s.size : Int) := by omega
    go_enter Tryz.func178, Tryz.ntmps178
    go_wp2_with fail
    go_loopg [5, 6, 32] 2 (fun k nv av xv wr => ∃ q : Nat, q ≤ 2 ∧ 2 - q ≤ k ∧ xv = .int .i64 (q : Int) ∧ (∃ z : Nat, (q = 0 → z = 0) ∧ (q = 1 → z = k34) ∧ (q = 2 → z = k34 + k92) ∧ nv = .int .i64 ((s.size + z : Nat) : Int) ∧ av = .bool (decide (0 < z))) ∧ Below w.heap.size w wr)
    case atStart => exact ⟨0, by omega, by omega, rfl, ⟨0, by omega, by omega, by omega, rfl, rfl⟩, Below.refl _ _⟩
    case round =>
      obtain ⟨q, hq, hqk, rfl, ⟨z, z0, z1, z2, rfl, rfl⟩, hbel⟩ := hrel
      have hIr := HII.out.below hbel
      have r256 := hIr.last
      have t0 : wr.cell? ⟨T, 0, none⟩ = some (.string ⟨#[34]⟩) := hIr.tc 0 (by omega)
      have t1 : wr.cell? ⟨T, 1, none⟩ = some (.string ⟨#[92]⟩) := hIr.tc 1 (by omega)
      have r34 : wr.cell? ⟨B, 34, none⟩ = some (.slice (some ⟨N, 0, none⟩) 2 c) := hIr.cells 34 (by omega)
      have r92 : wr.cell? ⟨B, 92, none⟩ = some (.slice (some ⟨M, 0, none⟩) 2 d) := hIr.cells 92 (by omega)
      have hsz := hbel.size
      clear hIr
      have hq3 : q = 0 ∨ q = 1 ∨ q = 2 := by omega
      rcases hq3 with rfl | rfl | rfl
      · have hz := z0 rfl
        rw [hz]
        clear hz z0 z1 z2
        have xx : ((⟨#[34]⟩ : ByteArray)[0]'(by decide)).toNat = 34 := rfl
        have xi : (((⟨#[34]⟩ : ByteArray)[0]'(by decide)).toNat : Int) = 34 := rfl
        go_wp2_with fail
        refine (HC34.out _).mono ?_
        rintro e w1 ⟨rfl, rfl⟩
        rw [HK34.out]
        by_cases hk : k34 = 0
        · have hk' : ((k34 : Int) != 0) = false := by rw [hk]; rfl
          go_wp2_with fail
          go_roundg (gk - 1)
          case measure => omega
          case rel => exact ⟨0 + 1, by omega, by omega, by first | rfl | go_num, ⟨0, by omega, by omega, by omega, rfl, rfl⟩, hbel⟩
        · have hk' : ((k34 : Int) != 0) = true := by rw [bne_iff_ne]; omega
          have hm1 : IntKind.i64.wrap (k34 : Int) = (k34 : Int) := IntWalk.i64_in _ (by omega)
          go_wp2_with fail
          go_region
          all_goals
            go_wp2_with fail
            go_roundg (gk - 1)
            case measure => omega
            case rel => exact ⟨0 + 1, by omega, by omega, by first | rfl | go_num, ⟨0 + k34, by omega, by omega, by omega, by first | rfl | go_num, by first | rfl | (congr 1; symm; exact decide_eq_true (by omega)) | (congr 1; exact decide_eq_true (by omega))⟩, by first | exact hbel | exact hbel.drew⟩
      · have hz := z1 rfl
        rw [hz]
        clear hz z0 z1 z2
        have xx : ((⟨#[92]⟩ : ByteArray)[0]'(by decide)).toNat = 92 := rfl
        have xi : (((⟨#[92]⟩ : ByteArray)[0]'(by decide)).toNat : Int) = 92 := rfl
        go_wp2_with fail
        refine (HC92.out _).mono ?_
        rintro e w1 ⟨rfl, rfl⟩
        rw [HK92.out]
        by_cases hk : k92 = 0
        · have hk' : ((k92 : Int) != 0) = false := by rw [hk]; rfl
          go_wp2_with fail
          go_roundg (gk - 1)
          case measure => omega
          case rel => exact ⟨1 + 1, by omega, by omega, by first | rfl | go_num, ⟨k34, by omega, by omega, by omega, rfl, rfl⟩, hbel⟩
        · have hk' : ((k92 : Int) != 0) = true := by rw [bne_iff_ne]; omega
          have hm1 : IntKind.i64.wrap (k92 : Int) = (k92 : Int) := IntWalk.i64_in _ (by omega)
          go_wp2_with fail
          go_region
          all_goals
            go_wp2_with fail
            go_roundg (gk - 1)
            case measure => omega
            case rel => exact ⟨1 + 1, by omega, by omega, by first | rfl | go_num, ⟨k34 + k92, by omega, by omega, by omega, by first | rfl | go_num, by first | rfl | (congr 1; symm; exact decide_eq_true (by omega)) | (congr 1; exact decide_eq_true (by omega))⟩, by first | exact hbel | exact hbel.drew⟩
      · have hz := z2 rfl
        rw [hz]
        clear hz z0 z1 z2
        have hw1 : IntKind.i64.wrap ((s.size + (k34 + k92) : Nat) : Int) = ((s.size + (k34 + k92) : Nat) : Int) := IntWalk.i64_in _ (by omega)
        obtain ⟨m, hm⟩ : ∃ m, k34 + k92 = m := ⟨_, rfl⟩
        rw [hm]
        have hm2 : m ≤ 2000 := by omega
        have HM2 := Lib.hid hm
        have HEL : Hid ((escL l).length = s.size + m) := Lib.hid (by rw [HE.out, hm])
        clear hm hw1 hb34 hb92
        by_cases h0 : m = 0
        · have hd : decide (0 < m) = false := decide_eq_false (by omega)
          rw [hd]
          have HSE := Lib.hid (HE0.out (by rw [HM2.out]; exact h0))
          clear h0 hd
          go_wp2_with fail
          go_ret
          exact ⟨by rw [← HSE.out]; rfl, hbel⟩
        · have hd : decide (0 < m) = true := decide_eq_true (by omega)
          rw [hd]
          obtain ⟨e, he⟩ : ∃ e, s.size + m = e := ⟨_, rfl⟩
          rw [he] at HEL ⊢
          have he2 : e ≤ 3000 := by omega
          have hmk : ∀ W, (Instr.makeSlice 87 (.int .i64 (e : Int)) (.int .i64 (e : Int))).run Tryz.prog W = .ok (.slice (some ⟨W.heap.size, 0, none⟩) e e) (W.alloc (.cells (madeCells #[.int .u8 0] e) 5)) := fun W => by
            have h := run_make (P := Tryz.prog) W 87 5 u0 (.int .u8 0) Tryz.underlying87 uinf uza .i64 .i64 (e : Int) (e : Int) (by omega) (Int.le_refl _) (by rw [uzc]; omega) (by omega)
            rw [uzb] at h
            have h2 : (Instr.makeSlice 87 (.int .i64 (e : Int)) (.int .i64 (e : Int))).run Tryz.prog W = .ok (.slice (some ⟨W.heap.size, 0, none⟩) e e) (W.alloc (.cells (madeCells (Value.int .u8 0).cells e) 5)) := by simpa using h
            exact h2
          have hbel2 : Below w.heap.size w (wr.alloc (.cells (madeCells #[.int .u8 0] e) 5)) := hbel.alloc hbel.size _
          have hfill : FillB (wr.alloc (.cells (madeCells #[.int .u8 0] e) 5)) wr.heap.size e (escL (l.take 0)) := ⟨by simp, fun o => World.frozen?_alloc_new _ _ _ _, Nat.zero_le _, fun k hk => ⟨0, by rw [World.cell?_alloc_new]; exact made_zero e k hk, fun h => absurd h (by simp [escL])⟩⟩
          have HB2 := Lib.hid hbel2
          have HFI := Lib.hid hfill
          clear h0 hd he hbel2 hfill
          go_wp2_with fail
          clear hmk
          obtain ⟨X, hX⟩ : ∃ X, wr.heap.size = X := ⟨_, rfl⟩
          rw [hX] at HFI ⊢
          have hXw : w.heap.size ≤ X := by omega
          have HX := Lib.hid hX
          clear hX hqk hq
          go_loopg [13, 14] s.size (fun k jv iv wq => ∃ i : Nat, i ≤ s.size ∧ s.size - i ≤ k ∧ iv = .int .i64 (i : Int) ∧ jv = .int .i64 (((escL (l.take i)).length : Nat) : Int) ∧ Hid (FillB wq X e (escL (l.take i))) ∧ Below w.heap.size w wq)
          case atStart => exact ⟨0, by omega, by omega, rfl, rfl, HFI, HB2.out⟩
          case round =>
            obtain ⟨i, hi, hik, rfl, rfl, HF, hbq⟩ := hrel
            have hIq := HII.out.below hbq
            clear t0 t1 r34 r92 r256 hbel
            have hsq := hbq.size
            obtain ⟨j, hj⟩ : ∃ j, (escL (l.take i)).length = j := ⟨_, rfl⟩
            have hje : j ≤ e := by rw [← hj]; exact HF.out.le
            by_cases hlt : i < s.size
            · have hlt' : (i : Int) < (s.size : Int) := by omega
              have hil : i < l.length := by rw [HLL.out]; exact hlt
              have hgx := HGET.out i hlt hil
              have hst := escL_take l i hil
              have hle : (escL (l.take (i + 1))).length ≤ e := by
                have h1 := escL_length (l.take (i + 1))
                have h2 := escL_append (l.take (i + 1)) (l.drop (i + 1))
                rw [List.take_append_drop] at h2
                have h3 := congrArg List.length h2
                rw [List.length_append, HEL.out] at h3
                omega
              rw [hgx] at hst
              obtain ⟨x, hx⟩ : ∃ x, s[i]'hlt = x := ⟨_, rfl⟩
              rw [hx] at hst
              have hcx := hIq.cells x.toNat x.toNat_lt
              rw [rowG_at] at hcx
              have hx256 : (x.toNat : Int) < 256 := by have := x.toNat_lt; omega
              have hx256n : x.toNat < 256 := x.toNat_lt
              by_cases hsp : x = 34 ∨ x = 92
              · rw [if_pos hsp] at hst
                rw [hst, List.length_append, hj] at hle
                simp only [List.length_cons, List.length_nil] at hle
                obtain ⟨P, pc, hcell, hP⟩ : ∃ P pc, wr.cell? ⟨B, x.toNat, none⟩ = some (.slice (some ⟨P, 0, none⟩) 2 pc) ∧ TwoB wr B T L P 92 (x.toNat : Int) := by
                  rcases hsp with rfl | rfl
                  · exact ⟨N, c, by rw [hcx]; rfl, HNN.out.below hbq⟩
                  · exact ⟨M, d, by rw [hcx]; rfl, HMM.out.below hbq⟩
                have hcp : (Builtin.copy_ #[87, 87] 3 #[.slice (some ⟨X, j, none⟩) (e - j) (e - j), .slice (some ⟨P, 0, none⟩) 2 pc]).run Tryz.prog wr.drew = .ok (.int .i64 2) (wr.drew.setCells X j [.int .u8 92, .int .u8 (x.toNat : Int)]) := by
                  have hmin : Nat.min 2 (e - j) = 2 := Nat.min_eq_left (by omega)
                  have h := run_copy_cells (P := Tryz.prog) wr.drew 87 87 3 5 X j (e - j) (e - j) ⟨P, 0, none⟩ 2 pc [.int .u8 92, .int .u8 (x.toNat : Int)] Tryz.underlying87 (by kernel_rfl) (by rw [hmin]; rfl) (fun k v hk => by
                    match k, hk with
                    | 0, hk => simp at hk; subst hk; exact hP.c0
                    | 1, hk => simp at hk; subst hk; exact hP.c1) (fun k hk => by
                    obtain ⟨y, hy, _⟩ := HF.out.cells (j + k) (by simp at hk; omega)
                    show (wr.cell? ⟨X, j + k, none⟩).isSome = true
                    rw [hy]; rfl) (fun k hk => HF.out.fz _) (by intro v hv; simp at hv; rcases hv with rfl | rfl <;> rfl)
                  exact h
                have hj0 : (0 : Int) ≤ (j : Int) := by omega
                have hj1 : (j : Int) ≤ (e : Int) := by omega
                have hj2 : ¬ (e : Int) < (j : Int) := by omega
                have hj3 : IntKind.i64.wrap ((j : Int) + 2) = (j : Int) + 2 := IntWalk.i64_in _ (by omega)
                have hj4 : j ≤ e := hje
                have hj5 : ¬ e = j := by omega
                have HFN : Hid (FillB (wr.drew.setCells X j [.int .u8 92, .int .u8 (x.toNat : Int)]) X e (escL (l.take (i + 1)))) := Lib.hid (by
                  have h1 := (HF.out.drew).put 92 (by rw [hj]; omega)
                  have h2 := h1.put x (by rw [List.length_append, hj]; simp; omega)
                  rw [hst]
                  rw [List.append_assoc, List.length_append, hj] at h2
                  exact h2)
                have HLN : Hid ((escL (l.take (i + 1))).length = j + 2) := Lib.hid (by rw [hst, List.length_append, hj]; rfl)
                have HBN : Hid (RowKit.Below w.heap.size w (wr.drew.setCells X j [.int .u8 92, .int .u8 (x.toNat : Int)])) := Lib.hid (Below.setCell (Below.setCell hbq.drew (by exact hXw) _) (by exact hXw) _)
                rw [hj]
                clear hst hle hcx hIq hP hsp hj HF
                go_wp2_with fail
                go_region
                all_goals
                  go_wp2_with fail
                  go_roundg (gk - 1)
                  case measure => omega
                  case rel => exact ⟨i + 1, by omega, by omega, by first | rfl | go_num, by rw [HLN.out]; first | rfl | go_num, HFN, HBN.out⟩
              · rw [if_neg hsp] at hst
                rw [hst, List.length_append, hj] at hle
                simp only [List.length_cons, List.length_nil] at hle
                have hcell : wr.cell? ⟨B, x.toNat, none⟩ = some (.slice none 0 0) := by rw [hcx, if_neg (fun h => hsp (.inr h)), if_neg (fun h => hsp (.inl h))]
                obtain ⟨y, hy, _⟩ := HF.out.cells j (by omega)
                have hfz := HF.out.fz j
                have hj0 : (0 : Int) ≤ (j : Int) := by omega
                have hj1 : (j : Int) < (e : Int) := by omega
                have hj3 : IntKind.i64.wrap ((j : Int) + 1) = (j : Int) + 1 := IntWalk.i64_in _ (by omega)
                have HFN : Hid (FillB (wr.setCell ⟨X, j, none⟩ (.int .u8 (x.toNat : Int))) X e (escL (l.take (i + 1)))) := Lib.hid (by
                  have h1 := HF.out.put x (by rw [hj]; omega)
                  rw [hst]
                  rw [hj] at h1
                  exact h1)
                have HLN : Hid ((escL (l.take (i + 1))).length = j + 1) := Lib.hid (by rw [hst, List.length_append, hj]; rfl)
                have HBN : Hid (Below w.heap.size w (wr.setCell ⟨X, j, none⟩ (.int .u8 (x.toNat : Int)))) := Lib.hid (Below.setCell hbq (by exact hXw) _)
                rw [hj]
                clear hst hle hcx hIq hsp hj HF
                go_wp2_with fail
                go_roundg (gk - 1)
                case measure => omega
                case rel => exact ⟨i + 1, by omega, by omega, by first | rfl | go_num, by rw [HLN.out]; first | rfl | go_num, HFN, HBN.out⟩
            · have hlt' : ¬ (i : Int) < (s.size : Int) := by omega
              have htk : l.take i = l := List.take_of_length_le (by rw [HLL.out]; omega)
              have hcv : (convert 87 9 (.slice (some ⟨X, 0, none⟩) e e)).run Tryz.prog wr = .ok (.string EB) wr := by
                have hF := HF.out
                rw [htk] at hF
                have h := run_convert_bytes_back (P := Tryz.prog) wr 87 9 5 ⟨X, 0, none⟩ e (escL l) (by kernel_rfl) (by kernel_rfl) (by kernel_rfl) (fun k hk => by
                  obtain ⟨y, hy, he⟩ := hF.cells k (by rw [← HEL.out]; exact hk)
                  rw [add_plain, Nat.zero_add, hy, he hk])
                rw [HEL.out] at h
                rw [h, HEB.out]
              clear htk hj HF hIq
              go_wp2_with fail
              go_ret
              exact ⟨rfl, hbq⟩
  · have h16' : ¬ (16 : Int) ≤ (s.size : Int) := by omega
    go_enter Tryz.func178, Tryz.ntmps178
    go_wp2_with fail
    go_loopg [5, 6, 10] s.size (fun k nv av iv wr => ∃ i z : Nat, i ≤ s.size ∧ s.size - i ≤ k ∧ iv = .int .i64 (i : Int) ∧ Hid (z = spN (l.take i)) ∧ z ≤ i ∧ nv = .int .i64 ((s.size + z : Nat) : Int) ∧ av = .bool (decide (0 < z)) ∧ RowKit.Below w.heap.size w wr)
    case atStart => exact ⟨0, 0, by omega, by omega, rfl, rfl, by omega, rfl, rfl, Below.refl _ _⟩
    case round =>
      obtain ⟨i, z, hi, hik, rfl, HZ, hzi, rfl, rfl, hbel⟩ := hrel
      have hIr := HII.out.below hbel
      have r256 := hIr.last
      have t0 : wr.cell? ⟨T, 0, none⟩ = some (.string ⟨#[34]⟩) := hIr.tc 0 (by omega)
      have t1 : wr.cell? ⟨T, 1, none⟩ = some (.string ⟨#[92]⟩) := hIr.tc 1 (by omega)
      have r34 : wr.cell? ⟨B, 34, none⟩ = some (.slice (some ⟨N, 0, none⟩) 2 c) := hIr.cells 34 (by omega)
      have r92 : wr.cell? ⟨B, 92, none⟩ = some (.slice (some ⟨M, 0, none⟩) 2 d) := hIr.cells 92 (by omega)
      have hsz := hbel.size
      clear hIr
      by_cases hlt : i < s.size
      · have hlt' : (i : Int) < (s.size : Int) := by omega
        have hil : i < l.length := by rw [HLL.out]; exact hlt
        have hgx := HGET.out i hlt hil
        have hst := spN_take l i hil
        rw [hgx] at hst
        obtain ⟨x, hx⟩ : ∃ x, s[i]'hlt = x := ⟨_, rfl⟩
        rw [hx] at hst
        have hcx := (HII.out.below hbel).cells x.toNat x.toNat_lt
        rw [rowG_at] at hcx
        have hx256 : (x.toNat : Int) < 256 := by have := x.toNat_lt; omega
        have hx256n : x.toNat < 256 := x.toNat_lt
        by_cases hsp : x = 34 ∨ x = 92
        · rw [if_pos hsp] at hst
          obtain ⟨P, pc, hcell⟩ : ∃ P pc, wr.cell? ⟨B, x.toNat, none⟩ = some (.slice (some ⟨P, 0, none⟩) 2 pc) := by
            rcases hsp with rfl | rfl
            · exact ⟨N, c, by rw [hcx]; rfl⟩
            · exact ⟨M, d, by rw [hcx]; rfl⟩
          have HST : Hid (z + 1 = spN (l.take (i + 1))) := Lib.hid (by rw [hst, ← HZ.out])
          have hw2 : IntKind.i64.wrap (((s.size + z : Nat) : Int) + 1) = ((s.size + z : Nat) : Int) + 1 := IntWalk.i64_in _ (by omega)
          clear hst hcx hsp HZ t0 t1 r34 r92
          go_wp2_with fail
          go_roundg (gk - 1)
          case measure => omega
          case rel => exact ⟨i + 1, z + 1, by omega, by omega, by first | rfl | go_num, HST, by omega, by first | rfl | go_num, by first | rfl | (congr 1; symm; exact decide_eq_true (by omega)) | (congr 1; exact decide_eq_true (by omega)), hbel⟩
        · rw [if_neg hsp] at hst
          have hcell : wr.cell? ⟨B, x.toNat, none⟩ = some (.slice none 0 0) := by rw [hcx, if_neg (fun h => hsp (.inr h)), if_neg (fun h => hsp (.inl h))]
          have HST : Hid (z = spN (l.take (i + 1))) := Lib.hid (by rw [hst, ← HZ.out]; rfl)
          clear hst hcx hsp HZ t0 t1 r34 r92
          go_wp2_with fail
          go_roundg (gk - 1)
          case measure => omega
          case rel => exact ⟨i + 1, z, by omega, by omega, by first | rfl | go_num, HST, by omega, rfl, rfl, hbel⟩
      · have hz : z = k34 + k92 := by
          rw [HZ.out, List.take_of_length_le (by rw [HLL.out]; omega), HSP.out]
        rw [hz]
        have hlt' : ¬ (i : Int) < (s.size : Int) := by omega
        obtain ⟨q, hq, hqk⟩ : ∃ q : Nat, q ≤ 2 ∧ q ≤ 2 := ⟨0, by omega, by omega⟩
        clear hz HZ hzi
        have hw1 : IntKind.i64.wrap ((s.size + (k34 + k92) : Nat) : Int) = ((s.size + (k34 + k92) : Nat) : Int) := IntWalk.i64_in _ (by omega)
        obtain ⟨m, hm⟩ : ∃ m, k34 + k92 = m := ⟨_, rfl⟩
        rw [hm]
        have hm2 : m ≤ 2000 := by omega
        have HM2 := Lib.hid hm
        have HEL : Hid ((escL l).length = s.size + m) := Lib.hid (by rw [HE.out, hm])
        clear hm hw1 hb34 hb92
        by_cases h0 : m = 0
        · have hd : decide (0 < m) = false := decide_eq_false (by omega)
          rw [hd]
          have HSE := Lib.hid (HE0.out (by rw [HM2.out]; exact h0))
          clear h0 hd
          go_wp2_with fail
          go_ret
          exact ⟨by rw [← HSE.out]; rfl, hbel⟩
        · have hd : decide (0 < m) = true := decide_eq_true (by omega)
          rw [hd]
          obtain ⟨e, he⟩ : ∃ e, s.size + m = e := ⟨_, rfl⟩
          rw [he] at HEL ⊢
          have he2 : e ≤ 3000 := by omega
          have hmk : ∀ W, (Instr.makeSlice 87 (.int .i64 (e : Int)) (.int .i64 (e : Int))).run Tryz.prog W = .ok (.slice (some ⟨W.heap.size, 0, none⟩) e e) (W.alloc (.cells (madeCells #[.int .u8 0] e) 5)) := fun W => by
            have h := run_make (P := Tryz.prog) W 87 5 u0 (.int .u8 0) Tryz.underlying87 uinf uza .i64 .i64 (e : Int) (e : Int) (by omega) (Int.le_refl _) (by rw [uzc]; omega) (by omega)
            rw [uzb] at h
            have h2 : (Instr.makeSlice 87 (.int .i64 (e : Int)) (.int .i64 (e : Int))).run Tryz.prog W = .ok (.slice (some ⟨W.heap.size, 0, none⟩) e e) (W.alloc (.cells (madeCells (Value.int .u8 0).cells e) 5)) := by simpa using h
            exact h2
          have hbel2 : Below w.heap.size w (wr.alloc (.cells (madeCells #[.int .u8 0] e) 5)) := hbel.alloc hbel.size _
          have hfill : FillB (wr.alloc (.cells (madeCells #[.int .u8 0] e) 5)) wr.heap.size e (escL (l.take 0)) := ⟨by simp, fun o => World.frozen?_alloc_new _ _ _ _, Nat.zero_le _, fun k hk => ⟨0, by rw [World.cell?_alloc_new]; exact made_zero e k hk, fun h => absurd h (by simp [escL])⟩⟩
          have HB2 := Lib.hid hbel2
          have HFI := Lib.hid hfill
          clear h0 hd he hbel2 hfill
          go_wp2_with fail
          clear hmk
          obtain ⟨X, hX⟩ : ∃ X, wr.heap.size = X := ⟨_, rfl⟩
          rw [hX] at HFI ⊢
          have hXw : w.heap.size ≤ X := by omega
          have HX := Lib.hid hX
          clear hX hqk hq
          go_loopg [13, 14] s.size (fun k jv iv wq => ∃ i : Nat, i ≤ s.size ∧ s.size - i ≤ k ∧ iv = .int .i64 (i : Int) ∧ jv = .int .i64 (((escL (l.take i)).length : Nat) : Int) ∧ Hid (FillB wq X e (escL (l.take i))) ∧ Below w.heap.size w wq)
          case atStart => exact ⟨0, by omega, by omega, rfl, rfl, HFI, HB2.out⟩
          case round =>
            obtain ⟨i, hi, hik, rfl, rfl, HF, hbq⟩ := hrel
            have hIq := HII.out.below hbq
            clear t0 t1 r34 r92 r256 hbel
            have hsq := hbq.size
            obtain ⟨j, hj⟩ : ∃ j, (escL (l.take i)).length = j := ⟨_, rfl⟩
            have hje : j ≤ e := by rw [← hj]; exact HF.out.le
            by_cases hlt : i < s.size
            · have hlt' : (i : Int) < (s.size : Int) := by omega
              have hil : i < l.length := by rw [HLL.out]; exact hlt
              have hgx := HGET.out i hlt hil
              have hst := escL_take l i hil
              have hle : (escL (l.take (i + 1))).length ≤ e := by
                have h1 := escL_length (l.take (i + 1))
                have h2 := escL_append (l.take (i + 1)) (l.drop (i + 1))
                rw [List.take_append_drop] at h2
                have h3 := congrArg List.length h2
                rw [List.length_append, HEL.out] at h3
                omega
              rw [hgx] at hst
              obtain ⟨x, hx⟩ : ∃ x, s[i]'hlt = x := ⟨_, rfl⟩
              rw [hx] at hst
              have hcx := hIq.cells x.toNat x.toNat_lt
              rw [rowG_at] at hcx
              have hx256 : (x.toNat : Int) < 256 := by have := x.toNat_lt; omega
              have hx256n : x.toNat < 256 := x.toNat_lt
              by_cases hsp : x = 34 ∨ x = 92
              · rw [if_pos hsp] at hst
                rw [hst, List.length_append, hj] at hle
                simp only [List.length_cons, List.length_nil] at hle
                obtain ⟨P, pc, hcell, hP⟩ : ∃ P pc, wr.cell? ⟨B, x.toNat, none⟩ = some (.slice (some ⟨P, 0, none⟩) 2 pc) ∧ TwoB wr B T L P 92 (x.toNat : Int) := by
                  rcases hsp with rfl | rfl
                  · exact ⟨N, c, by rw [hcx]; rfl, HNN.out.below hbq⟩
                  · exact ⟨M, d, by rw [hcx]; rfl, HMM.out.below hbq⟩
                have hcp : (Builtin.copy_ #[87, 87] 3 #[.slice (some ⟨X, j, none⟩) (e - j) (e - j), .slice (some ⟨P, 0, none⟩) 2 pc]).run Tryz.prog wr.drew = .ok (.int .i64 2) (wr.drew.setCells X j [.int .u8 92, .int .u8 (x.toNat : Int)]) := by
                  have hmin : Nat.min 2 (e - j) = 2 := Nat.min_eq_left (by omega)
                  have h := run_copy_cells (P := Tryz.prog) wr.drew 87 87 3 5 X j (e - j) (e - j) ⟨P, 0, none⟩ 2 pc [.int .u8 92, .int .u8 (x.toNat : Int)] Tryz.underlying87 (by kernel_rfl) (by rw [hmin]; rfl) (fun k v hk => by
                    match k, hk with
                    | 0, hk => simp at hk; subst hk; exact hP.c0
                    | 1, hk => simp at hk; subst hk; exact hP.c1) (fun k hk => by
                    obtain ⟨y, hy, _⟩ := HF.out.cells (j + k) (by simp at hk; omega)
                    show (wr.cell? ⟨X, j + k, none⟩).isSome = true
                    rw [hy]; rfl) (fun k hk => HF.out.fz _) (by intro v hv; simp at hv; rcases hv with rfl | rfl <;> rfl)
                  exact h
                have hj0 : (0 : Int) ≤ (j : Int) := by omega
                have hj1 : (j : Int) ≤ (e : Int) := by omega
                have hj2 : ¬ (e : Int) < (j : Int) := by omega
                have hj3 : IntKind.i64.wrap ((j : Int) + 2) = (j : Int) + 2 := IntWalk.i64_in _ (by omega)
                have hj4 : j ≤ e := hje
                have hj5 : ¬ e = j := by omega
                have HFN : Hid (FillB (wr.drew.setCells X j [.int .u8 92, .int .u8 (x.toNat : Int)]) X e (escL (l.take (i + 1)))) := Lib.hid (by
                  have h1 := (HF.out.drew).put 92 (by rw [hj]; omega)
                  have h2 := h1.put x (by rw [List.length_append, hj]; simp; omega)
                  rw [hst]
                  rw [List.append_assoc, List.length_append, hj] at h2
                  exact h2)
                have HLN : Hid ((escL (l.take (i + 1))).length = j + 2) := Lib.hid (by rw [hst, List.length_append, hj]; rfl)
                have HBN : Hid (RowKit.Below w.heap.size w (wr.drew.setCells X j [.int .u8 92, .int .u8 (x.toNat : Int)])) := Lib.hid (Below.setCell (Below.setCell hbq.drew (by exact hXw) _) (by exact hXw) _)
                rw [hj]
                clear hst hle hcx hIq hP hsp hj HF
                go_wp2_with fail
                go_region
                all_goals
                  go_wp2_with fail
                  go_roundg (gk - 1)
                  case measure => omega
                  case rel => exact ⟨i + 1, by omega, by omega, by first | rfl | go_num, by rw [HLN.out]; first | rfl | go_num, HFN, HBN.out⟩
              · rw [if_neg hsp] at hst
                rw [hst, List.length_append, hj] at hle
                simp only [List.length_cons, List.length_nil] at hle
                have hcell : wr.cell? ⟨B, x.toNat, none⟩ = some (.slice none 0 0) := by rw [hcx, if_neg (fun h => hsp (.inr h)), if_neg (fun h => hsp (.inl h))]
                obtain ⟨y, hy, _⟩ := HF.out.cells j (by omega)
                have hfz := HF.out.fz j
                have hj0 : (0 : Int) ≤ (j : Int) := by omega
                have hj1 : (j : Int) < (e : Int) := by omega
                have hj3 : IntKind.i64.wrap ((j : Int) + 1) = (j : Int) + 1 := IntWalk.i64_in _ (by omega)
                have HFN : Hid (FillB (wr.setCell ⟨X, j, none⟩ (.int .u8 (x.toNat : Int))) X e (escL (l.take (i + 1)))) := Lib.hid (by
                  have h1 := HF.out.put x (by rw [hj]; omega)
                  rw [hst]
                  rw [hj] at h1
                  exact h1)
                have HLN : Hid ((escL (l.take (i + 1))).length = j + 1) := Lib.hid (by rw [hst, List.length_append, hj]; rfl)
                have HBN : Hid (Below w.heap.size w (wr.setCell ⟨X, j, none⟩ (.int .u8 (x.toNat : Int)))) := Lib.hid (Below.setCell hbq (by exact hXw) _)
                rw [hj]
                clear hst hle hcx hIq hsp hj HF
                go_wp2_with fail
                go_roundg (gk - 1)
                case measure => omega
                case rel => exact ⟨i + 1, by omega, by omega, by first | rfl | go_num, by rw [HLN.out]; first | rfl | go_num, HFN, HBN.out⟩
            · have hlt' : ¬ (i : Int) < (s.size : Int) := by omega
              have htk : l.take i = l := List.take_of_length_le (by rw [HLL.out]; omega)
              have hcv : (convert 87 9 (.slice (some ⟨X, 0, none⟩) e e)).run Tryz.prog wr = .ok (.string EB) wr := by
                have hF := HF.out
                rw [htk] at hF
                have h := run_convert_bytes_back (P := Tryz.prog) wr 87 9 5 ⟨X, 0, none⟩ e (escL l) (by kernel_rfl) (by kernel_rfl) (by kernel_rfl) (fun k hk => by
                  obtain ⟨y, hy, he⟩ := hF.cells k (by rw [← HEL.out]; exact hk)
                  rw [add_plain, Nat.zero_add, hy, he hk])
                rw [HEL.out] at h
                rw [h, HEB.out]
              clear htk hj HF hIq
              go_wp2_with fail
              go_ret
              exact ⟨rfl, hbq⟩
end Go.Proofs.YthicilfhnakhmaaGreatDoor

/- strings.NewReplacer at the two signs, (*strings.Replacer).Replace: walked. -/
set_option linter.unusedSimpArgs false
set_option linter.unusedVariables false
namespace Go.Proofs.YthicilfhnakhmaaGreatDoor
open Go.RowKit Go.Sort Go.Lib

/-- a replacer of the two signs that is not built yet -/
structure NewRpl (w : World) (b : Nat) : Prop where
  of : ∃ o c, b < w.heap.size ∧ o < w.heap.size ∧ o ≠ b ∧ w.cell? ⟨b, 0, none⟩ = some (.int .u32 0) ∧ w.cell? ⟨b, 1, none⟩ = some (.int .i32 0) ∧ w.cell? ⟨b, 3, none⟩ = some .nilIface ∧
    w.cell? ⟨b, 4, none⟩ = some (.slice (some ⟨o, 0, none⟩) 4 c) ∧ (∀ j, w.frozen? ⟨b, j, none⟩ = false) ∧
    w.cell? ⟨o, 0, none⟩ = some (.string ⟨#[92]⟩) ∧ w.cell? ⟨o, 1, none⟩ = some (.string ⟨#[92, 92]⟩) ∧ w.cell? ⟨o, 2, none⟩ = some (.string ⟨#[34]⟩) ∧ w.cell? ⟨o, 3, none⟩ = some (.string ⟨#[92, 34]⟩)
theorem NewRpl.below {w w' : World} {b : Nat} (h : NewRpl w b) (hb : RowKit.Below w.heap.size w w') : NewRpl w' b := by
  obtain ⟨o, c, h1, h2, h3, a0, a1, a3, a4, fz, b0, b1, b2, b3⟩ := h.of
  have hs := hb.size
  exact ⟨⟨o, c, by omega, by omega, h3, (hb.cell (p := ⟨b, 0, none⟩) h1).trans a0, (hb.cell (p := ⟨b, 1, none⟩) h1).trans a1, (hb.cell (p := ⟨b, 3, none⟩) h1).trans a3, (hb.cell (p := ⟨b, 4, none⟩) h1).trans a4, fun j => (hb.frozen (p := ⟨b, j, none⟩) h1).trans (fz j),
    (hb.cell (p := ⟨o, 0, none⟩) h2).trans b0, (hb.cell (p := ⟨o, 1, none⟩) h2).trans b1, (hb.cell (p := ⟨o, 2, none⟩) h2).trans b2, (hb.cell (p := ⟨o, 3, none⟩) h2).trans b3⟩⟩

set_option maxRecDepth 100000 in
set_option maxHeartbeats 3200000 in
theorem rplReplace_any (b : Nat) (s : ByteArray) (w : World) (h : NewRpl w b) (hs : s.size ≤ 1000) :
    Calls Tryz.prog 24 #[.pointer (some ⟨b, 0, none⟩), .string s] w fun e w' => e = .returned (.string ⟨(escL s.data.toList).toArray⟩) ∧ RowKit.Below b w w' := by
  obtain ⟨o, c, h1, h2, h3, a0, a1, a3, a4, fz, b0, b1, b2, b3⟩ := h.of
  have hmf : ∀ (fn : Fn) (first cap : Array Value) (w : World), (Instr.makeFunc fn first cap).run Tryz.prog w = .ok (.func fn first cap) w := fun _ _ _ _ => rfl
  have HDO := Lib.hid (onceDo_any b o c .nilIface w h1 h2 h3 a0 a1 a3 a4 fz b0 b1 b2 b3)
  obtain ⟨R, hR⟩ : ∃ R : ByteArray, ⟨(escL s.data.toList).toArray⟩ = R := ⟨_, rfl⟩
  rw [hR]
  have HR := Lib.hid hR
  clear hR
  go_enter Tryz.func24, Tryz.ntmps24
  go_wp2_with fail
  refine HDO.out.mono ?_
  rintro e w1 ⟨rfl, B, hc3, hRp, hb1⟩
  go_wp2_with fail
  refine (bsr_any _ B s _ hRp hs).mono ?_
  rintro e w2 ⟨rfl, hb2⟩
  rw [HR.out]
  go_wp2_with fail
  go_ret
  exact ⟨rfl, hb1.trans (hb2.mono (by have := hb1.size; omega))⟩

set_option maxRecDepth 100000 in
set_option maxHeartbeats 3200000 in
theorem newRpl_any (a : Nat) (w : World) (ha : a < w.heap.size)
    (b0 : w.cell? ⟨a, 0, none⟩ = some (.string ⟨#[92]⟩)) (b1 : w.cell? ⟨a, 1, none⟩ = some (.string ⟨#[92, 92]⟩)) (b2 : w.cell? ⟨a, 2, none⟩ = some (.string ⟨#[34]⟩)) (b3 : w.cell? ⟨a, 3, none⟩ = some (.string ⟨#[92, 34]⟩)) :
    Calls Tryz.prog 23 #[.slice (some ⟨a, 0, none⟩) 4 4] w fun e w' => ∃ b, e = .returned (.pointer (some ⟨b, 0, none⟩)) ∧ w.heap.size ≤ b ∧ NewRpl w' b ∧ RowKit.Below w.heap.size w w' := by
  obtain ⟨s0, sinf, sza, szb, szc⟩ := info_parts (show (Tryz.prog.info? 9).map (fun i => (i.zero, i.size, i.bytes)) = some (some (.string ⟨#[]⟩), 1, 16) by kernel_rfl)
  go_enter Tryz.func23, Tryz.ntmps23
  go_wp2_with (first
    | (at_builtin; refine wpList_append_own _ rfl _ _ 48 rfl w.heap.size 9 s0 (.string ⟨#[]⟩) 1 16 Tryz.underlying48 sinf sza szb szc rfl (by decide) _ 0 [] rfl (⟨rfl, Or.inl ⟨rfl, rfl⟩⟩) ⟨a, 0, none⟩ 4 4 [.string ⟨#[92]⟩, .string ⟨#[92, 92]⟩, .string ⟨#[34]⟩, .string ⟨#[92, 34]⟩] rfl rfl ?c1 ?c2 ?c3 ?c4 ?c5 ?_)
    | fail)
  case c1 =>
    intro i u' hu
    match i, hu with
    | 0, hu => simp at hu; subst hu; simpa [Addr.add] using b0
    | 1, hu => simp at hu; subst hu; simpa [Addr.add] using b1
    | 2, hu => simp at hu; subst hu; simpa [Addr.add] using b2
    | 3, hu => simp at hu; subst hu; simpa [Addr.add] using b3
  case c2 => intro u' hu; simp at hu; rcases hu with rfl | rfl | rfl | rfl <;> rfl
  case c3 => unfold maxLen; omega
  case c4 => omega
  case c5 => simp
  · intro v' w5 hown hgrow _
    have hb5 : RowKit.Below w.heap.size w w5 := (Below.refl _ _).grown hgrow (by simp) (fun g hg => by cases hg)
    obtain ⟨hl, hr⟩ := hown
    rcases hr with ⟨rfl, hr⟩ | ⟨g, cap, cur, rfl, q1, q2, q3, q4, q5, q6⟩
    · simp at hr
    · have hk : ∀ (k : Nat) (v : Value), [Value.string ⟨#[92]⟩, Value.string ⟨#[92, 92]⟩, Value.string ⟨#[34]⟩, Value.string ⟨#[92, 34]⟩][k]? = some v → w5.cell? ⟨g, k, none⟩ = some v := by
        intro k v hv
        rw [cell_of_block q2, ← Array.getElem?_toList]
        rw [← q6, List.getElem?_take] at hv
        split at hv
        · exact hv
        · cases hv
      have g0 := hk 0 _ rfl
      have g1 := hk 1 _ rfl
      have g2 := hk 2 _ rfl
      have g3 := hk 3 _ rfl
      have hgl : g < w5.heap.size := by
        rcases Nat.lt_or_ge g w5.heap.size with h | h
        · exact h
        · rw [Array.getElem?_eq_none h] at q2; cases q2
      have hs5 := hb5.size
      have HNR : Hid (NewRpl (w5.alloc (.cells #[.int .u32 0, .int .i32 0, .int .u32 0, .nilIface, .slice (some ⟨g, 0, none⟩) 4 cap] 81)) w5.heap.size) := Lib.hid (by
        refine ⟨⟨g, cap, by simp, by simp; omega, by omega, ?_, ?_, ?_, ?_, fun j => World.frozen?_alloc_new _ _ _ _, ?_, ?_, ?_, ?_⟩⟩
        · rw [World.cell?_alloc_new]; rfl
        · rw [World.cell?_alloc_new]; rfl
        · rw [World.cell?_alloc_new]; rfl
        · rw [World.cell?_alloc_new]; rfl
        · rw [World.cell?_alloc_past _ _ _ hgl]; exact g0
        · rw [World.cell?_alloc_past _ _ _ hgl]; exact g1
        · rw [World.cell?_alloc_past _ _ _ hgl]; exact g2
        · rw [World.cell?_alloc_past _ _ _ hgl]; exact g3)
      have HB5 := Lib.hid hb5
      clear hk g0 g1 g2 g3 q2 q3 q4 q5 q6 hb5
      go_wp2_with fail
      go_ret
      exact ⟨_, rfl, hs5, HNR.out, HB5.out.alloc hs5 _⟩
end Go.Proofs.YthicilfhnakhmaaGreatDoor
