/- Same and One, of entries and of the same ones. -/
import Derived.Test.YtigjfnleinhahaaOwn
import Derived.Test.YtigjfnleinhahaaPLogx2
import Derived.Test.YtigjfnleinhahaaRegB
import Derived.Test.YtigjfnleinhahaaReg2

import Derived.StillTailTactics
namespace Go.Proofs.Ytigjfnleinhahaa.PLog
open Go.RowKit Go.Proofs.YtigjfnleinhahaaW.PrintWords Go.Proofs.YtigjfnleinhahaaW.PrintLast Go.Proofs.YtigjfnleinhahaaW.PrintMore
open Go.Proofs.Ytigjfnleinhahaa.Reg
set_option linter.unusedVariables false
set_option linter.unusedSimpArgs false
set_option maxHeartbeats 4000000
set_option maxRecDepth 100000
theorem number_loop (v : Int) : ∀ (j : Nat) (xs : List Int) (k : Nat), j ≤ 8 → j < k → (xs.length + j ≤ 140737488355328) → ∃ r, calepinref15_number.l0 k xs v ((j : Int) - 1) = some r ∧ r.length = xs.length + j := by
  intro j
  induction j with
  | zero =>
    intro xs k _ hk _
    obtain ⟨k, rfl⟩ : ∃ q, k = q + 1 := ⟨k - 1, by omega⟩
    refine ⟨xs, ?_, rfl⟩
    unfold calepinref15_number.l0
    rw [if_neg (by omega)]
  | succ j ih =>
    intro xs k hj hk hl
    obtain ⟨k, rfl⟩ : ∃ q, k = q + 1 := ⟨k - 1, by omega⟩
    unfold calepinref15_number.l0
    have e : (((j + 1 : Nat) : Int) - 1) = (j : Int) := by omega
    rw [e, if_pos (by omega), if_pos (by rw [IntKind.wrap_u64]; omega), if_pos (by omega)]
    have hw : wrap64 ((j : Int) - 1) = (j : Int) - 1 := by unfold wrap64; omega
    rw [hw]
    obtain ⟨r, h1, h2⟩ := ih (xs ++ [(shr .u64 (IntKind.u64.wrap v) (IntKind.u64.wrap (wrap64 (8 * (j : Int))))) % 256]) k (by omega) (by omega) (by simp; omega)
    exact ⟨r, h1, by rw [h2]; simp; omega⟩
theorem number_some (xs : List Int) (v : Int) (k : Nat) (hk : 8 < k) (hl : xs.length + 8 ≤ 140737488355328) : ∃ r, calepinref15_number.f k xs v = some r ∧ r.length = xs.length + 8 := by
  obtain ⟨r, h1, h2⟩ := number_loop v 8 xs k (Nat.le_refl _) hk hl
  exact ⟨r, h1, h2⟩
theorem text_some (xs : List Int) (s : ByteArray) (k : Nat) (hk : 8 < k) (hl : xs.length + (8 + s.size) < 140737488355328) : ∃ r, calepinref15_text.f k xs s = some r ∧ r.length = xs.length + (8 + s.size) := by
  obtain ⟨r, h1, h2⟩ := number_some xs (s.size : Int) k hk (by omega)
  refine ⟨r ++ bytesOf s, ?_, by rw [List.length_append, h2, bytesOf_length]; omega⟩
  unfold calepinref15_text.f
  rw [h1, Option.bind_some, if_pos (by omega)]
/-- How many bytes names are put as. -/
def namesLen : List ByteArray → Nat
  | [] => 0
  | s :: l => (8 + s.size) + namesLen l
theorem names_some (b0 b8 b9 b10 : Int) (b1 b2 b3 b4 b5 b6 : ByteArray) (b7 : List ByteArray) (ns : List ByteArray) (hn : ns.length ≤ 9223372036854775807) : ∀ (n i k : Nat) (xs : List Int), i + n = ns.length → n + 9 < k → xs.length + namesLen (ns.drop i) + 24 < 140737488355328 →
    ∃ r, calepinref15_Command.l0 k xs ns (ns.length : Int) (i : Int) b0 b1 b2 b3 b4 b5 b6 b7 b8 b9 b10 = some r := by
  intro n
  induction n with
  | zero =>
    intro i k xs hi hk hl
    obtain ⟨k, rfl⟩ : ∃ q, k = q + 1 := ⟨k - 1, by omega⟩
    unfold calepinref15_Command.l0
    rw [if_neg (by omega)]
    obtain ⟨r1, h1, l1⟩ := number_some xs b8 k (by omega) (by omega)
    obtain ⟨r2, h2, l2⟩ := number_some r1 b9 k (by omega) (by omega)
    obtain ⟨r3, h3, l3⟩ := number_some r2 b10 k (by omega) (by omega)
    rw [h1, Option.bind_some, h2, Option.bind_some, h3, Option.bind_some]
    exact ⟨r3, rfl⟩
  | succ n ih =>
    intro i k xs hi hk hl
    obtain ⟨k, rfl⟩ : ∃ q, k = q + 1 := ⟨k - 1, by omega⟩
    have hlt : i < ns.length := by omega
    unfold calepinref15_Command.l0
    have hw : wrap64 ((i : Int) + 1) = ((i + 1 : Nat) : Int) := by unfold wrap64; omega
    have hrd : rdOf ByteArray.empty ns (i : Int) = ns[i] := by simp [rdOf, hlt]
    rw [List.drop_eq_getElem_cons hlt, namesLen] at hl
    rw [if_pos (by omega), if_pos (by omega), if_pos (by omega), hrd, hw]
    obtain ⟨r, h1, h2⟩ := text_some xs ns[i] k (by omega) (by omega)
    rw [h1, Option.bind_some]
    exact ih (i + 1) k r (by omega) (by omega) (by rw [h2]; omega)
/-- How many bytes a command is put as. -/
def cmdLen (x : S58) : Nat := x.f1.size + x.f2.size + x.f3.size + x.f4.size + x.f5.size + x.f6.size + namesLen x.f7 + 88
theorem command_some (x : S58) (hn : x.f7.length ≤ 9223372036854775807) (hl : cmdLen x < 140737488355328) (k : Nat) (hk : x.f7.length + 9 < k) : ∃ r, calepinref15_Command.f k x.f0 x.f1 x.f2 x.f3 x.f4 x.f5 x.f6 x.f7 x.f8 x.f9 x.f10 = some r := by
  unfold cmdLen at hl
  unfold calepinref15_Command.f
  obtain ⟨r0, h0, l0⟩ := number_some [] x.f0 k (by omega) (by simp)
  obtain ⟨r1, h1, l1⟩ := text_some r0 x.f1 k (by omega) (by rw [l0]; simp; omega)
  obtain ⟨r2, h2, l2⟩ := text_some r1 x.f2 k (by omega) (by rw [l1, l0]; simp; omega)
  obtain ⟨r3, h3, l3⟩ := text_some r2 x.f3 k (by omega) (by rw [l2, l1, l0]; simp; omega)
  obtain ⟨r4, h4, l4⟩ := text_some r3 x.f4 k (by omega) (by rw [l3, l2, l1, l0]; simp; omega)
  obtain ⟨r5, h5, l5⟩ := text_some r4 x.f5 k (by omega) (by rw [l4, l3, l2, l1, l0]; simp; omega)
  obtain ⟨r6, h6, l6⟩ := text_some r5 x.f6 k (by omega) (by rw [l5, l4, l3, l2, l1, l0]; simp; omega)
  obtain ⟨r7, h7, l7⟩ := number_some r6 (x.f7.length : Int) k (by omega) (by rw [l6, l5, l4, l3, l2, l1, l0]; simp; omega)
  obtain ⟨r8, h8⟩ := names_some x.f0 x.f8 x.f9 x.f10 x.f1 x.f2 x.f3 x.f4 x.f5 x.f6 x.f7 x.f7 hn x.f7.length 0 k r7 (by omega) (by omega) (by rw [l7, l6, l5, l4, l3, l2, l1, l0, List.drop_zero]; simp; omega)
  rw [h0, Option.bind_some, h1, Option.bind_some, h2, Option.bind_some, h3, Option.bind_some, h4, Option.bind_some, h5, Option.bind_some, h6, Option.bind_some, h7, Option.bind_some]
  exact ⟨r8, h8⟩
/-- An entry whose lists and texts are no longer than a machine bears. -/
def okS (x : S60) : Prop := x.f3.length ≤ 9223372036854775807 ∧ x.f2.f7.length ≤ 9223372036854775807 ∧ cmdLen x.f2 < 140737488355328

theorem cell_below0 {w w' : World} {g o : Nat} {v : Value} (hb : Below w.heap.size w w') (hg : g < w.heap.size) (h : w.cell? ⟨g, o, none⟩ = some v) : w'.cell? ⟨g, o, none⟩ = some v := by
  have e := hb.block g hg
  simp only [World.cell?] at h ⊢
  rw [e]
  exact h
def putCmd (x : S58) : List Int := (calepinref15_Command.f (x.f7.length + 10) x.f0 x.f1 x.f2 x.f3 x.f4 x.f5 x.f6 x.f7 x.f8 x.f9 x.f10).getD []
theorem putCmd_is (x : S58) (hn : x.f7.length ≤ 9223372036854775807) (hl : cmdLen x < 140737488355328) : calepinref15_Command.f (x.f7.length + 10) x.f0 x.f1 x.f2 x.f3 x.f4 x.f5 x.f6 x.f7 x.f8 x.f9 x.f10 = some (putCmd x) := by
  obtain ⟨r, h⟩ := command_some x hn hl (x.f7.length + 10) (by omega)
  unfold putCmd
  rw [h]
  rfl
theorem int_at {w : World} {A : Option Addr} {n : Nat} {xs : List Int} (h : (Kd.int .i64).C w A n xs) {i : Nat} (hi : i < n) : ∃ ad, A = some ad ∧ w.cell? (ad.add i) = some (.int .i64 (xs.getD i 0)) := by
  obtain ⟨ad, c, had, hcl, hcK, hcc⟩ := Kd.C_get h (0 : Int) (i : Int) (by omega) (by omega)
  rw [Int.toNat_natCast] at hcK hcc
  have hcK' : c = [.int .i64 (xs.getD i 0)] := hcK
  subst hcK'
  have h1 := hcc 0 _ rfl
  have e : i * (Kd.int .i64).sz + 0 = i := by show i * 1 + 0 = i; omega
  rw [e] at h1
  exact ⟨ad, had, h1⟩
def dstO (i : Nat) : Option Nat := ([some 6, some 7, some 8, some 9, some 10, some 11, some 12, some 13, some 14, some 15, some 16, some 17, some 18, some 19, some 20, some 21, some 22, some 23, some 24, some 25, some 26, some 27, some 28, some 29, some 30, some 31, some 32, some 33, some 34, some 35, some 36, some 37] : List (Option Nat)).getD i none
def ndO : List (List Nat) := [[], [0], [], [2], [1, 3], [4], [5], [6, 5], [5], [8, 5], [7, 9, 5], [5, 10], [11, 5], [12], [13, 12], [14, 12], [12], [16, 12], [17, 12], [15, 18, 12], [12, 19], [20, 12], [21], [22, 21], [23, 21, 21], [24, 21], [21], [26, 21], [27, 24, 21], [28, 21], [25, 29, 21], [21, 30]]
def usO : List (List Nat) := [[], [0], [], [2], [1, 3], [4], [5], [5, 6], [5], [5, 8], [5, 7, 9], [5, 10], [11], [12], [12, 13], [12, 14], [12], [12, 16], [12, 17], [12, 15, 18], [12, 19], [20], [21], [21, 22], [21, 23], [21, 24], [21], [21, 26], [21, 27], [21, 28], [21, 25, 29], [21, 30]]
def ncO : List (List Nat) := [[], [0], [], [2], [0, 1, 2, 3], [0, 1, 2, 3, 4], [0, 1, 2, 3, 4, 5], [0, 1, 2, 3, 4, 5, 6], [0, 1, 2, 3, 4, 5], [0, 1, 2, 3, 4, 5, 8], [0, 1, 2, 3, 4, 5, 6, 7, 8, 9], [0, 1, 2, 3, 4, 5, 6, 7, 8, 9, 10], [0, 1, 2, 3, 4, 5, 6, 7, 8, 9, 10, 11], [0, 1, 2, 3, 4, 5, 6, 7, 8, 9, 10, 11, 12], [0, 1, 2, 3, 4, 5, 6, 7, 8, 9, 10, 11, 12, 13], [0, 1, 2, 3, 4, 5, 6, 7, 8, 9, 10, 11, 12, 13, 14], [0, 1, 2, 3, 4, 5, 6, 7, 8, 9, 10, 11, 12], [0, 1, 2, 3, 4, 5, 6, 7, 8, 9, 10, 11, 12, 16], [0, 1, 2, 3, 4, 5, 6, 7, 8, 9, 10, 11, 12, 16, 17], [0, 1, 2, 3, 4, 5, 6, 7, 8, 9, 10, 11, 12, 13, 14, 15, 16, 17, 18], [0, 1, 2, 3, 4, 5, 6, 7, 8, 9, 10, 11, 12, 13, 14, 15, 16, 17, 18, 19], [0, 1, 2, 3, 4, 5, 6, 7, 8, 9, 10, 11, 12, 13, 14, 15, 16, 17, 18, 19, 20], [0, 1, 2, 3, 4, 5, 6, 7, 8, 9, 10, 11, 12, 13, 14, 15, 16, 17, 18, 19, 20, 21], [0, 1, 2, 3, 4, 5, 6, 7, 8, 9, 10, 11, 12, 13, 14, 15, 16, 17, 18, 19, 20, 21, 22], [0, 1, 2, 3, 4, 5, 6, 7, 8, 9, 10, 11, 12, 13, 14, 15, 16, 17, 18, 19, 20, 21, 22, 23], [0, 1, 2, 3, 4, 5, 6, 7, 8, 9, 10, 11, 12, 13, 14, 15, 16, 17, 18, 19, 20, 21, 22, 23, 24], [0, 1, 2, 3, 4, 5, 6, 7, 8, 9, 10, 11, 12, 13, 14, 15, 16, 17, 18, 19, 20, 21], [0, 1, 2, 3, 4, 5, 6, 7, 8, 9, 10, 11, 12, 13, 14, 15, 16, 17, 18, 19, 20, 21, 26], [0, 1, 2, 3, 4, 5, 6, 7, 8, 9, 10, 11, 12, 13, 14, 15, 16, 17, 18, 19, 20, 21, 22, 23, 24, 26, 27], [0, 1, 2, 3, 4, 5, 6, 7, 8, 9, 10, 11, 12, 13, 14, 15, 16, 17, 18, 19, 20, 21, 22, 23, 24, 26, 27, 28], [0, 1, 2, 3, 4, 5, 6, 7, 8, 9, 10, 11, 12, 13, 14, 15, 16, 17, 18, 19, 20, 21, 22, 23, 24, 25, 26, 27, 28, 29], [0, 1, 2, 3, 4, 5, 6, 7, 8, 9, 10, 11, 12, 13, 14, 15, 16, 17, 18, 19, 20, 21, 22, 23, 24, 25, 26, 27, 28, 29, 30]]
def killO (h j : Nat) : Bool := (false)
def killIO (h j : Nat) : Bool := (false)
def useIO (h j : Nat) : Bool := ((h == 1 && [0].contains j) || (h == 3 && [0].contains j) || (h == 7 && [0].contains j) || (h == 9 && [0].contains j) || (h == 14 && [0].contains j) || (h == 17 && [0].contains j) || (h == 23 && [0].contains j) || (h == 24 && [0].contains j) || (h == 27 && [0].contains j) || (h == 28 && [0].contains j))
def IO (w0 : World) (ga gb : Nat) (e : S60) (A9 A13 B9 B13 : Option Addr) (c9 c13 d9 d13 : Nat) (he : okS e) : Nat → World → Prop
  | 0, w => w.heap[ga]? = some (.cells #[.int .i64 e.f0, .int .i64 e.f1, .int .i64 e.f2.f0, .string e.f2.f1, .string e.f2.f2, .string e.f2.f3, .string e.f2.f4, .string e.f2.f5, .string e.f2.f6, .slice A9 e.f2.f7.length c9, .int .i64 e.f2.f8, .int .i64 e.f2.f9, .int .i64 e.f2.f10, .slice A13 e.f3.length c13] 60 (0, 0)) ∧ w.heap[gb]? = some (.cells #[.int .i64 e.f0, .int .i64 e.f1, .int .i64 e.f2.f0, .string e.f2.f1, .string e.f2.f2, .string e.f2.f3, .string e.f2.f4, .string e.f2.f5, .string e.f2.f6, .slice B9 e.f2.f7.length d9, .int .i64 e.f2.f8, .int .i64 e.f2.f9, .int .i64 e.f2.f10, .slice B13 e.f3.length d13] 60 (0, 0)) ∧ Kd.string.C w A9 e.f2.f7.length e.f2.f7 ∧ e.f2.f7.length ≤ c9 ∧ Kd.string.C w B9 e.f2.f7.length e.f2.f7 ∧ e.f2.f7.length ≤ d9 ∧ Below w0.heap.size w0 w
  | _, _ => True
def FO (w0 : World) (ga gb : Nat) (e : S60) (A9 A13 B9 B13 : Option Addr) (c9 c13 d9 d13 : Nat) (he : okS e) : Nat → Value → World → Prop
  | 0, v, w => v = .pointer (some ⟨ga, 0, none⟩)
  | 1, v, w => v = .int .i64 e.f0
  | 2, v, w => v = .pointer (some ⟨gb, 0, none⟩)
  | 3, v, w => v = .int .i64 e.f0
  | 4, v, w => v = .bool false
  | 5, v, w => v = .bool false
  | 6, v, w => v = .pointer (some ⟨ga, 1, none⟩)
  | 7, v, w => v = .int .i64 e.f1
  | 8, v, w => v = .pointer (some ⟨gb, 1, none⟩)
  | 9, v, w => v = .int .i64 e.f1
  | 10, v, w => v = .bool false
  | 11, v, w => v = .bool false
  | 12, v, w => v = .bool false
  | 13, v, w => v = .pointer (some ⟨ga, 13, none⟩)
  | 14, v, w => v = .slice A13 e.f3.length c13
  | 15, v, w => v = .int .i64 e.f3.length
  | 16, v, w => v = .pointer (some ⟨gb, 13, none⟩)
  | 17, v, w => v = .slice B13 e.f3.length d13
  | 18, v, w => v = .int .i64 e.f3.length
  | 19, v, w => v = .bool false
  | 20, v, w => v = .bool false
  | 21, v, w => v = .bool false
  | 22, v, w => v = .pointer (some ⟨ga, 2, none⟩)
  | 23, v, w => v = .agg #[.int .i64 e.f2.f0, .string e.f2.f1, .string e.f2.f2, .string e.f2.f3, .string e.f2.f4, .string e.f2.f5, .string e.f2.f6, .slice A9 e.f2.f7.length c9, .int .i64 e.f2.f8, .int .i64 e.f2.f9, .int .i64 e.f2.f10]
  | 24, v, w => Kd.R (Kd.int .u8) 5 w w0.heap.size (fun _ => True) v (putCmd e.f2)
  | 25, v, w => v = .string (strOfNums (putCmd e.f2))
  | 26, v, w => v = .pointer (some ⟨gb, 2, none⟩)
  | 27, v, w => v = .agg #[.int .i64 e.f2.f0, .string e.f2.f1, .string e.f2.f2, .string e.f2.f3, .string e.f2.f4, .string e.f2.f5, .string e.f2.f6, .slice B9 e.f2.f7.length d9, .int .i64 e.f2.f8, .int .i64 e.f2.f9, .int .i64 e.f2.f10]
  | 28, v, w => Kd.R (Kd.int .u8) 5 w w0.heap.size (fun _ => True) v (putCmd e.f2)
  | 29, v, w => v = .string (strOfNums (putCmd e.f2))
  | 30, v, w => v = .bool false
  | 31, v, w => v = .bool false
  | _, _, _ => True
def StO (i_ : Nat) : Prop := ∀ (ops : Array Oper) (Q : Exit → Act → World → Prop) (hops : ops = opsOf Try.f30 1) (w0 : World) (ga gb : Nat) (e : S60) (A9 A13 B9 B13 : Option Addr) (c9 c13 d9 d13 : Nat) (he : okS e) (a : Act) (w : World) (h2 : a.tmps[2]?.getD undef = .pointer (some ⟨ga, 0, none⟩)) (h3 : a.tmps[3]?.getD undef = .pointer (some ⟨gb, 0, none⟩))
    (hN : ∀ j, j ∈ usO.getD i_ [] → FO w0 ga gb e A9 A13 B9 B13 c9 c13 d9 d13 he j (slotO dstO a j) w) (hI : ∀ c, c < 1 → useIO i_ c = true → IO w0 ga gb e A9 A13 B9 B13 c9 c13 d9 d13 he c w), wpOp Try.prog ops Q i_ (fun a' w' => ∃ v, a' = a.put (dstO i_) v ∧ FO w0 ga gb e A9 A13 B9 B13 c9 c13 d9 d13 he i_ (valO dstO i_ v) w' ∧ (Below w.heap.size w w' ∨ ((∀ j u, j < 32 → j ≠ i_ → killO i_ j = false → (ncO.getD j []).contains i_ = false → FO w0 ga gb e A9 A13 B9 B13 c9 c13 d9 d13 he j u w → FO w0 ga gb e A9 A13 B9 B13 c9 c13 d9 d13 he j u w') ∧ (∀ c, c < 1 → killIO i_ c = false → IO w0 ga gb e A9 A13 B9 B13 c9 c13 d9 d13 he c w → IO w0 ga gb e A9 A13 B9 B13 c9 c13 d9 d13 he c w')))) a w
theorem sO_0 : StO 0 := by
  intro ops Q hops w0 ga gb e A9 A13 B9 B13 c9 c13 d9 d13 he a w h2 h3 hN hI
  subst hops
  have ho : (opsOf Try.f30 1)[0]? = some (⟨some 6, .fieldAddr 60 (.tmp 2) 0, 0, "ref.go:105", #[], none⟩ : Oper) := by kernel_rfl
  refine wpOp_plain ho rfl ?_
  clear hN hI ho
  go_simp
  first | exact ⟨_, rfl, rfl⟩ | exact ⟨_, rfl, rfl, .inl (Below.refl _ _)⟩
theorem sO_1 : StO 1 := by
  intro ops Q hops w0 ga gb e A9 A13 B9 B13 c9 c13 d9 d13 he a w h2 h3 hN hI
  subst hops
  have n0 : a.tmps[6]?.getD undef = .pointer (some ⟨ga, 0, none⟩) := hN 0 (by decide)
  have hi0 : (fun (w : World) => w.heap[ga]? = some (.cells #[.int .i64 e.f0, .int .i64 e.f1, .int .i64 e.f2.f0, .string e.f2.f1, .string e.f2.f2, .string e.f2.f3, .string e.f2.f4, .string e.f2.f5, .string e.f2.f6, .slice A9 e.f2.f7.length c9, .int .i64 e.f2.f8, .int .i64 e.f2.f9, .int .i64 e.f2.f10, .slice A13 e.f3.length c13] 60 (0, 0)) ∧ w.heap[gb]? = some (.cells #[.int .i64 e.f0, .int .i64 e.f1, .int .i64 e.f2.f0, .string e.f2.f1, .string e.f2.f2, .string e.f2.f3, .string e.f2.f4, .string e.f2.f5, .string e.f2.f6, .slice B9 e.f2.f7.length d9, .int .i64 e.f2.f8, .int .i64 e.f2.f9, .int .i64 e.f2.f10, .slice B13 e.f3.length d13] 60 (0, 0)) ∧ Kd.string.C w A9 e.f2.f7.length e.f2.f7 ∧ e.f2.f7.length ≤ c9 ∧ Kd.string.C w B9 e.f2.f7.length e.f2.f7 ∧ e.f2.f7.length ≤ d9 ∧ Below w0.heap.size w0 w) w := hI 0 (by decide) (by decide)
  have ho : (opsOf Try.f30 1)[1]? = some (⟨some 7, .load 3 (.tmp 6), 3, "ref.go:105", #[⟨0, .data⟩], none⟩ : Oper) := by kernel_rfl
  refine wpOp_plain ho rfl ?_
  clear hN hI ho
  have hc : w.cell? ⟨ga, 0, none⟩ = some (.int .i64 e.f0) := (blk_cell hi0.1 0).trans rfl
  clear hi0
  go_simp
  first | exact ⟨_, rfl, rfl⟩ | exact ⟨_, rfl, rfl, .inl (Below.refl _ _)⟩
theorem sO_2 : StO 2 := by
  intro ops Q hops w0 ga gb e A9 A13 B9 B13 c9 c13 d9 d13 he a w h2 h3 hN hI
  subst hops
  have ho : (opsOf Try.f30 1)[2]? = some (⟨some 8, .fieldAddr 60 (.tmp 3) 0, 0, "ref.go:105", #[], none⟩ : Oper) := by kernel_rfl
  refine wpOp_plain ho rfl ?_
  clear hN hI ho
  go_simp
  first | exact ⟨_, rfl, rfl⟩ | exact ⟨_, rfl, rfl, .inl (Below.refl _ _)⟩
theorem sO_3 : StO 3 := by
  intro ops Q hops w0 ga gb e A9 A13 B9 B13 c9 c13 d9 d13 he a w h2 h3 hN hI
  subst hops
  have n2 : a.tmps[8]?.getD undef = .pointer (some ⟨gb, 0, none⟩) := hN 2 (by decide)
  have hi0 : (fun (w : World) => w.heap[ga]? = some (.cells #[.int .i64 e.f0, .int .i64 e.f1, .int .i64 e.f2.f0, .string e.f2.f1, .string e.f2.f2, .string e.f2.f3, .string e.f2.f4, .string e.f2.f5, .string e.f2.f6, .slice A9 e.f2.f7.length c9, .int .i64 e.f2.f8, .int .i64 e.f2.f9, .int .i64 e.f2.f10, .slice A13 e.f3.length c13] 60 (0, 0)) ∧ w.heap[gb]? = some (.cells #[.int .i64 e.f0, .int .i64 e.f1, .int .i64 e.f2.f0, .string e.f2.f1, .string e.f2.f2, .string e.f2.f3, .string e.f2.f4, .string e.f2.f5, .string e.f2.f6, .slice B9 e.f2.f7.length d9, .int .i64 e.f2.f8, .int .i64 e.f2.f9, .int .i64 e.f2.f10, .slice B13 e.f3.length d13] 60 (0, 0)) ∧ Kd.string.C w A9 e.f2.f7.length e.f2.f7 ∧ e.f2.f7.length ≤ c9 ∧ Kd.string.C w B9 e.f2.f7.length e.f2.f7 ∧ e.f2.f7.length ≤ d9 ∧ Below w0.heap.size w0 w) w := hI 0 (by decide) (by decide)
  have ho : (opsOf Try.f30 1)[3]? = some (⟨some 9, .load 3 (.tmp 8), 3, "ref.go:105", #[⟨2, .data⟩], none⟩ : Oper) := by kernel_rfl
  refine wpOp_plain ho rfl ?_
  clear hN hI ho
  have hc : w.cell? ⟨gb, 0, none⟩ = some (.int .i64 e.f0) := (blk_cell hi0.2.1 0).trans rfl
  clear hi0
  go_simp
  first | exact ⟨_, rfl, rfl⟩ | exact ⟨_, rfl, rfl, .inl (Below.refl _ _)⟩
theorem sO_4 : StO 4 := by
  intro ops Q hops w0 ga gb e A9 A13 B9 B13 c9 c13 d9 d13 he a w h2 h3 hN hI
  subst hops
  have n1 : a.tmps[7]?.getD undef = .int .i64 e.f0 := hN 1 (by decide)
  have n3 : a.tmps[9]?.getD undef = .int .i64 e.f0 := hN 3 (by decide)
  have ho : (opsOf Try.f30 1)[4]? = some (⟨some 10, .binOp .neq 3 (.tmp 7) (.tmp 9) 3, 4, "ref.go:105", #[⟨1, .data⟩, ⟨3, .data⟩], none⟩ : Oper) := by kernel_rfl
  refine wpOp_plain ho rfl ?_
  clear hN hI ho
  go_simp
  first | exact ⟨_, rfl, rfl⟩ | exact ⟨_, rfl, rfl, .inl (Below.refl _ _)⟩
theorem sO_5 : StO 5 := by
  intro ops Q hops w0 ga gb e A9 A13 B9 B13 c9 c13 d9 d13 he a w h2 h3 hN hI
  subst hops
  have n4 : a.tmps[10]?.getD undef = .bool false := hN 4 (by decide)
  have ho : (opsOf Try.f30 1)[5]? = some (⟨some 11, .move (.tmp 10), 4, "ref.go:105", #[⟨4, .data⟩], none⟩ : Oper) := by kernel_rfl
  refine wpOp_plain ho rfl ?_
  clear hN hI ho
  go_simp
  first | exact ⟨_, rfl, rfl⟩ | exact ⟨_, rfl, rfl, .inl (Below.refl _ _)⟩
theorem sO_6 : StO 6 := by
  intro ops Q hops w0 ga gb e A9 A13 B9 B13 c9 c13 d9 d13 he a w h2 h3 hN hI
  subst hops
  have n5 : a.tmps[11]?.getD undef = .bool false := hN 5 (by decide)
  have ho : (opsOf Try.f30 1)[6]? = some (⟨some 12, .fieldAddr 60 (.tmp 2) 1, 0, "ref.go:105", #[⟨5, .guard⟩], some (5, false)⟩ : Oper) := by kernel_rfl
  refine wpOp_guarded (d := 11) ho rfl rfl n5 ?_
  clear hN hI ho
  go_simp
  first | exact ⟨_, rfl, rfl⟩ | exact ⟨_, rfl, rfl, .inl (Below.refl _ _)⟩
theorem sO_7 : StO 7 := by
  intro ops Q hops w0 ga gb e A9 A13 B9 B13 c9 c13 d9 d13 he a w h2 h3 hN hI
  subst hops
  have n5 : a.tmps[11]?.getD undef = .bool false := hN 5 (by decide)
  have n6 : a.tmps[12]?.getD undef = .pointer (some ⟨ga, 1, none⟩) := hN 6 (by decide)
  have hi0 : (fun (w : World) => w.heap[ga]? = some (.cells #[.int .i64 e.f0, .int .i64 e.f1, .int .i64 e.f2.f0, .string e.f2.f1, .string e.f2.f2, .string e.f2.f3, .string e.f2.f4, .string e.f2.f5, .string e.f2.f6, .slice A9 e.f2.f7.length c9, .int .i64 e.f2.f8, .int .i64 e.f2.f9, .int .i64 e.f2.f10, .slice A13 e.f3.length c13] 60 (0, 0)) ∧ w.heap[gb]? = some (.cells #[.int .i64 e.f0, .int .i64 e.f1, .int .i64 e.f2.f0, .string e.f2.f1, .string e.f2.f2, .string e.f2.f3, .string e.f2.f4, .string e.f2.f5, .string e.f2.f6, .slice B9 e.f2.f7.length d9, .int .i64 e.f2.f8, .int .i64 e.f2.f9, .int .i64 e.f2.f10, .slice B13 e.f3.length d13] 60 (0, 0)) ∧ Kd.string.C w A9 e.f2.f7.length e.f2.f7 ∧ e.f2.f7.length ≤ c9 ∧ Kd.string.C w B9 e.f2.f7.length e.f2.f7 ∧ e.f2.f7.length ≤ d9 ∧ Below w0.heap.size w0 w) w := hI 0 (by decide) (by decide)
  have ho : (opsOf Try.f30 1)[7]? = some (⟨some 13, .load 54 (.tmp 12), 54, "ref.go:105", #[⟨6, .data⟩, ⟨5, .guard⟩], some (5, false)⟩ : Oper) := by kernel_rfl
  refine wpOp_guarded (d := 11) ho rfl rfl n5 ?_
  clear hN hI ho
  have hc : w.cell? ⟨ga, 1, none⟩ = some (.int .i64 e.f1) := (blk_cell hi0.1 1).trans rfl
  clear hi0
  go_simp
  first | exact ⟨_, rfl, rfl⟩ | exact ⟨_, rfl, rfl, .inl (Below.refl _ _)⟩
theorem sO_8 : StO 8 := by
  intro ops Q hops w0 ga gb e A9 A13 B9 B13 c9 c13 d9 d13 he a w h2 h3 hN hI
  subst hops
  have n5 : a.tmps[11]?.getD undef = .bool false := hN 5 (by decide)
  have ho : (opsOf Try.f30 1)[8]? = some (⟨some 14, .fieldAddr 60 (.tmp 3) 1, 0, "ref.go:105", #[⟨5, .guard⟩], some (5, false)⟩ : Oper) := by kernel_rfl
  refine wpOp_guarded (d := 11) ho rfl rfl n5 ?_
  clear hN hI ho
  go_simp
  first | exact ⟨_, rfl, rfl⟩ | exact ⟨_, rfl, rfl, .inl (Below.refl _ _)⟩
theorem sO_9 : StO 9 := by
  intro ops Q hops w0 ga gb e A9 A13 B9 B13 c9 c13 d9 d13 he a w h2 h3 hN hI
  subst hops
  have n5 : a.tmps[11]?.getD undef = .bool false := hN 5 (by decide)
  have n8 : a.tmps[14]?.getD undef = .pointer (some ⟨gb, 1, none⟩) := hN 8 (by decide)
  have hi0 : (fun (w : World) => w.heap[ga]? = some (.cells #[.int .i64 e.f0, .int .i64 e.f1, .int .i64 e.f2.f0, .string e.f2.f1, .string e.f2.f2, .string e.f2.f3, .string e.f2.f4, .string e.f2.f5, .string e.f2.f6, .slice A9 e.f2.f7.length c9, .int .i64 e.f2.f8, .int .i64 e.f2.f9, .int .i64 e.f2.f10, .slice A13 e.f3.length c13] 60 (0, 0)) ∧ w.heap[gb]? = some (.cells #[.int .i64 e.f0, .int .i64 e.f1, .int .i64 e.f2.f0, .string e.f2.f1, .string e.f2.f2, .string e.f2.f3, .string e.f2.f4, .string e.f2.f5, .string e.f2.f6, .slice B9 e.f2.f7.length d9, .int .i64 e.f2.f8, .int .i64 e.f2.f9, .int .i64 e.f2.f10, .slice B13 e.f3.length d13] 60 (0, 0)) ∧ Kd.string.C w A9 e.f2.f7.length e.f2.f7 ∧ e.f2.f7.length ≤ c9 ∧ Kd.string.C w B9 e.f2.f7.length e.f2.f7 ∧ e.f2.f7.length ≤ d9 ∧ Below w0.heap.size w0 w) w := hI 0 (by decide) (by decide)
  have ho : (opsOf Try.f30 1)[9]? = some (⟨some 15, .load 54 (.tmp 14), 54, "ref.go:105", #[⟨8, .data⟩, ⟨5, .guard⟩], some (5, false)⟩ : Oper) := by kernel_rfl
  refine wpOp_guarded (d := 11) ho rfl rfl n5 ?_
  clear hN hI ho
  have hc : w.cell? ⟨gb, 1, none⟩ = some (.int .i64 e.f1) := (blk_cell hi0.2.1 1).trans rfl
  clear hi0
  go_simp
  first | exact ⟨_, rfl, rfl⟩ | exact ⟨_, rfl, rfl, .inl (Below.refl _ _)⟩
theorem sO_10 : StO 10 := by
  intro ops Q hops w0 ga gb e A9 A13 B9 B13 c9 c13 d9 d13 he a w h2 h3 hN hI
  subst hops
  have n5 : a.tmps[11]?.getD undef = .bool false := hN 5 (by decide)
  have n7 : a.tmps[13]?.getD undef = .int .i64 e.f1 := hN 7 (by decide)
  have n9 : a.tmps[15]?.getD undef = .int .i64 e.f1 := hN 9 (by decide)
  have ho : (opsOf Try.f30 1)[10]? = some (⟨some 16, .binOp .neq 54 (.tmp 13) (.tmp 15) 54, 4, "ref.go:105", #[⟨7, .data⟩, ⟨9, .data⟩, ⟨5, .guard⟩], some (5, false)⟩ : Oper) := by kernel_rfl
  refine wpOp_guarded (d := 11) ho rfl rfl n5 ?_
  clear hN hI ho
  go_simp
  first | exact ⟨_, rfl, rfl⟩ | exact ⟨_, rfl, rfl, .inl (Below.refl _ _)⟩
theorem sO_11 : StO 11 := by
  intro ops Q hops w0 ga gb e A9 A13 B9 B13 c9 c13 d9 d13 he a w h2 h3 hN hI
  subst hops
  have n5 : a.tmps[11]?.getD undef = .bool false := hN 5 (by decide)
  have n10 : a.tmps[16]?.getD undef = .bool false := hN 10 (by decide)
  have ho : (opsOf Try.f30 1)[11]? = some (⟨some 17, .pick (.tmp 11) (.const (Value.bool true)) (.tmp 16), 4, "ref.go:105", #[⟨5, .data⟩, ⟨10, .data⟩], none⟩ : Oper) := by kernel_rfl
  refine wpOp_plain ho rfl ?_
  clear hN hI ho
  go_simp
  first | exact ⟨_, rfl, rfl⟩ | exact ⟨_, rfl, rfl, .inl (Below.refl _ _)⟩
theorem sO_12 : StO 12 := by
  intro ops Q hops w0 ga gb e A9 A13 B9 B13 c9 c13 d9 d13 he a w h2 h3 hN hI
  subst hops
  have n11 : a.tmps[17]?.getD undef = .bool false := hN 11 (by decide)
  have ho : (opsOf Try.f30 1)[12]? = some (⟨some 18, .move (.tmp 17), 4, "ref.go:105", #[⟨11, .data⟩, ⟨5, .chain⟩], none⟩ : Oper) := by kernel_rfl
  refine wpOp_plain ho rfl ?_
  clear hN hI ho
  go_simp
  first | exact ⟨_, rfl, rfl⟩ | exact ⟨_, rfl, rfl, .inl (Below.refl _ _)⟩
theorem sO_13 : StO 13 := by
  intro ops Q hops w0 ga gb e A9 A13 B9 B13 c9 c13 d9 d13 he a w h2 h3 hN hI
  subst hops
  have n12 : a.tmps[18]?.getD undef = .bool false := hN 12 (by decide)
  have ho : (opsOf Try.f30 1)[13]? = some (⟨some 19, .fieldAddr 60 (.tmp 2) 3, 0, "ref.go:105", #[⟨12, .guard⟩], some (12, false)⟩ : Oper) := by kernel_rfl
  refine wpOp_guarded (d := 18) ho rfl rfl n12 ?_
  clear hN hI ho
  go_simp
  first | exact ⟨_, rfl, rfl⟩ | exact ⟨_, rfl, rfl, .inl (Below.refl _ _)⟩
theorem sO_14 : StO 14 := by
  intro ops Q hops w0 ga gb e A9 A13 B9 B13 c9 c13 d9 d13 he a w h2 h3 hN hI
  subst hops
  have n12 : a.tmps[18]?.getD undef = .bool false := hN 12 (by decide)
  have n13 : a.tmps[19]?.getD undef = .pointer (some ⟨ga, 13, none⟩) := hN 13 (by decide)
  have hi0 : (fun (w : World) => w.heap[ga]? = some (.cells #[.int .i64 e.f0, .int .i64 e.f1, .int .i64 e.f2.f0, .string e.f2.f1, .string e.f2.f2, .string e.f2.f3, .string e.f2.f4, .string e.f2.f5, .string e.f2.f6, .slice A9 e.f2.f7.length c9, .int .i64 e.f2.f8, .int .i64 e.f2.f9, .int .i64 e.f2.f10, .slice A13 e.f3.length c13] 60 (0, 0)) ∧ w.heap[gb]? = some (.cells #[.int .i64 e.f0, .int .i64 e.f1, .int .i64 e.f2.f0, .string e.f2.f1, .string e.f2.f2, .string e.f2.f3, .string e.f2.f4, .string e.f2.f5, .string e.f2.f6, .slice B9 e.f2.f7.length d9, .int .i64 e.f2.f8, .int .i64 e.f2.f9, .int .i64 e.f2.f10, .slice B13 e.f3.length d13] 60 (0, 0)) ∧ Kd.string.C w A9 e.f2.f7.length e.f2.f7 ∧ e.f2.f7.length ≤ c9 ∧ Kd.string.C w B9 e.f2.f7.length e.f2.f7 ∧ e.f2.f7.length ≤ d9 ∧ Below w0.heap.size w0 w) w := hI 0 (by decide) (by decide)
  have ho : (opsOf Try.f30 1)[14]? = some (⟨some 20, .load 31 (.tmp 19), 31, "ref.go:105", #[⟨13, .data⟩, ⟨12, .guard⟩], some (12, false)⟩ : Oper) := by kernel_rfl
  refine wpOp_guarded (d := 18) ho rfl rfl n12 ?_
  clear hN hI ho
  have hc : w.cell? ⟨ga, 13, none⟩ = some (.slice A13 e.f3.length c13) := (blk_cell hi0.1 13).trans rfl
  clear hi0
  go_simp
  first | exact ⟨_, rfl, rfl⟩ | exact ⟨_, rfl, rfl, .inl (Below.refl _ _)⟩
theorem sO_15 : StO 15 := by
  intro ops Q hops w0 ga gb e A9 A13 B9 B13 c9 c13 d9 d13 he a w h2 h3 hN hI
  subst hops
  have n12 : a.tmps[18]?.getD undef = .bool false := hN 12 (by decide)
  have n14 : a.tmps[20]?.getD undef = .slice A13 e.f3.length c13 := hN 14 (by decide)
  have ho : (opsOf Try.f30 1)[15]? = some (⟨some 21, .call { callee := .builtin .len, args := #[.tmp 20], argTypes := #[31] }, 3, "ref.go:105", #[⟨14, .data⟩, ⟨12, .guard⟩], some (12, false)⟩ : Oper) := by kernel_rfl
  refine wpOp_guarded (d := 18) ho rfl rfl n12 ?_
  clear hN hI ho
  go_simp
  first | exact ⟨_, rfl, rfl⟩ | exact ⟨_, rfl, rfl, .inl (Below.refl _ _)⟩
theorem sO_16 : StO 16 := by
  intro ops Q hops w0 ga gb e A9 A13 B9 B13 c9 c13 d9 d13 he a w h2 h3 hN hI
  subst hops
  have n12 : a.tmps[18]?.getD undef = .bool false := hN 12 (by decide)
  have ho : (opsOf Try.f30 1)[16]? = some (⟨some 22, .fieldAddr 60 (.tmp 3) 3, 0, "ref.go:105", #[⟨12, .guard⟩], some (12, false)⟩ : Oper) := by kernel_rfl
  refine wpOp_guarded (d := 18) ho rfl rfl n12 ?_
  clear hN hI ho
  go_simp
  first | exact ⟨_, rfl, rfl⟩ | exact ⟨_, rfl, rfl, .inl (Below.refl _ _)⟩
theorem sO_17 : StO 17 := by
  intro ops Q hops w0 ga gb e A9 A13 B9 B13 c9 c13 d9 d13 he a w h2 h3 hN hI
  subst hops
  have n12 : a.tmps[18]?.getD undef = .bool false := hN 12 (by decide)
  have n16 : a.tmps[22]?.getD undef = .pointer (some ⟨gb, 13, none⟩) := hN 16 (by decide)
  have hi0 : (fun (w : World) => w.heap[ga]? = some (.cells #[.int .i64 e.f0, .int .i64 e.f1, .int .i64 e.f2.f0, .string e.f2.f1, .string e.f2.f2, .string e.f2.f3, .string e.f2.f4, .string e.f2.f5, .string e.f2.f6, .slice A9 e.f2.f7.length c9, .int .i64 e.f2.f8, .int .i64 e.f2.f9, .int .i64 e.f2.f10, .slice A13 e.f3.length c13] 60 (0, 0)) ∧ w.heap[gb]? = some (.cells #[.int .i64 e.f0, .int .i64 e.f1, .int .i64 e.f2.f0, .string e.f2.f1, .string e.f2.f2, .string e.f2.f3, .string e.f2.f4, .string e.f2.f5, .string e.f2.f6, .slice B9 e.f2.f7.length d9, .int .i64 e.f2.f8, .int .i64 e.f2.f9, .int .i64 e.f2.f10, .slice B13 e.f3.length d13] 60 (0, 0)) ∧ Kd.string.C w A9 e.f2.f7.length e.f2.f7 ∧ e.f2.f7.length ≤ c9 ∧ Kd.string.C w B9 e.f2.f7.length e.f2.f7 ∧ e.f2.f7.length ≤ d9 ∧ Below w0.heap.size w0 w) w := hI 0 (by decide) (by decide)
  have ho : (opsOf Try.f30 1)[17]? = some (⟨some 23, .load 31 (.tmp 22), 31, "ref.go:105", #[⟨16, .data⟩, ⟨12, .guard⟩], some (12, false)⟩ : Oper) := by kernel_rfl
  refine wpOp_guarded (d := 18) ho rfl rfl n12 ?_
  clear hN hI ho
  have hc : w.cell? ⟨gb, 13, none⟩ = some (.slice B13 e.f3.length d13) := (blk_cell hi0.2.1 13).trans rfl
  clear hi0
  go_simp
  first | exact ⟨_, rfl, rfl⟩ | exact ⟨_, rfl, rfl, .inl (Below.refl _ _)⟩
theorem sO_18 : StO 18 := by
  intro ops Q hops w0 ga gb e A9 A13 B9 B13 c9 c13 d9 d13 he a w h2 h3 hN hI
  subst hops
  have n12 : a.tmps[18]?.getD undef = .bool false := hN 12 (by decide)
  have n17 : a.tmps[23]?.getD undef = .slice B13 e.f3.length d13 := hN 17 (by decide)
  have ho : (opsOf Try.f30 1)[18]? = some (⟨some 24, .call { callee := .builtin .len, args := #[.tmp 23], argTypes := #[31] }, 3, "ref.go:105", #[⟨17, .data⟩, ⟨12, .guard⟩], some (12, false)⟩ : Oper) := by kernel_rfl
  refine wpOp_guarded (d := 18) ho rfl rfl n12 ?_
  clear hN hI ho
  go_simp
  first | exact ⟨_, rfl, rfl⟩ | exact ⟨_, rfl, rfl, .inl (Below.refl _ _)⟩
theorem sO_19 : StO 19 := by
  intro ops Q hops w0 ga gb e A9 A13 B9 B13 c9 c13 d9 d13 he a w h2 h3 hN hI
  subst hops
  have n12 : a.tmps[18]?.getD undef = .bool false := hN 12 (by decide)
  have n15 : a.tmps[21]?.getD undef = .int .i64 e.f3.length := hN 15 (by decide)
  have n18 : a.tmps[24]?.getD undef = .int .i64 e.f3.length := hN 18 (by decide)
  have ho : (opsOf Try.f30 1)[19]? = some (⟨some 25, .binOp .neq 3 (.tmp 21) (.tmp 24) 3, 4, "ref.go:105", #[⟨15, .data⟩, ⟨18, .data⟩, ⟨12, .guard⟩], some (12, false)⟩ : Oper) := by kernel_rfl
  refine wpOp_guarded (d := 18) ho rfl rfl n12 ?_
  clear hN hI ho
  go_simp
  first | exact ⟨_, rfl, rfl⟩ | exact ⟨_, rfl, rfl, .inl (Below.refl _ _)⟩
theorem sO_20 : StO 20 := by
  intro ops Q hops w0 ga gb e A9 A13 B9 B13 c9 c13 d9 d13 he a w h2 h3 hN hI
  subst hops
  have n12 : a.tmps[18]?.getD undef = .bool false := hN 12 (by decide)
  have n19 : a.tmps[25]?.getD undef = .bool false := hN 19 (by decide)
  have ho : (opsOf Try.f30 1)[20]? = some (⟨some 26, .pick (.tmp 18) (.const (Value.bool true)) (.tmp 25), 4, "ref.go:105", #[⟨12, .data⟩, ⟨19, .data⟩], none⟩ : Oper) := by kernel_rfl
  refine wpOp_plain ho rfl ?_
  clear hN hI ho
  go_simp
  first | exact ⟨_, rfl, rfl⟩ | exact ⟨_, rfl, rfl, .inl (Below.refl _ _)⟩
theorem sO_21 : StO 21 := by
  intro ops Q hops w0 ga gb e A9 A13 B9 B13 c9 c13 d9 d13 he a w h2 h3 hN hI
  subst hops
  have n20 : a.tmps[26]?.getD undef = .bool false := hN 20 (by decide)
  have ho : (opsOf Try.f30 1)[21]? = some (⟨some 27, .move (.tmp 26), 4, "ref.go:105", #[⟨20, .data⟩, ⟨12, .chain⟩], none⟩ : Oper) := by kernel_rfl
  refine wpOp_plain ho rfl ?_
  clear hN hI ho
  go_simp
  first | exact ⟨_, rfl, rfl⟩ | exact ⟨_, rfl, rfl, .inl (Below.refl _ _)⟩
theorem sO_22 : StO 22 := by
  intro ops Q hops w0 ga gb e A9 A13 B9 B13 c9 c13 d9 d13 he a w h2 h3 hN hI
  subst hops
  have n21 : a.tmps[27]?.getD undef = .bool false := hN 21 (by decide)
  have ho : (opsOf Try.f30 1)[22]? = some (⟨some 28, .fieldAddr 60 (.tmp 2) 2, 0, "ref.go:105", #[⟨21, .guard⟩], some (21, false)⟩ : Oper) := by kernel_rfl
  refine wpOp_guarded (d := 27) ho rfl rfl n21 ?_
  clear hN hI ho
  go_simp
  first | exact ⟨_, rfl, rfl⟩ | exact ⟨_, rfl, rfl, .inl (Below.refl _ _)⟩
theorem sO_23 : StO 23 := by
  intro ops Q hops w0 ga gb e A9 A13 B9 B13 c9 c13 d9 d13 he a w h2 h3 hN hI
  subst hops
  have n21 : a.tmps[27]?.getD undef = .bool false := hN 21 (by decide)
  have n22 : a.tmps[28]?.getD undef = .pointer (some ⟨ga, 2, none⟩) := hN 22 (by decide)
  have hi0 : (fun (w : World) => w.heap[ga]? = some (.cells #[.int .i64 e.f0, .int .i64 e.f1, .int .i64 e.f2.f0, .string e.f2.f1, .string e.f2.f2, .string e.f2.f3, .string e.f2.f4, .string e.f2.f5, .string e.f2.f6, .slice A9 e.f2.f7.length c9, .int .i64 e.f2.f8, .int .i64 e.f2.f9, .int .i64 e.f2.f10, .slice A13 e.f3.length c13] 60 (0, 0)) ∧ w.heap[gb]? = some (.cells #[.int .i64 e.f0, .int .i64 e.f1, .int .i64 e.f2.f0, .string e.f2.f1, .string e.f2.f2, .string e.f2.f3, .string e.f2.f4, .string e.f2.f5, .string e.f2.f6, .slice B9 e.f2.f7.length d9, .int .i64 e.f2.f8, .int .i64 e.f2.f9, .int .i64 e.f2.f10, .slice B13 e.f3.length d13] 60 (0, 0)) ∧ Kd.string.C w A9 e.f2.f7.length e.f2.f7 ∧ e.f2.f7.length ≤ c9 ∧ Kd.string.C w B9 e.f2.f7.length e.f2.f7 ∧ e.f2.f7.length ≤ d9 ∧ Below w0.heap.size w0 w) w := hI 0 (by decide) (by decide)
  have ho : (opsOf Try.f30 1)[23]? = some (⟨some 29, .load 58 (.tmp 28), 58, "ref.go:105", #[⟨22, .data⟩, ⟨21, .guard⟩], some (21, false)⟩ : Oper) := by kernel_rfl
  refine wpOp_guarded (d := 27) ho rfl rfl n21 ?_
  clear hN hI ho
  have q0 : w.cell? ⟨ga, 2, none⟩ = some (.int .i64 e.f2.f0) := (blk_cell hi0.1 2).trans rfl
  have q1 : w.cell? ⟨ga, 3, none⟩ = some (.string e.f2.f1) := (blk_cell hi0.1 3).trans rfl
  have q2 : w.cell? ⟨ga, 4, none⟩ = some (.string e.f2.f2) := (blk_cell hi0.1 4).trans rfl
  have q3 : w.cell? ⟨ga, 5, none⟩ = some (.string e.f2.f3) := (blk_cell hi0.1 5).trans rfl
  have q4 : w.cell? ⟨ga, 6, none⟩ = some (.string e.f2.f4) := (blk_cell hi0.1 6).trans rfl
  have q5 : w.cell? ⟨ga, 7, none⟩ = some (.string e.f2.f5) := (blk_cell hi0.1 7).trans rfl
  have q6 : w.cell? ⟨ga, 8, none⟩ = some (.string e.f2.f6) := (blk_cell hi0.1 8).trans rfl
  have q7 : w.cell? ⟨ga, 9, none⟩ = some (.slice A9 e.f2.f7.length c9) := (blk_cell hi0.1 9).trans rfl
  have q8 : w.cell? ⟨ga, 10, none⟩ = some (.int .i64 e.f2.f8) := (blk_cell hi0.1 10).trans rfl
  have q9 : w.cell? ⟨ga, 11, none⟩ = some (.int .i64 e.f2.f9) := (blk_cell hi0.1 11).trans rfl
  have q10 : w.cell? ⟨ga, 12, none⟩ = some (.int .i64 e.f2.f10) := (blk_cell hi0.1 12).trans rfl
  clear hi0
  go_simp
  first | exact ⟨_, rfl, rfl⟩ | exact ⟨_, rfl, rfl, .inl (Below.refl _ _)⟩
theorem sO_24 : StO 24 := by
  intro ops Q hops w0 ga gb e A9 A13 B9 B13 c9 c13 d9 d13 he a w h2 h3 hN hI
  subst hops
  have n21 : a.tmps[27]?.getD undef = .bool false := hN 21 (by decide)
  have n23 : a.tmps[29]?.getD undef = .agg #[.int .i64 e.f2.f0, .string e.f2.f1, .string e.f2.f2, .string e.f2.f3, .string e.f2.f4, .string e.f2.f5, .string e.f2.f6, .slice A9 e.f2.f7.length c9, .int .i64 e.f2.f8, .int .i64 e.f2.f9, .int .i64 e.f2.f10] := hN 23 (by decide)
  have hi0 : (fun (w : World) => w.heap[ga]? = some (.cells #[.int .i64 e.f0, .int .i64 e.f1, .int .i64 e.f2.f0, .string e.f2.f1, .string e.f2.f2, .string e.f2.f3, .string e.f2.f4, .string e.f2.f5, .string e.f2.f6, .slice A9 e.f2.f7.length c9, .int .i64 e.f2.f8, .int .i64 e.f2.f9, .int .i64 e.f2.f10, .slice A13 e.f3.length c13] 60 (0, 0)) ∧ w.heap[gb]? = some (.cells #[.int .i64 e.f0, .int .i64 e.f1, .int .i64 e.f2.f0, .string e.f2.f1, .string e.f2.f2, .string e.f2.f3, .string e.f2.f4, .string e.f2.f5, .string e.f2.f6, .slice B9 e.f2.f7.length d9, .int .i64 e.f2.f8, .int .i64 e.f2.f9, .int .i64 e.f2.f10, .slice B13 e.f3.length d13] 60 (0, 0)) ∧ Kd.string.C w A9 e.f2.f7.length e.f2.f7 ∧ e.f2.f7.length ≤ c9 ∧ Kd.string.C w B9 e.f2.f7.length e.f2.f7 ∧ e.f2.f7.length ≤ d9 ∧ Below w0.heap.size w0 w) w := hI 0 (by decide) (by decide)
  have ho : (opsOf Try.f30 1)[24]? = some (⟨some 30, .call { callee := .value (.func 37), args := #[.tmp 29], argTypes := #[58] }, 67, "ref.go:105", #[⟨23, .data⟩, ⟨21, .chain⟩, ⟨21, .guard⟩], some (21, false)⟩ : Oper) := by kernel_rfl
  refine wpOp_guarded (d := 27) ho rfl rfl n21 ?_
  clear hN hI ho
  have HH := Aside0.mk (calepinref15_Command.calls _ e.f2.f0 e.f2.f1 e.f2.f2 e.f2.f3 e.f2.f4 e.f2.f5 e.f2.f6 A9 c9 e.f2.f7 e.f2.f8 e.f2.f9 e.f2.f10 (putCmd e.f2) w hi0.2.2.1 hi0.2.2.2.1 (putCmd_is e.f2 he.2.1 he.2.2))
  have HB := Aside0.mk hi0.2.2.2.2.2.2.size
  clear hi0
  go_simp
  refine HH.out.mono ?_
  rintro _ w' ⟨v, rfl, hR, hb⟩
  exact ⟨_, rfl, Kd.R_lower hR HB.out, .inl hb⟩
theorem sO_25 : StO 25 := by
  intro ops Q hops w0 ga gb e A9 A13 B9 B13 c9 c13 d9 d13 he a w h2 h3 hN hI
  subst hops
  have n21 : a.tmps[27]?.getD undef = .bool false := hN 21 (by decide)
  have n24 : (fun (v : Value) (w : World) => Kd.R (Kd.int .u8) 5 w w0.heap.size (fun _ => True) v (putCmd e.f2)) (a.tmps[30]?.getD undef) w := hN 24 (by decide)
  have ho : (opsOf Try.f30 1)[25]? = some (⟨some 31, .convert 67 9 (.tmp 30), 9, "ref.go:105", #[⟨24, .data⟩, ⟨21, .guard⟩], some (21, false)⟩ : Oper) := by kernel_rfl
  refine wpOp_guarded (d := 27) ho rfl rfl n21 ?_
  clear hN hI ho
  have hR : Kd.R (Kd.int .u8) 5 w w0.heap.size (fun _ => True) (a.tmps[30]?.getD undef) (putCmd e.f2) := n24
  have hcv := own_string (P := Try.prog) Try.underlying67 Try.underlying5 Try.underlying9 (Kd.own_of_R hR)
  obtain ⟨A, c, e1⟩ := Kd.R_slice hR
  rw [e1] at hcv
  clear hR n24
  go_simp
  first | exact ⟨_, rfl, rfl⟩ | exact ⟨_, rfl, rfl, .inl (Below.refl _ _)⟩
theorem sO_26 : StO 26 := by
  intro ops Q hops w0 ga gb e A9 A13 B9 B13 c9 c13 d9 d13 he a w h2 h3 hN hI
  subst hops
  have n21 : a.tmps[27]?.getD undef = .bool false := hN 21 (by decide)
  have ho : (opsOf Try.f30 1)[26]? = some (⟨some 32, .fieldAddr 60 (.tmp 3) 2, 0, "ref.go:105", #[⟨21, .guard⟩], some (21, false)⟩ : Oper) := by kernel_rfl
  refine wpOp_guarded (d := 27) ho rfl rfl n21 ?_
  clear hN hI ho
  go_simp
  first | exact ⟨_, rfl, rfl⟩ | exact ⟨_, rfl, rfl, .inl (Below.refl _ _)⟩
theorem sO_27 : StO 27 := by
  intro ops Q hops w0 ga gb e A9 A13 B9 B13 c9 c13 d9 d13 he a w h2 h3 hN hI
  subst hops
  have n21 : a.tmps[27]?.getD undef = .bool false := hN 21 (by decide)
  have n26 : a.tmps[32]?.getD undef = .pointer (some ⟨gb, 2, none⟩) := hN 26 (by decide)
  have hi0 : (fun (w : World) => w.heap[ga]? = some (.cells #[.int .i64 e.f0, .int .i64 e.f1, .int .i64 e.f2.f0, .string e.f2.f1, .string e.f2.f2, .string e.f2.f3, .string e.f2.f4, .string e.f2.f5, .string e.f2.f6, .slice A9 e.f2.f7.length c9, .int .i64 e.f2.f8, .int .i64 e.f2.f9, .int .i64 e.f2.f10, .slice A13 e.f3.length c13] 60 (0, 0)) ∧ w.heap[gb]? = some (.cells #[.int .i64 e.f0, .int .i64 e.f1, .int .i64 e.f2.f0, .string e.f2.f1, .string e.f2.f2, .string e.f2.f3, .string e.f2.f4, .string e.f2.f5, .string e.f2.f6, .slice B9 e.f2.f7.length d9, .int .i64 e.f2.f8, .int .i64 e.f2.f9, .int .i64 e.f2.f10, .slice B13 e.f3.length d13] 60 (0, 0)) ∧ Kd.string.C w A9 e.f2.f7.length e.f2.f7 ∧ e.f2.f7.length ≤ c9 ∧ Kd.string.C w B9 e.f2.f7.length e.f2.f7 ∧ e.f2.f7.length ≤ d9 ∧ Below w0.heap.size w0 w) w := hI 0 (by decide) (by decide)
  have ho : (opsOf Try.f30 1)[27]? = some (⟨some 33, .load 58 (.tmp 32), 58, "ref.go:105", #[⟨26, .data⟩, ⟨21, .guard⟩], some (21, false)⟩ : Oper) := by kernel_rfl
  refine wpOp_guarded (d := 27) ho rfl rfl n21 ?_
  clear hN hI ho
  have q0 : w.cell? ⟨gb, 2, none⟩ = some (.int .i64 e.f2.f0) := (blk_cell hi0.2.1 2).trans rfl
  have q1 : w.cell? ⟨gb, 3, none⟩ = some (.string e.f2.f1) := (blk_cell hi0.2.1 3).trans rfl
  have q2 : w.cell? ⟨gb, 4, none⟩ = some (.string e.f2.f2) := (blk_cell hi0.2.1 4).trans rfl
  have q3 : w.cell? ⟨gb, 5, none⟩ = some (.string e.f2.f3) := (blk_cell hi0.2.1 5).trans rfl
  have q4 : w.cell? ⟨gb, 6, none⟩ = some (.string e.f2.f4) := (blk_cell hi0.2.1 6).trans rfl
  have q5 : w.cell? ⟨gb, 7, none⟩ = some (.string e.f2.f5) := (blk_cell hi0.2.1 7).trans rfl
  have q6 : w.cell? ⟨gb, 8, none⟩ = some (.string e.f2.f6) := (blk_cell hi0.2.1 8).trans rfl
  have q7 : w.cell? ⟨gb, 9, none⟩ = some (.slice B9 e.f2.f7.length d9) := (blk_cell hi0.2.1 9).trans rfl
  have q8 : w.cell? ⟨gb, 10, none⟩ = some (.int .i64 e.f2.f8) := (blk_cell hi0.2.1 10).trans rfl
  have q9 : w.cell? ⟨gb, 11, none⟩ = some (.int .i64 e.f2.f9) := (blk_cell hi0.2.1 11).trans rfl
  have q10 : w.cell? ⟨gb, 12, none⟩ = some (.int .i64 e.f2.f10) := (blk_cell hi0.2.1 12).trans rfl
  clear hi0
  go_simp
  first | exact ⟨_, rfl, rfl⟩ | exact ⟨_, rfl, rfl, .inl (Below.refl _ _)⟩
theorem sO_28 : StO 28 := by
  intro ops Q hops w0 ga gb e A9 A13 B9 B13 c9 c13 d9 d13 he a w h2 h3 hN hI
  subst hops
  have n21 : a.tmps[27]?.getD undef = .bool false := hN 21 (by decide)
  have n27 : a.tmps[33]?.getD undef = .agg #[.int .i64 e.f2.f0, .string e.f2.f1, .string e.f2.f2, .string e.f2.f3, .string e.f2.f4, .string e.f2.f5, .string e.f2.f6, .slice B9 e.f2.f7.length d9, .int .i64 e.f2.f8, .int .i64 e.f2.f9, .int .i64 e.f2.f10] := hN 27 (by decide)
  have hi0 : (fun (w : World) => w.heap[ga]? = some (.cells #[.int .i64 e.f0, .int .i64 e.f1, .int .i64 e.f2.f0, .string e.f2.f1, .string e.f2.f2, .string e.f2.f3, .string e.f2.f4, .string e.f2.f5, .string e.f2.f6, .slice A9 e.f2.f7.length c9, .int .i64 e.f2.f8, .int .i64 e.f2.f9, .int .i64 e.f2.f10, .slice A13 e.f3.length c13] 60 (0, 0)) ∧ w.heap[gb]? = some (.cells #[.int .i64 e.f0, .int .i64 e.f1, .int .i64 e.f2.f0, .string e.f2.f1, .string e.f2.f2, .string e.f2.f3, .string e.f2.f4, .string e.f2.f5, .string e.f2.f6, .slice B9 e.f2.f7.length d9, .int .i64 e.f2.f8, .int .i64 e.f2.f9, .int .i64 e.f2.f10, .slice B13 e.f3.length d13] 60 (0, 0)) ∧ Kd.string.C w A9 e.f2.f7.length e.f2.f7 ∧ e.f2.f7.length ≤ c9 ∧ Kd.string.C w B9 e.f2.f7.length e.f2.f7 ∧ e.f2.f7.length ≤ d9 ∧ Below w0.heap.size w0 w) w := hI 0 (by decide) (by decide)
  have ho : (opsOf Try.f30 1)[28]? = some (⟨some 34, .call { callee := .value (.func 37), args := #[.tmp 33], argTypes := #[58] }, 67, "ref.go:105", #[⟨27, .data⟩, ⟨24, .chain⟩, ⟨21, .guard⟩], some (21, false)⟩ : Oper) := by kernel_rfl
  refine wpOp_guarded (d := 27) ho rfl rfl n21 ?_
  clear hN hI ho
  have HH := Aside0.mk (calepinref15_Command.calls _ e.f2.f0 e.f2.f1 e.f2.f2 e.f2.f3 e.f2.f4 e.f2.f5 e.f2.f6 B9 d9 e.f2.f7 e.f2.f8 e.f2.f9 e.f2.f10 (putCmd e.f2) w hi0.2.2.2.2.1 hi0.2.2.2.2.2.1 (putCmd_is e.f2 he.2.1 he.2.2))
  have HB := Aside0.mk hi0.2.2.2.2.2.2.size
  clear hi0
  go_simp
  refine HH.out.mono ?_
  rintro _ w' ⟨v, rfl, hR, hb⟩
  exact ⟨_, rfl, Kd.R_lower hR HB.out, .inl hb⟩
theorem sO_29 : StO 29 := by
  intro ops Q hops w0 ga gb e A9 A13 B9 B13 c9 c13 d9 d13 he a w h2 h3 hN hI
  subst hops
  have n21 : a.tmps[27]?.getD undef = .bool false := hN 21 (by decide)
  have n28 : (fun (v : Value) (w : World) => Kd.R (Kd.int .u8) 5 w w0.heap.size (fun _ => True) v (putCmd e.f2)) (a.tmps[34]?.getD undef) w := hN 28 (by decide)
  have ho : (opsOf Try.f30 1)[29]? = some (⟨some 35, .convert 67 9 (.tmp 34), 9, "ref.go:105", #[⟨28, .data⟩, ⟨21, .guard⟩], some (21, false)⟩ : Oper) := by kernel_rfl
  refine wpOp_guarded (d := 27) ho rfl rfl n21 ?_
  clear hN hI ho
  have hR : Kd.R (Kd.int .u8) 5 w w0.heap.size (fun _ => True) (a.tmps[34]?.getD undef) (putCmd e.f2) := n28
  have hcv := own_string (P := Try.prog) Try.underlying67 Try.underlying5 Try.underlying9 (Kd.own_of_R hR)
  obtain ⟨A, c, e1⟩ := Kd.R_slice hR
  rw [e1] at hcv
  clear hR n28
  go_simp
  first | exact ⟨_, rfl, rfl⟩ | exact ⟨_, rfl, rfl, .inl (Below.refl _ _)⟩
theorem sO_30 : StO 30 := by
  intro ops Q hops w0 ga gb e A9 A13 B9 B13 c9 c13 d9 d13 he a w h2 h3 hN hI
  subst hops
  have n21 : a.tmps[27]?.getD undef = .bool false := hN 21 (by decide)
  have n25 : a.tmps[31]?.getD undef = .string (strOfNums (putCmd e.f2)) := hN 25 (by decide)
  have n29 : a.tmps[35]?.getD undef = .string (strOfNums (putCmd e.f2)) := hN 29 (by decide)
  have ho : (opsOf Try.f30 1)[30]? = some (⟨some 36, .binOp .neq 9 (.tmp 31) (.tmp 35) 9, 4, "ref.go:105", #[⟨25, .data⟩, ⟨29, .data⟩, ⟨21, .guard⟩], some (21, false)⟩ : Oper) := by kernel_rfl
  refine wpOp_guarded (d := 27) ho rfl rfl n21 ?_
  clear hN hI ho
  go_simp
  first | exact ⟨_, rfl, rfl⟩ | exact ⟨_, rfl, rfl, .inl (Below.refl _ _)⟩
theorem sO_31 : StO 31 := by
  intro ops Q hops w0 ga gb e A9 A13 B9 B13 c9 c13 d9 d13 he a w h2 h3 hN hI
  subst hops
  have n21 : a.tmps[27]?.getD undef = .bool false := hN 21 (by decide)
  have n30 : a.tmps[36]?.getD undef = .bool false := hN 30 (by decide)
  have ho : (opsOf Try.f30 1)[31]? = some (⟨some 37, .pick (.tmp 27) (.const (Value.bool true)) (.tmp 36), 4, "ref.go:105", #[⟨21, .data⟩, ⟨30, .data⟩], none⟩ : Oper) := by kernel_rfl
  refine wpOp_plain ho rfl ?_
  clear hN hI ho
  go_simp
  first | exact ⟨_, rfl, rfl⟩ | exact ⟨_, rfl, rfl, .inl (Below.refl _ _)⟩
theorem monoO (w0 : World) (ga gb : Nat) (e : S60) (A9 A13 B9 B13 : Option Addr) (c9 c13 d9 d13 : Nat) (he : okS e) (j : Nat) (v : Value) (w w' : World) (h : FO w0 ga gb e A9 A13 B9 B13 c9 c13 d9 d13 he j v w) (hb : Below w.heap.size w w') : FO w0 ga gb e A9 A13 B9 B13 c9 c13 d9 d13 he j v w' := by
  unfold FO at h ⊢
  split <;> first
    | exact True.intro
    | exact h
    | exact Kd.R_below h hb
theorem monoIO (w0 : World) (ga gb : Nat) (e : S60) (A9 A13 B9 B13 : Option Addr) (c9 c13 d9 d13 : Nat) (he : okS e) (c : Nat) (w w' : World) (h : IO w0 ga gb e A9 A13 B9 B13 c9 c13 d9 d13 he c w) (hb : Below w.heap.size w w') : IO w0 ga gb e A9 A13 B9 B13 c9 c13 d9 d13 he c w' := by
  unfold IO at h ⊢
  split <;> first
    | exact True.intro
    | exact ⟨(hb.block ga (Array.getElem?_eq_some_iff.1 h.1).1).trans h.1, (hb.block gb (Array.getElem?_eq_some_iff.1 h.2.1).1).trans h.2.1, Kd.C_below h.2.2.1 hb, h.2.2.2.1, Kd.C_below h.2.2.2.2.1 hb, h.2.2.2.2.2.1, h.2.2.2.2.2.2.trans (hb.mono h.2.2.2.2.2.2.size)⟩
theorem hinO : ∀ i, i < 32 → ∀ d, dstO i = some d → d < 56 := by
  have h2 : ∀ i, i < 32 → (dstO i).all (fun d => decide (d < 56)) = true := by decide
  intro i hi d hd
  have := h2 i hi
  rw [hd] at this
  simpa using this
set_option maxRecDepth 100000 in
theorem regionO {ops : Array Oper} {Q : Exit → Act → World → Prop} (hops : ops = opsOf Try.f30 1) {id_ : Nat} (w0 : World) (ga gb : Nat) (e : S60) (A9 A13 B9 B13 : Option Addr) (c9 c13 d9 d13 : Nat) (he : okS e) (a0 : Act) (w0_ : World) (hI0 : ∀ c, IO w0 ga gb e A9 A13 B9 B13 c9 c13 d9 d13 he c w0_) (hsz : a0.tmps.size = 56) (h2 : a0.tmps[2]?.getD undef = .pointer (some ⟨ga, 0, none⟩)) (h3 : a0.tmps[3]?.getD undef = .pointer (some ⟨gb, 0, none⟩))
    (hQ : ∀ a w, AgreeO 32 dstO a0 a → FO w0 ga gb e A9 A13 B9 B13 c9 c13 d9 d13 he 31 (slotO dstO a 31) w → IO w0 ga gb e A9 A13 B9 B13 c9 c13 d9 d13 he 0 w → Q .normal a w) : (Code.region id_ ops true).wp Try.prog Q a0 w0_ := by
  refine region_heldB (n := 32) dstO (FO w0 ga gb e A9 A13 B9 B13 c9 c13 d9 d13 he) (IO w0 ga gb e A9 A13 B9 B13 c9 c13 d9 d13 he) 1 ndO ncO usO killO killIO useIO (by kernel_rfl) (by rw [hops]; kernel_rfl) (by decide) ?_ (fun j v w w' _ h hb => monoO w0 ga gb e A9 A13 B9 B13 c9 c13 d9 d13 he j v w w' h hb) (fun c w w' h hb => monoIO w0 ga gb e A9 A13 B9 B13 c9 c13 d9 d13 he c w w' h hb) hI0 (by rw [hops]; kernel_rfl) (by decide) (by decide) (by decide) (by decide) (by decide) ?_ (fun a w hA hF hI => hQ a w hA (hF 31 (by decide) (by decide)) (hI 0 (by decide) (by decide)))
  · intro i hi d hd
    rw [hsz]; exact hinO i hi d hd
  · intro i a w hi hA hN hI
    have h2 := (hA.old 2 (by decide)).trans h2
    have h3 := (hA.old 3 (by decide)).trans h3
    have hi' : i = 0 ∨ i = 1 ∨ i = 2 ∨ i = 3 ∨ i = 4 ∨ i = 5 ∨ i = 6 ∨ i = 7 ∨ i = 8 ∨ i = 9 ∨ i = 10 ∨ i = 11 ∨ i = 12 ∨ i = 13 ∨ i = 14 ∨ i = 15 ∨ i = 16 ∨ i = 17 ∨ i = 18 ∨ i = 19 ∨ i = 20 ∨ i = 21 ∨ i = 22 ∨ i = 23 ∨ i = 24 ∨ i = 25 ∨ i = 26 ∨ i = 27 ∨ i = 28 ∨ i = 29 ∨ i = 30 ∨ i = 31 := by omega
    rcases hi' with rfl | rfl | rfl | rfl | rfl | rfl | rfl | rfl | rfl | rfl | rfl | rfl | rfl | rfl | rfl | rfl | rfl | rfl | rfl | rfl | rfl | rfl | rfl | rfl | rfl | rfl | rfl | rfl | rfl | rfl | rfl | rfl
    · exact sO_0 ops Q hops w0 ga gb e A9 A13 B9 B13 c9 c13 d9 d13 he a w h2 h3 hN hI
    · exact sO_1 ops Q hops w0 ga gb e A9 A13 B9 B13 c9 c13 d9 d13 he a w h2 h3 hN hI
    · exact sO_2 ops Q hops w0 ga gb e A9 A13 B9 B13 c9 c13 d9 d13 he a w h2 h3 hN hI
    · exact sO_3 ops Q hops w0 ga gb e A9 A13 B9 B13 c9 c13 d9 d13 he a w h2 h3 hN hI
    · exact sO_4 ops Q hops w0 ga gb e A9 A13 B9 B13 c9 c13 d9 d13 he a w h2 h3 hN hI
    · exact sO_5 ops Q hops w0 ga gb e A9 A13 B9 B13 c9 c13 d9 d13 he a w h2 h3 hN hI
    · exact sO_6 ops Q hops w0 ga gb e A9 A13 B9 B13 c9 c13 d9 d13 he a w h2 h3 hN hI
    · exact sO_7 ops Q hops w0 ga gb e A9 A13 B9 B13 c9 c13 d9 d13 he a w h2 h3 hN hI
    · exact sO_8 ops Q hops w0 ga gb e A9 A13 B9 B13 c9 c13 d9 d13 he a w h2 h3 hN hI
    · exact sO_9 ops Q hops w0 ga gb e A9 A13 B9 B13 c9 c13 d9 d13 he a w h2 h3 hN hI
    · exact sO_10 ops Q hops w0 ga gb e A9 A13 B9 B13 c9 c13 d9 d13 he a w h2 h3 hN hI
    · exact sO_11 ops Q hops w0 ga gb e A9 A13 B9 B13 c9 c13 d9 d13 he a w h2 h3 hN hI
    · exact sO_12 ops Q hops w0 ga gb e A9 A13 B9 B13 c9 c13 d9 d13 he a w h2 h3 hN hI
    · exact sO_13 ops Q hops w0 ga gb e A9 A13 B9 B13 c9 c13 d9 d13 he a w h2 h3 hN hI
    · exact sO_14 ops Q hops w0 ga gb e A9 A13 B9 B13 c9 c13 d9 d13 he a w h2 h3 hN hI
    · exact sO_15 ops Q hops w0 ga gb e A9 A13 B9 B13 c9 c13 d9 d13 he a w h2 h3 hN hI
    · exact sO_16 ops Q hops w0 ga gb e A9 A13 B9 B13 c9 c13 d9 d13 he a w h2 h3 hN hI
    · exact sO_17 ops Q hops w0 ga gb e A9 A13 B9 B13 c9 c13 d9 d13 he a w h2 h3 hN hI
    · exact sO_18 ops Q hops w0 ga gb e A9 A13 B9 B13 c9 c13 d9 d13 he a w h2 h3 hN hI
    · exact sO_19 ops Q hops w0 ga gb e A9 A13 B9 B13 c9 c13 d9 d13 he a w h2 h3 hN hI
    · exact sO_20 ops Q hops w0 ga gb e A9 A13 B9 B13 c9 c13 d9 d13 he a w h2 h3 hN hI
    · exact sO_21 ops Q hops w0 ga gb e A9 A13 B9 B13 c9 c13 d9 d13 he a w h2 h3 hN hI
    · exact sO_22 ops Q hops w0 ga gb e A9 A13 B9 B13 c9 c13 d9 d13 he a w h2 h3 hN hI
    · exact sO_23 ops Q hops w0 ga gb e A9 A13 B9 B13 c9 c13 d9 d13 he a w h2 h3 hN hI
    · exact sO_24 ops Q hops w0 ga gb e A9 A13 B9 B13 c9 c13 d9 d13 he a w h2 h3 hN hI
    · exact sO_25 ops Q hops w0 ga gb e A9 A13 B9 B13 c9 c13 d9 d13 he a w h2 h3 hN hI
    · exact sO_26 ops Q hops w0 ga gb e A9 A13 B9 B13 c9 c13 d9 d13 he a w h2 h3 hN hI
    · exact sO_27 ops Q hops w0 ga gb e A9 A13 B9 B13 c9 c13 d9 d13 he a w h2 h3 hN hI
    · exact sO_28 ops Q hops w0 ga gb e A9 A13 B9 B13 c9 c13 d9 d13 he a w h2 h3 hN hI
    · exact sO_29 ops Q hops w0 ga gb e A9 A13 B9 B13 c9 c13 d9 d13 he a w h2 h3 hN hI
    · exact sO_30 ops Q hops w0 ga gb e A9 A13 B9 B13 c9 c13 d9 d13 he a w h2 h3 hN hI
    · exact sO_31 ops Q hops w0 ga gb e A9 A13 B9 B13 c9 c13 d9 d13 he a w h2 h3 hN hI

theorem one_eq (w : World) (e : S60) (cs1 cs2 : List Value) (he : okS e) (h1 : k60.K w e cs1) (h2 : k60.K w e cs2) : Calls Try.prog 30 #[.agg cs1.toArray, .agg cs2.toArray] w fun e w' => e = .returned (.bool true) ∧ Below w.heap.size w w' := by
  obtain ⟨A9, c9, A13, c13, rfl, l9, g9, l13, g13⟩ := k60_open h1
  obtain ⟨B9, d9, B13, d13, rfl, m9, q9, m13, q13⟩ := k60_open h2
  have HK := Aside0.mk (And.intro l9 (And.intro g9 (And.intro m9 q9)))
  have HL := Aside0.mk (And.intro g13 q13)
  have HE := Aside0.mk he
  clear h1 h2 l9 g9 m9 q9 g13 q13 he
  go_enter Try.func30, Try.ntmps30
  go_wp2_with (first
    | ((with_reducible refine gate_dst (N := 2) rfl ?_)
       refine box_event ?hg (N := 2) ?hd (cs := #[.int .i64 e.f0, .int .i64 e.f1, .int .i64 e.f2.f0, .string e.f2.f1, .string e.f2.f2, .string e.f2.f3, .string e.f2.f4, .string e.f2.f5, .string e.f2.f6, .slice A9 e.f2.f7.length c9, .int .i64 e.f2.f8, .int .i64 e.f2.f9, .int .i64 e.f2.f10, .slice A13 e.f3.length c13]) (t := 60) ?hr ?_
       (case hd => rfl)
       (case hg => rfl)
       (case hr => first | (go_simp; done) | (go_simp; rfl))
       intro ga hgb2 wb2 hbox2 hb2
       have HA := Aside0.mk (And.intro hbox2 hb2)
       clear hbox2 hb2 hgb2)
    | ((with_reducible refine gate_dst (N := 3) rfl ?_)
       refine box_event ?hg (N := 3) ?hd (cs := #[.int .i64 e.f0, .int .i64 e.f1, .int .i64 e.f2.f0, .string e.f2.f1, .string e.f2.f2, .string e.f2.f3, .string e.f2.f4, .string e.f2.f5, .string e.f2.f6, .slice B9 e.f2.f7.length d9, .int .i64 e.f2.f8, .int .i64 e.f2.f9, .int .i64 e.f2.f10, .slice B13 e.f3.length d13]) (t := 60) ?hr ?_
       (case hd => rfl)
       (case hg => rfl)
       (case hr => first | (go_simp; done) | (go_simp; rfl))
       intro gb hgb3 wb3 hbox3 hb3
       have HB := Aside0.mk (And.intro hbox3 hb3)
       clear hbox3 hb3 hgb3)
    | fail)
  have HS := Aside0.mk (show Below w.heap.size w wb3 from HA.out.2.trans (HB.out.2.mono HA.out.2.size))
  have HGA := Aside0.mk ((HB.out.2.block ga (Array.getElem?_eq_some_iff.1 HA.out.1).1).trans HA.out.1)
  refine regionO (by kernel_rfl) w ga gb e A9 A13 B9 B13 c9 c13 d9 d13 HE.out _ wb3 ?hI rfl rfl rfl ?_
  case hI => rintro (_ | _) <;> first | exact ⟨HGA.out, HB.out.1, Kd.C_below HK.out.2.1 HS.out, HK.out.1, Kd.C_below HK.out.2.2.2 HS.out, HK.out.2.2.1, HS.out⟩ | exact True.intro
  intro a2 w4 hA h31 hI4
  have e31 : slotO dstO a2 31 = .bool false := h31
  have HI4 : Aside0 (w4.heap[ga]? = some (.cells #[.int .i64 e.f0, .int .i64 e.f1, .int .i64 e.f2.f0, .string e.f2.f1, .string e.f2.f2, .string e.f2.f3, .string e.f2.f4, .string e.f2.f5, .string e.f2.f6, .slice A9 e.f2.f7.length c9, .int .i64 e.f2.f8, .int .i64 e.f2.f9, .int .i64 e.f2.f10, .slice A13 e.f3.length c13] 60 (0, 0)) ∧ w4.heap[gb]? = some (.cells #[.int .i64 e.f0, .int .i64 e.f1, .int .i64 e.f2.f0, .string e.f2.f1, .string e.f2.f2, .string e.f2.f3, .string e.f2.f4, .string e.f2.f5, .string e.f2.f6, .slice B9 e.f2.f7.length d9, .int .i64 e.f2.f8, .int .i64 e.f2.f9, .int .i64 e.f2.f10, .slice B13 e.f3.length d13] 60 (0, 0)) ∧ Kd.string.C w4 A9 e.f2.f7.length e.f2.f7 ∧ e.f2.f7.length ≤ c9 ∧ Kd.string.C w4 B9 e.f2.f7.length e.f2.f7 ∧ e.f2.f7.length ≤ d9 ∧ Below w.heap.size w w4) := Aside0.mk hI4
  clear h31 hI4
  rw [hA.frame hinO]
  clear hA
  simp only [List.range_succ, List.range_zero, List.nil_append, List.cons_append, foldO, dstO, List.getD_cons_zero, List.getD_cons_succ, Act.put]
  rw [e31]
  clear e31
  generalize slotO dstO a2 0 = z0
  generalize slotO dstO a2 1 = z1
  generalize slotO dstO a2 2 = z2
  generalize slotO dstO a2 3 = z3
  generalize slotO dstO a2 4 = z4
  generalize slotO dstO a2 5 = z5
  generalize slotO dstO a2 6 = z6
  generalize slotO dstO a2 7 = z7
  generalize slotO dstO a2 8 = z8
  generalize slotO dstO a2 9 = z9
  generalize slotO dstO a2 10 = z10
  generalize slotO dstO a2 11 = z11
  generalize slotO dstO a2 12 = z12
  generalize slotO dstO a2 13 = z13
  generalize slotO dstO a2 14 = z14
  generalize slotO dstO a2 15 = z15
  generalize slotO dstO a2 16 = z16
  generalize slotO dstO a2 17 = z17
  generalize slotO dstO a2 18 = z18
  generalize slotO dstO a2 19 = z19
  generalize slotO dstO a2 20 = z20
  generalize slotO dstO a2 21 = z21
  generalize slotO dstO a2 22 = z22
  generalize slotO dstO a2 23 = z23
  generalize slotO dstO a2 24 = z24
  generalize slotO dstO a2 25 = z25
  generalize slotO dstO a2 26 = z26
  generalize slotO dstO a2 27 = z27
  generalize slotO dstO a2 28 = z28
  generalize slotO dstO a2 29 = z29
  generalize slotO dstO a2 30 = z30
  clear a2
  go_simp
  have p13 : w4.cell? ⟨ga, 13, none⟩ = some (.slice A13 e.f3.length c13) := (blk_cell HI4.out.1 13).trans rfl
  have q13 : w4.cell? ⟨gb, 13, none⟩ = some (.slice B13 e.f3.length d13) := (blk_cell HI4.out.2.1 13).trans rfl
  have HC4 := Aside0.mk (And.intro (Kd.C_below HL.out.1 HI4.out.2.2.2.2.2.2) (Kd.C_below HL.out.2 HI4.out.2.2.2.2.2.2))
  have HB0 := Aside0.mk (Below.refl w4.heap.size w4)
  generalize hn : e.f3.length = n at *
  have HN := Aside0.mk (show n ≤ 9223372036854775807 ∧ e.f3.length = n from ⟨by have := HE.out.1; omega, hn⟩)
  clear hn
  go_wp2_with fail
  go_loopw [41] (fun v41 wr => ∃ i : Nat, v41 = .int .i64 (i : Int) ∧ Aside0 (i ≤ n) ∧ Aside0 (Below w4.heap.size w4 wr)) (fun v41 _ => n - (intOf v41).toNat)
  case atStart => exact ⟨0, rfl, Aside0.mk (Nat.zero_le _), HB0⟩
  case round =>
    obtain ⟨i, rfl, HI, HW⟩ := hrel
    by_cases hin : i < n
    · have d1 : decide ((i : Int) < (n : Int)) = true := decide_eq_true (by omega)
      have hi2 : (i : Int) < (n : Int) := by omega
      have hi0 : (0 : Int) ≤ (i : Int) := by omega
      have HIN := Aside0.mk hin
      have hwi : wrap64 ((i : Int) + 1) = ((i + 1 : Nat) : Int) := by have := HN.out; unfold wrap64; omega
      obtain ⟨x1, hx1, y1⟩ := int_at (Kd.C_below HC4.out.1 HW.out) hin
      obtain ⟨x2, hx2, y2⟩ := int_at (Kd.C_below HC4.out.2 HW.out) hin
      subst hx1 hx2
      generalize e.f3.getD i 0 = z at y1 y2
      have p13' : wr.cell? ⟨ga, 13, none⟩ = some (.slice (some x1) n c13) := cell_below0 HW.out (Array.getElem?_eq_some_iff.1 HI4.out.1).1 p13
      have q13' : wr.cell? ⟨gb, 13, none⟩ = some (.slice (some x2) n d13) := cell_below0 HW.out (Array.getElem?_eq_some_iff.1 HI4.out.2.1).1 q13
      clear p13 q13
      go_wp2_with fail
      go_quiet (fail)
      go_wp2_with fail
      have HW2 := Aside0.mk (pw_below_drewN HW.out nq)
      go_roundw
      case rel => exact ⟨i + 1, by first | rw [hwi] | rfl, Aside0.mk HIN.out, HW2⟩
      case measure => have := HIN.out; first | (rw [hwi]; simp [intOf]; omega) | (simp [intOf]; omega)
    · have d1 : decide ((i : Int) < (n : Int)) = false := decide_eq_false (by omega)
      have hi2 : ¬ ((i : Int) < (n : Int)) := by omega
      have HFIN := Aside0.mk (show Below w.heap.size w wr from HI4.out.2.2.2.2.2.2.trans (HW.out.mono HI4.out.2.2.2.2.2.2.size))
      go_wp2_with fail
      go_ret
      exact ⟨rfl, HFIN.out⟩

theorem same_calls (w : World) (A B : Option Addr) (c d : Nat) (l : List S60) (hA : Kd.C k60 w A l.length l) (hc : l.length ≤ c) (hB : Kd.C k60 w B l.length l) (hd : l.length ≤ d) (h : ∀ x ∈ l, okS x) :
    Calls Try.prog 19 #[.slice A l.length c, .slice B l.length d] w fun e w' => e = .returned (.bool true) ∧ Below w.heap.size w w' := by
  have HK := Aside0.mk (And.intro hA hB)
  have HO := Aside0.mk h
  have HM := Aside0.mk (Kd.C_max hA)
  have HB0 := Aside0.mk (Below.refl w.heap.size w)
  clear hA hB h hc hd
  generalize hn : l.length = n at *
  have HN := Aside0.mk hn
  clear hn
  go_enter Try.func19, Try.ntmps19
  go_wp2_with fail
  go_loopw [13] (fun v13 wr => ∃ i : Nat, v13 = .int .i64 (i : Int) ∧ Aside0 (i ≤ n) ∧ Aside0 (Below w.heap.size w wr)) (fun v13 _ => n - (intOf v13).toNat)
  case atStart => exact ⟨0, rfl, Aside0.mk (Nat.zero_le _), HB0⟩
  case round =>
    obtain ⟨i, rfl, HI, HW⟩ := hrel
    by_cases hin : i < n
    · have d1 : decide ((i : Int) < (n : Int)) = true := decide_eq_true (by omega)
      have hi2 : (i : Int) < (n : Int) := by omega
      have hi0 : (0 : Int) ≤ (i : Int) := by omega
      have HIN := Aside0.mk hin
      have hwi : wrap64 ((i : Int) + 1) = ((i + 1 : Nat) : Int) := by have := HM.out; unfold wrap64; omega
      obtain ⟨ad, A9, c9, A13, c13, rfl, y0, y1, y2, y3, y4, y5, y6, y7, y8, y9, y10, y11, y12, y13, l9, g9, l13, g13⟩ := at_T60 (Kd.C_below HK.out.1 HW.out) (i : Int) hi0 hi2
      obtain ⟨ad', B9, d9, B13, d13, rfl, x0, x1, x2, x3, x4, x5, x6, x7, x8, x9, x10, x11, x12, x13, m9, r9, m13, r13⟩ := at_T60 (Kd.C_below HK.out.2 HW.out) (i : Int) hi0 hi2
      rw [Int.toNat_natCast] at y0 y1 y2 y3 y4 y5 y6 y7 y8 y9 y10 y11 y12 y13 x0 x1 x2 x3 x4 x5 x6 x7 x8 x9 x10 x11 x12 x13
      have hoe : okS (rd_T60 l (i : Int)) := HO.out _ (by simp [rd_T60]; rw [List.getElem?_eq_getElem (by have := HN.out; omega)]; exact List.getElem_mem _)
      have HX := Aside0.mk (fun W (hW : Below wr.heap.size wr W) => one_eq W (rd_T60 l (i : Int)) _ _ hoe (k60.K_below hW (k60_mk wr _ l9 g9 l13 g13)) (k60.K_below hW (k60_mk wr _ m9 r9 m13 r13)))
      generalize rd_T60 l (i : Int) = e at *
      clear l9 g9 l13 g13 m9 r9 m13 r13 hoe
      go_wp2_with fail
      go_still_tail 8, (by kernel_rfl)
      change wpList _ _ _ _ _ wr.drew
      have HWD := Aside0.mk (show Below wr.heap.size wr wr.drew from below_drew (Below.refl _ _))
      generalize wr.drew = wd at *
      clear y0 y1 y2 y3 y4 y5 y6 y7 y8 y9 y10 y11 y12 y13 x0 x1 x2 x3 x4 x5 x6 x7 x8 x9 x10 x11 x12 x13
      go_wp2_with fail
      refine (HX.out wd HWD.out).mono ?_
      rintro _ w6 ⟨rfl, hb⟩
      have HW6 := Aside0.mk (show Below w.heap.size w w6 from HW.out.trans ((HWD.out.trans (hb.mono HWD.out.size)).mono HW.out.size))
      clear hb
      go_wp2_with fail
      go_roundw
      case rel => exact ⟨i + 1, by first | rw [hwi] | rfl, Aside0.mk HIN.out, HW6⟩
      case measure => have := HIN.out; first | (rw [hwi]; simp [intOf]; omega) | (simp [intOf]; omega)
    · have d1 : decide ((i : Int) < (n : Int)) = false := decide_eq_false (by omega)
      have hi2 : ¬ ((i : Int) < (n : Int)) := by omega
      go_wp2_with fail
      go_ret
      exact ⟨rfl, HW.out⟩
theorem okS_en (t : Int) : okS (en t) := by
  refine ⟨by simp [en], by simp [en], ?_⟩
  simp [cmdLen, en, namesLen, ByteArray.size]
theorem okS_ens (ts : List Int) : ∀ x ∈ ts.map en, okS x := by
  intro x hx
  obtain ⟨t, _, rfl⟩ := List.mem_map.1 hx
  exact okS_en t
end Go.Proofs.Ytigjfnleinhahaa.PLog
