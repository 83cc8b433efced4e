/- The order of rows: by when they were used, then by number. -/
import Derived.Test.YtahkokbfghifhaaDone
import Derived.Test.YtahkokbfghifhaaProg
import Derived.Below
import Derived.Deep.Draws
import Derived.Deep.AppendLies
import Derived.Maps.AppendAt
import Derived.OwnWalk
import Derived.Laws.BytesArg
import Derived.Laws.MakeOwn
import Derived.Laws.OwnMore
import Derived.Deep.OwnRows
import Derived.Tactics
import Derived.Lib.ConvBytes
import Derived.Laws.Slices
import Derived.WalkKit
import Derived.KernelRfl
import Derived.RowKit3
import Derived.Deep.LoopGhost
import Derived.Deep.QuietTactic
import Derived.BigQuiet
import Derived.WideLaws
import Derived.Deep.DeepCutAuto
import Derived.Deep.CutBlock
import Derived.Deep.RegionHeld3
import Derived.Laws.Rows
import Derived.Lib.AppendStr
import Derived.ArgAppend
import Derived.Laws.IdiomCopy
import Derived.OrdersHeld
import Derived.Laws.BitsLemmas
import Derived.RowKit
import Derived.Test.YtahkokbfghifhaaWWords
import Derived.Test.YtahkokbfghifhaaWLast
import Derived.Test.YtahkokbfghifhaaWTab
import Derived.Test.YtahkokbfghifhaaWFour
import Derived.Test.YtahkokbfghifhaaWQPut
import Derived.Test.YtahkokbfghifhaaWApart
import Derived.Test.YtahkokbfghifhaaWArr
import Derived.Test.YtahkokbfghifhaaWZeros
import Derived.Test.YtahkokbfghifhaaWFoot
import Derived.Test.YtahkokbfghifhaaWKept
import Derived.Test.YtahkokbfghifhaaWShare
import Derived.Test.YtahkokbfghifhaaWN
import Derived.Test.YtahkokbfghifhaaWFootNe
import Derived.Test.YtahkokbfghifhaaWAt
import Derived.Test.YtahkokbfghifhaaWEqStruct
import Derived.Test.YtahkokbfghifhaaWRepsOne
import Derived.Test.YtahkokbfghifhaaWInv
import Derived.Test.YtahkokbfghifhaaWInvWords
import Derived.Test.YtahkokbfghifhaaWGuard
import Derived.Test.YtahkokbfghifhaaWNEv
import Derived.Test.YtahkokbfghifhaaWMore
namespace Go.Proofs.Ytahkokbfghifhaa.PS
open Go.RowKit Go.Proofs.YtahkokbfghifhaaW.PrintWords Go.Proofs.YtahkokbfghifhaaW.PrintLast Go.Proofs.YtahkokbfghifhaaW.PrintMore
set_option linter.unusedVariables false
set_option linter.unusedSimpArgs false
set_option maxHeartbeats 4000000
set_option maxRecDepth 100000

open Go.Proofs.Ytahkokbfghifhaa.Reg
theorem nan_calls (x : Int) (w : World) : Calls Try.prog 43 #[.int .i64 x] w fun e w' => e = .returned (.bool false) ∧ w = w' := by
  go_enter Try.func43, Try.ntmps43
  go_wp2
  go_ret
  exact ⟨by simp, rfl⟩
def cmpv (x y : Int) : Int := if x < y then -1 else if x > y then 1 else 0
theorem compare_calls (x y : Int) (w : World) : Calls Try.prog 27 #[.int .i64 x, .int .i64 y] w fun e w' => e = .returned (.int .i64 (cmpv x y)) ∧ w = w' := by
  unfold cmpv
  by_cases h1 : x < y
  · rw [if_pos h1]
    have d1 : decide (x < y) = true := decide_eq_true h1
    go_enter Try.func27, Try.ntmps27
    go_wp2_with fail
    refine (nan_calls x w).mono ?_
    rintro _ _ ⟨rfl, rfl⟩
    go_wp2_with fail
    refine (nan_calls y w).mono ?_
    rintro _ _ ⟨rfl, rfl⟩
    go_wp2_with fail
    go_ret
    exact ⟨rfl, rfl⟩
  · rw [if_neg h1]
    have d1 : decide (x < y) = false := decide_eq_false h1
    by_cases h2 : x > y
    · rw [if_pos h2]
      have d2 : decide (x > y) = true := decide_eq_true h2
      go_enter Try.func27, Try.ntmps27
      go_wp2_with fail
      refine (nan_calls x w).mono ?_
      rintro _ _ ⟨rfl, rfl⟩
      go_wp2_with fail
      refine (nan_calls y w).mono ?_
      rintro _ _ ⟨rfl, rfl⟩
      go_wp2_with fail
      go_ret
      exact ⟨rfl, rfl⟩
    · rw [if_neg h2]
      have d2 : decide (x > y) = false := decide_eq_false h2
      go_enter Try.func27, Try.ntmps27
      go_wp2_with fail
      refine (nan_calls x w).mono ?_
      rintro _ _ ⟨rfl, rfl⟩
      go_wp2_with fail
      refine (nan_calls y w).mono ?_
      rintro _ _ ⟨rfl, rfl⟩
      go_wp2_with fail
      go_ret
      exact ⟨rfl, rfl⟩
theorem or_calls0 (y : Int) (h : Nat) (w : World) (h0 : w.cell? ⟨h, 0, none⟩ = some (.int .i64 0)) (h1 : w.cell? ⟨h, 1, none⟩ = some (.int .i64 y)) :
    Calls Try.prog 26 #[.slice (some ⟨h, 0, none⟩) 2 2] w fun e w' => e = .returned (.int .i64 y) ∧ w = w' := by
  by_cases hy : y = 0
  · subst hy
    go_enter Try.func26, Try.ntmps26
    go_wp2
    refine wp_loop_rounds 3 ?_
    iterate 3 (rw [rounds_succ]; go_wp2)
    go_ret
    exact ⟨rfl, rfl⟩
  · have d1 : (y != 0) = true := by simpa using hy
    have d2 : (y == 0) = false := by simpa using hy
    clear hy
    go_enter Try.func26, Try.ntmps26
    go_wp2
    refine wp_loop_rounds 2 ?_
    iterate 2 (rw [rounds_succ]; go_wp2)
    go_ret
    exact ⟨rfl, rfl⟩
theorem or_calls1 (x y : Int) (h : Nat) (w : World) (h0 : w.cell? ⟨h, 0, none⟩ = some (.int .i64 x)) (h1 : w.cell? ⟨h, 1, none⟩ = some (.int .i64 y)) (hx : x ≠ 0) :
    Calls Try.prog 26 #[.slice (some ⟨h, 0, none⟩) 2 2] w fun e w' => e = .returned (.int .i64 x) ∧ w = w' := by
  have d1 : (x != 0) = true := by simpa using hx
  have d2 : (x == 0) = false := by simpa using hx
  clear hx
  go_enter Try.func26, Try.ntmps26
  go_wp2
  refine wp_loop_rounds 1 ?_
  rw [rounds_succ]
  go_wp2
  go_ret
  exact ⟨rfl, rfl⟩
theorem or_calls (x y : Int) (h : Nat) (w : World) (h0 : w.cell? ⟨h, 0, none⟩ = some (.int .i64 x)) (h1 : w.cell? ⟨h, 1, none⟩ = some (.int .i64 y)) :
    Calls Try.prog 26 #[.slice (some ⟨h, 0, none⟩) 2 2] w fun e w' => e = .returned (.int .i64 (if x = 0 then y else x)) ∧ w = w' := by
  by_cases hx : x = 0
  · subst hx
    exact or_calls0 y h w h0 h1
  · rw [if_neg hx]
    exact or_calls1 x y h w h0 h1 hx
/-- The sign of two rows' order: by when they were used, then by number. -/
def ordv (u1 i1 u2 i2 : Int) : Int := if cmpv u1 u2 = 0 then cmpv i1 i2 else cmpv u1 u2
theorem ordv_lt (u1 i1 u2 i2 : Int) : ordv u1 i1 u2 i2 < 0 ↔ (u1 < u2 ∨ u1 = u2 ∧ i1 < i2) := by
  unfold ordv cmpv
  by_cases h1 : u1 < u2
  · simp [h1]
  · by_cases h2 : u2 < u1
    · simp [h1, h2]; omega
    · have h3 : u1 = u2 := by omega
      subst h3
      simp
      by_cases h4 : i1 < i2
      · simp [h4]
      · by_cases h5 : i2 < i1 <;> simp [h4, h5]
def dstCI (i : Nat) : Option Nat := ([some 5, some 6, some 7, some 8, some 9, some 10, some 11, some 12, some 13, some 14, some 15, some 16, some 4] : List (Option Nat)).getD i none
def ndCI : List (List Nat) := [[], [0], [], [2], [1, 3], [], [5], [], [7], [6, 8, 4], [4, 9], [10, 9], [11, 11, 0, 1, 2, 3, 4, 5, 6, 7, 8, 9, 10, 11]]
def usCI : List (List Nat) := [[], [0], [], [2], [1, 3], [], [5], [], [7], [6, 8], [4, 9], [10], [11]]
def ncCI : List (List Nat) := [[], [0], [], [2], [0, 1, 2, 3], [], [5], [], [7], [0, 1, 2, 3, 4, 5, 6, 7, 8], [0, 1, 2, 3, 4, 5, 6, 7, 8, 9], [0, 1, 2, 3, 4, 5, 6, 7, 8, 9, 10], [0, 1, 2, 3, 4, 5, 6, 7, 8, 9, 10, 11]]
def killCI (h j : Nat) : Bool := (false)
def killICI (_ : Nat) : Bool := false
def useICI (h : Nat) : Bool := [1, 3, 6, 8].contains h
def ICI (w0 : World) (b1 b2 : Nat) (x y : S45) (w : World) : Prop := w.heap[b1]? = some (.cells (cs45 x).toArray 45 (0, 0)) ∧ w.heap[b2]? = some (.cells (cs45 y).toArray 45 (0, 0)) ∧ Below w0.heap.size w0 w
def FCI (w0 : World) (b1 b2 : Nat) (x y : S45) : Nat → Value → World → Prop
  | 0, v, w => v = .pointer (some ⟨b1, 2, none⟩)
  | 1, v, w => v = .int .i64 x.f2
  | 2, v, w => v = .pointer (some ⟨b2, 2, none⟩)
  | 3, v, w => v = .int .i64 y.f2
  | 4, v, w => v = .int .i64 (cmpv x.f2 y.f2)
  | 5, v, w => v = .pointer (some ⟨b1, 0, none⟩)
  | 6, v, w => v = .int .i64 x.f0
  | 7, v, w => v = .pointer (some ⟨b2, 0, none⟩)
  | 8, v, w => v = .int .i64 y.f0
  | 9, v, w => v = .int .i64 (cmpv x.f0 y.f0)
  | 10, v, w => ∃ h, v = .slice (some ⟨h, 0, none⟩) 2 2 ∧ w.heap[h]? = some (.cells #[.int .i64 (cmpv x.f2 y.f2), .int .i64 (cmpv x.f0 y.f0)] 3 (0, 0))
  | 11, v, w => v = .int .i64 (ordv x.f2 x.f0 y.f2 y.f0)
  | 12, v, w => v = .int .i64 (ordv x.f2 x.f0 y.f2 y.f0)
  | _, _, _ => True
set_option maxRecDepth 100000 in
theorem sCI_0 {ops : Array Oper} {Q : Exit → Act → World → Prop} (hops : ops = opsOf Try.f25 1) (w0 : World) (b1 b2 : Nat) (x y : S45) (a : Act) (w : World) (h2 : a.tmps[2]?.getD undef = .pointer (some ⟨b1, 0, none⟩)) (h3 : a.tmps[3]?.getD undef = .pointer (some ⟨b2, 0, none⟩))
    (hN : ∀ j, j ∈ usCI.getD 0 [] → FCI w0 b1 b2 x y j (slotO dstCI a j) w) (hI : useICI 0 = true → ICI w0 b1 b2 x y w) : wpOp Try.prog ops Q 0 (fun a' w' => ∃ v, a' = a.put (dstCI 0) v ∧ FCI w0 b1 b2 x y 0 (valO dstCI 0 v) w' ∧ (Below w.heap.size w w' ∨ ((∀ j u, j < 13 → j ≠ 0 → killCI 0 j = false → (ncCI.getD j []).contains 0 = false → FCI w0 b1 b2 x y j u w → FCI w0 b1 b2 x y j u w') ∧ (killICI 0 = false → ICI w0 b1 b2 x y w → ICI w0 b1 b2 x y w')))) a w := by
  subst hops
  have ho : (opsOf Try.f25 1)[0]? = some ({ dst := some 5, op := Go.Op.fieldAddr 45 (Go.Operand.tmp 2) 2, type := 0, pos := "session.go:25", after := #[], guard := none } : Oper) := by kernel_rfl
  refine wpOp_plain ho rfl ?_
  clear hN hI ho
  go_simp
  first | exact ⟨_, rfl, rfl⟩ | exact ⟨_, rfl, rfl, .inl (Below.refl _ _)⟩
set_option maxRecDepth 100000 in
theorem sCI_1 {ops : Array Oper} {Q : Exit → Act → World → Prop} (hops : ops = opsOf Try.f25 1) (w0 : World) (b1 b2 : Nat) (x y : S45) (a : Act) (w : World) (h2 : a.tmps[2]?.getD undef = .pointer (some ⟨b1, 0, none⟩)) (h3 : a.tmps[3]?.getD undef = .pointer (some ⟨b2, 0, none⟩))
    (hN : ∀ j, j ∈ usCI.getD 1 [] → FCI w0 b1 b2 x y j (slotO dstCI a j) w) (hI : useICI 1 = true → ICI w0 b1 b2 x y w) : wpOp Try.prog ops Q 1 (fun a' w' => ∃ v, a' = a.put (dstCI 1) v ∧ FCI w0 b1 b2 x y 1 (valO dstCI 1 v) w' ∧ (Below w.heap.size w w' ∨ ((∀ j u, j < 13 → j ≠ 1 → killCI 1 j = false → (ncCI.getD j []).contains 1 = false → FCI w0 b1 b2 x y j u w → FCI w0 b1 b2 x y j u w') ∧ (killICI 1 = false → ICI w0 b1 b2 x y w → ICI w0 b1 b2 x y w')))) a w := by
  subst hops
  have n0 : a.tmps[5]?.getD undef = .pointer (some ⟨b1, 2, none⟩) := hN 0 (by decide)
  have hi : ICI w0 b1 b2 x y w := hI (by decide)
  have ho : (opsOf Try.f25 1)[1]? = some ({ dst := some 6, op := Go.Op.load 3 (Go.Operand.tmp 5), type := 3, pos := "session.go:25", after := #[{ on := 0, ground := Go.Ground.data }], guard := none } : Oper) := by kernel_rfl
  refine wpOp_plain ho rfl ?_
  clear hN hI ho
  obtain ⟨h1, h2, -⟩ := hi
  have hc : w.cell? ⟨b1, 2, none⟩ = some (.int .i64 x.f2) := by simp [World.cell?, h1, cs45]
  clear h1 h2
  go_simp
  first | exact ⟨_, rfl, rfl⟩ | exact ⟨_, rfl, rfl, .inl (Below.refl _ _)⟩
set_option maxRecDepth 100000 in
theorem sCI_2 {ops : Array Oper} {Q : Exit → Act → World → Prop} (hops : ops = opsOf Try.f25 1) (w0 : World) (b1 b2 : Nat) (x y : S45) (a : Act) (w : World) (h2 : a.tmps[2]?.getD undef = .pointer (some ⟨b1, 0, none⟩)) (h3 : a.tmps[3]?.getD undef = .pointer (some ⟨b2, 0, none⟩))
    (hN : ∀ j, j ∈ usCI.getD 2 [] → FCI w0 b1 b2 x y j (slotO dstCI a j) w) (hI : useICI 2 = true → ICI w0 b1 b2 x y w) : wpOp Try.prog ops Q 2 (fun a' w' => ∃ v, a' = a.put (dstCI 2) v ∧ FCI w0 b1 b2 x y 2 (valO dstCI 2 v) w' ∧ (Below w.heap.size w w' ∨ ((∀ j u, j < 13 → j ≠ 2 → killCI 2 j = false → (ncCI.getD j []).contains 2 = false → FCI w0 b1 b2 x y j u w → FCI w0 b1 b2 x y j u w') ∧ (killICI 2 = false → ICI w0 b1 b2 x y w → ICI w0 b1 b2 x y w')))) a w := by
  subst hops
  have ho : (opsOf Try.f25 1)[2]? = some ({ dst := some 7, op := Go.Op.fieldAddr 45 (Go.Operand.tmp 3) 2, type := 0, pos := "session.go:25", after := #[], guard := none } : Oper) := by kernel_rfl
  refine wpOp_plain ho rfl ?_
  clear hN hI ho
  go_simp
  first | exact ⟨_, rfl, rfl⟩ | exact ⟨_, rfl, rfl, .inl (Below.refl _ _)⟩
set_option maxRecDepth 100000 in
theorem sCI_3 {ops : Array Oper} {Q : Exit → Act → World → Prop} (hops : ops = opsOf Try.f25 1) (w0 : World) (b1 b2 : Nat) (x y : S45) (a : Act) (w : World) (h2 : a.tmps[2]?.getD undef = .pointer (some ⟨b1, 0, none⟩)) (h3 : a.tmps[3]?.getD undef = .pointer (some ⟨b2, 0, none⟩))
    (hN : ∀ j, j ∈ usCI.getD 3 [] → FCI w0 b1 b2 x y j (slotO dstCI a j) w) (hI : useICI 3 = true → ICI w0 b1 b2 x y w) : wpOp Try.prog ops Q 3 (fun a' w' => ∃ v, a' = a.put (dstCI 3) v ∧ FCI w0 b1 b2 x y 3 (valO dstCI 3 v) w' ∧ (Below w.heap.size w w' ∨ ((∀ j u, j < 13 → j ≠ 3 → killCI 3 j = false → (ncCI.getD j []).contains 3 = false → FCI w0 b1 b2 x y j u w → FCI w0 b1 b2 x y j u w') ∧ (killICI 3 = false → ICI w0 b1 b2 x y w → ICI w0 b1 b2 x y w')))) a w := by
  subst hops
  have n2 : a.tmps[7]?.getD undef = .pointer (some ⟨b2, 2, none⟩) := hN 2 (by decide)
  have hi : ICI w0 b1 b2 x y w := hI (by decide)
  have ho : (opsOf Try.f25 1)[3]? = some ({ dst := some 8, op := Go.Op.load 3 (Go.Operand.tmp 7), type := 3, pos := "session.go:25", after := #[{ on := 2, ground := Go.Ground.data }], guard := none } : Oper) := by kernel_rfl
  refine wpOp_plain ho rfl ?_
  clear hN hI ho
  obtain ⟨h1, h2, -⟩ := hi
  have hc : w.cell? ⟨b2, 2, none⟩ = some (.int .i64 y.f2) := by simp [World.cell?, h2, cs45]
  clear h1 h2
  go_simp
  first | exact ⟨_, rfl, rfl⟩ | exact ⟨_, rfl, rfl, .inl (Below.refl _ _)⟩
set_option maxRecDepth 100000 in
theorem sCI_4 {ops : Array Oper} {Q : Exit → Act → World → Prop} (hops : ops = opsOf Try.f25 1) (w0 : World) (b1 b2 : Nat) (x y : S45) (a : Act) (w : World) (h2 : a.tmps[2]?.getD undef = .pointer (some ⟨b1, 0, none⟩)) (h3 : a.tmps[3]?.getD undef = .pointer (some ⟨b2, 0, none⟩))
    (hN : ∀ j, j ∈ usCI.getD 4 [] → FCI w0 b1 b2 x y j (slotO dstCI a j) w) (hI : useICI 4 = true → ICI w0 b1 b2 x y w) : wpOp Try.prog ops Q 4 (fun a' w' => ∃ v, a' = a.put (dstCI 4) v ∧ FCI w0 b1 b2 x y 4 (valO dstCI 4 v) w' ∧ (Below w.heap.size w w' ∨ ((∀ j u, j < 13 → j ≠ 4 → killCI 4 j = false → (ncCI.getD j []).contains 4 = false → FCI w0 b1 b2 x y j u w → FCI w0 b1 b2 x y j u w') ∧ (killICI 4 = false → ICI w0 b1 b2 x y w → ICI w0 b1 b2 x y w')))) a w := by
  subst hops
  have n1 : a.tmps[6]?.getD undef = .int .i64 x.f2 := hN 1 (by decide)
  have n3 : a.tmps[8]?.getD undef = .int .i64 y.f2 := hN 3 (by decide)
  have ho : (opsOf Try.f25 1)[4]? = some ({ dst := some 9, op := Go.Op.call { callee := Go.Callee.value (Go.Operand.func 27), args := #[Go.Operand.tmp 6, Go.Operand.tmp 8], argTypes := #[3, 3] }, type := 3, pos := "session.go:25", after := #[{ on := 1, ground := Go.Ground.data }, { on := 3, ground := Go.Ground.data }], guard := none } : Oper) := by kernel_rfl
  refine wpOp_plain ho rfl ?_
  clear hN hI ho
  go_simp
  refine (compare_calls x.f2 y.f2 w).mono ?_
  rintro e w' ⟨rfl, rfl⟩
  exact ⟨_, rfl, rfl, .inl (Below.refl _ _)⟩
set_option maxRecDepth 100000 in
theorem sCI_5 {ops : Array Oper} {Q : Exit → Act → World → Prop} (hops : ops = opsOf Try.f25 1) (w0 : World) (b1 b2 : Nat) (x y : S45) (a : Act) (w : World) (h2 : a.tmps[2]?.getD undef = .pointer (some ⟨b1, 0, none⟩)) (h3 : a.tmps[3]?.getD undef = .pointer (some ⟨b2, 0, none⟩))
    (hN : ∀ j, j ∈ usCI.getD 5 [] → FCI w0 b1 b2 x y j (slotO dstCI a j) w) (hI : useICI 5 = true → ICI w0 b1 b2 x y w) : wpOp Try.prog ops Q 5 (fun a' w' => ∃ v, a' = a.put (dstCI 5) v ∧ FCI w0 b1 b2 x y 5 (valO dstCI 5 v) w' ∧ (Below w.heap.size w w' ∨ ((∀ j u, j < 13 → j ≠ 5 → killCI 5 j = false → (ncCI.getD j []).contains 5 = false → FCI w0 b1 b2 x y j u w → FCI w0 b1 b2 x y j u w') ∧ (killICI 5 = false → ICI w0 b1 b2 x y w → ICI w0 b1 b2 x y w')))) a w := by
  subst hops
  have ho : (opsOf Try.f25 1)[5]? = some ({ dst := some 10, op := Go.Op.fieldAddr 45 (Go.Operand.tmp 2) 0, type := 0, pos := "session.go:25", after := #[], guard := none } : Oper) := by kernel_rfl
  refine wpOp_plain ho rfl ?_
  clear hN hI ho
  go_simp
  first | exact ⟨_, rfl, rfl⟩ | exact ⟨_, rfl, rfl, .inl (Below.refl _ _)⟩
set_option maxRecDepth 100000 in
theorem sCI_6 {ops : Array Oper} {Q : Exit → Act → World → Prop} (hops : ops = opsOf Try.f25 1) (w0 : World) (b1 b2 : Nat) (x y : S45) (a : Act) (w : World) (h2 : a.tmps[2]?.getD undef = .pointer (some ⟨b1, 0, none⟩)) (h3 : a.tmps[3]?.getD undef = .pointer (some ⟨b2, 0, none⟩))
    (hN : ∀ j, j ∈ usCI.getD 6 [] → FCI w0 b1 b2 x y j (slotO dstCI a j) w) (hI : useICI 6 = true → ICI w0 b1 b2 x y w) : wpOp Try.prog ops Q 6 (fun a' w' => ∃ v, a' = a.put (dstCI 6) v ∧ FCI w0 b1 b2 x y 6 (valO dstCI 6 v) w' ∧ (Below w.heap.size w w' ∨ ((∀ j u, j < 13 → j ≠ 6 → killCI 6 j = false → (ncCI.getD j []).contains 6 = false → FCI w0 b1 b2 x y j u w → FCI w0 b1 b2 x y j u w') ∧ (killICI 6 = false → ICI w0 b1 b2 x y w → ICI w0 b1 b2 x y w')))) a w := by
  subst hops
  have n5 : a.tmps[10]?.getD undef = .pointer (some ⟨b1, 0, none⟩) := hN 5 (by decide)
  have hi : ICI w0 b1 b2 x y w := hI (by decide)
  have ho : (opsOf Try.f25 1)[6]? = some ({ dst := some 11, op := Go.Op.load 3 (Go.Operand.tmp 10), type := 3, pos := "session.go:25", after := #[{ on := 5, ground := Go.Ground.data }], guard := none } : Oper) := by kernel_rfl
  refine wpOp_plain ho rfl ?_
  clear hN hI ho
  obtain ⟨h1, h2, -⟩ := hi
  have hc : w.cell? ⟨b1, 0, none⟩ = some (.int .i64 x.f0) := by simp [World.cell?, h1, cs45]
  clear h1 h2
  go_simp
  first | exact ⟨_, rfl, rfl⟩ | exact ⟨_, rfl, rfl, .inl (Below.refl _ _)⟩
set_option maxRecDepth 100000 in
theorem sCI_7 {ops : Array Oper} {Q : Exit → Act → World → Prop} (hops : ops = opsOf Try.f25 1) (w0 : World) (b1 b2 : Nat) (x y : S45) (a : Act) (w : World) (h2 : a.tmps[2]?.getD undef = .pointer (some ⟨b1, 0, none⟩)) (h3 : a.tmps[3]?.getD undef = .pointer (some ⟨b2, 0, none⟩))
    (hN : ∀ j, j ∈ usCI.getD 7 [] → FCI w0 b1 b2 x y j (slotO dstCI a j) w) (hI : useICI 7 = true → ICI w0 b1 b2 x y w) : wpOp Try.prog ops Q 7 (fun a' w' => ∃ v, a' = a.put (dstCI 7) v ∧ FCI w0 b1 b2 x y 7 (valO dstCI 7 v) w' ∧ (Below w.heap.size w w' ∨ ((∀ j u, j < 13 → j ≠ 7 → killCI 7 j = false → (ncCI.getD j []).contains 7 = false → FCI w0 b1 b2 x y j u w → FCI w0 b1 b2 x y j u w') ∧ (killICI 7 = false → ICI w0 b1 b2 x y w → ICI w0 b1 b2 x y w')))) a w := by
  subst hops
  have ho : (opsOf Try.f25 1)[7]? = some ({ dst := some 12, op := Go.Op.fieldAddr 45 (Go.Operand.tmp 3) 0, type := 0, pos := "session.go:25", after := #[], guard := none } : Oper) := by kernel_rfl
  refine wpOp_plain ho rfl ?_
  clear hN hI ho
  go_simp
  first | exact ⟨_, rfl, rfl⟩ | exact ⟨_, rfl, rfl, .inl (Below.refl _ _)⟩
set_option maxRecDepth 100000 in
theorem sCI_8 {ops : Array Oper} {Q : Exit → Act → World → Prop} (hops : ops = opsOf Try.f25 1) (w0 : World) (b1 b2 : Nat) (x y : S45) (a : Act) (w : World) (h2 : a.tmps[2]?.getD undef = .pointer (some ⟨b1, 0, none⟩)) (h3 : a.tmps[3]?.getD undef = .pointer (some ⟨b2, 0, none⟩))
    (hN : ∀ j, j ∈ usCI.getD 8 [] → FCI w0 b1 b2 x y j (slotO dstCI a j) w) (hI : useICI 8 = true → ICI w0 b1 b2 x y w) : wpOp Try.prog ops Q 8 (fun a' w' => ∃ v, a' = a.put (dstCI 8) v ∧ FCI w0 b1 b2 x y 8 (valO dstCI 8 v) w' ∧ (Below w.heap.size w w' ∨ ((∀ j u, j < 13 → j ≠ 8 → killCI 8 j = false → (ncCI.getD j []).contains 8 = false → FCI w0 b1 b2 x y j u w → FCI w0 b1 b2 x y j u w') ∧ (killICI 8 = false → ICI w0 b1 b2 x y w → ICI w0 b1 b2 x y w')))) a w := by
  subst hops
  have n7 : a.tmps[12]?.getD undef = .pointer (some ⟨b2, 0, none⟩) := hN 7 (by decide)
  have hi : ICI w0 b1 b2 x y w := hI (by decide)
  have ho : (opsOf Try.f25 1)[8]? = some ({ dst := some 13, op := Go.Op.load 3 (Go.Operand.tmp 12), type := 3, pos := "session.go:25", after := #[{ on := 7, ground := Go.Ground.data }], guard := none } : Oper) := by kernel_rfl
  refine wpOp_plain ho rfl ?_
  clear hN hI ho
  obtain ⟨h1, h2, -⟩ := hi
  have hc : w.cell? ⟨b2, 0, none⟩ = some (.int .i64 y.f0) := by simp [World.cell?, h2, cs45]
  clear h1 h2
  go_simp
  first | exact ⟨_, rfl, rfl⟩ | exact ⟨_, rfl, rfl, .inl (Below.refl _ _)⟩
set_option maxRecDepth 100000 in
theorem sCI_9 {ops : Array Oper} {Q : Exit → Act → World → Prop} (hops : ops = opsOf Try.f25 1) (w0 : World) (b1 b2 : Nat) (x y : S45) (a : Act) (w : World) (h2 : a.tmps[2]?.getD undef = .pointer (some ⟨b1, 0, none⟩)) (h3 : a.tmps[3]?.getD undef = .pointer (some ⟨b2, 0, none⟩))
    (hN : ∀ j, j ∈ usCI.getD 9 [] → FCI w0 b1 b2 x y j (slotO dstCI a j) w) (hI : useICI 9 = true → ICI w0 b1 b2 x y w) : wpOp Try.prog ops Q 9 (fun a' w' => ∃ v, a' = a.put (dstCI 9) v ∧ FCI w0 b1 b2 x y 9 (valO dstCI 9 v) w' ∧ (Below w.heap.size w w' ∨ ((∀ j u, j < 13 → j ≠ 9 → killCI 9 j = false → (ncCI.getD j []).contains 9 = false → FCI w0 b1 b2 x y j u w → FCI w0 b1 b2 x y j u w') ∧ (killICI 9 = false → ICI w0 b1 b2 x y w → ICI w0 b1 b2 x y w')))) a w := by
  subst hops
  have n6 : a.tmps[11]?.getD undef = .int .i64 x.f0 := hN 6 (by decide)
  have n8 : a.tmps[13]?.getD undef = .int .i64 y.f0 := hN 8 (by decide)
  have ho : (opsOf Try.f25 1)[9]? = some ({ dst := some 14, op := Go.Op.call { callee := Go.Callee.value (Go.Operand.func 27), args := #[Go.Operand.tmp 11, Go.Operand.tmp 13], argTypes := #[3, 3] }, type := 3, pos := "session.go:25", after := #[{ on := 6, ground := Go.Ground.data }, { on := 8, ground := Go.Ground.data }, { on := 4, ground := Go.Ground.chain }], guard := none } : Oper) := by kernel_rfl
  refine wpOp_plain ho rfl ?_
  clear hN hI ho
  go_simp
  refine (compare_calls x.f0 y.f0 w).mono ?_
  rintro e w' ⟨rfl, rfl⟩
  exact ⟨_, rfl, rfl, .inl (Below.refl _ _)⟩
set_option maxRecDepth 100000 in
theorem sCI_10 {ops : Array Oper} {Q : Exit → Act → World → Prop} (hops : ops = opsOf Try.f25 1) (w0 : World) (b1 b2 : Nat) (x y : S45) (a : Act) (w : World) (h2 : a.tmps[2]?.getD undef = .pointer (some ⟨b1, 0, none⟩)) (h3 : a.tmps[3]?.getD undef = .pointer (some ⟨b2, 0, none⟩))
    (hN : ∀ j, j ∈ usCI.getD 10 [] → FCI w0 b1 b2 x y j (slotO dstCI a j) w) (hI : useICI 10 = true → ICI w0 b1 b2 x y w) : wpOp Try.prog ops Q 10 (fun a' w' => ∃ v, a' = a.put (dstCI 10) v ∧ FCI w0 b1 b2 x y 10 (valO dstCI 10 v) w' ∧ (Below w.heap.size w w' ∨ ((∀ j u, j < 13 → j ≠ 10 → killCI 10 j = false → (ncCI.getD j []).contains 10 = false → FCI w0 b1 b2 x y j u w → FCI w0 b1 b2 x y j u w') ∧ (killICI 10 = false → ICI w0 b1 b2 x y w → ICI w0 b1 b2 x y w')))) a w := by
  subst hops
  have n4 : a.tmps[9]?.getD undef = .int .i64 (cmpv x.f2 y.f2) := hN 4 (by decide)
  have n9 : a.tmps[14]?.getD undef = .int .i64 (cmpv x.f0 y.f0) := hN 9 (by decide)
  have ho : (opsOf Try.f25 1)[10]? = some ({ dst := some 15, op := Go.Op.buildSlice 22 2 #[(0, Go.Operand.tmp 9), (1, Go.Operand.tmp 14)], type := 22, pos := "session.go:25", after := #[{ on := 4, ground := Go.Ground.data }, { on := 9, ground := Go.Ground.data }], guard := none } : Oper) := by kernel_rfl
  refine wpOp_plain ho rfl ?_
  clear hN hI ho
  go_simp
  exact ⟨_, rfl, ⟨_, rfl, heap_alloc_new _ _⟩, .inl (below_alloc (Below.refl _ _) _)⟩
set_option maxRecDepth 100000 in
theorem sCI_11 {ops : Array Oper} {Q : Exit → Act → World → Prop} (hops : ops = opsOf Try.f25 1) (w0 : World) (b1 b2 : Nat) (x y : S45) (a : Act) (w : World) (h2 : a.tmps[2]?.getD undef = .pointer (some ⟨b1, 0, none⟩)) (h3 : a.tmps[3]?.getD undef = .pointer (some ⟨b2, 0, none⟩))
    (hN : ∀ j, j ∈ usCI.getD 11 [] → FCI w0 b1 b2 x y j (slotO dstCI a j) w) (hI : useICI 11 = true → ICI w0 b1 b2 x y w) : wpOp Try.prog ops Q 11 (fun a' w' => ∃ v, a' = a.put (dstCI 11) v ∧ FCI w0 b1 b2 x y 11 (valO dstCI 11 v) w' ∧ (Below w.heap.size w w' ∨ ((∀ j u, j < 13 → j ≠ 11 → killCI 11 j = false → (ncCI.getD j []).contains 11 = false → FCI w0 b1 b2 x y j u w → FCI w0 b1 b2 x y j u w') ∧ (killICI 11 = false → ICI w0 b1 b2 x y w → ICI w0 b1 b2 x y w')))) a w := by
  subst hops
  have n10 : (fun (v : Value) (w : World) => ∃ h, v = .slice (some ⟨h, 0, none⟩) 2 2 ∧ w.heap[h]? = some (.cells #[.int .i64 (cmpv x.f2 y.f2), .int .i64 (cmpv x.f0 y.f0)] 3 (0, 0))) (a.tmps[15]?.getD undef) w := hN 10 (by decide)
  have ho : (opsOf Try.f25 1)[11]? = some ({ dst := some 16, op := Go.Op.call { callee := Go.Callee.value (Go.Operand.func 26), args := #[Go.Operand.tmp 15], argTypes := #[22] }, type := 3, pos := "session.go:25", after := #[{ on := 10, ground := Go.Ground.data }, { on := 9, ground := Go.Ground.chain }], guard := none } : Oper) := by kernel_rfl
  refine wpOp_plain ho rfl ?_
  clear hN hI ho
  obtain ⟨h, hv, hh⟩ := n10
  have HO := Aside0.mk (or_calls (cmpv x.f2 y.f2) (cmpv x.f0 y.f0) h w (by simp [World.cell?, hh]) (by simp [World.cell?, hh]))
  clear hh
  go_simp
  refine HO.out.mono ?_
  rintro e w' ⟨rfl, rfl⟩
  exact ⟨_, rfl, rfl, .inl (Below.refl _ _)⟩
set_option maxRecDepth 100000 in
theorem sCI_12 {ops : Array Oper} {Q : Exit → Act → World → Prop} (hops : ops = opsOf Try.f25 1) (w0 : World) (b1 b2 : Nat) (x y : S45) (a : Act) (w : World) (h2 : a.tmps[2]?.getD undef = .pointer (some ⟨b1, 0, none⟩)) (h3 : a.tmps[3]?.getD undef = .pointer (some ⟨b2, 0, none⟩))
    (hN : ∀ j, j ∈ usCI.getD 12 [] → FCI w0 b1 b2 x y j (slotO dstCI a j) w) (hI : useICI 12 = true → ICI w0 b1 b2 x y w) : wpOp Try.prog ops Q 12 (fun a' w' => ∃ v, a' = a.put (dstCI 12) v ∧ FCI w0 b1 b2 x y 12 (valO dstCI 12 v) w' ∧ (Below w.heap.size w w' ∨ ((∀ j u, j < 13 → j ≠ 12 → killCI 12 j = false → (ncCI.getD j []).contains 12 = false → FCI w0 b1 b2 x y j u w → FCI w0 b1 b2 x y j u w') ∧ (killICI 12 = false → ICI w0 b1 b2 x y w → ICI w0 b1 b2 x y w')))) a w := by
  subst hops
  have n11 : a.tmps[16]?.getD undef = .int .i64 (ordv x.f2 x.f0 y.f2 y.f0) := hN 11 (by decide)
  have ho : (opsOf Try.f25 1)[12]? = some ({ dst := some 4, op := Go.Op.assign (Go.Operand.tmp 16), type := 3, pos := "session.go:25", after := #[{ on := 11, ground := Go.Ground.data }, { on := 11, ground := Go.Ground.chain }, { on := 0, ground := Go.Ground.phase }, { on := 1, ground := Go.Ground.phase }, { on := 2, ground := Go.Ground.phase }, { on := 3, ground := Go.Ground.phase }, { on := 4, ground := Go.Ground.phase }, { on := 5, ground := Go.Ground.phase }, { on := 6, ground := Go.Ground.phase }, { on := 7, ground := Go.Ground.phase }, { on := 8, ground := Go.Ground.phase }, { on := 9, ground := Go.Ground.phase }, { on := 10, ground := Go.Ground.phase }, { on := 11, ground := Go.Ground.phase }], guard := none } : Oper) := by kernel_rfl
  refine wpOp_plain ho rfl ?_
  clear hN hI ho
  go_simp
  first | exact ⟨_, rfl, rfl⟩ | exact ⟨_, rfl, rfl, .inl (Below.refl _ _)⟩
theorem monoCI (w0 : World) (b1 b2 : Nat) (x y : S45) (j : Nat) (v : Value) (w w' : World) (h : FCI w0 b1 b2 x y j v w) (hb : Below w.heap.size w w') : FCI w0 b1 b2 x y j v w' := by
  unfold FCI at h ⊢
  split <;> first
    | exact True.intro
    | exact h
    | (obtain ⟨q, h1, h2⟩ := h; exact ⟨q, h1, (hb.block q (Array.getElem?_eq_some_iff.1 h2).1).trans h2⟩)
theorem monoICI (w0 : World) (b1 b2 : Nat) (x y : S45) (w w' : World) (h : ICI w0 b1 b2 x y w) (hb : Below w.heap.size w w') : ICI w0 b1 b2 x y w' := by
  obtain ⟨h1, h2, hB⟩ := h
  exact ⟨(hb.block _ (Array.getElem?_eq_some_iff.1 h1).1).trans h1, (hb.block _ (Array.getElem?_eq_some_iff.1 h2).1).trans h2, hB.trans (hb.mono hB.size)⟩
theorem hinCI : ∀ i, i < 13 → ∀ d, dstCI i = some d → d < 17 := by
  have h2 : ∀ i, i < 13 → (dstCI i).all (fun d => decide (d < 17)) = true := by decide
  intro i hi d hd
  have := h2 i hi
  rw [hd] at this
  simpa using this
set_option maxRecDepth 100000 in
theorem regionCI {ops : Array Oper} {Q : Exit → Act → World → Prop} (hops : ops = opsOf Try.f25 1) {id : Nat} (w0 : World) (b1 b2 : Nat) (x y : S45) (a0 : Act) (w0_ : World) (hI0 : ICI w0 b1 b2 x y w0_) (hsz : a0.tmps.size = 17) (h2 : a0.tmps[2]?.getD undef = .pointer (some ⟨b1, 0, none⟩)) (h3 : a0.tmps[3]?.getD undef = .pointer (some ⟨b2, 0, none⟩))
    (hQ : ∀ a w, AgreeO 13 dstCI a0 a → FCI w0 b1 b2 x y 12 (slotO dstCI a 12) w → ICI w0 b1 b2 x y w → Q .normal a w) : (Code.region id ops true).wp Try.prog Q a0 w0_ := by
  refine region_heldA (n := 13) dstCI (FCI w0 b1 b2 x y) (ICI w0 b1 b2 x y) ndCI ncCI usCI killCI killICI useICI (by kernel_rfl) (by rw [hops]; kernel_rfl) (by decide) ?_ (fun j v w w' _ h hb => monoCI w0 b1 b2 x y j v w w' h hb) (fun w w' h hb => monoICI w0 b1 b2 x y w w' h hb) hI0 (by rw [hops]; kernel_rfl) (by decide) (by decide) (by decide) (by decide) (by decide) ?_ (fun a w hA hF hI => hQ a w hA (hF 12 (by decide) (by decide)) (hI (by decide)))
  · intro i hi d hd
    rw [hsz]; exact hinCI i hi d hd
  · intro i a w hi hA hN hI
    have h2 := (hA.old 2 (by decide)).trans h2
    have h3 := (hA.old 3 (by decide)).trans h3
    have hi' : i = 0 ∨ i = 1 ∨ i = 2 ∨ i = 3 ∨ i = 4 ∨ i = 5 ∨ i = 6 ∨ i = 7 ∨ i = 8 ∨ i = 9 ∨ i = 10 ∨ i = 11 ∨ i = 12 := by omega
    rcases hi' with rfl | rfl | rfl | rfl | rfl | rfl | rfl | rfl | rfl | rfl | rfl | rfl | rfl
    · exact sCI_0 hops w0 b1 b2 x y a w h2 h3 hN hI
    · exact sCI_1 hops w0 b1 b2 x y a w h2 h3 hN hI
    · exact sCI_2 hops w0 b1 b2 x y a w h2 h3 hN hI
    · exact sCI_3 hops w0 b1 b2 x y a w h2 h3 hN hI
    · exact sCI_4 hops w0 b1 b2 x y a w h2 h3 hN hI
    · exact sCI_5 hops w0 b1 b2 x y a w h2 h3 hN hI
    · exact sCI_6 hops w0 b1 b2 x y a w h2 h3 hN hI
    · exact sCI_7 hops w0 b1 b2 x y a w h2 h3 hN hI
    · exact sCI_8 hops w0 b1 b2 x y a w h2 h3 hN hI
    · exact sCI_9 hops w0 b1 b2 x y a w h2 h3 hN hI
    · exact sCI_10 hops w0 b1 b2 x y a w h2 h3 hN hI
    · exact sCI_11 hops w0 b1 b2 x y a w h2 h3 hN hI
    · exact sCI_12 hops w0 b1 b2 x y a w h2 h3 hN hI

theorem cmp_callsI (x y : S45) (w : World) : Calls Try.prog 25 #[.agg (cs45 x).toArray, .agg (cs45 y).toArray] w fun e w' => e = .returned (.int .i64 (ordv x.f2 x.f0 y.f2 y.f0)) ∧ Below w.heap.size w w' := by
  have s1 : (w.alloc (Obj.cells (cs45 x).toArray 45)).heap.size = w.heap.size + 1 := by show (w.heap.push _).size = _; rw [Array.size_push]
  have k1 := heap_alloc_new w (Obj.cells (cs45 x).toArray 45)
  have k2 := heap_alloc_new (w.alloc (Obj.cells (cs45 x).toArray 45)) (Obj.cells (cs45 y).toArray 45)
  have b2 := below_alloc (Below.refl (w.alloc (Obj.cells (cs45 x).toArray 45)).heap.size (w.alloc (Obj.cells (cs45 x).toArray 45))) (Obj.cells (cs45 y).toArray 45)
  rw [s1] at k2
  have hI : ICI ((w.alloc (Obj.cells (cs45 x).toArray 45)).alloc (Obj.cells (cs45 y).toArray 45)) w.heap.size (w.heap.size + 1) x y ((w.alloc (Obj.cells (cs45 x).toArray 45)).alloc (Obj.cells (cs45 y).toArray 45)) := ⟨(b2.block _ (by rw [s1]; omega)).trans k1, k2, Below.refl _ _⟩
  have HB := Aside0.mk (below_alloc (below_alloc (Below.refl w.heap.size w) (Obj.cells (cs45 x).toArray 45)) (Obj.cells (cs45 y).toArray 45))
  have HI := Aside0.mk hI
  clear hI b2 k1 k2 s1
  unfold cs45 at *
  generalize hr : ordv x.f2 x.f0 y.f2 y.f0 = r
  have HR := Aside0.mk hr
  clear hr
  go_enter Try.func25, Try.ntmps25
  go_wp2_with fail
  generalize (w.alloc (Obj.cells [Value.int .i64 x.f0, .int .i64 x.f1, .int .i64 x.f2, .int .i64 x.f3].toArray 45)).alloc (Obj.cells [Value.int .i64 y.f0, .int .i64 y.f1, .int .i64 y.f2, .int .i64 y.f3].toArray 45) = wz at *
  refine regionCI (by kernel_rfl) _ w.heap.size (w.heap.size + 1) x y _ _ HI.out rfl rfl rfl ?_
  intro a2 w2 hA h12 hI2
  have e12 : slotO dstCI a2 12 = .int .i64 (ordv x.f2 x.f0 y.f2 y.f0) := h12
  rw [HR.out] at e12
  have HB2 := Aside0.mk (HB.out.trans (hI2.2.2.mono HB.out.size))
  clear hI2 h12 HI
  rw [hA.frame hinCI]
  clear hA
  simp only [List.range_succ, List.range_zero, List.nil_append, List.cons_append, foldO, dstCI, List.getD_cons_zero, List.getD_cons_succ, Act.put]
  generalize slotO dstCI a2 0 = y0
  generalize slotO dstCI a2 1 = y1
  generalize slotO dstCI a2 2 = y2
  generalize slotO dstCI a2 3 = y3
  generalize slotO dstCI a2 4 = y4
  generalize slotO dstCI a2 5 = y5
  generalize slotO dstCI a2 6 = y6
  generalize slotO dstCI a2 7 = y7
  generalize slotO dstCI a2 8 = y8
  generalize slotO dstCI a2 9 = y9
  generalize slotO dstCI a2 10 = y10
  generalize slotO dstCI a2 11 = y11
  generalize slotO dstCI a2 12 = y12 at *
  clear a2
  subst e12
  go_simp
  go_wp2_with fail
  go_ret
  exact ⟨rfl, HB2.out⟩
def dstCS (i : Nat) : Option Nat := ([some 5, some 6, some 7, some 8, some 9, some 10, some 11, some 12, some 13, some 14, some 15, some 16, some 4] : List (Option Nat)).getD i none
def ndCS : List (List Nat) := [[], [0], [], [2], [1, 3], [], [5], [], [7], [6, 8, 4], [4, 9], [10, 9], [11, 11, 0, 1, 2, 3, 4, 5, 6, 7, 8, 9, 10, 11]]
def usCS : List (List Nat) := [[], [0], [], [2], [1, 3], [], [5], [], [7], [6, 8], [4, 9], [10], [11]]
def ncCS : List (List Nat) := [[], [0], [], [2], [0, 1, 2, 3], [], [5], [], [7], [0, 1, 2, 3, 4, 5, 6, 7, 8], [0, 1, 2, 3, 4, 5, 6, 7, 8, 9], [0, 1, 2, 3, 4, 5, 6, 7, 8, 9, 10], [0, 1, 2, 3, 4, 5, 6, 7, 8, 9, 10, 11]]
def killCS (h j : Nat) : Bool := (false)
def killICS (_ : Nat) : Bool := false
def useICS (h : Nat) : Bool := [1, 3, 6, 8].contains h
def ICS (w0 : World) (b1 b2 : Nat) (x y : S55) (w : World) : Prop := w.heap[b1]? = some (.cells (cs55 x).toArray 55 (0, 0)) ∧ w.heap[b2]? = some (.cells (cs55 y).toArray 55 (0, 0)) ∧ Below w0.heap.size w0 w
def FCS (w0 : World) (b1 b2 : Nat) (x y : S55) : Nat → Value → World → Prop
  | 0, v, w => v = .pointer (some ⟨b1, 2, none⟩)
  | 1, v, w => v = .int .i64 x.f2
  | 2, v, w => v = .pointer (some ⟨b2, 2, none⟩)
  | 3, v, w => v = .int .i64 y.f2
  | 4, v, w => v = .int .i64 (cmpv x.f2 y.f2)
  | 5, v, w => v = .pointer (some ⟨b1, 0, none⟩)
  | 6, v, w => v = .int .i64 x.f0
  | 7, v, w => v = .pointer (some ⟨b2, 0, none⟩)
  | 8, v, w => v = .int .i64 y.f0
  | 9, v, w => v = .int .i64 (cmpv x.f0 y.f0)
  | 10, v, w => ∃ h, v = .slice (some ⟨h, 0, none⟩) 2 2 ∧ w.heap[h]? = some (.cells #[.int .i64 (cmpv x.f2 y.f2), .int .i64 (cmpv x.f0 y.f0)] 3 (0, 0))
  | 11, v, w => v = .int .i64 (ordv x.f2 x.f0 y.f2 y.f0)
  | 12, v, w => v = .int .i64 (ordv x.f2 x.f0 y.f2 y.f0)
  | _, _, _ => True
set_option maxRecDepth 100000 in
theorem sCS_0 {ops : Array Oper} {Q : Exit → Act → World → Prop} (hops : ops = opsOf Try.f35 1) (w0 : World) (b1 b2 : Nat) (x y : S55) (a : Act) (w : World) (h2 : a.tmps[2]?.getD undef = .pointer (some ⟨b1, 0, none⟩)) (h3 : a.tmps[3]?.getD undef = .pointer (some ⟨b2, 0, none⟩))
    (hN : ∀ j, j ∈ usCS.getD 0 [] → FCS w0 b1 b2 x y j (slotO dstCS a j) w) (hI : useICS 0 = true → ICS w0 b1 b2 x y w) : wpOp Try.prog ops Q 0 (fun a' w' => ∃ v, a' = a.put (dstCS 0) v ∧ FCS w0 b1 b2 x y 0 (valO dstCS 0 v) w' ∧ (Below w.heap.size w w' ∨ ((∀ j u, j < 13 → j ≠ 0 → killCS 0 j = false → (ncCS.getD j []).contains 0 = false → FCS w0 b1 b2 x y j u w → FCS w0 b1 b2 x y j u w') ∧ (killICS 0 = false → ICS w0 b1 b2 x y w → ICS w0 b1 b2 x y w')))) a w := by
  subst hops
  have ho : (opsOf Try.f35 1)[0]? = some ({ dst := some 5, op := Go.Op.fieldAddr 55 (Go.Operand.tmp 2) 2, type := 0, pos := "session.go:25", after := #[], guard := none } : Oper) := by kernel_rfl
  refine wpOp_plain ho rfl ?_
  clear hN hI ho
  go_simp
  first | exact ⟨_, rfl, rfl⟩ | exact ⟨_, rfl, rfl, .inl (Below.refl _ _)⟩
set_option maxRecDepth 100000 in
theorem sCS_1 {ops : Array Oper} {Q : Exit → Act → World → Prop} (hops : ops = opsOf Try.f35 1) (w0 : World) (b1 b2 : Nat) (x y : S55) (a : Act) (w : World) (h2 : a.tmps[2]?.getD undef = .pointer (some ⟨b1, 0, none⟩)) (h3 : a.tmps[3]?.getD undef = .pointer (some ⟨b2, 0, none⟩))
    (hN : ∀ j, j ∈ usCS.getD 1 [] → FCS w0 b1 b2 x y j (slotO dstCS a j) w) (hI : useICS 1 = true → ICS w0 b1 b2 x y w) : wpOp Try.prog ops Q 1 (fun a' w' => ∃ v, a' = a.put (dstCS 1) v ∧ FCS w0 b1 b2 x y 1 (valO dstCS 1 v) w' ∧ (Below w.heap.size w w' ∨ ((∀ j u, j < 13 → j ≠ 1 → killCS 1 j = false → (ncCS.getD j []).contains 1 = false → FCS w0 b1 b2 x y j u w → FCS w0 b1 b2 x y j u w') ∧ (killICS 1 = false → ICS w0 b1 b2 x y w → ICS w0 b1 b2 x y w')))) a w := by
  subst hops
  have n0 : a.tmps[5]?.getD undef = .pointer (some ⟨b1, 2, none⟩) := hN 0 (by decide)
  have hi : ICS w0 b1 b2 x y w := hI (by decide)
  have ho : (opsOf Try.f35 1)[1]? = some ({ dst := some 6, op := Go.Op.load 3 (Go.Operand.tmp 5), type := 3, pos := "session.go:25", after := #[{ on := 0, ground := Go.Ground.data }], guard := none } : Oper) := by kernel_rfl
  refine wpOp_plain ho rfl ?_
  clear hN hI ho
  obtain ⟨h1, h2, -⟩ := hi
  have hc : w.cell? ⟨b1, 2, none⟩ = some (.int .i64 x.f2) := by simp [World.cell?, h1, cs55]
  clear h1 h2
  go_simp
  first | exact ⟨_, rfl, rfl⟩ | exact ⟨_, rfl, rfl, .inl (Below.refl _ _)⟩
set_option maxRecDepth 100000 in
theorem sCS_2 {ops : Array Oper} {Q : Exit → Act → World → Prop} (hops : ops = opsOf Try.f35 1) (w0 : World) (b1 b2 : Nat) (x y : S55) (a : Act) (w : World) (h2 : a.tmps[2]?.getD undef = .pointer (some ⟨b1, 0, none⟩)) (h3 : a.tmps[3]?.getD undef = .pointer (some ⟨b2, 0, none⟩))
    (hN : ∀ j, j ∈ usCS.getD 2 [] → FCS w0 b1 b2 x y j (slotO dstCS a j) w) (hI : useICS 2 = true → ICS w0 b1 b2 x y w) : wpOp Try.prog ops Q 2 (fun a' w' => ∃ v, a' = a.put (dstCS 2) v ∧ FCS w0 b1 b2 x y 2 (valO dstCS 2 v) w' ∧ (Below w.heap.size w w' ∨ ((∀ j u, j < 13 → j ≠ 2 → killCS 2 j = false → (ncCS.getD j []).contains 2 = false → FCS w0 b1 b2 x y j u w → FCS w0 b1 b2 x y j u w') ∧ (killICS 2 = false → ICS w0 b1 b2 x y w → ICS w0 b1 b2 x y w')))) a w := by
  subst hops
  have ho : (opsOf Try.f35 1)[2]? = some ({ dst := some 7, op := Go.Op.fieldAddr 55 (Go.Operand.tmp 3) 2, type := 0, pos := "session.go:25", after := #[], guard := none } : Oper) := by kernel_rfl
  refine wpOp_plain ho rfl ?_
  clear hN hI ho
  go_simp
  first | exact ⟨_, rfl, rfl⟩ | exact ⟨_, rfl, rfl, .inl (Below.refl _ _)⟩
set_option maxRecDepth 100000 in
theorem sCS_3 {ops : Array Oper} {Q : Exit → Act → World → Prop} (hops : ops = opsOf Try.f35 1) (w0 : World) (b1 b2 : Nat) (x y : S55) (a : Act) (w : World) (h2 : a.tmps[2]?.getD undef = .pointer (some ⟨b1, 0, none⟩)) (h3 : a.tmps[3]?.getD undef = .pointer (some ⟨b2, 0, none⟩))
    (hN : ∀ j, j ∈ usCS.getD 3 [] → FCS w0 b1 b2 x y j (slotO dstCS a j) w) (hI : useICS 3 = true → ICS w0 b1 b2 x y w) : wpOp Try.prog ops Q 3 (fun a' w' => ∃ v, a' = a.put (dstCS 3) v ∧ FCS w0 b1 b2 x y 3 (valO dstCS 3 v) w' ∧ (Below w.heap.size w w' ∨ ((∀ j u, j < 13 → j ≠ 3 → killCS 3 j = false → (ncCS.getD j []).contains 3 = false → FCS w0 b1 b2 x y j u w → FCS w0 b1 b2 x y j u w') ∧ (killICS 3 = false → ICS w0 b1 b2 x y w → ICS w0 b1 b2 x y w')))) a w := by
  subst hops
  have n2 : a.tmps[7]?.getD undef = .pointer (some ⟨b2, 2, none⟩) := hN 2 (by decide)
  have hi : ICS w0 b1 b2 x y w := hI (by decide)
  have ho : (opsOf Try.f35 1)[3]? = some ({ dst := some 8, op := Go.Op.load 3 (Go.Operand.tmp 7), type := 3, pos := "session.go:25", after := #[{ on := 2, ground := Go.Ground.data }], guard := none } : Oper) := by kernel_rfl
  refine wpOp_plain ho rfl ?_
  clear hN hI ho
  obtain ⟨h1, h2, -⟩ := hi
  have hc : w.cell? ⟨b2, 2, none⟩ = some (.int .i64 y.f2) := by simp [World.cell?, h2, cs55]
  clear h1 h2
  go_simp
  first | exact ⟨_, rfl, rfl⟩ | exact ⟨_, rfl, rfl, .inl (Below.refl _ _)⟩
set_option maxRecDepth 100000 in
theorem sCS_4 {ops : Array Oper} {Q : Exit → Act → World → Prop} (hops : ops = opsOf Try.f35 1) (w0 : World) (b1 b2 : Nat) (x y : S55) (a : Act) (w : World) (h2 : a.tmps[2]?.getD undef = .pointer (some ⟨b1, 0, none⟩)) (h3 : a.tmps[3]?.getD undef = .pointer (some ⟨b2, 0, none⟩))
    (hN : ∀ j, j ∈ usCS.getD 4 [] → FCS w0 b1 b2 x y j (slotO dstCS a j) w) (hI : useICS 4 = true → ICS w0 b1 b2 x y w) : wpOp Try.prog ops Q 4 (fun a' w' => ∃ v, a' = a.put (dstCS 4) v ∧ FCS w0 b1 b2 x y 4 (valO dstCS 4 v) w' ∧ (Below w.heap.size w w' ∨ ((∀ j u, j < 13 → j ≠ 4 → killCS 4 j = false → (ncCS.getD j []).contains 4 = false → FCS w0 b1 b2 x y j u w → FCS w0 b1 b2 x y j u w') ∧ (killICS 4 = false → ICS w0 b1 b2 x y w → ICS w0 b1 b2 x y w')))) a w := by
  subst hops
  have n1 : a.tmps[6]?.getD undef = .int .i64 x.f2 := hN 1 (by decide)
  have n3 : a.tmps[8]?.getD undef = .int .i64 y.f2 := hN 3 (by decide)
  have ho : (opsOf Try.f35 1)[4]? = some ({ dst := some 9, op := Go.Op.call { callee := Go.Callee.value (Go.Operand.func 27), args := #[Go.Operand.tmp 6, Go.Operand.tmp 8], argTypes := #[3, 3] }, type := 3, pos := "session.go:25", after := #[{ on := 1, ground := Go.Ground.data }, { on := 3, ground := Go.Ground.data }], guard := none } : Oper) := by kernel_rfl
  refine wpOp_plain ho rfl ?_
  clear hN hI ho
  go_simp
  refine (compare_calls x.f2 y.f2 w).mono ?_
  rintro e w' ⟨rfl, rfl⟩
  exact ⟨_, rfl, rfl, .inl (Below.refl _ _)⟩
set_option maxRecDepth 100000 in
theorem sCS_5 {ops : Array Oper} {Q : Exit → Act → World → Prop} (hops : ops = opsOf Try.f35 1) (w0 : World) (b1 b2 : Nat) (x y : S55) (a : Act) (w : World) (h2 : a.tmps[2]?.getD undef = .pointer (some ⟨b1, 0, none⟩)) (h3 : a.tmps[3]?.getD undef = .pointer (some ⟨b2, 0, none⟩))
    (hN : ∀ j, j ∈ usCS.getD 5 [] → FCS w0 b1 b2 x y j (slotO dstCS a j) w) (hI : useICS 5 = true → ICS w0 b1 b2 x y w) : wpOp Try.prog ops Q 5 (fun a' w' => ∃ v, a' = a.put (dstCS 5) v ∧ FCS w0 b1 b2 x y 5 (valO dstCS 5 v) w' ∧ (Below w.heap.size w w' ∨ ((∀ j u, j < 13 → j ≠ 5 → killCS 5 j = false → (ncCS.getD j []).contains 5 = false → FCS w0 b1 b2 x y j u w → FCS w0 b1 b2 x y j u w') ∧ (killICS 5 = false → ICS w0 b1 b2 x y w → ICS w0 b1 b2 x y w')))) a w := by
  subst hops
  have ho : (opsOf Try.f35 1)[5]? = some ({ dst := some 10, op := Go.Op.fieldAddr 55 (Go.Operand.tmp 2) 0, type := 0, pos := "session.go:25", after := #[], guard := none } : Oper) := by kernel_rfl
  refine wpOp_plain ho rfl ?_
  clear hN hI ho
  go_simp
  first | exact ⟨_, rfl, rfl⟩ | exact ⟨_, rfl, rfl, .inl (Below.refl _ _)⟩
set_option maxRecDepth 100000 in
theorem sCS_6 {ops : Array Oper} {Q : Exit → Act → World → Prop} (hops : ops = opsOf Try.f35 1) (w0 : World) (b1 b2 : Nat) (x y : S55) (a : Act) (w : World) (h2 : a.tmps[2]?.getD undef = .pointer (some ⟨b1, 0, none⟩)) (h3 : a.tmps[3]?.getD undef = .pointer (some ⟨b2, 0, none⟩))
    (hN : ∀ j, j ∈ usCS.getD 6 [] → FCS w0 b1 b2 x y j (slotO dstCS a j) w) (hI : useICS 6 = true → ICS w0 b1 b2 x y w) : wpOp Try.prog ops Q 6 (fun a' w' => ∃ v, a' = a.put (dstCS 6) v ∧ FCS w0 b1 b2 x y 6 (valO dstCS 6 v) w' ∧ (Below w.heap.size w w' ∨ ((∀ j u, j < 13 → j ≠ 6 → killCS 6 j = false → (ncCS.getD j []).contains 6 = false → FCS w0 b1 b2 x y j u w → FCS w0 b1 b2 x y j u w') ∧ (killICS 6 = false → ICS w0 b1 b2 x y w → ICS w0 b1 b2 x y w')))) a w := by
  subst hops
  have n5 : a.tmps[10]?.getD undef = .pointer (some ⟨b1, 0, none⟩) := hN 5 (by decide)
  have hi : ICS w0 b1 b2 x y w := hI (by decide)
  have ho : (opsOf Try.f35 1)[6]? = some ({ dst := some 11, op := Go.Op.load 3 (Go.Operand.tmp 10), type := 3, pos := "session.go:25", after := #[{ on := 5, ground := Go.Ground.data }], guard := none } : Oper) := by kernel_rfl
  refine wpOp_plain ho rfl ?_
  clear hN hI ho
  obtain ⟨h1, h2, -⟩ := hi
  have hc : w.cell? ⟨b1, 0, none⟩ = some (.int .i64 x.f0) := by simp [World.cell?, h1, cs55]
  clear h1 h2
  go_simp
  first | exact ⟨_, rfl, rfl⟩ | exact ⟨_, rfl, rfl, .inl (Below.refl _ _)⟩
set_option maxRecDepth 100000 in
theorem sCS_7 {ops : Array Oper} {Q : Exit → Act → World → Prop} (hops : ops = opsOf Try.f35 1) (w0 : World) (b1 b2 : Nat) (x y : S55) (a : Act) (w : World) (h2 : a.tmps[2]?.getD undef = .pointer (some ⟨b1, 0, none⟩)) (h3 : a.tmps[3]?.getD undef = .pointer (some ⟨b2, 0, none⟩))
    (hN : ∀ j, j ∈ usCS.getD 7 [] → FCS w0 b1 b2 x y j (slotO dstCS a j) w) (hI : useICS 7 = true → ICS w0 b1 b2 x y w) : wpOp Try.prog ops Q 7 (fun a' w' => ∃ v, a' = a.put (dstCS 7) v ∧ FCS w0 b1 b2 x y 7 (valO dstCS 7 v) w' ∧ (Below w.heap.size w w' ∨ ((∀ j u, j < 13 → j ≠ 7 → killCS 7 j = false → (ncCS.getD j []).contains 7 = false → FCS w0 b1 b2 x y j u w → FCS w0 b1 b2 x y j u w') ∧ (killICS 7 = false → ICS w0 b1 b2 x y w → ICS w0 b1 b2 x y w')))) a w := by
  subst hops
  have ho : (opsOf Try.f35 1)[7]? = some ({ dst := some 12, op := Go.Op.fieldAddr 55 (Go.Operand.tmp 3) 0, type := 0, pos := "session.go:25", after := #[], guard := none } : Oper) := by kernel_rfl
  refine wpOp_plain ho rfl ?_
  clear hN hI ho
  go_simp
  first | exact ⟨_, rfl, rfl⟩ | exact ⟨_, rfl, rfl, .inl (Below.refl _ _)⟩
set_option maxRecDepth 100000 in
theorem sCS_8 {ops : Array Oper} {Q : Exit → Act → World → Prop} (hops : ops = opsOf Try.f35 1) (w0 : World) (b1 b2 : Nat) (x y : S55) (a : Act) (w : World) (h2 : a.tmps[2]?.getD undef = .pointer (some ⟨b1, 0, none⟩)) (h3 : a.tmps[3]?.getD undef = .pointer (some ⟨b2, 0, none⟩))
    (hN : ∀ j, j ∈ usCS.getD 8 [] → FCS w0 b1 b2 x y j (slotO dstCS a j) w) (hI : useICS 8 = true → ICS w0 b1 b2 x y w) : wpOp Try.prog ops Q 8 (fun a' w' => ∃ v, a' = a.put (dstCS 8) v ∧ FCS w0 b1 b2 x y 8 (valO dstCS 8 v) w' ∧ (Below w.heap.size w w' ∨ ((∀ j u, j < 13 → j ≠ 8 → killCS 8 j = false → (ncCS.getD j []).contains 8 = false → FCS w0 b1 b2 x y j u w → FCS w0 b1 b2 x y j u w') ∧ (killICS 8 = false → ICS w0 b1 b2 x y w → ICS w0 b1 b2 x y w')))) a w := by
  subst hops
  have n7 : a.tmps[12]?.getD undef = .pointer (some ⟨b2, 0, none⟩) := hN 7 (by decide)
  have hi : ICS w0 b1 b2 x y w := hI (by decide)
  have ho : (opsOf Try.f35 1)[8]? = some ({ dst := some 13, op := Go.Op.load 3 (Go.Operand.tmp 12), type := 3, pos := "session.go:25", after := #[{ on := 7, ground := Go.Ground.data }], guard := none } : Oper) := by kernel_rfl
  refine wpOp_plain ho rfl ?_
  clear hN hI ho
  obtain ⟨h1, h2, -⟩ := hi
  have hc : w.cell? ⟨b2, 0, none⟩ = some (.int .i64 y.f0) := by simp [World.cell?, h2, cs55]
  clear h1 h2
  go_simp
  first | exact ⟨_, rfl, rfl⟩ | exact ⟨_, rfl, rfl, .inl (Below.refl _ _)⟩
set_option maxRecDepth 100000 in
theorem sCS_9 {ops : Array Oper} {Q : Exit → Act → World → Prop} (hops : ops = opsOf Try.f35 1) (w0 : World) (b1 b2 : Nat) (x y : S55) (a : Act) (w : World) (h2 : a.tmps[2]?.getD undef = .pointer (some ⟨b1, 0, none⟩)) (h3 : a.tmps[3]?.getD undef = .pointer (some ⟨b2, 0, none⟩))
    (hN : ∀ j, j ∈ usCS.getD 9 [] → FCS w0 b1 b2 x y j (slotO dstCS a j) w) (hI : useICS 9 = true → ICS w0 b1 b2 x y w) : wpOp Try.prog ops Q 9 (fun a' w' => ∃ v, a' = a.put (dstCS 9) v ∧ FCS w0 b1 b2 x y 9 (valO dstCS 9 v) w' ∧ (Below w.heap.size w w' ∨ ((∀ j u, j < 13 → j ≠ 9 → killCS 9 j = false → (ncCS.getD j []).contains 9 = false → FCS w0 b1 b2 x y j u w → FCS w0 b1 b2 x y j u w') ∧ (killICS 9 = false → ICS w0 b1 b2 x y w → ICS w0 b1 b2 x y w')))) a w := by
  subst hops
  have n6 : a.tmps[11]?.getD undef = .int .i64 x.f0 := hN 6 (by decide)
  have n8 : a.tmps[13]?.getD undef = .int .i64 y.f0 := hN 8 (by decide)
  have ho : (opsOf Try.f35 1)[9]? = some ({ dst := some 14, op := Go.Op.call { callee := Go.Callee.value (Go.Operand.func 27), args := #[Go.Operand.tmp 11, Go.Operand.tmp 13], argTypes := #[3, 3] }, type := 3, pos := "session.go:25", after := #[{ on := 6, ground := Go.Ground.data }, { on := 8, ground := Go.Ground.data }, { on := 4, ground := Go.Ground.chain }], guard := none } : Oper) := by kernel_rfl
  refine wpOp_plain ho rfl ?_
  clear hN hI ho
  go_simp
  refine (compare_calls x.f0 y.f0 w).mono ?_
  rintro e w' ⟨rfl, rfl⟩
  exact ⟨_, rfl, rfl, .inl (Below.refl _ _)⟩
set_option maxRecDepth 100000 in
theorem sCS_10 {ops : Array Oper} {Q : Exit → Act → World → Prop} (hops : ops = opsOf Try.f35 1) (w0 : World) (b1 b2 : Nat) (x y : S55) (a : Act) (w : World) (h2 : a.tmps[2]?.getD undef = .pointer (some ⟨b1, 0, none⟩)) (h3 : a.tmps[3]?.getD undef = .pointer (some ⟨b2, 0, none⟩))
    (hN : ∀ j, j ∈ usCS.getD 10 [] → FCS w0 b1 b2 x y j (slotO dstCS a j) w) (hI : useICS 10 = true → ICS w0 b1 b2 x y w) : wpOp Try.prog ops Q 10 (fun a' w' => ∃ v, a' = a.put (dstCS 10) v ∧ FCS w0 b1 b2 x y 10 (valO dstCS 10 v) w' ∧ (Below w.heap.size w w' ∨ ((∀ j u, j < 13 → j ≠ 10 → killCS 10 j = false → (ncCS.getD j []).contains 10 = false → FCS w0 b1 b2 x y j u w → FCS w0 b1 b2 x y j u w') ∧ (killICS 10 = false → ICS w0 b1 b2 x y w → ICS w0 b1 b2 x y w')))) a w := by
  subst hops
  have n4 : a.tmps[9]?.getD undef = .int .i64 (cmpv x.f2 y.f2) := hN 4 (by decide)
  have n9 : a.tmps[14]?.getD undef = .int .i64 (cmpv x.f0 y.f0) := hN 9 (by decide)
  have ho : (opsOf Try.f35 1)[10]? = some ({ dst := some 15, op := Go.Op.buildSlice 22 2 #[(0, Go.Operand.tmp 9), (1, Go.Operand.tmp 14)], type := 22, pos := "session.go:25", after := #[{ on := 4, ground := Go.Ground.data }, { on := 9, ground := Go.Ground.data }], guard := none } : Oper) := by kernel_rfl
  refine wpOp_plain ho rfl ?_
  clear hN hI ho
  go_simp
  exact ⟨_, rfl, ⟨_, rfl, heap_alloc_new _ _⟩, .inl (below_alloc (Below.refl _ _) _)⟩
set_option maxRecDepth 100000 in
theorem sCS_11 {ops : Array Oper} {Q : Exit → Act → World → Prop} (hops : ops = opsOf Try.f35 1) (w0 : World) (b1 b2 : Nat) (x y : S55) (a : Act) (w : World) (h2 : a.tmps[2]?.getD undef = .pointer (some ⟨b1, 0, none⟩)) (h3 : a.tmps[3]?.getD undef = .pointer (some ⟨b2, 0, none⟩))
    (hN : ∀ j, j ∈ usCS.getD 11 [] → FCS w0 b1 b2 x y j (slotO dstCS a j) w) (hI : useICS 11 = true → ICS w0 b1 b2 x y w) : wpOp Try.prog ops Q 11 (fun a' w' => ∃ v, a' = a.put (dstCS 11) v ∧ FCS w0 b1 b2 x y 11 (valO dstCS 11 v) w' ∧ (Below w.heap.size w w' ∨ ((∀ j u, j < 13 → j ≠ 11 → killCS 11 j = false → (ncCS.getD j []).contains 11 = false → FCS w0 b1 b2 x y j u w → FCS w0 b1 b2 x y j u w') ∧ (killICS 11 = false → ICS w0 b1 b2 x y w → ICS w0 b1 b2 x y w')))) a w := by
  subst hops
  have n10 : (fun (v : Value) (w : World) => ∃ h, v = .slice (some ⟨h, 0, none⟩) 2 2 ∧ w.heap[h]? = some (.cells #[.int .i64 (cmpv x.f2 y.f2), .int .i64 (cmpv x.f0 y.f0)] 3 (0, 0))) (a.tmps[15]?.getD undef) w := hN 10 (by decide)
  have ho : (opsOf Try.f35 1)[11]? = some ({ dst := some 16, op := Go.Op.call { callee := Go.Callee.value (Go.Operand.func 26), args := #[Go.Operand.tmp 15], argTypes := #[22] }, type := 3, pos := "session.go:25", after := #[{ on := 10, ground := Go.Ground.data }, { on := 9, ground := Go.Ground.chain }], guard := none } : Oper) := by kernel_rfl
  refine wpOp_plain ho rfl ?_
  clear hN hI ho
  obtain ⟨h, hv, hh⟩ := n10
  have HO := Aside0.mk (or_calls (cmpv x.f2 y.f2) (cmpv x.f0 y.f0) h w (by simp [World.cell?, hh]) (by simp [World.cell?, hh]))
  clear hh
  go_simp
  refine HO.out.mono ?_
  rintro e w' ⟨rfl, rfl⟩
  exact ⟨_, rfl, rfl, .inl (Below.refl _ _)⟩
set_option maxRecDepth 100000 in
theorem sCS_12 {ops : Array Oper} {Q : Exit → Act → World → Prop} (hops : ops = opsOf Try.f35 1) (w0 : World) (b1 b2 : Nat) (x y : S55) (a : Act) (w : World) (h2 : a.tmps[2]?.getD undef = .pointer (some ⟨b1, 0, none⟩)) (h3 : a.tmps[3]?.getD undef = .pointer (some ⟨b2, 0, none⟩))
    (hN : ∀ j, j ∈ usCS.getD 12 [] → FCS w0 b1 b2 x y j (slotO dstCS a j) w) (hI : useICS 12 = true → ICS w0 b1 b2 x y w) : wpOp Try.prog ops Q 12 (fun a' w' => ∃ v, a' = a.put (dstCS 12) v ∧ FCS w0 b1 b2 x y 12 (valO dstCS 12 v) w' ∧ (Below w.heap.size w w' ∨ ((∀ j u, j < 13 → j ≠ 12 → killCS 12 j = false → (ncCS.getD j []).contains 12 = false → FCS w0 b1 b2 x y j u w → FCS w0 b1 b2 x y j u w') ∧ (killICS 12 = false → ICS w0 b1 b2 x y w → ICS w0 b1 b2 x y w')))) a w := by
  subst hops
  have n11 : a.tmps[16]?.getD undef = .int .i64 (ordv x.f2 x.f0 y.f2 y.f0) := hN 11 (by decide)
  have ho : (opsOf Try.f35 1)[12]? = some ({ dst := some 4, op := Go.Op.assign (Go.Operand.tmp 16), type := 3, pos := "session.go:25", after := #[{ on := 11, ground := Go.Ground.data }, { on := 11, ground := Go.Ground.chain }, { on := 0, ground := Go.Ground.phase }, { on := 1, ground := Go.Ground.phase }, { on := 2, ground := Go.Ground.phase }, { on := 3, ground := Go.Ground.phase }, { on := 4, ground := Go.Ground.phase }, { on := 5, ground := Go.Ground.phase }, { on := 6, ground := Go.Ground.phase }, { on := 7, ground := Go.Ground.phase }, { on := 8, ground := Go.Ground.phase }, { on := 9, ground := Go.Ground.phase }, { on := 10, ground := Go.Ground.phase }, { on := 11, ground := Go.Ground.phase }], guard := none } : Oper) := by kernel_rfl
  refine wpOp_plain ho rfl ?_
  clear hN hI ho
  go_simp
  first | exact ⟨_, rfl, rfl⟩ | exact ⟨_, rfl, rfl, .inl (Below.refl _ _)⟩
theorem monoCS (w0 : World) (b1 b2 : Nat) (x y : S55) (j : Nat) (v : Value) (w w' : World) (h : FCS w0 b1 b2 x y j v w) (hb : Below w.heap.size w w') : FCS w0 b1 b2 x y j v w' := by
  unfold FCS at h ⊢
  split <;> first
    | exact True.intro
    | exact h
    | (obtain ⟨q, h1, h2⟩ := h; exact ⟨q, h1, (hb.block q (Array.getElem?_eq_some_iff.1 h2).1).trans h2⟩)
theorem monoICS (w0 : World) (b1 b2 : Nat) (x y : S55) (w w' : World) (h : ICS w0 b1 b2 x y w) (hb : Below w.heap.size w w') : ICS w0 b1 b2 x y w' := by
  obtain ⟨h1, h2, hB⟩ := h
  exact ⟨(hb.block _ (Array.getElem?_eq_some_iff.1 h1).1).trans h1, (hb.block _ (Array.getElem?_eq_some_iff.1 h2).1).trans h2, hB.trans (hb.mono hB.size)⟩
theorem hinCS : ∀ i, i < 13 → ∀ d, dstCS i = some d → d < 17 := by
  have h2 : ∀ i, i < 13 → (dstCS i).all (fun d => decide (d < 17)) = true := by decide
  intro i hi d hd
  have := h2 i hi
  rw [hd] at this
  simpa using this
set_option maxRecDepth 100000 in
theorem regionCS {ops : Array Oper} {Q : Exit → Act → World → Prop} (hops : ops = opsOf Try.f35 1) {id : Nat} (w0 : World) (b1 b2 : Nat) (x y : S55) (a0 : Act) (w0_ : World) (hI0 : ICS w0 b1 b2 x y w0_) (hsz : a0.tmps.size = 17) (h2 : a0.tmps[2]?.getD undef = .pointer (some ⟨b1, 0, none⟩)) (h3 : a0.tmps[3]?.getD undef = .pointer (some ⟨b2, 0, none⟩))
    (hQ : ∀ a w, AgreeO 13 dstCS a0 a → FCS w0 b1 b2 x y 12 (slotO dstCS a 12) w → ICS w0 b1 b2 x y w → Q .normal a w) : (Code.region id ops true).wp Try.prog Q a0 w0_ := by
  refine region_heldA (n := 13) dstCS (FCS w0 b1 b2 x y) (ICS w0 b1 b2 x y) ndCS ncCS usCS killCS killICS useICS (by kernel_rfl) (by rw [hops]; kernel_rfl) (by decide) ?_ (fun j v w w' _ h hb => monoCS w0 b1 b2 x y j v w w' h hb) (fun w w' h hb => monoICS w0 b1 b2 x y w w' h hb) hI0 (by rw [hops]; kernel_rfl) (by decide) (by decide) (by decide) (by decide) (by decide) ?_ (fun a w hA hF hI => hQ a w hA (hF 12 (by decide) (by decide)) (hI (by decide)))
  · intro i hi d hd
    rw [hsz]; exact hinCS i hi d hd
  · intro i a w hi hA hN hI
    have h2 := (hA.old 2 (by decide)).trans h2
    have h3 := (hA.old 3 (by decide)).trans h3
    have hi' : i = 0 ∨ i = 1 ∨ i = 2 ∨ i = 3 ∨ i = 4 ∨ i = 5 ∨ i = 6 ∨ i = 7 ∨ i = 8 ∨ i = 9 ∨ i = 10 ∨ i = 11 ∨ i = 12 := by omega
    rcases hi' with rfl | rfl | rfl | rfl | rfl | rfl | rfl | rfl | rfl | rfl | rfl | rfl | rfl
    · exact sCS_0 hops w0 b1 b2 x y a w h2 h3 hN hI
    · exact sCS_1 hops w0 b1 b2 x y a w h2 h3 hN hI
    · exact sCS_2 hops w0 b1 b2 x y a w h2 h3 hN hI
    · exact sCS_3 hops w0 b1 b2 x y a w h2 h3 hN hI
    · exact sCS_4 hops w0 b1 b2 x y a w h2 h3 hN hI
    · exact sCS_5 hops w0 b1 b2 x y a w h2 h3 hN hI
    · exact sCS_6 hops w0 b1 b2 x y a w h2 h3 hN hI
    · exact sCS_7 hops w0 b1 b2 x y a w h2 h3 hN hI
    · exact sCS_8 hops w0 b1 b2 x y a w h2 h3 hN hI
    · exact sCS_9 hops w0 b1 b2 x y a w h2 h3 hN hI
    · exact sCS_10 hops w0 b1 b2 x y a w h2 h3 hN hI
    · exact sCS_11 hops w0 b1 b2 x y a w h2 h3 hN hI
    · exact sCS_12 hops w0 b1 b2 x y a w h2 h3 hN hI

theorem cmp_callsS (x y : S55) (w : World) : Calls Try.prog 35 #[.agg (cs55 x).toArray, .agg (cs55 y).toArray] w fun e w' => e = .returned (.int .i64 (ordv x.f2 x.f0 y.f2 y.f0)) ∧ Below w.heap.size w w' := by
  have s1 : (w.alloc (Obj.cells (cs55 x).toArray 55)).heap.size = w.heap.size + 1 := by show (w.heap.push _).size = _; rw [Array.size_push]
  have k1 := heap_alloc_new w (Obj.cells (cs55 x).toArray 55)
  have k2 := heap_alloc_new (w.alloc (Obj.cells (cs55 x).toArray 55)) (Obj.cells (cs55 y).toArray 55)
  have b2 := below_alloc (Below.refl (w.alloc (Obj.cells (cs55 x).toArray 55)).heap.size (w.alloc (Obj.cells (cs55 x).toArray 55))) (Obj.cells (cs55 y).toArray 55)
  rw [s1] at k2
  have hI : ICS ((w.alloc (Obj.cells (cs55 x).toArray 55)).alloc (Obj.cells (cs55 y).toArray 55)) w.heap.size (w.heap.size + 1) x y ((w.alloc (Obj.cells (cs55 x).toArray 55)).alloc (Obj.cells (cs55 y).toArray 55)) := ⟨(b2.block _ (by rw [s1]; omega)).trans k1, k2, Below.refl _ _⟩
  have HB := Aside0.mk (below_alloc (below_alloc (Below.refl w.heap.size w) (Obj.cells (cs55 x).toArray 55)) (Obj.cells (cs55 y).toArray 55))
  have HI := Aside0.mk hI
  clear hI b2 k1 k2 s1
  unfold cs55 at *
  generalize hr : ordv x.f2 x.f0 y.f2 y.f0 = r
  have HR := Aside0.mk hr
  clear hr
  go_enter Try.func35, Try.ntmps35
  go_wp2_with fail
  generalize (w.alloc (Obj.cells [Value.int .i64 x.f0, .int .i64 x.f1, .int .i64 x.f2, .string x.f3].toArray 55)).alloc (Obj.cells [Value.int .i64 y.f0, .int .i64 y.f1, .int .i64 y.f2, .string y.f3].toArray 55) = wz at *
  refine regionCS (by kernel_rfl) _ w.heap.size (w.heap.size + 1) x y _ _ HI.out rfl rfl rfl ?_
  intro a2 w2 hA h12 hI2
  have e12 : slotO dstCS a2 12 = .int .i64 (ordv x.f2 x.f0 y.f2 y.f0) := h12
  rw [HR.out] at e12
  have HB2 := Aside0.mk (HB.out.trans (hI2.2.2.mono HB.out.size))
  clear hI2 h12 HI
  rw [hA.frame hinCS]
  clear hA
  simp only [List.range_succ, List.range_zero, List.nil_append, List.cons_append, foldO, dstCS, List.getD_cons_zero, List.getD_cons_succ, Act.put]
  generalize slotO dstCS a2 0 = y0
  generalize slotO dstCS a2 1 = y1
  generalize slotO dstCS a2 2 = y2
  generalize slotO dstCS a2 3 = y3
  generalize slotO dstCS a2 4 = y4
  generalize slotO dstCS a2 5 = y5
  generalize slotO dstCS a2 6 = y6
  generalize slotO dstCS a2 7 = y7
  generalize slotO dstCS a2 8 = y8
  generalize slotO dstCS a2 9 = y9
  generalize slotO dstCS a2 10 = y10
  generalize slotO dstCS a2 11 = y11
  generalize slotO dstCS a2 12 = y12 at *
  clear a2
  subst e12
  go_simp
  go_wp2_with fail
  go_ret
  exact ⟨rfl, HB2.out⟩

end Go.Proofs.Ytahkokbfghifhaa.PS
