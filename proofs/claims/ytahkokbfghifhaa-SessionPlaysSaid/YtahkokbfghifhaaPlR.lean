/- SessionPlays: the regions in which both tables are called. -/
import Derived.Test.YtahkokbfghifhaaPlL
import Derived.Test.YtahkokbfghifhaaRegB
import Derived.Test.YtahkokbfghifhaaAct
import Derived.Test.YtahkokbfghifhaaProg
import Derived.Below
import Derived.Deep.Draws
import Derived.Deep.AppendLies
import Derived.Maps.AppendAt
import Derived.OwnWalk
import Derived.Laws.BytesArg
import Derived.Laws.MakeOwn
import Derived.Laws.OwnMore
import Derived.Deep.OwnRows
import Derived.Tactics
import Derived.Lib.ConvBytes
import Derived.Laws.Slices
import Derived.WalkKit
import Derived.KernelRfl
import Derived.RowKit3
import Derived.Deep.LoopGhost
import Derived.Deep.QuietTactic
import Derived.BigQuiet
import Derived.WideLaws
import Derived.Deep.DeepCutAuto
import Derived.Deep.CutBlock
import Derived.Deep.RegionHeld3
import Derived.Laws.Rows
import Derived.Lib.AppendStr
import Derived.ArgAppend
import Derived.Laws.IdiomCopy
import Derived.OrdersHeld
import Derived.Laws.BitsLemmas
import Derived.RowKit
import Derived.Test.YtahkokbfghifhaaWWords
import Derived.Test.YtahkokbfghifhaaWLast
import Derived.Test.YtahkokbfghifhaaWTab
import Derived.Test.YtahkokbfghifhaaWFour
import Derived.Test.YtahkokbfghifhaaWQPut
import Derived.Test.YtahkokbfghifhaaWApart
import Derived.Test.YtahkokbfghifhaaWArr
import Derived.Test.YtahkokbfghifhaaWZeros
import Derived.Test.YtahkokbfghifhaaWFoot
import Derived.Test.YtahkokbfghifhaaWKept
import Derived.Test.YtahkokbfghifhaaWShare
import Derived.Test.YtahkokbfghifhaaWN
import Derived.Test.YtahkokbfghifhaaWFootNe
import Derived.Test.YtahkokbfghifhaaWAt
import Derived.Test.YtahkokbfghifhaaWEqStruct
import Derived.Test.YtahkokbfghifhaaWRepsOne
import Derived.Test.YtahkokbfghifhaaWInv
import Derived.Test.YtahkokbfghifhaaWInvWords
import Derived.Test.YtahkokbfghifhaaWGuard
import Derived.Test.YtahkokbfghifhaaWNEv
import Derived.Test.YtahkokbfghifhaaWMore
namespace Go.Proofs.Ytahkokbfghifhaa.PS
open Go.RowKit Go.Proofs.YtahkokbfghifhaaW.PrintWords Go.Proofs.YtahkokbfghifhaaW.PrintLast Go.Proofs.YtahkokbfghifhaaW.PrintMore
set_option linter.unusedVariables false
set_option linter.unusedSimpArgs false
set_option maxHeartbeats 4000000
set_option maxRecDepth 100000

open Go.Proofs.Ytahkokbfghifhaa.Reg
def dstQ (i : Nat) : Option Nat := ([some 75, some 76, some 77, some 78, some 79, some 80, some 81, some 82] : List (Option Nat)).getD i none
def ndQ : List (List Nat) := [[], [0], [1], [], [], [4], [3, 5, 2], [2, 6]]
def usQ : List (List Nat) := [[], [0], [1], [], [], [4], [2, 3, 5], [2, 6]]
def ncQ : List (List Nat) := [[], [0], [0, 1], [], [], [4], [0, 1, 2, 3, 4, 5], [0, 1, 2, 3, 4, 5, 6]]
def killQ (h j : Nat) : Bool := (false)
def killIQ (h j : Nat) : Bool := ((h == 2 && [1].contains j) || (h == 6 && [1, 2].contains j))
def useIQ (h j : Nat) : Bool := ((h == 1 && [0].contains j) || (h == 5 && [0].contains j) || (h == 2 && [1].contains j) || (h == 6 && [2].contains j))
def IQ (w0 : World) (ok1 ok2 : Nat → Prop) (g1 g2 b : Nat) (es : List S55) (y : S51) : Nat → World → Prop
  | 0, w => w.heap[b]? = some (.cells #[.int .i64 y.f0, .int .i64 y.f1, .int .i64 y.f2, .int .i64 y.f3, .string y.f4] 51 (0, 0)) ∧ b < w0.heap.size ∧ ¬ ok1 b ∧ ¬ ok2 b
  | 1, w => TblS w ok1 g1 es ∧ Below w0.heap.size w0 w ∧ (∀ k, ok1 k → k < w0.heap.size ∧ ¬ ok2 k) ∧ (∀ k, ok2 k → k < w0.heap.size) ∧ Good es
  | 2, w => TblX w ok2 g2 es ∧ (∀ k, ok1 k → k < w0.heap.size ∧ ¬ ok2 k) ∧ (∀ k, ok2 k → k < w0.heap.size) ∧ Good es
  | _, _ => True
def FQ (w0 : World) (ok1 ok2 : Nat → Prop) (g1 g2 b : Nat) (es : List S55) (y : S51) : Nat → Value → World → Prop
  | 0, v, w => v = .pointer (some ⟨b, 3, none⟩)
  | 1, v, w => v = .int .i64 y.f3
  | 2, v, w => v = .bool (openLS es y.f3).1 ∧ ∃ N, w0.heap.size ≤ N ∧ N ≤ w.heap.size ∧ TblS w (fun k => (ok1 k ∨ w0.heap.size ≤ k) ∧ k < N) g1 (openLS es y.f3).2 ∧ Kept w0 w (fun k => ok1 k ∨ ok2 k) ∧ Below 0 w0 w ∧ (∀ k, ok1 k → k < w0.heap.size ∧ ¬ ok2 k) ∧ (∀ k, ok2 k → k < w0.heap.size) ∧ Good es
  | 3, v, w => v = .pointer (some ⟨g2, 0, none⟩)
  | 4, v, w => v = .pointer (some ⟨b, 3, none⟩)
  | 5, v, w => v = .int .i64 y.f3
  | 6, v, w => v = .bool (openLS es y.f3).1 ∧ ∃ N, w0.heap.size ≤ N ∧ N ≤ w.heap.size ∧ TblS w (fun k => (ok1 k ∨ w0.heap.size ≤ k) ∧ k < N) g1 (openLS es y.f3).2 ∧ TblX w (fun k => ok2 k ∨ N ≤ k) g2 (openLS es y.f3).2 ∧ Kept w0 w (fun k => ok1 k ∨ ok2 k) ∧ Below 0 w0 w ∧ Good (openLS es y.f3).2
  | 7, v, w => v = .bool false
  | _, _, _ => True
set_option maxRecDepth 100000 in
theorem sQ_0 {ops : Array Oper} {Q : Exit → Act → World → Prop} (hops : ops = opsOf Try.f6 22) (w0 : World) (ok1 ok2 : Nat → Prop) (g1 g2 b : Nat) (es : List S55) (y : S51) (a : Act) (w : World) (h3 : a.tmps[3]?.getD undef = .pointer (some ⟨g1, 0, none⟩)) (h4 : a.tmps[4]?.getD undef = .pointer (some ⟨g2, 0, none⟩)) (h6 : a.tmps[6]?.getD undef = .pointer (some ⟨b, 0, none⟩))
    (hN : ∀ j, j ∈ usQ.getD 0 [] → FQ w0 ok1 ok2 g1 g2 b es y j (slotO dstQ a j) w) (hI : ∀ c, c < 3 → useIQ 0 c = true → IQ w0 ok1 ok2 g1 g2 b es y c w) : wpOp Try.prog ops Q 0 (fun a' w' => ∃ v, a' = a.put (dstQ 0) v ∧ FQ w0 ok1 ok2 g1 g2 b es y 0 (valO dstQ 0 v) w' ∧ (Below w.heap.size w w' ∨ ((∀ j u, j < 8 → j ≠ 0 → killQ 0 j = false → (ncQ.getD j []).contains 0 = false → FQ w0 ok1 ok2 g1 g2 b es y j u w → FQ w0 ok1 ok2 g1 g2 b es y j u w') ∧ (∀ c, c < 3 → killIQ 0 c = false → IQ w0 ok1 ok2 g1 g2 b es y c w → IQ w0 ok1 ok2 g1 g2 b es y c w')))) a w := by
  subst hops
  have ho : (opsOf Try.f6 22)[0]? = some ({ dst := some 75, op := Go.Op.fieldAddr 51 (Go.Operand.tmp 6) 3, type := 0, pos := "law.go:41", after := #[], guard := none } : Oper) := by kernel_rfl
  refine wpOp_plain ho rfl ?_
  clear hN hI ho
  go_simp
  first | exact ⟨_, rfl, rfl⟩ | exact ⟨_, rfl, rfl, .inl (Below.refl _ _)⟩
set_option maxRecDepth 100000 in
theorem sQ_1 {ops : Array Oper} {Q : Exit → Act → World → Prop} (hops : ops = opsOf Try.f6 22) (w0 : World) (ok1 ok2 : Nat → Prop) (g1 g2 b : Nat) (es : List S55) (y : S51) (a : Act) (w : World) (h3 : a.tmps[3]?.getD undef = .pointer (some ⟨g1, 0, none⟩)) (h4 : a.tmps[4]?.getD undef = .pointer (some ⟨g2, 0, none⟩)) (h6 : a.tmps[6]?.getD undef = .pointer (some ⟨b, 0, none⟩))
    (hN : ∀ j, j ∈ usQ.getD 1 [] → FQ w0 ok1 ok2 g1 g2 b es y j (slotO dstQ a j) w) (hI : ∀ c, c < 3 → useIQ 1 c = true → IQ w0 ok1 ok2 g1 g2 b es y c w) : wpOp Try.prog ops Q 1 (fun a' w' => ∃ v, a' = a.put (dstQ 1) v ∧ FQ w0 ok1 ok2 g1 g2 b es y 1 (valO dstQ 1 v) w' ∧ (Below w.heap.size w w' ∨ ((∀ j u, j < 8 → j ≠ 1 → killQ 1 j = false → (ncQ.getD j []).contains 1 = false → FQ w0 ok1 ok2 g1 g2 b es y j u w → FQ w0 ok1 ok2 g1 g2 b es y j u w') ∧ (∀ c, c < 3 → killIQ 1 c = false → IQ w0 ok1 ok2 g1 g2 b es y c w → IQ w0 ok1 ok2 g1 g2 b es y c w')))) a w := by
  subst hops
  have n0 : a.tmps[75]?.getD undef = .pointer (some ⟨b, 3, none⟩) := hN 0 (by decide)
  have hi0 : (fun (w : World) => w.heap[b]? = some (.cells #[.int .i64 y.f0, .int .i64 y.f1, .int .i64 y.f2, .int .i64 y.f3, .string y.f4] 51 (0, 0)) ∧ b < w0.heap.size ∧ ¬ ok1 b ∧ ¬ ok2 b) w := hI 0 (by decide) (by decide)
  have ho : (opsOf Try.f6 22)[1]? = some ({ dst := some 76, op := Go.Op.load 3 (Go.Operand.tmp 75), type := 3, pos := "law.go:41", after := #[{ on := 0, ground := Go.Ground.data }], guard := none } : Oper) := by kernel_rfl
  refine wpOp_plain ho rfl ?_
  clear hN hI ho
  have hc : w.cell? ⟨b, 3, none⟩ = some (.int .i64 y.f3) := by
    obtain ⟨hb, -⟩ := hi0
    simp [World.cell?, hb]
  clear hi0
  go_simp
  first | exact ⟨_, rfl, rfl⟩ | exact ⟨_, rfl, rfl, .inl (Below.refl _ _)⟩
set_option maxRecDepth 100000 in
theorem sQ_2 {ops : Array Oper} {Q : Exit → Act → World → Prop} (hops : ops = opsOf Try.f6 22) (w0 : World) (ok1 ok2 : Nat → Prop) (g1 g2 b : Nat) (es : List S55) (y : S51) (a : Act) (w : World) (h3 : a.tmps[3]?.getD undef = .pointer (some ⟨g1, 0, none⟩)) (h4 : a.tmps[4]?.getD undef = .pointer (some ⟨g2, 0, none⟩)) (h6 : a.tmps[6]?.getD undef = .pointer (some ⟨b, 0, none⟩))
    (hN : ∀ j, j ∈ usQ.getD 2 [] → FQ w0 ok1 ok2 g1 g2 b es y j (slotO dstQ a j) w) (hI : ∀ c, c < 3 → useIQ 2 c = true → IQ w0 ok1 ok2 g1 g2 b es y c w) : wpOp Try.prog ops Q 2 (fun a' w' => ∃ v, a' = a.put (dstQ 2) v ∧ FQ w0 ok1 ok2 g1 g2 b es y 2 (valO dstQ 2 v) w' ∧ (Below w.heap.size w w' ∨ ((∀ j u, j < 8 → j ≠ 2 → killQ 2 j = false → (ncQ.getD j []).contains 2 = false → FQ w0 ok1 ok2 g1 g2 b es y j u w → FQ w0 ok1 ok2 g1 g2 b es y j u w') ∧ (∀ c, c < 3 → killIQ 2 c = false → IQ w0 ok1 ok2 g1 g2 b es y c w → IQ w0 ok1 ok2 g1 g2 b es y c w')))) a w := by
  subst hops
  have n1 : a.tmps[76]?.getD undef = .int .i64 y.f3 := hN 1 (by decide)
  have hi1 : (fun (w : World) => TblS w ok1 g1 es ∧ Below w0.heap.size w0 w ∧ (∀ k, ok1 k → k < w0.heap.size ∧ ¬ ok2 k) ∧ (∀ k, ok2 k → k < w0.heap.size) ∧ Good es) w := hI 1 (by decide) (by decide)
  have ho : (opsOf Try.f6 22)[2]? = some ({ dst := some 77, op := Go.Op.call { callee := Go.Callee.value (Go.Operand.func 11), args := #[Go.Operand.tmp 3, Go.Operand.tmp 76], argTypes := #[36, 3] }, type := 4, pos := "law.go:41", after := #[{ on := 1, ground := Go.Ground.data }], guard := none } : Oper) := by kernel_rfl
  refine wpOp_plain ho rfl ?_
  clear hN hI ho
  obtain ⟨hT, hB, hD⟩ := hi1
  have HH := Aside0.mk (open_callsS hT y.f3 hD.2.2.len)
  have HB := Aside0.mk hB
  have HD := Aside0.mk hD
  clear hT hB hD
  go_simp
  refine HH.out.mono ?_
  rintro e w' ⟨rfl, hT2, hK2, hB2⟩
  refine ⟨_, rfl, ⟨rfl, w'.heap.size, Nat.le_trans HB.out.size hK2.1, Nat.le_refl _, ?_, ⟨Nat.le_trans HB.out.size hK2.1, fun k hk hn => (hK2.2 k (Nat.lt_of_lt_of_le hk HB.out.size) (fun h => hn (.inl h))).trans (HB.out.block k hk)⟩, (HB.out.mono (Nat.zero_le _)).trans hB2, HD.out⟩, .inr ⟨?_, ?_⟩⟩
  · exact (TblS.bound hT2).mono (fun k hk => ⟨by
      rcases hk.1 with h | h
      · exact .inl h
      · exact .inr (Nat.le_trans HB.out.size h), hk.2⟩)
  · intro j u hj hne hk hcc hF
    have hj' : j = 0 ∨ j = 1 ∨ j = 2 ∨ j = 3 ∨ j = 4 ∨ j = 5 ∨ j = 6 ∨ j = 7 := by omega
    rcases hj' with rfl | rfl | rfl | rfl | rfl | rfl | rfl | rfl <;> first | exact hF | (exact absurd hk (by decide)) | (exact absurd rfl hne) | (exact absurd hcc (by decide))
  · intro c hc hk hi
    have hc' : c = 0 ∨ c = 1 ∨ c = 2 := by omega
    rcases hc' with rfl | rfl | rfl
    · have h : w.heap[b]? = some (.cells #[.int .i64 y.f0, .int .i64 y.f1, .int .i64 y.f2, .int .i64 y.f3, .string y.f4] 51 (0, 0)) ∧ b < w0.heap.size ∧ ¬ ok1 b ∧ ¬ ok2 b := hi
      exact ⟨(hK2.2 b (Array.getElem?_eq_some_iff.1 h.1).1 h.2.2.1).trans h.1, h.2⟩
    · exact absurd hk (by decide)
    · have h : TblX w ok2 g2 es ∧ (∀ k, ok1 k → k < w0.heap.size ∧ ¬ ok2 k) ∧ (∀ k, ok2 k → k < w0.heap.size) ∧ Good es := hi
      exact ⟨h.1.kept hK2 (fun k h2 h1 => (h.2.1 k h1).2 h2), h.2⟩
set_option maxRecDepth 100000 in
theorem sQ_3 {ops : Array Oper} {Q : Exit → Act → World → Prop} (hops : ops = opsOf Try.f6 22) (w0 : World) (ok1 ok2 : Nat → Prop) (g1 g2 b : Nat) (es : List S55) (y : S51) (a : Act) (w : World) (h3 : a.tmps[3]?.getD undef = .pointer (some ⟨g1, 0, none⟩)) (h4 : a.tmps[4]?.getD undef = .pointer (some ⟨g2, 0, none⟩)) (h6 : a.tmps[6]?.getD undef = .pointer (some ⟨b, 0, none⟩))
    (hN : ∀ j, j ∈ usQ.getD 3 [] → FQ w0 ok1 ok2 g1 g2 b es y j (slotO dstQ a j) w) (hI : ∀ c, c < 3 → useIQ 3 c = true → IQ w0 ok1 ok2 g1 g2 b es y c w) : wpOp Try.prog ops Q 3 (fun a' w' => ∃ v, a' = a.put (dstQ 3) v ∧ FQ w0 ok1 ok2 g1 g2 b es y 3 (valO dstQ 3 v) w' ∧ (Below w.heap.size w w' ∨ ((∀ j u, j < 8 → j ≠ 3 → killQ 3 j = false → (ncQ.getD j []).contains 3 = false → FQ w0 ok1 ok2 g1 g2 b es y j u w → FQ w0 ok1 ok2 g1 g2 b es y j u w') ∧ (∀ c, c < 3 → killIQ 3 c = false → IQ w0 ok1 ok2 g1 g2 b es y c w → IQ w0 ok1 ok2 g1 g2 b es y c w')))) a w := by
  subst hops
  have ho : (opsOf Try.f6 22)[3]? = some ({ dst := some 78, op := Go.Op.move (Go.Operand.tmp 4), type := 47, pos := "law.go:41", after := #[], guard := none } : Oper) := by kernel_rfl
  refine wpOp_plain ho rfl ?_
  clear hN hI ho
  go_simp
  first | exact ⟨_, rfl, rfl⟩ | exact ⟨_, rfl, rfl, .inl (Below.refl _ _)⟩
set_option maxRecDepth 100000 in
theorem sQ_4 {ops : Array Oper} {Q : Exit → Act → World → Prop} (hops : ops = opsOf Try.f6 22) (w0 : World) (ok1 ok2 : Nat → Prop) (g1 g2 b : Nat) (es : List S55) (y : S51) (a : Act) (w : World) (h3 : a.tmps[3]?.getD undef = .pointer (some ⟨g1, 0, none⟩)) (h4 : a.tmps[4]?.getD undef = .pointer (some ⟨g2, 0, none⟩)) (h6 : a.tmps[6]?.getD undef = .pointer (some ⟨b, 0, none⟩))
    (hN : ∀ j, j ∈ usQ.getD 4 [] → FQ w0 ok1 ok2 g1 g2 b es y j (slotO dstQ a j) w) (hI : ∀ c, c < 3 → useIQ 4 c = true → IQ w0 ok1 ok2 g1 g2 b es y c w) : wpOp Try.prog ops Q 4 (fun a' w' => ∃ v, a' = a.put (dstQ 4) v ∧ FQ w0 ok1 ok2 g1 g2 b es y 4 (valO dstQ 4 v) w' ∧ (Below w.heap.size w w' ∨ ((∀ j u, j < 8 → j ≠ 4 → killQ 4 j = false → (ncQ.getD j []).contains 4 = false → FQ w0 ok1 ok2 g1 g2 b es y j u w → FQ w0 ok1 ok2 g1 g2 b es y j u w') ∧ (∀ c, c < 3 → killIQ 4 c = false → IQ w0 ok1 ok2 g1 g2 b es y c w → IQ w0 ok1 ok2 g1 g2 b es y c w')))) a w := by
  subst hops
  have ho : (opsOf Try.f6 22)[4]? = some ({ dst := some 79, op := Go.Op.fieldAddr 51 (Go.Operand.tmp 6) 3, type := 0, pos := "law.go:41", after := #[], guard := none } : Oper) := by kernel_rfl
  refine wpOp_plain ho rfl ?_
  clear hN hI ho
  go_simp
  first | exact ⟨_, rfl, rfl⟩ | exact ⟨_, rfl, rfl, .inl (Below.refl _ _)⟩
set_option maxRecDepth 100000 in
theorem sQ_5 {ops : Array Oper} {Q : Exit → Act → World → Prop} (hops : ops = opsOf Try.f6 22) (w0 : World) (ok1 ok2 : Nat → Prop) (g1 g2 b : Nat) (es : List S55) (y : S51) (a : Act) (w : World) (h3 : a.tmps[3]?.getD undef = .pointer (some ⟨g1, 0, none⟩)) (h4 : a.tmps[4]?.getD undef = .pointer (some ⟨g2, 0, none⟩)) (h6 : a.tmps[6]?.getD undef = .pointer (some ⟨b, 0, none⟩))
    (hN : ∀ j, j ∈ usQ.getD 5 [] → FQ w0 ok1 ok2 g1 g2 b es y j (slotO dstQ a j) w) (hI : ∀ c, c < 3 → useIQ 5 c = true → IQ w0 ok1 ok2 g1 g2 b es y c w) : wpOp Try.prog ops Q 5 (fun a' w' => ∃ v, a' = a.put (dstQ 5) v ∧ FQ w0 ok1 ok2 g1 g2 b es y 5 (valO dstQ 5 v) w' ∧ (Below w.heap.size w w' ∨ ((∀ j u, j < 8 → j ≠ 5 → killQ 5 j = false → (ncQ.getD j []).contains 5 = false → FQ w0 ok1 ok2 g1 g2 b es y j u w → FQ w0 ok1 ok2 g1 g2 b es y j u w') ∧ (∀ c, c < 3 → killIQ 5 c = false → IQ w0 ok1 ok2 g1 g2 b es y c w → IQ w0 ok1 ok2 g1 g2 b es y c w')))) a w := by
  subst hops
  have n4 : a.tmps[79]?.getD undef = .pointer (some ⟨b, 3, none⟩) := hN 4 (by decide)
  have hi0 : (fun (w : World) => w.heap[b]? = some (.cells #[.int .i64 y.f0, .int .i64 y.f1, .int .i64 y.f2, .int .i64 y.f3, .string y.f4] 51 (0, 0)) ∧ b < w0.heap.size ∧ ¬ ok1 b ∧ ¬ ok2 b) w := hI 0 (by decide) (by decide)
  have ho : (opsOf Try.f6 22)[5]? = some ({ dst := some 80, op := Go.Op.load 3 (Go.Operand.tmp 79), type := 3, pos := "law.go:41", after := #[{ on := 4, ground := Go.Ground.data }], guard := none } : Oper) := by kernel_rfl
  refine wpOp_plain ho rfl ?_
  clear hN hI ho
  have hc : w.cell? ⟨b, 3, none⟩ = some (.int .i64 y.f3) := by
    obtain ⟨hb, -⟩ := hi0
    simp [World.cell?, hb]
  clear hi0
  go_simp
  first | exact ⟨_, rfl, rfl⟩ | exact ⟨_, rfl, rfl, .inl (Below.refl _ _)⟩
set_option maxRecDepth 100000 in
theorem sQ_6 {ops : Array Oper} {Q : Exit → Act → World → Prop} (hops : ops = opsOf Try.f6 22) (w0 : World) (ok1 ok2 : Nat → Prop) (g1 g2 b : Nat) (es : List S55) (y : S51) (a : Act) (w : World) (h3 : a.tmps[3]?.getD undef = .pointer (some ⟨g1, 0, none⟩)) (h4 : a.tmps[4]?.getD undef = .pointer (some ⟨g2, 0, none⟩)) (h6 : a.tmps[6]?.getD undef = .pointer (some ⟨b, 0, none⟩))
    (hN : ∀ j, j ∈ usQ.getD 6 [] → FQ w0 ok1 ok2 g1 g2 b es y j (slotO dstQ a j) w) (hI : ∀ c, c < 3 → useIQ 6 c = true → IQ w0 ok1 ok2 g1 g2 b es y c w) : wpOp Try.prog ops Q 6 (fun a' w' => ∃ v, a' = a.put (dstQ 6) v ∧ FQ w0 ok1 ok2 g1 g2 b es y 6 (valO dstQ 6 v) w' ∧ (Below w.heap.size w w' ∨ ((∀ j u, j < 8 → j ≠ 6 → killQ 6 j = false → (ncQ.getD j []).contains 6 = false → FQ w0 ok1 ok2 g1 g2 b es y j u w → FQ w0 ok1 ok2 g1 g2 b es y j u w') ∧ (∀ c, c < 3 → killIQ 6 c = false → IQ w0 ok1 ok2 g1 g2 b es y c w → IQ w0 ok1 ok2 g1 g2 b es y c w')))) a w := by
  subst hops
  have n2 : (fun (v : Value) (w : World) => v = .bool (openLS es y.f3).1 ∧ ∃ N, w0.heap.size ≤ N ∧ N ≤ w.heap.size ∧ TblS w (fun k => (ok1 k ∨ w0.heap.size ≤ k) ∧ k < N) g1 (openLS es y.f3).2 ∧ Kept w0 w (fun k => ok1 k ∨ ok2 k) ∧ Below 0 w0 w ∧ (∀ k, ok1 k → k < w0.heap.size ∧ ¬ ok2 k) ∧ (∀ k, ok2 k → k < w0.heap.size) ∧ Good es) (a.tmps[77]?.getD undef) w := hN 2 (by decide)
  have n3 : a.tmps[78]?.getD undef = .pointer (some ⟨g2, 0, none⟩) := hN 3 (by decide)
  have n5 : a.tmps[80]?.getD undef = .int .i64 y.f3 := hN 5 (by decide)
  have hi2 : (fun (w : World) => TblX w ok2 g2 es ∧ (∀ k, ok1 k → k < w0.heap.size ∧ ¬ ok2 k) ∧ (∀ k, ok2 k → k < w0.heap.size) ∧ Good es) w := hI 2 (by decide) (by decide)
  have ho : (opsOf Try.f6 22)[6]? = some ({ dst := some 81, op := Go.Op.call { callee := Go.Callee.value (Go.Operand.func 16), args := #[Go.Operand.tmp 78, Go.Operand.tmp 80], argTypes := #[47, 3] }, type := 4, pos := "law.go:41", after := #[{ on := 3, ground := Go.Ground.data }, { on := 5, ground := Go.Ground.data }, { on := 2, ground := Go.Ground.chain }], guard := none } : Oper) := by kernel_rfl
  refine wpOp_plain ho rfl ?_
  clear hN hI ho
  obtain ⟨hT, hD⟩ := hi2
  obtain ⟨hv, NN, hn1, hn2, hT1, hK1, hB1, -⟩ := n2
  have HH := Aside0.mk (ropen_calls hT y.f3 hD.2.2.len)
  have HG := Aside0.mk (And.intro hn1 (And.intro hn2 (And.intro hT1 (And.intro hK1 (And.intro hB1 hD)))))
  clear hT hD hn1 hn2 hT1 hK1 hB1
  go_simp
  refine HH.out.mono ?_
  rintro e w' hh
  unfold ROpenQ at hh
  obtain ⟨r, es', rfl, hr, hq, hT2, hK2, hB2⟩ := hh
  obtain ⟨hop, hgood⟩ := HG.out.2.2.2.2.2.2.2.opened y.f3 r es' hr hq
  have hvv : Value.bool r = .bool (openLS es y.f3).1 := by rw [hop]
  have e2 : es' = (openLS es y.f3).2 := by rw [hop]
  rw [e2] at hT2 hgood
  obtain ⟨hn1, hn2, hT1, hK1, hB1, hD⟩ := HG.out
  have hdis : ∀ k, ((ok1 k ∨ w0.heap.size ≤ k) ∧ k < NN) → ¬ ok2 k := fun k hk h2 => by
    rcases hk.1 with h | h
    · exact (hD.1 k h).2 h2
    · have := hD.2.1 k h2; omega
  refine ⟨_, rfl, ⟨hvv, NN, hn1, Nat.le_trans hn2 hK2.1, hT1.kept hK2 hdis, hT2.mono (fun k hk => by
      rcases hk with h | h
      · exact .inl h
      · exact .inr (Nat.le_trans hn2 h)), ⟨Nat.le_trans hK1.1 hK2.1, fun k hk hn => (hK2.2 k (Nat.lt_of_lt_of_le hk hK1.1) (fun h => hn (.inr h))).trans (hK1.2 k hk hn)⟩, hB1.trans hB2, hgood⟩, .inr ⟨?_, ?_⟩⟩
  · intro j u hj hne hk hcc hF
    have hj' : j = 0 ∨ j = 1 ∨ j = 2 ∨ j = 3 ∨ j = 4 ∨ j = 5 ∨ j = 6 ∨ j = 7 := by omega
    rcases hj' with rfl | rfl | rfl | rfl | rfl | rfl | rfl | rfl <;> first | exact hF | (exact absurd hk (by decide)) | (exact absurd rfl hne) | (exact absurd hcc (by decide)) | (
      obtain ⟨hv, N2, hm1, hm2, hT3, hK3, hB3, hD3⟩ := hF
      exact ⟨hv, N2, hm1, Nat.le_trans hm2 hK2.1, hT3.kept hK2 (fun k hk h2 => by
        rcases hk.1 with h | h
        · exact (hD.1 k h).2 h2
        · have := hD.2.1 k h2; omega), ⟨Nat.le_trans hK3.1 hK2.1, fun k hk hn => (hK2.2 k (Nat.lt_of_lt_of_le hk hK3.1) (fun h => hn (.inr h))).trans (hK3.2 k hk hn)⟩, hB3.trans hB2, hD3⟩)
  · intro c hc hk hi
    have hc' : c = 0 ∨ c = 1 ∨ c = 2 := by omega
    rcases hc' with rfl | rfl | rfl
    · have h : w.heap[b]? = some (.cells #[.int .i64 y.f0, .int .i64 y.f1, .int .i64 y.f2, .int .i64 y.f3, .string y.f4] 51 (0, 0)) ∧ b < w0.heap.size ∧ ¬ ok1 b ∧ ¬ ok2 b := hi
      exact ⟨(hK2.2 b (Array.getElem?_eq_some_iff.1 h.1).1 h.2.2.2).trans h.1, h.2⟩
    · have h : TblS w ok1 g1 es ∧ Below w0.heap.size w0 w ∧ (∀ k, ok1 k → k < w0.heap.size ∧ ¬ ok2 k) ∧ (∀ k, ok2 k → k < w0.heap.size) ∧ Good es := hi
      exact absurd hk (by decide)
    · exact absurd hk (by decide)
set_option maxRecDepth 100000 in
theorem sQ_7 {ops : Array Oper} {Q : Exit → Act → World → Prop} (hops : ops = opsOf Try.f6 22) (w0 : World) (ok1 ok2 : Nat → Prop) (g1 g2 b : Nat) (es : List S55) (y : S51) (a : Act) (w : World) (h3 : a.tmps[3]?.getD undef = .pointer (some ⟨g1, 0, none⟩)) (h4 : a.tmps[4]?.getD undef = .pointer (some ⟨g2, 0, none⟩)) (h6 : a.tmps[6]?.getD undef = .pointer (some ⟨b, 0, none⟩))
    (hN : ∀ j, j ∈ usQ.getD 7 [] → FQ w0 ok1 ok2 g1 g2 b es y j (slotO dstQ a j) w) (hI : ∀ c, c < 3 → useIQ 7 c = true → IQ w0 ok1 ok2 g1 g2 b es y c w) : wpOp Try.prog ops Q 7 (fun a' w' => ∃ v, a' = a.put (dstQ 7) v ∧ FQ w0 ok1 ok2 g1 g2 b es y 7 (valO dstQ 7 v) w' ∧ (Below w.heap.size w w' ∨ ((∀ j u, j < 8 → j ≠ 7 → killQ 7 j = false → (ncQ.getD j []).contains 7 = false → FQ w0 ok1 ok2 g1 g2 b es y j u w → FQ w0 ok1 ok2 g1 g2 b es y j u w') ∧ (∀ c, c < 3 → killIQ 7 c = false → IQ w0 ok1 ok2 g1 g2 b es y c w → IQ w0 ok1 ok2 g1 g2 b es y c w')))) a w := by
  subst hops
  have n2 : (fun (v : Value) (w : World) => v = .bool (openLS es y.f3).1 ∧ ∃ N, w0.heap.size ≤ N ∧ N ≤ w.heap.size ∧ TblS w (fun k => (ok1 k ∨ w0.heap.size ≤ k) ∧ k < N) g1 (openLS es y.f3).2 ∧ Kept w0 w (fun k => ok1 k ∨ ok2 k) ∧ Below 0 w0 w ∧ (∀ k, ok1 k → k < w0.heap.size ∧ ¬ ok2 k) ∧ (∀ k, ok2 k → k < w0.heap.size) ∧ Good es) (a.tmps[77]?.getD undef) w := hN 2 (by decide)
  have n6 : (fun (v : Value) (w : World) => v = .bool (openLS es y.f3).1 ∧ ∃ N, w0.heap.size ≤ N ∧ N ≤ w.heap.size ∧ TblS w (fun k => (ok1 k ∨ w0.heap.size ≤ k) ∧ k < N) g1 (openLS es y.f3).2 ∧ TblX w (fun k => ok2 k ∨ N ≤ k) g2 (openLS es y.f3).2 ∧ Kept w0 w (fun k => ok1 k ∨ ok2 k) ∧ Below 0 w0 w ∧ Good (openLS es y.f3).2) (a.tmps[81]?.getD undef) w := hN 6 (by decide)
  have ho : (opsOf Try.f6 22)[7]? = some ({ dst := some 82, op := Go.Op.binOp Go.BinOp.neq 4 (Go.Operand.tmp 77) (Go.Operand.tmp 81) 4, type := 4, pos := "law.go:41", after := #[{ on := 2, ground := Go.Ground.data }, { on := 6, ground := Go.Ground.data }], guard := none } : Oper) := by kernel_rfl
  refine wpOp_plain ho rfl ?_
  clear hN hI ho
  have n2' : a.tmps[77]?.getD undef = .bool (openLS es y.f3).1 := n2.1
  have n6' : a.tmps[81]?.getD undef = .bool (openLS es y.f3).1 := n6.1
  clear n2 n6
  generalize (openLS es y.f3).1 = r at *
  go_simp
  cases r <;> first | exact ⟨_, rfl, rfl⟩ | exact ⟨_, rfl, rfl, .inl (Below.refl _ _)⟩
theorem monoQ (w0 : World) (ok1 ok2 : Nat → Prop) (g1 g2 b : Nat) (es : List S55) (y : S51) (j : Nat) (v : Value) (w w' : World) (h : FQ w0 ok1 ok2 g1 g2 b es y j v w) (hb : Below w.heap.size w w') : FQ w0 ok1 ok2 g1 g2 b es y j v w' := by
  unfold FQ at h ⊢
  split <;> first
    | exact True.intro
    | exact h
    | (obtain ⟨hv, N2, hm1, hm2, hT3, hK3, hB3, hD3⟩ := h; exact ⟨hv, N2, hm1, Nat.le_trans hm2 hb.size, hT3.below hb, Kept.below hK3 hb, hB3.trans (hb.mono (Nat.zero_le _)), hD3⟩)
    | (obtain ⟨hv, N2, hm1, hm2, hT3, hT4, hK3, hB3, hD3⟩ := h; exact ⟨hv, N2, hm1, Nat.le_trans hm2 hb.size, hT3.below hb, hT4.below hb, Kept.below hK3 hb, hB3.trans (hb.mono (Nat.zero_le _)), hD3⟩)
theorem monoIQ (w0 : World) (ok1 ok2 : Nat → Prop) (g1 g2 b : Nat) (es : List S55) (y : S51) (c : Nat) (w w' : World) (h : IQ w0 ok1 ok2 g1 g2 b es y c w) (hb : Below w.heap.size w w') : IQ w0 ok1 ok2 g1 g2 b es y c w' := by
  unfold IQ at h ⊢
  split <;> first
    | exact True.intro
    | exact ⟨(hb.block b (Array.getElem?_eq_some_iff.1 h.1).1).trans h.1, h.2⟩
    | exact ⟨h.1.below hb, h.2.1.trans (hb.mono h.2.1.size), h.2.2⟩
    | exact ⟨h.1.below hb, h.2⟩
theorem hinQ : ∀ i, i < 8 → ∀ d, dstQ i = some d → d < 151 := by
  have h2 : ∀ i, i < 8 → (dstQ i).all (fun d => decide (d < 151)) = true := by decide
  intro i hi d hd
  have := h2 i hi
  rw [hd] at this
  simpa using this
set_option maxRecDepth 100000 in
theorem regionQ {ops : Array Oper} {Q : Exit → Act → World → Prop} (hops : ops = opsOf Try.f6 22) {id_ : Nat} (w0 : World) (ok1 ok2 : Nat → Prop) (g1 g2 b : Nat) (es : List S55) (y : S51) (a0 : Act) (w0_ : World) (hI0 : ∀ c, IQ w0 ok1 ok2 g1 g2 b es y c w0_) (hsz : a0.tmps.size = 151) (h3 : a0.tmps[3]?.getD undef = .pointer (some ⟨g1, 0, none⟩)) (h4 : a0.tmps[4]?.getD undef = .pointer (some ⟨g2, 0, none⟩)) (h6 : a0.tmps[6]?.getD undef = .pointer (some ⟨b, 0, none⟩))
    (hQ : ∀ a w, AgreeO 8 dstQ a0 a → FQ w0 ok1 ok2 g1 g2 b es y 6 (slotO dstQ a 6) w → FQ w0 ok1 ok2 g1 g2 b es y 7 (slotO dstQ a 7) w → IQ w0 ok1 ok2 g1 g2 b es y 0 w → Q .normal a w) : (Code.region id_ ops true).wp Try.prog Q a0 w0_ := by
  refine region_heldB (n := 8) dstQ (FQ w0 ok1 ok2 g1 g2 b es y) (IQ w0 ok1 ok2 g1 g2 b es y) 3 ndQ ncQ usQ killQ killIQ useIQ (by kernel_rfl) (by rw [hops]; kernel_rfl) (by decide) ?_ (fun j v w w' _ h hb => monoQ w0 ok1 ok2 g1 g2 b es y j v w w' h hb) (fun c w w' h hb => monoIQ w0 ok1 ok2 g1 g2 b es y c w w' h hb) hI0 (by rw [hops]; kernel_rfl) (by decide) (by decide) (by decide) (by decide) (by decide) ?_ (fun a w hA hF hI => hQ a w hA (hF 6 (by decide) (by decide)) (hF 7 (by decide) (by decide)) (hI 0 (by decide) (by decide)))
  · intro i hi d hd
    rw [hsz]; exact hinQ i hi d hd
  · intro i a w hi hA hN hI
    have h3 := (hA.old 3 (by decide)).trans h3
    have h4 := (hA.old 4 (by decide)).trans h4
    have h6 := (hA.old 6 (by decide)).trans h6
    have hi' : i = 0 ∨ i = 1 ∨ i = 2 ∨ i = 3 ∨ i = 4 ∨ i = 5 ∨ i = 6 ∨ i = 7 := by omega
    rcases hi' with rfl | rfl | rfl | rfl | rfl | rfl | rfl | rfl
    · exact sQ_0 hops w0 ok1 ok2 g1 g2 b es y a w h3 h4 h6 hN hI
    · exact sQ_1 hops w0 ok1 ok2 g1 g2 b es y a w h3 h4 h6 hN hI
    · exact sQ_2 hops w0 ok1 ok2 g1 g2 b es y a w h3 h4 h6 hN hI
    · exact sQ_3 hops w0 ok1 ok2 g1 g2 b es y a w h3 h4 h6 hN hI
    · exact sQ_4 hops w0 ok1 ok2 g1 g2 b es y a w h3 h4 h6 hN hI
    · exact sQ_5 hops w0 ok1 ok2 g1 g2 b es y a w h3 h4 h6 hN hI
    · exact sQ_6 hops w0 ok1 ok2 g1 g2 b es y a w h3 h4 h6 hN hI
    · exact sQ_7 hops w0 ok1 ok2 g1 g2 b es y a w h3 h4 h6 hN hI
def dstZ (i : Nat) : Option Nat := ([some 112, some 113, some 114, some 115, some 116, some 117, some 118, some 119, some 120, some 121, some 122, some 123, some 124, some 125, some 126, some 127, some 128, some 129, some 130, some 131] : List (Option Nat)).getD i none
def ndZ : List (List Nat) := [[], [0], [], [2], [], [4], [], [6], [1, 3, 5, 7], [], [], [10], [], [12], [], [14], [], [16], [9, 11, 13, 15, 17, 8], [8, 18]]
def usZ : List (List Nat) := [[], [0], [], [2], [], [4], [], [6], [1, 3, 5, 7], [], [], [10], [], [12], [], [14], [], [16], [8, 9, 11, 13, 15, 17], [8, 18]]
def ncZ : List (List Nat) := [[], [0], [], [2], [], [4], [], [6], [0, 1, 2, 3, 4, 5, 6, 7], [], [], [10], [], [12], [], [14], [], [16], [0, 1, 2, 3, 4, 5, 6, 7, 8, 9, 10, 11, 12, 13, 14, 15, 16, 17], [0, 1, 2, 3, 4, 5, 6, 7, 8, 9, 10, 11, 12, 13, 14, 15, 16, 17, 18]]
def killZ (h j : Nat) : Bool := (false)
def killIZ (h j : Nat) : Bool := ((h == 8 && [1].contains j) || (h == 18 && [1, 2].contains j))
def useIZ (h j : Nat) : Bool := ((h == 1 && [0].contains j) || (h == 3 && [0].contains j) || (h == 5 && [0].contains j) || (h == 7 && [0].contains j) || (h == 11 && [0].contains j) || (h == 13 && [0].contains j) || (h == 15 && [0].contains j) || (h == 17 && [0].contains j) || (h == 8 && [1].contains j) || (h == 18 && [2].contains j))
def IZ (w0 : World) (ok1 ok2 : Nat → Prop) (g1 g2 b : Nat) (es : List S55) (y : S51) : Nat → World → Prop
  | 0, w => w.heap[b]? = some (.cells #[.int .i64 y.f0, .int .i64 y.f1, .int .i64 y.f2, .int .i64 y.f3, .string y.f4] 51 (0, 0)) ∧ b < w0.heap.size ∧ ¬ ok1 b ∧ ¬ ok2 b
  | 1, w => TblS w ok1 g1 es ∧ Below w0.heap.size w0 w ∧ (∀ k, ok1 k → k < w0.heap.size ∧ ¬ ok2 k) ∧ (∀ k, ok2 k → k < w0.heap.size) ∧ Good es
  | 2, w => TblX w ok2 g2 es ∧ (∀ k, ok1 k → k < w0.heap.size ∧ ¬ ok2 k) ∧ (∀ k, ok2 k → k < w0.heap.size) ∧ Good es
  | _, _ => True
def FZ (w0 : World) (ok1 ok2 : Nat → Prop) (g1 g2 b : Nat) (es : List S55) (y : S51) : Nat → Value → World → Prop
  | 0, v, w => v = .pointer (some ⟨b, 1, none⟩)
  | 1, v, w => v = .int .i64 y.f1
  | 2, v, w => v = .pointer (some ⟨b, 2, none⟩)
  | 3, v, w => v = .int .i64 y.f2
  | 4, v, w => v = .pointer (some ⟨b, 3, none⟩)
  | 5, v, w => v = .int .i64 y.f3
  | 6, v, w => v = .pointer (some ⟨b, 4, none⟩)
  | 7, v, w => v = .string y.f4
  | 8, v, w => v = .bool (doneS es y.f1 y.f2 y.f3 y.f4).1 ∧ ∃ N, w0.heap.size ≤ N ∧ N ≤ w.heap.size ∧ TblS w (fun k => (ok1 k ∨ w0.heap.size ≤ k) ∧ k < N) g1 (doneS es y.f1 y.f2 y.f3 y.f4).2 ∧ Kept w0 w (fun k => ok1 k ∨ ok2 k) ∧ Below 0 w0 w ∧ (∀ k, ok1 k → k < w0.heap.size ∧ ¬ ok2 k) ∧ (∀ k, ok2 k → k < w0.heap.size) ∧ Good es
  | 9, v, w => v = .pointer (some ⟨g2, 0, none⟩)
  | 10, v, w => v = .pointer (some ⟨b, 1, none⟩)
  | 11, v, w => v = .int .i64 y.f1
  | 12, v, w => v = .pointer (some ⟨b, 2, none⟩)
  | 13, v, w => v = .int .i64 y.f2
  | 14, v, w => v = .pointer (some ⟨b, 3, none⟩)
  | 15, v, w => v = .int .i64 y.f3
  | 16, v, w => v = .pointer (some ⟨b, 4, none⟩)
  | 17, v, w => v = .string y.f4
  | 18, v, w => v = .bool (doneS es y.f1 y.f2 y.f3 y.f4).1 ∧ ∃ N, w0.heap.size ≤ N ∧ N ≤ w.heap.size ∧ TblS w (fun k => (ok1 k ∨ w0.heap.size ≤ k) ∧ k < N) g1 (doneS es y.f1 y.f2 y.f3 y.f4).2 ∧ TblX w (fun k => ok2 k ∨ N ≤ k) g2 (doneS es y.f1 y.f2 y.f3 y.f4).2 ∧ Kept w0 w (fun k => ok1 k ∨ ok2 k) ∧ Below 0 w0 w ∧ Good (doneS es y.f1 y.f2 y.f3 y.f4).2
  | 19, v, w => v = .bool false
  | _, _, _ => True
set_option maxRecDepth 100000 in
theorem sZ_0 {ops : Array Oper} {Q : Exit → Act → World → Prop} (hops : ops = opsOf Try.f6 30) (w0 : World) (ok1 ok2 : Nat → Prop) (g1 g2 b : Nat) (es : List S55) (y : S51) (a : Act) (w : World) (h3 : a.tmps[3]?.getD undef = .pointer (some ⟨g1, 0, none⟩)) (h4 : a.tmps[4]?.getD undef = .pointer (some ⟨g2, 0, none⟩)) (h6 : a.tmps[6]?.getD undef = .pointer (some ⟨b, 0, none⟩))
    (hN : ∀ j, j ∈ usZ.getD 0 [] → FZ w0 ok1 ok2 g1 g2 b es y j (slotO dstZ a j) w) (hI : ∀ c, c < 3 → useIZ 0 c = true → IZ w0 ok1 ok2 g1 g2 b es y c w) : wpOp Try.prog ops Q 0 (fun a' w' => ∃ v, a' = a.put (dstZ 0) v ∧ FZ w0 ok1 ok2 g1 g2 b es y 0 (valO dstZ 0 v) w' ∧ (Below w.heap.size w w' ∨ ((∀ j u, j < 20 → j ≠ 0 → killZ 0 j = false → (ncZ.getD j []).contains 0 = false → FZ w0 ok1 ok2 g1 g2 b es y j u w → FZ w0 ok1 ok2 g1 g2 b es y j u w') ∧ (∀ c, c < 3 → killIZ 0 c = false → IZ w0 ok1 ok2 g1 g2 b es y c w → IZ w0 ok1 ok2 g1 g2 b es y c w')))) a w := by
  subst hops
  have ho : (opsOf Try.f6 30)[0]? = some ({ dst := some 112, op := Go.Op.fieldAddr 51 (Go.Operand.tmp 6) 1, type := 0, pos := "law.go:51", after := #[], guard := none } : Oper) := by kernel_rfl
  refine wpOp_plain ho rfl ?_
  clear hN hI ho
  go_simp
  first | exact ⟨_, rfl, rfl⟩ | exact ⟨_, rfl, rfl, .inl (Below.refl _ _)⟩
set_option maxRecDepth 100000 in
theorem sZ_1 {ops : Array Oper} {Q : Exit → Act → World → Prop} (hops : ops = opsOf Try.f6 30) (w0 : World) (ok1 ok2 : Nat → Prop) (g1 g2 b : Nat) (es : List S55) (y : S51) (a : Act) (w : World) (h3 : a.tmps[3]?.getD undef = .pointer (some ⟨g1, 0, none⟩)) (h4 : a.tmps[4]?.getD undef = .pointer (some ⟨g2, 0, none⟩)) (h6 : a.tmps[6]?.getD undef = .pointer (some ⟨b, 0, none⟩))
    (hN : ∀ j, j ∈ usZ.getD 1 [] → FZ w0 ok1 ok2 g1 g2 b es y j (slotO dstZ a j) w) (hI : ∀ c, c < 3 → useIZ 1 c = true → IZ w0 ok1 ok2 g1 g2 b es y c w) : wpOp Try.prog ops Q 1 (fun a' w' => ∃ v, a' = a.put (dstZ 1) v ∧ FZ w0 ok1 ok2 g1 g2 b es y 1 (valO dstZ 1 v) w' ∧ (Below w.heap.size w w' ∨ ((∀ j u, j < 20 → j ≠ 1 → killZ 1 j = false → (ncZ.getD j []).contains 1 = false → FZ w0 ok1 ok2 g1 g2 b es y j u w → FZ w0 ok1 ok2 g1 g2 b es y j u w') ∧ (∀ c, c < 3 → killIZ 1 c = false → IZ w0 ok1 ok2 g1 g2 b es y c w → IZ w0 ok1 ok2 g1 g2 b es y c w')))) a w := by
  subst hops
  have n0 : a.tmps[112]?.getD undef = .pointer (some ⟨b, 1, none⟩) := hN 0 (by decide)
  have hi0 : (fun (w : World) => w.heap[b]? = some (.cells #[.int .i64 y.f0, .int .i64 y.f1, .int .i64 y.f2, .int .i64 y.f3, .string y.f4] 51 (0, 0)) ∧ b < w0.heap.size ∧ ¬ ok1 b ∧ ¬ ok2 b) w := hI 0 (by decide) (by decide)
  have ho : (opsOf Try.f6 30)[1]? = some ({ dst := some 113, op := Go.Op.load 3 (Go.Operand.tmp 112), type := 3, pos := "law.go:51", after := #[{ on := 0, ground := Go.Ground.data }], guard := none } : Oper) := by kernel_rfl
  refine wpOp_plain ho rfl ?_
  clear hN hI ho
  have hc : w.cell? ⟨b, 1, none⟩ = some (.int .i64 y.f1) := by
    obtain ⟨hb, -⟩ := hi0
    simp [World.cell?, hb]
  clear hi0
  go_simp
  first | exact ⟨_, rfl, rfl⟩ | exact ⟨_, rfl, rfl, .inl (Below.refl _ _)⟩
set_option maxRecDepth 100000 in
theorem sZ_2 {ops : Array Oper} {Q : Exit → Act → World → Prop} (hops : ops = opsOf Try.f6 30) (w0 : World) (ok1 ok2 : Nat → Prop) (g1 g2 b : Nat) (es : List S55) (y : S51) (a : Act) (w : World) (h3 : a.tmps[3]?.getD undef = .pointer (some ⟨g1, 0, none⟩)) (h4 : a.tmps[4]?.getD undef = .pointer (some ⟨g2, 0, none⟩)) (h6 : a.tmps[6]?.getD undef = .pointer (some ⟨b, 0, none⟩))
    (hN : ∀ j, j ∈ usZ.getD 2 [] → FZ w0 ok1 ok2 g1 g2 b es y j (slotO dstZ a j) w) (hI : ∀ c, c < 3 → useIZ 2 c = true → IZ w0 ok1 ok2 g1 g2 b es y c w) : wpOp Try.prog ops Q 2 (fun a' w' => ∃ v, a' = a.put (dstZ 2) v ∧ FZ w0 ok1 ok2 g1 g2 b es y 2 (valO dstZ 2 v) w' ∧ (Below w.heap.size w w' ∨ ((∀ j u, j < 20 → j ≠ 2 → killZ 2 j = false → (ncZ.getD j []).contains 2 = false → FZ w0 ok1 ok2 g1 g2 b es y j u w → FZ w0 ok1 ok2 g1 g2 b es y j u w') ∧ (∀ c, c < 3 → killIZ 2 c = false → IZ w0 ok1 ok2 g1 g2 b es y c w → IZ w0 ok1 ok2 g1 g2 b es y c w')))) a w := by
  subst hops
  have ho : (opsOf Try.f6 30)[2]? = some ({ dst := some 114, op := Go.Op.fieldAddr 51 (Go.Operand.tmp 6) 2, type := 0, pos := "law.go:51", after := #[], guard := none } : Oper) := by kernel_rfl
  refine wpOp_plain ho rfl ?_
  clear hN hI ho
  go_simp
  first | exact ⟨_, rfl, rfl⟩ | exact ⟨_, rfl, rfl, .inl (Below.refl _ _)⟩
set_option maxRecDepth 100000 in
theorem sZ_3 {ops : Array Oper} {Q : Exit → Act → World → Prop} (hops : ops = opsOf Try.f6 30) (w0 : World) (ok1 ok2 : Nat → Prop) (g1 g2 b : Nat) (es : List S55) (y : S51) (a : Act) (w : World) (h3 : a.tmps[3]?.getD undef = .pointer (some ⟨g1, 0, none⟩)) (h4 : a.tmps[4]?.getD undef = .pointer (some ⟨g2, 0, none⟩)) (h6 : a.tmps[6]?.getD undef = .pointer (some ⟨b, 0, none⟩))
    (hN : ∀ j, j ∈ usZ.getD 3 [] → FZ w0 ok1 ok2 g1 g2 b es y j (slotO dstZ a j) w) (hI : ∀ c, c < 3 → useIZ 3 c = true → IZ w0 ok1 ok2 g1 g2 b es y c w) : wpOp Try.prog ops Q 3 (fun a' w' => ∃ v, a' = a.put (dstZ 3) v ∧ FZ w0 ok1 ok2 g1 g2 b es y 3 (valO dstZ 3 v) w' ∧ (Below w.heap.size w w' ∨ ((∀ j u, j < 20 → j ≠ 3 → killZ 3 j = false → (ncZ.getD j []).contains 3 = false → FZ w0 ok1 ok2 g1 g2 b es y j u w → FZ w0 ok1 ok2 g1 g2 b es y j u w') ∧ (∀ c, c < 3 → killIZ 3 c = false → IZ w0 ok1 ok2 g1 g2 b es y c w → IZ w0 ok1 ok2 g1 g2 b es y c w')))) a w := by
  subst hops
  have n2 : a.tmps[114]?.getD undef = .pointer (some ⟨b, 2, none⟩) := hN 2 (by decide)
  have hi0 : (fun (w : World) => w.heap[b]? = some (.cells #[.int .i64 y.f0, .int .i64 y.f1, .int .i64 y.f2, .int .i64 y.f3, .string y.f4] 51 (0, 0)) ∧ b < w0.heap.size ∧ ¬ ok1 b ∧ ¬ ok2 b) w := hI 0 (by decide) (by decide)
  have ho : (opsOf Try.f6 30)[3]? = some ({ dst := some 115, op := Go.Op.load 3 (Go.Operand.tmp 114), type := 3, pos := "law.go:51", after := #[{ on := 2, ground := Go.Ground.data }], guard := none } : Oper) := by kernel_rfl
  refine wpOp_plain ho rfl ?_
  clear hN hI ho
  have hc : w.cell? ⟨b, 2, none⟩ = some (.int .i64 y.f2) := by
    obtain ⟨hb, -⟩ := hi0
    simp [World.cell?, hb]
  clear hi0
  go_simp
  first | exact ⟨_, rfl, rfl⟩ | exact ⟨_, rfl, rfl, .inl (Below.refl _ _)⟩
set_option maxRecDepth 100000 in
theorem sZ_4 {ops : Array Oper} {Q : Exit → Act → World → Prop} (hops : ops = opsOf Try.f6 30) (w0 : World) (ok1 ok2 : Nat → Prop) (g1 g2 b : Nat) (es : List S55) (y : S51) (a : Act) (w : World) (h3 : a.tmps[3]?.getD undef = .pointer (some ⟨g1, 0, none⟩)) (h4 : a.tmps[4]?.getD undef = .pointer (some ⟨g2, 0, none⟩)) (h6 : a.tmps[6]?.getD undef = .pointer (some ⟨b, 0, none⟩))
    (hN : ∀ j, j ∈ usZ.getD 4 [] → FZ w0 ok1 ok2 g1 g2 b es y j (slotO dstZ a j) w) (hI : ∀ c, c < 3 → useIZ 4 c = true → IZ w0 ok1 ok2 g1 g2 b es y c w) : wpOp Try.prog ops Q 4 (fun a' w' => ∃ v, a' = a.put (dstZ 4) v ∧ FZ w0 ok1 ok2 g1 g2 b es y 4 (valO dstZ 4 v) w' ∧ (Below w.heap.size w w' ∨ ((∀ j u, j < 20 → j ≠ 4 → killZ 4 j = false → (ncZ.getD j []).contains 4 = false → FZ w0 ok1 ok2 g1 g2 b es y j u w → FZ w0 ok1 ok2 g1 g2 b es y j u w') ∧ (∀ c, c < 3 → killIZ 4 c = false → IZ w0 ok1 ok2 g1 g2 b es y c w → IZ w0 ok1 ok2 g1 g2 b es y c w')))) a w := by
  subst hops
  have ho : (opsOf Try.f6 30)[4]? = some ({ dst := some 116, op := Go.Op.fieldAddr 51 (Go.Operand.tmp 6) 3, type := 0, pos := "law.go:51", after := #[], guard := none } : Oper) := by kernel_rfl
  refine wpOp_plain ho rfl ?_
  clear hN hI ho
  go_simp
  first | exact ⟨_, rfl, rfl⟩ | exact ⟨_, rfl, rfl, .inl (Below.refl _ _)⟩
set_option maxRecDepth 100000 in
theorem sZ_5 {ops : Array Oper} {Q : Exit → Act → World → Prop} (hops : ops = opsOf Try.f6 30) (w0 : World) (ok1 ok2 : Nat → Prop) (g1 g2 b : Nat) (es : List S55) (y : S51) (a : Act) (w : World) (h3 : a.tmps[3]?.getD undef = .pointer (some ⟨g1, 0, none⟩)) (h4 : a.tmps[4]?.getD undef = .pointer (some ⟨g2, 0, none⟩)) (h6 : a.tmps[6]?.getD undef = .pointer (some ⟨b, 0, none⟩))
    (hN : ∀ j, j ∈ usZ.getD 5 [] → FZ w0 ok1 ok2 g1 g2 b es y j (slotO dstZ a j) w) (hI : ∀ c, c < 3 → useIZ 5 c = true → IZ w0 ok1 ok2 g1 g2 b es y c w) : wpOp Try.prog ops Q 5 (fun a' w' => ∃ v, a' = a.put (dstZ 5) v ∧ FZ w0 ok1 ok2 g1 g2 b es y 5 (valO dstZ 5 v) w' ∧ (Below w.heap.size w w' ∨ ((∀ j u, j < 20 → j ≠ 5 → killZ 5 j = false → (ncZ.getD j []).contains 5 = false → FZ w0 ok1 ok2 g1 g2 b es y j u w → FZ w0 ok1 ok2 g1 g2 b es y j u w') ∧ (∀ c, c < 3 → killIZ 5 c = false → IZ w0 ok1 ok2 g1 g2 b es y c w → IZ w0 ok1 ok2 g1 g2 b es y c w')))) a w := by
  subst hops
  have n4 : a.tmps[116]?.getD undef = .pointer (some ⟨b, 3, none⟩) := hN 4 (by decide)
  have hi0 : (fun (w : World) => w.heap[b]? = some (.cells #[.int .i64 y.f0, .int .i64 y.f1, .int .i64 y.f2, .int .i64 y.f3, .string y.f4] 51 (0, 0)) ∧ b < w0.heap.size ∧ ¬ ok1 b ∧ ¬ ok2 b) w := hI 0 (by decide) (by decide)
  have ho : (opsOf Try.f6 30)[5]? = some ({ dst := some 117, op := Go.Op.load 3 (Go.Operand.tmp 116), type := 3, pos := "law.go:51", after := #[{ on := 4, ground := Go.Ground.data }], guard := none } : Oper) := by kernel_rfl
  refine wpOp_plain ho rfl ?_
  clear hN hI ho
  have hc : w.cell? ⟨b, 3, none⟩ = some (.int .i64 y.f3) := by
    obtain ⟨hb, -⟩ := hi0
    simp [World.cell?, hb]
  clear hi0
  go_simp
  first | exact ⟨_, rfl, rfl⟩ | exact ⟨_, rfl, rfl, .inl (Below.refl _ _)⟩
set_option maxRecDepth 100000 in
theorem sZ_6 {ops : Array Oper} {Q : Exit → Act → World → Prop} (hops : ops = opsOf Try.f6 30) (w0 : World) (ok1 ok2 : Nat → Prop) (g1 g2 b : Nat) (es : List S55) (y : S51) (a : Act) (w : World) (h3 : a.tmps[3]?.getD undef = .pointer (some ⟨g1, 0, none⟩)) (h4 : a.tmps[4]?.getD undef = .pointer (some ⟨g2, 0, none⟩)) (h6 : a.tmps[6]?.getD undef = .pointer (some ⟨b, 0, none⟩))
    (hN : ∀ j, j ∈ usZ.getD 6 [] → FZ w0 ok1 ok2 g1 g2 b es y j (slotO dstZ a j) w) (hI : ∀ c, c < 3 → useIZ 6 c = true → IZ w0 ok1 ok2 g1 g2 b es y c w) : wpOp Try.prog ops Q 6 (fun a' w' => ∃ v, a' = a.put (dstZ 6) v ∧ FZ w0 ok1 ok2 g1 g2 b es y 6 (valO dstZ 6 v) w' ∧ (Below w.heap.size w w' ∨ ((∀ j u, j < 20 → j ≠ 6 → killZ 6 j = false → (ncZ.getD j []).contains 6 = false → FZ w0 ok1 ok2 g1 g2 b es y j u w → FZ w0 ok1 ok2 g1 g2 b es y j u w') ∧ (∀ c, c < 3 → killIZ 6 c = false → IZ w0 ok1 ok2 g1 g2 b es y c w → IZ w0 ok1 ok2 g1 g2 b es y c w')))) a w := by
  subst hops
  have ho : (opsOf Try.f6 30)[6]? = some ({ dst := some 118, op := Go.Op.fieldAddr 51 (Go.Operand.tmp 6) 4, type := 0, pos := "law.go:51", after := #[], guard := none } : Oper) := by kernel_rfl
  refine wpOp_plain ho rfl ?_
  clear hN hI ho
  go_simp
  first | exact ⟨_, rfl, rfl⟩ | exact ⟨_, rfl, rfl, .inl (Below.refl _ _)⟩
set_option maxRecDepth 100000 in
theorem sZ_7 {ops : Array Oper} {Q : Exit → Act → World → Prop} (hops : ops = opsOf Try.f6 30) (w0 : World) (ok1 ok2 : Nat → Prop) (g1 g2 b : Nat) (es : List S55) (y : S51) (a : Act) (w : World) (h3 : a.tmps[3]?.getD undef = .pointer (some ⟨g1, 0, none⟩)) (h4 : a.tmps[4]?.getD undef = .pointer (some ⟨g2, 0, none⟩)) (h6 : a.tmps[6]?.getD undef = .pointer (some ⟨b, 0, none⟩))
    (hN : ∀ j, j ∈ usZ.getD 7 [] → FZ w0 ok1 ok2 g1 g2 b es y j (slotO dstZ a j) w) (hI : ∀ c, c < 3 → useIZ 7 c = true → IZ w0 ok1 ok2 g1 g2 b es y c w) : wpOp Try.prog ops Q 7 (fun a' w' => ∃ v, a' = a.put (dstZ 7) v ∧ FZ w0 ok1 ok2 g1 g2 b es y 7 (valO dstZ 7 v) w' ∧ (Below w.heap.size w w' ∨ ((∀ j u, j < 20 → j ≠ 7 → killZ 7 j = false → (ncZ.getD j []).contains 7 = false → FZ w0 ok1 ok2 g1 g2 b es y j u w → FZ w0 ok1 ok2 g1 g2 b es y j u w') ∧ (∀ c, c < 3 → killIZ 7 c = false → IZ w0 ok1 ok2 g1 g2 b es y c w → IZ w0 ok1 ok2 g1 g2 b es y c w')))) a w := by
  subst hops
  have n6 : a.tmps[118]?.getD undef = .pointer (some ⟨b, 4, none⟩) := hN 6 (by decide)
  have hi0 : (fun (w : World) => w.heap[b]? = some (.cells #[.int .i64 y.f0, .int .i64 y.f1, .int .i64 y.f2, .int .i64 y.f3, .string y.f4] 51 (0, 0)) ∧ b < w0.heap.size ∧ ¬ ok1 b ∧ ¬ ok2 b) w := hI 0 (by decide) (by decide)
  have ho : (opsOf Try.f6 30)[7]? = some ({ dst := some 119, op := Go.Op.load 9 (Go.Operand.tmp 118), type := 9, pos := "law.go:51", after := #[{ on := 6, ground := Go.Ground.data }], guard := none } : Oper) := by kernel_rfl
  refine wpOp_plain ho rfl ?_
  clear hN hI ho
  have hc : w.cell? ⟨b, 4, none⟩ = some (.string y.f4) := by
    obtain ⟨hb, -⟩ := hi0
    simp [World.cell?, hb]
  clear hi0
  go_simp
  first | exact ⟨_, rfl, rfl⟩ | exact ⟨_, rfl, rfl, .inl (Below.refl _ _)⟩
set_option maxRecDepth 100000 in
theorem sZ_8 {ops : Array Oper} {Q : Exit → Act → World → Prop} (hops : ops = opsOf Try.f6 30) (w0 : World) (ok1 ok2 : Nat → Prop) (g1 g2 b : Nat) (es : List S55) (y : S51) (a : Act) (w : World) (h3 : a.tmps[3]?.getD undef = .pointer (some ⟨g1, 0, none⟩)) (h4 : a.tmps[4]?.getD undef = .pointer (some ⟨g2, 0, none⟩)) (h6 : a.tmps[6]?.getD undef = .pointer (some ⟨b, 0, none⟩))
    (hN : ∀ j, j ∈ usZ.getD 8 [] → FZ w0 ok1 ok2 g1 g2 b es y j (slotO dstZ a j) w) (hI : ∀ c, c < 3 → useIZ 8 c = true → IZ w0 ok1 ok2 g1 g2 b es y c w) : wpOp Try.prog ops Q 8 (fun a' w' => ∃ v, a' = a.put (dstZ 8) v ∧ FZ w0 ok1 ok2 g1 g2 b es y 8 (valO dstZ 8 v) w' ∧ (Below w.heap.size w w' ∨ ((∀ j u, j < 20 → j ≠ 8 → killZ 8 j = false → (ncZ.getD j []).contains 8 = false → FZ w0 ok1 ok2 g1 g2 b es y j u w → FZ w0 ok1 ok2 g1 g2 b es y j u w') ∧ (∀ c, c < 3 → killIZ 8 c = false → IZ w0 ok1 ok2 g1 g2 b es y c w → IZ w0 ok1 ok2 g1 g2 b es y c w')))) a w := by
  subst hops
  have n1 : a.tmps[113]?.getD undef = .int .i64 y.f1 := hN 1 (by decide)
  have n3 : a.tmps[115]?.getD undef = .int .i64 y.f2 := hN 3 (by decide)
  have n5 : a.tmps[117]?.getD undef = .int .i64 y.f3 := hN 5 (by decide)
  have n7 : a.tmps[119]?.getD undef = .string y.f4 := hN 7 (by decide)
  have hi1 : (fun (w : World) => TblS w ok1 g1 es ∧ Below w0.heap.size w0 w ∧ (∀ k, ok1 k → k < w0.heap.size ∧ ¬ ok2 k) ∧ (∀ k, ok2 k → k < w0.heap.size) ∧ Good es) w := hI 1 (by decide) (by decide)
  have ho : (opsOf Try.f6 30)[8]? = some ({ dst := some 120, op := Go.Op.call { callee := Go.Callee.value (Go.Operand.func 12), args := #[Go.Operand.tmp 3, Go.Operand.tmp 113, Go.Operand.tmp 115, Go.Operand.tmp 117, Go.Operand.tmp 119], argTypes := #[36, 3, 3, 3, 9] }, type := 4, pos := "law.go:51", after := #[{ on := 1, ground := Go.Ground.data }, { on := 3, ground := Go.Ground.data }, { on := 5, ground := Go.Ground.data }, { on := 7, ground := Go.Ground.data }], guard := none } : Oper) := by kernel_rfl
  refine wpOp_plain ho rfl ?_
  clear hN hI ho
  obtain ⟨hT, hB, hD⟩ := hi1
  have HH := Aside0.mk (done_callsS hT y.f1 y.f2 y.f3 y.f4)
  have HB := Aside0.mk hB
  have HD := Aside0.mk hD
  clear hT hB hD
  go_simp
  refine HH.out.mono ?_
  rintro e w' ⟨rfl, hT2, hK2, hB2⟩
  refine ⟨_, rfl, ⟨rfl, w'.heap.size, Nat.le_trans HB.out.size hK2.1, Nat.le_refl _, ?_, ⟨Nat.le_trans HB.out.size hK2.1, fun k hk hn => (hK2.2 k (Nat.lt_of_lt_of_le hk HB.out.size) (fun h => hn (.inl h))).trans (HB.out.block k hk)⟩, (HB.out.mono (Nat.zero_le _)).trans hB2, HD.out⟩, .inr ⟨?_, ?_⟩⟩
  · exact (TblS.bound hT2).mono (fun k hk => ⟨by
      rcases hk.1 with h | h
      · exact .inl h
      · exact .inr (Nat.le_trans HB.out.size h), hk.2⟩)
  · intro j u hj hne hk hcc hF
    have hj' : j = 0 ∨ j = 1 ∨ j = 2 ∨ j = 3 ∨ j = 4 ∨ j = 5 ∨ j = 6 ∨ j = 7 ∨ j = 8 ∨ j = 9 ∨ j = 10 ∨ j = 11 ∨ j = 12 ∨ j = 13 ∨ j = 14 ∨ j = 15 ∨ j = 16 ∨ j = 17 ∨ j = 18 ∨ j = 19 := by omega
    rcases hj' with rfl | rfl | rfl | rfl | rfl | rfl | rfl | rfl | rfl | rfl | rfl | rfl | rfl | rfl | rfl | rfl | rfl | rfl | rfl | rfl <;> first | exact hF | (exact absurd hk (by decide)) | (exact absurd rfl hne) | (exact absurd hcc (by decide))
  · intro c hc hk hi
    have hc' : c = 0 ∨ c = 1 ∨ c = 2 := by omega
    rcases hc' with rfl | rfl | rfl
    · have h : w.heap[b]? = some (.cells #[.int .i64 y.f0, .int .i64 y.f1, .int .i64 y.f2, .int .i64 y.f3, .string y.f4] 51 (0, 0)) ∧ b < w0.heap.size ∧ ¬ ok1 b ∧ ¬ ok2 b := hi
      exact ⟨(hK2.2 b (Array.getElem?_eq_some_iff.1 h.1).1 h.2.2.1).trans h.1, h.2⟩
    · exact absurd hk (by decide)
    · have h : TblX w ok2 g2 es ∧ (∀ k, ok1 k → k < w0.heap.size ∧ ¬ ok2 k) ∧ (∀ k, ok2 k → k < w0.heap.size) ∧ Good es := hi
      exact ⟨h.1.kept hK2 (fun k h2 h1 => (h.2.1 k h1).2 h2), h.2⟩
set_option maxRecDepth 100000 in
theorem sZ_9 {ops : Array Oper} {Q : Exit → Act → World → Prop} (hops : ops = opsOf Try.f6 30) (w0 : World) (ok1 ok2 : Nat → Prop) (g1 g2 b : Nat) (es : List S55) (y : S51) (a : Act) (w : World) (h3 : a.tmps[3]?.getD undef = .pointer (some ⟨g1, 0, none⟩)) (h4 : a.tmps[4]?.getD undef = .pointer (some ⟨g2, 0, none⟩)) (h6 : a.tmps[6]?.getD undef = .pointer (some ⟨b, 0, none⟩))
    (hN : ∀ j, j ∈ usZ.getD 9 [] → FZ w0 ok1 ok2 g1 g2 b es y j (slotO dstZ a j) w) (hI : ∀ c, c < 3 → useIZ 9 c = true → IZ w0 ok1 ok2 g1 g2 b es y c w) : wpOp Try.prog ops Q 9 (fun a' w' => ∃ v, a' = a.put (dstZ 9) v ∧ FZ w0 ok1 ok2 g1 g2 b es y 9 (valO dstZ 9 v) w' ∧ (Below w.heap.size w w' ∨ ((∀ j u, j < 20 → j ≠ 9 → killZ 9 j = false → (ncZ.getD j []).contains 9 = false → FZ w0 ok1 ok2 g1 g2 b es y j u w → FZ w0 ok1 ok2 g1 g2 b es y j u w') ∧ (∀ c, c < 3 → killIZ 9 c = false → IZ w0 ok1 ok2 g1 g2 b es y c w → IZ w0 ok1 ok2 g1 g2 b es y c w')))) a w := by
  subst hops
  have ho : (opsOf Try.f6 30)[9]? = some ({ dst := some 121, op := Go.Op.move (Go.Operand.tmp 4), type := 47, pos := "law.go:51", after := #[], guard := none } : Oper) := by kernel_rfl
  refine wpOp_plain ho rfl ?_
  clear hN hI ho
  go_simp
  first | exact ⟨_, rfl, rfl⟩ | exact ⟨_, rfl, rfl, .inl (Below.refl _ _)⟩
set_option maxRecDepth 100000 in
theorem sZ_10 {ops : Array Oper} {Q : Exit → Act → World → Prop} (hops : ops = opsOf Try.f6 30) (w0 : World) (ok1 ok2 : Nat → Prop) (g1 g2 b : Nat) (es : List S55) (y : S51) (a : Act) (w : World) (h3 : a.tmps[3]?.getD undef = .pointer (some ⟨g1, 0, none⟩)) (h4 : a.tmps[4]?.getD undef = .pointer (some ⟨g2, 0, none⟩)) (h6 : a.tmps[6]?.getD undef = .pointer (some ⟨b, 0, none⟩))
    (hN : ∀ j, j ∈ usZ.getD 10 [] → FZ w0 ok1 ok2 g1 g2 b es y j (slotO dstZ a j) w) (hI : ∀ c, c < 3 → useIZ 10 c = true → IZ w0 ok1 ok2 g1 g2 b es y c w) : wpOp Try.prog ops Q 10 (fun a' w' => ∃ v, a' = a.put (dstZ 10) v ∧ FZ w0 ok1 ok2 g1 g2 b es y 10 (valO dstZ 10 v) w' ∧ (Below w.heap.size w w' ∨ ((∀ j u, j < 20 → j ≠ 10 → killZ 10 j = false → (ncZ.getD j []).contains 10 = false → FZ w0 ok1 ok2 g1 g2 b es y j u w → FZ w0 ok1 ok2 g1 g2 b es y j u w') ∧ (∀ c, c < 3 → killIZ 10 c = false → IZ w0 ok1 ok2 g1 g2 b es y c w → IZ w0 ok1 ok2 g1 g2 b es y c w')))) a w := by
  subst hops
  have ho : (opsOf Try.f6 30)[10]? = some ({ dst := some 122, op := Go.Op.fieldAddr 51 (Go.Operand.tmp 6) 1, type := 0, pos := "law.go:51", after := #[], guard := none } : Oper) := by kernel_rfl
  refine wpOp_plain ho rfl ?_
  clear hN hI ho
  go_simp
  first | exact ⟨_, rfl, rfl⟩ | exact ⟨_, rfl, rfl, .inl (Below.refl _ _)⟩
set_option maxRecDepth 100000 in
theorem sZ_11 {ops : Array Oper} {Q : Exit → Act → World → Prop} (hops : ops = opsOf Try.f6 30) (w0 : World) (ok1 ok2 : Nat → Prop) (g1 g2 b : Nat) (es : List S55) (y : S51) (a : Act) (w : World) (h3 : a.tmps[3]?.getD undef = .pointer (some ⟨g1, 0, none⟩)) (h4 : a.tmps[4]?.getD undef = .pointer (some ⟨g2, 0, none⟩)) (h6 : a.tmps[6]?.getD undef = .pointer (some ⟨b, 0, none⟩))
    (hN : ∀ j, j ∈ usZ.getD 11 [] → FZ w0 ok1 ok2 g1 g2 b es y j (slotO dstZ a j) w) (hI : ∀ c, c < 3 → useIZ 11 c = true → IZ w0 ok1 ok2 g1 g2 b es y c w) : wpOp Try.prog ops Q 11 (fun a' w' => ∃ v, a' = a.put (dstZ 11) v ∧ FZ w0 ok1 ok2 g1 g2 b es y 11 (valO dstZ 11 v) w' ∧ (Below w.heap.size w w' ∨ ((∀ j u, j < 20 → j ≠ 11 → killZ 11 j = false → (ncZ.getD j []).contains 11 = false → FZ w0 ok1 ok2 g1 g2 b es y j u w → FZ w0 ok1 ok2 g1 g2 b es y j u w') ∧ (∀ c, c < 3 → killIZ 11 c = false → IZ w0 ok1 ok2 g1 g2 b es y c w → IZ w0 ok1 ok2 g1 g2 b es y c w')))) a w := by
  subst hops
  have n10 : a.tmps[122]?.getD undef = .pointer (some ⟨b, 1, none⟩) := hN 10 (by decide)
  have hi0 : (fun (w : World) => w.heap[b]? = some (.cells #[.int .i64 y.f0, .int .i64 y.f1, .int .i64 y.f2, .int .i64 y.f3, .string y.f4] 51 (0, 0)) ∧ b < w0.heap.size ∧ ¬ ok1 b ∧ ¬ ok2 b) w := hI 0 (by decide) (by decide)
  have ho : (opsOf Try.f6 30)[11]? = some ({ dst := some 123, op := Go.Op.load 3 (Go.Operand.tmp 122), type := 3, pos := "law.go:51", after := #[{ on := 10, ground := Go.Ground.data }], guard := none } : Oper) := by kernel_rfl
  refine wpOp_plain ho rfl ?_
  clear hN hI ho
  have hc : w.cell? ⟨b, 1, none⟩ = some (.int .i64 y.f1) := by
    obtain ⟨hb, -⟩ := hi0
    simp [World.cell?, hb]
  clear hi0
  go_simp
  first | exact ⟨_, rfl, rfl⟩ | exact ⟨_, rfl, rfl, .inl (Below.refl _ _)⟩
set_option maxRecDepth 100000 in
theorem sZ_12 {ops : Array Oper} {Q : Exit → Act → World → Prop} (hops : ops = opsOf Try.f6 30) (w0 : World) (ok1 ok2 : Nat → Prop) (g1 g2 b : Nat) (es : List S55) (y : S51) (a : Act) (w : World) (h3 : a.tmps[3]?.getD undef = .pointer (some ⟨g1, 0, none⟩)) (h4 : a.tmps[4]?.getD undef = .pointer (some ⟨g2, 0, none⟩)) (h6 : a.tmps[6]?.getD undef = .pointer (some ⟨b, 0, none⟩))
    (hN : ∀ j, j ∈ usZ.getD 12 [] → FZ w0 ok1 ok2 g1 g2 b es y j (slotO dstZ a j) w) (hI : ∀ c, c < 3 → useIZ 12 c = true → IZ w0 ok1 ok2 g1 g2 b es y c w) : wpOp Try.prog ops Q 12 (fun a' w' => ∃ v, a' = a.put (dstZ 12) v ∧ FZ w0 ok1 ok2 g1 g2 b es y 12 (valO dstZ 12 v) w' ∧ (Below w.heap.size w w' ∨ ((∀ j u, j < 20 → j ≠ 12 → killZ 12 j = false → (ncZ.getD j []).contains 12 = false → FZ w0 ok1 ok2 g1 g2 b es y j u w → FZ w0 ok1 ok2 g1 g2 b es y j u w') ∧ (∀ c, c < 3 → killIZ 12 c = false → IZ w0 ok1 ok2 g1 g2 b es y c w → IZ w0 ok1 ok2 g1 g2 b es y c w')))) a w := by
  subst hops
  have ho : (opsOf Try.f6 30)[12]? = some ({ dst := some 124, op := Go.Op.fieldAddr 51 (Go.Operand.tmp 6) 2, type := 0, pos := "law.go:51", after := #[], guard := none } : Oper) := by kernel_rfl
  refine wpOp_plain ho rfl ?_
  clear hN hI ho
  go_simp
  first | exact ⟨_, rfl, rfl⟩ | exact ⟨_, rfl, rfl, .inl (Below.refl _ _)⟩
set_option maxRecDepth 100000 in
theorem sZ_13 {ops : Array Oper} {Q : Exit → Act → World → Prop} (hops : ops = opsOf Try.f6 30) (w0 : World) (ok1 ok2 : Nat → Prop) (g1 g2 b : Nat) (es : List S55) (y : S51) (a : Act) (w : World) (h3 : a.tmps[3]?.getD undef = .pointer (some ⟨g1, 0, none⟩)) (h4 : a.tmps[4]?.getD undef = .pointer (some ⟨g2, 0, none⟩)) (h6 : a.tmps[6]?.getD undef = .pointer (some ⟨b, 0, none⟩))
    (hN : ∀ j, j ∈ usZ.getD 13 [] → FZ w0 ok1 ok2 g1 g2 b es y j (slotO dstZ a j) w) (hI : ∀ c, c < 3 → useIZ 13 c = true → IZ w0 ok1 ok2 g1 g2 b es y c w) : wpOp Try.prog ops Q 13 (fun a' w' => ∃ v, a' = a.put (dstZ 13) v ∧ FZ w0 ok1 ok2 g1 g2 b es y 13 (valO dstZ 13 v) w' ∧ (Below w.heap.size w w' ∨ ((∀ j u, j < 20 → j ≠ 13 → killZ 13 j = false → (ncZ.getD j []).contains 13 = false → FZ w0 ok1 ok2 g1 g2 b es y j u w → FZ w0 ok1 ok2 g1 g2 b es y j u w') ∧ (∀ c, c < 3 → killIZ 13 c = false → IZ w0 ok1 ok2 g1 g2 b es y c w → IZ w0 ok1 ok2 g1 g2 b es y c w')))) a w := by
  subst hops
  have n12 : a.tmps[124]?.getD undef = .pointer (some ⟨b, 2, none⟩) := hN 12 (by decide)
  have hi0 : (fun (w : World) => w.heap[b]? = some (.cells #[.int .i64 y.f0, .int .i64 y.f1, .int .i64 y.f2, .int .i64 y.f3, .string y.f4] 51 (0, 0)) ∧ b < w0.heap.size ∧ ¬ ok1 b ∧ ¬ ok2 b) w := hI 0 (by decide) (by decide)
  have ho : (opsOf Try.f6 30)[13]? = some ({ dst := some 125, op := Go.Op.load 3 (Go.Operand.tmp 124), type := 3, pos := "law.go:51", after := #[{ on := 12, ground := Go.Ground.data }], guard := none } : Oper) := by kernel_rfl
  refine wpOp_plain ho rfl ?_
  clear hN hI ho
  have hc : w.cell? ⟨b, 2, none⟩ = some (.int .i64 y.f2) := by
    obtain ⟨hb, -⟩ := hi0
    simp [World.cell?, hb]
  clear hi0
  go_simp
  first | exact ⟨_, rfl, rfl⟩ | exact ⟨_, rfl, rfl, .inl (Below.refl _ _)⟩
set_option maxRecDepth 100000 in
theorem sZ_14 {ops : Array Oper} {Q : Exit → Act → World → Prop} (hops : ops = opsOf Try.f6 30) (w0 : World) (ok1 ok2 : Nat → Prop) (g1 g2 b : Nat) (es : List S55) (y : S51) (a : Act) (w : World) (h3 : a.tmps[3]?.getD undef = .pointer (some ⟨g1, 0, none⟩)) (h4 : a.tmps[4]?.getD undef = .pointer (some ⟨g2, 0, none⟩)) (h6 : a.tmps[6]?.getD undef = .pointer (some ⟨b, 0, none⟩))
    (hN : ∀ j, j ∈ usZ.getD 14 [] → FZ w0 ok1 ok2 g1 g2 b es y j (slotO dstZ a j) w) (hI : ∀ c, c < 3 → useIZ 14 c = true → IZ w0 ok1 ok2 g1 g2 b es y c w) : wpOp Try.prog ops Q 14 (fun a' w' => ∃ v, a' = a.put (dstZ 14) v ∧ FZ w0 ok1 ok2 g1 g2 b es y 14 (valO dstZ 14 v) w' ∧ (Below w.heap.size w w' ∨ ((∀ j u, j < 20 → j ≠ 14 → killZ 14 j = false → (ncZ.getD j []).contains 14 = false → FZ w0 ok1 ok2 g1 g2 b es y j u w → FZ w0 ok1 ok2 g1 g2 b es y j u w') ∧ (∀ c, c < 3 → killIZ 14 c = false → IZ w0 ok1 ok2 g1 g2 b es y c w → IZ w0 ok1 ok2 g1 g2 b es y c w')))) a w := by
  subst hops
  have ho : (opsOf Try.f6 30)[14]? = some ({ dst := some 126, op := Go.Op.fieldAddr 51 (Go.Operand.tmp 6) 3, type := 0, pos := "law.go:51", after := #[], guard := none } : Oper) := by kernel_rfl
  refine wpOp_plain ho rfl ?_
  clear hN hI ho
  go_simp
  first | exact ⟨_, rfl, rfl⟩ | exact ⟨_, rfl, rfl, .inl (Below.refl _ _)⟩
set_option maxRecDepth 100000 in
theorem sZ_15 {ops : Array Oper} {Q : Exit → Act → World → Prop} (hops : ops = opsOf Try.f6 30) (w0 : World) (ok1 ok2 : Nat → Prop) (g1 g2 b : Nat) (es : List S55) (y : S51) (a : Act) (w : World) (h3 : a.tmps[3]?.getD undef = .pointer (some ⟨g1, 0, none⟩)) (h4 : a.tmps[4]?.getD undef = .pointer (some ⟨g2, 0, none⟩)) (h6 : a.tmps[6]?.getD undef = .pointer (some ⟨b, 0, none⟩))
    (hN : ∀ j, j ∈ usZ.getD 15 [] → FZ w0 ok1 ok2 g1 g2 b es y j (slotO dstZ a j) w) (hI : ∀ c, c < 3 → useIZ 15 c = true → IZ w0 ok1 ok2 g1 g2 b es y c w) : wpOp Try.prog ops Q 15 (fun a' w' => ∃ v, a' = a.put (dstZ 15) v ∧ FZ w0 ok1 ok2 g1 g2 b es y 15 (valO dstZ 15 v) w' ∧ (Below w.heap.size w w' ∨ ((∀ j u, j < 20 → j ≠ 15 → killZ 15 j = false → (ncZ.getD j []).contains 15 = false → FZ w0 ok1 ok2 g1 g2 b es y j u w → FZ w0 ok1 ok2 g1 g2 b es y j u w') ∧ (∀ c, c < 3 → killIZ 15 c = false → IZ w0 ok1 ok2 g1 g2 b es y c w → IZ w0 ok1 ok2 g1 g2 b es y c w')))) a w := by
  subst hops
  have n14 : a.tmps[126]?.getD undef = .pointer (some ⟨b, 3, none⟩) := hN 14 (by decide)
  have hi0 : (fun (w : World) => w.heap[b]? = some (.cells #[.int .i64 y.f0, .int .i64 y.f1, .int .i64 y.f2, .int .i64 y.f3, .string y.f4] 51 (0, 0)) ∧ b < w0.heap.size ∧ ¬ ok1 b ∧ ¬ ok2 b) w := hI 0 (by decide) (by decide)
  have ho : (opsOf Try.f6 30)[15]? = some ({ dst := some 127, op := Go.Op.load 3 (Go.Operand.tmp 126), type := 3, pos := "law.go:51", after := #[{ on := 14, ground := Go.Ground.data }], guard := none } : Oper) := by kernel_rfl
  refine wpOp_plain ho rfl ?_
  clear hN hI ho
  have hc : w.cell? ⟨b, 3, none⟩ = some (.int .i64 y.f3) := by
    obtain ⟨hb, -⟩ := hi0
    simp [World.cell?, hb]
  clear hi0
  go_simp
  first | exact ⟨_, rfl, rfl⟩ | exact ⟨_, rfl, rfl, .inl (Below.refl _ _)⟩
set_option maxRecDepth 100000 in
theorem sZ_16 {ops : Array Oper} {Q : Exit → Act → World → Prop} (hops : ops = opsOf Try.f6 30) (w0 : World) (ok1 ok2 : Nat → Prop) (g1 g2 b : Nat) (es : List S55) (y : S51) (a : Act) (w : World) (h3 : a.tmps[3]?.getD undef = .pointer (some ⟨g1, 0, none⟩)) (h4 : a.tmps[4]?.getD undef = .pointer (some ⟨g2, 0, none⟩)) (h6 : a.tmps[6]?.getD undef = .pointer (some ⟨b, 0, none⟩))
    (hN : ∀ j, j ∈ usZ.getD 16 [] → FZ w0 ok1 ok2 g1 g2 b es y j (slotO dstZ a j) w) (hI : ∀ c, c < 3 → useIZ 16 c = true → IZ w0 ok1 ok2 g1 g2 b es y c w) : wpOp Try.prog ops Q 16 (fun a' w' => ∃ v, a' = a.put (dstZ 16) v ∧ FZ w0 ok1 ok2 g1 g2 b es y 16 (valO dstZ 16 v) w' ∧ (Below w.heap.size w w' ∨ ((∀ j u, j < 20 → j ≠ 16 → killZ 16 j = false → (ncZ.getD j []).contains 16 = false → FZ w0 ok1 ok2 g1 g2 b es y j u w → FZ w0 ok1 ok2 g1 g2 b es y j u w') ∧ (∀ c, c < 3 → killIZ 16 c = false → IZ w0 ok1 ok2 g1 g2 b es y c w → IZ w0 ok1 ok2 g1 g2 b es y c w')))) a w := by
  subst hops
  have ho : (opsOf Try.f6 30)[16]? = some ({ dst := some 128, op := Go.Op.fieldAddr 51 (Go.Operand.tmp 6) 4, type := 0, pos := "law.go:51", after := #[], guard := none } : Oper) := by kernel_rfl
  refine wpOp_plain ho rfl ?_
  clear hN hI ho
  go_simp
  first | exact ⟨_, rfl, rfl⟩ | exact ⟨_, rfl, rfl, .inl (Below.refl _ _)⟩
set_option maxRecDepth 100000 in
theorem sZ_17 {ops : Array Oper} {Q : Exit → Act → World → Prop} (hops : ops = opsOf Try.f6 30) (w0 : World) (ok1 ok2 : Nat → Prop) (g1 g2 b : Nat) (es : List S55) (y : S51) (a : Act) (w : World) (h3 : a.tmps[3]?.getD undef = .pointer (some ⟨g1, 0, none⟩)) (h4 : a.tmps[4]?.getD undef = .pointer (some ⟨g2, 0, none⟩)) (h6 : a.tmps[6]?.getD undef = .pointer (some ⟨b, 0, none⟩))
    (hN : ∀ j, j ∈ usZ.getD 17 [] → FZ w0 ok1 ok2 g1 g2 b es y j (slotO dstZ a j) w) (hI : ∀ c, c < 3 → useIZ 17 c = true → IZ w0 ok1 ok2 g1 g2 b es y c w) : wpOp Try.prog ops Q 17 (fun a' w' => ∃ v, a' = a.put (dstZ 17) v ∧ FZ w0 ok1 ok2 g1 g2 b es y 17 (valO dstZ 17 v) w' ∧ (Below w.heap.size w w' ∨ ((∀ j u, j < 20 → j ≠ 17 → killZ 17 j = false → (ncZ.getD j []).contains 17 = false → FZ w0 ok1 ok2 g1 g2 b es y j u w → FZ w0 ok1 ok2 g1 g2 b es y j u w') ∧ (∀ c, c < 3 → killIZ 17 c = false → IZ w0 ok1 ok2 g1 g2 b es y c w → IZ w0 ok1 ok2 g1 g2 b es y c w')))) a w := by
  subst hops
  have n16 : a.tmps[128]?.getD undef = .pointer (some ⟨b, 4, none⟩) := hN 16 (by decide)
  have hi0 : (fun (w : World) => w.heap[b]? = some (.cells #[.int .i64 y.f0, .int .i64 y.f1, .int .i64 y.f2, .int .i64 y.f3, .string y.f4] 51 (0, 0)) ∧ b < w0.heap.size ∧ ¬ ok1 b ∧ ¬ ok2 b) w := hI 0 (by decide) (by decide)
  have ho : (opsOf Try.f6 30)[17]? = some ({ dst := some 129, op := Go.Op.load 9 (Go.Operand.tmp 128), type := 9, pos := "law.go:51", after := #[{ on := 16, ground := Go.Ground.data }], guard := none } : Oper) := by kernel_rfl
  refine wpOp_plain ho rfl ?_
  clear hN hI ho
  have hc : w.cell? ⟨b, 4, none⟩ = some (.string y.f4) := by
    obtain ⟨hb, -⟩ := hi0
    simp [World.cell?, hb]
  clear hi0
  go_simp
  first | exact ⟨_, rfl, rfl⟩ | exact ⟨_, rfl, rfl, .inl (Below.refl _ _)⟩
set_option maxRecDepth 100000 in
theorem sZ_18 {ops : Array Oper} {Q : Exit → Act → World → Prop} (hops : ops = opsOf Try.f6 30) (w0 : World) (ok1 ok2 : Nat → Prop) (g1 g2 b : Nat) (es : List S55) (y : S51) (a : Act) (w : World) (h3 : a.tmps[3]?.getD undef = .pointer (some ⟨g1, 0, none⟩)) (h4 : a.tmps[4]?.getD undef = .pointer (some ⟨g2, 0, none⟩)) (h6 : a.tmps[6]?.getD undef = .pointer (some ⟨b, 0, none⟩))
    (hN : ∀ j, j ∈ usZ.getD 18 [] → FZ w0 ok1 ok2 g1 g2 b es y j (slotO dstZ a j) w) (hI : ∀ c, c < 3 → useIZ 18 c = true → IZ w0 ok1 ok2 g1 g2 b es y c w) : wpOp Try.prog ops Q 18 (fun a' w' => ∃ v, a' = a.put (dstZ 18) v ∧ FZ w0 ok1 ok2 g1 g2 b es y 18 (valO dstZ 18 v) w' ∧ (Below w.heap.size w w' ∨ ((∀ j u, j < 20 → j ≠ 18 → killZ 18 j = false → (ncZ.getD j []).contains 18 = false → FZ w0 ok1 ok2 g1 g2 b es y j u w → FZ w0 ok1 ok2 g1 g2 b es y j u w') ∧ (∀ c, c < 3 → killIZ 18 c = false → IZ w0 ok1 ok2 g1 g2 b es y c w → IZ w0 ok1 ok2 g1 g2 b es y c w')))) a w := by
  subst hops
  have n8 : (fun (v : Value) (w : World) => v = .bool (doneS es y.f1 y.f2 y.f3 y.f4).1 ∧ ∃ N, w0.heap.size ≤ N ∧ N ≤ w.heap.size ∧ TblS w (fun k => (ok1 k ∨ w0.heap.size ≤ k) ∧ k < N) g1 (doneS es y.f1 y.f2 y.f3 y.f4).2 ∧ Kept w0 w (fun k => ok1 k ∨ ok2 k) ∧ Below 0 w0 w ∧ (∀ k, ok1 k → k < w0.heap.size ∧ ¬ ok2 k) ∧ (∀ k, ok2 k → k < w0.heap.size) ∧ Good es) (a.tmps[120]?.getD undef) w := hN 8 (by decide)
  have n9 : a.tmps[121]?.getD undef = .pointer (some ⟨g2, 0, none⟩) := hN 9 (by decide)
  have n11 : a.tmps[123]?.getD undef = .int .i64 y.f1 := hN 11 (by decide)
  have n13 : a.tmps[125]?.getD undef = .int .i64 y.f2 := hN 13 (by decide)
  have n15 : a.tmps[127]?.getD undef = .int .i64 y.f3 := hN 15 (by decide)
  have n17 : a.tmps[129]?.getD undef = .string y.f4 := hN 17 (by decide)
  have hi2 : (fun (w : World) => TblX w ok2 g2 es ∧ (∀ k, ok1 k → k < w0.heap.size ∧ ¬ ok2 k) ∧ (∀ k, ok2 k → k < w0.heap.size) ∧ Good es) w := hI 2 (by decide) (by decide)
  have ho : (opsOf Try.f6 30)[18]? = some ({ dst := some 130, op := Go.Op.call { callee := Go.Callee.value (Go.Operand.func 18), args := #[Go.Operand.tmp 121, Go.Operand.tmp 123, Go.Operand.tmp 125, Go.Operand.tmp 127, Go.Operand.tmp 129], argTypes := #[47, 3, 3, 3, 9] }, type := 4, pos := "law.go:51", after := #[{ on := 9, ground := Go.Ground.data }, { on := 11, ground := Go.Ground.data }, { on := 13, ground := Go.Ground.data }, { on := 15, ground := Go.Ground.data }, { on := 17, ground := Go.Ground.data }, { on := 8, ground := Go.Ground.chain }], guard := none } : Oper) := by kernel_rfl
  refine wpOp_plain ho rfl ?_
  clear hN hI ho
  obtain ⟨hT, hD⟩ := hi2
  obtain ⟨hv, NN, hn1, hn2, hT1, hK1, hB1, -⟩ := n8
  have HH := Aside0.mk (rdone_calls hT y.f1 y.f2 y.f3 y.f4)
  have HG := Aside0.mk (And.intro hn1 (And.intro hn2 (And.intro hT1 (And.intro hK1 (And.intro hB1 hD)))))
  clear hT hD hn1 hn2 hT1 hK1 hB1
  go_simp
  refine HH.out.mono ?_
  rintro e w' ⟨rfl, hT2, hK2, hB2⟩
  obtain ⟨hd, hgood⟩ := HG.out.2.2.2.2.2.2.2.done y.f1 y.f2 y.f3 y.f4
  rw [hd] at hT2
  have hvv : Value.bool (rdone es y.f1 y.f2 y.f3 y.f4).1 = .bool (doneS es y.f1 y.f2 y.f3 y.f4).1 := by rw [hd]
  obtain ⟨hn1, hn2, hT1, hK1, hB1, hD⟩ := HG.out
  have hdis : ∀ k, ((ok1 k ∨ w0.heap.size ≤ k) ∧ k < NN) → ¬ ok2 k := fun k hk h2 => by
    rcases hk.1 with h | h
    · exact (hD.1 k h).2 h2
    · have := hD.2.1 k h2; omega
  refine ⟨_, rfl, ⟨hvv, NN, hn1, Nat.le_trans hn2 hK2.1, hT1.kept hK2 hdis, hT2.mono (fun k hk => by
      rcases hk with h | h
      · exact .inl h
      · exact .inr (Nat.le_trans hn2 h)), ⟨Nat.le_trans hK1.1 hK2.1, fun k hk hn => (hK2.2 k (Nat.lt_of_lt_of_le hk hK1.1) (fun h => hn (.inr h))).trans (hK1.2 k hk hn)⟩, hB1.trans hB2, hgood⟩, .inr ⟨?_, ?_⟩⟩
  · intro j u hj hne hk hcc hF
    have hj' : j = 0 ∨ j = 1 ∨ j = 2 ∨ j = 3 ∨ j = 4 ∨ j = 5 ∨ j = 6 ∨ j = 7 ∨ j = 8 ∨ j = 9 ∨ j = 10 ∨ j = 11 ∨ j = 12 ∨ j = 13 ∨ j = 14 ∨ j = 15 ∨ j = 16 ∨ j = 17 ∨ j = 18 ∨ j = 19 := by omega
    rcases hj' with rfl | rfl | rfl | rfl | rfl | rfl | rfl | rfl | rfl | rfl | rfl | rfl | rfl | rfl | rfl | rfl | rfl | rfl | rfl | rfl <;> first | exact hF | (exact absurd hk (by decide)) | (exact absurd rfl hne) | (exact absurd hcc (by decide)) | (
      obtain ⟨hv, N2, hm1, hm2, hT3, hK3, hB3, hD3⟩ := hF
      exact ⟨hv, N2, hm1, Nat.le_trans hm2 hK2.1, hT3.kept hK2 (fun k hk h2 => by
        rcases hk.1 with h | h
        · exact (hD.1 k h).2 h2
        · have := hD.2.1 k h2; omega), ⟨Nat.le_trans hK3.1 hK2.1, fun k hk hn => (hK2.2 k (Nat.lt_of_lt_of_le hk hK3.1) (fun h => hn (.inr h))).trans (hK3.2 k hk hn)⟩, hB3.trans hB2, hD3⟩)
  · intro c hc hk hi
    have hc' : c = 0 ∨ c = 1 ∨ c = 2 := by omega
    rcases hc' with rfl | rfl | rfl
    · have h : w.heap[b]? = some (.cells #[.int .i64 y.f0, .int .i64 y.f1, .int .i64 y.f2, .int .i64 y.f3, .string y.f4] 51 (0, 0)) ∧ b < w0.heap.size ∧ ¬ ok1 b ∧ ¬ ok2 b := hi
      exact ⟨(hK2.2 b (Array.getElem?_eq_some_iff.1 h.1).1 h.2.2.2).trans h.1, h.2⟩
    · have h : TblS w ok1 g1 es ∧ Below w0.heap.size w0 w ∧ (∀ k, ok1 k → k < w0.heap.size ∧ ¬ ok2 k) ∧ (∀ k, ok2 k → k < w0.heap.size) ∧ Good es := hi
      exact absurd hk (by decide)
    · exact absurd hk (by decide)
set_option maxRecDepth 100000 in
theorem sZ_19 {ops : Array Oper} {Q : Exit → Act → World → Prop} (hops : ops = opsOf Try.f6 30) (w0 : World) (ok1 ok2 : Nat → Prop) (g1 g2 b : Nat) (es : List S55) (y : S51) (a : Act) (w : World) (h3 : a.tmps[3]?.getD undef = .pointer (some ⟨g1, 0, none⟩)) (h4 : a.tmps[4]?.getD undef = .pointer (some ⟨g2, 0, none⟩)) (h6 : a.tmps[6]?.getD undef = .pointer (some ⟨b, 0, none⟩))
    (hN : ∀ j, j ∈ usZ.getD 19 [] → FZ w0 ok1 ok2 g1 g2 b es y j (slotO dstZ a j) w) (hI : ∀ c, c < 3 → useIZ 19 c = true → IZ w0 ok1 ok2 g1 g2 b es y c w) : wpOp Try.prog ops Q 19 (fun a' w' => ∃ v, a' = a.put (dstZ 19) v ∧ FZ w0 ok1 ok2 g1 g2 b es y 19 (valO dstZ 19 v) w' ∧ (Below w.heap.size w w' ∨ ((∀ j u, j < 20 → j ≠ 19 → killZ 19 j = false → (ncZ.getD j []).contains 19 = false → FZ w0 ok1 ok2 g1 g2 b es y j u w → FZ w0 ok1 ok2 g1 g2 b es y j u w') ∧ (∀ c, c < 3 → killIZ 19 c = false → IZ w0 ok1 ok2 g1 g2 b es y c w → IZ w0 ok1 ok2 g1 g2 b es y c w')))) a w := by
  subst hops
  have n8 : (fun (v : Value) (w : World) => v = .bool (doneS es y.f1 y.f2 y.f3 y.f4).1 ∧ ∃ N, w0.heap.size ≤ N ∧ N ≤ w.heap.size ∧ TblS w (fun k => (ok1 k ∨ w0.heap.size ≤ k) ∧ k < N) g1 (doneS es y.f1 y.f2 y.f3 y.f4).2 ∧ Kept w0 w (fun k => ok1 k ∨ ok2 k) ∧ Below 0 w0 w ∧ (∀ k, ok1 k → k < w0.heap.size ∧ ¬ ok2 k) ∧ (∀ k, ok2 k → k < w0.heap.size) ∧ Good es) (a.tmps[120]?.getD undef) w := hN 8 (by decide)
  have n18 : (fun (v : Value) (w : World) => v = .bool (doneS es y.f1 y.f2 y.f3 y.f4).1 ∧ ∃ N, w0.heap.size ≤ N ∧ N ≤ w.heap.size ∧ TblS w (fun k => (ok1 k ∨ w0.heap.size ≤ k) ∧ k < N) g1 (doneS es y.f1 y.f2 y.f3 y.f4).2 ∧ TblX w (fun k => ok2 k ∨ N ≤ k) g2 (doneS es y.f1 y.f2 y.f3 y.f4).2 ∧ Kept w0 w (fun k => ok1 k ∨ ok2 k) ∧ Below 0 w0 w ∧ Good (doneS es y.f1 y.f2 y.f3 y.f4).2) (a.tmps[130]?.getD undef) w := hN 18 (by decide)
  have ho : (opsOf Try.f6 30)[19]? = some ({ dst := some 131, op := Go.Op.binOp Go.BinOp.neq 4 (Go.Operand.tmp 120) (Go.Operand.tmp 130) 4, type := 4, pos := "law.go:51", after := #[{ on := 8, ground := Go.Ground.data }, { on := 18, ground := Go.Ground.data }], guard := none } : Oper) := by kernel_rfl
  refine wpOp_plain ho rfl ?_
  clear hN hI ho
  have n8' : a.tmps[120]?.getD undef = .bool (doneS es y.f1 y.f2 y.f3 y.f4).1 := n8.1
  have n18' : a.tmps[130]?.getD undef = .bool (doneS es y.f1 y.f2 y.f3 y.f4).1 := n18.1
  clear n8 n18
  generalize (doneS es y.f1 y.f2 y.f3 y.f4).1 = r at *
  go_simp
  cases r <;> first | exact ⟨_, rfl, rfl⟩ | exact ⟨_, rfl, rfl, .inl (Below.refl _ _)⟩
theorem monoZ (w0 : World) (ok1 ok2 : Nat → Prop) (g1 g2 b : Nat) (es : List S55) (y : S51) (j : Nat) (v : Value) (w w' : World) (h : FZ w0 ok1 ok2 g1 g2 b es y j v w) (hb : Below w.heap.size w w') : FZ w0 ok1 ok2 g1 g2 b es y j v w' := by
  unfold FZ at h ⊢
  split <;> first
    | exact True.intro
    | exact h
    | (obtain ⟨hv, N2, hm1, hm2, hT3, hK3, hB3, hD3⟩ := h; exact ⟨hv, N2, hm1, Nat.le_trans hm2 hb.size, hT3.below hb, Kept.below hK3 hb, hB3.trans (hb.mono (Nat.zero_le _)), hD3⟩)
    | (obtain ⟨hv, N2, hm1, hm2, hT3, hT4, hK3, hB3, hD3⟩ := h; exact ⟨hv, N2, hm1, Nat.le_trans hm2 hb.size, hT3.below hb, hT4.below hb, Kept.below hK3 hb, hB3.trans (hb.mono (Nat.zero_le _)), hD3⟩)
theorem monoIZ (w0 : World) (ok1 ok2 : Nat → Prop) (g1 g2 b : Nat) (es : List S55) (y : S51) (c : Nat) (w w' : World) (h : IZ w0 ok1 ok2 g1 g2 b es y c w) (hb : Below w.heap.size w w') : IZ w0 ok1 ok2 g1 g2 b es y c w' := by
  unfold IZ at h ⊢
  split <;> first
    | exact True.intro
    | exact ⟨(hb.block b (Array.getElem?_eq_some_iff.1 h.1).1).trans h.1, h.2⟩
    | exact ⟨h.1.below hb, h.2.1.trans (hb.mono h.2.1.size), h.2.2⟩
    | exact ⟨h.1.below hb, h.2⟩
theorem hinZ : ∀ i, i < 20 → ∀ d, dstZ i = some d → d < 151 := by
  have h2 : ∀ i, i < 20 → (dstZ i).all (fun d => decide (d < 151)) = true := by decide
  intro i hi d hd
  have := h2 i hi
  rw [hd] at this
  simpa using this
set_option maxRecDepth 100000 in
theorem regionZ {ops : Array Oper} {Q : Exit → Act → World → Prop} (hops : ops = opsOf Try.f6 30) {id_ : Nat} (w0 : World) (ok1 ok2 : Nat → Prop) (g1 g2 b : Nat) (es : List S55) (y : S51) (a0 : Act) (w0_ : World) (hI0 : ∀ c, IZ w0 ok1 ok2 g1 g2 b es y c w0_) (hsz : a0.tmps.size = 151) (h3 : a0.tmps[3]?.getD undef = .pointer (some ⟨g1, 0, none⟩)) (h4 : a0.tmps[4]?.getD undef = .pointer (some ⟨g2, 0, none⟩)) (h6 : a0.tmps[6]?.getD undef = .pointer (some ⟨b, 0, none⟩))
    (hQ : ∀ a w, AgreeO 20 dstZ a0 a → FZ w0 ok1 ok2 g1 g2 b es y 18 (slotO dstZ a 18) w → FZ w0 ok1 ok2 g1 g2 b es y 19 (slotO dstZ a 19) w → IZ w0 ok1 ok2 g1 g2 b es y 0 w → Q .normal a w) : (Code.region id_ ops true).wp Try.prog Q a0 w0_ := by
  refine region_heldB (n := 20) dstZ (FZ w0 ok1 ok2 g1 g2 b es y) (IZ w0 ok1 ok2 g1 g2 b es y) 3 ndZ ncZ usZ killZ killIZ useIZ (by kernel_rfl) (by rw [hops]; kernel_rfl) (by decide) ?_ (fun j v w w' _ h hb => monoZ w0 ok1 ok2 g1 g2 b es y j v w w' h hb) (fun c w w' h hb => monoIZ w0 ok1 ok2 g1 g2 b es y c w w' h hb) hI0 (by rw [hops]; kernel_rfl) (by decide) (by decide) (by decide) (by decide) (by decide) ?_ (fun a w hA hF hI => hQ a w hA (hF 18 (by decide) (by decide)) (hF 19 (by decide) (by decide)) (hI 0 (by decide) (by decide)))
  · intro i hi d hd
    rw [hsz]; exact hinZ i hi d hd
  · intro i a w hi hA hN hI
    have h3 := (hA.old 3 (by decide)).trans h3
    have h4 := (hA.old 4 (by decide)).trans h4
    have h6 := (hA.old 6 (by decide)).trans h6
    have hi' : i = 0 ∨ i = 1 ∨ i = 2 ∨ i = 3 ∨ i = 4 ∨ i = 5 ∨ i = 6 ∨ i = 7 ∨ i = 8 ∨ i = 9 ∨ i = 10 ∨ i = 11 ∨ i = 12 ∨ i = 13 ∨ i = 14 ∨ i = 15 ∨ i = 16 ∨ i = 17 ∨ i = 18 ∨ i = 19 := by omega
    rcases hi' with rfl | rfl | rfl | rfl | rfl | rfl | rfl | rfl | rfl | rfl | rfl | rfl | rfl | rfl | rfl | rfl | rfl | rfl | rfl | rfl
    · exact sZ_0 hops w0 ok1 ok2 g1 g2 b es y a w h3 h4 h6 hN hI
    · exact sZ_1 hops w0 ok1 ok2 g1 g2 b es y a w h3 h4 h6 hN hI
    · exact sZ_2 hops w0 ok1 ok2 g1 g2 b es y a w h3 h4 h6 hN hI
    · exact sZ_3 hops w0 ok1 ok2 g1 g2 b es y a w h3 h4 h6 hN hI
    · exact sZ_4 hops w0 ok1 ok2 g1 g2 b es y a w h3 h4 h6 hN hI
    · exact sZ_5 hops w0 ok1 ok2 g1 g2 b es y a w h3 h4 h6 hN hI
    · exact sZ_6 hops w0 ok1 ok2 g1 g2 b es y a w h3 h4 h6 hN hI
    · exact sZ_7 hops w0 ok1 ok2 g1 g2 b es y a w h3 h4 h6 hN hI
    · exact sZ_8 hops w0 ok1 ok2 g1 g2 b es y a w h3 h4 h6 hN hI
    · exact sZ_9 hops w0 ok1 ok2 g1 g2 b es y a w h3 h4 h6 hN hI
    · exact sZ_10 hops w0 ok1 ok2 g1 g2 b es y a w h3 h4 h6 hN hI
    · exact sZ_11 hops w0 ok1 ok2 g1 g2 b es y a w h3 h4 h6 hN hI
    · exact sZ_12 hops w0 ok1 ok2 g1 g2 b es y a w h3 h4 h6 hN hI
    · exact sZ_13 hops w0 ok1 ok2 g1 g2 b es y a w h3 h4 h6 hN hI
    · exact sZ_14 hops w0 ok1 ok2 g1 g2 b es y a w h3 h4 h6 hN hI
    · exact sZ_15 hops w0 ok1 ok2 g1 g2 b es y a w h3 h4 h6 hN hI
    · exact sZ_16 hops w0 ok1 ok2 g1 g2 b es y a w h3 h4 h6 hN hI
    · exact sZ_17 hops w0 ok1 ok2 g1 g2 b es y a w h3 h4 h6 hN hI
    · exact sZ_18 hops w0 ok1 ok2 g1 g2 b es y a w h3 h4 h6 hN hI
    · exact sZ_19 hops w0 ok1 ok2 g1 g2 b es y a w h3 h4 h6 hN hI

end Go.Proofs.Ytahkokbfghifhaa.PS
