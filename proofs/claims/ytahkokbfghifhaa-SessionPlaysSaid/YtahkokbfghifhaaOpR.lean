/- Open's last region: a row is laid behind the others. -/
import Derived.Test.YtahkokbfghifhaaDone
import Derived.Test.YtahkokbfghifhaaProg
import Derived.Below
import Derived.Deep.Draws
import Derived.Deep.AppendLies
import Derived.Maps.AppendAt
import Derived.OwnWalk
import Derived.Laws.BytesArg
import Derived.Laws.MakeOwn
import Derived.Laws.OwnMore
import Derived.Deep.OwnRows
import Derived.Tactics
import Derived.Lib.ConvBytes
import Derived.Laws.Slices
import Derived.WalkKit
import Derived.KernelRfl
import Derived.RowKit3
import Derived.Deep.LoopGhost
import Derived.Deep.QuietTactic
import Derived.BigQuiet
import Derived.WideLaws
import Derived.Deep.DeepCutAuto
import Derived.Deep.CutBlock
import Derived.Deep.RegionHeld3
import Derived.Laws.Rows
import Derived.Lib.AppendStr
import Derived.ArgAppend
import Derived.Laws.IdiomCopy
import Derived.OrdersHeld
import Derived.Laws.BitsLemmas
import Derived.RowKit
import Derived.Test.YtahkokbfghifhaaWWords
import Derived.Test.YtahkokbfghifhaaWLast
import Derived.Test.YtahkokbfghifhaaWTab
import Derived.Test.YtahkokbfghifhaaWFour
import Derived.Test.YtahkokbfghifhaaWQPut
import Derived.Test.YtahkokbfghifhaaWApart
import Derived.Test.YtahkokbfghifhaaWArr
import Derived.Test.YtahkokbfghifhaaWZeros
import Derived.Test.YtahkokbfghifhaaWFoot
import Derived.Test.YtahkokbfghifhaaWKept
import Derived.Test.YtahkokbfghifhaaWShare
import Derived.Test.YtahkokbfghifhaaWN
import Derived.Test.YtahkokbfghifhaaWFootNe
import Derived.Test.YtahkokbfghifhaaWAt
import Derived.Test.YtahkokbfghifhaaWEqStruct
import Derived.Test.YtahkokbfghifhaaWRepsOne
import Derived.Test.YtahkokbfghifhaaWInv
import Derived.Test.YtahkokbfghifhaaWInvWords
import Derived.Test.YtahkokbfghifhaaWGuard
import Derived.Test.YtahkokbfghifhaaWNEv
import Derived.Test.YtahkokbfghifhaaWMore
namespace Go.Proofs.Ytahkokbfghifhaa.PS
open Go.RowKit Go.Proofs.YtahkokbfghifhaaW.PrintWords Go.Proofs.YtahkokbfghifhaaW.PrintLast Go.Proofs.YtahkokbfghifhaaW.PrintMore
set_option linter.unusedVariables false
set_option linter.unusedSimpArgs false
set_option maxHeartbeats 4000000
set_option maxRecDepth 100000

open Go.Proofs.Ytahkokbfghifhaa.Reg
theorem set_field0 {w : World} {g : Nat} {x : Value} {T : TypeId} (h : w.heap[g]? = some (.cells #[x] T (0, 0))) (u : Value) : (w.setCell ⟨g, 0, none⟩ u).heap[g]? = some (.cells #[u] T (0, 0)) := by
  simp only [World.setCell, Array.getElem?_modify, if_true, h]
  rfl

theorem lit_oneI (W : World) (base : Nat) (hb : base ≤ W.heap.size) (x : S45) : Kd.R k45 45 (W.alloc (.cells (cs45 x).toArray 45)) base (fun _ => True) (.slice (some ⟨W.heap.size, 0, none⟩) 1 1) [x] := by
  refine ⟨fun _ _ => trivial, cs45 x, ?_, rfl, fun j p hj => ?_⟩
  · have h2 := World.ownsRow_lit (base := base) (e := 45) (size := 4) W (cs45 x).toArray 1 hb (by decide) (by rfl)
    have h3 : World.ownsRow (W.alloc (.cells (cs45 x).toArray 45)) base 45 4 (.slice (some ⟨W.heap.size, 0, none⟩) 1 1) 1 (cs45 x) := by simpa using h2
    exact h3
  · have hj0 : j = 0 := by
      rcases j with _ | j
      · rfl
      · simp at hj
    subst hj0
    simp at hj
    subst hj
    exact k45_mkM _ _ _ _
theorem info45 : (Try.prog.info? 45).map (fun i => (i.zero, i.size, i.bytes)) = some (some (.agg #[.int .i64 0, .int .i64 0, .int .i64 0, .int .i64 0]), 4, 32) := by kernel_rfl
def dstOI (i : Nat) : Option Nat := ([some 36, some 37, some 38, some 39, some 40, some 41, some 42, some 43, some 44, some 45, some 46, some 47, none] : List (Option Nat)).getD i none
def ndOI : List (List Nat) := [[], [], [1], [2], [3], [], [], [5, 6], [7], [4, 8], [0, 0, 1, 2, 3, 4, 5, 6, 7, 8, 9], [10, 0, 1, 2, 3, 4, 5, 6, 7, 8, 9], [11, 9, 9, 0, 1, 2, 3, 4, 5, 6, 7, 8, 9]]
def usOI : List (List Nat) := [[], [], [1], [2], [3], [], [], [5, 6], [7], [4, 8], [0], [10], [9, 11]]
def ncOI : List (List Nat) := [[], [], [1], [1, 2], [1, 2, 3], [], [], [5, 6], [5, 6, 7], [1, 2, 3, 4, 5, 6, 7, 8], [0, 1, 2, 3, 4, 5, 6, 7, 8, 9], [0, 1, 2, 3, 4, 5, 6, 7, 8, 9, 10], [0, 1, 2, 3, 4, 5, 6, 7, 8, 9, 10, 11]]
def killOI (h j : Nat) : Bool := ((h == 9 && [8].contains j) || (h == 12 && [8, 9].contains j))
def killIOI (h : Nat) : Bool := [9, 12].contains h
def useIOI (h : Nat) : Bool := [4, 5, 6, 8, 9].contains h
def IOI (w0 : World) (ok : Nat → Prop) (g b : Nat) (es : List S45) (v0 : Value) (now : Int) (w : World) : Prop := ((es.length + 1) * 32 ≤ 140737488355328 ∧ g < w0.heap.size) ∧ ok g ∧ w.heap[g]? = some (.cells #[v0] 26 (0, 0)) ∧ w.heap[b]? = some (.cells #[.int .i64 now] 3 (0, 0)) ∧ Kd.R k45 45 w 0 (fun k => (ok k ∧ k < w0.heap.size) ∧ k ≠ g) v0 es ∧ Kept w0 w ok ∧ Below 0 w0 w
def FOI (w0 : World) (ok : Nat → Prop) (g b : Nat) (es : List S45) (v0 : Value) (now : Int) : Nat → Value → World → Prop
  | 0, v, w => v = .pointer (some ⟨g, 0, none⟩)
  | 1, v, w => v = .pointer (some ⟨g, 0, none⟩)
  | 2, v, w => v = .pointer (some ⟨g, 0, none⟩)
  | 3, v, w => v = .pointer (some ⟨g, 0, none⟩)
  | 4, v, w => v = v0
  | 5, v, w => v = .int .i64 now
  | 6, v, w => v = .int .i64 now
  | 7, v, w => v = .agg #[.int .i64 now, .int .i64 0, .int .i64 now, .int .i64 0]
  | 8, v, w => Kd.R k45 45 w w0.heap.size (fun _ => True) v [(⟨now, 0, now, (0 : Int)⟩ : S45)]
  | 9, v, w => ok g ∧ g < w0.heap.size ∧ w.heap[g]? = some (.cells #[v0] 26 (0, 0)) ∧ Kd.R k45 45 w 0 (fun k => (ok k ∨ w0.heap.size ≤ k) ∧ k ≠ g) v (es ++ [(⟨now, 0, now, (0 : Int)⟩ : S45)]) ∧ Kept w0 w ok ∧ Below 0 w0 w
  | 10, v, w => v = .pointer (some ⟨g, 0, none⟩)
  | 11, v, w => v = .pointer (some ⟨g, 0, none⟩)
  | 12, v, w => TblI w (fun k => ok k ∨ w0.heap.size ≤ k) g (es ++ [(⟨now, 0, now, (0 : Int)⟩ : S45)]) ∧ Kept w0 w ok ∧ Below 0 w0 w
  | _, _, _ => True
set_option maxRecDepth 100000 in
theorem sOI_0 {ops : Array Oper} {Q : Exit → Act → World → Prop} (hops : ops = opsOf Try.f8 6) (w0 : World) (ok : Nat → Prop) (g b : Nat) (es : List S45) (v0 : Value) (now : Int) (a : Act) (w : World) (h0 : a.tmps[0]?.getD undef = .pointer (some ⟨g, 0, none⟩)) (h3 : a.tmps[3]?.getD undef = .pointer (some ⟨b, 0, none⟩))
    (hN : ∀ j, j ∈ usOI.getD 0 [] → FOI w0 ok g b es v0 now j (slotO dstOI a j) w) (hI : useIOI 0 = true → IOI w0 ok g b es v0 now w) : wpOp Try.prog ops Q 0 (fun a' w' => ∃ v, a' = a.put (dstOI 0) v ∧ FOI w0 ok g b es v0 now 0 (valO dstOI 0 v) w' ∧ (Below w.heap.size w w' ∨ ((∀ j u, j < 13 → j ≠ 0 → killOI 0 j = false → (ncOI.getD j []).contains 0 = false → FOI w0 ok g b es v0 now j u w → FOI w0 ok g b es v0 now j u w') ∧ (killIOI 0 = false → IOI w0 ok g b es v0 now w → IOI w0 ok g b es v0 now w')))) a w := by
  subst hops
  have ho : (opsOf Try.f8 6)[0]? = some ({ dst := some 36, op := Go.Op.move (Go.Operand.tmp 0), type := 60, pos := "session.go:28", after := #[], guard := none } : Oper) := by kernel_rfl
  refine wpOp_plain ho rfl ?_
  clear hN hI ho
  go_simp
  first | exact ⟨_, rfl, rfl⟩ | exact ⟨_, rfl, rfl, .inl (Below.refl _ _)⟩
set_option maxRecDepth 100000 in
theorem sOI_1 {ops : Array Oper} {Q : Exit → Act → World → Prop} (hops : ops = opsOf Try.f8 6) (w0 : World) (ok : Nat → Prop) (g b : Nat) (es : List S45) (v0 : Value) (now : Int) (a : Act) (w : World) (h0 : a.tmps[0]?.getD undef = .pointer (some ⟨g, 0, none⟩)) (h3 : a.tmps[3]?.getD undef = .pointer (some ⟨b, 0, none⟩))
    (hN : ∀ j, j ∈ usOI.getD 1 [] → FOI w0 ok g b es v0 now j (slotO dstOI a j) w) (hI : useIOI 1 = true → IOI w0 ok g b es v0 now w) : wpOp Try.prog ops Q 1 (fun a' w' => ∃ v, a' = a.put (dstOI 1) v ∧ FOI w0 ok g b es v0 now 1 (valO dstOI 1 v) w' ∧ (Below w.heap.size w w' ∨ ((∀ j u, j < 13 → j ≠ 1 → killOI 1 j = false → (ncOI.getD j []).contains 1 = false → FOI w0 ok g b es v0 now j u w → FOI w0 ok g b es v0 now j u w') ∧ (killIOI 1 = false → IOI w0 ok g b es v0 now w → IOI w0 ok g b es v0 now w')))) a w := by
  subst hops
  have ho : (opsOf Try.f8 6)[1]? = some ({ dst := some 37, op := Go.Op.move (Go.Operand.tmp 0), type := 60, pos := "session.go:28", after := #[], guard := none } : Oper) := by kernel_rfl
  refine wpOp_plain ho rfl ?_
  clear hN hI ho
  go_simp
  first | exact ⟨_, rfl, rfl⟩ | exact ⟨_, rfl, rfl, .inl (Below.refl _ _)⟩
set_option maxRecDepth 100000 in
theorem sOI_2 {ops : Array Oper} {Q : Exit → Act → World → Prop} (hops : ops = opsOf Try.f8 6) (w0 : World) (ok : Nat → Prop) (g b : Nat) (es : List S45) (v0 : Value) (now : Int) (a : Act) (w : World) (h0 : a.tmps[0]?.getD undef = .pointer (some ⟨g, 0, none⟩)) (h3 : a.tmps[3]?.getD undef = .pointer (some ⟨b, 0, none⟩))
    (hN : ∀ j, j ∈ usOI.getD 2 [] → FOI w0 ok g b es v0 now j (slotO dstOI a j) w) (hI : useIOI 2 = true → IOI w0 ok g b es v0 now w) : wpOp Try.prog ops Q 2 (fun a' w' => ∃ v, a' = a.put (dstOI 2) v ∧ FOI w0 ok g b es v0 now 2 (valO dstOI 2 v) w' ∧ (Below w.heap.size w w' ∨ ((∀ j u, j < 13 → j ≠ 2 → killOI 2 j = false → (ncOI.getD j []).contains 2 = false → FOI w0 ok g b es v0 now j u w → FOI w0 ok g b es v0 now j u w') ∧ (killIOI 2 = false → IOI w0 ok g b es v0 now w → IOI w0 ok g b es v0 now w')))) a w := by
  subst hops
  have n1 : a.tmps[37]?.getD undef = .pointer (some ⟨g, 0, none⟩) := hN 1 (by decide)
  have ho : (opsOf Try.f8 6)[2]? = some ({ dst := some 38, op := Go.Op.nilCheck (Go.Operand.tmp 37), type := 0, pos := "session.go:28", after := #[{ on := 1, ground := Go.Ground.data }], guard := none } : Oper) := by kernel_rfl
  refine wpOp_plain ho rfl ?_
  clear hN hI ho
  go_simp
  first | exact ⟨_, rfl, rfl⟩ | exact ⟨_, rfl, rfl, .inl (Below.refl _ _)⟩
set_option maxRecDepth 100000 in
theorem sOI_3 {ops : Array Oper} {Q : Exit → Act → World → Prop} (hops : ops = opsOf Try.f8 6) (w0 : World) (ok : Nat → Prop) (g b : Nat) (es : List S45) (v0 : Value) (now : Int) (a : Act) (w : World) (h0 : a.tmps[0]?.getD undef = .pointer (some ⟨g, 0, none⟩)) (h3 : a.tmps[3]?.getD undef = .pointer (some ⟨b, 0, none⟩))
    (hN : ∀ j, j ∈ usOI.getD 3 [] → FOI w0 ok g b es v0 now j (slotO dstOI a j) w) (hI : useIOI 3 = true → IOI w0 ok g b es v0 now w) : wpOp Try.prog ops Q 3 (fun a' w' => ∃ v, a' = a.put (dstOI 3) v ∧ FOI w0 ok g b es v0 now 3 (valO dstOI 3 v) w' ∧ (Below w.heap.size w w' ∨ ((∀ j u, j < 13 → j ≠ 3 → killOI 3 j = false → (ncOI.getD j []).contains 3 = false → FOI w0 ok g b es v0 now j u w → FOI w0 ok g b es v0 now j u w') ∧ (killIOI 3 = false → IOI w0 ok g b es v0 now w → IOI w0 ok g b es v0 now w')))) a w := by
  subst hops
  have n2 : a.tmps[38]?.getD undef = .pointer (some ⟨g, 0, none⟩) := hN 2 (by decide)
  have ho : (opsOf Try.f8 6)[3]? = some ({ dst := some 39, op := Go.Op.fieldAddr 26 (Go.Operand.tmp 38) 0, type := 0, pos := "session.go:28", after := #[{ on := 2, ground := Go.Ground.data }], guard := none } : Oper) := by kernel_rfl
  refine wpOp_plain ho rfl ?_
  clear hN hI ho
  go_simp
  first | exact ⟨_, rfl, rfl⟩ | exact ⟨_, rfl, rfl, .inl (Below.refl _ _)⟩
set_option maxRecDepth 100000 in
theorem sOI_4 {ops : Array Oper} {Q : Exit → Act → World → Prop} (hops : ops = opsOf Try.f8 6) (w0 : World) (ok : Nat → Prop) (g b : Nat) (es : List S45) (v0 : Value) (now : Int) (a : Act) (w : World) (h0 : a.tmps[0]?.getD undef = .pointer (some ⟨g, 0, none⟩)) (h3 : a.tmps[3]?.getD undef = .pointer (some ⟨b, 0, none⟩))
    (hN : ∀ j, j ∈ usOI.getD 4 [] → FOI w0 ok g b es v0 now j (slotO dstOI a j) w) (hI : useIOI 4 = true → IOI w0 ok g b es v0 now w) : wpOp Try.prog ops Q 4 (fun a' w' => ∃ v, a' = a.put (dstOI 4) v ∧ FOI w0 ok g b es v0 now 4 (valO dstOI 4 v) w' ∧ (Below w.heap.size w w' ∨ ((∀ j u, j < 13 → j ≠ 4 → killOI 4 j = false → (ncOI.getD j []).contains 4 = false → FOI w0 ok g b es v0 now j u w → FOI w0 ok g b es v0 now j u w') ∧ (killIOI 4 = false → IOI w0 ok g b es v0 now w → IOI w0 ok g b es v0 now w')))) a w := by
  subst hops
  have n3 : a.tmps[39]?.getD undef = .pointer (some ⟨g, 0, none⟩) := hN 3 (by decide)
  have hi : IOI w0 ok g b es v0 now w := hI (by decide)
  have ho : (opsOf Try.f8 6)[4]? = some ({ dst := some 40, op := Go.Op.load 24 (Go.Operand.tmp 39), type := 24, pos := "session.go:28", after := #[{ on := 3, ground := Go.Ground.data }], guard := none } : Oper) := by kernel_rfl
  refine wpOp_plain ho rfl ?_
  clear hN hI ho
  obtain ⟨hnum, hg, hh, -, hR, -⟩ := hi
  obtain ⟨A0, c0, rfl⟩ := Kd.R_slice hR
  have hc : w.cell? ⟨g, 0, none⟩ = some (.slice A0 es.length c0) := by simp [World.cell?, hh]
  clear hh hR hnum
  go_simp
  first | exact ⟨_, rfl, rfl⟩ | exact ⟨_, rfl, rfl, .inl (Below.refl _ _)⟩
set_option maxRecDepth 100000 in
theorem sOI_5 {ops : Array Oper} {Q : Exit → Act → World → Prop} (hops : ops = opsOf Try.f8 6) (w0 : World) (ok : Nat → Prop) (g b : Nat) (es : List S45) (v0 : Value) (now : Int) (a : Act) (w : World) (h0 : a.tmps[0]?.getD undef = .pointer (some ⟨g, 0, none⟩)) (h3 : a.tmps[3]?.getD undef = .pointer (some ⟨b, 0, none⟩))
    (hN : ∀ j, j ∈ usOI.getD 5 [] → FOI w0 ok g b es v0 now j (slotO dstOI a j) w) (hI : useIOI 5 = true → IOI w0 ok g b es v0 now w) : wpOp Try.prog ops Q 5 (fun a' w' => ∃ v, a' = a.put (dstOI 5) v ∧ FOI w0 ok g b es v0 now 5 (valO dstOI 5 v) w' ∧ (Below w.heap.size w w' ∨ ((∀ j u, j < 13 → j ≠ 5 → killOI 5 j = false → (ncOI.getD j []).contains 5 = false → FOI w0 ok g b es v0 now j u w → FOI w0 ok g b es v0 now j u w') ∧ (killIOI 5 = false → IOI w0 ok g b es v0 now w → IOI w0 ok g b es v0 now w')))) a w := by
  subst hops
  have hi : IOI w0 ok g b es v0 now w := hI (by decide)
  have ho : (opsOf Try.f8 6)[5]? = some ({ dst := some 41, op := Go.Op.load 3 (Go.Operand.tmp 3), type := 3, pos := "session.go:28", after := #[], guard := none } : Oper) := by kernel_rfl
  refine wpOp_plain ho rfl ?_
  clear hN hI ho
  obtain ⟨hnum, hg, -, hh, -⟩ := hi
  have hc : w.cell? ⟨b, 0, none⟩ = some (.int .i64 now) := by simp [World.cell?, hh]
  clear hh hnum
  go_simp
  first | exact ⟨_, rfl, rfl⟩ | exact ⟨_, rfl, rfl, .inl (Below.refl _ _)⟩
set_option maxRecDepth 100000 in
theorem sOI_6 {ops : Array Oper} {Q : Exit → Act → World → Prop} (hops : ops = opsOf Try.f8 6) (w0 : World) (ok : Nat → Prop) (g b : Nat) (es : List S45) (v0 : Value) (now : Int) (a : Act) (w : World) (h0 : a.tmps[0]?.getD undef = .pointer (some ⟨g, 0, none⟩)) (h3 : a.tmps[3]?.getD undef = .pointer (some ⟨b, 0, none⟩))
    (hN : ∀ j, j ∈ usOI.getD 6 [] → FOI w0 ok g b es v0 now j (slotO dstOI a j) w) (hI : useIOI 6 = true → IOI w0 ok g b es v0 now w) : wpOp Try.prog ops Q 6 (fun a' w' => ∃ v, a' = a.put (dstOI 6) v ∧ FOI w0 ok g b es v0 now 6 (valO dstOI 6 v) w' ∧ (Below w.heap.size w w' ∨ ((∀ j u, j < 13 → j ≠ 6 → killOI 6 j = false → (ncOI.getD j []).contains 6 = false → FOI w0 ok g b es v0 now j u w → FOI w0 ok g b es v0 now j u w') ∧ (killIOI 6 = false → IOI w0 ok g b es v0 now w → IOI w0 ok g b es v0 now w')))) a w := by
  subst hops
  have hi : IOI w0 ok g b es v0 now w := hI (by decide)
  have ho : (opsOf Try.f8 6)[6]? = some ({ dst := some 42, op := Go.Op.load 3 (Go.Operand.tmp 3), type := 3, pos := "session.go:28", after := #[], guard := none } : Oper) := by kernel_rfl
  refine wpOp_plain ho rfl ?_
  clear hN hI ho
  obtain ⟨hnum, hg, -, hh, -⟩ := hi
  have hc : w.cell? ⟨b, 0, none⟩ = some (.int .i64 now) := by simp [World.cell?, hh]
  clear hh hnum
  go_simp
  first | exact ⟨_, rfl, rfl⟩ | exact ⟨_, rfl, rfl, .inl (Below.refl _ _)⟩
set_option maxRecDepth 100000 in
theorem sOI_7 {ops : Array Oper} {Q : Exit → Act → World → Prop} (hops : ops = opsOf Try.f8 6) (w0 : World) (ok : Nat → Prop) (g b : Nat) (es : List S45) (v0 : Value) (now : Int) (a : Act) (w : World) (h0 : a.tmps[0]?.getD undef = .pointer (some ⟨g, 0, none⟩)) (h3 : a.tmps[3]?.getD undef = .pointer (some ⟨b, 0, none⟩))
    (hN : ∀ j, j ∈ usOI.getD 7 [] → FOI w0 ok g b es v0 now j (slotO dstOI a j) w) (hI : useIOI 7 = true → IOI w0 ok g b es v0 now w) : wpOp Try.prog ops Q 7 (fun a' w' => ∃ v, a' = a.put (dstOI 7) v ∧ FOI w0 ok g b es v0 now 7 (valO dstOI 7 v) w' ∧ (Below w.heap.size w w' ∨ ((∀ j u, j < 13 → j ≠ 7 → killOI 7 j = false → (ncOI.getD j []).contains 7 = false → FOI w0 ok g b es v0 now j u w → FOI w0 ok g b es v0 now j u w') ∧ (killIOI 7 = false → IOI w0 ok g b es v0 now w → IOI w0 ok g b es v0 now w')))) a w := by
  subst hops
  have n5 : a.tmps[41]?.getD undef = .int .i64 now := hN 5 (by decide)
  have n6 : a.tmps[42]?.getD undef = .int .i64 now := hN 6 (by decide)
  have ho : (opsOf Try.f8 6)[7]? = some ({ dst := some 43, op := Go.Op.build 45 #[(0, Go.Operand.tmp 41), (2, Go.Operand.tmp 42)], type := 45, pos := "session.go:28", after := #[{ on := 5, ground := Go.Ground.data }, { on := 6, ground := Go.Ground.data }], guard := none } : Oper) := by kernel_rfl
  refine wpOp_plain ho rfl ?_
  clear hN hI ho
  go_simp
  first | exact ⟨_, rfl, rfl⟩ | exact ⟨_, rfl, rfl, .inl (Below.refl _ _)⟩
set_option maxRecDepth 100000 in
theorem sOI_8 {ops : Array Oper} {Q : Exit → Act → World → Prop} (hops : ops = opsOf Try.f8 6) (w0 : World) (ok : Nat → Prop) (g b : Nat) (es : List S45) (v0 : Value) (now : Int) (a : Act) (w : World) (h0 : a.tmps[0]?.getD undef = .pointer (some ⟨g, 0, none⟩)) (h3 : a.tmps[3]?.getD undef = .pointer (some ⟨b, 0, none⟩))
    (hN : ∀ j, j ∈ usOI.getD 8 [] → FOI w0 ok g b es v0 now j (slotO dstOI a j) w) (hI : useIOI 8 = true → IOI w0 ok g b es v0 now w) : wpOp Try.prog ops Q 8 (fun a' w' => ∃ v, a' = a.put (dstOI 8) v ∧ FOI w0 ok g b es v0 now 8 (valO dstOI 8 v) w' ∧ (Below w.heap.size w w' ∨ ((∀ j u, j < 13 → j ≠ 8 → killOI 8 j = false → (ncOI.getD j []).contains 8 = false → FOI w0 ok g b es v0 now j u w → FOI w0 ok g b es v0 now j u w') ∧ (killIOI 8 = false → IOI w0 ok g b es v0 now w → IOI w0 ok g b es v0 now w')))) a w := by
  subst hops
  have n7 : a.tmps[43]?.getD undef = .agg #[.int .i64 now, .int .i64 0, .int .i64 now, .int .i64 0] := hN 7 (by decide)
  have hi : IOI w0 ok g b es v0 now w := hI (by decide)
  have ho : (opsOf Try.f8 6)[8]? = some ({ dst := some 44, op := Go.Op.buildSlice 24 1 #[(0, Go.Operand.tmp 43)], type := 24, pos := "session.go:28", after := #[{ on := 7, ground := Go.Ground.data }], guard := none } : Oper) := by kernel_rfl
  refine wpOp_plain ho rfl ?_
  clear hN hI ho
  obtain ⟨-, -, -, -, -, hK, -⟩ := hi
  have HL := Aside0.mk (lit_oneI w w0.heap.size hK.1 (⟨now, 0, now, (0 : Int)⟩ : S45))
  clear hK
  go_simp
  exact ⟨_, rfl, HL.out, .inl (below_alloc (Below.refl _ _) _)⟩
set_option maxRecDepth 100000 in
theorem sOI_9 {ops : Array Oper} {Q : Exit → Act → World → Prop} (hops : ops = opsOf Try.f8 6) (w0 : World) (ok : Nat → Prop) (g b : Nat) (es : List S45) (v0 : Value) (now : Int) (a : Act) (w : World) (h0 : a.tmps[0]?.getD undef = .pointer (some ⟨g, 0, none⟩)) (h3 : a.tmps[3]?.getD undef = .pointer (some ⟨b, 0, none⟩))
    (hN : ∀ j, j ∈ usOI.getD 9 [] → FOI w0 ok g b es v0 now j (slotO dstOI a j) w) (hI : useIOI 9 = true → IOI w0 ok g b es v0 now w) : wpOp Try.prog ops Q 9 (fun a' w' => ∃ v, a' = a.put (dstOI 9) v ∧ FOI w0 ok g b es v0 now 9 (valO dstOI 9 v) w' ∧ (Below w.heap.size w w' ∨ ((∀ j u, j < 13 → j ≠ 9 → killOI 9 j = false → (ncOI.getD j []).contains 9 = false → FOI w0 ok g b es v0 now j u w → FOI w0 ok g b es v0 now j u w') ∧ (killIOI 9 = false → IOI w0 ok g b es v0 now w → IOI w0 ok g b es v0 now w')))) a w := by
  subst hops
  have n4 : a.tmps[40]?.getD undef = v0 := hN 4 (by decide)
  have n8 : (fun (v : Value) (w : World) => Kd.R k45 45 w w0.heap.size (fun _ => True) v [(⟨now, 0, now, (0 : Int)⟩ : S45)]) (a.tmps[44]?.getD undef) w := hN 8 (by decide)
  have hi : IOI w0 ok g b es v0 now w := hI (by decide)
  have ho : (opsOf Try.f8 6)[9]? = some ({ dst := some 45, op := Go.Op.call { callee := Go.Callee.builtin Go.Builtin.append, args := #[Go.Operand.tmp 40, Go.Operand.tmp 44], argTypes := #[24, 24] }, type := 24, pos := "session.go:28", after := #[{ on := 4, ground := Go.Ground.data }, { on := 8, ground := Go.Ground.data }], guard := none } : Oper) := by kernel_rfl
  refine wpOp_plain ho rfl ?_
  clear hN hI ho
  obtain ⟨⟨hl, hlt⟩, hg, hh, hbx, hR, hK, hB⟩ := hi
  have n8' : Kd.R k45 45 w w0.heap.size (fun _ => True) (a.tmps[44]?.getD undef) [(⟨now, 0, now, (0 : Int)⟩ : S45)] := n8
  obtain ⟨_, hO⟩ := Kd.R_bound n8'
  obtain ⟨A2, c2, e2, hc2, hrr⟩ := OwnRow.reads hO
  have hvlt : ∀ k, v0.ownBlock = some k → (ok k ∧ k < w0.heap.size) ∧ k ≠ g := hR.1
  have e9 : a.eval (.tmp 40) = v0 := by simp only [Act.eval, Array.getD_eq_getD_getElem?]; exact n4
  have e11 : a.eval (.tmp 44) = .slice A2 1 c2 := by simp only [Act.eval, Array.getD_eq_getD_getElem?]; exact e2
  refine Eq.mp (if_pos (by rfl : Region.wanted _ (yielded (opsOf Try.f8 6) a.tmps) = true)) (Kd.R_append_rows_step (P := Try.prog) (ops := opsOf Try.f8 6) (Q := Q) (a := a) k45 (w0 := w0)
    0 (by rfl) (.tmp 40) (.tmp 44) 24 45 _ 32 rfl Try.underlying24 info45 rfl (by decide) (by decide) v0 es [(⟨now, 0, now, (0 : Int)⟩ : S45)] A2 1 c2 (fun k => (ok k ∨ w0.heap.size ≤ k) ∧ k ≠ g) (fun k => w0.heap.size ≤ k) e9 e11
    (Kd.R_mono hR (fun k hk => ⟨.inl hk.1.1, hk.2⟩)) hrr (fun x cs h => k45.M_mono (fun k hk => hk.1.2.1) (k45.M_lower (Nat.zero_le _) h))
    (fun k hk => ⟨⟨.inr hk, by omega⟩, fun he => by have := (hvlt k he.symm).1.2; omega⟩) (fun k hk => ⟨.inr (Nat.le_trans hK.1 hk), by have := hK.1; omega⟩) hB (Nat.zero_le _) hl ?_)
  · intro v1 w1 hR1 hB1 hgr hat
    refine ⟨_, rfl, ⟨hg, hlt, ?_, hR1, Kept.of_grown hgr hK (fun k hk => .inl (hvlt k hk).1.1), hB1⟩, .inr ⟨?_, ?_⟩⟩
    · exact (hgr.block g (by have := hK.1; omega) (fun he => (hvlt g he.symm).2 rfl)).trans hh
    · intro j u hj hne hk hcc hF
      have hj' : j = 0 ∨ j = 1 ∨ j = 2 ∨ j = 3 ∨ j = 4 ∨ j = 5 ∨ j = 6 ∨ j = 7 ∨ j = 8 ∨ j = 9 ∨ j = 10 ∨ j = 11 ∨ j = 12 := by omega
      rcases hj' with rfl | rfl | rfl | rfl | rfl | rfl | rfl | rfl | rfl | rfl | rfl | rfl | rfl <;> first | exact hF | (exact absurd hk (by decide)) | (exact absurd rfl hne) | (exact absurd hcc (by decide))
    · intro hk
      exact absurd hk (by decide)
set_option maxRecDepth 100000 in
theorem sOI_10 {ops : Array Oper} {Q : Exit → Act → World → Prop} (hops : ops = opsOf Try.f8 6) (w0 : World) (ok : Nat → Prop) (g b : Nat) (es : List S45) (v0 : Value) (now : Int) (a : Act) (w : World) (h0 : a.tmps[0]?.getD undef = .pointer (some ⟨g, 0, none⟩)) (h3 : a.tmps[3]?.getD undef = .pointer (some ⟨b, 0, none⟩))
    (hN : ∀ j, j ∈ usOI.getD 10 [] → FOI w0 ok g b es v0 now j (slotO dstOI a j) w) (hI : useIOI 10 = true → IOI w0 ok g b es v0 now w) : wpOp Try.prog ops Q 10 (fun a' w' => ∃ v, a' = a.put (dstOI 10) v ∧ FOI w0 ok g b es v0 now 10 (valO dstOI 10 v) w' ∧ (Below w.heap.size w w' ∨ ((∀ j u, j < 13 → j ≠ 10 → killOI 10 j = false → (ncOI.getD j []).contains 10 = false → FOI w0 ok g b es v0 now j u w → FOI w0 ok g b es v0 now j u w') ∧ (killIOI 10 = false → IOI w0 ok g b es v0 now w → IOI w0 ok g b es v0 now w')))) a w := by
  subst hops
  have n0 : a.tmps[36]?.getD undef = .pointer (some ⟨g, 0, none⟩) := hN 0 (by decide)
  have ho : (opsOf Try.f8 6)[10]? = some ({ dst := some 46, op := Go.Op.nilCheck (Go.Operand.tmp 36), type := 0, pos := "session.go:28", after := #[{ on := 0, ground := Go.Ground.data }, { on := 0, ground := Go.Ground.phase }, { on := 1, ground := Go.Ground.phase }, { on := 2, ground := Go.Ground.phase }, { on := 3, ground := Go.Ground.phase }, { on := 4, ground := Go.Ground.phase }, { on := 5, ground := Go.Ground.phase }, { on := 6, ground := Go.Ground.phase }, { on := 7, ground := Go.Ground.phase }, { on := 8, ground := Go.Ground.phase }, { on := 9, ground := Go.Ground.phase }], guard := none } : Oper) := by kernel_rfl
  refine wpOp_plain ho rfl ?_
  clear hN hI ho
  go_simp
  first | exact ⟨_, rfl, rfl⟩ | exact ⟨_, rfl, rfl, .inl (Below.refl _ _)⟩
set_option maxRecDepth 100000 in
theorem sOI_11 {ops : Array Oper} {Q : Exit → Act → World → Prop} (hops : ops = opsOf Try.f8 6) (w0 : World) (ok : Nat → Prop) (g b : Nat) (es : List S45) (v0 : Value) (now : Int) (a : Act) (w : World) (h0 : a.tmps[0]?.getD undef = .pointer (some ⟨g, 0, none⟩)) (h3 : a.tmps[3]?.getD undef = .pointer (some ⟨b, 0, none⟩))
    (hN : ∀ j, j ∈ usOI.getD 11 [] → FOI w0 ok g b es v0 now j (slotO dstOI a j) w) (hI : useIOI 11 = true → IOI w0 ok g b es v0 now w) : wpOp Try.prog ops Q 11 (fun a' w' => ∃ v, a' = a.put (dstOI 11) v ∧ FOI w0 ok g b es v0 now 11 (valO dstOI 11 v) w' ∧ (Below w.heap.size w w' ∨ ((∀ j u, j < 13 → j ≠ 11 → killOI 11 j = false → (ncOI.getD j []).contains 11 = false → FOI w0 ok g b es v0 now j u w → FOI w0 ok g b es v0 now j u w') ∧ (killIOI 11 = false → IOI w0 ok g b es v0 now w → IOI w0 ok g b es v0 now w')))) a w := by
  subst hops
  have n10 : a.tmps[46]?.getD undef = .pointer (some ⟨g, 0, none⟩) := hN 10 (by decide)
  have ho : (opsOf Try.f8 6)[11]? = some ({ dst := some 47, op := Go.Op.fieldAddr 26 (Go.Operand.tmp 46) 0, type := 0, pos := "session.go:28", after := #[{ on := 10, ground := Go.Ground.data }, { on := 0, ground := Go.Ground.phase }, { on := 1, ground := Go.Ground.phase }, { on := 2, ground := Go.Ground.phase }, { on := 3, ground := Go.Ground.phase }, { on := 4, ground := Go.Ground.phase }, { on := 5, ground := Go.Ground.phase }, { on := 6, ground := Go.Ground.phase }, { on := 7, ground := Go.Ground.phase }, { on := 8, ground := Go.Ground.phase }, { on := 9, ground := Go.Ground.phase }], guard := none } : Oper) := by kernel_rfl
  refine wpOp_plain ho rfl ?_
  clear hN hI ho
  go_simp
  first | exact ⟨_, rfl, rfl⟩ | exact ⟨_, rfl, rfl, .inl (Below.refl _ _)⟩
set_option maxRecDepth 100000 in
theorem sOI_12 {ops : Array Oper} {Q : Exit → Act → World → Prop} (hops : ops = opsOf Try.f8 6) (w0 : World) (ok : Nat → Prop) (g b : Nat) (es : List S45) (v0 : Value) (now : Int) (a : Act) (w : World) (h0 : a.tmps[0]?.getD undef = .pointer (some ⟨g, 0, none⟩)) (h3 : a.tmps[3]?.getD undef = .pointer (some ⟨b, 0, none⟩))
    (hN : ∀ j, j ∈ usOI.getD 12 [] → FOI w0 ok g b es v0 now j (slotO dstOI a j) w) (hI : useIOI 12 = true → IOI w0 ok g b es v0 now w) : wpOp Try.prog ops Q 12 (fun a' w' => ∃ v, a' = a.put (dstOI 12) v ∧ FOI w0 ok g b es v0 now 12 (valO dstOI 12 v) w' ∧ (Below w.heap.size w w' ∨ ((∀ j u, j < 13 → j ≠ 12 → killOI 12 j = false → (ncOI.getD j []).contains 12 = false → FOI w0 ok g b es v0 now j u w → FOI w0 ok g b es v0 now j u w') ∧ (killIOI 12 = false → IOI w0 ok g b es v0 now w → IOI w0 ok g b es v0 now w')))) a w := by
  subst hops
  have n9 : (fun (v : Value) (w : World) => ok g ∧ g < w0.heap.size ∧ w.heap[g]? = some (.cells #[v0] 26 (0, 0)) ∧ Kd.R k45 45 w 0 (fun k => (ok k ∨ w0.heap.size ≤ k) ∧ k ≠ g) v (es ++ [(⟨now, 0, now, (0 : Int)⟩ : S45)]) ∧ Kept w0 w ok ∧ Below 0 w0 w) (a.tmps[45]?.getD undef) w := hN 9 (by decide)
  have n11 : a.tmps[47]?.getD undef = .pointer (some ⟨g, 0, none⟩) := hN 11 (by decide)
  have ho : (opsOf Try.f8 6)[12]? = some ({ dst := none, op := Go.Op.store 24 (Go.Operand.tmp 47) (Go.Operand.tmp 45), type := 0, pos := "session.go:28", after := #[{ on := 11, ground := Go.Ground.data }, { on := 9, ground := Go.Ground.data }, { on := 9, ground := Go.Ground.chain }, { on := 0, ground := Go.Ground.phase }, { on := 1, ground := Go.Ground.phase }, { on := 2, ground := Go.Ground.phase }, { on := 3, ground := Go.Ground.phase }, { on := 4, ground := Go.Ground.phase }, { on := 5, ground := Go.Ground.phase }, { on := 6, ground := Go.Ground.phase }, { on := 7, ground := Go.Ground.phase }, { on := 8, ground := Go.Ground.phase }, { on := 9, ground := Go.Ground.phase }], guard := none } : Oper) := by kernel_rfl
  refine wpOp_plain ho rfl ?_
  clear hN hI ho
  obtain ⟨hg, hlt, hh, hR, hK, hB⟩ := n9
  obtain ⟨A2, c2, e2⟩ := Kd.R_slice hR
  rw [e2] at hR
  have hcell : w.cell? ⟨g, 0, none⟩ = some v0 := by simp [World.cell?, hh]
  have hfz : w.frozen? ⟨g, 0, none⟩ = false := by simp [World.frozen?, hh]
  have HH := Aside0.mk hh
  have HR := Aside0.mk hR
  have HK := Aside0.mk hK
  have HB := Aside0.mk hB
  clear hh hR hK hB
  go_simp
  refine ⟨undef, rfl, ⟨⟨.inl hg, _, set_field0 HH.out _, ?_⟩, Kept.setCell HK.out (.inl hg) _, Below.setCell HB.out (Nat.zero_le _) _⟩, .inr ⟨?_, ?_⟩⟩
  · have := Kd.R_far (p := ⟨g, 0, none⟩) HR.out (fun k hk => hk.2) (.slice A2 (es.length + 1) c2)
    rw [show (es ++ [(⟨now, 0, now, (0 : Int)⟩ : S45)]).length = es.length + 1 by simp] at this
    exact Kd.R_mono this (fun k hk => ⟨hk.1, hk.2⟩)
  · intro j u hj hne hk hcc hF
    have hj' : j = 0 ∨ j = 1 ∨ j = 2 ∨ j = 3 ∨ j = 4 ∨ j = 5 ∨ j = 6 ∨ j = 7 ∨ j = 8 ∨ j = 9 ∨ j = 10 ∨ j = 11 ∨ j = 12 := by omega
    rcases hj' with rfl | rfl | rfl | rfl | rfl | rfl | rfl | rfl | rfl | rfl | rfl | rfl | rfl <;> first | exact hF | (exact absurd hk (by decide)) | (exact absurd rfl hne) | (exact absurd hcc (by decide))
  · intro hk
    exact absurd hk (by decide)
theorem monoOI (w0 : World) (ok : Nat → Prop) (g b : Nat) (es : List S45) (v0 : Value) (now : Int) (j : Nat) (v : Value) (w w' : World) (h : FOI w0 ok g b es v0 now j v w) (hb : Below w.heap.size w w') : FOI w0 ok g b es v0 now j v w' := by
  unfold FOI at h ⊢
  split <;> first
    | exact True.intro
    | exact h
    | exact Kd.R_below h hb
    | exact ⟨h.1, h.2.1, (hb.block g (Array.getElem?_eq_some_iff.1 h.2.2.1).1).trans h.2.2.1, Kd.R_below h.2.2.2.1 hb, Kept.below h.2.2.2.2.1 hb, h.2.2.2.2.2.trans (hb.mono (Nat.zero_le _))⟩
    | exact ⟨h.1.below hb, Kept.below h.2.1 hb, h.2.2.trans (hb.mono (Nat.zero_le _))⟩
theorem monoIOI (w0 : World) (ok : Nat → Prop) (g b : Nat) (es : List S45) (v0 : Value) (now : Int) (w w' : World) (h : IOI w0 ok g b es v0 now w) (hb : Below w.heap.size w w') : IOI w0 ok g b es v0 now w' := by
  obtain ⟨hn, hg, hh, hbx, hR, hK, hB⟩ := h
  exact ⟨hn, hg, (hb.block g (Array.getElem?_eq_some_iff.1 hh).1).trans hh, (hb.block b (Array.getElem?_eq_some_iff.1 hbx).1).trans hbx, Kd.R_below hR hb, Kept.below hK hb, hB.trans (hb.mono (Nat.zero_le _))⟩
theorem hinOI : ∀ i, i < 13 → ∀ d, dstOI i = some d → d < 48 := by
  have h2 : ∀ i, i < 13 → (dstOI i).all (fun d => decide (d < 48)) = true := by decide
  intro i hi d hd
  have := h2 i hi
  rw [hd] at this
  simpa using this
set_option maxRecDepth 100000 in
theorem regionOI {ops : Array Oper} {Q : Exit → Act → World → Prop} (hops : ops = opsOf Try.f8 6) {id : Nat} (w0 : World) (ok : Nat → Prop) (g b : Nat) (es : List S45) (v0 : Value) (now : Int) (a0 : Act) (w0_ : World) (hI0 : IOI w0 ok g b es v0 now w0_) (hsz : a0.tmps.size = 48) (h0 : a0.tmps[0]?.getD undef = .pointer (some ⟨g, 0, none⟩)) (h3 : a0.tmps[3]?.getD undef = .pointer (some ⟨b, 0, none⟩))
    (hQ : ∀ a w, AgreeO 13 dstOI a0 a → FOI w0 ok g b es v0 now 12 (slotO dstOI a 12) w → Q .normal a w) : (Code.region id ops true).wp Try.prog Q a0 w0_ := by
  refine region_heldA (n := 13) dstOI (FOI w0 ok g b es v0 now) (IOI w0 ok g b es v0 now) ndOI ncOI usOI killOI killIOI useIOI (by kernel_rfl) (by rw [hops]; kernel_rfl) (by decide) ?_ (fun j v w w' _ h hb => monoOI w0 ok g b es v0 now j v w w' h hb) (fun w w' h hb => monoIOI w0 ok g b es v0 now w w' h hb) hI0 (by rw [hops]; kernel_rfl) (by decide) (by decide) (by decide) (by decide) (by decide) ?_ (fun a w hA hF hI => hQ a w hA (hF 12 (by decide) (by decide)))
  · intro i hi d hd
    rw [hsz]; exact hinOI i hi d hd
  · intro i a w hi hA hN hI
    have h0 := (hA.old 0 (by decide)).trans h0
    have h3 := (hA.old 3 (by decide)).trans h3
    have hi' : i = 0 ∨ i = 1 ∨ i = 2 ∨ i = 3 ∨ i = 4 ∨ i = 5 ∨ i = 6 ∨ i = 7 ∨ i = 8 ∨ i = 9 ∨ i = 10 ∨ i = 11 ∨ i = 12 := by omega
    rcases hi' with rfl | rfl | rfl | rfl | rfl | rfl | rfl | rfl | rfl | rfl | rfl | rfl | rfl
    · exact sOI_0 hops w0 ok g b es v0 now a w h0 h3 hN hI
    · exact sOI_1 hops w0 ok g b es v0 now a w h0 h3 hN hI
    · exact sOI_2 hops w0 ok g b es v0 now a w h0 h3 hN hI
    · exact sOI_3 hops w0 ok g b es v0 now a w h0 h3 hN hI
    · exact sOI_4 hops w0 ok g b es v0 now a w h0 h3 hN hI
    · exact sOI_5 hops w0 ok g b es v0 now a w h0 h3 hN hI
    · exact sOI_6 hops w0 ok g b es v0 now a w h0 h3 hN hI
    · exact sOI_7 hops w0 ok g b es v0 now a w h0 h3 hN hI
    · exact sOI_8 hops w0 ok g b es v0 now a w h0 h3 hN hI
    · exact sOI_9 hops w0 ok g b es v0 now a w h0 h3 hN hI
    · exact sOI_10 hops w0 ok g b es v0 now a w h0 h3 hN hI
    · exact sOI_11 hops w0 ok g b es v0 now a w h0 h3 hN hI
    · exact sOI_12 hops w0 ok g b es v0 now a w h0 h3 hN hI

theorem lit_oneS (W : World) (base : Nat) (hb : base ≤ W.heap.size) (x : S55) : Kd.R k55 55 (W.alloc (.cells (cs55 x).toArray 55)) base (fun _ => True) (.slice (some ⟨W.heap.size, 0, none⟩) 1 1) [x] := by
  refine ⟨fun _ _ => trivial, cs55 x, ?_, rfl, fun j p hj => ?_⟩
  · have h2 := World.ownsRow_lit (base := base) (e := 55) (size := 4) W (cs55 x).toArray 1 hb (by decide) (by rfl)
    have h3 : World.ownsRow (W.alloc (.cells (cs55 x).toArray 55)) base 55 4 (.slice (some ⟨W.heap.size, 0, none⟩) 1 1) 1 (cs55 x) := by simpa using h2
    exact h3
  · have hj0 : j = 0 := by
      rcases j with _ | j
      · rfl
      · simp at hj
    subst hj0
    simp at hj
    subst hj
    exact k55_mkM _ _ _ _
theorem info55 : (Try.prog.info? 55).map (fun i => (i.zero, i.size, i.bytes)) = some (some (.agg #[.int .i64 0, .int .i64 0, .int .i64 0, .string ByteArray.empty]), 4, 40) := by kernel_rfl
def dstOS (i : Nat) : Option Nat := ([some 36, some 37, some 38, some 39, some 40, some 41, some 42, some 43, some 44, some 45, some 46, some 47, none] : List (Option Nat)).getD i none
def ndOS : List (List Nat) := [[], [], [1], [2], [3], [], [], [5, 6], [7], [4, 8], [0, 0, 1, 2, 3, 4, 5, 6, 7, 8, 9], [10, 0, 1, 2, 3, 4, 5, 6, 7, 8, 9], [11, 9, 9, 0, 1, 2, 3, 4, 5, 6, 7, 8, 9]]
def usOS : List (List Nat) := [[], [], [1], [2], [3], [], [], [5, 6], [7], [4, 8], [0], [10], [9, 11]]
def ncOS : List (List Nat) := [[], [], [1], [1, 2], [1, 2, 3], [], [], [5, 6], [5, 6, 7], [1, 2, 3, 4, 5, 6, 7, 8], [0, 1, 2, 3, 4, 5, 6, 7, 8, 9], [0, 1, 2, 3, 4, 5, 6, 7, 8, 9, 10], [0, 1, 2, 3, 4, 5, 6, 7, 8, 9, 10, 11]]
def killOS (h j : Nat) : Bool := ((h == 9 && [8].contains j) || (h == 12 && [8, 9].contains j))
def killIOS (h : Nat) : Bool := [9, 12].contains h
def useIOS (h : Nat) : Bool := [4, 5, 6, 8, 9].contains h
def IOS (w0 : World) (ok : Nat → Prop) (g b : Nat) (es : List S55) (v0 : Value) (now : Int) (w : World) : Prop := ((es.length + 1) * 40 ≤ 140737488355328 ∧ g < w0.heap.size) ∧ ok g ∧ w.heap[g]? = some (.cells #[v0] 36 (0, 0)) ∧ w.heap[b]? = some (.cells #[.int .i64 now] 3 (0, 0)) ∧ Kd.R k55 55 w 0 (fun k => (ok k ∧ k < w0.heap.size) ∧ k ≠ g) v0 es ∧ Kept w0 w ok ∧ Below 0 w0 w
def FOS (w0 : World) (ok : Nat → Prop) (g b : Nat) (es : List S55) (v0 : Value) (now : Int) : Nat → Value → World → Prop
  | 0, v, w => v = .pointer (some ⟨g, 0, none⟩)
  | 1, v, w => v = .pointer (some ⟨g, 0, none⟩)
  | 2, v, w => v = .pointer (some ⟨g, 0, none⟩)
  | 3, v, w => v = .pointer (some ⟨g, 0, none⟩)
  | 4, v, w => v = v0
  | 5, v, w => v = .int .i64 now
  | 6, v, w => v = .int .i64 now
  | 7, v, w => v = .agg #[.int .i64 now, .int .i64 0, .int .i64 now, .string ByteArray.empty]
  | 8, v, w => Kd.R k55 55 w w0.heap.size (fun _ => True) v [(⟨now, 0, now, ByteArray.empty⟩ : S55)]
  | 9, v, w => ok g ∧ g < w0.heap.size ∧ w.heap[g]? = some (.cells #[v0] 36 (0, 0)) ∧ Kd.R k55 55 w 0 (fun k => (ok k ∨ w0.heap.size ≤ k) ∧ k ≠ g) v (es ++ [(⟨now, 0, now, ByteArray.empty⟩ : S55)]) ∧ Kept w0 w ok ∧ Below 0 w0 w
  | 10, v, w => v = .pointer (some ⟨g, 0, none⟩)
  | 11, v, w => v = .pointer (some ⟨g, 0, none⟩)
  | 12, v, w => TblS w (fun k => ok k ∨ w0.heap.size ≤ k) g (es ++ [(⟨now, 0, now, ByteArray.empty⟩ : S55)]) ∧ Kept w0 w ok ∧ Below 0 w0 w
  | _, _, _ => True
set_option maxRecDepth 100000 in
theorem sOS_0 {ops : Array Oper} {Q : Exit → Act → World → Prop} (hops : ops = opsOf Try.f11 6) (w0 : World) (ok : Nat → Prop) (g b : Nat) (es : List S55) (v0 : Value) (now : Int) (a : Act) (w : World) (h0 : a.tmps[0]?.getD undef = .pointer (some ⟨g, 0, none⟩)) (h3 : a.tmps[3]?.getD undef = .pointer (some ⟨b, 0, none⟩))
    (hN : ∀ j, j ∈ usOS.getD 0 [] → FOS w0 ok g b es v0 now j (slotO dstOS a j) w) (hI : useIOS 0 = true → IOS w0 ok g b es v0 now w) : wpOp Try.prog ops Q 0 (fun a' w' => ∃ v, a' = a.put (dstOS 0) v ∧ FOS w0 ok g b es v0 now 0 (valO dstOS 0 v) w' ∧ (Below w.heap.size w w' ∨ ((∀ j u, j < 13 → j ≠ 0 → killOS 0 j = false → (ncOS.getD j []).contains 0 = false → FOS w0 ok g b es v0 now j u w → FOS w0 ok g b es v0 now j u w') ∧ (killIOS 0 = false → IOS w0 ok g b es v0 now w → IOS w0 ok g b es v0 now w')))) a w := by
  subst hops
  have ho : (opsOf Try.f11 6)[0]? = some ({ dst := some 36, op := Go.Op.move (Go.Operand.tmp 0), type := 69, pos := "session.go:28", after := #[], guard := none } : Oper) := by kernel_rfl
  refine wpOp_plain ho rfl ?_
  clear hN hI ho
  go_simp
  first | exact ⟨_, rfl, rfl⟩ | exact ⟨_, rfl, rfl, .inl (Below.refl _ _)⟩
set_option maxRecDepth 100000 in
theorem sOS_1 {ops : Array Oper} {Q : Exit → Act → World → Prop} (hops : ops = opsOf Try.f11 6) (w0 : World) (ok : Nat → Prop) (g b : Nat) (es : List S55) (v0 : Value) (now : Int) (a : Act) (w : World) (h0 : a.tmps[0]?.getD undef = .pointer (some ⟨g, 0, none⟩)) (h3 : a.tmps[3]?.getD undef = .pointer (some ⟨b, 0, none⟩))
    (hN : ∀ j, j ∈ usOS.getD 1 [] → FOS w0 ok g b es v0 now j (slotO dstOS a j) w) (hI : useIOS 1 = true → IOS w0 ok g b es v0 now w) : wpOp Try.prog ops Q 1 (fun a' w' => ∃ v, a' = a.put (dstOS 1) v ∧ FOS w0 ok g b es v0 now 1 (valO dstOS 1 v) w' ∧ (Below w.heap.size w w' ∨ ((∀ j u, j < 13 → j ≠ 1 → killOS 1 j = false → (ncOS.getD j []).contains 1 = false → FOS w0 ok g b es v0 now j u w → FOS w0 ok g b es v0 now j u w') ∧ (killIOS 1 = false → IOS w0 ok g b es v0 now w → IOS w0 ok g b es v0 now w')))) a w := by
  subst hops
  have ho : (opsOf Try.f11 6)[1]? = some ({ dst := some 37, op := Go.Op.move (Go.Operand.tmp 0), type := 69, pos := "session.go:28", after := #[], guard := none } : Oper) := by kernel_rfl
  refine wpOp_plain ho rfl ?_
  clear hN hI ho
  go_simp
  first | exact ⟨_, rfl, rfl⟩ | exact ⟨_, rfl, rfl, .inl (Below.refl _ _)⟩
set_option maxRecDepth 100000 in
theorem sOS_2 {ops : Array Oper} {Q : Exit → Act → World → Prop} (hops : ops = opsOf Try.f11 6) (w0 : World) (ok : Nat → Prop) (g b : Nat) (es : List S55) (v0 : Value) (now : Int) (a : Act) (w : World) (h0 : a.tmps[0]?.getD undef = .pointer (some ⟨g, 0, none⟩)) (h3 : a.tmps[3]?.getD undef = .pointer (some ⟨b, 0, none⟩))
    (hN : ∀ j, j ∈ usOS.getD 2 [] → FOS w0 ok g b es v0 now j (slotO dstOS a j) w) (hI : useIOS 2 = true → IOS w0 ok g b es v0 now w) : wpOp Try.prog ops Q 2 (fun a' w' => ∃ v, a' = a.put (dstOS 2) v ∧ FOS w0 ok g b es v0 now 2 (valO dstOS 2 v) w' ∧ (Below w.heap.size w w' ∨ ((∀ j u, j < 13 → j ≠ 2 → killOS 2 j = false → (ncOS.getD j []).contains 2 = false → FOS w0 ok g b es v0 now j u w → FOS w0 ok g b es v0 now j u w') ∧ (killIOS 2 = false → IOS w0 ok g b es v0 now w → IOS w0 ok g b es v0 now w')))) a w := by
  subst hops
  have n1 : a.tmps[37]?.getD undef = .pointer (some ⟨g, 0, none⟩) := hN 1 (by decide)
  have ho : (opsOf Try.f11 6)[2]? = some ({ dst := some 38, op := Go.Op.nilCheck (Go.Operand.tmp 37), type := 0, pos := "session.go:28", after := #[{ on := 1, ground := Go.Ground.data }], guard := none } : Oper) := by kernel_rfl
  refine wpOp_plain ho rfl ?_
  clear hN hI ho
  go_simp
  first | exact ⟨_, rfl, rfl⟩ | exact ⟨_, rfl, rfl, .inl (Below.refl _ _)⟩
set_option maxRecDepth 100000 in
theorem sOS_3 {ops : Array Oper} {Q : Exit → Act → World → Prop} (hops : ops = opsOf Try.f11 6) (w0 : World) (ok : Nat → Prop) (g b : Nat) (es : List S55) (v0 : Value) (now : Int) (a : Act) (w : World) (h0 : a.tmps[0]?.getD undef = .pointer (some ⟨g, 0, none⟩)) (h3 : a.tmps[3]?.getD undef = .pointer (some ⟨b, 0, none⟩))
    (hN : ∀ j, j ∈ usOS.getD 3 [] → FOS w0 ok g b es v0 now j (slotO dstOS a j) w) (hI : useIOS 3 = true → IOS w0 ok g b es v0 now w) : wpOp Try.prog ops Q 3 (fun a' w' => ∃ v, a' = a.put (dstOS 3) v ∧ FOS w0 ok g b es v0 now 3 (valO dstOS 3 v) w' ∧ (Below w.heap.size w w' ∨ ((∀ j u, j < 13 → j ≠ 3 → killOS 3 j = false → (ncOS.getD j []).contains 3 = false → FOS w0 ok g b es v0 now j u w → FOS w0 ok g b es v0 now j u w') ∧ (killIOS 3 = false → IOS w0 ok g b es v0 now w → IOS w0 ok g b es v0 now w')))) a w := by
  subst hops
  have n2 : a.tmps[38]?.getD undef = .pointer (some ⟨g, 0, none⟩) := hN 2 (by decide)
  have ho : (opsOf Try.f11 6)[3]? = some ({ dst := some 39, op := Go.Op.fieldAddr 36 (Go.Operand.tmp 38) 0, type := 0, pos := "session.go:28", after := #[{ on := 2, ground := Go.Ground.data }], guard := none } : Oper) := by kernel_rfl
  refine wpOp_plain ho rfl ?_
  clear hN hI ho
  go_simp
  first | exact ⟨_, rfl, rfl⟩ | exact ⟨_, rfl, rfl, .inl (Below.refl _ _)⟩
set_option maxRecDepth 100000 in
theorem sOS_4 {ops : Array Oper} {Q : Exit → Act → World → Prop} (hops : ops = opsOf Try.f11 6) (w0 : World) (ok : Nat → Prop) (g b : Nat) (es : List S55) (v0 : Value) (now : Int) (a : Act) (w : World) (h0 : a.tmps[0]?.getD undef = .pointer (some ⟨g, 0, none⟩)) (h3 : a.tmps[3]?.getD undef = .pointer (some ⟨b, 0, none⟩))
    (hN : ∀ j, j ∈ usOS.getD 4 [] → FOS w0 ok g b es v0 now j (slotO dstOS a j) w) (hI : useIOS 4 = true → IOS w0 ok g b es v0 now w) : wpOp Try.prog ops Q 4 (fun a' w' => ∃ v, a' = a.put (dstOS 4) v ∧ FOS w0 ok g b es v0 now 4 (valO dstOS 4 v) w' ∧ (Below w.heap.size w w' ∨ ((∀ j u, j < 13 → j ≠ 4 → killOS 4 j = false → (ncOS.getD j []).contains 4 = false → FOS w0 ok g b es v0 now j u w → FOS w0 ok g b es v0 now j u w') ∧ (killIOS 4 = false → IOS w0 ok g b es v0 now w → IOS w0 ok g b es v0 now w')))) a w := by
  subst hops
  have n3 : a.tmps[39]?.getD undef = .pointer (some ⟨g, 0, none⟩) := hN 3 (by decide)
  have hi : IOS w0 ok g b es v0 now w := hI (by decide)
  have ho : (opsOf Try.f11 6)[4]? = some ({ dst := some 40, op := Go.Op.load 34 (Go.Operand.tmp 39), type := 34, pos := "session.go:28", after := #[{ on := 3, ground := Go.Ground.data }], guard := none } : Oper) := by kernel_rfl
  refine wpOp_plain ho rfl ?_
  clear hN hI ho
  obtain ⟨hnum, hg, hh, -, hR, -⟩ := hi
  obtain ⟨A0, c0, rfl⟩ := Kd.R_slice hR
  have hc : w.cell? ⟨g, 0, none⟩ = some (.slice A0 es.length c0) := by simp [World.cell?, hh]
  clear hh hR hnum
  go_simp
  first | exact ⟨_, rfl, rfl⟩ | exact ⟨_, rfl, rfl, .inl (Below.refl _ _)⟩
set_option maxRecDepth 100000 in
theorem sOS_5 {ops : Array Oper} {Q : Exit → Act → World → Prop} (hops : ops = opsOf Try.f11 6) (w0 : World) (ok : Nat → Prop) (g b : Nat) (es : List S55) (v0 : Value) (now : Int) (a : Act) (w : World) (h0 : a.tmps[0]?.getD undef = .pointer (some ⟨g, 0, none⟩)) (h3 : a.tmps[3]?.getD undef = .pointer (some ⟨b, 0, none⟩))
    (hN : ∀ j, j ∈ usOS.getD 5 [] → FOS w0 ok g b es v0 now j (slotO dstOS a j) w) (hI : useIOS 5 = true → IOS w0 ok g b es v0 now w) : wpOp Try.prog ops Q 5 (fun a' w' => ∃ v, a' = a.put (dstOS 5) v ∧ FOS w0 ok g b es v0 now 5 (valO dstOS 5 v) w' ∧ (Below w.heap.size w w' ∨ ((∀ j u, j < 13 → j ≠ 5 → killOS 5 j = false → (ncOS.getD j []).contains 5 = false → FOS w0 ok g b es v0 now j u w → FOS w0 ok g b es v0 now j u w') ∧ (killIOS 5 = false → IOS w0 ok g b es v0 now w → IOS w0 ok g b es v0 now w')))) a w := by
  subst hops
  have hi : IOS w0 ok g b es v0 now w := hI (by decide)
  have ho : (opsOf Try.f11 6)[5]? = some ({ dst := some 41, op := Go.Op.load 3 (Go.Operand.tmp 3), type := 3, pos := "session.go:28", after := #[], guard := none } : Oper) := by kernel_rfl
  refine wpOp_plain ho rfl ?_
  clear hN hI ho
  obtain ⟨hnum, hg, -, hh, -⟩ := hi
  have hc : w.cell? ⟨b, 0, none⟩ = some (.int .i64 now) := by simp [World.cell?, hh]
  clear hh hnum
  go_simp
  first | exact ⟨_, rfl, rfl⟩ | exact ⟨_, rfl, rfl, .inl (Below.refl _ _)⟩
set_option maxRecDepth 100000 in
theorem sOS_6 {ops : Array Oper} {Q : Exit → Act → World → Prop} (hops : ops = opsOf Try.f11 6) (w0 : World) (ok : Nat → Prop) (g b : Nat) (es : List S55) (v0 : Value) (now : Int) (a : Act) (w : World) (h0 : a.tmps[0]?.getD undef = .pointer (some ⟨g, 0, none⟩)) (h3 : a.tmps[3]?.getD undef = .pointer (some ⟨b, 0, none⟩))
    (hN : ∀ j, j ∈ usOS.getD 6 [] → FOS w0 ok g b es v0 now j (slotO dstOS a j) w) (hI : useIOS 6 = true → IOS w0 ok g b es v0 now w) : wpOp Try.prog ops Q 6 (fun a' w' => ∃ v, a' = a.put (dstOS 6) v ∧ FOS w0 ok g b es v0 now 6 (valO dstOS 6 v) w' ∧ (Below w.heap.size w w' ∨ ((∀ j u, j < 13 → j ≠ 6 → killOS 6 j = false → (ncOS.getD j []).contains 6 = false → FOS w0 ok g b es v0 now j u w → FOS w0 ok g b es v0 now j u w') ∧ (killIOS 6 = false → IOS w0 ok g b es v0 now w → IOS w0 ok g b es v0 now w')))) a w := by
  subst hops
  have hi : IOS w0 ok g b es v0 now w := hI (by decide)
  have ho : (opsOf Try.f11 6)[6]? = some ({ dst := some 42, op := Go.Op.load 3 (Go.Operand.tmp 3), type := 3, pos := "session.go:28", after := #[], guard := none } : Oper) := by kernel_rfl
  refine wpOp_plain ho rfl ?_
  clear hN hI ho
  obtain ⟨hnum, hg, -, hh, -⟩ := hi
  have hc : w.cell? ⟨b, 0, none⟩ = some (.int .i64 now) := by simp [World.cell?, hh]
  clear hh hnum
  go_simp
  first | exact ⟨_, rfl, rfl⟩ | exact ⟨_, rfl, rfl, .inl (Below.refl _ _)⟩
set_option maxRecDepth 100000 in
theorem sOS_7 {ops : Array Oper} {Q : Exit → Act → World → Prop} (hops : ops = opsOf Try.f11 6) (w0 : World) (ok : Nat → Prop) (g b : Nat) (es : List S55) (v0 : Value) (now : Int) (a : Act) (w : World) (h0 : a.tmps[0]?.getD undef = .pointer (some ⟨g, 0, none⟩)) (h3 : a.tmps[3]?.getD undef = .pointer (some ⟨b, 0, none⟩))
    (hN : ∀ j, j ∈ usOS.getD 7 [] → FOS w0 ok g b es v0 now j (slotO dstOS a j) w) (hI : useIOS 7 = true → IOS w0 ok g b es v0 now w) : wpOp Try.prog ops Q 7 (fun a' w' => ∃ v, a' = a.put (dstOS 7) v ∧ FOS w0 ok g b es v0 now 7 (valO dstOS 7 v) w' ∧ (Below w.heap.size w w' ∨ ((∀ j u, j < 13 → j ≠ 7 → killOS 7 j = false → (ncOS.getD j []).contains 7 = false → FOS w0 ok g b es v0 now j u w → FOS w0 ok g b es v0 now j u w') ∧ (killIOS 7 = false → IOS w0 ok g b es v0 now w → IOS w0 ok g b es v0 now w')))) a w := by
  subst hops
  have n5 : a.tmps[41]?.getD undef = .int .i64 now := hN 5 (by decide)
  have n6 : a.tmps[42]?.getD undef = .int .i64 now := hN 6 (by decide)
  have ho : (opsOf Try.f11 6)[7]? = some ({ dst := some 43, op := Go.Op.build 55 #[(0, Go.Operand.tmp 41), (2, Go.Operand.tmp 42)], type := 55, pos := "session.go:28", after := #[{ on := 5, ground := Go.Ground.data }, { on := 6, ground := Go.Ground.data }], guard := none } : Oper) := by kernel_rfl
  refine wpOp_plain ho rfl ?_
  clear hN hI ho
  go_simp
  first | exact ⟨_, rfl, rfl⟩ | exact ⟨_, rfl, rfl, .inl (Below.refl _ _)⟩
set_option maxRecDepth 100000 in
theorem sOS_8 {ops : Array Oper} {Q : Exit → Act → World → Prop} (hops : ops = opsOf Try.f11 6) (w0 : World) (ok : Nat → Prop) (g b : Nat) (es : List S55) (v0 : Value) (now : Int) (a : Act) (w : World) (h0 : a.tmps[0]?.getD undef = .pointer (some ⟨g, 0, none⟩)) (h3 : a.tmps[3]?.getD undef = .pointer (some ⟨b, 0, none⟩))
    (hN : ∀ j, j ∈ usOS.getD 8 [] → FOS w0 ok g b es v0 now j (slotO dstOS a j) w) (hI : useIOS 8 = true → IOS w0 ok g b es v0 now w) : wpOp Try.prog ops Q 8 (fun a' w' => ∃ v, a' = a.put (dstOS 8) v ∧ FOS w0 ok g b es v0 now 8 (valO dstOS 8 v) w' ∧ (Below w.heap.size w w' ∨ ((∀ j u, j < 13 → j ≠ 8 → killOS 8 j = false → (ncOS.getD j []).contains 8 = false → FOS w0 ok g b es v0 now j u w → FOS w0 ok g b es v0 now j u w') ∧ (killIOS 8 = false → IOS w0 ok g b es v0 now w → IOS w0 ok g b es v0 now w')))) a w := by
  subst hops
  have n7 : a.tmps[43]?.getD undef = .agg #[.int .i64 now, .int .i64 0, .int .i64 now, .string ByteArray.empty] := hN 7 (by decide)
  have hi : IOS w0 ok g b es v0 now w := hI (by decide)
  have ho : (opsOf Try.f11 6)[8]? = some ({ dst := some 44, op := Go.Op.buildSlice 34 1 #[(0, Go.Operand.tmp 43)], type := 34, pos := "session.go:28", after := #[{ on := 7, ground := Go.Ground.data }], guard := none } : Oper) := by kernel_rfl
  refine wpOp_plain ho rfl ?_
  clear hN hI ho
  obtain ⟨-, -, -, -, -, hK, -⟩ := hi
  have HL := Aside0.mk (lit_oneS w w0.heap.size hK.1 (⟨now, 0, now, ByteArray.empty⟩ : S55))
  clear hK
  go_simp
  exact ⟨_, rfl, HL.out, .inl (below_alloc (Below.refl _ _) _)⟩
set_option maxRecDepth 100000 in
theorem sOS_9 {ops : Array Oper} {Q : Exit → Act → World → Prop} (hops : ops = opsOf Try.f11 6) (w0 : World) (ok : Nat → Prop) (g b : Nat) (es : List S55) (v0 : Value) (now : Int) (a : Act) (w : World) (h0 : a.tmps[0]?.getD undef = .pointer (some ⟨g, 0, none⟩)) (h3 : a.tmps[3]?.getD undef = .pointer (some ⟨b, 0, none⟩))
    (hN : ∀ j, j ∈ usOS.getD 9 [] → FOS w0 ok g b es v0 now j (slotO dstOS a j) w) (hI : useIOS 9 = true → IOS w0 ok g b es v0 now w) : wpOp Try.prog ops Q 9 (fun a' w' => ∃ v, a' = a.put (dstOS 9) v ∧ FOS w0 ok g b es v0 now 9 (valO dstOS 9 v) w' ∧ (Below w.heap.size w w' ∨ ((∀ j u, j < 13 → j ≠ 9 → killOS 9 j = false → (ncOS.getD j []).contains 9 = false → FOS w0 ok g b es v0 now j u w → FOS w0 ok g b es v0 now j u w') ∧ (killIOS 9 = false → IOS w0 ok g b es v0 now w → IOS w0 ok g b es v0 now w')))) a w := by
  subst hops
  have n4 : a.tmps[40]?.getD undef = v0 := hN 4 (by decide)
  have n8 : (fun (v : Value) (w : World) => Kd.R k55 55 w w0.heap.size (fun _ => True) v [(⟨now, 0, now, ByteArray.empty⟩ : S55)]) (a.tmps[44]?.getD undef) w := hN 8 (by decide)
  have hi : IOS w0 ok g b es v0 now w := hI (by decide)
  have ho : (opsOf Try.f11 6)[9]? = some ({ dst := some 45, op := Go.Op.call { callee := Go.Callee.builtin Go.Builtin.append, args := #[Go.Operand.tmp 40, Go.Operand.tmp 44], argTypes := #[34, 34] }, type := 34, pos := "session.go:28", after := #[{ on := 4, ground := Go.Ground.data }, { on := 8, ground := Go.Ground.data }], guard := none } : Oper) := by kernel_rfl
  refine wpOp_plain ho rfl ?_
  clear hN hI ho
  obtain ⟨⟨hl, hlt⟩, hg, hh, hbx, hR, hK, hB⟩ := hi
  have n8' : Kd.R k55 55 w w0.heap.size (fun _ => True) (a.tmps[44]?.getD undef) [(⟨now, 0, now, ByteArray.empty⟩ : S55)] := n8
  obtain ⟨_, hO⟩ := Kd.R_bound n8'
  obtain ⟨A2, c2, e2, hc2, hrr⟩ := OwnRow.reads hO
  have hvlt : ∀ k, v0.ownBlock = some k → (ok k ∧ k < w0.heap.size) ∧ k ≠ g := hR.1
  have e9 : a.eval (.tmp 40) = v0 := by simp only [Act.eval, Array.getD_eq_getD_getElem?]; exact n4
  have e11 : a.eval (.tmp 44) = .slice A2 1 c2 := by simp only [Act.eval, Array.getD_eq_getD_getElem?]; exact e2
  refine Eq.mp (if_pos (by rfl : Region.wanted _ (yielded (opsOf Try.f11 6) a.tmps) = true)) (Kd.R_append_rows_step (P := Try.prog) (ops := opsOf Try.f11 6) (Q := Q) (a := a) k55 (w0 := w0)
    0 (by rfl) (.tmp 40) (.tmp 44) 34 55 _ 40 rfl Try.underlying34 info55 rfl (by decide) (by decide) v0 es [(⟨now, 0, now, ByteArray.empty⟩ : S55)] A2 1 c2 (fun k => (ok k ∨ w0.heap.size ≤ k) ∧ k ≠ g) (fun k => w0.heap.size ≤ k) e9 e11
    (Kd.R_mono hR (fun k hk => ⟨.inl hk.1.1, hk.2⟩)) hrr (fun x cs h => k55.M_mono (fun k hk => hk.1.2.1) (k55.M_lower (Nat.zero_le _) h))
    (fun k hk => ⟨⟨.inr hk, by omega⟩, fun he => by have := (hvlt k he.symm).1.2; omega⟩) (fun k hk => ⟨.inr (Nat.le_trans hK.1 hk), by have := hK.1; omega⟩) hB (Nat.zero_le _) hl ?_)
  · intro v1 w1 hR1 hB1 hgr hat
    refine ⟨_, rfl, ⟨hg, hlt, ?_, hR1, Kept.of_grown hgr hK (fun k hk => .inl (hvlt k hk).1.1), hB1⟩, .inr ⟨?_, ?_⟩⟩
    · exact (hgr.block g (by have := hK.1; omega) (fun he => (hvlt g he.symm).2 rfl)).trans hh
    · intro j u hj hne hk hcc hF
      have hj' : j = 0 ∨ j = 1 ∨ j = 2 ∨ j = 3 ∨ j = 4 ∨ j = 5 ∨ j = 6 ∨ j = 7 ∨ j = 8 ∨ j = 9 ∨ j = 10 ∨ j = 11 ∨ j = 12 := by omega
      rcases hj' with rfl | rfl | rfl | rfl | rfl | rfl | rfl | rfl | rfl | rfl | rfl | rfl | rfl <;> first | exact hF | (exact absurd hk (by decide)) | (exact absurd rfl hne) | (exact absurd hcc (by decide))
    · intro hk
      exact absurd hk (by decide)
set_option maxRecDepth 100000 in
theorem sOS_10 {ops : Array Oper} {Q : Exit → Act → World → Prop} (hops : ops = opsOf Try.f11 6) (w0 : World) (ok : Nat → Prop) (g b : Nat) (es : List S55) (v0 : Value) (now : Int) (a : Act) (w : World) (h0 : a.tmps[0]?.getD undef = .pointer (some ⟨g, 0, none⟩)) (h3 : a.tmps[3]?.getD undef = .pointer (some ⟨b, 0, none⟩))
    (hN : ∀ j, j ∈ usOS.getD 10 [] → FOS w0 ok g b es v0 now j (slotO dstOS a j) w) (hI : useIOS 10 = true → IOS w0 ok g b es v0 now w) : wpOp Try.prog ops Q 10 (fun a' w' => ∃ v, a' = a.put (dstOS 10) v ∧ FOS w0 ok g b es v0 now 10 (valO dstOS 10 v) w' ∧ (Below w.heap.size w w' ∨ ((∀ j u, j < 13 → j ≠ 10 → killOS 10 j = false → (ncOS.getD j []).contains 10 = false → FOS w0 ok g b es v0 now j u w → FOS w0 ok g b es v0 now j u w') ∧ (killIOS 10 = false → IOS w0 ok g b es v0 now w → IOS w0 ok g b es v0 now w')))) a w := by
  subst hops
  have n0 : a.tmps[36]?.getD undef = .pointer (some ⟨g, 0, none⟩) := hN 0 (by decide)
  have ho : (opsOf Try.f11 6)[10]? = some ({ dst := some 46, op := Go.Op.nilCheck (Go.Operand.tmp 36), type := 0, pos := "session.go:28", after := #[{ on := 0, ground := Go.Ground.data }, { on := 0, ground := Go.Ground.phase }, { on := 1, ground := Go.Ground.phase }, { on := 2, ground := Go.Ground.phase }, { on := 3, ground := Go.Ground.phase }, { on := 4, ground := Go.Ground.phase }, { on := 5, ground := Go.Ground.phase }, { on := 6, ground := Go.Ground.phase }, { on := 7, ground := Go.Ground.phase }, { on := 8, ground := Go.Ground.phase }, { on := 9, ground := Go.Ground.phase }], guard := none } : Oper) := by kernel_rfl
  refine wpOp_plain ho rfl ?_
  clear hN hI ho
  go_simp
  first | exact ⟨_, rfl, rfl⟩ | exact ⟨_, rfl, rfl, .inl (Below.refl _ _)⟩
set_option maxRecDepth 100000 in
theorem sOS_11 {ops : Array Oper} {Q : Exit → Act → World → Prop} (hops : ops = opsOf Try.f11 6) (w0 : World) (ok : Nat → Prop) (g b : Nat) (es : List S55) (v0 : Value) (now : Int) (a : Act) (w : World) (h0 : a.tmps[0]?.getD undef = .pointer (some ⟨g, 0, none⟩)) (h3 : a.tmps[3]?.getD undef = .pointer (some ⟨b, 0, none⟩))
    (hN : ∀ j, j ∈ usOS.getD 11 [] → FOS w0 ok g b es v0 now j (slotO dstOS a j) w) (hI : useIOS 11 = true → IOS w0 ok g b es v0 now w) : wpOp Try.prog ops Q 11 (fun a' w' => ∃ v, a' = a.put (dstOS 11) v ∧ FOS w0 ok g b es v0 now 11 (valO dstOS 11 v) w' ∧ (Below w.heap.size w w' ∨ ((∀ j u, j < 13 → j ≠ 11 → killOS 11 j = false → (ncOS.getD j []).contains 11 = false → FOS w0 ok g b es v0 now j u w → FOS w0 ok g b es v0 now j u w') ∧ (killIOS 11 = false → IOS w0 ok g b es v0 now w → IOS w0 ok g b es v0 now w')))) a w := by
  subst hops
  have n10 : a.tmps[46]?.getD undef = .pointer (some ⟨g, 0, none⟩) := hN 10 (by decide)
  have ho : (opsOf Try.f11 6)[11]? = some ({ dst := some 47, op := Go.Op.fieldAddr 36 (Go.Operand.tmp 46) 0, type := 0, pos := "session.go:28", after := #[{ on := 10, ground := Go.Ground.data }, { on := 0, ground := Go.Ground.phase }, { on := 1, ground := Go.Ground.phase }, { on := 2, ground := Go.Ground.phase }, { on := 3, ground := Go.Ground.phase }, { on := 4, ground := Go.Ground.phase }, { on := 5, ground := Go.Ground.phase }, { on := 6, ground := Go.Ground.phase }, { on := 7, ground := Go.Ground.phase }, { on := 8, ground := Go.Ground.phase }, { on := 9, ground := Go.Ground.phase }], guard := none } : Oper) := by kernel_rfl
  refine wpOp_plain ho rfl ?_
  clear hN hI ho
  go_simp
  first | exact ⟨_, rfl, rfl⟩ | exact ⟨_, rfl, rfl, .inl (Below.refl _ _)⟩
set_option maxRecDepth 100000 in
theorem sOS_12 {ops : Array Oper} {Q : Exit → Act → World → Prop} (hops : ops = opsOf Try.f11 6) (w0 : World) (ok : Nat → Prop) (g b : Nat) (es : List S55) (v0 : Value) (now : Int) (a : Act) (w : World) (h0 : a.tmps[0]?.getD undef = .pointer (some ⟨g, 0, none⟩)) (h3 : a.tmps[3]?.getD undef = .pointer (some ⟨b, 0, none⟩))
    (hN : ∀ j, j ∈ usOS.getD 12 [] → FOS w0 ok g b es v0 now j (slotO dstOS a j) w) (hI : useIOS 12 = true → IOS w0 ok g b es v0 now w) : wpOp Try.prog ops Q 12 (fun a' w' => ∃ v, a' = a.put (dstOS 12) v ∧ FOS w0 ok g b es v0 now 12 (valO dstOS 12 v) w' ∧ (Below w.heap.size w w' ∨ ((∀ j u, j < 13 → j ≠ 12 → killOS 12 j = false → (ncOS.getD j []).contains 12 = false → FOS w0 ok g b es v0 now j u w → FOS w0 ok g b es v0 now j u w') ∧ (killIOS 12 = false → IOS w0 ok g b es v0 now w → IOS w0 ok g b es v0 now w')))) a w := by
  subst hops
  have n9 : (fun (v : Value) (w : World) => ok g ∧ g < w0.heap.size ∧ w.heap[g]? = some (.cells #[v0] 36 (0, 0)) ∧ Kd.R k55 55 w 0 (fun k => (ok k ∨ w0.heap.size ≤ k) ∧ k ≠ g) v (es ++ [(⟨now, 0, now, ByteArray.empty⟩ : S55)]) ∧ Kept w0 w ok ∧ Below 0 w0 w) (a.tmps[45]?.getD undef) w := hN 9 (by decide)
  have n11 : a.tmps[47]?.getD undef = .pointer (some ⟨g, 0, none⟩) := hN 11 (by decide)
  have ho : (opsOf Try.f11 6)[12]? = some ({ dst := none, op := Go.Op.store 34 (Go.Operand.tmp 47) (Go.Operand.tmp 45), type := 0, pos := "session.go:28", after := #[{ on := 11, ground := Go.Ground.data }, { on := 9, ground := Go.Ground.data }, { on := 9, ground := Go.Ground.chain }, { on := 0, ground := Go.Ground.phase }, { on := 1, ground := Go.Ground.phase }, { on := 2, ground := Go.Ground.phase }, { on := 3, ground := Go.Ground.phase }, { on := 4, ground := Go.Ground.phase }, { on := 5, ground := Go.Ground.phase }, { on := 6, ground := Go.Ground.phase }, { on := 7, ground := Go.Ground.phase }, { on := 8, ground := Go.Ground.phase }, { on := 9, ground := Go.Ground.phase }], guard := none } : Oper) := by kernel_rfl
  refine wpOp_plain ho rfl ?_
  clear hN hI ho
  obtain ⟨hg, hlt, hh, hR, hK, hB⟩ := n9
  obtain ⟨A2, c2, e2⟩ := Kd.R_slice hR
  rw [e2] at hR
  have hcell : w.cell? ⟨g, 0, none⟩ = some v0 := by simp [World.cell?, hh]
  have hfz : w.frozen? ⟨g, 0, none⟩ = false := by simp [World.frozen?, hh]
  have HH := Aside0.mk hh
  have HR := Aside0.mk hR
  have HK := Aside0.mk hK
  have HB := Aside0.mk hB
  clear hh hR hK hB
  go_simp
  refine ⟨undef, rfl, ⟨⟨.inl hg, _, set_field0 HH.out _, ?_⟩, Kept.setCell HK.out (.inl hg) _, Below.setCell HB.out (Nat.zero_le _) _⟩, .inr ⟨?_, ?_⟩⟩
  · have := Kd.R_far (p := ⟨g, 0, none⟩) HR.out (fun k hk => hk.2) (.slice A2 (es.length + 1) c2)
    rw [show (es ++ [(⟨now, 0, now, ByteArray.empty⟩ : S55)]).length = es.length + 1 by simp] at this
    exact Kd.R_mono this (fun k hk => ⟨hk.1, hk.2⟩)
  · intro j u hj hne hk hcc hF
    have hj' : j = 0 ∨ j = 1 ∨ j = 2 ∨ j = 3 ∨ j = 4 ∨ j = 5 ∨ j = 6 ∨ j = 7 ∨ j = 8 ∨ j = 9 ∨ j = 10 ∨ j = 11 ∨ j = 12 := by omega
    rcases hj' with rfl | rfl | rfl | rfl | rfl | rfl | rfl | rfl | rfl | rfl | rfl | rfl | rfl <;> first | exact hF | (exact absurd hk (by decide)) | (exact absurd rfl hne) | (exact absurd hcc (by decide))
  · intro hk
    exact absurd hk (by decide)
theorem monoOS (w0 : World) (ok : Nat → Prop) (g b : Nat) (es : List S55) (v0 : Value) (now : Int) (j : Nat) (v : Value) (w w' : World) (h : FOS w0 ok g b es v0 now j v w) (hb : Below w.heap.size w w') : FOS w0 ok g b es v0 now j v w' := by
  unfold FOS at h ⊢
  split <;> first
    | exact True.intro
    | exact h
    | exact Kd.R_below h hb
    | exact ⟨h.1, h.2.1, (hb.block g (Array.getElem?_eq_some_iff.1 h.2.2.1).1).trans h.2.2.1, Kd.R_below h.2.2.2.1 hb, Kept.below h.2.2.2.2.1 hb, h.2.2.2.2.2.trans (hb.mono (Nat.zero_le _))⟩
    | exact ⟨h.1.below hb, Kept.below h.2.1 hb, h.2.2.trans (hb.mono (Nat.zero_le _))⟩
theorem monoIOS (w0 : World) (ok : Nat → Prop) (g b : Nat) (es : List S55) (v0 : Value) (now : Int) (w w' : World) (h : IOS w0 ok g b es v0 now w) (hb : Below w.heap.size w w') : IOS w0 ok g b es v0 now w' := by
  obtain ⟨hn, hg, hh, hbx, hR, hK, hB⟩ := h
  exact ⟨hn, hg, (hb.block g (Array.getElem?_eq_some_iff.1 hh).1).trans hh, (hb.block b (Array.getElem?_eq_some_iff.1 hbx).1).trans hbx, Kd.R_below hR hb, Kept.below hK hb, hB.trans (hb.mono (Nat.zero_le _))⟩
theorem hinOS : ∀ i, i < 13 → ∀ d, dstOS i = some d → d < 48 := by
  have h2 : ∀ i, i < 13 → (dstOS i).all (fun d => decide (d < 48)) = true := by decide
  intro i hi d hd
  have := h2 i hi
  rw [hd] at this
  simpa using this
set_option maxRecDepth 100000 in
theorem regionOS {ops : Array Oper} {Q : Exit → Act → World → Prop} (hops : ops = opsOf Try.f11 6) {id : Nat} (w0 : World) (ok : Nat → Prop) (g b : Nat) (es : List S55) (v0 : Value) (now : Int) (a0 : Act) (w0_ : World) (hI0 : IOS w0 ok g b es v0 now w0_) (hsz : a0.tmps.size = 48) (h0 : a0.tmps[0]?.getD undef = .pointer (some ⟨g, 0, none⟩)) (h3 : a0.tmps[3]?.getD undef = .pointer (some ⟨b, 0, none⟩))
    (hQ : ∀ a w, AgreeO 13 dstOS a0 a → FOS w0 ok g b es v0 now 12 (slotO dstOS a 12) w → Q .normal a w) : (Code.region id ops true).wp Try.prog Q a0 w0_ := by
  refine region_heldA (n := 13) dstOS (FOS w0 ok g b es v0 now) (IOS w0 ok g b es v0 now) ndOS ncOS usOS killOS killIOS useIOS (by kernel_rfl) (by rw [hops]; kernel_rfl) (by decide) ?_ (fun j v w w' _ h hb => monoOS w0 ok g b es v0 now j v w w' h hb) (fun w w' h hb => monoIOS w0 ok g b es v0 now w w' h hb) hI0 (by rw [hops]; kernel_rfl) (by decide) (by decide) (by decide) (by decide) (by decide) ?_ (fun a w hA hF hI => hQ a w hA (hF 12 (by decide) (by decide)))
  · intro i hi d hd
    rw [hsz]; exact hinOS i hi d hd
  · intro i a w hi hA hN hI
    have h0 := (hA.old 0 (by decide)).trans h0
    have h3 := (hA.old 3 (by decide)).trans h3
    have hi' : i = 0 ∨ i = 1 ∨ i = 2 ∨ i = 3 ∨ i = 4 ∨ i = 5 ∨ i = 6 ∨ i = 7 ∨ i = 8 ∨ i = 9 ∨ i = 10 ∨ i = 11 ∨ i = 12 := by omega
    rcases hi' with rfl | rfl | rfl | rfl | rfl | rfl | rfl | rfl | rfl | rfl | rfl | rfl | rfl
    · exact sOS_0 hops w0 ok g b es v0 now a w h0 h3 hN hI
    · exact sOS_1 hops w0 ok g b es v0 now a w h0 h3 hN hI
    · exact sOS_2 hops w0 ok g b es v0 now a w h0 h3 hN hI
    · exact sOS_3 hops w0 ok g b es v0 now a w h0 h3 hN hI
    · exact sOS_4 hops w0 ok g b es v0 now a w h0 h3 hN hI
    · exact sOS_5 hops w0 ok g b es v0 now a w h0 h3 hN hI
    · exact sOS_6 hops w0 ok g b es v0 now a w h0 h3 hN hI
    · exact sOS_7 hops w0 ok g b es v0 now a w h0 h3 hN hI
    · exact sOS_8 hops w0 ok g b es v0 now a w h0 h3 hN hI
    · exact sOS_9 hops w0 ok g b es v0 now a w h0 h3 hN hI
    · exact sOS_10 hops w0 ok g b es v0 now a w h0 h3 hN hI
    · exact sOS_11 hops w0 ok g b es v0 now a w h0 h3 hN hI
    · exact sOS_12 hops w0 ok g b es v0 now a w h0 h3 hN hI

end Go.Proofs.Ytahkokbfghifhaa.PS
