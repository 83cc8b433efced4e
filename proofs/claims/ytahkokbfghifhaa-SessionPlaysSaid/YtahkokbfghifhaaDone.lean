/- Done: what came of something is laid down. -/
import Derived.Test.YtahkokbfghifhaaAsk
import Derived.Test.YtahkokbfghifhaaRegA
import Derived.Test.YtahkokbfghifhaaProg
import Derived.Below
import Derived.Deep.Draws
import Derived.Deep.AppendLies
import Derived.Maps.AppendAt
import Derived.OwnWalk
import Derived.Laws.BytesArg
import Derived.Laws.MakeOwn
import Derived.Laws.OwnMore
import Derived.Deep.OwnRows
import Derived.Tactics
import Derived.Lib.ConvBytes
import Derived.Laws.Slices
import Derived.WalkKit
import Derived.KernelRfl
import Derived.RowKit3
import Derived.Deep.LoopGhost
import Derived.Deep.QuietTactic
import Derived.BigQuiet
import Derived.WideLaws
import Derived.Deep.DeepCutAuto
import Derived.Deep.CutBlock
import Derived.Deep.RegionHeld3
import Derived.Laws.Rows
import Derived.Lib.AppendStr
import Derived.ArgAppend
import Derived.Laws.IdiomCopy
import Derived.OrdersHeld
import Derived.Laws.BitsLemmas
import Derived.RowKit
import Derived.Test.YtahkokbfghifhaaWWords
import Derived.Test.YtahkokbfghifhaaWLast
import Derived.Test.YtahkokbfghifhaaWTab
import Derived.Test.YtahkokbfghifhaaWFour
import Derived.Test.YtahkokbfghifhaaWQPut
import Derived.Test.YtahkokbfghifhaaWApart
import Derived.Test.YtahkokbfghifhaaWArr
import Derived.Test.YtahkokbfghifhaaWZeros
import Derived.Test.YtahkokbfghifhaaWFoot
import Derived.Test.YtahkokbfghifhaaWKept
import Derived.Test.YtahkokbfghifhaaWShare
import Derived.Test.YtahkokbfghifhaaWN
import Derived.Test.YtahkokbfghifhaaWFootNe
import Derived.Test.YtahkokbfghifhaaWAt
import Derived.Test.YtahkokbfghifhaaWEqStruct
import Derived.Test.YtahkokbfghifhaaWRepsOne
import Derived.Test.YtahkokbfghifhaaWInv
import Derived.Test.YtahkokbfghifhaaWInvWords
import Derived.Test.YtahkokbfghifhaaWGuard
import Derived.Test.YtahkokbfghifhaaWNEv
import Derived.Test.YtahkokbfghifhaaWMore
namespace Go.Proofs.Ytahkokbfghifhaa.PS
open Go.RowKit Go.Proofs.YtahkokbfghifhaaW.PrintWords Go.Proofs.YtahkokbfghifhaaW.PrintLast Go.Proofs.YtahkokbfghifhaaW.PrintMore
set_option linter.unusedVariables false
set_option linter.unusedSimpArgs false
set_option maxHeartbeats 4000000
set_option maxRecDepth 100000

open Go.Proofs.Ytahkokbfghifhaa.Reg
theorem R_store_step {α : Type} {P : Program} {o : Oper} {a : Act} {Q : Exit → Act → World → Prop} {Kc : Act → World → Prop} (d : Kd α) {W : World} (base : Nat) (hN : o.dst = none) (t : TypeId) (p x : Operand) (ho : o.op = .store t p x) (e : TypeId) {g n cap o' : Nat} (i : Int) (xs : List α) (x' : α) (u : Value) (seg : List Value) (ok okp : Nat → Prop)
    (haddr : a.eval p = .pointer (some ⟨g, o', none⟩)) (hoff : o' = i.toNat * d.sz) (hx : a.eval x = u) (hu : u.cells.toList = seg) (ht : (P.info? t).map (·.size) = some seg.length) (h1 : ∀ q ∈ seg, q.oneCell' = true)
    (HO : d.R e W base ok (.slice (some ⟨g, 0, none⟩) n cap) xs) (h0 : 0 ≤ i) (hi : i < n) (hseg : seg.length = d.sz) (z : α) (hM : d.M W base okp x' seg) (hokp : ∀ k, okp k → ok k ∧ k ≠ g)
    (h : ∀ w1, d.R e w1 base ok (.slice (some ⟨g, 0, none⟩) n cap) (xs.set i.toNat x') → W.grownBy w1 (some g) → Kc (a.put none undef) w1) : Oper.wp P o a W Kc Q := by
  obtain ⟨c, hcl, _, hcc, _⟩ := Kd.R_elem HO z i h0 hi
  have hM' : d.M W base okp x' (c.take 0 ++ seg ++ c.drop (0 + seg.length)) := by
    rw [Nat.zero_add, hseg, ← hcl, List.drop_length]; simpa using hM
  obtain ⟨hrow, hg⟩ := Kd.R_seg HO i h0 hi hcl hcc (j := 0) (by omega) hM' hokp
  subst hoff
  rw [Nat.add_zero] at hrow hg
  have hnx : n = xs.length := (Kd.R_reads' HO).1
  have hnc : n ≤ cap := (Kd.R_reads' HO).2.1
  obtain ⟨inner, hown⟩ := Kd.R_own HO
  have hrun : (Instr.storeAt t (.pointer (some ⟨g, i.toNat * d.sz, none⟩)) u).run P W = .ok () (W.setCells g (i.toNat * d.sz) seg) := by
    rcases hown.2 with ⟨hv, _⟩ | ⟨g', cap', cur, hv, hb, hh, hnc', hcm, hcs, _⟩
    · cases hv
    injection hv with ha _ hc
    injection ha with ha
    injection ha with hg'
    subst hg'; subst hc
    refine run_store_run t u seg hh hu ht ?_ h1
    have hil : i.toNat < n := by omega
    have h2 : i.toNat * d.sz + d.sz ≤ n * d.sz := by rw [← Nat.succ_mul]; exact Nat.mul_le_mul_right _ hil
    have h3 : n * d.sz ≤ cap * d.sz := Nat.mul_le_mul_right _ (by omega)
    omega
  unfold Oper.wp execOp
  simp only [ho, haddr, hx, Sem.run_bind, Sem.run_pure, Result.andThen_ok, hrun]
  show Kc (a.put o.dst undef) _
  rw [hN]
  exact h _ hrow hg
def dstDI (i : Nat) : Option Nat := ([some 28, some 29, some 30, some 31, some 32, some 33, some 34, some 35, some 36, some 37, some 38, some 39, some 40, none] : List (Option Nat)).getD i none
def ndDI : List (List Nat) := [[], [0], [1], [2], [], [], [4, 5], [], [], [], [], [7, 8, 9, 10], [3, 6, 0, 1, 2, 3, 4, 5, 6, 7, 8, 9, 10, 11], [12, 11, 6, 0, 1, 2, 3, 4, 5, 6, 7, 8, 9, 10, 11]]
def usDI : List (List Nat) := [[], [0], [1], [2], [], [], [4, 5], [], [], [], [], [7, 8, 9, 10], [3, 6], [11, 12]]
def ncDI : List (List Nat) := [[], [0], [0, 1], [0, 1, 2], [], [], [4, 5], [], [], [], [], [7, 8, 9, 10], [0, 1, 2, 3, 4, 5, 6, 7, 8, 9, 10, 11], [0, 1, 2, 3, 4, 5, 6, 7, 8, 9, 10, 11, 12]]
def killDI (h j : Nat) : Bool := (false)
def killIDI (h : Nat) : Bool := [13].contains h
def useIDI (h : Nat) : Bool := [3, 6, 12, 13].contains h
def IDI (w0 : World) (ok : Nat → Prop) (g : Nat) (es : List S45) (sid seq now : Int) (x : Int) (gb c : Nat) (i : Int) (w : World) : Prop := (0 ≤ i ∧ i < es.length ∧ idxI (fun r => decide (r.f0 = sid)) es = i ∧ g < w0.heap.size) ∧ ok g ∧ w.heap[g]? = some (.cells #[(Value.slice (some ⟨gb, 0, none⟩) es.length c)] 26 (0, 0)) ∧ Kd.R k45 45 w 0 (fun k => ok k ∧ k ≠ g) (Value.slice (some ⟨gb, 0, none⟩) es.length c) es ∧ Kept w0 w ok ∧ Below 0 w0 w
def FDI (w0 : World) (ok : Nat → Prop) (g : Nat) (es : List S45) (sid seq now : Int) (x : Int) (gb c : Nat) (i : Int) : Nat → Value → World → Prop
  | 0, v, w => v = .pointer (some ⟨g, 0, none⟩)
  | 1, v, w => v = .pointer (some ⟨g, 0, none⟩)
  | 2, v, w => v = .pointer (some ⟨g, 0, none⟩)
  | 3, v, w => v = (Value.slice (some ⟨gb, 0, none⟩) es.length c)
  | 4, v, w => v = .pointer (some ⟨g, 0, none⟩)
  | 5, v, w => v = .int .i64 sid
  | 6, v, w => v = .int .i64 i
  | 7, v, w => v = .int .i64 sid
  | 8, v, w => v = .int .i64 seq
  | 9, v, w => v = .int .i64 now
  | 10, v, w => v = .int .i64 x
  | 11, v, w => v = .agg #[.int .i64 sid, .int .i64 seq, .int .i64 now, .int .i64 x]
  | 12, v, w => v = .pointer (some ⟨gb, i.toNat * 4, none⟩)
  | 13, v, w => TblI w ok g (es.set i.toNat ⟨sid, seq, now, x⟩) ∧ Kept w0 w ok ∧ Below 0 w0 w
  | _, _, _ => True
set_option maxRecDepth 100000 in
theorem sDI_0 {ops : Array Oper} {Q : Exit → Act → World → Prop} (hops : ops = opsOf Try.f10 4) (w0 : World) (ok : Nat → Prop) (g : Nat) (es : List S45) (sid seq now : Int) (x : Int) (gb c : Nat) (i : Int) (a : Act) (w : World) (h0 : a.tmps[0]?.getD undef = .pointer (some ⟨g, 0, none⟩)) (h1 : a.tmps[1]?.getD undef = .int .i64 sid) (h2 : a.tmps[2]?.getD undef = .int .i64 seq) (h3 : a.tmps[3]?.getD undef = .int .i64 now) (h4 : a.tmps[4]?.getD undef = .int .i64 x)
    (hN : ∀ j, j ∈ usDI.getD 0 [] → FDI w0 ok g es sid seq now x gb c i j (slotO dstDI a j) w) (hI : useIDI 0 = true → IDI w0 ok g es sid seq now x gb c i w) : wpOp Try.prog ops Q 0 (fun a' w' => ∃ v, a' = a.put (dstDI 0) v ∧ FDI w0 ok g es sid seq now x gb c i 0 (valO dstDI 0 v) w' ∧ (Below w.heap.size w w' ∨ ((∀ j u, j < 14 → j ≠ 0 → killDI 0 j = false → (ncDI.getD j []).contains 0 = false → FDI w0 ok g es sid seq now x gb c i j u w → FDI w0 ok g es sid seq now x gb c i j u w') ∧ (killIDI 0 = false → IDI w0 ok g es sid seq now x gb c i w → IDI w0 ok g es sid seq now x gb c i w')))) a w := by
  subst hops
  have ho : (opsOf Try.f10 4)[0]? = some ({ dst := some 28, op := Go.Op.move (Go.Operand.tmp 0), type := 60, pos := "session.go:57", after := #[], guard := none } : Oper) := by kernel_rfl
  refine wpOp_plain ho rfl ?_
  clear hN hI ho
  go_simp
  first | exact ⟨_, rfl, rfl⟩ | exact ⟨_, rfl, rfl, .inl (Below.refl _ _)⟩
set_option maxRecDepth 100000 in
theorem sDI_1 {ops : Array Oper} {Q : Exit → Act → World → Prop} (hops : ops = opsOf Try.f10 4) (w0 : World) (ok : Nat → Prop) (g : Nat) (es : List S45) (sid seq now : Int) (x : Int) (gb c : Nat) (i : Int) (a : Act) (w : World) (h0 : a.tmps[0]?.getD undef = .pointer (some ⟨g, 0, none⟩)) (h1 : a.tmps[1]?.getD undef = .int .i64 sid) (h2 : a.tmps[2]?.getD undef = .int .i64 seq) (h3 : a.tmps[3]?.getD undef = .int .i64 now) (h4 : a.tmps[4]?.getD undef = .int .i64 x)
    (hN : ∀ j, j ∈ usDI.getD 1 [] → FDI w0 ok g es sid seq now x gb c i j (slotO dstDI a j) w) (hI : useIDI 1 = true → IDI w0 ok g es sid seq now x gb c i w) : wpOp Try.prog ops Q 1 (fun a' w' => ∃ v, a' = a.put (dstDI 1) v ∧ FDI w0 ok g es sid seq now x gb c i 1 (valO dstDI 1 v) w' ∧ (Below w.heap.size w w' ∨ ((∀ j u, j < 14 → j ≠ 1 → killDI 1 j = false → (ncDI.getD j []).contains 1 = false → FDI w0 ok g es sid seq now x gb c i j u w → FDI w0 ok g es sid seq now x gb c i j u w') ∧ (killIDI 1 = false → IDI w0 ok g es sid seq now x gb c i w → IDI w0 ok g es sid seq now x gb c i w')))) a w := by
  subst hops
  have n0 : a.tmps[28]?.getD undef = .pointer (some ⟨g, 0, none⟩) := hN 0 (by decide)
  have ho : (opsOf Try.f10 4)[1]? = some ({ dst := some 29, op := Go.Op.nilCheck (Go.Operand.tmp 28), type := 0, pos := "session.go:57", after := #[{ on := 0, ground := Go.Ground.data }], guard := none } : Oper) := by kernel_rfl
  refine wpOp_plain ho rfl ?_
  clear hN hI ho
  go_simp
  first | exact ⟨_, rfl, rfl⟩ | exact ⟨_, rfl, rfl, .inl (Below.refl _ _)⟩
set_option maxRecDepth 100000 in
theorem sDI_2 {ops : Array Oper} {Q : Exit → Act → World → Prop} (hops : ops = opsOf Try.f10 4) (w0 : World) (ok : Nat → Prop) (g : Nat) (es : List S45) (sid seq now : Int) (x : Int) (gb c : Nat) (i : Int) (a : Act) (w : World) (h0 : a.tmps[0]?.getD undef = .pointer (some ⟨g, 0, none⟩)) (h1 : a.tmps[1]?.getD undef = .int .i64 sid) (h2 : a.tmps[2]?.getD undef = .int .i64 seq) (h3 : a.tmps[3]?.getD undef = .int .i64 now) (h4 : a.tmps[4]?.getD undef = .int .i64 x)
    (hN : ∀ j, j ∈ usDI.getD 2 [] → FDI w0 ok g es sid seq now x gb c i j (slotO dstDI a j) w) (hI : useIDI 2 = true → IDI w0 ok g es sid seq now x gb c i w) : wpOp Try.prog ops Q 2 (fun a' w' => ∃ v, a' = a.put (dstDI 2) v ∧ FDI w0 ok g es sid seq now x gb c i 2 (valO dstDI 2 v) w' ∧ (Below w.heap.size w w' ∨ ((∀ j u, j < 14 → j ≠ 2 → killDI 2 j = false → (ncDI.getD j []).contains 2 = false → FDI w0 ok g es sid seq now x gb c i j u w → FDI w0 ok g es sid seq now x gb c i j u w') ∧ (killIDI 2 = false → IDI w0 ok g es sid seq now x gb c i w → IDI w0 ok g es sid seq now x gb c i w')))) a w := by
  subst hops
  have n1 : a.tmps[29]?.getD undef = .pointer (some ⟨g, 0, none⟩) := hN 1 (by decide)
  have ho : (opsOf Try.f10 4)[2]? = some ({ dst := some 30, op := Go.Op.fieldAddr 26 (Go.Operand.tmp 29) 0, type := 0, pos := "session.go:57", after := #[{ on := 1, ground := Go.Ground.data }], guard := none } : Oper) := by kernel_rfl
  refine wpOp_plain ho rfl ?_
  clear hN hI ho
  go_simp
  first | exact ⟨_, rfl, rfl⟩ | exact ⟨_, rfl, rfl, .inl (Below.refl _ _)⟩
set_option maxRecDepth 100000 in
theorem sDI_3 {ops : Array Oper} {Q : Exit → Act → World → Prop} (hops : ops = opsOf Try.f10 4) (w0 : World) (ok : Nat → Prop) (g : Nat) (es : List S45) (sid seq now : Int) (x : Int) (gb c : Nat) (i : Int) (a : Act) (w : World) (h0 : a.tmps[0]?.getD undef = .pointer (some ⟨g, 0, none⟩)) (h1 : a.tmps[1]?.getD undef = .int .i64 sid) (h2 : a.tmps[2]?.getD undef = .int .i64 seq) (h3 : a.tmps[3]?.getD undef = .int .i64 now) (h4 : a.tmps[4]?.getD undef = .int .i64 x)
    (hN : ∀ j, j ∈ usDI.getD 3 [] → FDI w0 ok g es sid seq now x gb c i j (slotO dstDI a j) w) (hI : useIDI 3 = true → IDI w0 ok g es sid seq now x gb c i w) : wpOp Try.prog ops Q 3 (fun a' w' => ∃ v, a' = a.put (dstDI 3) v ∧ FDI w0 ok g es sid seq now x gb c i 3 (valO dstDI 3 v) w' ∧ (Below w.heap.size w w' ∨ ((∀ j u, j < 14 → j ≠ 3 → killDI 3 j = false → (ncDI.getD j []).contains 3 = false → FDI w0 ok g es sid seq now x gb c i j u w → FDI w0 ok g es sid seq now x gb c i j u w') ∧ (killIDI 3 = false → IDI w0 ok g es sid seq now x gb c i w → IDI w0 ok g es sid seq now x gb c i w')))) a w := by
  subst hops
  have n2 : a.tmps[30]?.getD undef = .pointer (some ⟨g, 0, none⟩) := hN 2 (by decide)
  have hi : IDI w0 ok g es sid seq now x gb c i w := hI (by decide)
  have ho : (opsOf Try.f10 4)[3]? = some ({ dst := some 31, op := Go.Op.load 24 (Go.Operand.tmp 30), type := 24, pos := "session.go:57", after := #[{ on := 2, ground := Go.Ground.data }], guard := none } : Oper) := by kernel_rfl
  refine wpOp_plain ho rfl ?_
  clear hN hI ho
  obtain ⟨hnum, hg, hh, -⟩ := hi
  have hc : w.cell? ⟨g, 0, none⟩ = some (Value.slice (some ⟨gb, 0, none⟩) es.length c) := by simp [World.cell?, hh]
  clear hh hnum
  go_simp
  first | exact ⟨_, rfl, rfl⟩ | exact ⟨_, rfl, rfl, .inl (Below.refl _ _)⟩
set_option maxRecDepth 100000 in
theorem sDI_4 {ops : Array Oper} {Q : Exit → Act → World → Prop} (hops : ops = opsOf Try.f10 4) (w0 : World) (ok : Nat → Prop) (g : Nat) (es : List S45) (sid seq now : Int) (x : Int) (gb c : Nat) (i : Int) (a : Act) (w : World) (h0 : a.tmps[0]?.getD undef = .pointer (some ⟨g, 0, none⟩)) (h1 : a.tmps[1]?.getD undef = .int .i64 sid) (h2 : a.tmps[2]?.getD undef = .int .i64 seq) (h3 : a.tmps[3]?.getD undef = .int .i64 now) (h4 : a.tmps[4]?.getD undef = .int .i64 x)
    (hN : ∀ j, j ∈ usDI.getD 4 [] → FDI w0 ok g es sid seq now x gb c i j (slotO dstDI a j) w) (hI : useIDI 4 = true → IDI w0 ok g es sid seq now x gb c i w) : wpOp Try.prog ops Q 4 (fun a' w' => ∃ v, a' = a.put (dstDI 4) v ∧ FDI w0 ok g es sid seq now x gb c i 4 (valO dstDI 4 v) w' ∧ (Below w.heap.size w w' ∨ ((∀ j u, j < 14 → j ≠ 4 → killDI 4 j = false → (ncDI.getD j []).contains 4 = false → FDI w0 ok g es sid seq now x gb c i j u w → FDI w0 ok g es sid seq now x gb c i j u w') ∧ (killIDI 4 = false → IDI w0 ok g es sid seq now x gb c i w → IDI w0 ok g es sid seq now x gb c i w')))) a w := by
  subst hops
  have ho : (opsOf Try.f10 4)[4]? = some ({ dst := some 32, op := Go.Op.move (Go.Operand.tmp 0), type := 60, pos := "session.go:57", after := #[], guard := none } : Oper) := by kernel_rfl
  refine wpOp_plain ho rfl ?_
  clear hN hI ho
  go_simp
  first | exact ⟨_, rfl, rfl⟩ | exact ⟨_, rfl, rfl, .inl (Below.refl _ _)⟩
set_option maxRecDepth 100000 in
theorem sDI_5 {ops : Array Oper} {Q : Exit → Act → World → Prop} (hops : ops = opsOf Try.f10 4) (w0 : World) (ok : Nat → Prop) (g : Nat) (es : List S45) (sid seq now : Int) (x : Int) (gb c : Nat) (i : Int) (a : Act) (w : World) (h0 : a.tmps[0]?.getD undef = .pointer (some ⟨g, 0, none⟩)) (h1 : a.tmps[1]?.getD undef = .int .i64 sid) (h2 : a.tmps[2]?.getD undef = .int .i64 seq) (h3 : a.tmps[3]?.getD undef = .int .i64 now) (h4 : a.tmps[4]?.getD undef = .int .i64 x)
    (hN : ∀ j, j ∈ usDI.getD 5 [] → FDI w0 ok g es sid seq now x gb c i j (slotO dstDI a j) w) (hI : useIDI 5 = true → IDI w0 ok g es sid seq now x gb c i w) : wpOp Try.prog ops Q 5 (fun a' w' => ∃ v, a' = a.put (dstDI 5) v ∧ FDI w0 ok g es sid seq now x gb c i 5 (valO dstDI 5 v) w' ∧ (Below w.heap.size w w' ∨ ((∀ j u, j < 14 → j ≠ 5 → killDI 5 j = false → (ncDI.getD j []).contains 5 = false → FDI w0 ok g es sid seq now x gb c i j u w → FDI w0 ok g es sid seq now x gb c i j u w') ∧ (killIDI 5 = false → IDI w0 ok g es sid seq now x gb c i w → IDI w0 ok g es sid seq now x gb c i w')))) a w := by
  subst hops
  have ho : (opsOf Try.f10 4)[5]? = some ({ dst := some 33, op := Go.Op.move (Go.Operand.tmp 1), type := 3, pos := "session.go:57", after := #[], guard := none } : Oper) := by kernel_rfl
  refine wpOp_plain ho rfl ?_
  clear hN hI ho
  go_simp
  first | exact ⟨_, rfl, rfl⟩ | exact ⟨_, rfl, rfl, .inl (Below.refl _ _)⟩
set_option maxRecDepth 100000 in
theorem sDI_6 {ops : Array Oper} {Q : Exit → Act → World → Prop} (hops : ops = opsOf Try.f10 4) (w0 : World) (ok : Nat → Prop) (g : Nat) (es : List S45) (sid seq now : Int) (x : Int) (gb c : Nat) (i : Int) (a : Act) (w : World) (h0 : a.tmps[0]?.getD undef = .pointer (some ⟨g, 0, none⟩)) (h1 : a.tmps[1]?.getD undef = .int .i64 sid) (h2 : a.tmps[2]?.getD undef = .int .i64 seq) (h3 : a.tmps[3]?.getD undef = .int .i64 now) (h4 : a.tmps[4]?.getD undef = .int .i64 x)
    (hN : ∀ j, j ∈ usDI.getD 6 [] → FDI w0 ok g es sid seq now x gb c i j (slotO dstDI a j) w) (hI : useIDI 6 = true → IDI w0 ok g es sid seq now x gb c i w) : wpOp Try.prog ops Q 6 (fun a' w' => ∃ v, a' = a.put (dstDI 6) v ∧ FDI w0 ok g es sid seq now x gb c i 6 (valO dstDI 6 v) w' ∧ (Below w.heap.size w w' ∨ ((∀ j u, j < 14 → j ≠ 6 → killDI 6 j = false → (ncDI.getD j []).contains 6 = false → FDI w0 ok g es sid seq now x gb c i j u w → FDI w0 ok g es sid seq now x gb c i j u w') ∧ (killIDI 6 = false → IDI w0 ok g es sid seq now x gb c i w → IDI w0 ok g es sid seq now x gb c i w')))) a w := by
  subst hops
  have n4 : a.tmps[32]?.getD undef = .pointer (some ⟨g, 0, none⟩) := hN 4 (by decide)
  have n5 : a.tmps[33]?.getD undef = .int .i64 sid := hN 5 (by decide)
  have hi : IDI w0 ok g es sid seq now x gb c i w := hI (by decide)
  have ho : (opsOf Try.f10 4)[6]? = some ({ dst := some 34, op := Go.Op.call { callee := Go.Callee.value (Go.Operand.func 30), args := #[Go.Operand.tmp 32, Go.Operand.tmp 33], argTypes := #[60, 3] }, type := 3, pos := "session.go:57", after := #[{ on := 4, ground := Go.Ground.data }, { on := 5, ground := Go.Ground.data }], guard := none } : Oper) := by kernel_rfl
  refine wpOp_plain ho rfl ?_
  clear hN hI ho
  obtain ⟨⟨h1, h2, h3, h4⟩, hg, hh, hR, hK, hB⟩ := hi
  have HH := Aside0.mk (at_callsI (w := w) (ok := ok) (g := g) (es := es) ⟨hg, _, hh, hR⟩ sid)
  rw [h3] at HH
  clear hh hR hK hB h1 h2 h3 h4
  go_simp
  refine HH.out.mono ?_
  rintro e w' ⟨rfl, hb⟩
  exact ⟨_, rfl, rfl, .inl hb⟩
set_option maxRecDepth 100000 in
theorem sDI_7 {ops : Array Oper} {Q : Exit → Act → World → Prop} (hops : ops = opsOf Try.f10 4) (w0 : World) (ok : Nat → Prop) (g : Nat) (es : List S45) (sid seq now : Int) (x : Int) (gb c : Nat) (i : Int) (a : Act) (w : World) (h0 : a.tmps[0]?.getD undef = .pointer (some ⟨g, 0, none⟩)) (h1 : a.tmps[1]?.getD undef = .int .i64 sid) (h2 : a.tmps[2]?.getD undef = .int .i64 seq) (h3 : a.tmps[3]?.getD undef = .int .i64 now) (h4 : a.tmps[4]?.getD undef = .int .i64 x)
    (hN : ∀ j, j ∈ usDI.getD 7 [] → FDI w0 ok g es sid seq now x gb c i j (slotO dstDI a j) w) (hI : useIDI 7 = true → IDI w0 ok g es sid seq now x gb c i w) : wpOp Try.prog ops Q 7 (fun a' w' => ∃ v, a' = a.put (dstDI 7) v ∧ FDI w0 ok g es sid seq now x gb c i 7 (valO dstDI 7 v) w' ∧ (Below w.heap.size w w' ∨ ((∀ j u, j < 14 → j ≠ 7 → killDI 7 j = false → (ncDI.getD j []).contains 7 = false → FDI w0 ok g es sid seq now x gb c i j u w → FDI w0 ok g es sid seq now x gb c i j u w') ∧ (killIDI 7 = false → IDI w0 ok g es sid seq now x gb c i w → IDI w0 ok g es sid seq now x gb c i w')))) a w := by
  subst hops
  have ho : (opsOf Try.f10 4)[7]? = some ({ dst := some 35, op := Go.Op.move (Go.Operand.tmp 1), type := 3, pos := "session.go:57", after := #[], guard := none } : Oper) := by kernel_rfl
  refine wpOp_plain ho rfl ?_
  clear hN hI ho
  go_simp
  first | exact ⟨_, rfl, rfl⟩ | exact ⟨_, rfl, rfl, .inl (Below.refl _ _)⟩
set_option maxRecDepth 100000 in
theorem sDI_8 {ops : Array Oper} {Q : Exit → Act → World → Prop} (hops : ops = opsOf Try.f10 4) (w0 : World) (ok : Nat → Prop) (g : Nat) (es : List S45) (sid seq now : Int) (x : Int) (gb c : Nat) (i : Int) (a : Act) (w : World) (h0 : a.tmps[0]?.getD undef = .pointer (some ⟨g, 0, none⟩)) (h1 : a.tmps[1]?.getD undef = .int .i64 sid) (h2 : a.tmps[2]?.getD undef = .int .i64 seq) (h3 : a.tmps[3]?.getD undef = .int .i64 now) (h4 : a.tmps[4]?.getD undef = .int .i64 x)
    (hN : ∀ j, j ∈ usDI.getD 8 [] → FDI w0 ok g es sid seq now x gb c i j (slotO dstDI a j) w) (hI : useIDI 8 = true → IDI w0 ok g es sid seq now x gb c i w) : wpOp Try.prog ops Q 8 (fun a' w' => ∃ v, a' = a.put (dstDI 8) v ∧ FDI w0 ok g es sid seq now x gb c i 8 (valO dstDI 8 v) w' ∧ (Below w.heap.size w w' ∨ ((∀ j u, j < 14 → j ≠ 8 → killDI 8 j = false → (ncDI.getD j []).contains 8 = false → FDI w0 ok g es sid seq now x gb c i j u w → FDI w0 ok g es sid seq now x gb c i j u w') ∧ (killIDI 8 = false → IDI w0 ok g es sid seq now x gb c i w → IDI w0 ok g es sid seq now x gb c i w')))) a w := by
  subst hops
  have ho : (opsOf Try.f10 4)[8]? = some ({ dst := some 36, op := Go.Op.move (Go.Operand.tmp 2), type := 3, pos := "session.go:57", after := #[], guard := none } : Oper) := by kernel_rfl
  refine wpOp_plain ho rfl ?_
  clear hN hI ho
  go_simp
  first | exact ⟨_, rfl, rfl⟩ | exact ⟨_, rfl, rfl, .inl (Below.refl _ _)⟩
set_option maxRecDepth 100000 in
theorem sDI_9 {ops : Array Oper} {Q : Exit → Act → World → Prop} (hops : ops = opsOf Try.f10 4) (w0 : World) (ok : Nat → Prop) (g : Nat) (es : List S45) (sid seq now : Int) (x : Int) (gb c : Nat) (i : Int) (a : Act) (w : World) (h0 : a.tmps[0]?.getD undef = .pointer (some ⟨g, 0, none⟩)) (h1 : a.tmps[1]?.getD undef = .int .i64 sid) (h2 : a.tmps[2]?.getD undef = .int .i64 seq) (h3 : a.tmps[3]?.getD undef = .int .i64 now) (h4 : a.tmps[4]?.getD undef = .int .i64 x)
    (hN : ∀ j, j ∈ usDI.getD 9 [] → FDI w0 ok g es sid seq now x gb c i j (slotO dstDI a j) w) (hI : useIDI 9 = true → IDI w0 ok g es sid seq now x gb c i w) : wpOp Try.prog ops Q 9 (fun a' w' => ∃ v, a' = a.put (dstDI 9) v ∧ FDI w0 ok g es sid seq now x gb c i 9 (valO dstDI 9 v) w' ∧ (Below w.heap.size w w' ∨ ((∀ j u, j < 14 → j ≠ 9 → killDI 9 j = false → (ncDI.getD j []).contains 9 = false → FDI w0 ok g es sid seq now x gb c i j u w → FDI w0 ok g es sid seq now x gb c i j u w') ∧ (killIDI 9 = false → IDI w0 ok g es sid seq now x gb c i w → IDI w0 ok g es sid seq now x gb c i w')))) a w := by
  subst hops
  have ho : (opsOf Try.f10 4)[9]? = some ({ dst := some 37, op := Go.Op.move (Go.Operand.tmp 3), type := 3, pos := "session.go:57", after := #[], guard := none } : Oper) := by kernel_rfl
  refine wpOp_plain ho rfl ?_
  clear hN hI ho
  go_simp
  first | exact ⟨_, rfl, rfl⟩ | exact ⟨_, rfl, rfl, .inl (Below.refl _ _)⟩
set_option maxRecDepth 100000 in
theorem sDI_10 {ops : Array Oper} {Q : Exit → Act → World → Prop} (hops : ops = opsOf Try.f10 4) (w0 : World) (ok : Nat → Prop) (g : Nat) (es : List S45) (sid seq now : Int) (x : Int) (gb c : Nat) (i : Int) (a : Act) (w : World) (h0 : a.tmps[0]?.getD undef = .pointer (some ⟨g, 0, none⟩)) (h1 : a.tmps[1]?.getD undef = .int .i64 sid) (h2 : a.tmps[2]?.getD undef = .int .i64 seq) (h3 : a.tmps[3]?.getD undef = .int .i64 now) (h4 : a.tmps[4]?.getD undef = .int .i64 x)
    (hN : ∀ j, j ∈ usDI.getD 10 [] → FDI w0 ok g es sid seq now x gb c i j (slotO dstDI a j) w) (hI : useIDI 10 = true → IDI w0 ok g es sid seq now x gb c i w) : wpOp Try.prog ops Q 10 (fun a' w' => ∃ v, a' = a.put (dstDI 10) v ∧ FDI w0 ok g es sid seq now x gb c i 10 (valO dstDI 10 v) w' ∧ (Below w.heap.size w w' ∨ ((∀ j u, j < 14 → j ≠ 10 → killDI 10 j = false → (ncDI.getD j []).contains 10 = false → FDI w0 ok g es sid seq now x gb c i j u w → FDI w0 ok g es sid seq now x gb c i j u w') ∧ (killIDI 10 = false → IDI w0 ok g es sid seq now x gb c i w → IDI w0 ok g es sid seq now x gb c i w')))) a w := by
  subst hops
  have ho : (opsOf Try.f10 4)[10]? = some ({ dst := some 38, op := Go.Op.move (Go.Operand.tmp 4), type := 3, pos := "session.go:57", after := #[], guard := none } : Oper) := by kernel_rfl
  refine wpOp_plain ho rfl ?_
  clear hN hI ho
  go_simp
  first | exact ⟨_, rfl, rfl⟩ | exact ⟨_, rfl, rfl, .inl (Below.refl _ _)⟩
set_option maxRecDepth 100000 in
theorem sDI_11 {ops : Array Oper} {Q : Exit → Act → World → Prop} (hops : ops = opsOf Try.f10 4) (w0 : World) (ok : Nat → Prop) (g : Nat) (es : List S45) (sid seq now : Int) (x : Int) (gb c : Nat) (i : Int) (a : Act) (w : World) (h0 : a.tmps[0]?.getD undef = .pointer (some ⟨g, 0, none⟩)) (h1 : a.tmps[1]?.getD undef = .int .i64 sid) (h2 : a.tmps[2]?.getD undef = .int .i64 seq) (h3 : a.tmps[3]?.getD undef = .int .i64 now) (h4 : a.tmps[4]?.getD undef = .int .i64 x)
    (hN : ∀ j, j ∈ usDI.getD 11 [] → FDI w0 ok g es sid seq now x gb c i j (slotO dstDI a j) w) (hI : useIDI 11 = true → IDI w0 ok g es sid seq now x gb c i w) : wpOp Try.prog ops Q 11 (fun a' w' => ∃ v, a' = a.put (dstDI 11) v ∧ FDI w0 ok g es sid seq now x gb c i 11 (valO dstDI 11 v) w' ∧ (Below w.heap.size w w' ∨ ((∀ j u, j < 14 → j ≠ 11 → killDI 11 j = false → (ncDI.getD j []).contains 11 = false → FDI w0 ok g es sid seq now x gb c i j u w → FDI w0 ok g es sid seq now x gb c i j u w') ∧ (killIDI 11 = false → IDI w0 ok g es sid seq now x gb c i w → IDI w0 ok g es sid seq now x gb c i w')))) a w := by
  subst hops
  have n7 : a.tmps[35]?.getD undef = .int .i64 sid := hN 7 (by decide)
  have n8 : a.tmps[36]?.getD undef = .int .i64 seq := hN 8 (by decide)
  have n9 : a.tmps[37]?.getD undef = .int .i64 now := hN 9 (by decide)
  have n10 : a.tmps[38]?.getD undef = .int .i64 x := hN 10 (by decide)
  have ho : (opsOf Try.f10 4)[11]? = some ({ dst := some 39, op := Go.Op.build 45 #[(0, Go.Operand.tmp 35), (1, Go.Operand.tmp 36), (2, Go.Operand.tmp 37), (3, Go.Operand.tmp 38)], type := 45, pos := "session.go:57", after := #[{ on := 7, ground := Go.Ground.data }, { on := 8, ground := Go.Ground.data }, { on := 9, ground := Go.Ground.data }, { on := 10, ground := Go.Ground.data }], guard := none } : Oper) := by kernel_rfl
  refine wpOp_plain ho rfl ?_
  clear hN hI ho
  go_simp
  first | exact ⟨_, rfl, rfl⟩ | exact ⟨_, rfl, rfl, .inl (Below.refl _ _)⟩
set_option maxRecDepth 100000 in
theorem sDI_12 {ops : Array Oper} {Q : Exit → Act → World → Prop} (hops : ops = opsOf Try.f10 4) (w0 : World) (ok : Nat → Prop) (g : Nat) (es : List S45) (sid seq now : Int) (x : Int) (gb c : Nat) (i : Int) (a : Act) (w : World) (h0 : a.tmps[0]?.getD undef = .pointer (some ⟨g, 0, none⟩)) (h1 : a.tmps[1]?.getD undef = .int .i64 sid) (h2 : a.tmps[2]?.getD undef = .int .i64 seq) (h3 : a.tmps[3]?.getD undef = .int .i64 now) (h4 : a.tmps[4]?.getD undef = .int .i64 x)
    (hN : ∀ j, j ∈ usDI.getD 12 [] → FDI w0 ok g es sid seq now x gb c i j (slotO dstDI a j) w) (hI : useIDI 12 = true → IDI w0 ok g es sid seq now x gb c i w) : wpOp Try.prog ops Q 12 (fun a' w' => ∃ v, a' = a.put (dstDI 12) v ∧ FDI w0 ok g es sid seq now x gb c i 12 (valO dstDI 12 v) w' ∧ (Below w.heap.size w w' ∨ ((∀ j u, j < 14 → j ≠ 12 → killDI 12 j = false → (ncDI.getD j []).contains 12 = false → FDI w0 ok g es sid seq now x gb c i j u w → FDI w0 ok g es sid seq now x gb c i j u w') ∧ (killIDI 12 = false → IDI w0 ok g es sid seq now x gb c i w → IDI w0 ok g es sid seq now x gb c i w')))) a w := by
  subst hops
  have n3 : a.tmps[31]?.getD undef = (Value.slice (some ⟨gb, 0, none⟩) es.length c) := hN 3 (by decide)
  have n6 : a.tmps[34]?.getD undef = .int .i64 i := hN 6 (by decide)
  have hi : IDI w0 ok g es sid seq now x gb c i w := hI (by decide)
  have ho : (opsOf Try.f10 4)[12]? = some ({ dst := some 40, op := Go.Op.indexAddr 24 (Go.Operand.tmp 31) (Go.Operand.tmp 34), type := 0, pos := "session.go:57", after := #[{ on := 3, ground := Go.Ground.data }, { on := 6, ground := Go.Ground.data }, { on := 0, ground := Go.Ground.phase }, { on := 1, ground := Go.Ground.phase }, { on := 2, ground := Go.Ground.phase }, { on := 3, ground := Go.Ground.phase }, { on := 4, ground := Go.Ground.phase }, { on := 5, ground := Go.Ground.phase }, { on := 6, ground := Go.Ground.phase }, { on := 7, ground := Go.Ground.phase }, { on := 8, ground := Go.Ground.phase }, { on := 9, ground := Go.Ground.phase }, { on := 10, ground := Go.Ground.phase }, { on := 11, ground := Go.Ground.phase }], guard := none } : Oper) := by kernel_rfl
  refine wpOp_plain ho rfl ?_
  clear hN hI ho
  obtain ⟨⟨q0, q1, -⟩, -⟩ := hi
  have q2 : i < (es.length : Int) := q1
  go_simp
  first | exact ⟨_, rfl, rfl⟩ | exact ⟨_, rfl, rfl, .inl (Below.refl _ _)⟩
set_option maxRecDepth 100000 in
theorem sDI_13 {ops : Array Oper} {Q : Exit → Act → World → Prop} (hops : ops = opsOf Try.f10 4) (w0 : World) (ok : Nat → Prop) (g : Nat) (es : List S45) (sid seq now : Int) (x : Int) (gb c : Nat) (i : Int) (a : Act) (w : World) (h0 : a.tmps[0]?.getD undef = .pointer (some ⟨g, 0, none⟩)) (h1 : a.tmps[1]?.getD undef = .int .i64 sid) (h2 : a.tmps[2]?.getD undef = .int .i64 seq) (h3 : a.tmps[3]?.getD undef = .int .i64 now) (h4 : a.tmps[4]?.getD undef = .int .i64 x)
    (hN : ∀ j, j ∈ usDI.getD 13 [] → FDI w0 ok g es sid seq now x gb c i j (slotO dstDI a j) w) (hI : useIDI 13 = true → IDI w0 ok g es sid seq now x gb c i w) : wpOp Try.prog ops Q 13 (fun a' w' => ∃ v, a' = a.put (dstDI 13) v ∧ FDI w0 ok g es sid seq now x gb c i 13 (valO dstDI 13 v) w' ∧ (Below w.heap.size w w' ∨ ((∀ j u, j < 14 → j ≠ 13 → killDI 13 j = false → (ncDI.getD j []).contains 13 = false → FDI w0 ok g es sid seq now x gb c i j u w → FDI w0 ok g es sid seq now x gb c i j u w') ∧ (killIDI 13 = false → IDI w0 ok g es sid seq now x gb c i w → IDI w0 ok g es sid seq now x gb c i w')))) a w := by
  subst hops
  have n11 : a.tmps[39]?.getD undef = .agg #[.int .i64 sid, .int .i64 seq, .int .i64 now, .int .i64 x] := hN 11 (by decide)
  have n12 : a.tmps[40]?.getD undef = .pointer (some ⟨gb, i.toNat * 4, none⟩) := hN 12 (by decide)
  have hi : IDI w0 ok g es sid seq now x gb c i w := hI (by decide)
  have ho : (opsOf Try.f10 4)[13]? = some ({ dst := none, op := Go.Op.store 45 (Go.Operand.tmp 40) (Go.Operand.tmp 39), type := 0, pos := "session.go:57", after := #[{ on := 12, ground := Go.Ground.data }, { on := 11, ground := Go.Ground.data }, { on := 6, ground := Go.Ground.chain }, { on := 0, ground := Go.Ground.phase }, { on := 1, ground := Go.Ground.phase }, { on := 2, ground := Go.Ground.phase }, { on := 3, ground := Go.Ground.phase }, { on := 4, ground := Go.Ground.phase }, { on := 5, ground := Go.Ground.phase }, { on := 6, ground := Go.Ground.phase }, { on := 7, ground := Go.Ground.phase }, { on := 8, ground := Go.Ground.phase }, { on := 9, ground := Go.Ground.phase }, { on := 10, ground := Go.Ground.phase }, { on := 11, ground := Go.Ground.phase }], guard := none } : Oper) := by kernel_rfl
  refine wpOp_plain ho rfl ?_
  clear hN hI ho
  obtain ⟨⟨q0, q1, q2, q3⟩, hg, hh, hR, hK, hB⟩ := hi
  have n12' : a.tmps[40]?.getD undef = .pointer (some ⟨gb, i.toNat * 4, none⟩) := n12
  have hgb : ok gb ∧ gb ≠ g := hR.1 gb rfl
  refine R_store_step k45 0 rfl 45 (.tmp 40) (.tmp 39) rfl 45 (g := gb) (n := es.length) (cap := c) (o' := i.toNat * 4) i es ⟨sid, seq, now, x⟩ (.agg #[.int .i64 sid, .int .i64 seq, .int .i64 now, .int .i64 x]) [.int .i64 sid, .int .i64 seq, .int .i64 now, .int .i64 x] (fun k => ok k ∧ k ≠ g) (fun _ => False)
    (by simp only [Act.eval, Array.getD_eq_getD_getElem?]; exact n12') rfl (by simp only [Act.eval, Array.getD_eq_getD_getElem?]; exact n11) rfl (by rfl) (by intro q hq; simp at hq; rcases hq with rfl | rfl | rfl | rfl <;> rfl) hR q0 q1 rfl z45 (k45_mkM w 0 _ ⟨sid, seq, now, x⟩) (fun _ h => h.elim) ?_
  intro w1 hR1 hgr
  refine ⟨undef, rfl, ⟨⟨hg, _, (hgr.block g (Array.getElem?_eq_some_iff.1 hh).1 (fun he => hgb.2 (by injection he with he; exact he.symm))).trans hh, ?_⟩, Kept.of_grown hgr hK (fun k hk => by injection hk with hk; subst hk; exact .inl hgb.1), hB.trans ⟨hgr.os, hgr.tape, hgr.output, hgr.size, fun _ h => absurd h (Nat.not_lt_zero _)⟩⟩, .inr ⟨?_, ?_⟩⟩
  · have h := hR1
    rw [show es.length = (es.set i.toNat (⟨sid, seq, now, x⟩ : S45)).length by simp] at h
    simpa using h
  · intro j u hj hne hk hcc hF
    have hj' : j = 0 ∨ j = 1 ∨ j = 2 ∨ j = 3 ∨ j = 4 ∨ j = 5 ∨ j = 6 ∨ j = 7 ∨ j = 8 ∨ j = 9 ∨ j = 10 ∨ j = 11 ∨ j = 12 ∨ j = 13 := by omega
    rcases hj' with rfl | rfl | rfl | rfl | rfl | rfl | rfl | rfl | rfl | rfl | rfl | rfl | rfl | rfl <;> first | exact hF | (exact absurd hk (by decide)) | (exact absurd rfl hne) | (exact absurd hcc (by decide))
  · intro hk
    exact absurd hk (by decide)
theorem monoDI (w0 : World) (ok : Nat → Prop) (g : Nat) (es : List S45) (sid seq now : Int) (x : Int) (gb c : Nat) (i : Int) (j : Nat) (v : Value) (w w' : World) (h : FDI w0 ok g es sid seq now x gb c i j v w) (hb : Below w.heap.size w w') : FDI w0 ok g es sid seq now x gb c i j v w' := by
  unfold FDI at h ⊢
  split <;> first
    | exact True.intro
    | exact h
    | exact ⟨h.1.below hb, Kept.below h.2.1 hb, h.2.2.trans (hb.mono (Nat.zero_le _))⟩
theorem monoIDI (w0 : World) (ok : Nat → Prop) (g : Nat) (es : List S45) (sid seq now : Int) (x : Int) (gb c : Nat) (i : Int) (w w' : World) (h : IDI w0 ok g es sid seq now x gb c i w) (hb : Below w.heap.size w w') : IDI w0 ok g es sid seq now x gb c i w' := by
  obtain ⟨hn, hg, hh, hR, hK, hB⟩ := h
  exact ⟨hn, hg, (hb.block g (Array.getElem?_eq_some_iff.1 hh).1).trans hh, Kd.R_below hR hb, Kept.below hK hb, hB.trans (hb.mono (Nat.zero_le _))⟩
theorem hinDI : ∀ i, i < 14 → ∀ d, dstDI i = some d → d < 41 := by
  have h2 : ∀ i, i < 14 → (dstDI i).all (fun d => decide (d < 41)) = true := by decide
  intro i hi d hd
  have := h2 i hi
  rw [hd] at this
  simpa using this
set_option maxRecDepth 100000 in
theorem regionDI {ops : Array Oper} {Q : Exit → Act → World → Prop} (hops : ops = opsOf Try.f10 4) {id : Nat} (w0 : World) (ok : Nat → Prop) (g : Nat) (es : List S45) (sid seq now : Int) (x : Int) (gb c : Nat) (i : Int) (a0 : Act) (w0_ : World) (hI0 : IDI w0 ok g es sid seq now x gb c i w0_) (hsz : a0.tmps.size = 41) (h0 : a0.tmps[0]?.getD undef = .pointer (some ⟨g, 0, none⟩)) (h1 : a0.tmps[1]?.getD undef = .int .i64 sid) (h2 : a0.tmps[2]?.getD undef = .int .i64 seq) (h3 : a0.tmps[3]?.getD undef = .int .i64 now) (h4 : a0.tmps[4]?.getD undef = .int .i64 x)
    (hQ : ∀ a w, AgreeO 14 dstDI a0 a → FDI w0 ok g es sid seq now x gb c i 13 (slotO dstDI a 13) w → Q .normal a w) : (Code.region id ops true).wp Try.prog Q a0 w0_ := by
  refine region_heldA (n := 14) dstDI (FDI w0 ok g es sid seq now x gb c i) (IDI w0 ok g es sid seq now x gb c i) ndDI ncDI usDI killDI killIDI useIDI (by kernel_rfl) (by rw [hops]; kernel_rfl) (by decide) ?_ (fun j v w w' _ h hb => monoDI w0 ok g es sid seq now x gb c i j v w w' h hb) (fun w w' h hb => monoIDI w0 ok g es sid seq now x gb c i w w' h hb) hI0 (by rw [hops]; kernel_rfl) (by decide) (by decide) (by decide) (by decide) (by decide) ?_ (fun a w hA hF hI => hQ a w hA (hF 13 (by decide) (by decide)))
  · intro i hi d hd
    rw [hsz]; exact hinDI i hi d hd
  · intro i a w hi hA hN hI
    have h0 := (hA.old 0 (by decide)).trans h0
    have h1 := (hA.old 1 (by decide)).trans h1
    have h2 := (hA.old 2 (by decide)).trans h2
    have h3 := (hA.old 3 (by decide)).trans h3
    have h4 := (hA.old 4 (by decide)).trans h4
    have hi' : i = 0 ∨ i = 1 ∨ i = 2 ∨ i = 3 ∨ i = 4 ∨ i = 5 ∨ i = 6 ∨ i = 7 ∨ i = 8 ∨ i = 9 ∨ i = 10 ∨ i = 11 ∨ i = 12 ∨ i = 13 := by omega
    rcases hi' with rfl | rfl | rfl | rfl | rfl | rfl | rfl | rfl | rfl | rfl | rfl | rfl | rfl | rfl
    · exact sDI_0 hops w0 ok g es sid seq now x gb c i a w h0 h1 h2 h3 h4 hN hI
    · exact sDI_1 hops w0 ok g es sid seq now x gb c i a w h0 h1 h2 h3 h4 hN hI
    · exact sDI_2 hops w0 ok g es sid seq now x gb c i a w h0 h1 h2 h3 h4 hN hI
    · exact sDI_3 hops w0 ok g es sid seq now x gb c i a w h0 h1 h2 h3 h4 hN hI
    · exact sDI_4 hops w0 ok g es sid seq now x gb c i a w h0 h1 h2 h3 h4 hN hI
    · exact sDI_5 hops w0 ok g es sid seq now x gb c i a w h0 h1 h2 h3 h4 hN hI
    · exact sDI_6 hops w0 ok g es sid seq now x gb c i a w h0 h1 h2 h3 h4 hN hI
    · exact sDI_7 hops w0 ok g es sid seq now x gb c i a w h0 h1 h2 h3 h4 hN hI
    · exact sDI_8 hops w0 ok g es sid seq now x gb c i a w h0 h1 h2 h3 h4 hN hI
    · exact sDI_9 hops w0 ok g es sid seq now x gb c i a w h0 h1 h2 h3 h4 hN hI
    · exact sDI_10 hops w0 ok g es sid seq now x gb c i a w h0 h1 h2 h3 h4 hN hI
    · exact sDI_11 hops w0 ok g es sid seq now x gb c i a w h0 h1 h2 h3 h4 hN hI
    · exact sDI_12 hops w0 ok g es sid seq now x gb c i a w h0 h1 h2 h3 h4 hN hI
    · exact sDI_13 hops w0 ok g es sid seq now x gb c i a w h0 h1 h2 h3 h4 hN hI

/-- What Done answers, and leaves. -/
def doneI (es : List S45) (id seq now : Int) (x : Int) : Bool × List S45 :=
  if (askI es id seq).1 = 1 ∧ es.any (fun r => decide (r.f2 > now)) = false then (true, es.set (idxI (fun r => decide (r.f0 = id)) es).toNat ⟨id, seq, now, x⟩) else (false, es)
theorem ask_freshI (es : List S45) (id seq : Int) (h : (askI es id seq).1 = 1) : 0 ≤ idxI (fun r => decide (r.f0 = id)) es := by
  unfold askI at h
  by_cases h0 : idxI (fun r => decide (r.f0 = id)) es < 0
  · simp only [h0, if_true] at h; exact absurd h (by decide)
  · omega
theorem done_callsI {w : World} {ok : Nat → Prop} {g : Nat} {es : List S45} (h : TblI w ok g es) (id seq now : Int) (x : Int) :
    Calls Try.prog 10 #[.pointer (some ⟨g, 0, none⟩), .int .i64 id, .int .i64 seq, .int .i64 now, .int .i64 x] w fun e w' => e = .returned (.bool (doneI es id seq now x).1) ∧ TblI w' (fun k => ok k ∨ w.heap.size ≤ k) g (doneI es id seq now x).2 ∧ Kept w w' ok ∧ Below 0 w w' := by
  have HT := Aside0.mk h
  have HA := Aside0.mk (ask_callsI h id seq)
  have hfr := ask_freshI es id seq
  unfold doneI
  generalize hq : askI es id seq = q at *
  obtain ⟨v, y⟩ := q
  simp only [] at *
  clear h hq
  by_cases hv : v = 1
  · subst hv
    have HF := Aside0.mk (hfr rfl)
    clear hfr
    generalize hl : (es.any fun r => decide (r.f2 > now)) = l
    cases l with
    | true =>
      rw [if_neg (by simp)]
      go_enter Try.func10, Try.ntmps10
      go_wp2_with fail
      refine HA.out.mono ?_
      rintro _ w1 ⟨rfl, hb⟩
      have hL := late_callsI (HT.out.below hb) now
      rw [hl] at hL
      have HL := Aside0.mk hL
      have HB := Aside0.mk hb
      clear hL hb hl
      go_wp2_with fail
      refine HL.out.mono ?_
      rintro _ w2 ⟨rfl, hb⟩
      have HB2 := Aside0.mk (HB.out.trans (hb.mono HB.out.size))
      clear hb
      go_wp2_with fail
      go_ret
      exact ⟨rfl, (HT.out.below HB2.out).mono (fun k hk => .inl hk), Kept.below (Kept.refl _ _) HB2.out, HB2.out.mono (Nat.zero_le _)⟩
    | false =>
      rw [if_pos ⟨rfl, rfl⟩]
      have hlt := idx_ltI (fun r => decide (r.f0 = id)) es HF.out
      generalize hi : idxI (fun r => decide (r.f0 = id)) es = i at *
      have HI := Aside0.mk (And.intro HF.out (And.intro hlt.1 hi))
      clear hlt HF hi
      go_enter Try.func10, Try.ntmps10
      go_wp2_with fail
      refine HA.out.mono ?_
      rintro _ w1 ⟨rfl, hb⟩
      have hL := late_callsI (HT.out.below hb) now
      rw [hl] at hL
      have HL := Aside0.mk hL
      have HB := Aside0.mk hb
      clear hL hb hl
      go_wp2_with fail
      refine HL.out.mono ?_
      rintro _ w2 ⟨rfl, hb⟩
      have HB2 := Aside0.mk (HB.out.trans (hb.mono HB.out.size))
      have h2 := (HT.out.below HB2.out)
      obtain ⟨hg, v, hh, hR⟩ := h2
      obtain ⟨gb, c, rfl, -⟩ := Kd.R_form hR (by have := HI.out; omega)
      have hI : IDI w2 ok g es id seq now x gb c i w2 := ⟨⟨HI.out.1, HI.out.2.1, HI.out.2.2, (Array.getElem?_eq_some_iff.1 hh).1⟩, hg, hh, hR, Kept.refl _ _, Below.refl _ _⟩
      have HID := Aside0.mk hI
      clear hb hg hh hR hI HL HB HI HA
      go_wp2_with fail
      refine regionDI (by kernel_rfl) w2 ok g es id seq now x gb c i _ w2 HID.out rfl rfl rfl rfl rfl rfl ?_
      intro a2 w3 hA ⟨hT, hK, hB⟩
      have HT3 := Aside0.mk (hT.mono (ok' := fun k => ok k ∨ w.heap.size ≤ k) (fun k hk => .inl hk))
      have HK := Aside0.mk (show Kept w w3 ok from ⟨Nat.le_trans HB2.out.size hK.1, fun k hk hn => (hK.2 k (Nat.lt_of_lt_of_le hk HB2.out.size) hn).trans (HB2.out.block k hk)⟩)
      have HB3 := Aside0.mk ((HB2.out.mono (Nat.zero_le _)).trans hB)
      clear hT hK hB HID
      rw [hA.frame hinDI]
      clear hA
      simp only [List.range_succ, List.range_zero, List.nil_append, List.cons_append, foldO, dstDI, List.getD_cons_zero, List.getD_cons_succ, Act.put]
      generalize slotO dstDI a2 0 = y0
      generalize slotO dstDI a2 1 = y1
      generalize slotO dstDI a2 2 = y2
      generalize slotO dstDI a2 3 = y3
      generalize slotO dstDI a2 4 = y4
      generalize slotO dstDI a2 5 = y5
      generalize slotO dstDI a2 6 = y6
      generalize slotO dstDI a2 7 = y7
      generalize slotO dstDI a2 8 = y8
      generalize slotO dstDI a2 9 = y9
      generalize slotO dstDI a2 10 = y10
      generalize slotO dstDI a2 11 = y11
      generalize slotO dstDI a2 12 = y12
      clear a2
      go_wp2_with fail
      go_ret
      exact ⟨rfl, HT3.out, HK.out, HB3.out⟩
  · rw [if_neg (fun h => hv h.1)]
    have d1 : (v != 1) = true := by simpa using hv
    have d2 : (v == 1) = false := by simpa using hv
    clear hfr hv
    go_enter Try.func10, Try.ntmps10
    go_wp2_with fail
    refine HA.out.mono ?_
    rintro _ w1 ⟨rfl, hb⟩
    have HB := Aside0.mk hb
    clear hb
    go_wp2_with fail
    go_ret
    exact ⟨rfl, (HT.out.below HB.out).mono (fun k hk => .inl hk), Kept.below (Kept.refl _ _) HB.out, HB.out.mono (Nat.zero_le _)⟩
def dstDS (i : Nat) : Option Nat := ([some 28, some 29, some 30, some 31, some 32, some 33, some 34, some 35, some 36, some 37, some 38, some 39, some 40, none] : List (Option Nat)).getD i none
def ndDS : List (List Nat) := [[], [0], [1], [2], [], [], [4, 5], [], [], [], [], [7, 8, 9, 10], [3, 6, 0, 1, 2, 3, 4, 5, 6, 7, 8, 9, 10, 11], [12, 11, 6, 0, 1, 2, 3, 4, 5, 6, 7, 8, 9, 10, 11]]
def usDS : List (List Nat) := [[], [0], [1], [2], [], [], [4, 5], [], [], [], [], [7, 8, 9, 10], [3, 6], [11, 12]]
def ncDS : List (List Nat) := [[], [0], [0, 1], [0, 1, 2], [], [], [4, 5], [], [], [], [], [7, 8, 9, 10], [0, 1, 2, 3, 4, 5, 6, 7, 8, 9, 10, 11], [0, 1, 2, 3, 4, 5, 6, 7, 8, 9, 10, 11, 12]]
def killDS (h j : Nat) : Bool := (false)
def killIDS (h : Nat) : Bool := [13].contains h
def useIDS (h : Nat) : Bool := [3, 6, 12, 13].contains h
def IDS (w0 : World) (ok : Nat → Prop) (g : Nat) (es : List S55) (sid seq now : Int) (x : ByteArray) (gb c : Nat) (i : Int) (w : World) : Prop := (0 ≤ i ∧ i < es.length ∧ idxS (fun r => decide (r.f0 = sid)) es = i ∧ g < w0.heap.size) ∧ ok g ∧ w.heap[g]? = some (.cells #[(Value.slice (some ⟨gb, 0, none⟩) es.length c)] 36 (0, 0)) ∧ Kd.R k55 55 w 0 (fun k => ok k ∧ k ≠ g) (Value.slice (some ⟨gb, 0, none⟩) es.length c) es ∧ Kept w0 w ok ∧ Below 0 w0 w
def FDS (w0 : World) (ok : Nat → Prop) (g : Nat) (es : List S55) (sid seq now : Int) (x : ByteArray) (gb c : Nat) (i : Int) : Nat → Value → World → Prop
  | 0, v, w => v = .pointer (some ⟨g, 0, none⟩)
  | 1, v, w => v = .pointer (some ⟨g, 0, none⟩)
  | 2, v, w => v = .pointer (some ⟨g, 0, none⟩)
  | 3, v, w => v = (Value.slice (some ⟨gb, 0, none⟩) es.length c)
  | 4, v, w => v = .pointer (some ⟨g, 0, none⟩)
  | 5, v, w => v = .int .i64 sid
  | 6, v, w => v = .int .i64 i
  | 7, v, w => v = .int .i64 sid
  | 8, v, w => v = .int .i64 seq
  | 9, v, w => v = .int .i64 now
  | 10, v, w => v = .string x
  | 11, v, w => v = .agg #[.int .i64 sid, .int .i64 seq, .int .i64 now, .string x]
  | 12, v, w => v = .pointer (some ⟨gb, i.toNat * 4, none⟩)
  | 13, v, w => TblS w ok g (es.set i.toNat ⟨sid, seq, now, x⟩) ∧ Kept w0 w ok ∧ Below 0 w0 w
  | _, _, _ => True
set_option maxRecDepth 100000 in
theorem sDS_0 {ops : Array Oper} {Q : Exit → Act → World → Prop} (hops : ops = opsOf Try.f12 4) (w0 : World) (ok : Nat → Prop) (g : Nat) (es : List S55) (sid seq now : Int) (x : ByteArray) (gb c : Nat) (i : Int) (a : Act) (w : World) (h0 : a.tmps[0]?.getD undef = .pointer (some ⟨g, 0, none⟩)) (h1 : a.tmps[1]?.getD undef = .int .i64 sid) (h2 : a.tmps[2]?.getD undef = .int .i64 seq) (h3 : a.tmps[3]?.getD undef = .int .i64 now) (h4 : a.tmps[4]?.getD undef = .string x)
    (hN : ∀ j, j ∈ usDS.getD 0 [] → FDS w0 ok g es sid seq now x gb c i j (slotO dstDS a j) w) (hI : useIDS 0 = true → IDS w0 ok g es sid seq now x gb c i w) : wpOp Try.prog ops Q 0 (fun a' w' => ∃ v, a' = a.put (dstDS 0) v ∧ FDS w0 ok g es sid seq now x gb c i 0 (valO dstDS 0 v) w' ∧ (Below w.heap.size w w' ∨ ((∀ j u, j < 14 → j ≠ 0 → killDS 0 j = false → (ncDS.getD j []).contains 0 = false → FDS w0 ok g es sid seq now x gb c i j u w → FDS w0 ok g es sid seq now x gb c i j u w') ∧ (killIDS 0 = false → IDS w0 ok g es sid seq now x gb c i w → IDS w0 ok g es sid seq now x gb c i w')))) a w := by
  subst hops
  have ho : (opsOf Try.f12 4)[0]? = some ({ dst := some 28, op := Go.Op.move (Go.Operand.tmp 0), type := 69, pos := "session.go:57", after := #[], guard := none } : Oper) := by kernel_rfl
  refine wpOp_plain ho rfl ?_
  clear hN hI ho
  go_simp
  first | exact ⟨_, rfl, rfl⟩ | exact ⟨_, rfl, rfl, .inl (Below.refl _ _)⟩
set_option maxRecDepth 100000 in
theorem sDS_1 {ops : Array Oper} {Q : Exit → Act → World → Prop} (hops : ops = opsOf Try.f12 4) (w0 : World) (ok : Nat → Prop) (g : Nat) (es : List S55) (sid seq now : Int) (x : ByteArray) (gb c : Nat) (i : Int) (a : Act) (w : World) (h0 : a.tmps[0]?.getD undef = .pointer (some ⟨g, 0, none⟩)) (h1 : a.tmps[1]?.getD undef = .int .i64 sid) (h2 : a.tmps[2]?.getD undef = .int .i64 seq) (h3 : a.tmps[3]?.getD undef = .int .i64 now) (h4 : a.tmps[4]?.getD undef = .string x)
    (hN : ∀ j, j ∈ usDS.getD 1 [] → FDS w0 ok g es sid seq now x gb c i j (slotO dstDS a j) w) (hI : useIDS 1 = true → IDS w0 ok g es sid seq now x gb c i w) : wpOp Try.prog ops Q 1 (fun a' w' => ∃ v, a' = a.put (dstDS 1) v ∧ FDS w0 ok g es sid seq now x gb c i 1 (valO dstDS 1 v) w' ∧ (Below w.heap.size w w' ∨ ((∀ j u, j < 14 → j ≠ 1 → killDS 1 j = false → (ncDS.getD j []).contains 1 = false → FDS w0 ok g es sid seq now x gb c i j u w → FDS w0 ok g es sid seq now x gb c i j u w') ∧ (killIDS 1 = false → IDS w0 ok g es sid seq now x gb c i w → IDS w0 ok g es sid seq now x gb c i w')))) a w := by
  subst hops
  have n0 : a.tmps[28]?.getD undef = .pointer (some ⟨g, 0, none⟩) := hN 0 (by decide)
  have ho : (opsOf Try.f12 4)[1]? = some ({ dst := some 29, op := Go.Op.nilCheck (Go.Operand.tmp 28), type := 0, pos := "session.go:57", after := #[{ on := 0, ground := Go.Ground.data }], guard := none } : Oper) := by kernel_rfl
  refine wpOp_plain ho rfl ?_
  clear hN hI ho
  go_simp
  first | exact ⟨_, rfl, rfl⟩ | exact ⟨_, rfl, rfl, .inl (Below.refl _ _)⟩
set_option maxRecDepth 100000 in
theorem sDS_2 {ops : Array Oper} {Q : Exit → Act → World → Prop} (hops : ops = opsOf Try.f12 4) (w0 : World) (ok : Nat → Prop) (g : Nat) (es : List S55) (sid seq now : Int) (x : ByteArray) (gb c : Nat) (i : Int) (a : Act) (w : World) (h0 : a.tmps[0]?.getD undef = .pointer (some ⟨g, 0, none⟩)) (h1 : a.tmps[1]?.getD undef = .int .i64 sid) (h2 : a.tmps[2]?.getD undef = .int .i64 seq) (h3 : a.tmps[3]?.getD undef = .int .i64 now) (h4 : a.tmps[4]?.getD undef = .string x)
    (hN : ∀ j, j ∈ usDS.getD 2 [] → FDS w0 ok g es sid seq now x gb c i j (slotO dstDS a j) w) (hI : useIDS 2 = true → IDS w0 ok g es sid seq now x gb c i w) : wpOp Try.prog ops Q 2 (fun a' w' => ∃ v, a' = a.put (dstDS 2) v ∧ FDS w0 ok g es sid seq now x gb c i 2 (valO dstDS 2 v) w' ∧ (Below w.heap.size w w' ∨ ((∀ j u, j < 14 → j ≠ 2 → killDS 2 j = false → (ncDS.getD j []).contains 2 = false → FDS w0 ok g es sid seq now x gb c i j u w → FDS w0 ok g es sid seq now x gb c i j u w') ∧ (killIDS 2 = false → IDS w0 ok g es sid seq now x gb c i w → IDS w0 ok g es sid seq now x gb c i w')))) a w := by
  subst hops
  have n1 : a.tmps[29]?.getD undef = .pointer (some ⟨g, 0, none⟩) := hN 1 (by decide)
  have ho : (opsOf Try.f12 4)[2]? = some ({ dst := some 30, op := Go.Op.fieldAddr 36 (Go.Operand.tmp 29) 0, type := 0, pos := "session.go:57", after := #[{ on := 1, ground := Go.Ground.data }], guard := none } : Oper) := by kernel_rfl
  refine wpOp_plain ho rfl ?_
  clear hN hI ho
  go_simp
  first | exact ⟨_, rfl, rfl⟩ | exact ⟨_, rfl, rfl, .inl (Below.refl _ _)⟩
set_option maxRecDepth 100000 in
theorem sDS_3 {ops : Array Oper} {Q : Exit → Act → World → Prop} (hops : ops = opsOf Try.f12 4) (w0 : World) (ok : Nat → Prop) (g : Nat) (es : List S55) (sid seq now : Int) (x : ByteArray) (gb c : Nat) (i : Int) (a : Act) (w : World) (h0 : a.tmps[0]?.getD undef = .pointer (some ⟨g, 0, none⟩)) (h1 : a.tmps[1]?.getD undef = .int .i64 sid) (h2 : a.tmps[2]?.getD undef = .int .i64 seq) (h3 : a.tmps[3]?.getD undef = .int .i64 now) (h4 : a.tmps[4]?.getD undef = .string x)
    (hN : ∀ j, j ∈ usDS.getD 3 [] → FDS w0 ok g es sid seq now x gb c i j (slotO dstDS a j) w) (hI : useIDS 3 = true → IDS w0 ok g es sid seq now x gb c i w) : wpOp Try.prog ops Q 3 (fun a' w' => ∃ v, a' = a.put (dstDS 3) v ∧ FDS w0 ok g es sid seq now x gb c i 3 (valO dstDS 3 v) w' ∧ (Below w.heap.size w w' ∨ ((∀ j u, j < 14 → j ≠ 3 → killDS 3 j = false → (ncDS.getD j []).contains 3 = false → FDS w0 ok g es sid seq now x gb c i j u w → FDS w0 ok g es sid seq now x gb c i j u w') ∧ (killIDS 3 = false → IDS w0 ok g es sid seq now x gb c i w → IDS w0 ok g es sid seq now x gb c i w')))) a w := by
  subst hops
  have n2 : a.tmps[30]?.getD undef = .pointer (some ⟨g, 0, none⟩) := hN 2 (by decide)
  have hi : IDS w0 ok g es sid seq now x gb c i w := hI (by decide)
  have ho : (opsOf Try.f12 4)[3]? = some ({ dst := some 31, op := Go.Op.load 34 (Go.Operand.tmp 30), type := 34, pos := "session.go:57", after := #[{ on := 2, ground := Go.Ground.data }], guard := none } : Oper) := by kernel_rfl
  refine wpOp_plain ho rfl ?_
  clear hN hI ho
  obtain ⟨hnum, hg, hh, -⟩ := hi
  have hc : w.cell? ⟨g, 0, none⟩ = some (Value.slice (some ⟨gb, 0, none⟩) es.length c) := by simp [World.cell?, hh]
  clear hh hnum
  go_simp
  first | exact ⟨_, rfl, rfl⟩ | exact ⟨_, rfl, rfl, .inl (Below.refl _ _)⟩
set_option maxRecDepth 100000 in
theorem sDS_4 {ops : Array Oper} {Q : Exit → Act → World → Prop} (hops : ops = opsOf Try.f12 4) (w0 : World) (ok : Nat → Prop) (g : Nat) (es : List S55) (sid seq now : Int) (x : ByteArray) (gb c : Nat) (i : Int) (a : Act) (w : World) (h0 : a.tmps[0]?.getD undef = .pointer (some ⟨g, 0, none⟩)) (h1 : a.tmps[1]?.getD undef = .int .i64 sid) (h2 : a.tmps[2]?.getD undef = .int .i64 seq) (h3 : a.tmps[3]?.getD undef = .int .i64 now) (h4 : a.tmps[4]?.getD undef = .string x)
    (hN : ∀ j, j ∈ usDS.getD 4 [] → FDS w0 ok g es sid seq now x gb c i j (slotO dstDS a j) w) (hI : useIDS 4 = true → IDS w0 ok g es sid seq now x gb c i w) : wpOp Try.prog ops Q 4 (fun a' w' => ∃ v, a' = a.put (dstDS 4) v ∧ FDS w0 ok g es sid seq now x gb c i 4 (valO dstDS 4 v) w' ∧ (Below w.heap.size w w' ∨ ((∀ j u, j < 14 → j ≠ 4 → killDS 4 j = false → (ncDS.getD j []).contains 4 = false → FDS w0 ok g es sid seq now x gb c i j u w → FDS w0 ok g es sid seq now x gb c i j u w') ∧ (killIDS 4 = false → IDS w0 ok g es sid seq now x gb c i w → IDS w0 ok g es sid seq now x gb c i w')))) a w := by
  subst hops
  have ho : (opsOf Try.f12 4)[4]? = some ({ dst := some 32, op := Go.Op.move (Go.Operand.tmp 0), type := 69, pos := "session.go:57", after := #[], guard := none } : Oper) := by kernel_rfl
  refine wpOp_plain ho rfl ?_
  clear hN hI ho
  go_simp
  first | exact ⟨_, rfl, rfl⟩ | exact ⟨_, rfl, rfl, .inl (Below.refl _ _)⟩
set_option maxRecDepth 100000 in
theorem sDS_5 {ops : Array Oper} {Q : Exit → Act → World → Prop} (hops : ops = opsOf Try.f12 4) (w0 : World) (ok : Nat → Prop) (g : Nat) (es : List S55) (sid seq now : Int) (x : ByteArray) (gb c : Nat) (i : Int) (a : Act) (w : World) (h0 : a.tmps[0]?.getD undef = .pointer (some ⟨g, 0, none⟩)) (h1 : a.tmps[1]?.getD undef = .int .i64 sid) (h2 : a.tmps[2]?.getD undef = .int .i64 seq) (h3 : a.tmps[3]?.getD undef = .int .i64 now) (h4 : a.tmps[4]?.getD undef = .string x)
    (hN : ∀ j, j ∈ usDS.getD 5 [] → FDS w0 ok g es sid seq now x gb c i j (slotO dstDS a j) w) (hI : useIDS 5 = true → IDS w0 ok g es sid seq now x gb c i w) : wpOp Try.prog ops Q 5 (fun a' w' => ∃ v, a' = a.put (dstDS 5) v ∧ FDS w0 ok g es sid seq now x gb c i 5 (valO dstDS 5 v) w' ∧ (Below w.heap.size w w' ∨ ((∀ j u, j < 14 → j ≠ 5 → killDS 5 j = false → (ncDS.getD j []).contains 5 = false → FDS w0 ok g es sid seq now x gb c i j u w → FDS w0 ok g es sid seq now x gb c i j u w') ∧ (killIDS 5 = false → IDS w0 ok g es sid seq now x gb c i w → IDS w0 ok g es sid seq now x gb c i w')))) a w := by
  subst hops
  have ho : (opsOf Try.f12 4)[5]? = some ({ dst := some 33, op := Go.Op.move (Go.Operand.tmp 1), type := 3, pos := "session.go:57", after := #[], guard := none } : Oper) := by kernel_rfl
  refine wpOp_plain ho rfl ?_
  clear hN hI ho
  go_simp
  first | exact ⟨_, rfl, rfl⟩ | exact ⟨_, rfl, rfl, .inl (Below.refl _ _)⟩
set_option maxRecDepth 100000 in
theorem sDS_6 {ops : Array Oper} {Q : Exit → Act → World → Prop} (hops : ops = opsOf Try.f12 4) (w0 : World) (ok : Nat → Prop) (g : Nat) (es : List S55) (sid seq now : Int) (x : ByteArray) (gb c : Nat) (i : Int) (a : Act) (w : World) (h0 : a.tmps[0]?.getD undef = .pointer (some ⟨g, 0, none⟩)) (h1 : a.tmps[1]?.getD undef = .int .i64 sid) (h2 : a.tmps[2]?.getD undef = .int .i64 seq) (h3 : a.tmps[3]?.getD undef = .int .i64 now) (h4 : a.tmps[4]?.getD undef = .string x)
    (hN : ∀ j, j ∈ usDS.getD 6 [] → FDS w0 ok g es sid seq now x gb c i j (slotO dstDS a j) w) (hI : useIDS 6 = true → IDS w0 ok g es sid seq now x gb c i w) : wpOp Try.prog ops Q 6 (fun a' w' => ∃ v, a' = a.put (dstDS 6) v ∧ FDS w0 ok g es sid seq now x gb c i 6 (valO dstDS 6 v) w' ∧ (Below w.heap.size w w' ∨ ((∀ j u, j < 14 → j ≠ 6 → killDS 6 j = false → (ncDS.getD j []).contains 6 = false → FDS w0 ok g es sid seq now x gb c i j u w → FDS w0 ok g es sid seq now x gb c i j u w') ∧ (killIDS 6 = false → IDS w0 ok g es sid seq now x gb c i w → IDS w0 ok g es sid seq now x gb c i w')))) a w := by
  subst hops
  have n4 : a.tmps[32]?.getD undef = .pointer (some ⟨g, 0, none⟩) := hN 4 (by decide)
  have n5 : a.tmps[33]?.getD undef = .int .i64 sid := hN 5 (by decide)
  have hi : IDS w0 ok g es sid seq now x gb c i w := hI (by decide)
  have ho : (opsOf Try.f12 4)[6]? = some ({ dst := some 34, op := Go.Op.call { callee := Go.Callee.value (Go.Operand.func 39), args := #[Go.Operand.tmp 32, Go.Operand.tmp 33], argTypes := #[69, 3] }, type := 3, pos := "session.go:57", after := #[{ on := 4, ground := Go.Ground.data }, { on := 5, ground := Go.Ground.data }], guard := none } : Oper) := by kernel_rfl
  refine wpOp_plain ho rfl ?_
  clear hN hI ho
  obtain ⟨⟨h1, h2, h3, h4⟩, hg, hh, hR, hK, hB⟩ := hi
  have HH := Aside0.mk (at_callsS (w := w) (ok := ok) (g := g) (es := es) ⟨hg, _, hh, hR⟩ sid)
  rw [h3] at HH
  clear hh hR hK hB h1 h2 h3 h4
  go_simp
  refine HH.out.mono ?_
  rintro e w' ⟨rfl, hb⟩
  exact ⟨_, rfl, rfl, .inl hb⟩
set_option maxRecDepth 100000 in
theorem sDS_7 {ops : Array Oper} {Q : Exit → Act → World → Prop} (hops : ops = opsOf Try.f12 4) (w0 : World) (ok : Nat → Prop) (g : Nat) (es : List S55) (sid seq now : Int) (x : ByteArray) (gb c : Nat) (i : Int) (a : Act) (w : World) (h0 : a.tmps[0]?.getD undef = .pointer (some ⟨g, 0, none⟩)) (h1 : a.tmps[1]?.getD undef = .int .i64 sid) (h2 : a.tmps[2]?.getD undef = .int .i64 seq) (h3 : a.tmps[3]?.getD undef = .int .i64 now) (h4 : a.tmps[4]?.getD undef = .string x)
    (hN : ∀ j, j ∈ usDS.getD 7 [] → FDS w0 ok g es sid seq now x gb c i j (slotO dstDS a j) w) (hI : useIDS 7 = true → IDS w0 ok g es sid seq now x gb c i w) : wpOp Try.prog ops Q 7 (fun a' w' => ∃ v, a' = a.put (dstDS 7) v ∧ FDS w0 ok g es sid seq now x gb c i 7 (valO dstDS 7 v) w' ∧ (Below w.heap.size w w' ∨ ((∀ j u, j < 14 → j ≠ 7 → killDS 7 j = false → (ncDS.getD j []).contains 7 = false → FDS w0 ok g es sid seq now x gb c i j u w → FDS w0 ok g es sid seq now x gb c i j u w') ∧ (killIDS 7 = false → IDS w0 ok g es sid seq now x gb c i w → IDS w0 ok g es sid seq now x gb c i w')))) a w := by
  subst hops
  have ho : (opsOf Try.f12 4)[7]? = some ({ dst := some 35, op := Go.Op.move (Go.Operand.tmp 1), type := 3, pos := "session.go:57", after := #[], guard := none } : Oper) := by kernel_rfl
  refine wpOp_plain ho rfl ?_
  clear hN hI ho
  go_simp
  first | exact ⟨_, rfl, rfl⟩ | exact ⟨_, rfl, rfl, .inl (Below.refl _ _)⟩
set_option maxRecDepth 100000 in
theorem sDS_8 {ops : Array Oper} {Q : Exit → Act → World → Prop} (hops : ops = opsOf Try.f12 4) (w0 : World) (ok : Nat → Prop) (g : Nat) (es : List S55) (sid seq now : Int) (x : ByteArray) (gb c : Nat) (i : Int) (a : Act) (w : World) (h0 : a.tmps[0]?.getD undef = .pointer (some ⟨g, 0, none⟩)) (h1 : a.tmps[1]?.getD undef = .int .i64 sid) (h2 : a.tmps[2]?.getD undef = .int .i64 seq) (h3 : a.tmps[3]?.getD undef = .int .i64 now) (h4 : a.tmps[4]?.getD undef = .string x)
    (hN : ∀ j, j ∈ usDS.getD 8 [] → FDS w0 ok g es sid seq now x gb c i j (slotO dstDS a j) w) (hI : useIDS 8 = true → IDS w0 ok g es sid seq now x gb c i w) : wpOp Try.prog ops Q 8 (fun a' w' => ∃ v, a' = a.put (dstDS 8) v ∧ FDS w0 ok g es sid seq now x gb c i 8 (valO dstDS 8 v) w' ∧ (Below w.heap.size w w' ∨ ((∀ j u, j < 14 → j ≠ 8 → killDS 8 j = false → (ncDS.getD j []).contains 8 = false → FDS w0 ok g es sid seq now x gb c i j u w → FDS w0 ok g es sid seq now x gb c i j u w') ∧ (killIDS 8 = false → IDS w0 ok g es sid seq now x gb c i w → IDS w0 ok g es sid seq now x gb c i w')))) a w := by
  subst hops
  have ho : (opsOf Try.f12 4)[8]? = some ({ dst := some 36, op := Go.Op.move (Go.Operand.tmp 2), type := 3, pos := "session.go:57", after := #[], guard := none } : Oper) := by kernel_rfl
  refine wpOp_plain ho rfl ?_
  clear hN hI ho
  go_simp
  first | exact ⟨_, rfl, rfl⟩ | exact ⟨_, rfl, rfl, .inl (Below.refl _ _)⟩
set_option maxRecDepth 100000 in
theorem sDS_9 {ops : Array Oper} {Q : Exit → Act → World → Prop} (hops : ops = opsOf Try.f12 4) (w0 : World) (ok : Nat → Prop) (g : Nat) (es : List S55) (sid seq now : Int) (x : ByteArray) (gb c : Nat) (i : Int) (a : Act) (w : World) (h0 : a.tmps[0]?.getD undef = .pointer (some ⟨g, 0, none⟩)) (h1 : a.tmps[1]?.getD undef = .int .i64 sid) (h2 : a.tmps[2]?.getD undef = .int .i64 seq) (h3 : a.tmps[3]?.getD undef = .int .i64 now) (h4 : a.tmps[4]?.getD undef = .string x)
    (hN : ∀ j, j ∈ usDS.getD 9 [] → FDS w0 ok g es sid seq now x gb c i j (slotO dstDS a j) w) (hI : useIDS 9 = true → IDS w0 ok g es sid seq now x gb c i w) : wpOp Try.prog ops Q 9 (fun a' w' => ∃ v, a' = a.put (dstDS 9) v ∧ FDS w0 ok g es sid seq now x gb c i 9 (valO dstDS 9 v) w' ∧ (Below w.heap.size w w' ∨ ((∀ j u, j < 14 → j ≠ 9 → killDS 9 j = false → (ncDS.getD j []).contains 9 = false → FDS w0 ok g es sid seq now x gb c i j u w → FDS w0 ok g es sid seq now x gb c i j u w') ∧ (killIDS 9 = false → IDS w0 ok g es sid seq now x gb c i w → IDS w0 ok g es sid seq now x gb c i w')))) a w := by
  subst hops
  have ho : (opsOf Try.f12 4)[9]? = some ({ dst := some 37, op := Go.Op.move (Go.Operand.tmp 3), type := 3, pos := "session.go:57", after := #[], guard := none } : Oper) := by kernel_rfl
  refine wpOp_plain ho rfl ?_
  clear hN hI ho
  go_simp
  first | exact ⟨_, rfl, rfl⟩ | exact ⟨_, rfl, rfl, .inl (Below.refl _ _)⟩
set_option maxRecDepth 100000 in
theorem sDS_10 {ops : Array Oper} {Q : Exit → Act → World → Prop} (hops : ops = opsOf Try.f12 4) (w0 : World) (ok : Nat → Prop) (g : Nat) (es : List S55) (sid seq now : Int) (x : ByteArray) (gb c : Nat) (i : Int) (a : Act) (w : World) (h0 : a.tmps[0]?.getD undef = .pointer (some ⟨g, 0, none⟩)) (h1 : a.tmps[1]?.getD undef = .int .i64 sid) (h2 : a.tmps[2]?.getD undef = .int .i64 seq) (h3 : a.tmps[3]?.getD undef = .int .i64 now) (h4 : a.tmps[4]?.getD undef = .string x)
    (hN : ∀ j, j ∈ usDS.getD 10 [] → FDS w0 ok g es sid seq now x gb c i j (slotO dstDS a j) w) (hI : useIDS 10 = true → IDS w0 ok g es sid seq now x gb c i w) : wpOp Try.prog ops Q 10 (fun a' w' => ∃ v, a' = a.put (dstDS 10) v ∧ FDS w0 ok g es sid seq now x gb c i 10 (valO dstDS 10 v) w' ∧ (Below w.heap.size w w' ∨ ((∀ j u, j < 14 → j ≠ 10 → killDS 10 j = false → (ncDS.getD j []).contains 10 = false → FDS w0 ok g es sid seq now x gb c i j u w → FDS w0 ok g es sid seq now x gb c i j u w') ∧ (killIDS 10 = false → IDS w0 ok g es sid seq now x gb c i w → IDS w0 ok g es sid seq now x gb c i w')))) a w := by
  subst hops
  have ho : (opsOf Try.f12 4)[10]? = some ({ dst := some 38, op := Go.Op.move (Go.Operand.tmp 4), type := 9, pos := "session.go:57", after := #[], guard := none } : Oper) := by kernel_rfl
  refine wpOp_plain ho rfl ?_
  clear hN hI ho
  go_simp
  first | exact ⟨_, rfl, rfl⟩ | exact ⟨_, rfl, rfl, .inl (Below.refl _ _)⟩
set_option maxRecDepth 100000 in
theorem sDS_11 {ops : Array Oper} {Q : Exit → Act → World → Prop} (hops : ops = opsOf Try.f12 4) (w0 : World) (ok : Nat → Prop) (g : Nat) (es : List S55) (sid seq now : Int) (x : ByteArray) (gb c : Nat) (i : Int) (a : Act) (w : World) (h0 : a.tmps[0]?.getD undef = .pointer (some ⟨g, 0, none⟩)) (h1 : a.tmps[1]?.getD undef = .int .i64 sid) (h2 : a.tmps[2]?.getD undef = .int .i64 seq) (h3 : a.tmps[3]?.getD undef = .int .i64 now) (h4 : a.tmps[4]?.getD undef = .string x)
    (hN : ∀ j, j ∈ usDS.getD 11 [] → FDS w0 ok g es sid seq now x gb c i j (slotO dstDS a j) w) (hI : useIDS 11 = true → IDS w0 ok g es sid seq now x gb c i w) : wpOp Try.prog ops Q 11 (fun a' w' => ∃ v, a' = a.put (dstDS 11) v ∧ FDS w0 ok g es sid seq now x gb c i 11 (valO dstDS 11 v) w' ∧ (Below w.heap.size w w' ∨ ((∀ j u, j < 14 → j ≠ 11 → killDS 11 j = false → (ncDS.getD j []).contains 11 = false → FDS w0 ok g es sid seq now x gb c i j u w → FDS w0 ok g es sid seq now x gb c i j u w') ∧ (killIDS 11 = false → IDS w0 ok g es sid seq now x gb c i w → IDS w0 ok g es sid seq now x gb c i w')))) a w := by
  subst hops
  have n7 : a.tmps[35]?.getD undef = .int .i64 sid := hN 7 (by decide)
  have n8 : a.tmps[36]?.getD undef = .int .i64 seq := hN 8 (by decide)
  have n9 : a.tmps[37]?.getD undef = .int .i64 now := hN 9 (by decide)
  have n10 : a.tmps[38]?.getD undef = .string x := hN 10 (by decide)
  have ho : (opsOf Try.f12 4)[11]? = some ({ dst := some 39, op := Go.Op.build 55 #[(0, Go.Operand.tmp 35), (1, Go.Operand.tmp 36), (2, Go.Operand.tmp 37), (3, Go.Operand.tmp 38)], type := 55, pos := "session.go:57", after := #[{ on := 7, ground := Go.Ground.data }, { on := 8, ground := Go.Ground.data }, { on := 9, ground := Go.Ground.data }, { on := 10, ground := Go.Ground.data }], guard := none } : Oper) := by kernel_rfl
  refine wpOp_plain ho rfl ?_
  clear hN hI ho
  go_simp
  first | exact ⟨_, rfl, rfl⟩ | exact ⟨_, rfl, rfl, .inl (Below.refl _ _)⟩
set_option maxRecDepth 100000 in
theorem sDS_12 {ops : Array Oper} {Q : Exit → Act → World → Prop} (hops : ops = opsOf Try.f12 4) (w0 : World) (ok : Nat → Prop) (g : Nat) (es : List S55) (sid seq now : Int) (x : ByteArray) (gb c : Nat) (i : Int) (a : Act) (w : World) (h0 : a.tmps[0]?.getD undef = .pointer (some ⟨g, 0, none⟩)) (h1 : a.tmps[1]?.getD undef = .int .i64 sid) (h2 : a.tmps[2]?.getD undef = .int .i64 seq) (h3 : a.tmps[3]?.getD undef = .int .i64 now) (h4 : a.tmps[4]?.getD undef = .string x)
    (hN : ∀ j, j ∈ usDS.getD 12 [] → FDS w0 ok g es sid seq now x gb c i j (slotO dstDS a j) w) (hI : useIDS 12 = true → IDS w0 ok g es sid seq now x gb c i w) : wpOp Try.prog ops Q 12 (fun a' w' => ∃ v, a' = a.put (dstDS 12) v ∧ FDS w0 ok g es sid seq now x gb c i 12 (valO dstDS 12 v) w' ∧ (Below w.heap.size w w' ∨ ((∀ j u, j < 14 → j ≠ 12 → killDS 12 j = false → (ncDS.getD j []).contains 12 = false → FDS w0 ok g es sid seq now x gb c i j u w → FDS w0 ok g es sid seq now x gb c i j u w') ∧ (killIDS 12 = false → IDS w0 ok g es sid seq now x gb c i w → IDS w0 ok g es sid seq now x gb c i w')))) a w := by
  subst hops
  have n3 : a.tmps[31]?.getD undef = (Value.slice (some ⟨gb, 0, none⟩) es.length c) := hN 3 (by decide)
  have n6 : a.tmps[34]?.getD undef = .int .i64 i := hN 6 (by decide)
  have hi : IDS w0 ok g es sid seq now x gb c i w := hI (by decide)
  have ho : (opsOf Try.f12 4)[12]? = some ({ dst := some 40, op := Go.Op.indexAddr 34 (Go.Operand.tmp 31) (Go.Operand.tmp 34), type := 0, pos := "session.go:57", after := #[{ on := 3, ground := Go.Ground.data }, { on := 6, ground := Go.Ground.data }, { on := 0, ground := Go.Ground.phase }, { on := 1, ground := Go.Ground.phase }, { on := 2, ground := Go.Ground.phase }, { on := 3, ground := Go.Ground.phase }, { on := 4, ground := Go.Ground.phase }, { on := 5, ground := Go.Ground.phase }, { on := 6, ground := Go.Ground.phase }, { on := 7, ground := Go.Ground.phase }, { on := 8, ground := Go.Ground.phase }, { on := 9, ground := Go.Ground.phase }, { on := 10, ground := Go.Ground.phase }, { on := 11, ground := Go.Ground.phase }], guard := none } : Oper) := by kernel_rfl
  refine wpOp_plain ho rfl ?_
  clear hN hI ho
  obtain ⟨⟨q0, q1, -⟩, -⟩ := hi
  have q2 : i < (es.length : Int) := q1
  go_simp
  first | exact ⟨_, rfl, rfl⟩ | exact ⟨_, rfl, rfl, .inl (Below.refl _ _)⟩
set_option maxRecDepth 100000 in
theorem sDS_13 {ops : Array Oper} {Q : Exit → Act → World → Prop} (hops : ops = opsOf Try.f12 4) (w0 : World) (ok : Nat → Prop) (g : Nat) (es : List S55) (sid seq now : Int) (x : ByteArray) (gb c : Nat) (i : Int) (a : Act) (w : World) (h0 : a.tmps[0]?.getD undef = .pointer (some ⟨g, 0, none⟩)) (h1 : a.tmps[1]?.getD undef = .int .i64 sid) (h2 : a.tmps[2]?.getD undef = .int .i64 seq) (h3 : a.tmps[3]?.getD undef = .int .i64 now) (h4 : a.tmps[4]?.getD undef = .string x)
    (hN : ∀ j, j ∈ usDS.getD 13 [] → FDS w0 ok g es sid seq now x gb c i j (slotO dstDS a j) w) (hI : useIDS 13 = true → IDS w0 ok g es sid seq now x gb c i w) : wpOp Try.prog ops Q 13 (fun a' w' => ∃ v, a' = a.put (dstDS 13) v ∧ FDS w0 ok g es sid seq now x gb c i 13 (valO dstDS 13 v) w' ∧ (Below w.heap.size w w' ∨ ((∀ j u, j < 14 → j ≠ 13 → killDS 13 j = false → (ncDS.getD j []).contains 13 = false → FDS w0 ok g es sid seq now x gb c i j u w → FDS w0 ok g es sid seq now x gb c i j u w') ∧ (killIDS 13 = false → IDS w0 ok g es sid seq now x gb c i w → IDS w0 ok g es sid seq now x gb c i w')))) a w := by
  subst hops
  have n11 : a.tmps[39]?.getD undef = .agg #[.int .i64 sid, .int .i64 seq, .int .i64 now, .string x] := hN 11 (by decide)
  have n12 : a.tmps[40]?.getD undef = .pointer (some ⟨gb, i.toNat * 4, none⟩) := hN 12 (by decide)
  have hi : IDS w0 ok g es sid seq now x gb c i w := hI (by decide)
  have ho : (opsOf Try.f12 4)[13]? = some ({ dst := none, op := Go.Op.store 55 (Go.Operand.tmp 40) (Go.Operand.tmp 39), type := 0, pos := "session.go:57", after := #[{ on := 12, ground := Go.Ground.data }, { on := 11, ground := Go.Ground.data }, { on := 6, ground := Go.Ground.chain }, { on := 0, ground := Go.Ground.phase }, { on := 1, ground := Go.Ground.phase }, { on := 2, ground := Go.Ground.phase }, { on := 3, ground := Go.Ground.phase }, { on := 4, ground := Go.Ground.phase }, { on := 5, ground := Go.Ground.phase }, { on := 6, ground := Go.Ground.phase }, { on := 7, ground := Go.Ground.phase }, { on := 8, ground := Go.Ground.phase }, { on := 9, ground := Go.Ground.phase }, { on := 10, ground := Go.Ground.phase }, { on := 11, ground := Go.Ground.phase }], guard := none } : Oper) := by kernel_rfl
  refine wpOp_plain ho rfl ?_
  clear hN hI ho
  obtain ⟨⟨q0, q1, q2, q3⟩, hg, hh, hR, hK, hB⟩ := hi
  have n12' : a.tmps[40]?.getD undef = .pointer (some ⟨gb, i.toNat * 4, none⟩) := n12
  have hgb : ok gb ∧ gb ≠ g := hR.1 gb rfl
  refine R_store_step k55 0 rfl 55 (.tmp 40) (.tmp 39) rfl 55 (g := gb) (n := es.length) (cap := c) (o' := i.toNat * 4) i es ⟨sid, seq, now, x⟩ (.agg #[.int .i64 sid, .int .i64 seq, .int .i64 now, .string x]) [.int .i64 sid, .int .i64 seq, .int .i64 now, .string x] (fun k => ok k ∧ k ≠ g) (fun _ => False)
    (by simp only [Act.eval, Array.getD_eq_getD_getElem?]; exact n12') rfl (by simp only [Act.eval, Array.getD_eq_getD_getElem?]; exact n11) rfl (by rfl) (by intro q hq; simp at hq; rcases hq with rfl | rfl | rfl | rfl <;> rfl) hR q0 q1 rfl z55 (k55_mkM w 0 _ ⟨sid, seq, now, x⟩) (fun _ h => h.elim) ?_
  intro w1 hR1 hgr
  refine ⟨undef, rfl, ⟨⟨hg, _, (hgr.block g (Array.getElem?_eq_some_iff.1 hh).1 (fun he => hgb.2 (by injection he with he; exact he.symm))).trans hh, ?_⟩, Kept.of_grown hgr hK (fun k hk => by injection hk with hk; subst hk; exact .inl hgb.1), hB.trans ⟨hgr.os, hgr.tape, hgr.output, hgr.size, fun _ h => absurd h (Nat.not_lt_zero _)⟩⟩, .inr ⟨?_, ?_⟩⟩
  · have h := hR1
    rw [show es.length = (es.set i.toNat (⟨sid, seq, now, x⟩ : S55)).length by simp] at h
    simpa using h
  · intro j u hj hne hk hcc hF
    have hj' : j = 0 ∨ j = 1 ∨ j = 2 ∨ j = 3 ∨ j = 4 ∨ j = 5 ∨ j = 6 ∨ j = 7 ∨ j = 8 ∨ j = 9 ∨ j = 10 ∨ j = 11 ∨ j = 12 ∨ j = 13 := by omega
    rcases hj' with rfl | rfl | rfl | rfl | rfl | rfl | rfl | rfl | rfl | rfl | rfl | rfl | rfl | rfl <;> first | exact hF | (exact absurd hk (by decide)) | (exact absurd rfl hne) | (exact absurd hcc (by decide))
  · intro hk
    exact absurd hk (by decide)
theorem monoDS (w0 : World) (ok : Nat → Prop) (g : Nat) (es : List S55) (sid seq now : Int) (x : ByteArray) (gb c : Nat) (i : Int) (j : Nat) (v : Value) (w w' : World) (h : FDS w0 ok g es sid seq now x gb c i j v w) (hb : Below w.heap.size w w') : FDS w0 ok g es sid seq now x gb c i j v w' := by
  unfold FDS at h ⊢
  split <;> first
    | exact True.intro
    | exact h
    | exact ⟨h.1.below hb, Kept.below h.2.1 hb, h.2.2.trans (hb.mono (Nat.zero_le _))⟩
theorem monoIDS (w0 : World) (ok : Nat → Prop) (g : Nat) (es : List S55) (sid seq now : Int) (x : ByteArray) (gb c : Nat) (i : Int) (w w' : World) (h : IDS w0 ok g es sid seq now x gb c i w) (hb : Below w.heap.size w w') : IDS w0 ok g es sid seq now x gb c i w' := by
  obtain ⟨hn, hg, hh, hR, hK, hB⟩ := h
  exact ⟨hn, hg, (hb.block g (Array.getElem?_eq_some_iff.1 hh).1).trans hh, Kd.R_below hR hb, Kept.below hK hb, hB.trans (hb.mono (Nat.zero_le _))⟩
theorem hinDS : ∀ i, i < 14 → ∀ d, dstDS i = some d → d < 41 := by
  have h2 : ∀ i, i < 14 → (dstDS i).all (fun d => decide (d < 41)) = true := by decide
  intro i hi d hd
  have := h2 i hi
  rw [hd] at this
  simpa using this
set_option maxRecDepth 100000 in
theorem regionDS {ops : Array Oper} {Q : Exit → Act → World → Prop} (hops : ops = opsOf Try.f12 4) {id : Nat} (w0 : World) (ok : Nat → Prop) (g : Nat) (es : List S55) (sid seq now : Int) (x : ByteArray) (gb c : Nat) (i : Int) (a0 : Act) (w0_ : World) (hI0 : IDS w0 ok g es sid seq now x gb c i w0_) (hsz : a0.tmps.size = 41) (h0 : a0.tmps[0]?.getD undef = .pointer (some ⟨g, 0, none⟩)) (h1 : a0.tmps[1]?.getD undef = .int .i64 sid) (h2 : a0.tmps[2]?.getD undef = .int .i64 seq) (h3 : a0.tmps[3]?.getD undef = .int .i64 now) (h4 : a0.tmps[4]?.getD undef = .string x)
    (hQ : ∀ a w, AgreeO 14 dstDS a0 a → FDS w0 ok g es sid seq now x gb c i 13 (slotO dstDS a 13) w → Q .normal a w) : (Code.region id ops true).wp Try.prog Q a0 w0_ := by
  refine region_heldA (n := 14) dstDS (FDS w0 ok g es sid seq now x gb c i) (IDS w0 ok g es sid seq now x gb c i) ndDS ncDS usDS killDS killIDS useIDS (by kernel_rfl) (by rw [hops]; kernel_rfl) (by decide) ?_ (fun j v w w' _ h hb => monoDS w0 ok g es sid seq now x gb c i j v w w' h hb) (fun w w' h hb => monoIDS w0 ok g es sid seq now x gb c i w w' h hb) hI0 (by rw [hops]; kernel_rfl) (by decide) (by decide) (by decide) (by decide) (by decide) ?_ (fun a w hA hF hI => hQ a w hA (hF 13 (by decide) (by decide)))
  · intro i hi d hd
    rw [hsz]; exact hinDS i hi d hd
  · intro i a w hi hA hN hI
    have h0 := (hA.old 0 (by decide)).trans h0
    have h1 := (hA.old 1 (by decide)).trans h1
    have h2 := (hA.old 2 (by decide)).trans h2
    have h3 := (hA.old 3 (by decide)).trans h3
    have h4 := (hA.old 4 (by decide)).trans h4
    have hi' : i = 0 ∨ i = 1 ∨ i = 2 ∨ i = 3 ∨ i = 4 ∨ i = 5 ∨ i = 6 ∨ i = 7 ∨ i = 8 ∨ i = 9 ∨ i = 10 ∨ i = 11 ∨ i = 12 ∨ i = 13 := by omega
    rcases hi' with rfl | rfl | rfl | rfl | rfl | rfl | rfl | rfl | rfl | rfl | rfl | rfl | rfl | rfl
    · exact sDS_0 hops w0 ok g es sid seq now x gb c i a w h0 h1 h2 h3 h4 hN hI
    · exact sDS_1 hops w0 ok g es sid seq now x gb c i a w h0 h1 h2 h3 h4 hN hI
    · exact sDS_2 hops w0 ok g es sid seq now x gb c i a w h0 h1 h2 h3 h4 hN hI
    · exact sDS_3 hops w0 ok g es sid seq now x gb c i a w h0 h1 h2 h3 h4 hN hI
    · exact sDS_4 hops w0 ok g es sid seq now x gb c i a w h0 h1 h2 h3 h4 hN hI
    · exact sDS_5 hops w0 ok g es sid seq now x gb c i a w h0 h1 h2 h3 h4 hN hI
    · exact sDS_6 hops w0 ok g es sid seq now x gb c i a w h0 h1 h2 h3 h4 hN hI
    · exact sDS_7 hops w0 ok g es sid seq now x gb c i a w h0 h1 h2 h3 h4 hN hI
    · exact sDS_8 hops w0 ok g es sid seq now x gb c i a w h0 h1 h2 h3 h4 hN hI
    · exact sDS_9 hops w0 ok g es sid seq now x gb c i a w h0 h1 h2 h3 h4 hN hI
    · exact sDS_10 hops w0 ok g es sid seq now x gb c i a w h0 h1 h2 h3 h4 hN hI
    · exact sDS_11 hops w0 ok g es sid seq now x gb c i a w h0 h1 h2 h3 h4 hN hI
    · exact sDS_12 hops w0 ok g es sid seq now x gb c i a w h0 h1 h2 h3 h4 hN hI
    · exact sDS_13 hops w0 ok g es sid seq now x gb c i a w h0 h1 h2 h3 h4 hN hI

/-- What Done answers, and leaves. -/
def doneS (es : List S55) (id seq now : Int) (x : ByteArray) : Bool × List S55 :=
  if (askS es id seq).1 = 1 ∧ es.any (fun r => decide (r.f2 > now)) = false then (true, es.set (idxS (fun r => decide (r.f0 = id)) es).toNat ⟨id, seq, now, x⟩) else (false, es)
theorem ask_freshS (es : List S55) (id seq : Int) (h : (askS es id seq).1 = 1) : 0 ≤ idxS (fun r => decide (r.f0 = id)) es := by
  unfold askS at h
  by_cases h0 : idxS (fun r => decide (r.f0 = id)) es < 0
  · simp only [h0, if_true] at h; exact absurd h (by decide)
  · omega
theorem done_callsS {w : World} {ok : Nat → Prop} {g : Nat} {es : List S55} (h : TblS w ok g es) (id seq now : Int) (x : ByteArray) :
    Calls Try.prog 12 #[.pointer (some ⟨g, 0, none⟩), .int .i64 id, .int .i64 seq, .int .i64 now, .string x] w fun e w' => e = .returned (.bool (doneS es id seq now x).1) ∧ TblS w' (fun k => ok k ∨ w.heap.size ≤ k) g (doneS es id seq now x).2 ∧ Kept w w' ok ∧ Below 0 w w' := by
  have HT := Aside0.mk h
  have HA := Aside0.mk (ask_callsS h id seq)
  have hfr := ask_freshS es id seq
  unfold doneS
  generalize hq : askS es id seq = q at *
  obtain ⟨v, y⟩ := q
  simp only [] at *
  clear h hq
  by_cases hv : v = 1
  · subst hv
    have HF := Aside0.mk (hfr rfl)
    clear hfr
    generalize hl : (es.any fun r => decide (r.f2 > now)) = l
    cases l with
    | true =>
      rw [if_neg (by simp)]
      go_enter Try.func12, Try.ntmps12
      go_wp2_with fail
      refine HA.out.mono ?_
      rintro _ w1 ⟨rfl, hb⟩
      have hL := late_callsS (HT.out.below hb) now
      rw [hl] at hL
      have HL := Aside0.mk hL
      have HB := Aside0.mk hb
      clear hL hb hl
      go_wp2_with fail
      refine HL.out.mono ?_
      rintro _ w2 ⟨rfl, hb⟩
      have HB2 := Aside0.mk (HB.out.trans (hb.mono HB.out.size))
      clear hb
      go_wp2_with fail
      go_ret
      exact ⟨rfl, (HT.out.below HB2.out).mono (fun k hk => .inl hk), Kept.below (Kept.refl _ _) HB2.out, HB2.out.mono (Nat.zero_le _)⟩
    | false =>
      rw [if_pos ⟨rfl, rfl⟩]
      have hlt := idx_ltS (fun r => decide (r.f0 = id)) es HF.out
      generalize hi : idxS (fun r => decide (r.f0 = id)) es = i at *
      have HI := Aside0.mk (And.intro HF.out (And.intro hlt.1 hi))
      clear hlt HF hi
      go_enter Try.func12, Try.ntmps12
      go_wp2_with fail
      refine HA.out.mono ?_
      rintro _ w1 ⟨rfl, hb⟩
      have hL := late_callsS (HT.out.below hb) now
      rw [hl] at hL
      have HL := Aside0.mk hL
      have HB := Aside0.mk hb
      clear hL hb hl
      go_wp2_with fail
      refine HL.out.mono ?_
      rintro _ w2 ⟨rfl, hb⟩
      have HB2 := Aside0.mk (HB.out.trans (hb.mono HB.out.size))
      have h2 := (HT.out.below HB2.out)
      obtain ⟨hg, v, hh, hR⟩ := h2
      obtain ⟨gb, c, rfl, -⟩ := Kd.R_form hR (by have := HI.out; omega)
      have hI : IDS w2 ok g es id seq now x gb c i w2 := ⟨⟨HI.out.1, HI.out.2.1, HI.out.2.2, (Array.getElem?_eq_some_iff.1 hh).1⟩, hg, hh, hR, Kept.refl _ _, Below.refl _ _⟩
      have HID := Aside0.mk hI
      clear hb hg hh hR hI HL HB HI HA
      go_wp2_with fail
      refine regionDS (by kernel_rfl) w2 ok g es id seq now x gb c i _ w2 HID.out rfl rfl rfl rfl rfl rfl ?_
      intro a2 w3 hA ⟨hT, hK, hB⟩
      have HT3 := Aside0.mk (hT.mono (ok' := fun k => ok k ∨ w.heap.size ≤ k) (fun k hk => .inl hk))
      have HK := Aside0.mk (show Kept w w3 ok from ⟨Nat.le_trans HB2.out.size hK.1, fun k hk hn => (hK.2 k (Nat.lt_of_lt_of_le hk HB2.out.size) hn).trans (HB2.out.block k hk)⟩)
      have HB3 := Aside0.mk ((HB2.out.mono (Nat.zero_le _)).trans hB)
      clear hT hK hB HID
      rw [hA.frame hinDS]
      clear hA
      simp only [List.range_succ, List.range_zero, List.nil_append, List.cons_append, foldO, dstDS, List.getD_cons_zero, List.getD_cons_succ, Act.put]
      generalize slotO dstDS a2 0 = y0
      generalize slotO dstDS a2 1 = y1
      generalize slotO dstDS a2 2 = y2
      generalize slotO dstDS a2 3 = y3
      generalize slotO dstDS a2 4 = y4
      generalize slotO dstDS a2 5 = y5
      generalize slotO dstDS a2 6 = y6
      generalize slotO dstDS a2 7 = y7
      generalize slotO dstDS a2 8 = y8
      generalize slotO dstDS a2 9 = y9
      generalize slotO dstDS a2 10 = y10
      generalize slotO dstDS a2 11 = y11
      generalize slotO dstDS a2 12 = y12
      clear a2
      go_wp2_with fail
      go_ret
      exact ⟨rfl, HT3.out, HK.out, HB3.out⟩
  · rw [if_neg (fun h => hv h.1)]
    have d1 : (v != 1) = true := by simpa using hv
    have d2 : (v == 1) = false := by simpa using hv
    clear hfr hv
    go_enter Try.func12, Try.ntmps12
    go_wp2_with fail
    refine HA.out.mono ?_
    rintro _ w1 ⟨rfl, hb⟩
    have HB := Aside0.mk hb
    clear hb
    go_wp2_with fail
    go_ret
    exact ⟨rfl, (HT.out.below HB.out).mono (fun k hk => .inl hk), Kept.below (Kept.refl _ _) HB.out, HB.out.mono (Nat.zero_le _)⟩

end Go.Proofs.Ytahkokbfghifhaa.PS
