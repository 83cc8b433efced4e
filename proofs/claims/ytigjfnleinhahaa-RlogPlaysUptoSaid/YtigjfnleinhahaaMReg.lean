/- A log's Merge, the statement that lays a leader's entries behind the log's own. -/
import Derived.Test.YtigjfnleinhahaaFull
import Derived.Test.YtigjfnleinhahaaOwn
import Derived.Test.YtigjfnleinhahaaApp
import Derived.Test.YtigjfnleinhahaaPLogx0
namespace Go.Proofs.Ytigjfnleinhahaa.PLog
open Go.RowKit Go.Proofs.YtigjfnleinhahaaW.PrintWords Go.Proofs.YtigjfnleinhahaaW.PrintLast Go.Proofs.YtigjfnleinhahaaW.PrintMore
open Go.Proofs.Ytigjfnleinhahaa.Reg
set_option linter.unusedVariables false
set_option linter.unusedSimpArgs false
def dstM (i : Nat) : Option Nat := ([some 77, some 78, some 79, some 80, some 81, some 82, some 83, some 84, some 85, some 86, some 87, some 88, some 89, some 90, some 91, some 92, some 93, some 94, some 95, some 96, some 97, some 98, none] : List (Option Nat)).getD i none
def ndM : List (List Nat) := [[], [], [1], [2], [3], [], [], [5, 6], [], [8], [9], [10], [7, 11], [4, 12], [13], [], [], [15, 16], [17, 14], [14, 18, 18], [0, 0, 1, 2, 3, 4, 5, 6, 7, 8, 9, 10, 11, 12, 13, 14, 15, 16, 17, 18, 19], [20, 0, 1, 2, 3, 4, 5, 6, 7, 8, 9, 10, 11, 12, 13, 14, 15, 16, 17, 18, 19], [21, 19, 19, 0, 1, 2, 3, 4, 5, 6, 7, 8, 9, 10, 11, 12, 13, 14, 15, 16, 17, 18, 19]]
def usM : List (List Nat) := [[], [], [1], [2], [3], [], [], [5, 6], [], [8], [9], [10], [7, 11], [4, 12], [13], [], [], [15, 16], [17], [14, 18], [0], [20], [19, 21]]
def ncM : List (List Nat) := [[], [], [1], [1, 2], [1, 2, 3], [], [], [5, 6], [], [8], [8, 9], [8, 9, 10], [5, 6, 7, 8, 9, 10, 11], [1, 2, 3, 4, 5, 6, 7, 8, 9, 10, 11, 12], [1, 2, 3, 4, 5, 6, 7, 8, 9, 10, 11, 12, 13], [], [], [15, 16], [1, 2, 3, 4, 5, 6, 7, 8, 9, 10, 11, 12, 13, 14, 15, 16, 17], [1, 2, 3, 4, 5, 6, 7, 8, 9, 10, 11, 12, 13, 14, 15, 16, 17, 18], [0, 1, 2, 3, 4, 5, 6, 7, 8, 9, 10, 11, 12, 13, 14, 15, 16, 17, 18, 19], [0, 1, 2, 3, 4, 5, 6, 7, 8, 9, 10, 11, 12, 13, 14, 15, 16, 17, 18, 19, 20], [0, 1, 2, 3, 4, 5, 6, 7, 8, 9, 10, 11, 12, 13, 14, 15, 16, 17, 18, 19, 20, 21]]
def killM (h j : Nat) : Bool := ((h == 19 && [18].contains j) || (h == 22 && [18, 19].contains j))
def killIM (h : Nat) : Bool := [19, 22].contains h
def useIM (h : Nat) : Bool := [4, 7, 11, 12, 13, 14, 17, 18, 19].contains h
def IM (w0 : World) (ok : Nat → Prop) (g : Nat) (at_ t p : Int) (A0 : Option Addr) (c0 : Nat) (es : List S60) (ad : Addr) (c : Nat) (ys : List S60) (i n : Nat) (w : World) : Prop := (p + i = at_ + n ∧ n ≤ es.length ∧ es.length ≤ c0 ∧ i < ys.length ∧ ys.length ≤ c ∧ 0 ≤ at_ ∧ at_ + es.length ≤ 4611686018427387904 ∧ -4611686018427387904 ≤ p ∧ (es.length + ys.length) * 192 ≤ 140737488355328 ∧ g < w0.heap.size) ∧ ok g ∧ w.heap[g]? = some (.cells #[.int .i64 at_, .int .i64 t, (Value.slice A0 es.length c0)] 62 (0, 0)) ∧ Kd.R k60 60 w 0 (fun k => (ok k ∧ k < w0.heap.size) ∧ k ≠ g) (Value.slice A0 es.length c0) es ∧ Kd.C k60 w (some ad) ys.length ys ∧ (∀ x ∈ ys, okE x) ∧ Kept w0 w ok ∧ Below 0 w0 w
def FM (w0 : World) (ok : Nat → Prop) (g : Nat) (at_ t p : Int) (A0 : Option Addr) (c0 : Nat) (es : List S60) (ad : Addr) (c : Nat) (ys : List S60) (i n : Nat) : Nat → Value → World → Prop
  | 0, v, w => v = .pointer (some ⟨g, 0, none⟩)
  | 1, v, w => v = .pointer (some ⟨g, 0, none⟩)
  | 2, v, w => v = .pointer (some ⟨g, 0, none⟩)
  | 3, v, w => v = .pointer (some ⟨g, 2, none⟩)
  | 4, v, w => v = (Value.slice A0 es.length c0)
  | 5, v, w => v = .int .i64 p
  | 6, v, w => v = .int .i64 (i : Int)
  | 7, v, w => v = .int .i64 (p + i)
  | 8, v, w => v = .pointer (some ⟨g, 0, none⟩)
  | 9, v, w => v = .pointer (some ⟨g, 0, none⟩)
  | 10, v, w => v = .pointer (some ⟨g, 0, none⟩)
  | 11, v, w => v = .int .i64 at_
  | 12, v, w => v = .int .i64 (n : Int)
  | 13, v, w => v = .slice A0 n c0
  | 14, v, w => v = .slice A0 n n
  | 15, v, w => v = .slice (some ad) ys.length c
  | 16, v, w => v = .int .i64 (i : Int)
  | 17, v, w => v = .slice (some (ad.add (i * 14))) (ys.length - i) (c - i)
  | 18, v, w => Kd.R k60 60 w w0.heap.size (fun _ => True) v (ys.drop i)
  | 19, v, w => ok g ∧ g < w0.heap.size ∧ w.heap[g]? = some (.cells #[.int .i64 at_, .int .i64 t, (Value.slice A0 es.length c0)] 62 (0, 0)) ∧ Kd.R k60 60 w 0 (fun k => (ok k ∨ w0.heap.size ≤ k) ∧ k ≠ g) v (es.take n ++ ys.drop i) ∧ Kept w0 w ok ∧ Below 0 w0 w
  | 20, v, w => v = .pointer (some ⟨g, 0, none⟩)
  | 21, v, w => v = .pointer (some ⟨g, 2, none⟩)
  | 22, v, w => Log w (fun k => ok k ∨ w0.heap.size ≤ k) g at_ t (es.take n ++ ys.drop i) ∧ Kept w0 w ok ∧ Below 0 w0 w
  | _, _, _ => True
set_option maxRecDepth 100000 in
theorem sM_0 {ops : Array Oper} {Q : Exit → Act → World → Prop} (hops : ops = opsOf Try.f17 14) (w0 : World) (ok : Nat → Prop) (g : Nat) (at_ t p : Int) (A0 : Option Addr) (c0 : Nat) (es : List S60) (ad : Addr) (c : Nat) (ys : List S60) (i n : Nat) (a : Act) (w : World) (h0 : a.tmps[0]?.getD undef = .pointer (some ⟨g, 0, none⟩)) (h1 : a.tmps[1]?.getD undef = .int .i64 p) (h3 : a.tmps[3]?.getD undef = .slice (some ad) ys.length c) (h13 : a.tmps[13]?.getD undef = .int .i64 (i : Int))
    (hN : ∀ j, j ∈ usM.getD 0 [] → FM w0 ok g at_ t p A0 c0 es ad c ys i n j (slotO dstM a j) w) (hI : useIM 0 = true → IM w0 ok g at_ t p A0 c0 es ad c ys i n w) : wpOp Try.prog ops Q 0 (fun a' w' => ∃ v, a' = a.put (dstM 0) v ∧ FM w0 ok g at_ t p A0 c0 es ad c ys i n 0 (valO dstM 0 v) w' ∧ (Below w.heap.size w w' ∨ ((∀ j u, j < 23 → j ≠ 0 → killM 0 j = false → (ncM.getD j []).contains 0 = false → FM w0 ok g at_ t p A0 c0 es ad c ys i n j u w → FM w0 ok g at_ t p A0 c0 es ad c ys i n j u w') ∧ (killIM 0 = false → IM w0 ok g at_ t p A0 c0 es ad c ys i n w → IM w0 ok g at_ t p A0 c0 es ad c ys i n w')))) a w := by
  subst hops
  have ho : (opsOf Try.f17 14)[0]? = some ({ dst := some 77, op := Go.Op.move (Go.Operand.tmp 0), type := 24, pos := "rlog.go:89", after := #[], guard := none } : Oper) := by kernel_rfl
  refine wpOp_plain ho rfl ?_
  clear hN hI ho
  go_simp
  first | exact ⟨_, rfl, rfl⟩ | exact ⟨_, rfl, rfl, .inl (Below.refl _ _)⟩
set_option maxRecDepth 100000 in
theorem sM_1 {ops : Array Oper} {Q : Exit → Act → World → Prop} (hops : ops = opsOf Try.f17 14) (w0 : World) (ok : Nat → Prop) (g : Nat) (at_ t p : Int) (A0 : Option Addr) (c0 : Nat) (es : List S60) (ad : Addr) (c : Nat) (ys : List S60) (i n : Nat) (a : Act) (w : World) (h0 : a.tmps[0]?.getD undef = .pointer (some ⟨g, 0, none⟩)) (h1 : a.tmps[1]?.getD undef = .int .i64 p) (h3 : a.tmps[3]?.getD undef = .slice (some ad) ys.length c) (h13 : a.tmps[13]?.getD undef = .int .i64 (i : Int))
    (hN : ∀ j, j ∈ usM.getD 1 [] → FM w0 ok g at_ t p A0 c0 es ad c ys i n j (slotO dstM a j) w) (hI : useIM 1 = true → IM w0 ok g at_ t p A0 c0 es ad c ys i n w) : wpOp Try.prog ops Q 1 (fun a' w' => ∃ v, a' = a.put (dstM 1) v ∧ FM w0 ok g at_ t p A0 c0 es ad c ys i n 1 (valO dstM 1 v) w' ∧ (Below w.heap.size w w' ∨ ((∀ j u, j < 23 → j ≠ 1 → killM 1 j = false → (ncM.getD j []).contains 1 = false → FM w0 ok g at_ t p A0 c0 es ad c ys i n j u w → FM w0 ok g at_ t p A0 c0 es ad c ys i n j u w') ∧ (killIM 1 = false → IM w0 ok g at_ t p A0 c0 es ad c ys i n w → IM w0 ok g at_ t p A0 c0 es ad c ys i n w')))) a w := by
  subst hops
  have ho : (opsOf Try.f17 14)[1]? = some ({ dst := some 78, op := Go.Op.move (Go.Operand.tmp 0), type := 24, pos := "rlog.go:89", after := #[], guard := none } : Oper) := by kernel_rfl
  refine wpOp_plain ho rfl ?_
  clear hN hI ho
  go_simp
  first | exact ⟨_, rfl, rfl⟩ | exact ⟨_, rfl, rfl, .inl (Below.refl _ _)⟩
set_option maxRecDepth 100000 in
theorem sM_2 {ops : Array Oper} {Q : Exit → Act → World → Prop} (hops : ops = opsOf Try.f17 14) (w0 : World) (ok : Nat → Prop) (g : Nat) (at_ t p : Int) (A0 : Option Addr) (c0 : Nat) (es : List S60) (ad : Addr) (c : Nat) (ys : List S60) (i n : Nat) (a : Act) (w : World) (h0 : a.tmps[0]?.getD undef = .pointer (some ⟨g, 0, none⟩)) (h1 : a.tmps[1]?.getD undef = .int .i64 p) (h3 : a.tmps[3]?.getD undef = .slice (some ad) ys.length c) (h13 : a.tmps[13]?.getD undef = .int .i64 (i : Int))
    (hN : ∀ j, j ∈ usM.getD 2 [] → FM w0 ok g at_ t p A0 c0 es ad c ys i n j (slotO dstM a j) w) (hI : useIM 2 = true → IM w0 ok g at_ t p A0 c0 es ad c ys i n w) : wpOp Try.prog ops Q 2 (fun a' w' => ∃ v, a' = a.put (dstM 2) v ∧ FM w0 ok g at_ t p A0 c0 es ad c ys i n 2 (valO dstM 2 v) w' ∧ (Below w.heap.size w w' ∨ ((∀ j u, j < 23 → j ≠ 2 → killM 2 j = false → (ncM.getD j []).contains 2 = false → FM w0 ok g at_ t p A0 c0 es ad c ys i n j u w → FM w0 ok g at_ t p A0 c0 es ad c ys i n j u w') ∧ (killIM 2 = false → IM w0 ok g at_ t p A0 c0 es ad c ys i n w → IM w0 ok g at_ t p A0 c0 es ad c ys i n w')))) a w := by
  subst hops
  have n1 : a.tmps[78]?.getD undef = .pointer (some ⟨g, 0, none⟩) := hN 1 (by decide)
  have ho : (opsOf Try.f17 14)[2]? = some ({ dst := some 79, op := Go.Op.nilCheck (Go.Operand.tmp 78), type := 0, pos := "rlog.go:89", after := #[{ on := 1, ground := Go.Ground.data }], guard := none } : Oper) := by kernel_rfl
  refine wpOp_plain ho rfl ?_
  clear hN hI ho
  go_simp
  first | exact ⟨_, rfl, rfl⟩ | exact ⟨_, rfl, rfl, .inl (Below.refl _ _)⟩
set_option maxRecDepth 100000 in
theorem sM_3 {ops : Array Oper} {Q : Exit → Act → World → Prop} (hops : ops = opsOf Try.f17 14) (w0 : World) (ok : Nat → Prop) (g : Nat) (at_ t p : Int) (A0 : Option Addr) (c0 : Nat) (es : List S60) (ad : Addr) (c : Nat) (ys : List S60) (i n : Nat) (a : Act) (w : World) (h0 : a.tmps[0]?.getD undef = .pointer (some ⟨g, 0, none⟩)) (h1 : a.tmps[1]?.getD undef = .int .i64 p) (h3 : a.tmps[3]?.getD undef = .slice (some ad) ys.length c) (h13 : a.tmps[13]?.getD undef = .int .i64 (i : Int))
    (hN : ∀ j, j ∈ usM.getD 3 [] → FM w0 ok g at_ t p A0 c0 es ad c ys i n j (slotO dstM a j) w) (hI : useIM 3 = true → IM w0 ok g at_ t p A0 c0 es ad c ys i n w) : wpOp Try.prog ops Q 3 (fun a' w' => ∃ v, a' = a.put (dstM 3) v ∧ FM w0 ok g at_ t p A0 c0 es ad c ys i n 3 (valO dstM 3 v) w' ∧ (Below w.heap.size w w' ∨ ((∀ j u, j < 23 → j ≠ 3 → killM 3 j = false → (ncM.getD j []).contains 3 = false → FM w0 ok g at_ t p A0 c0 es ad c ys i n j u w → FM w0 ok g at_ t p A0 c0 es ad c ys i n j u w') ∧ (killIM 3 = false → IM w0 ok g at_ t p A0 c0 es ad c ys i n w → IM w0 ok g at_ t p A0 c0 es ad c ys i n w')))) a w := by
  subst hops
  have n2 : a.tmps[79]?.getD undef = .pointer (some ⟨g, 0, none⟩) := hN 2 (by decide)
  have ho : (opsOf Try.f17 14)[3]? = some ({ dst := some 80, op := Go.Op.fieldAddr 62 (Go.Operand.tmp 79) 2, type := 0, pos := "rlog.go:89", after := #[{ on := 2, ground := Go.Ground.data }], guard := none } : Oper) := by kernel_rfl
  refine wpOp_plain ho rfl ?_
  clear hN hI ho
  go_simp
  first | exact ⟨_, rfl, rfl⟩ | exact ⟨_, rfl, rfl, .inl (Below.refl _ _)⟩
set_option maxRecDepth 100000 in
theorem sM_4 {ops : Array Oper} {Q : Exit → Act → World → Prop} (hops : ops = opsOf Try.f17 14) (w0 : World) (ok : Nat → Prop) (g : Nat) (at_ t p : Int) (A0 : Option Addr) (c0 : Nat) (es : List S60) (ad : Addr) (c : Nat) (ys : List S60) (i n : Nat) (a : Act) (w : World) (h0 : a.tmps[0]?.getD undef = .pointer (some ⟨g, 0, none⟩)) (h1 : a.tmps[1]?.getD undef = .int .i64 p) (h3 : a.tmps[3]?.getD undef = .slice (some ad) ys.length c) (h13 : a.tmps[13]?.getD undef = .int .i64 (i : Int))
    (hN : ∀ j, j ∈ usM.getD 4 [] → FM w0 ok g at_ t p A0 c0 es ad c ys i n j (slotO dstM a j) w) (hI : useIM 4 = true → IM w0 ok g at_ t p A0 c0 es ad c ys i n w) : wpOp Try.prog ops Q 4 (fun a' w' => ∃ v, a' = a.put (dstM 4) v ∧ FM w0 ok g at_ t p A0 c0 es ad c ys i n 4 (valO dstM 4 v) w' ∧ (Below w.heap.size w w' ∨ ((∀ j u, j < 23 → j ≠ 4 → killM 4 j = false → (ncM.getD j []).contains 4 = false → FM w0 ok g at_ t p A0 c0 es ad c ys i n j u w → FM w0 ok g at_ t p A0 c0 es ad c ys i n j u w') ∧ (killIM 4 = false → IM w0 ok g at_ t p A0 c0 es ad c ys i n w → IM w0 ok g at_ t p A0 c0 es ad c ys i n w')))) a w := by
  subst hops
  have n3 : a.tmps[80]?.getD undef = .pointer (some ⟨g, 2, none⟩) := hN 3 (by decide)
  have hi : IM w0 ok g at_ t p A0 c0 es ad c ys i n w := hI (by decide)
  have ho : (opsOf Try.f17 14)[4]? = some ({ dst := some 81, op := Go.Op.load 35 (Go.Operand.tmp 80), type := 35, pos := "rlog.go:89", after := #[{ on := 3, ground := Go.Ground.data }], guard := none } : Oper) := by kernel_rfl
  refine wpOp_plain ho rfl ?_
  clear hN hI ho
  obtain ⟨hnum, hg, hh, -⟩ := hi
  have hc : w.cell? ⟨g, 2, none⟩ = some (Value.slice A0 es.length c0) := by simp [World.cell?, hh]
  clear hh hnum
  go_simp
  first | exact ⟨_, rfl, rfl⟩ | exact ⟨_, rfl, rfl, .inl (Below.refl _ _)⟩
set_option maxRecDepth 100000 in
theorem sM_5 {ops : Array Oper} {Q : Exit → Act → World → Prop} (hops : ops = opsOf Try.f17 14) (w0 : World) (ok : Nat → Prop) (g : Nat) (at_ t p : Int) (A0 : Option Addr) (c0 : Nat) (es : List S60) (ad : Addr) (c : Nat) (ys : List S60) (i n : Nat) (a : Act) (w : World) (h0 : a.tmps[0]?.getD undef = .pointer (some ⟨g, 0, none⟩)) (h1 : a.tmps[1]?.getD undef = .int .i64 p) (h3 : a.tmps[3]?.getD undef = .slice (some ad) ys.length c) (h13 : a.tmps[13]?.getD undef = .int .i64 (i : Int))
    (hN : ∀ j, j ∈ usM.getD 5 [] → FM w0 ok g at_ t p A0 c0 es ad c ys i n j (slotO dstM a j) w) (hI : useIM 5 = true → IM w0 ok g at_ t p A0 c0 es ad c ys i n w) : wpOp Try.prog ops Q 5 (fun a' w' => ∃ v, a' = a.put (dstM 5) v ∧ FM w0 ok g at_ t p A0 c0 es ad c ys i n 5 (valO dstM 5 v) w' ∧ (Below w.heap.size w w' ∨ ((∀ j u, j < 23 → j ≠ 5 → killM 5 j = false → (ncM.getD j []).contains 5 = false → FM w0 ok g at_ t p A0 c0 es ad c ys i n j u w → FM w0 ok g at_ t p A0 c0 es ad c ys i n j u w') ∧ (killIM 5 = false → IM w0 ok g at_ t p A0 c0 es ad c ys i n w → IM w0 ok g at_ t p A0 c0 es ad c ys i n w')))) a w := by
  subst hops
  have ho : (opsOf Try.f17 14)[5]? = some ({ dst := some 82, op := Go.Op.move (Go.Operand.tmp 1), type := 3, pos := "rlog.go:89", after := #[], guard := none } : Oper) := by kernel_rfl
  refine wpOp_plain ho rfl ?_
  clear hN hI ho
  go_simp
  first | exact ⟨_, rfl, rfl⟩ | exact ⟨_, rfl, rfl, .inl (Below.refl _ _)⟩
set_option maxRecDepth 100000 in
theorem sM_6 {ops : Array Oper} {Q : Exit → Act → World → Prop} (hops : ops = opsOf Try.f17 14) (w0 : World) (ok : Nat → Prop) (g : Nat) (at_ t p : Int) (A0 : Option Addr) (c0 : Nat) (es : List S60) (ad : Addr) (c : Nat) (ys : List S60) (i n : Nat) (a : Act) (w : World) (h0 : a.tmps[0]?.getD undef = .pointer (some ⟨g, 0, none⟩)) (h1 : a.tmps[1]?.getD undef = .int .i64 p) (h3 : a.tmps[3]?.getD undef = .slice (some ad) ys.length c) (h13 : a.tmps[13]?.getD undef = .int .i64 (i : Int))
    (hN : ∀ j, j ∈ usM.getD 6 [] → FM w0 ok g at_ t p A0 c0 es ad c ys i n j (slotO dstM a j) w) (hI : useIM 6 = true → IM w0 ok g at_ t p A0 c0 es ad c ys i n w) : wpOp Try.prog ops Q 6 (fun a' w' => ∃ v, a' = a.put (dstM 6) v ∧ FM w0 ok g at_ t p A0 c0 es ad c ys i n 6 (valO dstM 6 v) w' ∧ (Below w.heap.size w w' ∨ ((∀ j u, j < 23 → j ≠ 6 → killM 6 j = false → (ncM.getD j []).contains 6 = false → FM w0 ok g at_ t p A0 c0 es ad c ys i n j u w → FM w0 ok g at_ t p A0 c0 es ad c ys i n j u w') ∧ (killIM 6 = false → IM w0 ok g at_ t p A0 c0 es ad c ys i n w → IM w0 ok g at_ t p A0 c0 es ad c ys i n w')))) a w := by
  subst hops
  have ho : (opsOf Try.f17 14)[6]? = some ({ dst := some 83, op := Go.Op.move (Go.Operand.tmp 13), type := 3, pos := "rlog.go:89", after := #[], guard := none } : Oper) := by kernel_rfl
  refine wpOp_plain ho rfl ?_
  clear hN hI ho
  go_simp
  first | exact ⟨_, rfl, rfl⟩ | exact ⟨_, rfl, rfl, .inl (Below.refl _ _)⟩
set_option maxRecDepth 100000 in
theorem sM_7 {ops : Array Oper} {Q : Exit → Act → World → Prop} (hops : ops = opsOf Try.f17 14) (w0 : World) (ok : Nat → Prop) (g : Nat) (at_ t p : Int) (A0 : Option Addr) (c0 : Nat) (es : List S60) (ad : Addr) (c : Nat) (ys : List S60) (i n : Nat) (a : Act) (w : World) (h0 : a.tmps[0]?.getD undef = .pointer (some ⟨g, 0, none⟩)) (h1 : a.tmps[1]?.getD undef = .int .i64 p) (h3 : a.tmps[3]?.getD undef = .slice (some ad) ys.length c) (h13 : a.tmps[13]?.getD undef = .int .i64 (i : Int))
    (hN : ∀ j, j ∈ usM.getD 7 [] → FM w0 ok g at_ t p A0 c0 es ad c ys i n j (slotO dstM a j) w) (hI : useIM 7 = true → IM w0 ok g at_ t p A0 c0 es ad c ys i n w) : wpOp Try.prog ops Q 7 (fun a' w' => ∃ v, a' = a.put (dstM 7) v ∧ FM w0 ok g at_ t p A0 c0 es ad c ys i n 7 (valO dstM 7 v) w' ∧ (Below w.heap.size w w' ∨ ((∀ j u, j < 23 → j ≠ 7 → killM 7 j = false → (ncM.getD j []).contains 7 = false → FM w0 ok g at_ t p A0 c0 es ad c ys i n j u w → FM w0 ok g at_ t p A0 c0 es ad c ys i n j u w') ∧ (killIM 7 = false → IM w0 ok g at_ t p A0 c0 es ad c ys i n w → IM w0 ok g at_ t p A0 c0 es ad c ys i n w')))) a w := by
  subst hops
  have n5 : a.tmps[82]?.getD undef = .int .i64 p := hN 5 (by decide)
  have n6 : a.tmps[83]?.getD undef = .int .i64 (i : Int) := hN 6 (by decide)
  have hi : IM w0 ok g at_ t p A0 c0 es ad c ys i n w := hI (by decide)
  have ho : (opsOf Try.f17 14)[7]? = some ({ dst := some 84, op := Go.Op.binOp Go.BinOp.add 3 (Go.Operand.tmp 82) (Go.Operand.tmp 83) 3, type := 3, pos := "rlog.go:89", after := #[{ on := 5, ground := Go.Ground.data }, { on := 6, ground := Go.Ground.data }], guard := none } : Oper) := by kernel_rfl
  refine wpOp_plain ho rfl ?_
  clear hN hI ho
  obtain ⟨hnum, -⟩ := hi
  have hw : IntKind.i64.wrap (p + (i : Int)) = p + i := by rw [i64_w]; unfold wrap64; omega
  clear hnum
  go_simp
  first | exact ⟨_, rfl, rfl⟩ | exact ⟨_, rfl, rfl, .inl (Below.refl _ _)⟩
set_option maxRecDepth 100000 in
theorem sM_8 {ops : Array Oper} {Q : Exit → Act → World → Prop} (hops : ops = opsOf Try.f17 14) (w0 : World) (ok : Nat → Prop) (g : Nat) (at_ t p : Int) (A0 : Option Addr) (c0 : Nat) (es : List S60) (ad : Addr) (c : Nat) (ys : List S60) (i n : Nat) (a : Act) (w : World) (h0 : a.tmps[0]?.getD undef = .pointer (some ⟨g, 0, none⟩)) (h1 : a.tmps[1]?.getD undef = .int .i64 p) (h3 : a.tmps[3]?.getD undef = .slice (some ad) ys.length c) (h13 : a.tmps[13]?.getD undef = .int .i64 (i : Int))
    (hN : ∀ j, j ∈ usM.getD 8 [] → FM w0 ok g at_ t p A0 c0 es ad c ys i n j (slotO dstM a j) w) (hI : useIM 8 = true → IM w0 ok g at_ t p A0 c0 es ad c ys i n w) : wpOp Try.prog ops Q 8 (fun a' w' => ∃ v, a' = a.put (dstM 8) v ∧ FM w0 ok g at_ t p A0 c0 es ad c ys i n 8 (valO dstM 8 v) w' ∧ (Below w.heap.size w w' ∨ ((∀ j u, j < 23 → j ≠ 8 → killM 8 j = false → (ncM.getD j []).contains 8 = false → FM w0 ok g at_ t p A0 c0 es ad c ys i n j u w → FM w0 ok g at_ t p A0 c0 es ad c ys i n j u w') ∧ (killIM 8 = false → IM w0 ok g at_ t p A0 c0 es ad c ys i n w → IM w0 ok g at_ t p A0 c0 es ad c ys i n w')))) a w := by
  subst hops
  have ho : (opsOf Try.f17 14)[8]? = some ({ dst := some 85, op := Go.Op.move (Go.Operand.tmp 0), type := 24, pos := "rlog.go:89", after := #[], guard := none } : Oper) := by kernel_rfl
  refine wpOp_plain ho rfl ?_
  clear hN hI ho
  go_simp
  first | exact ⟨_, rfl, rfl⟩ | exact ⟨_, rfl, rfl, .inl (Below.refl _ _)⟩
set_option maxRecDepth 100000 in
theorem sM_9 {ops : Array Oper} {Q : Exit → Act → World → Prop} (hops : ops = opsOf Try.f17 14) (w0 : World) (ok : Nat → Prop) (g : Nat) (at_ t p : Int) (A0 : Option Addr) (c0 : Nat) (es : List S60) (ad : Addr) (c : Nat) (ys : List S60) (i n : Nat) (a : Act) (w : World) (h0 : a.tmps[0]?.getD undef = .pointer (some ⟨g, 0, none⟩)) (h1 : a.tmps[1]?.getD undef = .int .i64 p) (h3 : a.tmps[3]?.getD undef = .slice (some ad) ys.length c) (h13 : a.tmps[13]?.getD undef = .int .i64 (i : Int))
    (hN : ∀ j, j ∈ usM.getD 9 [] → FM w0 ok g at_ t p A0 c0 es ad c ys i n j (slotO dstM a j) w) (hI : useIM 9 = true → IM w0 ok g at_ t p A0 c0 es ad c ys i n w) : wpOp Try.prog ops Q 9 (fun a' w' => ∃ v, a' = a.put (dstM 9) v ∧ FM w0 ok g at_ t p A0 c0 es ad c ys i n 9 (valO dstM 9 v) w' ∧ (Below w.heap.size w w' ∨ ((∀ j u, j < 23 → j ≠ 9 → killM 9 j = false → (ncM.getD j []).contains 9 = false → FM w0 ok g at_ t p A0 c0 es ad c ys i n j u w → FM w0 ok g at_ t p A0 c0 es ad c ys i n j u w') ∧ (killIM 9 = false → IM w0 ok g at_ t p A0 c0 es ad c ys i n w → IM w0 ok g at_ t p A0 c0 es ad c ys i n w')))) a w := by
  subst hops
  have n8 : a.tmps[85]?.getD undef = .pointer (some ⟨g, 0, none⟩) := hN 8 (by decide)
  have ho : (opsOf Try.f17 14)[9]? = some ({ dst := some 86, op := Go.Op.nilCheck (Go.Operand.tmp 85), type := 0, pos := "rlog.go:89", after := #[{ on := 8, ground := Go.Ground.data }], guard := none } : Oper) := by kernel_rfl
  refine wpOp_plain ho rfl ?_
  clear hN hI ho
  go_simp
  first | exact ⟨_, rfl, rfl⟩ | exact ⟨_, rfl, rfl, .inl (Below.refl _ _)⟩
set_option maxRecDepth 100000 in
theorem sM_10 {ops : Array Oper} {Q : Exit → Act → World → Prop} (hops : ops = opsOf Try.f17 14) (w0 : World) (ok : Nat → Prop) (g : Nat) (at_ t p : Int) (A0 : Option Addr) (c0 : Nat) (es : List S60) (ad : Addr) (c : Nat) (ys : List S60) (i n : Nat) (a : Act) (w : World) (h0 : a.tmps[0]?.getD undef = .pointer (some ⟨g, 0, none⟩)) (h1 : a.tmps[1]?.getD undef = .int .i64 p) (h3 : a.tmps[3]?.getD undef = .slice (some ad) ys.length c) (h13 : a.tmps[13]?.getD undef = .int .i64 (i : Int))
    (hN : ∀ j, j ∈ usM.getD 10 [] → FM w0 ok g at_ t p A0 c0 es ad c ys i n j (slotO dstM a j) w) (hI : useIM 10 = true → IM w0 ok g at_ t p A0 c0 es ad c ys i n w) : wpOp Try.prog ops Q 10 (fun a' w' => ∃ v, a' = a.put (dstM 10) v ∧ FM w0 ok g at_ t p A0 c0 es ad c ys i n 10 (valO dstM 10 v) w' ∧ (Below w.heap.size w w' ∨ ((∀ j u, j < 23 → j ≠ 10 → killM 10 j = false → (ncM.getD j []).contains 10 = false → FM w0 ok g at_ t p A0 c0 es ad c ys i n j u w → FM w0 ok g at_ t p A0 c0 es ad c ys i n j u w') ∧ (killIM 10 = false → IM w0 ok g at_ t p A0 c0 es ad c ys i n w → IM w0 ok g at_ t p A0 c0 es ad c ys i n w')))) a w := by
  subst hops
  have n9 : a.tmps[86]?.getD undef = .pointer (some ⟨g, 0, none⟩) := hN 9 (by decide)
  have ho : (opsOf Try.f17 14)[10]? = some ({ dst := some 87, op := Go.Op.fieldAddr 62 (Go.Operand.tmp 86) 0, type := 0, pos := "rlog.go:89", after := #[{ on := 9, ground := Go.Ground.data }], guard := none } : Oper) := by kernel_rfl
  refine wpOp_plain ho rfl ?_
  clear hN hI ho
  go_simp
  first | exact ⟨_, rfl, rfl⟩ | exact ⟨_, rfl, rfl, .inl (Below.refl _ _)⟩
set_option maxRecDepth 100000 in
theorem sM_11 {ops : Array Oper} {Q : Exit → Act → World → Prop} (hops : ops = opsOf Try.f17 14) (w0 : World) (ok : Nat → Prop) (g : Nat) (at_ t p : Int) (A0 : Option Addr) (c0 : Nat) (es : List S60) (ad : Addr) (c : Nat) (ys : List S60) (i n : Nat) (a : Act) (w : World) (h0 : a.tmps[0]?.getD undef = .pointer (some ⟨g, 0, none⟩)) (h1 : a.tmps[1]?.getD undef = .int .i64 p) (h3 : a.tmps[3]?.getD undef = .slice (some ad) ys.length c) (h13 : a.tmps[13]?.getD undef = .int .i64 (i : Int))
    (hN : ∀ j, j ∈ usM.getD 11 [] → FM w0 ok g at_ t p A0 c0 es ad c ys i n j (slotO dstM a j) w) (hI : useIM 11 = true → IM w0 ok g at_ t p A0 c0 es ad c ys i n w) : wpOp Try.prog ops Q 11 (fun a' w' => ∃ v, a' = a.put (dstM 11) v ∧ FM w0 ok g at_ t p A0 c0 es ad c ys i n 11 (valO dstM 11 v) w' ∧ (Below w.heap.size w w' ∨ ((∀ j u, j < 23 → j ≠ 11 → killM 11 j = false → (ncM.getD j []).contains 11 = false → FM w0 ok g at_ t p A0 c0 es ad c ys i n j u w → FM w0 ok g at_ t p A0 c0 es ad c ys i n j u w') ∧ (killIM 11 = false → IM w0 ok g at_ t p A0 c0 es ad c ys i n w → IM w0 ok g at_ t p A0 c0 es ad c ys i n w')))) a w := by
  subst hops
  have n10 : a.tmps[87]?.getD undef = .pointer (some ⟨g, 0, none⟩) := hN 10 (by decide)
  have hi : IM w0 ok g at_ t p A0 c0 es ad c ys i n w := hI (by decide)
  have ho : (opsOf Try.f17 14)[11]? = some ({ dst := some 88, op := Go.Op.load 3 (Go.Operand.tmp 87), type := 3, pos := "rlog.go:89", after := #[{ on := 10, ground := Go.Ground.data }], guard := none } : Oper) := by kernel_rfl
  refine wpOp_plain ho rfl ?_
  clear hN hI ho
  obtain ⟨hnum, hg, hh, -⟩ := hi
  have hc : w.cell? ⟨g, 0, none⟩ = some (.int .i64 at_) := by simp [World.cell?, hh]
  clear hh hnum
  go_simp
  first | exact ⟨_, rfl, rfl⟩ | exact ⟨_, rfl, rfl, .inl (Below.refl _ _)⟩
set_option maxRecDepth 100000 in
theorem sM_12 {ops : Array Oper} {Q : Exit → Act → World → Prop} (hops : ops = opsOf Try.f17 14) (w0 : World) (ok : Nat → Prop) (g : Nat) (at_ t p : Int) (A0 : Option Addr) (c0 : Nat) (es : List S60) (ad : Addr) (c : Nat) (ys : List S60) (i n : Nat) (a : Act) (w : World) (h0 : a.tmps[0]?.getD undef = .pointer (some ⟨g, 0, none⟩)) (h1 : a.tmps[1]?.getD undef = .int .i64 p) (h3 : a.tmps[3]?.getD undef = .slice (some ad) ys.length c) (h13 : a.tmps[13]?.getD undef = .int .i64 (i : Int))
    (hN : ∀ j, j ∈ usM.getD 12 [] → FM w0 ok g at_ t p A0 c0 es ad c ys i n j (slotO dstM a j) w) (hI : useIM 12 = true → IM w0 ok g at_ t p A0 c0 es ad c ys i n w) : wpOp Try.prog ops Q 12 (fun a' w' => ∃ v, a' = a.put (dstM 12) v ∧ FM w0 ok g at_ t p A0 c0 es ad c ys i n 12 (valO dstM 12 v) w' ∧ (Below w.heap.size w w' ∨ ((∀ j u, j < 23 → j ≠ 12 → killM 12 j = false → (ncM.getD j []).contains 12 = false → FM w0 ok g at_ t p A0 c0 es ad c ys i n j u w → FM w0 ok g at_ t p A0 c0 es ad c ys i n j u w') ∧ (killIM 12 = false → IM w0 ok g at_ t p A0 c0 es ad c ys i n w → IM w0 ok g at_ t p A0 c0 es ad c ys i n w')))) a w := by
  subst hops
  have n7 : a.tmps[84]?.getD undef = .int .i64 (p + i) := hN 7 (by decide)
  have n11 : a.tmps[88]?.getD undef = .int .i64 at_ := hN 11 (by decide)
  have hi : IM w0 ok g at_ t p A0 c0 es ad c ys i n w := hI (by decide)
  have ho : (opsOf Try.f17 14)[12]? = some ({ dst := some 89, op := Go.Op.binOp Go.BinOp.sub 3 (Go.Operand.tmp 84) (Go.Operand.tmp 88) 3, type := 3, pos := "rlog.go:89", after := #[{ on := 7, ground := Go.Ground.data }, { on := 11, ground := Go.Ground.data }], guard := none } : Oper) := by kernel_rfl
  refine wpOp_plain ho rfl ?_
  clear hN hI ho
  obtain ⟨hnum, -⟩ := hi
  have hw : IntKind.i64.wrap (p + (i : Int) - at_) = (n : Int) := by rw [i64_w]; unfold wrap64; omega
  clear hnum
  go_simp
  first | exact ⟨_, rfl, rfl⟩ | exact ⟨_, rfl, rfl, .inl (Below.refl _ _)⟩
set_option maxRecDepth 100000 in
theorem sM_13 {ops : Array Oper} {Q : Exit → Act → World → Prop} (hops : ops = opsOf Try.f17 14) (w0 : World) (ok : Nat → Prop) (g : Nat) (at_ t p : Int) (A0 : Option Addr) (c0 : Nat) (es : List S60) (ad : Addr) (c : Nat) (ys : List S60) (i n : Nat) (a : Act) (w : World) (h0 : a.tmps[0]?.getD undef = .pointer (some ⟨g, 0, none⟩)) (h1 : a.tmps[1]?.getD undef = .int .i64 p) (h3 : a.tmps[3]?.getD undef = .slice (some ad) ys.length c) (h13 : a.tmps[13]?.getD undef = .int .i64 (i : Int))
    (hN : ∀ j, j ∈ usM.getD 13 [] → FM w0 ok g at_ t p A0 c0 es ad c ys i n j (slotO dstM a j) w) (hI : useIM 13 = true → IM w0 ok g at_ t p A0 c0 es ad c ys i n w) : wpOp Try.prog ops Q 13 (fun a' w' => ∃ v, a' = a.put (dstM 13) v ∧ FM w0 ok g at_ t p A0 c0 es ad c ys i n 13 (valO dstM 13 v) w' ∧ (Below w.heap.size w w' ∨ ((∀ j u, j < 23 → j ≠ 13 → killM 13 j = false → (ncM.getD j []).contains 13 = false → FM w0 ok g at_ t p A0 c0 es ad c ys i n j u w → FM w0 ok g at_ t p A0 c0 es ad c ys i n j u w') ∧ (killIM 13 = false → IM w0 ok g at_ t p A0 c0 es ad c ys i n w → IM w0 ok g at_ t p A0 c0 es ad c ys i n w')))) a w := by
  subst hops
  have n4 : a.tmps[81]?.getD undef = (Value.slice A0 es.length c0) := hN 4 (by decide)
  have n12 : a.tmps[89]?.getD undef = .int .i64 (n : Int) := hN 12 (by decide)
  have hi : IM w0 ok g at_ t p A0 c0 es ad c ys i n w := hI (by decide)
  have ho : (opsOf Try.f17 14)[13]? = some ({ dst := some 90, op := Go.Op.slice 35 (Go.Operand.tmp 81) none (some (Go.Operand.tmp 89)) none, type := 35, pos := "rlog.go:89", after := #[{ on := 4, ground := Go.Ground.data }, { on := 12, ground := Go.Ground.data }], guard := none } : Oper) := by kernel_rfl
  refine wpOp_plain ho rfl ?_
  clear hN hI ho
  obtain ⟨hnum, -⟩ := hi
  have q1 : (n : Int) ≤ (c0 : Int) := by omega
  have q2 : n ≤ c0 := by omega
  have q3 : (0 : Int) ≤ (n : Int) := by omega
  clear hnum
  go_simp
  first | exact ⟨_, rfl, rfl⟩ | exact ⟨_, rfl, rfl, .inl (Below.refl _ _)⟩
set_option maxRecDepth 100000 in
theorem sM_14 {ops : Array Oper} {Q : Exit → Act → World → Prop} (hops : ops = opsOf Try.f17 14) (w0 : World) (ok : Nat → Prop) (g : Nat) (at_ t p : Int) (A0 : Option Addr) (c0 : Nat) (es : List S60) (ad : Addr) (c : Nat) (ys : List S60) (i n : Nat) (a : Act) (w : World) (h0 : a.tmps[0]?.getD undef = .pointer (some ⟨g, 0, none⟩)) (h1 : a.tmps[1]?.getD undef = .int .i64 p) (h3 : a.tmps[3]?.getD undef = .slice (some ad) ys.length c) (h13 : a.tmps[13]?.getD undef = .int .i64 (i : Int))
    (hN : ∀ j, j ∈ usM.getD 14 [] → FM w0 ok g at_ t p A0 c0 es ad c ys i n j (slotO dstM a j) w) (hI : useIM 14 = true → IM w0 ok g at_ t p A0 c0 es ad c ys i n w) : wpOp Try.prog ops Q 14 (fun a' w' => ∃ v, a' = a.put (dstM 14) v ∧ FM w0 ok g at_ t p A0 c0 es ad c ys i n 14 (valO dstM 14 v) w' ∧ (Below w.heap.size w w' ∨ ((∀ j u, j < 23 → j ≠ 14 → killM 14 j = false → (ncM.getD j []).contains 14 = false → FM w0 ok g at_ t p A0 c0 es ad c ys i n j u w → FM w0 ok g at_ t p A0 c0 es ad c ys i n j u w') ∧ (killIM 14 = false → IM w0 ok g at_ t p A0 c0 es ad c ys i n w → IM w0 ok g at_ t p A0 c0 es ad c ys i n w')))) a w := by
  subst hops
  have n13 : a.tmps[90]?.getD undef = .slice A0 n c0 := hN 13 (by decide)
  have hi : IM w0 ok g at_ t p A0 c0 es ad c ys i n w := hI (by decide)
  have ho : (opsOf Try.f17 14)[14]? = some ({ dst := some 91, op := Go.Op.call { callee := Go.Callee.value (Go.Operand.func 29), args := #[Go.Operand.tmp 90], argTypes := #[35] }, type := 35, pos := "rlog.go:89", after := #[{ on := 13, ground := Go.Ground.data }], guard := none } : Oper) := by kernel_rfl
  refine wpOp_plain ho rfl ?_
  clear hN hI ho
  obtain ⟨hnum, -⟩ := hi
  have HH := Aside0.mk (clip_calls w A0 n c0 (by omega))
  clear hnum
  go_simp
  refine HH.out.mono ?_
  rintro e w' ⟨rfl, rfl⟩
  first | exact ⟨_, rfl, rfl⟩ | exact ⟨_, rfl, rfl, .inl (Below.refl _ _)⟩
set_option maxRecDepth 100000 in
theorem sM_15 {ops : Array Oper} {Q : Exit → Act → World → Prop} (hops : ops = opsOf Try.f17 14) (w0 : World) (ok : Nat → Prop) (g : Nat) (at_ t p : Int) (A0 : Option Addr) (c0 : Nat) (es : List S60) (ad : Addr) (c : Nat) (ys : List S60) (i n : Nat) (a : Act) (w : World) (h0 : a.tmps[0]?.getD undef = .pointer (some ⟨g, 0, none⟩)) (h1 : a.tmps[1]?.getD undef = .int .i64 p) (h3 : a.tmps[3]?.getD undef = .slice (some ad) ys.length c) (h13 : a.tmps[13]?.getD undef = .int .i64 (i : Int))
    (hN : ∀ j, j ∈ usM.getD 15 [] → FM w0 ok g at_ t p A0 c0 es ad c ys i n j (slotO dstM a j) w) (hI : useIM 15 = true → IM w0 ok g at_ t p A0 c0 es ad c ys i n w) : wpOp Try.prog ops Q 15 (fun a' w' => ∃ v, a' = a.put (dstM 15) v ∧ FM w0 ok g at_ t p A0 c0 es ad c ys i n 15 (valO dstM 15 v) w' ∧ (Below w.heap.size w w' ∨ ((∀ j u, j < 23 → j ≠ 15 → killM 15 j = false → (ncM.getD j []).contains 15 = false → FM w0 ok g at_ t p A0 c0 es ad c ys i n j u w → FM w0 ok g at_ t p A0 c0 es ad c ys i n j u w') ∧ (killIM 15 = false → IM w0 ok g at_ t p A0 c0 es ad c ys i n w → IM w0 ok g at_ t p A0 c0 es ad c ys i n w')))) a w := by
  subst hops
  have ho : (opsOf Try.f17 14)[15]? = some ({ dst := some 92, op := Go.Op.move (Go.Operand.tmp 3), type := 35, pos := "rlog.go:89", after := #[], guard := none } : Oper) := by kernel_rfl
  refine wpOp_plain ho rfl ?_
  clear hN hI ho
  go_simp
  first | exact ⟨_, rfl, rfl⟩ | exact ⟨_, rfl, rfl, .inl (Below.refl _ _)⟩
set_option maxRecDepth 100000 in
theorem sM_16 {ops : Array Oper} {Q : Exit → Act → World → Prop} (hops : ops = opsOf Try.f17 14) (w0 : World) (ok : Nat → Prop) (g : Nat) (at_ t p : Int) (A0 : Option Addr) (c0 : Nat) (es : List S60) (ad : Addr) (c : Nat) (ys : List S60) (i n : Nat) (a : Act) (w : World) (h0 : a.tmps[0]?.getD undef = .pointer (some ⟨g, 0, none⟩)) (h1 : a.tmps[1]?.getD undef = .int .i64 p) (h3 : a.tmps[3]?.getD undef = .slice (some ad) ys.length c) (h13 : a.tmps[13]?.getD undef = .int .i64 (i : Int))
    (hN : ∀ j, j ∈ usM.getD 16 [] → FM w0 ok g at_ t p A0 c0 es ad c ys i n j (slotO dstM a j) w) (hI : useIM 16 = true → IM w0 ok g at_ t p A0 c0 es ad c ys i n w) : wpOp Try.prog ops Q 16 (fun a' w' => ∃ v, a' = a.put (dstM 16) v ∧ FM w0 ok g at_ t p A0 c0 es ad c ys i n 16 (valO dstM 16 v) w' ∧ (Below w.heap.size w w' ∨ ((∀ j u, j < 23 → j ≠ 16 → killM 16 j = false → (ncM.getD j []).contains 16 = false → FM w0 ok g at_ t p A0 c0 es ad c ys i n j u w → FM w0 ok g at_ t p A0 c0 es ad c ys i n j u w') ∧ (killIM 16 = false → IM w0 ok g at_ t p A0 c0 es ad c ys i n w → IM w0 ok g at_ t p A0 c0 es ad c ys i n w')))) a w := by
  subst hops
  have ho : (opsOf Try.f17 14)[16]? = some ({ dst := some 93, op := Go.Op.move (Go.Operand.tmp 13), type := 3, pos := "rlog.go:89", after := #[], guard := none } : Oper) := by kernel_rfl
  refine wpOp_plain ho rfl ?_
  clear hN hI ho
  go_simp
  first | exact ⟨_, rfl, rfl⟩ | exact ⟨_, rfl, rfl, .inl (Below.refl _ _)⟩
set_option maxRecDepth 100000 in
theorem sM_17 {ops : Array Oper} {Q : Exit → Act → World → Prop} (hops : ops = opsOf Try.f17 14) (w0 : World) (ok : Nat → Prop) (g : Nat) (at_ t p : Int) (A0 : Option Addr) (c0 : Nat) (es : List S60) (ad : Addr) (c : Nat) (ys : List S60) (i n : Nat) (a : Act) (w : World) (h0 : a.tmps[0]?.getD undef = .pointer (some ⟨g, 0, none⟩)) (h1 : a.tmps[1]?.getD undef = .int .i64 p) (h3 : a.tmps[3]?.getD undef = .slice (some ad) ys.length c) (h13 : a.tmps[13]?.getD undef = .int .i64 (i : Int))
    (hN : ∀ j, j ∈ usM.getD 17 [] → FM w0 ok g at_ t p A0 c0 es ad c ys i n j (slotO dstM a j) w) (hI : useIM 17 = true → IM w0 ok g at_ t p A0 c0 es ad c ys i n w) : wpOp Try.prog ops Q 17 (fun a' w' => ∃ v, a' = a.put (dstM 17) v ∧ FM w0 ok g at_ t p A0 c0 es ad c ys i n 17 (valO dstM 17 v) w' ∧ (Below w.heap.size w w' ∨ ((∀ j u, j < 23 → j ≠ 17 → killM 17 j = false → (ncM.getD j []).contains 17 = false → FM w0 ok g at_ t p A0 c0 es ad c ys i n j u w → FM w0 ok g at_ t p A0 c0 es ad c ys i n j u w') ∧ (killIM 17 = false → IM w0 ok g at_ t p A0 c0 es ad c ys i n w → IM w0 ok g at_ t p A0 c0 es ad c ys i n w')))) a w := by
  subst hops
  have n15 : a.tmps[92]?.getD undef = .slice (some ad) ys.length c := hN 15 (by decide)
  have n16 : a.tmps[93]?.getD undef = .int .i64 (i : Int) := hN 16 (by decide)
  have hi : IM w0 ok g at_ t p A0 c0 es ad c ys i n w := hI (by decide)
  have ho : (opsOf Try.f17 14)[17]? = some ({ dst := some 94, op := Go.Op.slice 35 (Go.Operand.tmp 92) (some (Go.Operand.tmp 93)) none none, type := 35, pos := "rlog.go:89", after := #[{ on := 15, ground := Go.Ground.data }, { on := 16, ground := Go.Ground.data }], guard := none } : Oper) := by kernel_rfl
  refine wpOp_plain ho rfl ?_
  clear hN hI ho
  obtain ⟨hnum, -⟩ := hi
  have q1 : (i : Int) ≤ (ys.length : Int) := by omega
  have q2 : ys.length ≤ c := by omega
  have q3 : (0 : Int) ≤ (i : Int) := by omega
  have q4 : ¬ c = i := by omega
  clear hnum
  go_simp
  first | exact ⟨_, rfl, rfl⟩ | exact ⟨_, rfl, rfl, .inl (Below.refl _ _)⟩
set_option maxRecDepth 100000 in
theorem sM_18 {ops : Array Oper} {Q : Exit → Act → World → Prop} (hops : ops = opsOf Try.f17 14) (w0 : World) (ok : Nat → Prop) (g : Nat) (at_ t p : Int) (A0 : Option Addr) (c0 : Nat) (es : List S60) (ad : Addr) (c : Nat) (ys : List S60) (i n : Nat) (a : Act) (w : World) (h0 : a.tmps[0]?.getD undef = .pointer (some ⟨g, 0, none⟩)) (h1 : a.tmps[1]?.getD undef = .int .i64 p) (h3 : a.tmps[3]?.getD undef = .slice (some ad) ys.length c) (h13 : a.tmps[13]?.getD undef = .int .i64 (i : Int))
    (hN : ∀ j, j ∈ usM.getD 18 [] → FM w0 ok g at_ t p A0 c0 es ad c ys i n j (slotO dstM a j) w) (hI : useIM 18 = true → IM w0 ok g at_ t p A0 c0 es ad c ys i n w) : wpOp Try.prog ops Q 18 (fun a' w' => ∃ v, a' = a.put (dstM 18) v ∧ FM w0 ok g at_ t p A0 c0 es ad c ys i n 18 (valO dstM 18 v) w' ∧ (Below w.heap.size w w' ∨ ((∀ j u, j < 23 → j ≠ 18 → killM 18 j = false → (ncM.getD j []).contains 18 = false → FM w0 ok g at_ t p A0 c0 es ad c ys i n j u w → FM w0 ok g at_ t p A0 c0 es ad c ys i n j u w') ∧ (killIM 18 = false → IM w0 ok g at_ t p A0 c0 es ad c ys i n w → IM w0 ok g at_ t p A0 c0 es ad c ys i n w')))) a w := by
  subst hops
  have n17 : a.tmps[94]?.getD undef = .slice (some (ad.add (i * 14))) (ys.length - i) (c - i) := hN 17 (by decide)
  have hi : IM w0 ok g at_ t p A0 c0 es ad c ys i n w := hI (by decide)
  have ho : (opsOf Try.f17 14)[18]? = some ({ dst := some 95, op := Go.Op.call { callee := Go.Callee.value (Go.Operand.func 28), args := #[Go.Operand.tmp 94], argTypes := #[35] }, type := 35, pos := "rlog.go:89", after := #[{ on := 17, ground := Go.Ground.data }, { on := 14, ground := Go.Ground.chain }], guard := none } : Oper) := by kernel_rfl
  refine wpOp_plain ho rfl ?_
  clear hN hI ho
  obtain ⟨hnum, hg, hh, hR, hC, hoks, hK, hB⟩ := hi
  have hD : Kd.C k60 w (some (ad.add (i * 14))) (ys.drop i).length (ys.drop i) := by
    have := Kd.C_drop hC (m := i) (by omega) (c := c) (by omega)
    rw [if_neg (by omega)] at this
    exact this
  have hid := owned_id (ys.drop i) (by rw [List.length_drop]; omega) (fun x hx => hoks x (List.mem_of_mem_drop hx))
  have hcall := rlog_owned.calls _ (some (ad.add (i * 14))) (c - i) (ys.drop i) _ w hD (by rw [List.length_drop]; omega) hid
  rw [List.length_drop] at hcall
  have HH := Aside0.mk hcall
  have HK := Aside0.mk hK
  clear hh hR hC hK hB hD hid hcall hnum hoks
  go_simp
  refine HH.out.mono ?_
  rintro e w' ⟨v, rfl, hS, hb⟩
  exact ⟨_, rfl, Kd.R_lower (Kd.S_R hS) HK.out.1, .inl hb⟩
set_option maxRecDepth 100000 in
theorem sM_19 {ops : Array Oper} {Q : Exit → Act → World → Prop} (hops : ops = opsOf Try.f17 14) (w0 : World) (ok : Nat → Prop) (g : Nat) (at_ t p : Int) (A0 : Option Addr) (c0 : Nat) (es : List S60) (ad : Addr) (c : Nat) (ys : List S60) (i n : Nat) (a : Act) (w : World) (h0 : a.tmps[0]?.getD undef = .pointer (some ⟨g, 0, none⟩)) (h1 : a.tmps[1]?.getD undef = .int .i64 p) (h3 : a.tmps[3]?.getD undef = .slice (some ad) ys.length c) (h13 : a.tmps[13]?.getD undef = .int .i64 (i : Int))
    (hN : ∀ j, j ∈ usM.getD 19 [] → FM w0 ok g at_ t p A0 c0 es ad c ys i n j (slotO dstM a j) w) (hI : useIM 19 = true → IM w0 ok g at_ t p A0 c0 es ad c ys i n w) : wpOp Try.prog ops Q 19 (fun a' w' => ∃ v, a' = a.put (dstM 19) v ∧ FM w0 ok g at_ t p A0 c0 es ad c ys i n 19 (valO dstM 19 v) w' ∧ (Below w.heap.size w w' ∨ ((∀ j u, j < 23 → j ≠ 19 → killM 19 j = false → (ncM.getD j []).contains 19 = false → FM w0 ok g at_ t p A0 c0 es ad c ys i n j u w → FM w0 ok g at_ t p A0 c0 es ad c ys i n j u w') ∧ (killIM 19 = false → IM w0 ok g at_ t p A0 c0 es ad c ys i n w → IM w0 ok g at_ t p A0 c0 es ad c ys i n w')))) a w := by
  subst hops
  have n14 : a.tmps[91]?.getD undef = .slice A0 n n := hN 14 (by decide)
  have n18 : (fun (v : Value) (w : World) => Kd.R k60 60 w w0.heap.size (fun _ => True) v (ys.drop i)) (a.tmps[95]?.getD undef) w := hN 18 (by decide)
  have hi : IM w0 ok g at_ t p A0 c0 es ad c ys i n w := hI (by decide)
  have ho : (opsOf Try.f17 14)[19]? = some ({ dst := some 96, op := Go.Op.call { callee := Go.Callee.builtin Go.Builtin.append, args := #[Go.Operand.tmp 91, Go.Operand.tmp 95], argTypes := #[35, 35] }, type := 35, pos := "rlog.go:89", after := #[{ on := 14, ground := Go.Ground.data }, { on := 18, ground := Go.Ground.data }, { on := 18, ground := Go.Ground.chain }], guard := none } : Oper) := by kernel_rfl
  refine wpOp_plain ho rfl ?_
  clear hN hI ho
  obtain ⟨hnum, hg, hh, hR, hC, hoks, hK, hB⟩ := hi
  have n18' : Kd.R k60 60 w w0.heap.size (fun _ => True) (a.tmps[95]?.getD undef) (ys.drop i) := n18
  obtain ⟨_, hO⟩ := Kd.R_bound n18'
  obtain ⟨A2, c2, e2, hc2, hrr⟩ := OwnRow.reads hO
  have hdl : (ys.drop i).length = ys.length - i := List.length_drop
  obtain ⟨v1, w1, hrun, hR1, hgr⟩ := R_append_full (P := Try.prog) k60 (W := w) 35 60 35 _ 192 Try.underlying35 info60 rfl (by decide) A0 es.length c0 n es (ys.drop i) A2 (ys.drop i).length c2 (fun k => (ok k ∨ w0.heap.size ≤ k) ∧ k ≠ g) (fun k => w0.heap.size ≤ k)
    (Kd.R_mono hR (fun k hk => ⟨.inl hk.1.1, hk.2⟩)) (by omega) hrr (by omega) (fun x cs h => k60.M_mono (fun k hk => hk.1.2.1) (k60.M_lower (Nat.zero_le _) h))
    (fun k hk => ⟨.inr hk, by omega⟩) (fun k hk => ⟨.inr (Nat.le_trans hK.1 hk), by have := hK.1; omega⟩) (by omega) (by decide)
  have e9 : a.tmps.getD 91 undef = .slice A0 n n := by simp only [Array.getD_eq_getD_getElem?]; exact n14
  have e11 : a.tmps.getD 95 undef = .slice A2 (ys.drop i).length c2 := by simp only [Array.getD_eq_getD_getElem?]; exact e2
  have hfin : FM w0 ok g at_ t p A0 c0 es ad c ys i n 19 (valO dstM 19 v1) w1 := by
    refine ⟨hg, by omega, ?_, hR1, Kept.of_grown hgr hK (fun k hk => by cases hk), hB.grown hgr (Nat.zero_le _) (fun k hk => by cases hk)⟩
    exact (hgr.block g (by have := hK.1; omega) (by simp)).trans hh
  unfold Oper.wp execOp
  simp only [Act.eval, resolve, invoke, builtin, Sem.run_bind, Sem.run_pure, Result.andThen_ok, List.map_toArray, List.map_cons, List.map_nil, e9, e11, hrun]
  refine ⟨v1, rfl, hfin, .inr ⟨?_, ?_⟩⟩
  · intro j u hj hne hk hcc hF
    have hj' : j = 0 ∨ j = 1 ∨ j = 2 ∨ j = 3 ∨ j = 4 ∨ j = 5 ∨ j = 6 ∨ j = 7 ∨ j = 8 ∨ j = 9 ∨ j = 10 ∨ j = 11 ∨ j = 12 ∨ j = 13 ∨ j = 14 ∨ j = 15 ∨ j = 16 ∨ j = 17 ∨ j = 18 ∨ j = 19 ∨ j = 20 ∨ j = 21 ∨ j = 22 := by omega
    rcases hj' with rfl | rfl | rfl | rfl | rfl | rfl | rfl | rfl | rfl | rfl | rfl | rfl | rfl | rfl | rfl | rfl | rfl | rfl | rfl | rfl | rfl | rfl | rfl <;> first | exact hF | (exact absurd hk (by decide)) | (exact absurd rfl hne) | (exact absurd hcc (by decide))
  · intro hk
    exact absurd hk (by decide)
set_option maxRecDepth 100000 in
theorem sM_20 {ops : Array Oper} {Q : Exit → Act → World → Prop} (hops : ops = opsOf Try.f17 14) (w0 : World) (ok : Nat → Prop) (g : Nat) (at_ t p : Int) (A0 : Option Addr) (c0 : Nat) (es : List S60) (ad : Addr) (c : Nat) (ys : List S60) (i n : Nat) (a : Act) (w : World) (h0 : a.tmps[0]?.getD undef = .pointer (some ⟨g, 0, none⟩)) (h1 : a.tmps[1]?.getD undef = .int .i64 p) (h3 : a.tmps[3]?.getD undef = .slice (some ad) ys.length c) (h13 : a.tmps[13]?.getD undef = .int .i64 (i : Int))
    (hN : ∀ j, j ∈ usM.getD 20 [] → FM w0 ok g at_ t p A0 c0 es ad c ys i n j (slotO dstM a j) w) (hI : useIM 20 = true → IM w0 ok g at_ t p A0 c0 es ad c ys i n w) : wpOp Try.prog ops Q 20 (fun a' w' => ∃ v, a' = a.put (dstM 20) v ∧ FM w0 ok g at_ t p A0 c0 es ad c ys i n 20 (valO dstM 20 v) w' ∧ (Below w.heap.size w w' ∨ ((∀ j u, j < 23 → j ≠ 20 → killM 20 j = false → (ncM.getD j []).contains 20 = false → FM w0 ok g at_ t p A0 c0 es ad c ys i n j u w → FM w0 ok g at_ t p A0 c0 es ad c ys i n j u w') ∧ (killIM 20 = false → IM w0 ok g at_ t p A0 c0 es ad c ys i n w → IM w0 ok g at_ t p A0 c0 es ad c ys i n w')))) a w := by
  subst hops
  have n0 : a.tmps[77]?.getD undef = .pointer (some ⟨g, 0, none⟩) := hN 0 (by decide)
  have ho : (opsOf Try.f17 14)[20]? = some ({ dst := some 97, op := Go.Op.nilCheck (Go.Operand.tmp 77), type := 0, pos := "rlog.go:89", after := #[{ on := 0, ground := Go.Ground.data }, { on := 0, ground := Go.Ground.phase }, { on := 1, ground := Go.Ground.phase }, { on := 2, ground := Go.Ground.phase }, { on := 3, ground := Go.Ground.phase }, { on := 4, ground := Go.Ground.phase }, { on := 5, ground := Go.Ground.phase }, { on := 6, ground := Go.Ground.phase }, { on := 7, ground := Go.Ground.phase }, { on := 8, ground := Go.Ground.phase }, { on := 9, ground := Go.Ground.phase }, { on := 10, ground := Go.Ground.phase }, { on := 11, ground := Go.Ground.phase }, { on := 12, ground := Go.Ground.phase }, { on := 13, ground := Go.Ground.phase }, { on := 14, ground := Go.Ground.phase }, { on := 15, ground := Go.Ground.phase }, { on := 16, ground := Go.Ground.phase }, { on := 17, ground := Go.Ground.phase }, { on := 18, ground := Go.Ground.phase }, { on := 19, ground := Go.Ground.phase }], guard := none } : Oper) := by kernel_rfl
  refine wpOp_plain ho rfl ?_
  clear hN hI ho
  go_simp
  first | exact ⟨_, rfl, rfl⟩ | exact ⟨_, rfl, rfl, .inl (Below.refl _ _)⟩
set_option maxRecDepth 100000 in
theorem sM_21 {ops : Array Oper} {Q : Exit → Act → World → Prop} (hops : ops = opsOf Try.f17 14) (w0 : World) (ok : Nat → Prop) (g : Nat) (at_ t p : Int) (A0 : Option Addr) (c0 : Nat) (es : List S60) (ad : Addr) (c : Nat) (ys : List S60) (i n : Nat) (a : Act) (w : World) (h0 : a.tmps[0]?.getD undef = .pointer (some ⟨g, 0, none⟩)) (h1 : a.tmps[1]?.getD undef = .int .i64 p) (h3 : a.tmps[3]?.getD undef = .slice (some ad) ys.length c) (h13 : a.tmps[13]?.getD undef = .int .i64 (i : Int))
    (hN : ∀ j, j ∈ usM.getD 21 [] → FM w0 ok g at_ t p A0 c0 es ad c ys i n j (slotO dstM a j) w) (hI : useIM 21 = true → IM w0 ok g at_ t p A0 c0 es ad c ys i n w) : wpOp Try.prog ops Q 21 (fun a' w' => ∃ v, a' = a.put (dstM 21) v ∧ FM w0 ok g at_ t p A0 c0 es ad c ys i n 21 (valO dstM 21 v) w' ∧ (Below w.heap.size w w' ∨ ((∀ j u, j < 23 → j ≠ 21 → killM 21 j = false → (ncM.getD j []).contains 21 = false → FM w0 ok g at_ t p A0 c0 es ad c ys i n j u w → FM w0 ok g at_ t p A0 c0 es ad c ys i n j u w') ∧ (killIM 21 = false → IM w0 ok g at_ t p A0 c0 es ad c ys i n w → IM w0 ok g at_ t p A0 c0 es ad c ys i n w')))) a w := by
  subst hops
  have n20 : a.tmps[97]?.getD undef = .pointer (some ⟨g, 0, none⟩) := hN 20 (by decide)
  have ho : (opsOf Try.f17 14)[21]? = some ({ dst := some 98, op := Go.Op.fieldAddr 62 (Go.Operand.tmp 97) 2, type := 0, pos := "rlog.go:89", after := #[{ on := 20, ground := Go.Ground.data }, { on := 0, ground := Go.Ground.phase }, { on := 1, ground := Go.Ground.phase }, { on := 2, ground := Go.Ground.phase }, { on := 3, ground := Go.Ground.phase }, { on := 4, ground := Go.Ground.phase }, { on := 5, ground := Go.Ground.phase }, { on := 6, ground := Go.Ground.phase }, { on := 7, ground := Go.Ground.phase }, { on := 8, ground := Go.Ground.phase }, { on := 9, ground := Go.Ground.phase }, { on := 10, ground := Go.Ground.phase }, { on := 11, ground := Go.Ground.phase }, { on := 12, ground := Go.Ground.phase }, { on := 13, ground := Go.Ground.phase }, { on := 14, ground := Go.Ground.phase }, { on := 15, ground := Go.Ground.phase }, { on := 16, ground := Go.Ground.phase }, { on := 17, ground := Go.Ground.phase }, { on := 18, ground := Go.Ground.phase }, { on := 19, ground := Go.Ground.phase }], guard := none } : Oper) := by kernel_rfl
  refine wpOp_plain ho rfl ?_
  clear hN hI ho
  go_simp
  first | exact ⟨_, rfl, rfl⟩ | exact ⟨_, rfl, rfl, .inl (Below.refl _ _)⟩
set_option maxRecDepth 100000 in
theorem sM_22 {ops : Array Oper} {Q : Exit → Act → World → Prop} (hops : ops = opsOf Try.f17 14) (w0 : World) (ok : Nat → Prop) (g : Nat) (at_ t p : Int) (A0 : Option Addr) (c0 : Nat) (es : List S60) (ad : Addr) (c : Nat) (ys : List S60) (i n : Nat) (a : Act) (w : World) (h0 : a.tmps[0]?.getD undef = .pointer (some ⟨g, 0, none⟩)) (h1 : a.tmps[1]?.getD undef = .int .i64 p) (h3 : a.tmps[3]?.getD undef = .slice (some ad) ys.length c) (h13 : a.tmps[13]?.getD undef = .int .i64 (i : Int))
    (hN : ∀ j, j ∈ usM.getD 22 [] → FM w0 ok g at_ t p A0 c0 es ad c ys i n j (slotO dstM a j) w) (hI : useIM 22 = true → IM w0 ok g at_ t p A0 c0 es ad c ys i n w) : wpOp Try.prog ops Q 22 (fun a' w' => ∃ v, a' = a.put (dstM 22) v ∧ FM w0 ok g at_ t p A0 c0 es ad c ys i n 22 (valO dstM 22 v) w' ∧ (Below w.heap.size w w' ∨ ((∀ j u, j < 23 → j ≠ 22 → killM 22 j = false → (ncM.getD j []).contains 22 = false → FM w0 ok g at_ t p A0 c0 es ad c ys i n j u w → FM w0 ok g at_ t p A0 c0 es ad c ys i n j u w') ∧ (killIM 22 = false → IM w0 ok g at_ t p A0 c0 es ad c ys i n w → IM w0 ok g at_ t p A0 c0 es ad c ys i n w')))) a w := by
  subst hops
  have n19 : (fun (v : Value) (w : World) => ok g ∧ g < w0.heap.size ∧ w.heap[g]? = some (.cells #[.int .i64 at_, .int .i64 t, (Value.slice A0 es.length c0)] 62 (0, 0)) ∧ Kd.R k60 60 w 0 (fun k => (ok k ∨ w0.heap.size ≤ k) ∧ k ≠ g) v (es.take n ++ ys.drop i) ∧ Kept w0 w ok ∧ Below 0 w0 w) (a.tmps[96]?.getD undef) w := hN 19 (by decide)
  have n21 : a.tmps[98]?.getD undef = .pointer (some ⟨g, 2, none⟩) := hN 21 (by decide)
  have ho : (opsOf Try.f17 14)[22]? = some ({ dst := none, op := Go.Op.store 35 (Go.Operand.tmp 98) (Go.Operand.tmp 96), type := 0, pos := "rlog.go:89", after := #[{ on := 21, ground := Go.Ground.data }, { on := 19, ground := Go.Ground.data }, { on := 19, ground := Go.Ground.chain }, { on := 0, ground := Go.Ground.phase }, { on := 1, ground := Go.Ground.phase }, { on := 2, ground := Go.Ground.phase }, { on := 3, ground := Go.Ground.phase }, { on := 4, ground := Go.Ground.phase }, { on := 5, ground := Go.Ground.phase }, { on := 6, ground := Go.Ground.phase }, { on := 7, ground := Go.Ground.phase }, { on := 8, ground := Go.Ground.phase }, { on := 9, ground := Go.Ground.phase }, { on := 10, ground := Go.Ground.phase }, { on := 11, ground := Go.Ground.phase }, { on := 12, ground := Go.Ground.phase }, { on := 13, ground := Go.Ground.phase }, { on := 14, ground := Go.Ground.phase }, { on := 15, ground := Go.Ground.phase }, { on := 16, ground := Go.Ground.phase }, { on := 17, ground := Go.Ground.phase }, { on := 18, ground := Go.Ground.phase }, { on := 19, ground := Go.Ground.phase }], guard := none } : Oper) := by kernel_rfl
  refine wpOp_plain ho rfl ?_
  clear hN hI ho
  obtain ⟨hg, hlt, hh, hR, hK, hB⟩ := n19
  obtain ⟨A2, c2, e2⟩ := Kd.R_slice hR
  rw [e2] at hR
  have hcell : w.cell? ⟨g, 2, none⟩ = some (.slice A0 es.length c0) := by simp [World.cell?, hh]
  have hfz : w.frozen? ⟨g, 2, none⟩ = false := by simp [World.frozen?, hh]
  have HH := Aside0.mk hh
  have HR := Aside0.mk hR
  have HK := Aside0.mk hK
  have HB := Aside0.mk hB
  clear hh hR hK hB
  generalize hlen : (es.take n ++ ys.drop i).length = L at HR e2
  go_simp
  refine ⟨undef, rfl, ⟨⟨.inl hg, _, set_field2 HH.out _, ?_⟩, Kept.setCell HK.out (.inl hg) _, Below.setCell HB.out (Nat.zero_le _) _⟩, .inr ⟨?_, ?_⟩⟩
  · have := Kd.R_far (p := ⟨g, 2, none⟩) HR.out (fun k hk => hk.2) (.slice A2 L c2)
    exact Kd.R_mono this (fun k hk => ⟨hk.1, hk.2⟩)
  · intro j u hj hne hk hcc hF
    have hj' : j = 0 ∨ j = 1 ∨ j = 2 ∨ j = 3 ∨ j = 4 ∨ j = 5 ∨ j = 6 ∨ j = 7 ∨ j = 8 ∨ j = 9 ∨ j = 10 ∨ j = 11 ∨ j = 12 ∨ j = 13 ∨ j = 14 ∨ j = 15 ∨ j = 16 ∨ j = 17 ∨ j = 18 ∨ j = 19 ∨ j = 20 ∨ j = 21 ∨ j = 22 := by omega
    rcases hj' with rfl | rfl | rfl | rfl | rfl | rfl | rfl | rfl | rfl | rfl | rfl | rfl | rfl | rfl | rfl | rfl | rfl | rfl | rfl | rfl | rfl | rfl | rfl <;> first | exact hF | (exact absurd hk (by decide)) | (exact absurd rfl hne) | (exact absurd hcc (by decide))
  · intro hk
    exact absurd hk (by decide)
theorem monoM (w0 : World) (ok : Nat → Prop) (g : Nat) (at_ t p : Int) (A0 : Option Addr) (c0 : Nat) (es : List S60) (ad : Addr) (c : Nat) (ys : List S60) (i n : Nat) (j : Nat) (v : Value) (w w' : World) (h : FM w0 ok g at_ t p A0 c0 es ad c ys i n j v w) (hb : Below w.heap.size w w') : FM w0 ok g at_ t p A0 c0 es ad c ys i n j v w' := by
  unfold FM at h ⊢
  split <;> first
    | exact True.intro
    | exact h
    | exact Kd.R_below h hb
    | exact ⟨h.1, h.2.1, (hb.block g (Array.getElem?_eq_some_iff.1 h.2.2.1).1).trans h.2.2.1, Kd.R_below h.2.2.2.1 hb, Kept.below h.2.2.2.2.1 hb, h.2.2.2.2.2.trans (hb.mono (Nat.zero_le _))⟩
    | exact ⟨h.1.below hb, Kept.below h.2.1 hb, h.2.2.trans (hb.mono (Nat.zero_le _))⟩
theorem monoIM (w0 : World) (ok : Nat → Prop) (g : Nat) (at_ t p : Int) (A0 : Option Addr) (c0 : Nat) (es : List S60) (ad : Addr) (c : Nat) (ys : List S60) (i n : Nat) (w w' : World) (h : IM w0 ok g at_ t p A0 c0 es ad c ys i n w) (hb : Below w.heap.size w w') : IM w0 ok g at_ t p A0 c0 es ad c ys i n w' := by
  obtain ⟨hnum, hg, hh, hR, hC, hoks, hK, hB⟩ := h
  exact ⟨hnum, hg, (hb.block g (Array.getElem?_eq_some_iff.1 hh).1).trans hh, Kd.R_below hR hb, Kd.C_below hC hb, hoks, Kept.below hK hb, hB.trans (hb.mono (Nat.zero_le _))⟩
theorem hinM : ∀ i, i < 23 → ∀ d, dstM i = some d → d < 107 := by
  have h2 : ∀ i, i < 23 → (dstM i).all (fun d => decide (d < 107)) = true := by decide
  intro i hi d hd
  have := h2 i hi
  rw [hd] at this
  simpa using this
set_option maxRecDepth 100000 in
theorem regionM {ops : Array Oper} {Q : Exit → Act → World → Prop} (hops : ops = opsOf Try.f17 14) {id : Nat} (w0 : World) (ok : Nat → Prop) (g : Nat) (at_ t p : Int) (A0 : Option Addr) (c0 : Nat) (es : List S60) (ad : Addr) (c : Nat) (ys : List S60) (i n : Nat) (a0 : Act) (w0_ : World) (hI0 : IM w0 ok g at_ t p A0 c0 es ad c ys i n w0_) (hsz : a0.tmps.size = 107) (h0 : a0.tmps[0]?.getD undef = .pointer (some ⟨g, 0, none⟩)) (h1 : a0.tmps[1]?.getD undef = .int .i64 p) (h3 : a0.tmps[3]?.getD undef = .slice (some ad) ys.length c) (h13 : a0.tmps[13]?.getD undef = .int .i64 (i : Int))
    (hQ : ∀ a w, AgreeO 23 dstM a0 a → FM w0 ok g at_ t p A0 c0 es ad c ys i n 22 (slotO dstM a 22) w → Q .normal a w) : (Code.region id ops true).wp Try.prog Q a0 w0_ := by
  refine region_held (n := 23) dstM (FM w0 ok g at_ t p A0 c0 es ad c ys i n) (IM w0 ok g at_ t p A0 c0 es ad c ys i n) ndM ncM usM killM killIM useIM (by kernel_rfl) (by rw [hops]; kernel_rfl) (by decide) ?_ (fun j v w w' _ h hb => monoM w0 ok g at_ t p A0 c0 es ad c ys i n j v w w' h hb) (fun w w' h hb => monoIM w0 ok g at_ t p A0 c0 es ad c ys i n w w' h hb) hI0 (by rw [hops]; kernel_rfl) (by decide) (by decide) (by decide) (by decide) (by decide) 22 (by decide) (by decide) ?_ hQ
  · intro i hi d hd
    rw [hsz]; exact hinM i hi d hd
  · intro i a w hi hA hN hI
    have h0 := (hA.old 0 (by decide)).trans h0
    have h1 := (hA.old 1 (by decide)).trans h1
    have h3 := (hA.old 3 (by decide)).trans h3
    have h13 := (hA.old 13 (by decide)).trans h13
    have hi' : i = 0 ∨ i = 1 ∨ i = 2 ∨ i = 3 ∨ i = 4 ∨ i = 5 ∨ i = 6 ∨ i = 7 ∨ i = 8 ∨ i = 9 ∨ i = 10 ∨ i = 11 ∨ i = 12 ∨ i = 13 ∨ i = 14 ∨ i = 15 ∨ i = 16 ∨ i = 17 ∨ i = 18 ∨ i = 19 ∨ i = 20 ∨ i = 21 ∨ i = 22 := by omega
    rcases hi' with rfl | rfl | rfl | rfl | rfl | rfl | rfl | rfl | rfl | rfl | rfl | rfl | rfl | rfl | rfl | rfl | rfl | rfl | rfl | rfl | rfl | rfl | rfl
    · exact sM_0 hops w0 ok g at_ t p A0 c0 es ad c ys i n a w h0 h1 h3 h13 hN hI
    · exact sM_1 hops w0 ok g at_ t p A0 c0 es ad c ys i n a w h0 h1 h3 h13 hN hI
    · exact sM_2 hops w0 ok g at_ t p A0 c0 es ad c ys i n a w h0 h1 h3 h13 hN hI
    · exact sM_3 hops w0 ok g at_ t p A0 c0 es ad c ys i n a w h0 h1 h3 h13 hN hI
    · exact sM_4 hops w0 ok g at_ t p A0 c0 es ad c ys i n a w h0 h1 h3 h13 hN hI
    · exact sM_5 hops w0 ok g at_ t p A0 c0 es ad c ys i n a w h0 h1 h3 h13 hN hI
    · exact sM_6 hops w0 ok g at_ t p A0 c0 es ad c ys i n a w h0 h1 h3 h13 hN hI
    · exact sM_7 hops w0 ok g at_ t p A0 c0 es ad c ys i n a w h0 h1 h3 h13 hN hI
    · exact sM_8 hops w0 ok g at_ t p A0 c0 es ad c ys i n a w h0 h1 h3 h13 hN hI
    · exact sM_9 hops w0 ok g at_ t p A0 c0 es ad c ys i n a w h0 h1 h3 h13 hN hI
    · exact sM_10 hops w0 ok g at_ t p A0 c0 es ad c ys i n a w h0 h1 h3 h13 hN hI
    · exact sM_11 hops w0 ok g at_ t p A0 c0 es ad c ys i n a w h0 h1 h3 h13 hN hI
    · exact sM_12 hops w0 ok g at_ t p A0 c0 es ad c ys i n a w h0 h1 h3 h13 hN hI
    · exact sM_13 hops w0 ok g at_ t p A0 c0 es ad c ys i n a w h0 h1 h3 h13 hN hI
    · exact sM_14 hops w0 ok g at_ t p A0 c0 es ad c ys i n a w h0 h1 h3 h13 hN hI
    · exact sM_15 hops w0 ok g at_ t p A0 c0 es ad c ys i n a w h0 h1 h3 h13 hN hI
    · exact sM_16 hops w0 ok g at_ t p A0 c0 es ad c ys i n a w h0 h1 h3 h13 hN hI
    · exact sM_17 hops w0 ok g at_ t p A0 c0 es ad c ys i n a w h0 h1 h3 h13 hN hI
    · exact sM_18 hops w0 ok g at_ t p A0 c0 es ad c ys i n a w h0 h1 h3 h13 hN hI
    · exact sM_19 hops w0 ok g at_ t p A0 c0 es ad c ys i n a w h0 h1 h3 h13 hN hI
    · exact sM_20 hops w0 ok g at_ t p A0 c0 es ad c ys i n a w h0 h1 h3 h13 hN hI
    · exact sM_21 hops w0 ok g at_ t p A0 c0 es ad c ys i n a w h0 h1 h3 h13 hN hI
    · exact sM_22 hops w0 ok g at_ t p A0 c0 es ad c ys i n a w h0 h1 h3 h13 hN hI
end Go.Proofs.Ytigjfnleinhahaa.PLog
