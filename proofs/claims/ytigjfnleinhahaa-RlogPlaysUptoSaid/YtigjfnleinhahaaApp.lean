/- A log's Append: its entries, and behind them copies of what is handed in. -/
import Derived.Test.YtigjfnleinhahaaLog
import Derived.Test.YtigjfnleinhahaaPLogx0
namespace Go.Proofs.Ytigjfnleinhahaa.PLog
open Go.RowKit Go.Proofs.YtigjfnleinhahaaW.PrintWords Go.Proofs.YtigjfnleinhahaaW.PrintLast Go.Proofs.YtigjfnleinhahaaW.PrintMore
open Go.Proofs.Ytigjfnleinhahaa.Reg
set_option linter.unusedVariables false
set_option linter.unusedSimpArgs false
theorem set_field2 {w : World} {g : Nat} {x y z : Value} {T : TypeId} (h : w.heap[g]? = some (.cells #[x, y, z] T (0, 0))) (u : Value) : (w.setCell ⟨g, 2, none⟩ u).heap[g]? = some (.cells #[x, y, u] T (0, 0)) := by
  simp only [World.setCell, Array.getElem?_modify, if_true, h]
  rfl
def dstA (i : Nat) : Option Nat := ([some 5, some 6, some 7, some 8, some 9, some 10, some 11, some 12, some 13, some 14, none] : List (Option Nat)).getD i none
def ndA : List (List Nat) := [[], [], [1], [2], [3], [], [5], [4, 6, 6], [0, 0, 1, 2, 3, 4, 5, 6, 7], [8, 0, 1, 2, 3, 4, 5, 6, 7], [9, 7, 7, 0, 1, 2, 3, 4, 5, 6, 7]]
def usA : List (List Nat) := [[], [], [1], [2], [3], [], [5], [4, 6], [0], [8], [7, 9]]
def ncA : List (List Nat) := [[], [], [1], [1, 2], [1, 2, 3], [], [5], [1, 2, 3, 4, 5, 6], [0, 1, 2, 3, 4, 5, 6, 7], [0, 1, 2, 3, 4, 5, 6, 7, 8], [0, 1, 2, 3, 4, 5, 6, 7, 8, 9]]
def killA (h j : Nat) : Bool := ((h == 7 && [6].contains j) || (h == 10 && [6, 7].contains j))
def killIA (h : Nat) : Bool := [7, 10].contains h
def useIA (h : Nat) : Bool := [4, 6, 7].contains h
def IA (w0 : World) (ok : Nat → Prop) (g : Nat) (at_ t : Int) (v0 : Value) (es : List S60) (A : Option Addr) (c : Nat) (ys zs : List S60) (k : Nat) (w : World) : Prop := ok g ∧ w.heap[g]? = some (.cells #[.int .i64 at_, .int .i64 t, v0] 62 (0, 0)) ∧ Kd.R k60 60 w 0 (fun k => (ok k ∧ k < w0.heap.size) ∧ k ≠ g) v0 es ∧ Kd.C k60 w A ys.length ys ∧ ys.length ≤ c ∧ rlog_owned.f k ys = some zs ∧ (es.length + zs.length) * 192 ≤ 140737488355328 ∧ g < w0.heap.size ∧ Kept w0 w ok ∧ Below 0 w0 w
def FA (w0 : World) (ok : Nat → Prop) (g : Nat) (at_ t : Int) (v0 : Value) (es : List S60) (A : Option Addr) (c : Nat) (ys zs : List S60) (k : Nat) : Nat → Value → World → Prop
  | 0, v, w => v = .pointer (some ⟨g, 0, none⟩)
  | 1, v, w => v = .pointer (some ⟨g, 0, none⟩)
  | 2, v, w => v = .pointer (some ⟨g, 0, none⟩)
  | 3, v, w => v = .pointer (some ⟨g, 2, none⟩)
  | 4, v, w => v = v0
  | 5, v, w => v = .slice A ys.length c
  | 6, v, w => Kd.R k60 60 w w0.heap.size (fun _ => True) v zs
  | 7, v, w => ok g ∧ g < w0.heap.size ∧ w.heap[g]? = some (.cells #[.int .i64 at_, .int .i64 t, v0] 62 (0, 0)) ∧ Kd.R k60 60 w 0 (fun k => (ok k ∨ w0.heap.size ≤ k) ∧ k ≠ g) v (es ++ zs) ∧ Kept w0 w ok ∧ Below 0 w0 w
  | 8, v, w => v = .pointer (some ⟨g, 0, none⟩)
  | 9, v, w => v = .pointer (some ⟨g, 2, none⟩)
  | 10, v, w => Log w (fun k => ok k ∨ w0.heap.size ≤ k) g at_ t (es ++ zs) ∧ Kept w0 w ok ∧ Below 0 w0 w
  | _, _, _ => True
set_option maxRecDepth 100000 in
theorem sA_0 {ops : Array Oper} {Q : Exit → Act → World → Prop} (hops : ops = opsOf Try.f14 1) (w0 : World) (ok : Nat → Prop) (g : Nat) (at_ t : Int) (v0 : Value) (es : List S60) (A : Option Addr) (c : Nat) (ys zs : List S60) (k : Nat) (a : Act) (w : World) (h0 : a.tmps[0]?.getD undef = .pointer (some ⟨g, 0, none⟩)) (h1 : a.tmps[1]?.getD undef = .slice A ys.length c)
    (hN : ∀ j, j ∈ usA.getD 0 [] → FA w0 ok g at_ t v0 es A c ys zs k j (slotO dstA a j) w) (hI : useIA 0 = true → IA w0 ok g at_ t v0 es A c ys zs k w) : wpOp Try.prog ops Q 0 (fun a' w' => ∃ v, a' = a.put (dstA 0) v ∧ FA w0 ok g at_ t v0 es A c ys zs k 0 (valO dstA 0 v) w' ∧ (Below w.heap.size w w' ∨ ((∀ j u, j < 11 → j ≠ 0 → killA 0 j = false → (ncA.getD j []).contains 0 = false → FA w0 ok g at_ t v0 es A c ys zs k j u w → FA w0 ok g at_ t v0 es A c ys zs k j u w') ∧ (killIA 0 = false → IA w0 ok g at_ t v0 es A c ys zs k w → IA w0 ok g at_ t v0 es A c ys zs k w')))) a w := by
  subst hops
  have ho : (opsOf Try.f14 1)[0]? = some ({ dst := some 5, op := Go.Op.move (Go.Operand.tmp 0), type := 24, pos := "rlog.go:71", after := #[], guard := none } : Oper) := by kernel_rfl
  refine wpOp_plain ho rfl ?_
  clear hN hI ho
  go_simp
  first | exact ⟨_, rfl, rfl⟩ | exact ⟨_, rfl, rfl, .inl (Below.refl _ _)⟩
set_option maxRecDepth 100000 in
theorem sA_1 {ops : Array Oper} {Q : Exit → Act → World → Prop} (hops : ops = opsOf Try.f14 1) (w0 : World) (ok : Nat → Prop) (g : Nat) (at_ t : Int) (v0 : Value) (es : List S60) (A : Option Addr) (c : Nat) (ys zs : List S60) (k : Nat) (a : Act) (w : World) (h0 : a.tmps[0]?.getD undef = .pointer (some ⟨g, 0, none⟩)) (h1 : a.tmps[1]?.getD undef = .slice A ys.length c)
    (hN : ∀ j, j ∈ usA.getD 1 [] → FA w0 ok g at_ t v0 es A c ys zs k j (slotO dstA a j) w) (hI : useIA 1 = true → IA w0 ok g at_ t v0 es A c ys zs k w) : wpOp Try.prog ops Q 1 (fun a' w' => ∃ v, a' = a.put (dstA 1) v ∧ FA w0 ok g at_ t v0 es A c ys zs k 1 (valO dstA 1 v) w' ∧ (Below w.heap.size w w' ∨ ((∀ j u, j < 11 → j ≠ 1 → killA 1 j = false → (ncA.getD j []).contains 1 = false → FA w0 ok g at_ t v0 es A c ys zs k j u w → FA w0 ok g at_ t v0 es A c ys zs k j u w') ∧ (killIA 1 = false → IA w0 ok g at_ t v0 es A c ys zs k w → IA w0 ok g at_ t v0 es A c ys zs k w')))) a w := by
  subst hops
  have ho : (opsOf Try.f14 1)[1]? = some ({ dst := some 6, op := Go.Op.move (Go.Operand.tmp 0), type := 24, pos := "rlog.go:71", after := #[], guard := none } : Oper) := by kernel_rfl
  refine wpOp_plain ho rfl ?_
  clear hN hI ho
  go_simp
  first | exact ⟨_, rfl, rfl⟩ | exact ⟨_, rfl, rfl, .inl (Below.refl _ _)⟩
set_option maxRecDepth 100000 in
theorem sA_2 {ops : Array Oper} {Q : Exit → Act → World → Prop} (hops : ops = opsOf Try.f14 1) (w0 : World) (ok : Nat → Prop) (g : Nat) (at_ t : Int) (v0 : Value) (es : List S60) (A : Option Addr) (c : Nat) (ys zs : List S60) (k : Nat) (a : Act) (w : World) (h0 : a.tmps[0]?.getD undef = .pointer (some ⟨g, 0, none⟩)) (h1 : a.tmps[1]?.getD undef = .slice A ys.length c)
    (hN : ∀ j, j ∈ usA.getD 2 [] → FA w0 ok g at_ t v0 es A c ys zs k j (slotO dstA a j) w) (hI : useIA 2 = true → IA w0 ok g at_ t v0 es A c ys zs k w) : wpOp Try.prog ops Q 2 (fun a' w' => ∃ v, a' = a.put (dstA 2) v ∧ FA w0 ok g at_ t v0 es A c ys zs k 2 (valO dstA 2 v) w' ∧ (Below w.heap.size w w' ∨ ((∀ j u, j < 11 → j ≠ 2 → killA 2 j = false → (ncA.getD j []).contains 2 = false → FA w0 ok g at_ t v0 es A c ys zs k j u w → FA w0 ok g at_ t v0 es A c ys zs k j u w') ∧ (killIA 2 = false → IA w0 ok g at_ t v0 es A c ys zs k w → IA w0 ok g at_ t v0 es A c ys zs k w')))) a w := by
  subst hops
  have n1 : a.tmps[6]?.getD undef = .pointer (some ⟨g, 0, none⟩) := hN 1 (by decide)
  have ho : (opsOf Try.f14 1)[2]? = some ({ dst := some 7, op := Go.Op.nilCheck (Go.Operand.tmp 6), type := 0, pos := "rlog.go:71", after := #[{ on := 1, ground := Go.Ground.data }], guard := none } : Oper) := by kernel_rfl
  refine wpOp_plain ho rfl ?_
  clear hN hI ho
  go_simp
  first | exact ⟨_, rfl, rfl⟩ | exact ⟨_, rfl, rfl, .inl (Below.refl _ _)⟩
set_option maxRecDepth 100000 in
theorem sA_3 {ops : Array Oper} {Q : Exit → Act → World → Prop} (hops : ops = opsOf Try.f14 1) (w0 : World) (ok : Nat → Prop) (g : Nat) (at_ t : Int) (v0 : Value) (es : List S60) (A : Option Addr) (c : Nat) (ys zs : List S60) (k : Nat) (a : Act) (w : World) (h0 : a.tmps[0]?.getD undef = .pointer (some ⟨g, 0, none⟩)) (h1 : a.tmps[1]?.getD undef = .slice A ys.length c)
    (hN : ∀ j, j ∈ usA.getD 3 [] → FA w0 ok g at_ t v0 es A c ys zs k j (slotO dstA a j) w) (hI : useIA 3 = true → IA w0 ok g at_ t v0 es A c ys zs k w) : wpOp Try.prog ops Q 3 (fun a' w' => ∃ v, a' = a.put (dstA 3) v ∧ FA w0 ok g at_ t v0 es A c ys zs k 3 (valO dstA 3 v) w' ∧ (Below w.heap.size w w' ∨ ((∀ j u, j < 11 → j ≠ 3 → killA 3 j = false → (ncA.getD j []).contains 3 = false → FA w0 ok g at_ t v0 es A c ys zs k j u w → FA w0 ok g at_ t v0 es A c ys zs k j u w') ∧ (killIA 3 = false → IA w0 ok g at_ t v0 es A c ys zs k w → IA w0 ok g at_ t v0 es A c ys zs k w')))) a w := by
  subst hops
  have n2 : a.tmps[7]?.getD undef = .pointer (some ⟨g, 0, none⟩) := hN 2 (by decide)
  have ho : (opsOf Try.f14 1)[3]? = some ({ dst := some 8, op := Go.Op.fieldAddr 62 (Go.Operand.tmp 7) 2, type := 0, pos := "rlog.go:71", after := #[{ on := 2, ground := Go.Ground.data }], guard := none } : Oper) := by kernel_rfl
  refine wpOp_plain ho rfl ?_
  clear hN hI ho
  go_simp
  first | exact ⟨_, rfl, rfl⟩ | exact ⟨_, rfl, rfl, .inl (Below.refl _ _)⟩
set_option maxRecDepth 100000 in
theorem sA_4 {ops : Array Oper} {Q : Exit → Act → World → Prop} (hops : ops = opsOf Try.f14 1) (w0 : World) (ok : Nat → Prop) (g : Nat) (at_ t : Int) (v0 : Value) (es : List S60) (A : Option Addr) (c : Nat) (ys zs : List S60) (k : Nat) (a : Act) (w : World) (h0 : a.tmps[0]?.getD undef = .pointer (some ⟨g, 0, none⟩)) (h1 : a.tmps[1]?.getD undef = .slice A ys.length c)
    (hN : ∀ j, j ∈ usA.getD 4 [] → FA w0 ok g at_ t v0 es A c ys zs k j (slotO dstA a j) w) (hI : useIA 4 = true → IA w0 ok g at_ t v0 es A c ys zs k w) : wpOp Try.prog ops Q 4 (fun a' w' => ∃ v, a' = a.put (dstA 4) v ∧ FA w0 ok g at_ t v0 es A c ys zs k 4 (valO dstA 4 v) w' ∧ (Below w.heap.size w w' ∨ ((∀ j u, j < 11 → j ≠ 4 → killA 4 j = false → (ncA.getD j []).contains 4 = false → FA w0 ok g at_ t v0 es A c ys zs k j u w → FA w0 ok g at_ t v0 es A c ys zs k j u w') ∧ (killIA 4 = false → IA w0 ok g at_ t v0 es A c ys zs k w → IA w0 ok g at_ t v0 es A c ys zs k w')))) a w := by
  subst hops
  have n3 : a.tmps[8]?.getD undef = .pointer (some ⟨g, 2, none⟩) := hN 3 (by decide)
  have hi : IA w0 ok g at_ t v0 es A c ys zs k w := hI (by decide)
  have ho : (opsOf Try.f14 1)[4]? = some ({ dst := some 9, op := Go.Op.load 35 (Go.Operand.tmp 8), type := 35, pos := "rlog.go:71", after := #[{ on := 3, ground := Go.Ground.data }], guard := none } : Oper) := by kernel_rfl
  refine wpOp_plain ho rfl ?_
  clear hN hI ho
  obtain ⟨hg, hh, hR, -⟩ := hi
  obtain ⟨A0, c0, rfl⟩ := Kd.R_slice hR
  have hc : w.cell? ⟨g, 2, none⟩ = some (.slice A0 es.length c0) := by simp [World.cell?, hh]
  clear hh hR
  go_simp
  first | exact ⟨_, rfl, rfl⟩ | exact ⟨_, rfl, rfl, .inl (Below.refl _ _)⟩
set_option maxRecDepth 100000 in
theorem sA_5 {ops : Array Oper} {Q : Exit → Act → World → Prop} (hops : ops = opsOf Try.f14 1) (w0 : World) (ok : Nat → Prop) (g : Nat) (at_ t : Int) (v0 : Value) (es : List S60) (A : Option Addr) (c : Nat) (ys zs : List S60) (k : Nat) (a : Act) (w : World) (h0 : a.tmps[0]?.getD undef = .pointer (some ⟨g, 0, none⟩)) (h1 : a.tmps[1]?.getD undef = .slice A ys.length c)
    (hN : ∀ j, j ∈ usA.getD 5 [] → FA w0 ok g at_ t v0 es A c ys zs k j (slotO dstA a j) w) (hI : useIA 5 = true → IA w0 ok g at_ t v0 es A c ys zs k w) : wpOp Try.prog ops Q 5 (fun a' w' => ∃ v, a' = a.put (dstA 5) v ∧ FA w0 ok g at_ t v0 es A c ys zs k 5 (valO dstA 5 v) w' ∧ (Below w.heap.size w w' ∨ ((∀ j u, j < 11 → j ≠ 5 → killA 5 j = false → (ncA.getD j []).contains 5 = false → FA w0 ok g at_ t v0 es A c ys zs k j u w → FA w0 ok g at_ t v0 es A c ys zs k j u w') ∧ (killIA 5 = false → IA w0 ok g at_ t v0 es A c ys zs k w → IA w0 ok g at_ t v0 es A c ys zs k w')))) a w := by
  subst hops
  have ho : (opsOf Try.f14 1)[5]? = some ({ dst := some 10, op := Go.Op.move (Go.Operand.tmp 1), type := 35, pos := "rlog.go:71", after := #[], guard := none } : Oper) := by kernel_rfl
  refine wpOp_plain ho rfl ?_
  clear hN hI ho
  go_simp
  first | exact ⟨_, rfl, rfl⟩ | exact ⟨_, rfl, rfl, .inl (Below.refl _ _)⟩
set_option maxRecDepth 100000 in
theorem sA_6 {ops : Array Oper} {Q : Exit → Act → World → Prop} (hops : ops = opsOf Try.f14 1) (w0 : World) (ok : Nat → Prop) (g : Nat) (at_ t : Int) (v0 : Value) (es : List S60) (A : Option Addr) (c : Nat) (ys zs : List S60) (k : Nat) (a : Act) (w : World) (h0 : a.tmps[0]?.getD undef = .pointer (some ⟨g, 0, none⟩)) (h1 : a.tmps[1]?.getD undef = .slice A ys.length c)
    (hN : ∀ j, j ∈ usA.getD 6 [] → FA w0 ok g at_ t v0 es A c ys zs k j (slotO dstA a j) w) (hI : useIA 6 = true → IA w0 ok g at_ t v0 es A c ys zs k w) : wpOp Try.prog ops Q 6 (fun a' w' => ∃ v, a' = a.put (dstA 6) v ∧ FA w0 ok g at_ t v0 es A c ys zs k 6 (valO dstA 6 v) w' ∧ (Below w.heap.size w w' ∨ ((∀ j u, j < 11 → j ≠ 6 → killA 6 j = false → (ncA.getD j []).contains 6 = false → FA w0 ok g at_ t v0 es A c ys zs k j u w → FA w0 ok g at_ t v0 es A c ys zs k j u w') ∧ (killIA 6 = false → IA w0 ok g at_ t v0 es A c ys zs k w → IA w0 ok g at_ t v0 es A c ys zs k w')))) a w := by
  subst hops
  have n5 : a.tmps[10]?.getD undef = .slice A ys.length c := hN 5 (by decide)
  have hi : IA w0 ok g at_ t v0 es A c ys zs k w := hI (by decide)
  have ho : (opsOf Try.f14 1)[6]? = some ({ dst := some 11, op := Go.Op.call { callee := Go.Callee.value (Go.Operand.func 28), args := #[Go.Operand.tmp 10], argTypes := #[35] }, type := 35, pos := "rlog.go:71", after := #[{ on := 5, ground := Go.Ground.data }], guard := none } : Oper) := by kernel_rfl
  refine wpOp_plain ho rfl ?_
  clear hN hI ho
  obtain ⟨hg, hh, hR, hC, hc, hf, hl, hlt, hK, hB⟩ := hi
  have HH := Aside0.mk (rlog_owned.calls k A c ys zs w hC hc hf)
  have HK := Aside0.mk hK
  clear hh hR hC hf hl hK hB
  go_simp
  refine HH.out.mono ?_
  rintro e w' ⟨v, rfl, hS, hb⟩
  exact ⟨_, rfl, Kd.R_lower (Kd.S_R hS) HK.out.1, .inl hb⟩
set_option maxRecDepth 100000 in
theorem sA_7 {ops : Array Oper} {Q : Exit → Act → World → Prop} (hops : ops = opsOf Try.f14 1) (w0 : World) (ok : Nat → Prop) (g : Nat) (at_ t : Int) (v0 : Value) (es : List S60) (A : Option Addr) (c : Nat) (ys zs : List S60) (k : Nat) (a : Act) (w : World) (h0 : a.tmps[0]?.getD undef = .pointer (some ⟨g, 0, none⟩)) (h1 : a.tmps[1]?.getD undef = .slice A ys.length c)
    (hN : ∀ j, j ∈ usA.getD 7 [] → FA w0 ok g at_ t v0 es A c ys zs k j (slotO dstA a j) w) (hI : useIA 7 = true → IA w0 ok g at_ t v0 es A c ys zs k w) : wpOp Try.prog ops Q 7 (fun a' w' => ∃ v, a' = a.put (dstA 7) v ∧ FA w0 ok g at_ t v0 es A c ys zs k 7 (valO dstA 7 v) w' ∧ (Below w.heap.size w w' ∨ ((∀ j u, j < 11 → j ≠ 7 → killA 7 j = false → (ncA.getD j []).contains 7 = false → FA w0 ok g at_ t v0 es A c ys zs k j u w → FA w0 ok g at_ t v0 es A c ys zs k j u w') ∧ (killIA 7 = false → IA w0 ok g at_ t v0 es A c ys zs k w → IA w0 ok g at_ t v0 es A c ys zs k w')))) a w := by
  subst hops
  have n4 : a.tmps[9]?.getD undef = v0 := hN 4 (by decide)
  have n6 : (fun (v : Value) (w : World) => Kd.R k60 60 w w0.heap.size (fun _ => True) v zs) (a.tmps[11]?.getD undef) w := hN 6 (by decide)
  have hi : IA w0 ok g at_ t v0 es A c ys zs k w := hI (by decide)
  have ho : (opsOf Try.f14 1)[7]? = some ({ dst := some 12, op := Go.Op.call { callee := Go.Callee.builtin Go.Builtin.append, args := #[Go.Operand.tmp 9, Go.Operand.tmp 11], argTypes := #[35, 35] }, type := 35, pos := "rlog.go:71", after := #[{ on := 4, ground := Go.Ground.data }, { on := 6, ground := Go.Ground.data }, { on := 6, ground := Go.Ground.chain }], guard := none } : Oper) := by kernel_rfl
  refine wpOp_plain ho rfl ?_
  clear hN hI ho
  obtain ⟨hg, hh, hR, hC, hc, hf, hl, hlt, hK, hB⟩ := hi
  have n6' : Kd.R k60 60 w w0.heap.size (fun _ => True) (a.tmps[11]?.getD undef) zs := n6
  obtain ⟨_, hO⟩ := Kd.R_bound n6'
  obtain ⟨A2, c2, e2, hc2, hrr⟩ := OwnRow.reads hO
  have hvlt : ∀ k, v0.ownBlock = some k → (ok k ∧ k < w0.heap.size) ∧ k ≠ g := hR.1
  have e9 : a.eval (.tmp 9) = v0 := by simp only [Act.eval, Array.getD_eq_getD_getElem?]; exact n4
  have e11 : a.eval (.tmp 11) = .slice A2 zs.length c2 := by simp only [Act.eval, Array.getD_eq_getD_getElem?]; exact e2
  refine Eq.mp (if_pos (by rfl : Region.wanted _ (yielded (opsOf Try.f14 1) a.tmps) = true)) (Kd.R_append_rows_step (P := Try.prog) (ops := opsOf Try.f14 1) (Q := Q) (a := a) k60 (w0 := w0)
    0 (by rfl) (.tmp 9) (.tmp 11) 35 60 _ 192 rfl Try.underlying35 info60 rfl (by decide) (by decide) v0 es zs A2 zs.length c2 (fun k => (ok k ∨ w0.heap.size ≤ k) ∧ k ≠ g) (fun k => w0.heap.size ≤ k) e9 e11
    (Kd.R_mono hR (fun k hk => ⟨.inl hk.1.1, hk.2⟩)) hrr (fun x cs h => k60.M_mono (fun k hk => hk.1.2.1) (k60.M_lower (Nat.zero_le _) h))
    (fun k hk => ⟨⟨.inr hk, by omega⟩, fun he => by have := (hvlt k he.symm).1.2; omega⟩) (fun k hk => ⟨.inr (Nat.le_trans hK.1 hk), by have := hK.1; omega⟩) hB (Nat.zero_le _) hl ?_)
  · intro v1 w1 hR1 hB1 hgr hat
    refine ⟨_, rfl, ⟨hg, hlt, ?_, hR1, Kept.of_grown hgr hK (fun k hk => .inl (hvlt k hk).1.1), hB1⟩, .inr ⟨?_, ?_⟩⟩
    · exact (hgr.block g (by have := hK.1; omega) (fun he => (hvlt g he.symm).2 rfl)).trans hh
    · intro j u hj hne hk hcc hF
      have hj' : j = 0 ∨ j = 1 ∨ j = 2 ∨ j = 3 ∨ j = 4 ∨ j = 5 ∨ j = 6 ∨ j = 7 ∨ j = 8 ∨ j = 9 ∨ j = 10 := by omega
      rcases hj' with rfl | rfl | rfl | rfl | rfl | rfl | rfl | rfl | rfl | rfl | rfl <;> first | exact hF | (exact absurd hk (by decide)) | (exact absurd rfl hne) | (exact absurd hcc (by decide))
    · intro hk
      exact absurd hk (by decide)
set_option maxRecDepth 100000 in
theorem sA_8 {ops : Array Oper} {Q : Exit → Act → World → Prop} (hops : ops = opsOf Try.f14 1) (w0 : World) (ok : Nat → Prop) (g : Nat) (at_ t : Int) (v0 : Value) (es : List S60) (A : Option Addr) (c : Nat) (ys zs : List S60) (k : Nat) (a : Act) (w : World) (h0 : a.tmps[0]?.getD undef = .pointer (some ⟨g, 0, none⟩)) (h1 : a.tmps[1]?.getD undef = .slice A ys.length c)
    (hN : ∀ j, j ∈ usA.getD 8 [] → FA w0 ok g at_ t v0 es A c ys zs k j (slotO dstA a j) w) (hI : useIA 8 = true → IA w0 ok g at_ t v0 es A c ys zs k w) : wpOp Try.prog ops Q 8 (fun a' w' => ∃ v, a' = a.put (dstA 8) v ∧ FA w0 ok g at_ t v0 es A c ys zs k 8 (valO dstA 8 v) w' ∧ (Below w.heap.size w w' ∨ ((∀ j u, j < 11 → j ≠ 8 → killA 8 j = false → (ncA.getD j []).contains 8 = false → FA w0 ok g at_ t v0 es A c ys zs k j u w → FA w0 ok g at_ t v0 es A c ys zs k j u w') ∧ (killIA 8 = false → IA w0 ok g at_ t v0 es A c ys zs k w → IA w0 ok g at_ t v0 es A c ys zs k w')))) a w := by
  subst hops
  have n0 : a.tmps[5]?.getD undef = .pointer (some ⟨g, 0, none⟩) := hN 0 (by decide)
  have ho : (opsOf Try.f14 1)[8]? = some ({ dst := some 13, op := Go.Op.nilCheck (Go.Operand.tmp 5), type := 0, pos := "rlog.go:71", after := #[{ on := 0, ground := Go.Ground.data }, { on := 0, ground := Go.Ground.phase }, { on := 1, ground := Go.Ground.phase }, { on := 2, ground := Go.Ground.phase }, { on := 3, ground := Go.Ground.phase }, { on := 4, ground := Go.Ground.phase }, { on := 5, ground := Go.Ground.phase }, { on := 6, ground := Go.Ground.phase }, { on := 7, ground := Go.Ground.phase }], guard := none } : Oper) := by kernel_rfl
  refine wpOp_plain ho rfl ?_
  clear hN hI ho
  go_simp
  first | exact ⟨_, rfl, rfl⟩ | exact ⟨_, rfl, rfl, .inl (Below.refl _ _)⟩
set_option maxRecDepth 100000 in
theorem sA_9 {ops : Array Oper} {Q : Exit → Act → World → Prop} (hops : ops = opsOf Try.f14 1) (w0 : World) (ok : Nat → Prop) (g : Nat) (at_ t : Int) (v0 : Value) (es : List S60) (A : Option Addr) (c : Nat) (ys zs : List S60) (k : Nat) (a : Act) (w : World) (h0 : a.tmps[0]?.getD undef = .pointer (some ⟨g, 0, none⟩)) (h1 : a.tmps[1]?.getD undef = .slice A ys.length c)
    (hN : ∀ j, j ∈ usA.getD 9 [] → FA w0 ok g at_ t v0 es A c ys zs k j (slotO dstA a j) w) (hI : useIA 9 = true → IA w0 ok g at_ t v0 es A c ys zs k w) : wpOp Try.prog ops Q 9 (fun a' w' => ∃ v, a' = a.put (dstA 9) v ∧ FA w0 ok g at_ t v0 es A c ys zs k 9 (valO dstA 9 v) w' ∧ (Below w.heap.size w w' ∨ ((∀ j u, j < 11 → j ≠ 9 → killA 9 j = false → (ncA.getD j []).contains 9 = false → FA w0 ok g at_ t v0 es A c ys zs k j u w → FA w0 ok g at_ t v0 es A c ys zs k j u w') ∧ (killIA 9 = false → IA w0 ok g at_ t v0 es A c ys zs k w → IA w0 ok g at_ t v0 es A c ys zs k w')))) a w := by
  subst hops
  have n8 : a.tmps[13]?.getD undef = .pointer (some ⟨g, 0, none⟩) := hN 8 (by decide)
  have ho : (opsOf Try.f14 1)[9]? = some ({ dst := some 14, op := Go.Op.fieldAddr 62 (Go.Operand.tmp 13) 2, type := 0, pos := "rlog.go:71", after := #[{ on := 8, ground := Go.Ground.data }, { on := 0, ground := Go.Ground.phase }, { on := 1, ground := Go.Ground.phase }, { on := 2, ground := Go.Ground.phase }, { on := 3, ground := Go.Ground.phase }, { on := 4, ground := Go.Ground.phase }, { on := 5, ground := Go.Ground.phase }, { on := 6, ground := Go.Ground.phase }, { on := 7, ground := Go.Ground.phase }], guard := none } : Oper) := by kernel_rfl
  refine wpOp_plain ho rfl ?_
  clear hN hI ho
  go_simp
  first | exact ⟨_, rfl, rfl⟩ | exact ⟨_, rfl, rfl, .inl (Below.refl _ _)⟩
set_option maxRecDepth 100000 in
theorem sA_10 {ops : Array Oper} {Q : Exit → Act → World → Prop} (hops : ops = opsOf Try.f14 1) (w0 : World) (ok : Nat → Prop) (g : Nat) (at_ t : Int) (v0 : Value) (es : List S60) (A : Option Addr) (c : Nat) (ys zs : List S60) (k : Nat) (a : Act) (w : World) (h0 : a.tmps[0]?.getD undef = .pointer (some ⟨g, 0, none⟩)) (h1 : a.tmps[1]?.getD undef = .slice A ys.length c)
    (hN : ∀ j, j ∈ usA.getD 10 [] → FA w0 ok g at_ t v0 es A c ys zs k j (slotO dstA a j) w) (hI : useIA 10 = true → IA w0 ok g at_ t v0 es A c ys zs k w) : wpOp Try.prog ops Q 10 (fun a' w' => ∃ v, a' = a.put (dstA 10) v ∧ FA w0 ok g at_ t v0 es A c ys zs k 10 (valO dstA 10 v) w' ∧ (Below w.heap.size w w' ∨ ((∀ j u, j < 11 → j ≠ 10 → killA 10 j = false → (ncA.getD j []).contains 10 = false → FA w0 ok g at_ t v0 es A c ys zs k j u w → FA w0 ok g at_ t v0 es A c ys zs k j u w') ∧ (killIA 10 = false → IA w0 ok g at_ t v0 es A c ys zs k w → IA w0 ok g at_ t v0 es A c ys zs k w')))) a w := by
  subst hops
  have n7 : (fun (v : Value) (w : World) => ok g ∧ g < w0.heap.size ∧ w.heap[g]? = some (.cells #[.int .i64 at_, .int .i64 t, v0] 62 (0, 0)) ∧ Kd.R k60 60 w 0 (fun k => (ok k ∨ w0.heap.size ≤ k) ∧ k ≠ g) v (es ++ zs) ∧ Kept w0 w ok ∧ Below 0 w0 w) (a.tmps[12]?.getD undef) w := hN 7 (by decide)
  have n9 : a.tmps[14]?.getD undef = .pointer (some ⟨g, 2, none⟩) := hN 9 (by decide)
  have ho : (opsOf Try.f14 1)[10]? = some ({ dst := none, op := Go.Op.store 35 (Go.Operand.tmp 14) (Go.Operand.tmp 12), type := 0, pos := "rlog.go:71", after := #[{ on := 9, ground := Go.Ground.data }, { on := 7, ground := Go.Ground.data }, { on := 7, ground := Go.Ground.chain }, { on := 0, ground := Go.Ground.phase }, { on := 1, ground := Go.Ground.phase }, { on := 2, ground := Go.Ground.phase }, { on := 3, ground := Go.Ground.phase }, { on := 4, ground := Go.Ground.phase }, { on := 5, ground := Go.Ground.phase }, { on := 6, ground := Go.Ground.phase }, { on := 7, ground := Go.Ground.phase }], guard := none } : Oper) := by kernel_rfl
  refine wpOp_plain ho rfl ?_
  clear hN hI ho
  obtain ⟨hg, hlt, hh, hR, hK, hB⟩ := n7
  obtain ⟨A2, c2, e2⟩ := Kd.R_slice hR
  rw [e2] at hR
  have hcell : w.cell? ⟨g, 2, none⟩ = some v0 := by simp [World.cell?, hh]
  have hfz : w.frozen? ⟨g, 2, none⟩ = false := by simp [World.frozen?, hh]
  have HH := Aside0.mk hh
  have HR := Aside0.mk hR
  have HK := Aside0.mk hK
  have HB := Aside0.mk hB
  clear hh hR hK hB
  go_simp
  refine ⟨undef, rfl, ⟨⟨.inl hg, _, set_field2 HH.out _, ?_⟩, Kept.setCell HK.out (.inl hg) _, Below.setCell HB.out (Nat.zero_le _) _⟩, .inr ⟨?_, ?_⟩⟩
  · have := Kd.R_far (p := ⟨g, 2, none⟩) HR.out (fun k hk => hk.2) (.slice A2 (es.length + zs.length) c2)
    rw [List.length_append] at this
    exact Kd.R_mono this (fun k hk => ⟨hk.1, hk.2⟩)
  · intro j u hj hne hk hcc hF
    have hj' : j = 0 ∨ j = 1 ∨ j = 2 ∨ j = 3 ∨ j = 4 ∨ j = 5 ∨ j = 6 ∨ j = 7 ∨ j = 8 ∨ j = 9 ∨ j = 10 := by omega
    rcases hj' with rfl | rfl | rfl | rfl | rfl | rfl | rfl | rfl | rfl | rfl | rfl <;> first | exact hF | (exact absurd hk (by decide)) | (exact absurd rfl hne) | (exact absurd hcc (by decide))
  · intro hk
    exact absurd hk (by decide)
theorem monoA (w0 : World) (ok : Nat → Prop) (g : Nat) (at_ t : Int) (v0 : Value) (es : List S60) (A : Option Addr) (c : Nat) (ys zs : List S60) (k : Nat) (j : Nat) (v : Value) (w w' : World) (h : FA w0 ok g at_ t v0 es A c ys zs k j v w) (hb : Below w.heap.size w w') : FA w0 ok g at_ t v0 es A c ys zs k j v w' := by
  unfold FA at h ⊢
  split <;> first
    | exact True.intro
    | exact h
    | exact Kd.R_below h hb
    | exact ⟨h.1, h.2.1, (hb.block g (Array.getElem?_eq_some_iff.1 h.2.2.1).1).trans h.2.2.1, Kd.R_below h.2.2.2.1 hb, Kept.below h.2.2.2.2.1 hb, h.2.2.2.2.2.trans (hb.mono (Nat.zero_le _))⟩
    | exact ⟨h.1.below hb, Kept.below h.2.1 hb, h.2.2.trans (hb.mono (Nat.zero_le _))⟩
theorem monoIA (w0 : World) (ok : Nat → Prop) (g : Nat) (at_ t : Int) (v0 : Value) (es : List S60) (A : Option Addr) (c : Nat) (ys zs : List S60) (k : Nat) (w w' : World) (h : IA w0 ok g at_ t v0 es A c ys zs k w) (hb : Below w.heap.size w w') : IA w0 ok g at_ t v0 es A c ys zs k w' := by
  obtain ⟨hg, hh, hR, hC, hc, hf, hl, hlt, hK, hB⟩ := h
  exact ⟨hg, (hb.block g (Array.getElem?_eq_some_iff.1 hh).1).trans hh, Kd.R_below hR hb, Kd.C_below hC hb, hc, hf, hl, hlt, Kept.below hK hb, hB.trans (hb.mono (Nat.zero_le _))⟩
theorem hinA : ∀ i, i < 11 → ∀ d, dstA i = some d → d < 17 := by
  have h2 : ∀ i, i < 11 → (dstA i).all (fun d => decide (d < 17)) = true := by decide
  intro i hi d hd
  have := h2 i hi
  rw [hd] at this
  simpa using this
set_option maxRecDepth 100000 in
theorem regionA {ops : Array Oper} {Q : Exit → Act → World → Prop} (hops : ops = opsOf Try.f14 1) {id : Nat} (w0 : World) (ok : Nat → Prop) (g : Nat) (at_ t : Int) (v0 : Value) (es : List S60) (A : Option Addr) (c : Nat) (ys zs : List S60) (k : Nat) (a0 : Act) (w0_ : World) (hI0 : IA w0 ok g at_ t v0 es A c ys zs k w0_) (hsz : a0.tmps.size = 17) (h0 : a0.tmps[0]?.getD undef = .pointer (some ⟨g, 0, none⟩)) (h1 : a0.tmps[1]?.getD undef = .slice A ys.length c)
    (hQ : ∀ a w, AgreeO 11 dstA a0 a → FA w0 ok g at_ t v0 es A c ys zs k 10 (slotO dstA a 10) w → Q .normal a w) : (Code.region id ops true).wp Try.prog Q a0 w0_ := by
  refine region_held (n := 11) dstA (FA w0 ok g at_ t v0 es A c ys zs k) (IA w0 ok g at_ t v0 es A c ys zs k) ndA ncA usA killA killIA useIA (by kernel_rfl) (by rw [hops]; kernel_rfl) (by decide) ?_ (fun j v w w' _ h hb => monoA w0 ok g at_ t v0 es A c ys zs k j v w w' h hb) (fun w w' h hb => monoIA w0 ok g at_ t v0 es A c ys zs k w w' h hb) hI0 (by rw [hops]; kernel_rfl) (by decide) (by decide) (by decide) (by decide) (by decide) 10 (by decide) (by decide) ?_ hQ
  · intro i hi d hd
    rw [hsz]; exact hinA i hi d hd
  · intro i a w hi hA hN hI
    have h0 := (hA.old 0 (by decide)).trans h0
    have h1 := (hA.old 1 (by decide)).trans h1
    have hi' : i = 0 ∨ i = 1 ∨ i = 2 ∨ i = 3 ∨ i = 4 ∨ i = 5 ∨ i = 6 ∨ i = 7 ∨ i = 8 ∨ i = 9 ∨ i = 10 := by omega
    rcases hi' with rfl | rfl | rfl | rfl | rfl | rfl | rfl | rfl | rfl | rfl | rfl
    · exact sA_0 hops w0 ok g at_ t v0 es A c ys zs k a w h0 h1 hN hI
    · exact sA_1 hops w0 ok g at_ t v0 es A c ys zs k a w h0 h1 hN hI
    · exact sA_2 hops w0 ok g at_ t v0 es A c ys zs k a w h0 h1 hN hI
    · exact sA_3 hops w0 ok g at_ t v0 es A c ys zs k a w h0 h1 hN hI
    · exact sA_4 hops w0 ok g at_ t v0 es A c ys zs k a w h0 h1 hN hI
    · exact sA_5 hops w0 ok g at_ t v0 es A c ys zs k a w h0 h1 hN hI
    · exact sA_6 hops w0 ok g at_ t v0 es A c ys zs k a w h0 h1 hN hI
    · exact sA_7 hops w0 ok g at_ t v0 es A c ys zs k a w h0 h1 hN hI
    · exact sA_8 hops w0 ok g at_ t v0 es A c ys zs k a w h0 h1 hN hI
    · exact sA_9 hops w0 ok g at_ t v0 es A c ys zs k a w h0 h1 hN hI
    · exact sA_10 hops w0 ok g at_ t v0 es A c ys zs k a w h0 h1 hN hI
theorem append_calls {w : World} {ok : Nat → Prop} {g : Nat} {at_ t : Int} {es : List S60} (h : Log w ok g at_ t es) (h0 : 0 ≤ at_) (A : Option Addr) (c : Nat) (ys zs : List S60) (k : Nat) (hC : Kd.C k60 w A ys.length ys) (hc : ys.length ≤ c)
    (hf : rlog_owned.f k ys = some zs) (hl : (es.length + zs.length) * 192 ≤ 140737488355328) (h1 : at_ + (es ++ zs).length ≤ 4611686018427387904) :
    Calls Try.prog 14 #[.pointer (some ⟨g, 0, none⟩), .slice A ys.length c] w fun e w' => e = .returned (.int .i64 (at_ + (es ++ zs).length)) ∧ Log w' (fun k => ok k ∨ w.heap.size ≤ k) g at_ t (es ++ zs) ∧ Kept w w' ok ∧ Below 0 w w' := by
  obtain ⟨hg, v0, hh, hR⟩ := h
  have hlt : g < w.heap.size := (Array.getElem?_eq_some_iff.1 hh).1
  have hI : IA w ok g at_ t v0 es A c ys zs k w := ⟨hg, hh, Kd.R_mono (Kd.R_bound hR) (fun k hk => ⟨⟨hk.1.1, hk.2.2.1⟩, hk.1.2⟩), hC, hc, hf, hl, hlt, Kept.refl _ _, Below.refl _ _⟩
  have HI := Aside0.mk hI
  have HL := Aside0.mk (And.intro h0 h1)
  clear hI hR hC hf hl hh h0 h1
  go_enter Try.func14, Try.ntmps14
  go_wp2_with fail
  refine regionA (by kernel_rfl) w ok g at_ t v0 es A c ys zs k _ w HI.out rfl rfl rfl ?_
  intro a2 w2 hA ⟨hlog, hK, hB⟩
  have HL2 := Aside0.mk hlog
  have HK2 := Aside0.mk hK
  have HB2 := Aside0.mk hB
  clear hlog hK hB
  rw [hA.frame hinA]
  clear hA
  simp only [List.range_succ, List.range_zero, List.nil_append, List.cons_append, foldO, dstA, List.getD_cons_zero, List.getD_cons_succ, Act.put]
  generalize slotO dstA a2 0 = y0
  generalize slotO dstA a2 1 = y1
  generalize slotO dstA a2 2 = y2
  generalize slotO dstA a2 3 = y3
  generalize slotO dstA a2 4 = y4
  generalize slotO dstA a2 5 = y5
  generalize slotO dstA a2 6 = y6
  generalize slotO dstA a2 7 = y7
  generalize slotO dstA a2 8 = y8
  generalize slotO dstA a2 9 = y9
  generalize slotO dstA a2 10 = y10
  clear a2
  go_wp2_with fail
  refine (last_calls HL2.out (by have := HL.out.1; omega) HL.out.2).mono ?_
  rintro _ w3 ⟨rfl, m, rfl⟩
  go_wp2_with fail
  go_ret
  exact ⟨by simp, HL2.out.drewN m, ⟨HK2.out.1, HK2.out.2⟩, pw_below_drewN HB2.out m⟩

end Go.Proofs.Ytigjfnleinhahaa.PLog
