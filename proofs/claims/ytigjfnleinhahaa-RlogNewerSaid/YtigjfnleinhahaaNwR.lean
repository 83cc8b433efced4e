/- RlogNewer: the region that makes three logs. -/
import Derived.Test.YtigjfnleinhahaaMade
import Derived.Test.YtigjfnleinhahaaRegA
import Derived.Test.YtigjfnleinhahaaPLogx0
namespace Go.Proofs.Ytigjfnleinhahaa.PLog
open Go.RowKit Go.Proofs.YtigjfnleinhahaaW.PrintWords Go.Proofs.YtigjfnleinhahaaW.PrintLast Go.Proofs.YtigjfnleinhahaaW.PrintMore
open Go.Proofs.Ytigjfnleinhahaa.Reg
set_option linter.unusedVariables false
set_option linter.unusedSimpArgs false
/-- A log that 'made' has made. -/
def Made (y : Int) (v : Value) (w : World) : Prop := ∃ g n, v = .pointer (some ⟨g, 0, none⟩) ∧ n ≤ 4 ∧ Log w (fun _ => True) g 0 0 (List.replicate n (en (1 + (y % 18446744073709551616 % 4))))
theorem Made.below {y : Int} {v : Value} {w w' : World} (h : Made y v w) (hb : Below w.heap.size w w') : Made y v w' := by
  obtain ⟨g, n, h1, h2, h3⟩ := h
  exact ⟨g, n, h1, h2, h3.below hb⟩
def dstN (i : Nat) : Option Nat := ([some 22, some 23, some 24, some 25, some 26, some 27, some 7, some 8, some 9] : List (Option Nat)).getD i none
def ndN : List (List Nat) := [[], [0], [], [2, 1], [], [4, 3], [1, 5, 0, 1], [3, 6, 0, 1, 2, 3, 6], [5, 7, 0, 1, 2, 3, 4, 5, 6, 7]]
def usN : List (List Nat) := [[], [0], [], [2], [], [4], [1], [3], [5]]
def ncN : List (List Nat) := [[], [0], [], [0, 1, 2], [], [0, 1, 2, 3, 4], [0, 1, 2, 3, 4, 5], [0, 1, 2, 3, 4, 5, 6], [0, 1, 2, 3, 4, 5, 6, 7]]
def killN (h j : Nat) : Bool := (false)
def killIN (_ : Nat) : Bool := false
def useIN (h : Nat) : Bool := [0, 1, 2, 3, 4, 5].contains h
def IN (w0 : World) (b1 b2 b3 : Nat) (x1 y1 x2 y2 x3 y3 : Int) (w : World) : Prop := w.heap[b1]? = some (.cells #[.int .i64 x1, .int .i64 y1] 22 (0, 0)) ∧ w.heap[b2]? = some (.cells #[.int .i64 x2, .int .i64 y2] 22 (0, 0)) ∧ w.heap[b3]? = some (.cells #[.int .i64 x3, .int .i64 y3] 22 (0, 0)) ∧ ((-9223372036854775808 ≤ x1 ∧ x1 ≤ 9223372036854775807) ∧ (-9223372036854775808 ≤ y1 ∧ y1 ≤ 9223372036854775807) ∧ (-9223372036854775808 ≤ x2 ∧ x2 ≤ 9223372036854775807) ∧ (-9223372036854775808 ≤ y2 ∧ y2 ≤ 9223372036854775807) ∧ (-9223372036854775808 ≤ x3 ∧ x3 ≤ 9223372036854775807) ∧ (-9223372036854775808 ≤ y3 ∧ y3 ≤ 9223372036854775807)) ∧ Below w0.heap.size w0 w
def FN (w0 : World) (b1 b2 b3 : Nat) (x1 y1 x2 y2 x3 y3 : Int) : Nat → Value → World → Prop
  | 0, v, w => v = .agg #[.int .i64 x1, .int .i64 y1]
  | 1, v, w => Made y1 v w
  | 2, v, w => v = .agg #[.int .i64 x2, .int .i64 y2]
  | 3, v, w => Made y2 v w
  | 4, v, w => v = .agg #[.int .i64 x3, .int .i64 y3]
  | 5, v, w => Made y3 v w
  | 6, v, w => Made y1 v w
  | 7, v, w => Made y2 v w
  | 8, v, w => Made y3 v w
  | _, _, _ => True
set_option maxRecDepth 100000 in
theorem sN_0 {ops : Array Oper} {Q : Exit → Act → World → Prop} (hops : ops = opsOf Try.f3 3) (w0 : World) (b1 b2 b3 : Nat) (x1 y1 x2 y2 x3 y3 : Int) (a : Act) (w : World) (h3 : a.tmps[3]?.getD undef = .pointer (some ⟨b1, 0, none⟩)) (h4 : a.tmps[4]?.getD undef = .pointer (some ⟨b2, 0, none⟩)) (h5 : a.tmps[5]?.getD undef = .pointer (some ⟨b3, 0, none⟩))
    (hN : ∀ j, j ∈ usN.getD 0 [] → FN w0 b1 b2 b3 x1 y1 x2 y2 x3 y3 j (slotO dstN a j) w) (hI : useIN 0 = true → IN w0 b1 b2 b3 x1 y1 x2 y2 x3 y3 w) : wpOp Try.prog ops Q 0 (fun a' w' => ∃ v, a' = a.put (dstN 0) v ∧ FN w0 b1 b2 b3 x1 y1 x2 y2 x3 y3 0 (valO dstN 0 v) w' ∧ (Below w.heap.size w w' ∨ ((∀ j u, j < 9 → j ≠ 0 → killN 0 j = false → (ncN.getD j []).contains 0 = false → FN w0 b1 b2 b3 x1 y1 x2 y2 x3 y3 j u w → FN w0 b1 b2 b3 x1 y1 x2 y2 x3 y3 j u w') ∧ (killIN 0 = false → IN w0 b1 b2 b3 x1 y1 x2 y2 x3 y3 w → IN w0 b1 b2 b3 x1 y1 x2 y2 x3 y3 w')))) a w := by
  subst hops
  have hi : IN w0 b1 b2 b3 x1 y1 x2 y2 x3 y3 w := hI (by decide)
  have ho : (opsOf Try.f3 3)[0]? = some ({ dst := some 22, op := Go.Op.load 22 (Go.Operand.tmp 3), type := 22, pos := "law.go:183", after := #[], guard := none } : Oper) := by kernel_rfl
  refine wpOp_plain ho rfl ?_
  clear hN hI ho
  obtain ⟨hh1, hh2, hh3, hr, hB⟩ := hi
  have hc0 : w.cell? ⟨b1, 0, none⟩ = some (.int .i64 x1) := by simp [World.cell?, hh1]
  have hc1 : w.cell? ⟨b1, 1, none⟩ = some (.int .i64 y1) := by simp [World.cell?, hh1]
  clear hh1 hh2 hh3 hr hB
  go_simp
  first | exact ⟨_, rfl, rfl⟩ | exact ⟨_, rfl, rfl, .inl (Below.refl _ _)⟩
set_option maxRecDepth 100000 in
theorem sN_1 {ops : Array Oper} {Q : Exit → Act → World → Prop} (hops : ops = opsOf Try.f3 3) (w0 : World) (b1 b2 b3 : Nat) (x1 y1 x2 y2 x3 y3 : Int) (a : Act) (w : World) (h3 : a.tmps[3]?.getD undef = .pointer (some ⟨b1, 0, none⟩)) (h4 : a.tmps[4]?.getD undef = .pointer (some ⟨b2, 0, none⟩)) (h5 : a.tmps[5]?.getD undef = .pointer (some ⟨b3, 0, none⟩))
    (hN : ∀ j, j ∈ usN.getD 1 [] → FN w0 b1 b2 b3 x1 y1 x2 y2 x3 y3 j (slotO dstN a j) w) (hI : useIN 1 = true → IN w0 b1 b2 b3 x1 y1 x2 y2 x3 y3 w) : wpOp Try.prog ops Q 1 (fun a' w' => ∃ v, a' = a.put (dstN 1) v ∧ FN w0 b1 b2 b3 x1 y1 x2 y2 x3 y3 1 (valO dstN 1 v) w' ∧ (Below w.heap.size w w' ∨ ((∀ j u, j < 9 → j ≠ 1 → killN 1 j = false → (ncN.getD j []).contains 1 = false → FN w0 b1 b2 b3 x1 y1 x2 y2 x3 y3 j u w → FN w0 b1 b2 b3 x1 y1 x2 y2 x3 y3 j u w') ∧ (killIN 1 = false → IN w0 b1 b2 b3 x1 y1 x2 y2 x3 y3 w → IN w0 b1 b2 b3 x1 y1 x2 y2 x3 y3 w')))) a w := by
  subst hops
  have n0 : a.tmps[22]?.getD undef = .agg #[.int .i64 x1, .int .i64 y1] := hN 0 (by decide)
  have hi : IN w0 b1 b2 b3 x1 y1 x2 y2 x3 y3 w := hI (by decide)
  have ho : (opsOf Try.f3 3)[1]? = some ({ dst := some 23, op := Go.Op.call { callee := Go.Callee.value (Go.Operand.func 8), args := #[Go.Operand.tmp 22], argTypes := #[22] }, type := 24, pos := "law.go:183", after := #[{ on := 0, ground := Go.Ground.data }], guard := none } : Oper) := by kernel_rfl
  refine wpOp_plain ho rfl ?_
  clear hN hI ho
  obtain ⟨hh1, hh2, hh3, ⟨hx1, hy1, hx2, hy2, hx3, hy3⟩, hB⟩ := hi
  have HH := Aside0.mk (made_calls w x1 y1 hx1 hy1)
  clear hh1 hh2 hh3 hx1 hy1 hx2 hy2 hx3 hy3 hB
  go_simp
  refine HH.out.mono ?_
  rintro e w' ⟨g, n, rfl, hn, hl, hb⟩
  exact ⟨_, rfl, ⟨g, n, rfl, hn, hl.mono (fun _ _ => True.intro)⟩, .inl hb⟩
set_option maxRecDepth 100000 in
theorem sN_2 {ops : Array Oper} {Q : Exit → Act → World → Prop} (hops : ops = opsOf Try.f3 3) (w0 : World) (b1 b2 b3 : Nat) (x1 y1 x2 y2 x3 y3 : Int) (a : Act) (w : World) (h3 : a.tmps[3]?.getD undef = .pointer (some ⟨b1, 0, none⟩)) (h4 : a.tmps[4]?.getD undef = .pointer (some ⟨b2, 0, none⟩)) (h5 : a.tmps[5]?.getD undef = .pointer (some ⟨b3, 0, none⟩))
    (hN : ∀ j, j ∈ usN.getD 2 [] → FN w0 b1 b2 b3 x1 y1 x2 y2 x3 y3 j (slotO dstN a j) w) (hI : useIN 2 = true → IN w0 b1 b2 b3 x1 y1 x2 y2 x3 y3 w) : wpOp Try.prog ops Q 2 (fun a' w' => ∃ v, a' = a.put (dstN 2) v ∧ FN w0 b1 b2 b3 x1 y1 x2 y2 x3 y3 2 (valO dstN 2 v) w' ∧ (Below w.heap.size w w' ∨ ((∀ j u, j < 9 → j ≠ 2 → killN 2 j = false → (ncN.getD j []).contains 2 = false → FN w0 b1 b2 b3 x1 y1 x2 y2 x3 y3 j u w → FN w0 b1 b2 b3 x1 y1 x2 y2 x3 y3 j u w') ∧ (killIN 2 = false → IN w0 b1 b2 b3 x1 y1 x2 y2 x3 y3 w → IN w0 b1 b2 b3 x1 y1 x2 y2 x3 y3 w')))) a w := by
  subst hops
  have hi : IN w0 b1 b2 b3 x1 y1 x2 y2 x3 y3 w := hI (by decide)
  have ho : (opsOf Try.f3 3)[2]? = some ({ dst := some 24, op := Go.Op.load 22 (Go.Operand.tmp 4), type := 22, pos := "law.go:183", after := #[], guard := none } : Oper) := by kernel_rfl
  refine wpOp_plain ho rfl ?_
  clear hN hI ho
  obtain ⟨hh1, hh2, hh3, hr, hB⟩ := hi
  have hc0 : w.cell? ⟨b2, 0, none⟩ = some (.int .i64 x2) := by simp [World.cell?, hh2]
  have hc1 : w.cell? ⟨b2, 1, none⟩ = some (.int .i64 y2) := by simp [World.cell?, hh2]
  clear hh1 hh2 hh3 hr hB
  go_simp
  first | exact ⟨_, rfl, rfl⟩ | exact ⟨_, rfl, rfl, .inl (Below.refl _ _)⟩
set_option maxRecDepth 100000 in
theorem sN_3 {ops : Array Oper} {Q : Exit → Act → World → Prop} (hops : ops = opsOf Try.f3 3) (w0 : World) (b1 b2 b3 : Nat) (x1 y1 x2 y2 x3 y3 : Int) (a : Act) (w : World) (h3 : a.tmps[3]?.getD undef = .pointer (some ⟨b1, 0, none⟩)) (h4 : a.tmps[4]?.getD undef = .pointer (some ⟨b2, 0, none⟩)) (h5 : a.tmps[5]?.getD undef = .pointer (some ⟨b3, 0, none⟩))
    (hN : ∀ j, j ∈ usN.getD 3 [] → FN w0 b1 b2 b3 x1 y1 x2 y2 x3 y3 j (slotO dstN a j) w) (hI : useIN 3 = true → IN w0 b1 b2 b3 x1 y1 x2 y2 x3 y3 w) : wpOp Try.prog ops Q 3 (fun a' w' => ∃ v, a' = a.put (dstN 3) v ∧ FN w0 b1 b2 b3 x1 y1 x2 y2 x3 y3 3 (valO dstN 3 v) w' ∧ (Below w.heap.size w w' ∨ ((∀ j u, j < 9 → j ≠ 3 → killN 3 j = false → (ncN.getD j []).contains 3 = false → FN w0 b1 b2 b3 x1 y1 x2 y2 x3 y3 j u w → FN w0 b1 b2 b3 x1 y1 x2 y2 x3 y3 j u w') ∧ (killIN 3 = false → IN w0 b1 b2 b3 x1 y1 x2 y2 x3 y3 w → IN w0 b1 b2 b3 x1 y1 x2 y2 x3 y3 w')))) a w := by
  subst hops
  have n2 : a.tmps[24]?.getD undef = .agg #[.int .i64 x2, .int .i64 y2] := hN 2 (by decide)
  have hi : IN w0 b1 b2 b3 x1 y1 x2 y2 x3 y3 w := hI (by decide)
  have ho : (opsOf Try.f3 3)[3]? = some ({ dst := some 25, op := Go.Op.call { callee := Go.Callee.value (Go.Operand.func 8), args := #[Go.Operand.tmp 24], argTypes := #[22] }, type := 24, pos := "law.go:183", after := #[{ on := 2, ground := Go.Ground.data }, { on := 1, ground := Go.Ground.chain }], guard := none } : Oper) := by kernel_rfl
  refine wpOp_plain ho rfl ?_
  clear hN hI ho
  obtain ⟨hh1, hh2, hh3, ⟨hx1, hy1, hx2, hy2, hx3, hy3⟩, hB⟩ := hi
  have HH := Aside0.mk (made_calls w x2 y2 hx2 hy2)
  clear hh1 hh2 hh3 hx1 hy1 hx2 hy2 hx3 hy3 hB
  go_simp
  refine HH.out.mono ?_
  rintro e w' ⟨g, n, rfl, hn, hl, hb⟩
  exact ⟨_, rfl, ⟨g, n, rfl, hn, hl.mono (fun _ _ => True.intro)⟩, .inl hb⟩
set_option maxRecDepth 100000 in
theorem sN_4 {ops : Array Oper} {Q : Exit → Act → World → Prop} (hops : ops = opsOf Try.f3 3) (w0 : World) (b1 b2 b3 : Nat) (x1 y1 x2 y2 x3 y3 : Int) (a : Act) (w : World) (h3 : a.tmps[3]?.getD undef = .pointer (some ⟨b1, 0, none⟩)) (h4 : a.tmps[4]?.getD undef = .pointer (some ⟨b2, 0, none⟩)) (h5 : a.tmps[5]?.getD undef = .pointer (some ⟨b3, 0, none⟩))
    (hN : ∀ j, j ∈ usN.getD 4 [] → FN w0 b1 b2 b3 x1 y1 x2 y2 x3 y3 j (slotO dstN a j) w) (hI : useIN 4 = true → IN w0 b1 b2 b3 x1 y1 x2 y2 x3 y3 w) : wpOp Try.prog ops Q 4 (fun a' w' => ∃ v, a' = a.put (dstN 4) v ∧ FN w0 b1 b2 b3 x1 y1 x2 y2 x3 y3 4 (valO dstN 4 v) w' ∧ (Below w.heap.size w w' ∨ ((∀ j u, j < 9 → j ≠ 4 → killN 4 j = false → (ncN.getD j []).contains 4 = false → FN w0 b1 b2 b3 x1 y1 x2 y2 x3 y3 j u w → FN w0 b1 b2 b3 x1 y1 x2 y2 x3 y3 j u w') ∧ (killIN 4 = false → IN w0 b1 b2 b3 x1 y1 x2 y2 x3 y3 w → IN w0 b1 b2 b3 x1 y1 x2 y2 x3 y3 w')))) a w := by
  subst hops
  have hi : IN w0 b1 b2 b3 x1 y1 x2 y2 x3 y3 w := hI (by decide)
  have ho : (opsOf Try.f3 3)[4]? = some ({ dst := some 26, op := Go.Op.load 22 (Go.Operand.tmp 5), type := 22, pos := "law.go:183", after := #[], guard := none } : Oper) := by kernel_rfl
  refine wpOp_plain ho rfl ?_
  clear hN hI ho
  obtain ⟨hh1, hh2, hh3, hr, hB⟩ := hi
  have hc0 : w.cell? ⟨b3, 0, none⟩ = some (.int .i64 x3) := by simp [World.cell?, hh3]
  have hc1 : w.cell? ⟨b3, 1, none⟩ = some (.int .i64 y3) := by simp [World.cell?, hh3]
  clear hh1 hh2 hh3 hr hB
  go_simp
  first | exact ⟨_, rfl, rfl⟩ | exact ⟨_, rfl, rfl, .inl (Below.refl _ _)⟩
set_option maxRecDepth 100000 in
theorem sN_5 {ops : Array Oper} {Q : Exit → Act → World → Prop} (hops : ops = opsOf Try.f3 3) (w0 : World) (b1 b2 b3 : Nat) (x1 y1 x2 y2 x3 y3 : Int) (a : Act) (w : World) (h3 : a.tmps[3]?.getD undef = .pointer (some ⟨b1, 0, none⟩)) (h4 : a.tmps[4]?.getD undef = .pointer (some ⟨b2, 0, none⟩)) (h5 : a.tmps[5]?.getD undef = .pointer (some ⟨b3, 0, none⟩))
    (hN : ∀ j, j ∈ usN.getD 5 [] → FN w0 b1 b2 b3 x1 y1 x2 y2 x3 y3 j (slotO dstN a j) w) (hI : useIN 5 = true → IN w0 b1 b2 b3 x1 y1 x2 y2 x3 y3 w) : wpOp Try.prog ops Q 5 (fun a' w' => ∃ v, a' = a.put (dstN 5) v ∧ FN w0 b1 b2 b3 x1 y1 x2 y2 x3 y3 5 (valO dstN 5 v) w' ∧ (Below w.heap.size w w' ∨ ((∀ j u, j < 9 → j ≠ 5 → killN 5 j = false → (ncN.getD j []).contains 5 = false → FN w0 b1 b2 b3 x1 y1 x2 y2 x3 y3 j u w → FN w0 b1 b2 b3 x1 y1 x2 y2 x3 y3 j u w') ∧ (killIN 5 = false → IN w0 b1 b2 b3 x1 y1 x2 y2 x3 y3 w → IN w0 b1 b2 b3 x1 y1 x2 y2 x3 y3 w')))) a w := by
  subst hops
  have n4 : a.tmps[26]?.getD undef = .agg #[.int .i64 x3, .int .i64 y3] := hN 4 (by decide)
  have hi : IN w0 b1 b2 b3 x1 y1 x2 y2 x3 y3 w := hI (by decide)
  have ho : (opsOf Try.f3 3)[5]? = some ({ dst := some 27, op := Go.Op.call { callee := Go.Callee.value (Go.Operand.func 8), args := #[Go.Operand.tmp 26], argTypes := #[22] }, type := 24, pos := "law.go:183", after := #[{ on := 4, ground := Go.Ground.data }, { on := 3, ground := Go.Ground.chain }], guard := none } : Oper) := by kernel_rfl
  refine wpOp_plain ho rfl ?_
  clear hN hI ho
  obtain ⟨hh1, hh2, hh3, ⟨hx1, hy1, hx2, hy2, hx3, hy3⟩, hB⟩ := hi
  have HH := Aside0.mk (made_calls w x3 y3 hx3 hy3)
  clear hh1 hh2 hh3 hx1 hy1 hx2 hy2 hx3 hy3 hB
  go_simp
  refine HH.out.mono ?_
  rintro e w' ⟨g, n, rfl, hn, hl, hb⟩
  exact ⟨_, rfl, ⟨g, n, rfl, hn, hl.mono (fun _ _ => True.intro)⟩, .inl hb⟩
set_option maxRecDepth 100000 in
theorem sN_6 {ops : Array Oper} {Q : Exit → Act → World → Prop} (hops : ops = opsOf Try.f3 3) (w0 : World) (b1 b2 b3 : Nat) (x1 y1 x2 y2 x3 y3 : Int) (a : Act) (w : World) (h3 : a.tmps[3]?.getD undef = .pointer (some ⟨b1, 0, none⟩)) (h4 : a.tmps[4]?.getD undef = .pointer (some ⟨b2, 0, none⟩)) (h5 : a.tmps[5]?.getD undef = .pointer (some ⟨b3, 0, none⟩))
    (hN : ∀ j, j ∈ usN.getD 6 [] → FN w0 b1 b2 b3 x1 y1 x2 y2 x3 y3 j (slotO dstN a j) w) (hI : useIN 6 = true → IN w0 b1 b2 b3 x1 y1 x2 y2 x3 y3 w) : wpOp Try.prog ops Q 6 (fun a' w' => ∃ v, a' = a.put (dstN 6) v ∧ FN w0 b1 b2 b3 x1 y1 x2 y2 x3 y3 6 (valO dstN 6 v) w' ∧ (Below w.heap.size w w' ∨ ((∀ j u, j < 9 → j ≠ 6 → killN 6 j = false → (ncN.getD j []).contains 6 = false → FN w0 b1 b2 b3 x1 y1 x2 y2 x3 y3 j u w → FN w0 b1 b2 b3 x1 y1 x2 y2 x3 y3 j u w') ∧ (killIN 6 = false → IN w0 b1 b2 b3 x1 y1 x2 y2 x3 y3 w → IN w0 b1 b2 b3 x1 y1 x2 y2 x3 y3 w')))) a w := by
  subst hops
  have n1 : (fun (v : Value) (w : World) => Made y1 v w) (a.tmps[23]?.getD undef) w := hN 1 (by decide)
  have ho : (opsOf Try.f3 3)[6]? = some ({ dst := some 7, op := Go.Op.assign (Go.Operand.tmp 23), type := 24, pos := "law.go:183", after := #[{ on := 1, ground := Go.Ground.data }, { on := 5, ground := Go.Ground.chain }, { on := 0, ground := Go.Ground.phase }, { on := 1, ground := Go.Ground.phase }, { on := 2, ground := Go.Ground.textOnly Go.Departure.lateStores }, { on := 3, ground := Go.Ground.textOnly Go.Departure.lateStoresUnsure }, { on := 4, ground := Go.Ground.textOnly Go.Departure.lateStores }, { on := 5, ground := Go.Ground.textOnly Go.Departure.lateStoresUnsure }], guard := none } : Oper) := by kernel_rfl
  refine wpOp_plain ho rfl ?_
  clear hN hI ho
  obtain ⟨g, n, hg, hn, hl⟩ := n1
  have HL := Aside0.mk hl
  clear hl
  go_simp
  first | exact ⟨_, rfl, ⟨g, n, rfl, hn, HL.out⟩, .inl (Below.refl _ _)⟩ | exact ⟨_, rfl, g, n, rfl, hn, HL.out⟩
set_option maxRecDepth 100000 in
theorem sN_7 {ops : Array Oper} {Q : Exit → Act → World → Prop} (hops : ops = opsOf Try.f3 3) (w0 : World) (b1 b2 b3 : Nat) (x1 y1 x2 y2 x3 y3 : Int) (a : Act) (w : World) (h3 : a.tmps[3]?.getD undef = .pointer (some ⟨b1, 0, none⟩)) (h4 : a.tmps[4]?.getD undef = .pointer (some ⟨b2, 0, none⟩)) (h5 : a.tmps[5]?.getD undef = .pointer (some ⟨b3, 0, none⟩))
    (hN : ∀ j, j ∈ usN.getD 7 [] → FN w0 b1 b2 b3 x1 y1 x2 y2 x3 y3 j (slotO dstN a j) w) (hI : useIN 7 = true → IN w0 b1 b2 b3 x1 y1 x2 y2 x3 y3 w) : wpOp Try.prog ops Q 7 (fun a' w' => ∃ v, a' = a.put (dstN 7) v ∧ FN w0 b1 b2 b3 x1 y1 x2 y2 x3 y3 7 (valO dstN 7 v) w' ∧ (Below w.heap.size w w' ∨ ((∀ j u, j < 9 → j ≠ 7 → killN 7 j = false → (ncN.getD j []).contains 7 = false → FN w0 b1 b2 b3 x1 y1 x2 y2 x3 y3 j u w → FN w0 b1 b2 b3 x1 y1 x2 y2 x3 y3 j u w') ∧ (killIN 7 = false → IN w0 b1 b2 b3 x1 y1 x2 y2 x3 y3 w → IN w0 b1 b2 b3 x1 y1 x2 y2 x3 y3 w')))) a w := by
  subst hops
  have n3 : (fun (v : Value) (w : World) => Made y2 v w) (a.tmps[25]?.getD undef) w := hN 3 (by decide)
  have ho : (opsOf Try.f3 3)[7]? = some ({ dst := some 8, op := Go.Op.assign (Go.Operand.tmp 25), type := 24, pos := "law.go:183", after := #[{ on := 3, ground := Go.Ground.data }, { on := 6, ground := Go.Ground.chain }, { on := 0, ground := Go.Ground.phase }, { on := 1, ground := Go.Ground.phase }, { on := 2, ground := Go.Ground.phase }, { on := 3, ground := Go.Ground.phase }, { on := 4, ground := Go.Ground.textOnly Go.Departure.lateStores }, { on := 5, ground := Go.Ground.textOnly Go.Departure.lateStoresUnsure }, { on := 6, ground := Go.Ground.phase }], guard := none } : Oper) := by kernel_rfl
  refine wpOp_plain ho rfl ?_
  clear hN hI ho
  obtain ⟨g, n, hg, hn, hl⟩ := n3
  have HL := Aside0.mk hl
  clear hl
  go_simp
  first | exact ⟨_, rfl, ⟨g, n, rfl, hn, HL.out⟩, .inl (Below.refl _ _)⟩ | exact ⟨_, rfl, g, n, rfl, hn, HL.out⟩
set_option maxRecDepth 100000 in
theorem sN_8 {ops : Array Oper} {Q : Exit → Act → World → Prop} (hops : ops = opsOf Try.f3 3) (w0 : World) (b1 b2 b3 : Nat) (x1 y1 x2 y2 x3 y3 : Int) (a : Act) (w : World) (h3 : a.tmps[3]?.getD undef = .pointer (some ⟨b1, 0, none⟩)) (h4 : a.tmps[4]?.getD undef = .pointer (some ⟨b2, 0, none⟩)) (h5 : a.tmps[5]?.getD undef = .pointer (some ⟨b3, 0, none⟩))
    (hN : ∀ j, j ∈ usN.getD 8 [] → FN w0 b1 b2 b3 x1 y1 x2 y2 x3 y3 j (slotO dstN a j) w) (hI : useIN 8 = true → IN w0 b1 b2 b3 x1 y1 x2 y2 x3 y3 w) : wpOp Try.prog ops Q 8 (fun a' w' => ∃ v, a' = a.put (dstN 8) v ∧ FN w0 b1 b2 b3 x1 y1 x2 y2 x3 y3 8 (valO dstN 8 v) w' ∧ (Below w.heap.size w w' ∨ ((∀ j u, j < 9 → j ≠ 8 → killN 8 j = false → (ncN.getD j []).contains 8 = false → FN w0 b1 b2 b3 x1 y1 x2 y2 x3 y3 j u w → FN w0 b1 b2 b3 x1 y1 x2 y2 x3 y3 j u w') ∧ (killIN 8 = false → IN w0 b1 b2 b3 x1 y1 x2 y2 x3 y3 w → IN w0 b1 b2 b3 x1 y1 x2 y2 x3 y3 w')))) a w := by
  subst hops
  have n5 : (fun (v : Value) (w : World) => Made y3 v w) (a.tmps[27]?.getD undef) w := hN 5 (by decide)
  have ho : (opsOf Try.f3 3)[8]? = some ({ dst := some 9, op := Go.Op.assign (Go.Operand.tmp 27), type := 24, pos := "law.go:183", after := #[{ on := 5, ground := Go.Ground.data }, { on := 7, ground := Go.Ground.chain }, { on := 0, ground := Go.Ground.phase }, { on := 1, ground := Go.Ground.phase }, { on := 2, ground := Go.Ground.phase }, { on := 3, ground := Go.Ground.phase }, { on := 4, ground := Go.Ground.phase }, { on := 5, ground := Go.Ground.phase }, { on := 6, ground := Go.Ground.phase }, { on := 7, ground := Go.Ground.phase }], guard := none } : Oper) := by kernel_rfl
  refine wpOp_plain ho rfl ?_
  clear hN hI ho
  obtain ⟨g, n, hg, hn, hl⟩ := n5
  have HL := Aside0.mk hl
  clear hl
  go_simp
  first | exact ⟨_, rfl, ⟨g, n, rfl, hn, HL.out⟩, .inl (Below.refl _ _)⟩ | exact ⟨_, rfl, g, n, rfl, hn, HL.out⟩
theorem monoN (w0 : World) (b1 b2 b3 : Nat) (x1 y1 x2 y2 x3 y3 : Int) (j : Nat) (v : Value) (w w' : World) (h : FN w0 b1 b2 b3 x1 y1 x2 y2 x3 y3 j v w) (hb : Below w.heap.size w w') : FN w0 b1 b2 b3 x1 y1 x2 y2 x3 y3 j v w' := by
  unfold FN at h ⊢
  split <;> first
    | exact True.intro
    | exact h
    | exact Made.below h hb
theorem monoIN (w0 : World) (b1 b2 b3 : Nat) (x1 y1 x2 y2 x3 y3 : Int) (w w' : World) (h : IN w0 b1 b2 b3 x1 y1 x2 y2 x3 y3 w) (hb : Below w.heap.size w w') : IN w0 b1 b2 b3 x1 y1 x2 y2 x3 y3 w' := by
  obtain ⟨h1, h2, h3, hr, hB⟩ := h
  exact ⟨(hb.block _ (Array.getElem?_eq_some_iff.1 h1).1).trans h1, (hb.block _ (Array.getElem?_eq_some_iff.1 h2).1).trans h2, (hb.block _ (Array.getElem?_eq_some_iff.1 h3).1).trans h3, hr, hB.trans (hb.mono hB.size)⟩
theorem hinN : ∀ i, i < 9 → ∀ d, dstN i = some d → d < 113 := by
  have h2 : ∀ i, i < 9 → (dstN i).all (fun d => decide (d < 113)) = true := by decide
  intro i hi d hd
  have := h2 i hi
  rw [hd] at this
  simpa using this
set_option maxRecDepth 100000 in
theorem regionN {ops : Array Oper} {Q : Exit → Act → World → Prop} (hops : ops = opsOf Try.f3 3) {id : Nat} (w0 : World) (b1 b2 b3 : Nat) (x1 y1 x2 y2 x3 y3 : Int) (a0 : Act) (w0_ : World) (hI0 : IN w0 b1 b2 b3 x1 y1 x2 y2 x3 y3 w0_) (hsz : a0.tmps.size = 113) (h3 : a0.tmps[3]?.getD undef = .pointer (some ⟨b1, 0, none⟩)) (h4 : a0.tmps[4]?.getD undef = .pointer (some ⟨b2, 0, none⟩)) (h5 : a0.tmps[5]?.getD undef = .pointer (some ⟨b3, 0, none⟩))
    (hQ : ∀ a w, AgreeO 9 dstN a0 a → FN w0 b1 b2 b3 x1 y1 x2 y2 x3 y3 6 (slotO dstN a 6) w → FN w0 b1 b2 b3 x1 y1 x2 y2 x3 y3 7 (slotO dstN a 7) w → FN w0 b1 b2 b3 x1 y1 x2 y2 x3 y3 8 (slotO dstN a 8) w → IN w0 b1 b2 b3 x1 y1 x2 y2 x3 y3 w → Q .normal a w) : (Code.region id ops true).wp Try.prog Q a0 w0_ := by
  refine region_heldA (n := 9) dstN (FN w0 b1 b2 b3 x1 y1 x2 y2 x3 y3) (IN w0 b1 b2 b3 x1 y1 x2 y2 x3 y3) ndN ncN usN killN killIN useIN (by kernel_rfl) (by rw [hops]; kernel_rfl) (by decide) ?_ (fun j v w w' _ h hb => monoN w0 b1 b2 b3 x1 y1 x2 y2 x3 y3 j v w w' h hb) (fun w w' h hb => monoIN w0 b1 b2 b3 x1 y1 x2 y2 x3 y3 w w' h hb) hI0 (by rw [hops]; kernel_rfl) (by decide) (by decide) (by decide) (by decide) (by decide) ?_ (fun a w hA hF hI => hQ a w hA (hF 6 (by decide) (by decide)) (hF 7 (by decide) (by decide)) (hF 8 (by decide) (by decide)) (hI (by decide)))
  · intro i hi d hd
    rw [hsz]; exact hinN i hi d hd
  · intro i a w hi hA hN hI
    have h3 := (hA.old 3 (by decide)).trans h3
    have h4 := (hA.old 4 (by decide)).trans h4
    have h5 := (hA.old 5 (by decide)).trans h5
    have hi' : i = 0 ∨ i = 1 ∨ i = 2 ∨ i = 3 ∨ i = 4 ∨ i = 5 ∨ i = 6 ∨ i = 7 ∨ i = 8 := by omega
    rcases hi' with rfl | rfl | rfl | rfl | rfl | rfl | rfl | rfl | rfl
    · exact sN_0 hops w0 b1 b2 b3 x1 y1 x2 y2 x3 y3 a w h3 h4 h5 hN hI
    · exact sN_1 hops w0 b1 b2 b3 x1 y1 x2 y2 x3 y3 a w h3 h4 h5 hN hI
    · exact sN_2 hops w0 b1 b2 b3 x1 y1 x2 y2 x3 y3 a w h3 h4 h5 hN hI
    · exact sN_3 hops w0 b1 b2 b3 x1 y1 x2 y2 x3 y3 a w h3 h4 h5 hN hI
    · exact sN_4 hops w0 b1 b2 b3 x1 y1 x2 y2 x3 y3 a w h3 h4 h5 hN hI
    · exact sN_5 hops w0 b1 b2 b3 x1 y1 x2 y2 x3 y3 a w h3 h4 h5 hN hI
    · exact sN_6 hops w0 b1 b2 b3 x1 y1 x2 y2 x3 y3 a w h3 h4 h5 hN hI
    · exact sN_7 hops w0 b1 b2 b3 x1 y1 x2 y2 x3 y3 a w h3 h4 h5 hN hI
    · exact sN_8 hops w0 b1 b2 b3 x1 y1 x2 y2 x3 y3 a w h3 h4 h5 hN hI
end Go.Proofs.Ytigjfnleinhahaa.PLog
