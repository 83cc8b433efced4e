/- The statement CrcSums: the walk. -/
import Derived.Test.YtppjhekjcoogoaaE1
import Derived.Test.YtppjhekjcoogoaaReg
namespace Go.Proofs.Ytppjhekjcoogoaa.PCrc
open Go.RowKit Go.Proofs.YtppjhekjcoogoaaW.PrintWords Go.Proofs.YtppjhekjcoogoaaW.PrintLast Go.Proofs.YtppjhekjcoogoaaW.PrintMore
open Go.Proofs.Ytppjhekjcoogoaa.PSum (okB ns ns_lt)
open CrcMath Reg
attribute [local go_sem] max2_int min2_int max_two min_two max_three min_three max_four min_four
set_option linter.unusedVariables false
set_option linter.unusedSimpArgs false
/-- A list of rows, just made. -/
def Rows1 (cs : List Value) (v : Value) (w : World) : Prop := ∃ g, v = .slice (some ⟨g, 0, none⟩) cs.length cs.length ∧ w.heap[g]? = some (.cells cs.toArray 22 (0, 0))
def tailV (A : Option Addr) (m k c : Nat) : Value := .slice (if c = k then A else A.map (·.add k)) (m - k) (c - k)
def F6 (A : Option Addr) (m k c cx ck : Nat) : Nat → Value → World → Prop
  | 0, v, _ | 6, v, _ | 9, v, _ | 18, v, _ | 23, v, _ => v = .slice A m c
  | 1, v, w => Rows1 [.slice A m c] v w
  | 2, v, _ | 3, v, _ | 13, v, _ | 14, v, _ | 26, v, _ | 27, v, _ => v = .int .u32 (cx : Int)
  | 4, v, _ | 5, v, _ | 15, v, _ | 16, v, _ | 17, v, _ | 28, v, _ | 29, v, _ | 30, v, _ => v = .bool true
  | 7, v, _ | 10, v, _ | 19, v, _ | 24, v, _ => v = .int .i64 (k : Int)
  | 8, v, _ | 20, v, _ => v = .slice A k c
  | 11, v, _ | 25, v, _ => v = tailV A m k c
  | 12, v, w => Rows1 [.slice A k c, .slice none 0 0, tailV A m k c] v w
  | 21, v, w => Rows1 [.slice A k c] v w
  | 22, v, _ => v = .int .u32 (ck : Int)
  | _, _, _ => True
def nd6 : List (List Nat) := [[], [0], [1], [], [2, 3], [4, 2], [5], [5], [6, 7, 5], [5], [5], [9, 10, 5], [8, 11, 5], [12, 5, 5], [5], [13, 14, 5], [5, 15], [16, 13], [17], [17], [18, 19, 17], [20, 17], [21, 17, 17], [17], [17], [23, 24, 17], [22, 25, 22, 17], [17], [26, 27, 17], [17, 28], [29, 26, 0, 1, 2, 3, 4, 5, 6, 7, 8, 9, 10, 11, 12, 13, 14, 15, 16, 17, 18, 19, 20, 21, 22, 23, 24, 25, 26, 27, 28, 29]]
def dst6 (i : Nat) : Nat := if i < 30 then 25 + i else 4
theorem s6_0 {ops : Array Oper} {Q : Exit → Act → World → Prop} (hops : ops = opsOf Try.f3 6) (A : Option Addr) (m k c cx ck : Nat) (xs : List Int) (hk : k ≤ m) (hm : m ≤ c) (hcc : c ≤ 9223372036854775807) (hxl : Aside0 (xs.length = m)) (hok : Aside0 (okB xs)) (hcx : Aside0 (cx = crcN (ns xs))) (hck : Aside0 (ck = crcN (ns (xs.take k)))) (a : Act) (w : World) (hX : Aside0 (Kd.C (Kd.int .u8) w A m xs)) (h5 : a.tmps[5]?.getD undef = .slice A m c) (h6 : a.tmps[6]?.getD undef = .int .i64 (k : Int)) (h7 : a.tmps[7]?.getD undef = .int .u32 (cx : Int))
    (hN : ∀ j, j ∈ nd6.getD 0 [] → F6 A m k c cx ck j (a.tmps[dst6 j]?.getD undef) w) : wpOp Try.prog ops Q 0 (fun a' w' => ∃ v, a' = a.put (some (dst6 0)) v ∧ F6 A m k c cx ck 0 v w' ∧ Below w.heap.size w w') a w := by
  subst hops
  have ho : (opsOf Try.f3 6)[0]? = some ({ dst := some 25, op := Go.Op.move (Go.Operand.tmp 5), type := 22, pos := "law.go:22", after := #[], guard := none } : Oper) := by kernel_rfl
  refine wpOp_plain ho rfl ?_
  clear hN ho
  go_simp
  exact ⟨_, rfl, rfl, Below.refl _ _⟩
theorem s6_1 {ops : Array Oper} {Q : Exit → Act → World → Prop} (hops : ops = opsOf Try.f3 6) (A : Option Addr) (m k c cx ck : Nat) (xs : List Int) (hk : k ≤ m) (hm : m ≤ c) (hcc : c ≤ 9223372036854775807) (hxl : Aside0 (xs.length = m)) (hok : Aside0 (okB xs)) (hcx : Aside0 (cx = crcN (ns xs))) (hck : Aside0 (ck = crcN (ns (xs.take k)))) (a : Act) (w : World) (hX : Aside0 (Kd.C (Kd.int .u8) w A m xs)) (h5 : a.tmps[5]?.getD undef = .slice A m c) (h6 : a.tmps[6]?.getD undef = .int .i64 (k : Int)) (h7 : a.tmps[7]?.getD undef = .int .u32 (cx : Int))
    (hN : ∀ j, j ∈ nd6.getD 1 [] → F6 A m k c cx ck j (a.tmps[dst6 j]?.getD undef) w) : wpOp Try.prog ops Q 1 (fun a' w' => ∃ v, a' = a.put (some (dst6 1)) v ∧ F6 A m k c cx ck 1 v w' ∧ Below w.heap.size w w') a w := by
  subst hops
  have n0 : a.tmps[25]?.getD undef = .slice A m c := hN 0 (by decide)
  have ho : (opsOf Try.f3 6)[1]? = some ({ dst := some 26, op := Go.Op.buildSlice 32 1 #[(0, Go.Operand.tmp 25)], type := 32, pos := "law.go:22", after := #[{ on := 0, ground := Go.Ground.data }], guard := none } : Oper) := by kernel_rfl
  refine wpOp_plain ho rfl ?_
  clear hN ho
  go_simp
  exact ⟨_, rfl, ⟨w.heap.size, rfl, heap_alloc_new _ _⟩, (Below.refl _ _).alloc (Nat.le_refl _) _⟩
theorem s6_2 {ops : Array Oper} {Q : Exit → Act → World → Prop} (hops : ops = opsOf Try.f3 6) (A : Option Addr) (m k c cx ck : Nat) (xs : List Int) (hk : k ≤ m) (hm : m ≤ c) (hcc : c ≤ 9223372036854775807) (hxl : Aside0 (xs.length = m)) (hok : Aside0 (okB xs)) (hcx : Aside0 (cx = crcN (ns xs))) (hck : Aside0 (ck = crcN (ns (xs.take k)))) (a : Act) (w : World) (hX : Aside0 (Kd.C (Kd.int .u8) w A m xs)) (h5 : a.tmps[5]?.getD undef = .slice A m c) (h6 : a.tmps[6]?.getD undef = .int .i64 (k : Int)) (h7 : a.tmps[7]?.getD undef = .int .u32 (cx : Int))
    (hN : ∀ j, j ∈ nd6.getD 2 [] → F6 A m k c cx ck j (a.tmps[dst6 j]?.getD undef) w) : wpOp Try.prog ops Q 2 (fun a' w' => ∃ v, a' = a.put (some (dst6 2)) v ∧ F6 A m k c cx ck 2 v w' ∧ Below w.heap.size w w') a w := by
  subst hops
  obtain ⟨g1, n1, b1⟩ : Rows1 _ (a.tmps[26]?.getD undef) w := hN 1 (by decide)
  have ho : (opsOf Try.f3 6)[2]? = some ({ dst := some 27, op := Go.Op.call { callee := Go.Callee.value (Go.Operand.func 9), args := #[Go.Operand.tmp 26], argTypes := #[32] }, type := 25, pos := "law.go:22", after := #[{ on := 1, ground := Go.Ground.data }], guard := none } : Oper) := by kernel_rfl
  refine wpOp_plain ho rfl ?_
  clear hN ho
  obtain ⟨hxl⟩ := hxl
  subst hxl
  have h := crc_Sum.calls (some ⟨g1, 0, none⟩) 1 [xs] (cx : Int) w (C_rows [(A, xs, c)] b1 rfl (by simp) (by intro p hp; rw [List.mem_singleton.1 hp]; exact ⟨hX.out, hm⟩)) (by simp)
    (by unfold crc_Sum.f; rw [if_pos (by intro p hp; rw [List.mem_singleton.1 hp]; exact hok.out), hcx.out]; simp)
  have HH := Aside0.mk h
  clear h hm hcc hk hX
  go_simp
  refine HH.out.mono ?_
  rintro e w' ⟨rfl, hb⟩
  exact ⟨_, rfl, rfl, hb⟩
theorem s6_3 {ops : Array Oper} {Q : Exit → Act → World → Prop} (hops : ops = opsOf Try.f3 6) (A : Option Addr) (m k c cx ck : Nat) (xs : List Int) (hk : k ≤ m) (hm : m ≤ c) (hcc : c ≤ 9223372036854775807) (hxl : Aside0 (xs.length = m)) (hok : Aside0 (okB xs)) (hcx : Aside0 (cx = crcN (ns xs))) (hck : Aside0 (ck = crcN (ns (xs.take k)))) (a : Act) (w : World) (hX : Aside0 (Kd.C (Kd.int .u8) w A m xs)) (h5 : a.tmps[5]?.getD undef = .slice A m c) (h6 : a.tmps[6]?.getD undef = .int .i64 (k : Int)) (h7 : a.tmps[7]?.getD undef = .int .u32 (cx : Int))
    (hN : ∀ j, j ∈ nd6.getD 3 [] → F6 A m k c cx ck j (a.tmps[dst6 j]?.getD undef) w) : wpOp Try.prog ops Q 3 (fun a' w' => ∃ v, a' = a.put (some (dst6 3)) v ∧ F6 A m k c cx ck 3 v w' ∧ Below w.heap.size w w') a w := by
  subst hops
  have ho : (opsOf Try.f3 6)[3]? = some ({ dst := some 28, op := Go.Op.move (Go.Operand.tmp 7), type := 25, pos := "law.go:22", after := #[], guard := none } : Oper) := by kernel_rfl
  refine wpOp_plain ho rfl ?_
  clear hN ho
  go_simp
  exact ⟨_, rfl, rfl, Below.refl _ _⟩
theorem s6_4 {ops : Array Oper} {Q : Exit → Act → World → Prop} (hops : ops = opsOf Try.f3 6) (A : Option Addr) (m k c cx ck : Nat) (xs : List Int) (hk : k ≤ m) (hm : m ≤ c) (hcc : c ≤ 9223372036854775807) (hxl : Aside0 (xs.length = m)) (hok : Aside0 (okB xs)) (hcx : Aside0 (cx = crcN (ns xs))) (hck : Aside0 (ck = crcN (ns (xs.take k)))) (a : Act) (w : World) (hX : Aside0 (Kd.C (Kd.int .u8) w A m xs)) (h5 : a.tmps[5]?.getD undef = .slice A m c) (h6 : a.tmps[6]?.getD undef = .int .i64 (k : Int)) (h7 : a.tmps[7]?.getD undef = .int .u32 (cx : Int))
    (hN : ∀ j, j ∈ nd6.getD 4 [] → F6 A m k c cx ck j (a.tmps[dst6 j]?.getD undef) w) : wpOp Try.prog ops Q 4 (fun a' w' => ∃ v, a' = a.put (some (dst6 4)) v ∧ F6 A m k c cx ck 4 v w' ∧ Below w.heap.size w w') a w := by
  subst hops
  have n2 : a.tmps[27]?.getD undef = .int .u32 (cx : Int) := hN 2 (by decide)
  have n3 : a.tmps[28]?.getD undef = .int .u32 (cx : Int) := hN 3 (by decide)
  have ho : (opsOf Try.f3 6)[4]? = some ({ dst := some 29, op := Go.Op.binOp Go.BinOp.eql 25 (Go.Operand.tmp 27) (Go.Operand.tmp 28) 25, type := 4, pos := "law.go:22", after := #[{ on := 2, ground := Go.Ground.data }, { on := 3, ground := Go.Ground.data }], guard := none } : Oper) := by kernel_rfl
  refine wpOp_plain ho rfl ?_
  clear hN ho
  go_simp
  exact ⟨_, rfl, rfl, Below.refl _ _⟩
theorem s6_5 {ops : Array Oper} {Q : Exit → Act → World → Prop} (hops : ops = opsOf Try.f3 6) (A : Option Addr) (m k c cx ck : Nat) (xs : List Int) (hk : k ≤ m) (hm : m ≤ c) (hcc : c ≤ 9223372036854775807) (hxl : Aside0 (xs.length = m)) (hok : Aside0 (okB xs)) (hcx : Aside0 (cx = crcN (ns xs))) (hck : Aside0 (ck = crcN (ns (xs.take k)))) (a : Act) (w : World) (hX : Aside0 (Kd.C (Kd.int .u8) w A m xs)) (h5 : a.tmps[5]?.getD undef = .slice A m c) (h6 : a.tmps[6]?.getD undef = .int .i64 (k : Int)) (h7 : a.tmps[7]?.getD undef = .int .u32 (cx : Int))
    (hN : ∀ j, j ∈ nd6.getD 5 [] → F6 A m k c cx ck j (a.tmps[dst6 j]?.getD undef) w) : wpOp Try.prog ops Q 5 (fun a' w' => ∃ v, a' = a.put (some (dst6 5)) v ∧ F6 A m k c cx ck 5 v w' ∧ Below w.heap.size w w') a w := by
  subst hops
  have n2 : a.tmps[27]?.getD undef = .int .u32 (cx : Int) := hN 2 (by decide)
  have n4 : a.tmps[29]?.getD undef = .bool true := hN 4 (by decide)
  have ho : (opsOf Try.f3 6)[5]? = some ({ dst := some 30, op := Go.Op.move (Go.Operand.tmp 29), type := 4, pos := "law.go:22", after := #[{ on := 4, ground := Go.Ground.data }, { on := 2, ground := Go.Ground.chain }], guard := none } : Oper) := by kernel_rfl
  refine wpOp_plain ho rfl ?_
  clear hN ho
  go_simp
  exact ⟨_, rfl, rfl, Below.refl _ _⟩
theorem s6_6 {ops : Array Oper} {Q : Exit → Act → World → Prop} (hops : ops = opsOf Try.f3 6) (A : Option Addr) (m k c cx ck : Nat) (xs : List Int) (hk : k ≤ m) (hm : m ≤ c) (hcc : c ≤ 9223372036854775807) (hxl : Aside0 (xs.length = m)) (hok : Aside0 (okB xs)) (hcx : Aside0 (cx = crcN (ns xs))) (hck : Aside0 (ck = crcN (ns (xs.take k)))) (a : Act) (w : World) (hX : Aside0 (Kd.C (Kd.int .u8) w A m xs)) (h5 : a.tmps[5]?.getD undef = .slice A m c) (h6 : a.tmps[6]?.getD undef = .int .i64 (k : Int)) (h7 : a.tmps[7]?.getD undef = .int .u32 (cx : Int))
    (hN : ∀ j, j ∈ nd6.getD 6 [] → F6 A m k c cx ck j (a.tmps[dst6 j]?.getD undef) w) : wpOp Try.prog ops Q 6 (fun a' w' => ∃ v, a' = a.put (some (dst6 6)) v ∧ F6 A m k c cx ck 6 v w' ∧ Below w.heap.size w w') a w := by
  subst hops
  have n5 : a.tmps[30]?.getD undef = .bool true := hN 5 (by decide)
  have ho : (opsOf Try.f3 6)[6]? = some ({ dst := some 31, op := Go.Op.move (Go.Operand.tmp 5), type := 22, pos := "law.go:22", after := #[{ on := 5, ground := Go.Ground.guard }], guard := some (5, true) } : Oper) := by kernel_rfl
  refine wpOp_guarded (d := 30) ho rfl rfl n5 ?_
  clear hN ho
  go_simp
  exact ⟨_, rfl, rfl, Below.refl _ _⟩
theorem s6_7 {ops : Array Oper} {Q : Exit → Act → World → Prop} (hops : ops = opsOf Try.f3 6) (A : Option Addr) (m k c cx ck : Nat) (xs : List Int) (hk : k ≤ m) (hm : m ≤ c) (hcc : c ≤ 9223372036854775807) (hxl : Aside0 (xs.length = m)) (hok : Aside0 (okB xs)) (hcx : Aside0 (cx = crcN (ns xs))) (hck : Aside0 (ck = crcN (ns (xs.take k)))) (a : Act) (w : World) (hX : Aside0 (Kd.C (Kd.int .u8) w A m xs)) (h5 : a.tmps[5]?.getD undef = .slice A m c) (h6 : a.tmps[6]?.getD undef = .int .i64 (k : Int)) (h7 : a.tmps[7]?.getD undef = .int .u32 (cx : Int))
    (hN : ∀ j, j ∈ nd6.getD 7 [] → F6 A m k c cx ck j (a.tmps[dst6 j]?.getD undef) w) : wpOp Try.prog ops Q 7 (fun a' w' => ∃ v, a' = a.put (some (dst6 7)) v ∧ F6 A m k c cx ck 7 v w' ∧ Below w.heap.size w w') a w := by
  subst hops
  have n5 : a.tmps[30]?.getD undef = .bool true := hN 5 (by decide)
  have ho : (opsOf Try.f3 6)[7]? = some ({ dst := some 32, op := Go.Op.move (Go.Operand.tmp 6), type := 3, pos := "law.go:22", after := #[{ on := 5, ground := Go.Ground.guard }], guard := some (5, true) } : Oper) := by kernel_rfl
  refine wpOp_guarded (d := 30) ho rfl rfl n5 ?_
  clear hN ho
  go_simp
  exact ⟨_, rfl, rfl, Below.refl _ _⟩
theorem s6_8 {ops : Array Oper} {Q : Exit → Act → World → Prop} (hops : ops = opsOf Try.f3 6) (A : Option Addr) (m k c cx ck : Nat) (xs : List Int) (hk : k ≤ m) (hm : m ≤ c) (hcc : c ≤ 9223372036854775807) (hxl : Aside0 (xs.length = m)) (hok : Aside0 (okB xs)) (hcx : Aside0 (cx = crcN (ns xs))) (hck : Aside0 (ck = crcN (ns (xs.take k)))) (a : Act) (w : World) (hX : Aside0 (Kd.C (Kd.int .u8) w A m xs)) (h5 : a.tmps[5]?.getD undef = .slice A m c) (h6 : a.tmps[6]?.getD undef = .int .i64 (k : Int)) (h7 : a.tmps[7]?.getD undef = .int .u32 (cx : Int))
    (hN : ∀ j, j ∈ nd6.getD 8 [] → F6 A m k c cx ck j (a.tmps[dst6 j]?.getD undef) w) : wpOp Try.prog ops Q 8 (fun a' w' => ∃ v, a' = a.put (some (dst6 8)) v ∧ F6 A m k c cx ck 8 v w' ∧ Below w.heap.size w w') a w := by
  subst hops
  have n5 : a.tmps[30]?.getD undef = .bool true := hN 5 (by decide)
  have n6 : a.tmps[31]?.getD undef = .slice A m c := hN 6 (by decide)
  have n7 : a.tmps[32]?.getD undef = .int .i64 (k : Int) := hN 7 (by decide)
  have ho : (opsOf Try.f3 6)[8]? = some ({ dst := some 33, op := Go.Op.slice 22 (Go.Operand.tmp 31) none (some (Go.Operand.tmp 32)) none, type := 22, pos := "law.go:22", after := #[{ on := 6, ground := Go.Ground.data }, { on := 7, ground := Go.Ground.data }, { on := 5, ground := Go.Ground.guard }], guard := some (5, true) } : Oper) := by kernel_rfl
  refine wpOp_guarded (d := 30) ho rfl rfl n5 ?_
  clear hN ho
  have hkc : k ≤ c := Nat.le_trans hk hm
  go_simp
  exact ⟨_, rfl, rfl, Below.refl _ _⟩
theorem s6_9 {ops : Array Oper} {Q : Exit → Act → World → Prop} (hops : ops = opsOf Try.f3 6) (A : Option Addr) (m k c cx ck : Nat) (xs : List Int) (hk : k ≤ m) (hm : m ≤ c) (hcc : c ≤ 9223372036854775807) (hxl : Aside0 (xs.length = m)) (hok : Aside0 (okB xs)) (hcx : Aside0 (cx = crcN (ns xs))) (hck : Aside0 (ck = crcN (ns (xs.take k)))) (a : Act) (w : World) (hX : Aside0 (Kd.C (Kd.int .u8) w A m xs)) (h5 : a.tmps[5]?.getD undef = .slice A m c) (h6 : a.tmps[6]?.getD undef = .int .i64 (k : Int)) (h7 : a.tmps[7]?.getD undef = .int .u32 (cx : Int))
    (hN : ∀ j, j ∈ nd6.getD 9 [] → F6 A m k c cx ck j (a.tmps[dst6 j]?.getD undef) w) : wpOp Try.prog ops Q 9 (fun a' w' => ∃ v, a' = a.put (some (dst6 9)) v ∧ F6 A m k c cx ck 9 v w' ∧ Below w.heap.size w w') a w := by
  subst hops
  have n5 : a.tmps[30]?.getD undef = .bool true := hN 5 (by decide)
  have ho : (opsOf Try.f3 6)[9]? = some ({ dst := some 34, op := Go.Op.move (Go.Operand.tmp 5), type := 22, pos := "law.go:22", after := #[{ on := 5, ground := Go.Ground.guard }], guard := some (5, true) } : Oper) := by kernel_rfl
  refine wpOp_guarded (d := 30) ho rfl rfl n5 ?_
  clear hN ho
  go_simp
  exact ⟨_, rfl, rfl, Below.refl _ _⟩
theorem s6_10 {ops : Array Oper} {Q : Exit → Act → World → Prop} (hops : ops = opsOf Try.f3 6) (A : Option Addr) (m k c cx ck : Nat) (xs : List Int) (hk : k ≤ m) (hm : m ≤ c) (hcc : c ≤ 9223372036854775807) (hxl : Aside0 (xs.length = m)) (hok : Aside0 (okB xs)) (hcx : Aside0 (cx = crcN (ns xs))) (hck : Aside0 (ck = crcN (ns (xs.take k)))) (a : Act) (w : World) (hX : Aside0 (Kd.C (Kd.int .u8) w A m xs)) (h5 : a.tmps[5]?.getD undef = .slice A m c) (h6 : a.tmps[6]?.getD undef = .int .i64 (k : Int)) (h7 : a.tmps[7]?.getD undef = .int .u32 (cx : Int))
    (hN : ∀ j, j ∈ nd6.getD 10 [] → F6 A m k c cx ck j (a.tmps[dst6 j]?.getD undef) w) : wpOp Try.prog ops Q 10 (fun a' w' => ∃ v, a' = a.put (some (dst6 10)) v ∧ F6 A m k c cx ck 10 v w' ∧ Below w.heap.size w w') a w := by
  subst hops
  have n5 : a.tmps[30]?.getD undef = .bool true := hN 5 (by decide)
  have ho : (opsOf Try.f3 6)[10]? = some ({ dst := some 35, op := Go.Op.move (Go.Operand.tmp 6), type := 3, pos := "law.go:22", after := #[{ on := 5, ground := Go.Ground.guard }], guard := some (5, true) } : Oper) := by kernel_rfl
  refine wpOp_guarded (d := 30) ho rfl rfl n5 ?_
  clear hN ho
  go_simp
  exact ⟨_, rfl, rfl, Below.refl _ _⟩
theorem s6_11 {ops : Array Oper} {Q : Exit → Act → World → Prop} (hops : ops = opsOf Try.f3 6) (A : Option Addr) (m k c cx ck : Nat) (xs : List Int) (hk : k ≤ m) (hm : m ≤ c) (hcc : c ≤ 9223372036854775807) (hxl : Aside0 (xs.length = m)) (hok : Aside0 (okB xs)) (hcx : Aside0 (cx = crcN (ns xs))) (hck : Aside0 (ck = crcN (ns (xs.take k)))) (a : Act) (w : World) (hX : Aside0 (Kd.C (Kd.int .u8) w A m xs)) (h5 : a.tmps[5]?.getD undef = .slice A m c) (h6 : a.tmps[6]?.getD undef = .int .i64 (k : Int)) (h7 : a.tmps[7]?.getD undef = .int .u32 (cx : Int))
    (hN : ∀ j, j ∈ nd6.getD 11 [] → F6 A m k c cx ck j (a.tmps[dst6 j]?.getD undef) w) : wpOp Try.prog ops Q 11 (fun a' w' => ∃ v, a' = a.put (some (dst6 11)) v ∧ F6 A m k c cx ck 11 v w' ∧ Below w.heap.size w w') a w := by
  subst hops
  have n5 : a.tmps[30]?.getD undef = .bool true := hN 5 (by decide)
  have n9 : a.tmps[34]?.getD undef = .slice A m c := hN 9 (by decide)
  have n10 : a.tmps[35]?.getD undef = .int .i64 (k : Int) := hN 10 (by decide)
  have ho : (opsOf Try.f3 6)[11]? = some ({ dst := some 36, op := Go.Op.slice 22 (Go.Operand.tmp 34) (some (Go.Operand.tmp 35)) none none, type := 22, pos := "law.go:22", after := #[{ on := 9, ground := Go.Ground.data }, { on := 10, ground := Go.Ground.data }, { on := 5, ground := Go.Ground.guard }], guard := some (5, true) } : Oper) := by kernel_rfl
  refine wpOp_guarded (d := 30) ho rfl rfl n5 ?_
  clear hN ho
  go_simp
  exact ⟨_, rfl, rfl, Below.refl _ _⟩
theorem s6_12 {ops : Array Oper} {Q : Exit → Act → World → Prop} (hops : ops = opsOf Try.f3 6) (A : Option Addr) (m k c cx ck : Nat) (xs : List Int) (hk : k ≤ m) (hm : m ≤ c) (hcc : c ≤ 9223372036854775807) (hxl : Aside0 (xs.length = m)) (hok : Aside0 (okB xs)) (hcx : Aside0 (cx = crcN (ns xs))) (hck : Aside0 (ck = crcN (ns (xs.take k)))) (a : Act) (w : World) (hX : Aside0 (Kd.C (Kd.int .u8) w A m xs)) (h5 : a.tmps[5]?.getD undef = .slice A m c) (h6 : a.tmps[6]?.getD undef = .int .i64 (k : Int)) (h7 : a.tmps[7]?.getD undef = .int .u32 (cx : Int))
    (hN : ∀ j, j ∈ nd6.getD 12 [] → F6 A m k c cx ck j (a.tmps[dst6 j]?.getD undef) w) : wpOp Try.prog ops Q 12 (fun a' w' => ∃ v, a' = a.put (some (dst6 12)) v ∧ F6 A m k c cx ck 12 v w' ∧ Below w.heap.size w w') a w := by
  subst hops
  have n5 : a.tmps[30]?.getD undef = .bool true := hN 5 (by decide)
  have n8 : a.tmps[33]?.getD undef = .slice A k c := hN 8 (by decide)
  have n11 : a.tmps[36]?.getD undef = .slice (if c = k then A else A.map (·.add k)) (m - k) (c - k) := hN 11 (by decide)
  have ho : (opsOf Try.f3 6)[12]? = some ({ dst := some 37, op := Go.Op.buildSlice 32 3 #[(0, Go.Operand.tmp 33), (1, Go.Operand.const (Go.Value.slice none 0 0)), (2, Go.Operand.tmp 36)], type := 32, pos := "law.go:22", after := #[{ on := 8, ground := Go.Ground.data }, { on := 11, ground := Go.Ground.data }, { on := 5, ground := Go.Ground.guard }], guard := some (5, true) } : Oper) := by kernel_rfl
  refine wpOp_guarded (d := 30) ho rfl rfl n5 ?_
  clear hN ho
  go_simp
  exact ⟨_, rfl, ⟨w.heap.size, rfl, heap_alloc_new _ _⟩, (Below.refl _ _).alloc (Nat.le_refl _) _⟩
theorem s6_13 {ops : Array Oper} {Q : Exit → Act → World → Prop} (hops : ops = opsOf Try.f3 6) (A : Option Addr) (m k c cx ck : Nat) (xs : List Int) (hk : k ≤ m) (hm : m ≤ c) (hcc : c ≤ 9223372036854775807) (hxl : Aside0 (xs.length = m)) (hok : Aside0 (okB xs)) (hcx : Aside0 (cx = crcN (ns xs))) (hck : Aside0 (ck = crcN (ns (xs.take k)))) (a : Act) (w : World) (hX : Aside0 (Kd.C (Kd.int .u8) w A m xs)) (h5 : a.tmps[5]?.getD undef = .slice A m c) (h6 : a.tmps[6]?.getD undef = .int .i64 (k : Int)) (h7 : a.tmps[7]?.getD undef = .int .u32 (cx : Int))
    (hN : ∀ j, j ∈ nd6.getD 13 [] → F6 A m k c cx ck j (a.tmps[dst6 j]?.getD undef) w) : wpOp Try.prog ops Q 13 (fun a' w' => ∃ v, a' = a.put (some (dst6 13)) v ∧ F6 A m k c cx ck 13 v w' ∧ Below w.heap.size w w') a w := by
  subst hops
  have n5 : a.tmps[30]?.getD undef = .bool true := hN 5 (by decide)
  obtain ⟨g12, n12, b12⟩ : Rows1 _ (a.tmps[37]?.getD undef) w := hN 12 (by decide)
  have ho : (opsOf Try.f3 6)[13]? = some ({ dst := some 38, op := Go.Op.call { callee := Go.Callee.value (Go.Operand.func 9), args := #[Go.Operand.tmp 37], argTypes := #[32] }, type := 25, pos := "law.go:22", after := #[{ on := 12, ground := Go.Ground.data }, { on := 5, ground := Go.Ground.chain }, { on := 5, ground := Go.Ground.guard }], guard := some (5, true) } : Oper) := by kernel_rfl
  refine wpOp_guarded (d := 30) ho rfl rfl n5 ?_
  clear hN ho
  obtain ⟨hxl⟩ := hxl
  subst hxl
  have hl : (xs.take k).length = k := by rw [List.length_take]; omega
  have hl2 : (xs.drop k).length = xs.length - k := List.length_drop
  have hC := Kd.C_take hX.out hk
  have hD := Kd.C_drop hX.out hk hm
  rw [hl] at hC
  rw [hl2, show k * (Kd.int .u8).sz = k from Nat.mul_one k] at hD
  have h := crc_Sum.calls (some ⟨g12, 0, none⟩) 3 [xs.take k, [], xs.drop k] (cx : Int) w (C_rows [(A, xs.take k, c), (none, [], 0), ((if c = k then A else A.map (·.add k)), xs.drop k, c - k)] b12 (by simp only [List.map_cons, List.map_nil, hl, hl2]; rfl) (by simp) (by
      intro p hp
      simp only [List.mem_cons, List.not_mem_nil, or_false] at hp
      rcases hp with rfl | rfl | rfl
      · exact ⟨by rw [hl]; exact hC, by show (xs.take k).length ≤ c; rw [hl]; omega⟩
      · exact ⟨Kd.C_nil _ _, Nat.le_refl _⟩
      · exact ⟨by rw [hl2]; exact hD, by show (xs.drop k).length ≤ c - k; rw [hl2]; omega⟩)) (by simp)
    (by
      unfold crc_Sum.f
      rw [if_pos (by
        intro p hp
        simp only [List.mem_cons, List.not_mem_nil, or_false] at hp
        rcases hp with rfl | rfl | rfl
        · exact fun x hx => hok.out x (List.mem_of_mem_take hx)
        · exact fun x hx => by cases hx
        · exact fun x hx => hok.out x (List.mem_of_mem_drop hx)), hcx.out]
      simp)
  have HH := Aside0.mk h
  clear h hm hcc hk hX hC hl hD hl2
  go_simp
  refine HH.out.mono ?_
  rintro e w' ⟨rfl, hb⟩
  exact ⟨_, rfl, rfl, hb⟩
theorem s6_14 {ops : Array Oper} {Q : Exit → Act → World → Prop} (hops : ops = opsOf Try.f3 6) (A : Option Addr) (m k c cx ck : Nat) (xs : List Int) (hk : k ≤ m) (hm : m ≤ c) (hcc : c ≤ 9223372036854775807) (hxl : Aside0 (xs.length = m)) (hok : Aside0 (okB xs)) (hcx : Aside0 (cx = crcN (ns xs))) (hck : Aside0 (ck = crcN (ns (xs.take k)))) (a : Act) (w : World) (hX : Aside0 (Kd.C (Kd.int .u8) w A m xs)) (h5 : a.tmps[5]?.getD undef = .slice A m c) (h6 : a.tmps[6]?.getD undef = .int .i64 (k : Int)) (h7 : a.tmps[7]?.getD undef = .int .u32 (cx : Int))
    (hN : ∀ j, j ∈ nd6.getD 14 [] → F6 A m k c cx ck j (a.tmps[dst6 j]?.getD undef) w) : wpOp Try.prog ops Q 14 (fun a' w' => ∃ v, a' = a.put (some (dst6 14)) v ∧ F6 A m k c cx ck 14 v w' ∧ Below w.heap.size w w') a w := by
  subst hops
  have n5 : a.tmps[30]?.getD undef = .bool true := hN 5 (by decide)
  have ho : (opsOf Try.f3 6)[14]? = some ({ dst := some 39, op := Go.Op.move (Go.Operand.tmp 7), type := 25, pos := "law.go:22", after := #[{ on := 5, ground := Go.Ground.guard }], guard := some (5, true) } : Oper) := by kernel_rfl
  refine wpOp_guarded (d := 30) ho rfl rfl n5 ?_
  clear hN ho
  go_simp
  exact ⟨_, rfl, rfl, Below.refl _ _⟩
theorem s6_15 {ops : Array Oper} {Q : Exit → Act → World → Prop} (hops : ops = opsOf Try.f3 6) (A : Option Addr) (m k c cx ck : Nat) (xs : List Int) (hk : k ≤ m) (hm : m ≤ c) (hcc : c ≤ 9223372036854775807) (hxl : Aside0 (xs.length = m)) (hok : Aside0 (okB xs)) (hcx : Aside0 (cx = crcN (ns xs))) (hck : Aside0 (ck = crcN (ns (xs.take k)))) (a : Act) (w : World) (hX : Aside0 (Kd.C (Kd.int .u8) w A m xs)) (h5 : a.tmps[5]?.getD undef = .slice A m c) (h6 : a.tmps[6]?.getD undef = .int .i64 (k : Int)) (h7 : a.tmps[7]?.getD undef = .int .u32 (cx : Int))
    (hN : ∀ j, j ∈ nd6.getD 15 [] → F6 A m k c cx ck j (a.tmps[dst6 j]?.getD undef) w) : wpOp Try.prog ops Q 15 (fun a' w' => ∃ v, a' = a.put (some (dst6 15)) v ∧ F6 A m k c cx ck 15 v w' ∧ Below w.heap.size w w') a w := by
  subst hops
  have n5 : a.tmps[30]?.getD undef = .bool true := hN 5 (by decide)
  have n13 : a.tmps[38]?.getD undef = .int .u32 (cx : Int) := hN 13 (by decide)
  have n14 : a.tmps[39]?.getD undef = .int .u32 (cx : Int) := hN 14 (by decide)
  have ho : (opsOf Try.f3 6)[15]? = some ({ dst := some 40, op := Go.Op.binOp Go.BinOp.eql 25 (Go.Operand.tmp 38) (Go.Operand.tmp 39) 25, type := 4, pos := "law.go:22", after := #[{ on := 13, ground := Go.Ground.data }, { on := 14, ground := Go.Ground.data }, { on := 5, ground := Go.Ground.guard }], guard := some (5, true) } : Oper) := by kernel_rfl
  refine wpOp_guarded (d := 30) ho rfl rfl n5 ?_
  clear hN ho
  go_simp
  exact ⟨_, rfl, rfl, Below.refl _ _⟩
theorem s6_16 {ops : Array Oper} {Q : Exit → Act → World → Prop} (hops : ops = opsOf Try.f3 6) (A : Option Addr) (m k c cx ck : Nat) (xs : List Int) (hk : k ≤ m) (hm : m ≤ c) (hcc : c ≤ 9223372036854775807) (hxl : Aside0 (xs.length = m)) (hok : Aside0 (okB xs)) (hcx : Aside0 (cx = crcN (ns xs))) (hck : Aside0 (ck = crcN (ns (xs.take k)))) (a : Act) (w : World) (hX : Aside0 (Kd.C (Kd.int .u8) w A m xs)) (h5 : a.tmps[5]?.getD undef = .slice A m c) (h6 : a.tmps[6]?.getD undef = .int .i64 (k : Int)) (h7 : a.tmps[7]?.getD undef = .int .u32 (cx : Int))
    (hN : ∀ j, j ∈ nd6.getD 16 [] → F6 A m k c cx ck j (a.tmps[dst6 j]?.getD undef) w) : wpOp Try.prog ops Q 16 (fun a' w' => ∃ v, a' = a.put (some (dst6 16)) v ∧ F6 A m k c cx ck 16 v w' ∧ Below w.heap.size w w') a w := by
  subst hops
  have n5 : a.tmps[30]?.getD undef = .bool true := hN 5 (by decide)
  have n15 : a.tmps[40]?.getD undef = .bool true := hN 15 (by decide)
  have ho : (opsOf Try.f3 6)[16]? = some ({ dst := some 41, op := Go.Op.pick (Go.Operand.tmp 30) (Go.Operand.tmp 40) (Go.Operand.const (Go.Value.bool false)), type := 4, pos := "law.go:22", after := #[{ on := 5, ground := Go.Ground.data }, { on := 15, ground := Go.Ground.data }], guard := none } : Oper) := by kernel_rfl
  refine wpOp_plain ho rfl ?_
  clear hN ho
  go_simp
  exact ⟨_, rfl, rfl, Below.refl _ _⟩
theorem s6_17 {ops : Array Oper} {Q : Exit → Act → World → Prop} (hops : ops = opsOf Try.f3 6) (A : Option Addr) (m k c cx ck : Nat) (xs : List Int) (hk : k ≤ m) (hm : m ≤ c) (hcc : c ≤ 9223372036854775807) (hxl : Aside0 (xs.length = m)) (hok : Aside0 (okB xs)) (hcx : Aside0 (cx = crcN (ns xs))) (hck : Aside0 (ck = crcN (ns (xs.take k)))) (a : Act) (w : World) (hX : Aside0 (Kd.C (Kd.int .u8) w A m xs)) (h5 : a.tmps[5]?.getD undef = .slice A m c) (h6 : a.tmps[6]?.getD undef = .int .i64 (k : Int)) (h7 : a.tmps[7]?.getD undef = .int .u32 (cx : Int))
    (hN : ∀ j, j ∈ nd6.getD 17 [] → F6 A m k c cx ck j (a.tmps[dst6 j]?.getD undef) w) : wpOp Try.prog ops Q 17 (fun a' w' => ∃ v, a' = a.put (some (dst6 17)) v ∧ F6 A m k c cx ck 17 v w' ∧ Below w.heap.size w w') a w := by
  subst hops
  have n13 : a.tmps[38]?.getD undef = .int .u32 (cx : Int) := hN 13 (by decide)
  have n16 : a.tmps[41]?.getD undef = .bool true := hN 16 (by decide)
  have ho : (opsOf Try.f3 6)[17]? = some ({ dst := some 42, op := Go.Op.move (Go.Operand.tmp 41), type := 4, pos := "law.go:22", after := #[{ on := 16, ground := Go.Ground.data }, { on := 13, ground := Go.Ground.chain }], guard := none } : Oper) := by kernel_rfl
  refine wpOp_plain ho rfl ?_
  clear hN ho
  go_simp
  exact ⟨_, rfl, rfl, Below.refl _ _⟩
theorem s6_18 {ops : Array Oper} {Q : Exit → Act → World → Prop} (hops : ops = opsOf Try.f3 6) (A : Option Addr) (m k c cx ck : Nat) (xs : List Int) (hk : k ≤ m) (hm : m ≤ c) (hcc : c ≤ 9223372036854775807) (hxl : Aside0 (xs.length = m)) (hok : Aside0 (okB xs)) (hcx : Aside0 (cx = crcN (ns xs))) (hck : Aside0 (ck = crcN (ns (xs.take k)))) (a : Act) (w : World) (hX : Aside0 (Kd.C (Kd.int .u8) w A m xs)) (h5 : a.tmps[5]?.getD undef = .slice A m c) (h6 : a.tmps[6]?.getD undef = .int .i64 (k : Int)) (h7 : a.tmps[7]?.getD undef = .int .u32 (cx : Int))
    (hN : ∀ j, j ∈ nd6.getD 18 [] → F6 A m k c cx ck j (a.tmps[dst6 j]?.getD undef) w) : wpOp Try.prog ops Q 18 (fun a' w' => ∃ v, a' = a.put (some (dst6 18)) v ∧ F6 A m k c cx ck 18 v w' ∧ Below w.heap.size w w') a w := by
  subst hops
  have n17 : a.tmps[42]?.getD undef = .bool true := hN 17 (by decide)
  have ho : (opsOf Try.f3 6)[18]? = some ({ dst := some 43, op := Go.Op.move (Go.Operand.tmp 5), type := 22, pos := "law.go:22", after := #[{ on := 17, ground := Go.Ground.guard }], guard := some (17, true) } : Oper) := by kernel_rfl
  refine wpOp_guarded (d := 42) ho rfl rfl n17 ?_
  clear hN ho
  go_simp
  exact ⟨_, rfl, rfl, Below.refl _ _⟩
theorem s6_19 {ops : Array Oper} {Q : Exit → Act → World → Prop} (hops : ops = opsOf Try.f3 6) (A : Option Addr) (m k c cx ck : Nat) (xs : List Int) (hk : k ≤ m) (hm : m ≤ c) (hcc : c ≤ 9223372036854775807) (hxl : Aside0 (xs.length = m)) (hok : Aside0 (okB xs)) (hcx : Aside0 (cx = crcN (ns xs))) (hck : Aside0 (ck = crcN (ns (xs.take k)))) (a : Act) (w : World) (hX : Aside0 (Kd.C (Kd.int .u8) w A m xs)) (h5 : a.tmps[5]?.getD undef = .slice A m c) (h6 : a.tmps[6]?.getD undef = .int .i64 (k : Int)) (h7 : a.tmps[7]?.getD undef = .int .u32 (cx : Int))
    (hN : ∀ j, j ∈ nd6.getD 19 [] → F6 A m k c cx ck j (a.tmps[dst6 j]?.getD undef) w) : wpOp Try.prog ops Q 19 (fun a' w' => ∃ v, a' = a.put (some (dst6 19)) v ∧ F6 A m k c cx ck 19 v w' ∧ Below w.heap.size w w') a w := by
  subst hops
  have n17 : a.tmps[42]?.getD undef = .bool true := hN 17 (by decide)
  have ho : (opsOf Try.f3 6)[19]? = some ({ dst := some 44, op := Go.Op.move (Go.Operand.tmp 6), type := 3, pos := "law.go:22", after := #[{ on := 17, ground := Go.Ground.guard }], guard := some (17, true) } : Oper) := by kernel_rfl
  refine wpOp_guarded (d := 42) ho rfl rfl n17 ?_
  clear hN ho
  go_simp
  exact ⟨_, rfl, rfl, Below.refl _ _⟩
theorem s6_20 {ops : Array Oper} {Q : Exit → Act → World → Prop} (hops : ops = opsOf Try.f3 6) (A : Option Addr) (m k c cx ck : Nat) (xs : List Int) (hk : k ≤ m) (hm : m ≤ c) (hcc : c ≤ 9223372036854775807) (hxl : Aside0 (xs.length = m)) (hok : Aside0 (okB xs)) (hcx : Aside0 (cx = crcN (ns xs))) (hck : Aside0 (ck = crcN (ns (xs.take k)))) (a : Act) (w : World) (hX : Aside0 (Kd.C (Kd.int .u8) w A m xs)) (h5 : a.tmps[5]?.getD undef = .slice A m c) (h6 : a.tmps[6]?.getD undef = .int .i64 (k : Int)) (h7 : a.tmps[7]?.getD undef = .int .u32 (cx : Int))
    (hN : ∀ j, j ∈ nd6.getD 20 [] → F6 A m k c cx ck j (a.tmps[dst6 j]?.getD undef) w) : wpOp Try.prog ops Q 20 (fun a' w' => ∃ v, a' = a.put (some (dst6 20)) v ∧ F6 A m k c cx ck 20 v w' ∧ Below w.heap.size w w') a w := by
  subst hops
  have n17 : a.tmps[42]?.getD undef = .bool true := hN 17 (by decide)
  have n18 : a.tmps[43]?.getD undef = .slice A m c := hN 18 (by decide)
  have n19 : a.tmps[44]?.getD undef = .int .i64 (k : Int) := hN 19 (by decide)
  have ho : (opsOf Try.f3 6)[20]? = some ({ dst := some 45, op := Go.Op.slice 22 (Go.Operand.tmp 43) none (some (Go.Operand.tmp 44)) none, type := 22, pos := "law.go:22", after := #[{ on := 18, ground := Go.Ground.data }, { on := 19, ground := Go.Ground.data }, { on := 17, ground := Go.Ground.guard }], guard := some (17, true) } : Oper) := by kernel_rfl
  refine wpOp_guarded (d := 42) ho rfl rfl n17 ?_
  clear hN ho
  have hkc : k ≤ c := Nat.le_trans hk hm
  go_simp
  exact ⟨_, rfl, rfl, Below.refl _ _⟩
theorem s6_21 {ops : Array Oper} {Q : Exit → Act → World → Prop} (hops : ops = opsOf Try.f3 6) (A : Option Addr) (m k c cx ck : Nat) (xs : List Int) (hk : k ≤ m) (hm : m ≤ c) (hcc : c ≤ 9223372036854775807) (hxl : Aside0 (xs.length = m)) (hok : Aside0 (okB xs)) (hcx : Aside0 (cx = crcN (ns xs))) (hck : Aside0 (ck = crcN (ns (xs.take k)))) (a : Act) (w : World) (hX : Aside0 (Kd.C (Kd.int .u8) w A m xs)) (h5 : a.tmps[5]?.getD undef = .slice A m c) (h6 : a.tmps[6]?.getD undef = .int .i64 (k : Int)) (h7 : a.tmps[7]?.getD undef = .int .u32 (cx : Int))
    (hN : ∀ j, j ∈ nd6.getD 21 [] → F6 A m k c cx ck j (a.tmps[dst6 j]?.getD undef) w) : wpOp Try.prog ops Q 21 (fun a' w' => ∃ v, a' = a.put (some (dst6 21)) v ∧ F6 A m k c cx ck 21 v w' ∧ Below w.heap.size w w') a w := by
  subst hops
  have n17 : a.tmps[42]?.getD undef = .bool true := hN 17 (by decide)
  have n20 : a.tmps[45]?.getD undef = .slice A k c := hN 20 (by decide)
  have ho : (opsOf Try.f3 6)[21]? = some ({ dst := some 46, op := Go.Op.buildSlice 32 1 #[(0, Go.Operand.tmp 45)], type := 32, pos := "law.go:22", after := #[{ on := 20, ground := Go.Ground.data }, { on := 17, ground := Go.Ground.guard }], guard := some (17, true) } : Oper) := by kernel_rfl
  refine wpOp_guarded (d := 42) ho rfl rfl n17 ?_
  clear hN ho
  go_simp
  exact ⟨_, rfl, ⟨w.heap.size, rfl, heap_alloc_new _ _⟩, (Below.refl _ _).alloc (Nat.le_refl _) _⟩
theorem s6_22 {ops : Array Oper} {Q : Exit → Act → World → Prop} (hops : ops = opsOf Try.f3 6) (A : Option Addr) (m k c cx ck : Nat) (xs : List Int) (hk : k ≤ m) (hm : m ≤ c) (hcc : c ≤ 9223372036854775807) (hxl : Aside0 (xs.length = m)) (hok : Aside0 (okB xs)) (hcx : Aside0 (cx = crcN (ns xs))) (hck : Aside0 (ck = crcN (ns (xs.take k)))) (a : Act) (w : World) (hX : Aside0 (Kd.C (Kd.int .u8) w A m xs)) (h5 : a.tmps[5]?.getD undef = .slice A m c) (h6 : a.tmps[6]?.getD undef = .int .i64 (k : Int)) (h7 : a.tmps[7]?.getD undef = .int .u32 (cx : Int))
    (hN : ∀ j, j ∈ nd6.getD 22 [] → F6 A m k c cx ck j (a.tmps[dst6 j]?.getD undef) w) : wpOp Try.prog ops Q 22 (fun a' w' => ∃ v, a' = a.put (some (dst6 22)) v ∧ F6 A m k c cx ck 22 v w' ∧ Below w.heap.size w w') a w := by
  subst hops
  have n17 : a.tmps[42]?.getD undef = .bool true := hN 17 (by decide)
  obtain ⟨g21, n21, b21⟩ : Rows1 _ (a.tmps[46]?.getD undef) w := hN 21 (by decide)
  have ho : (opsOf Try.f3 6)[22]? = some ({ dst := some 47, op := Go.Op.call { callee := Go.Callee.value (Go.Operand.func 9), args := #[Go.Operand.tmp 46], argTypes := #[32] }, type := 25, pos := "law.go:22", after := #[{ on := 21, ground := Go.Ground.data }, { on := 17, ground := Go.Ground.chain }, { on := 17, ground := Go.Ground.guard }], guard := some (17, true) } : Oper) := by kernel_rfl
  refine wpOp_guarded (d := 42) ho rfl rfl n17 ?_
  clear hN ho
  obtain ⟨hxl⟩ := hxl
  subst hxl
  have hl : (xs.take k).length = k := by rw [List.length_take]; omega
  have hC := Kd.C_take hX.out hk
  rw [hl] at hC
  have h := crc_Sum.calls (some ⟨g21, 0, none⟩) 1 [xs.take k] (ck : Int) w (C_rows [(A, xs.take k, c)] b21 (by simp only [List.map_cons, List.map_nil, hl]) (by simp) (by intro p hp; rw [List.mem_singleton.1 hp]; exact ⟨by rw [hl]; exact hC, by show (xs.take k).length ≤ c; rw [hl]; omega⟩)) (by simp)
    (by unfold crc_Sum.f; rw [if_pos (by intro p hp; rw [List.mem_singleton.1 hp]; exact fun x hx => hok.out x (List.mem_of_mem_take hx)), hck.out]; simp)
  have HH := Aside0.mk h
  clear h hm hcc hk hX hC hl
  go_simp
  refine HH.out.mono ?_
  rintro e w' ⟨rfl, hb⟩
  exact ⟨_, rfl, rfl, hb⟩
theorem s6_23 {ops : Array Oper} {Q : Exit → Act → World → Prop} (hops : ops = opsOf Try.f3 6) (A : Option Addr) (m k c cx ck : Nat) (xs : List Int) (hk : k ≤ m) (hm : m ≤ c) (hcc : c ≤ 9223372036854775807) (hxl : Aside0 (xs.length = m)) (hok : Aside0 (okB xs)) (hcx : Aside0 (cx = crcN (ns xs))) (hck : Aside0 (ck = crcN (ns (xs.take k)))) (a : Act) (w : World) (hX : Aside0 (Kd.C (Kd.int .u8) w A m xs)) (h5 : a.tmps[5]?.getD undef = .slice A m c) (h6 : a.tmps[6]?.getD undef = .int .i64 (k : Int)) (h7 : a.tmps[7]?.getD undef = .int .u32 (cx : Int))
    (hN : ∀ j, j ∈ nd6.getD 23 [] → F6 A m k c cx ck j (a.tmps[dst6 j]?.getD undef) w) : wpOp Try.prog ops Q 23 (fun a' w' => ∃ v, a' = a.put (some (dst6 23)) v ∧ F6 A m k c cx ck 23 v w' ∧ Below w.heap.size w w') a w := by
  subst hops
  have n17 : a.tmps[42]?.getD undef = .bool true := hN 17 (by decide)
  have ho : (opsOf Try.f3 6)[23]? = some ({ dst := some 48, op := Go.Op.move (Go.Operand.tmp 5), type := 22, pos := "law.go:22", after := #[{ on := 17, ground := Go.Ground.guard }], guard := some (17, true) } : Oper) := by kernel_rfl
  refine wpOp_guarded (d := 42) ho rfl rfl n17 ?_
  clear hN ho
  go_simp
  exact ⟨_, rfl, rfl, Below.refl _ _⟩
theorem s6_24 {ops : Array Oper} {Q : Exit → Act → World → Prop} (hops : ops = opsOf Try.f3 6) (A : Option Addr) (m k c cx ck : Nat) (xs : List Int) (hk : k ≤ m) (hm : m ≤ c) (hcc : c ≤ 9223372036854775807) (hxl : Aside0 (xs.length = m)) (hok : Aside0 (okB xs)) (hcx : Aside0 (cx = crcN (ns xs))) (hck : Aside0 (ck = crcN (ns (xs.take k)))) (a : Act) (w : World) (hX : Aside0 (Kd.C (Kd.int .u8) w A m xs)) (h5 : a.tmps[5]?.getD undef = .slice A m c) (h6 : a.tmps[6]?.getD undef = .int .i64 (k : Int)) (h7 : a.tmps[7]?.getD undef = .int .u32 (cx : Int))
    (hN : ∀ j, j ∈ nd6.getD 24 [] → F6 A m k c cx ck j (a.tmps[dst6 j]?.getD undef) w) : wpOp Try.prog ops Q 24 (fun a' w' => ∃ v, a' = a.put (some (dst6 24)) v ∧ F6 A m k c cx ck 24 v w' ∧ Below w.heap.size w w') a w := by
  subst hops
  have n17 : a.tmps[42]?.getD undef = .bool true := hN 17 (by decide)
  have ho : (opsOf Try.f3 6)[24]? = some ({ dst := some 49, op := Go.Op.move (Go.Operand.tmp 6), type := 3, pos := "law.go:22", after := #[{ on := 17, ground := Go.Ground.guard }], guard := some (17, true) } : Oper) := by kernel_rfl
  refine wpOp_guarded (d := 42) ho rfl rfl n17 ?_
  clear hN ho
  go_simp
  exact ⟨_, rfl, rfl, Below.refl _ _⟩
theorem s6_25 {ops : Array Oper} {Q : Exit → Act → World → Prop} (hops : ops = opsOf Try.f3 6) (A : Option Addr) (m k c cx ck : Nat) (xs : List Int) (hk : k ≤ m) (hm : m ≤ c) (hcc : c ≤ 9223372036854775807) (hxl : Aside0 (xs.length = m)) (hok : Aside0 (okB xs)) (hcx : Aside0 (cx = crcN (ns xs))) (hck : Aside0 (ck = crcN (ns (xs.take k)))) (a : Act) (w : World) (hX : Aside0 (Kd.C (Kd.int .u8) w A m xs)) (h5 : a.tmps[5]?.getD undef = .slice A m c) (h6 : a.tmps[6]?.getD undef = .int .i64 (k : Int)) (h7 : a.tmps[7]?.getD undef = .int .u32 (cx : Int))
    (hN : ∀ j, j ∈ nd6.getD 25 [] → F6 A m k c cx ck j (a.tmps[dst6 j]?.getD undef) w) : wpOp Try.prog ops Q 25 (fun a' w' => ∃ v, a' = a.put (some (dst6 25)) v ∧ F6 A m k c cx ck 25 v w' ∧ Below w.heap.size w w') a w := by
  subst hops
  have n17 : a.tmps[42]?.getD undef = .bool true := hN 17 (by decide)
  have n23 : a.tmps[48]?.getD undef = .slice A m c := hN 23 (by decide)
  have n24 : a.tmps[49]?.getD undef = .int .i64 (k : Int) := hN 24 (by decide)
  have ho : (opsOf Try.f3 6)[25]? = some ({ dst := some 50, op := Go.Op.slice 22 (Go.Operand.tmp 48) (some (Go.Operand.tmp 49)) none none, type := 22, pos := "law.go:22", after := #[{ on := 23, ground := Go.Ground.data }, { on := 24, ground := Go.Ground.data }, { on := 17, ground := Go.Ground.guard }], guard := some (17, true) } : Oper) := by kernel_rfl
  refine wpOp_guarded (d := 42) ho rfl rfl n17 ?_
  clear hN ho
  go_simp
  exact ⟨_, rfl, rfl, Below.refl _ _⟩
theorem s6_26 {ops : Array Oper} {Q : Exit → Act → World → Prop} (hops : ops = opsOf Try.f3 6) (A : Option Addr) (m k c cx ck : Nat) (xs : List Int) (hk : k ≤ m) (hm : m ≤ c) (hcc : c ≤ 9223372036854775807) (hxl : Aside0 (xs.length = m)) (hok : Aside0 (okB xs)) (hcx : Aside0 (cx = crcN (ns xs))) (hck : Aside0 (ck = crcN (ns (xs.take k)))) (a : Act) (w : World) (hX : Aside0 (Kd.C (Kd.int .u8) w A m xs)) (h5 : a.tmps[5]?.getD undef = .slice A m c) (h6 : a.tmps[6]?.getD undef = .int .i64 (k : Int)) (h7 : a.tmps[7]?.getD undef = .int .u32 (cx : Int))
    (hN : ∀ j, j ∈ nd6.getD 26 [] → F6 A m k c cx ck j (a.tmps[dst6 j]?.getD undef) w) : wpOp Try.prog ops Q 26 (fun a' w' => ∃ v, a' = a.put (some (dst6 26)) v ∧ F6 A m k c cx ck 26 v w' ∧ Below w.heap.size w w') a w := by
  subst hops
  have n17 : a.tmps[42]?.getD undef = .bool true := hN 17 (by decide)
  have n22 : a.tmps[47]?.getD undef = .int .u32 (ck : Int) := hN 22 (by decide)
  have n25 : a.tmps[50]?.getD undef = .slice (if c = k then A else A.map (·.add k)) (m - k) (c - k) := hN 25 (by decide)
  have ho : (opsOf Try.f3 6)[26]? = some ({ dst := some 51, op := Go.Op.call { callee := Go.Callee.value (Go.Operand.func 10), args := #[Go.Operand.tmp 47, Go.Operand.tmp 50], argTypes := #[25, 22] }, type := 25, pos := "law.go:22", after := #[{ on := 22, ground := Go.Ground.data }, { on := 25, ground := Go.Ground.data }, { on := 22, ground := Go.Ground.chain }, { on := 17, ground := Go.Ground.guard }], guard := some (17, true) } : Oper) := by kernel_rfl
  refine wpOp_guarded (d := 42) ho rfl rfl n17 ?_
  clear hN ho
  obtain ⟨hxl⟩ := hxl
  subst hxl
  have hl2 : (xs.drop k).length = xs.length - k := List.length_drop
  have hD := Kd.C_drop hX.out hk hm
  rw [show k * (Kd.int .u8).sz = k from Nat.mul_one k] at hD
  have hlt := crcN_lt (ns (xs.take k)) (ns_lt (fun x hx => hok.out x (List.mem_of_mem_take hx)))
  have h := crc_More.calls (ck : Int) (if c = k then A else A.map (·.add k)) (c - k) (xs.drop k) (cx : Int) w hD (by rw [hl2]; omega)
    (by
      unfold crc_More.f PSum.crc_More.f
      rw [hck.out, if_pos ⟨⟨by omega, by omega⟩, fun x hx => hok.out x (List.mem_of_mem_drop hx)⟩, hcx.out]
      have e : ns xs = ns (xs.take k) ++ ns (xs.drop k) := by rw [← ns_append, List.take_append_drop]
      rw [e]
      show some (((moreN (moreN 0 (ns (xs.take k))) (ns (xs.drop k)) : Nat)) : Int) = some ((moreN 0 (ns (xs.take k) ++ ns (xs.drop k)) : Nat) : Int)
      rw [moreN_append])
  rw [hl2] at h
  have HH := Aside0.mk h
  clear h hm hcc hk hX hD hl2 hlt
  go_simp
  refine HH.out.mono ?_
  rintro e w' ⟨rfl, hb⟩
  exact ⟨_, rfl, rfl, hb⟩
theorem s6_27 {ops : Array Oper} {Q : Exit → Act → World → Prop} (hops : ops = opsOf Try.f3 6) (A : Option Addr) (m k c cx ck : Nat) (xs : List Int) (hk : k ≤ m) (hm : m ≤ c) (hcc : c ≤ 9223372036854775807) (hxl : Aside0 (xs.length = m)) (hok : Aside0 (okB xs)) (hcx : Aside0 (cx = crcN (ns xs))) (hck : Aside0 (ck = crcN (ns (xs.take k)))) (a : Act) (w : World) (hX : Aside0 (Kd.C (Kd.int .u8) w A m xs)) (h5 : a.tmps[5]?.getD undef = .slice A m c) (h6 : a.tmps[6]?.getD undef = .int .i64 (k : Int)) (h7 : a.tmps[7]?.getD undef = .int .u32 (cx : Int))
    (hN : ∀ j, j ∈ nd6.getD 27 [] → F6 A m k c cx ck j (a.tmps[dst6 j]?.getD undef) w) : wpOp Try.prog ops Q 27 (fun a' w' => ∃ v, a' = a.put (some (dst6 27)) v ∧ F6 A m k c cx ck 27 v w' ∧ Below w.heap.size w w') a w := by
  subst hops
  have n17 : a.tmps[42]?.getD undef = .bool true := hN 17 (by decide)
  have ho : (opsOf Try.f3 6)[27]? = some ({ dst := some 52, op := Go.Op.move (Go.Operand.tmp 7), type := 25, pos := "law.go:22", after := #[{ on := 17, ground := Go.Ground.guard }], guard := some (17, true) } : Oper) := by kernel_rfl
  refine wpOp_guarded (d := 42) ho rfl rfl n17 ?_
  clear hN ho
  go_simp
  exact ⟨_, rfl, rfl, Below.refl _ _⟩
theorem s6_28 {ops : Array Oper} {Q : Exit → Act → World → Prop} (hops : ops = opsOf Try.f3 6) (A : Option Addr) (m k c cx ck : Nat) (xs : List Int) (hk : k ≤ m) (hm : m ≤ c) (hcc : c ≤ 9223372036854775807) (hxl : Aside0 (xs.length = m)) (hok : Aside0 (okB xs)) (hcx : Aside0 (cx = crcN (ns xs))) (hck : Aside0 (ck = crcN (ns (xs.take k)))) (a : Act) (w : World) (hX : Aside0 (Kd.C (Kd.int .u8) w A m xs)) (h5 : a.tmps[5]?.getD undef = .slice A m c) (h6 : a.tmps[6]?.getD undef = .int .i64 (k : Int)) (h7 : a.tmps[7]?.getD undef = .int .u32 (cx : Int))
    (hN : ∀ j, j ∈ nd6.getD 28 [] → F6 A m k c cx ck j (a.tmps[dst6 j]?.getD undef) w) : wpOp Try.prog ops Q 28 (fun a' w' => ∃ v, a' = a.put (some (dst6 28)) v ∧ F6 A m k c cx ck 28 v w' ∧ Below w.heap.size w w') a w := by
  subst hops
  have n17 : a.tmps[42]?.getD undef = .bool true := hN 17 (by decide)
  have n26 : a.tmps[51]?.getD undef = .int .u32 (cx : Int) := hN 26 (by decide)
  have n27 : a.tmps[52]?.getD undef = .int .u32 (cx : Int) := hN 27 (by decide)
  have ho : (opsOf Try.f3 6)[28]? = some ({ dst := some 53, op := Go.Op.binOp Go.BinOp.eql 25 (Go.Operand.tmp 51) (Go.Operand.tmp 52) 25, type := 4, pos := "law.go:22", after := #[{ on := 26, ground := Go.Ground.data }, { on := 27, ground := Go.Ground.data }, { on := 17, ground := Go.Ground.guard }], guard := some (17, true) } : Oper) := by kernel_rfl
  refine wpOp_guarded (d := 42) ho rfl rfl n17 ?_
  clear hN ho
  go_simp
  exact ⟨_, rfl, rfl, Below.refl _ _⟩
theorem s6_29 {ops : Array Oper} {Q : Exit → Act → World → Prop} (hops : ops = opsOf Try.f3 6) (A : Option Addr) (m k c cx ck : Nat) (xs : List Int) (hk : k ≤ m) (hm : m ≤ c) (hcc : c ≤ 9223372036854775807) (hxl : Aside0 (xs.length = m)) (hok : Aside0 (okB xs)) (hcx : Aside0 (cx = crcN (ns xs))) (hck : Aside0 (ck = crcN (ns (xs.take k)))) (a : Act) (w : World) (hX : Aside0 (Kd.C (Kd.int .u8) w A m xs)) (h5 : a.tmps[5]?.getD undef = .slice A m c) (h6 : a.tmps[6]?.getD undef = .int .i64 (k : Int)) (h7 : a.tmps[7]?.getD undef = .int .u32 (cx : Int))
    (hN : ∀ j, j ∈ nd6.getD 29 [] → F6 A m k c cx ck j (a.tmps[dst6 j]?.getD undef) w) : wpOp Try.prog ops Q 29 (fun a' w' => ∃ v, a' = a.put (some (dst6 29)) v ∧ F6 A m k c cx ck 29 v w' ∧ Below w.heap.size w w') a w := by
  subst hops
  have n17 : a.tmps[42]?.getD undef = .bool true := hN 17 (by decide)
  have n28 : a.tmps[53]?.getD undef = .bool true := hN 28 (by decide)
  have ho : (opsOf Try.f3 6)[29]? = some ({ dst := some 54, op := Go.Op.pick (Go.Operand.tmp 42) (Go.Operand.tmp 53) (Go.Operand.const (Go.Value.bool false)), type := 4, pos := "law.go:22", after := #[{ on := 17, ground := Go.Ground.data }, { on := 28, ground := Go.Ground.data }], guard := none } : Oper) := by kernel_rfl
  refine wpOp_plain ho rfl ?_
  clear hN ho
  go_simp
  exact ⟨_, rfl, rfl, Below.refl _ _⟩
theorem s6_30 {ops : Array Oper} {Q : Exit → Act → World → Prop} (hops : ops = opsOf Try.f3 6) (A : Option Addr) (m k c cx ck : Nat) (xs : List Int) (hk : k ≤ m) (hm : m ≤ c) (hcc : c ≤ 9223372036854775807) (hxl : Aside0 (xs.length = m)) (hok : Aside0 (okB xs)) (hcx : Aside0 (cx = crcN (ns xs))) (hck : Aside0 (ck = crcN (ns (xs.take k)))) (a : Act) (w : World) (hX : Aside0 (Kd.C (Kd.int .u8) w A m xs)) (h5 : a.tmps[5]?.getD undef = .slice A m c) (h6 : a.tmps[6]?.getD undef = .int .i64 (k : Int)) (h7 : a.tmps[7]?.getD undef = .int .u32 (cx : Int))
    (hN : ∀ j, j ∈ nd6.getD 30 [] → F6 A m k c cx ck j (a.tmps[dst6 j]?.getD undef) w) : wpOp Try.prog ops Q 30 (fun a' w' => ∃ v, a' = a.put (some (dst6 30)) v ∧ F6 A m k c cx ck 30 v w' ∧ Below w.heap.size w w') a w := by
  subst hops
  have n29 : a.tmps[54]?.getD undef = .bool true := hN 29 (by decide)
  have ho : (opsOf Try.f3 6)[30]? = some ({ dst := some 4, op := Go.Op.assign (Go.Operand.tmp 54), type := 4, pos := "law.go:22", after := #[{ on := 29, ground := Go.Ground.data }, { on := 26, ground := Go.Ground.chain }, { on := 0, ground := Go.Ground.phase }, { on := 1, ground := Go.Ground.phase }, { on := 2, ground := Go.Ground.phase }, { on := 3, ground := Go.Ground.phase }, { on := 4, ground := Go.Ground.phase }, { on := 5, ground := Go.Ground.phase }, { on := 6, ground := Go.Ground.phase }, { on := 7, ground := Go.Ground.phase }, { on := 8, ground := Go.Ground.phase }, { on := 9, ground := Go.Ground.phase }, { on := 10, ground := Go.Ground.phase }, { on := 11, ground := Go.Ground.phase }, { on := 12, ground := Go.Ground.phase }, { on := 13, ground := Go.Ground.phase }, { on := 14, ground := Go.Ground.phase }, { on := 15, ground := Go.Ground.phase }, { on := 16, ground := Go.Ground.phase }, { on := 17, ground := Go.Ground.phase }, { on := 18, ground := Go.Ground.phase }, { on := 19, ground := Go.Ground.phase }, { on := 20, ground := Go.Ground.phase }, { on := 21, ground := Go.Ground.phase }, { on := 22, ground := Go.Ground.phase }, { on := 23, ground := Go.Ground.phase }, { on := 24, ground := Go.Ground.phase }, { on := 25, ground := Go.Ground.phase }, { on := 26, ground := Go.Ground.phase }, { on := 27, ground := Go.Ground.phase }, { on := 28, ground := Go.Ground.phase }, { on := 29, ground := Go.Ground.phase }], guard := none } : Oper) := by kernel_rfl
  refine wpOp_plain ho rfl ?_
  clear hN ho
  go_simp
  exact ⟨_, rfl, rfl, Below.refl _ _⟩
theorem mono6 (A : Option Addr) (m k c cx ck : Nat) (j : Nat) (v : Value) (w w' : World) (h : F6 A m k c cx ck j v w) (hb : Below w.heap.size w w') : F6 A m k c cx ck j v w' := by
  have key : ∀ cs, Rows1 cs v w → Rows1 cs v w' := by
    rintro cs ⟨g, e, hg⟩
    exact ⟨g, e, (hb.block g (Array.getElem?_eq_some_iff.1 hg).1).trans hg⟩
  unfold F6 at h ⊢
  split <;> simp_all
theorem region6 {ops : Array Oper} {Q : Exit → Act → World → Prop} (hops : ops = opsOf Try.f3 6) {id : Nat} (A : Option Addr) (m k c cx ck : Nat) (xs : List Int) (hk : k ≤ m) (hm : m ≤ c) (hcc : c ≤ 9223372036854775807) (hxl : Aside0 (xs.length = m)) (hok : Aside0 (okB xs)) (hcx : Aside0 (cx = crcN (ns xs))) (hck : Aside0 (ck = crcN (ns (xs.take k)))) (a0 : Act) (w0 : World) (hX : Aside0 (Kd.C (Kd.int .u8) w0 A m xs))
    (hsz : a0.tmps.size = 55) (h5 : a0.tmps[5]?.getD undef = .slice A m c) (h6 : a0.tmps[6]?.getD undef = .int .i64 (k : Int)) (h7 : a0.tmps[7]?.getD undef = .int .u32 (cx : Int))
    (hQ : ∀ a w, a.defers = a0.defers → a.tmps[4]?.getD undef = .bool true → Below w0.heap.size w0 w → Q .normal a w) : (Code.region id ops true).wp Try.prog Q a0 w0 := by
  refine region_facts (n := 31) dst6 (F6 A m k c cx ck) nd6 (by kernel_rfl) (by rw [hops]; kernel_rfl) (fun i j hi hj h => ?_) (fun i hi => ?_) (fun j v w w' _ h hb => mono6 A m k c cx ck j v w w' h hb) (by rw [hops]; kernel_rfl) (by decide) ?_ ?_
  · unfold dst6 at h; split at h <;> split at h <;> omega
  · rw [hsz]; unfold dst6; split <;> omega
  · intro i a w hi hA hN hB
    have h5 := (hA.old 5 (fun i hi => by unfold dst6; split <;> omega)).trans h5
    have h6 := (hA.old 6 (fun i hi => by unfold dst6; split <;> omega)).trans h6
    have h7 := (hA.old 7 (fun i hi => by unfold dst6; split <;> omega)).trans h7
    have hXw : Aside0 (Kd.C (Kd.int .u8) w A m xs) := ⟨Kd.C_below hX.out hB⟩
    have hi' : i = 0 ∨ i = 1 ∨ i = 2 ∨ i = 3 ∨ i = 4 ∨ i = 5 ∨ i = 6 ∨ i = 7 ∨ i = 8 ∨ i = 9 ∨ i = 10 ∨ i = 11 ∨ i = 12 ∨ i = 13 ∨ i = 14 ∨ i = 15 ∨ i = 16 ∨ i = 17 ∨ i = 18 ∨ i = 19 ∨ i = 20 ∨ i = 21 ∨ i = 22 ∨ i = 23 ∨ i = 24 ∨ i = 25 ∨ i = 26 ∨ i = 27 ∨ i = 28 ∨ i = 29 ∨ i = 30 := by omega
    rcases hi' with rfl | rfl | rfl | rfl | rfl | rfl | rfl | rfl | rfl | rfl | rfl | rfl | rfl | rfl | rfl | rfl | rfl | rfl | rfl | rfl | rfl | rfl | rfl | rfl | rfl | rfl | rfl | rfl | rfl | rfl | rfl
    · exact s6_0 hops A m k c cx ck xs hk hm hcc hxl hok hcx hck a w hXw h5 h6 h7 hN
    · exact s6_1 hops A m k c cx ck xs hk hm hcc hxl hok hcx hck a w hXw h5 h6 h7 hN
    · exact s6_2 hops A m k c cx ck xs hk hm hcc hxl hok hcx hck a w hXw h5 h6 h7 hN
    · exact s6_3 hops A m k c cx ck xs hk hm hcc hxl hok hcx hck a w hXw h5 h6 h7 hN
    · exact s6_4 hops A m k c cx ck xs hk hm hcc hxl hok hcx hck a w hXw h5 h6 h7 hN
    · exact s6_5 hops A m k c cx ck xs hk hm hcc hxl hok hcx hck a w hXw h5 h6 h7 hN
    · exact s6_6 hops A m k c cx ck xs hk hm hcc hxl hok hcx hck a w hXw h5 h6 h7 hN
    · exact s6_7 hops A m k c cx ck xs hk hm hcc hxl hok hcx hck a w hXw h5 h6 h7 hN
    · exact s6_8 hops A m k c cx ck xs hk hm hcc hxl hok hcx hck a w hXw h5 h6 h7 hN
    · exact s6_9 hops A m k c cx ck xs hk hm hcc hxl hok hcx hck a w hXw h5 h6 h7 hN
    · exact s6_10 hops A m k c cx ck xs hk hm hcc hxl hok hcx hck a w hXw h5 h6 h7 hN
    · exact s6_11 hops A m k c cx ck xs hk hm hcc hxl hok hcx hck a w hXw h5 h6 h7 hN
    · exact s6_12 hops A m k c cx ck xs hk hm hcc hxl hok hcx hck a w hXw h5 h6 h7 hN
    · exact s6_13 hops A m k c cx ck xs hk hm hcc hxl hok hcx hck a w hXw h5 h6 h7 hN
    · exact s6_14 hops A m k c cx ck xs hk hm hcc hxl hok hcx hck a w hXw h5 h6 h7 hN
    · exact s6_15 hops A m k c cx ck xs hk hm hcc hxl hok hcx hck a w hXw h5 h6 h7 hN
    · exact s6_16 hops A m k c cx ck xs hk hm hcc hxl hok hcx hck a w hXw h5 h6 h7 hN
    · exact s6_17 hops A m k c cx ck xs hk hm hcc hxl hok hcx hck a w hXw h5 h6 h7 hN
    · exact s6_18 hops A m k c cx ck xs hk hm hcc hxl hok hcx hck a w hXw h5 h6 h7 hN
    · exact s6_19 hops A m k c cx ck xs hk hm hcc hxl hok hcx hck a w hXw h5 h6 h7 hN
    · exact s6_20 hops A m k c cx ck xs hk hm hcc hxl hok hcx hck a w hXw h5 h6 h7 hN
    · exact s6_21 hops A m k c cx ck xs hk hm hcc hxl hok hcx hck a w hXw h5 h6 h7 hN
    · exact s6_22 hops A m k c cx ck xs hk hm hcc hxl hok hcx hck a w hXw h5 h6 h7 hN
    · exact s6_23 hops A m k c cx ck xs hk hm hcc hxl hok hcx hck a w hXw h5 h6 h7 hN
    · exact s6_24 hops A m k c cx ck xs hk hm hcc hxl hok hcx hck a w hXw h5 h6 h7 hN
    · exact s6_25 hops A m k c cx ck xs hk hm hcc hxl hok hcx hck a w hXw h5 h6 h7 hN
    · exact s6_26 hops A m k c cx ck xs hk hm hcc hxl hok hcx hck a w hXw h5 h6 h7 hN
    · exact s6_27 hops A m k c cx ck xs hk hm hcc hxl hok hcx hck a w hXw h5 h6 h7 hN
    · exact s6_28 hops A m k c cx ck xs hk hm hcc hxl hok hcx hck a w hXw h5 h6 h7 hN
    · exact s6_29 hops A m k c cx ck xs hk hm hcc hxl hok hcx hck a w hXw h5 h6 h7 hN
    · exact s6_30 hops A m k c cx ck xs hk hm hcc hxl hok hcx hck a w hXw h5 h6 h7 hN
  · intro a w hA hF hB
    exact hQ a w hA.defers (hF 30 (by omega)) hB
theorem place2 (cut : Int) (n : Nat) (hn : n ≤ 5000) : ∃ k : Nat, wrap64 ((IntKind.u64.wrap cut).tmod ((n : Int) + 1)) = (k : Int) ∧ k ≤ n ∧ ¬ ((n : Int) + 1 = 0) := by
  rw [IntKind.wrap_u64, Int.tmod_eq_emod_of_nonneg (by omega)]
  have h1 : 0 ≤ (cut % 18446744073709551616) % ((n : Int) + 1) := Int.emod_nonneg _ (by omega)
  have h2 : (cut % 18446744073709551616) % ((n : Int) + 1) < (n : Int) + 1 := Int.emod_lt_of_pos _ (by omega)
  generalize (cut % 18446744073709551616) % ((n : Int) + 1) = q at *
  refine ⟨q.toNat, ?_, by omega, by omega⟩
  unfold wrap64; omega
set_option maxHeartbeats 4000000 in
theorem sums_calls (A : Option Addr) (c : Nat) (l : List Int) (cut : Int) (w : World) (hC : Kd.C (Kd.int .u8) w A l.length l) (hc : l.length ≤ c) (hcm : c ≤ 9223372036854775807) (hok : okB l) (hn : -9223372036854775808 ≤ cut ∧ cut ≤ 9223372036854775807) :
    Calls Try.prog 3 #[.slice A l.length c, .int .i64 cut] w fun e w' => e = .returned (.bool true) ∧ Below w.heap.size w w' := by
  have HC := Aside0.mk hC
  have hmax : l.length ≤ 9223372036854775807 := HC.out.2.1
  clear hC
  have hok' := Aside0.mk hok
  clear hok
  by_cases h3 : 5000 < (l.length : Int)
  · obtain ⟨xs, hxl, hxC, hxok⟩ : ∃ xs : List Int, Aside0 (xs.length = 5000) ∧ Aside0 (Kd.C (Kd.int .u8) w A 5000 xs) ∧ Aside0 (okB xs) := by
      have hl : (l.take 5000).length = 5000 := by rw [List.length_take]; omega
      have h := Kd.C_take HC.out (show 5000 ≤ l.length by omega)
      rw [hl] at h
      exact ⟨_, ⟨hl⟩, ⟨h⟩, ⟨fun x hx => hok'.out x (List.mem_of_mem_take hx)⟩⟩
    obtain ⟨k, hK, hk, _⟩ := place2 cut 5000 (by omega)
    have hK : wrap64 ((IntKind.u64.wrap cut).tmod 5001) = (k : Int) := hK
    go_enter Try.func3, Try.ntmps3
    go_wp2_with (go_at_call 7; refine (first_calls _).mono ?_; rintro e w1 ⟨rfl, hb1⟩)
    have hCx : Kd.C (Kd.int .u8) w1 A xs.length xs := by have h := Kd.C_below hxC.out hb1; rw [hxl.out]; exact h
    have hcall := Aside0.mk (calepinref16_Sum.calls A c xs ((crcN (ns xs) : Nat) : Int) w1 hCx (by rw [hxl.out]; omega) (by unfold calepinref16_Sum.f; rw [if_pos hxok.out]))
    rw [hxl.out] at hcall
    refine hcall.out.mono ?_
    clear hcall hCx
    rintro e w2 ⟨rfl, hd⟩
    have hb2 := hd.below
    clear hd
    go_wp2_with fail
    refine region6 (by kernel_rfl) A 5000 k c (crcN (ns xs)) (crcN (ns (xs.take k))) xs (by omega) (by omega) hcm hxl hxok ⟨rfl⟩ ⟨rfl⟩ _ _ ⟨Kd.C_below (Kd.C_below hxC.out hb1) hb2⟩ rfl rfl rfl rfl ?_
    intro a w3 had h4 hb3
    have HB := Aside0.mk (below_over (below_over hb1 hb2) hb3)
    clear hb1 hb2 hb3
    go_wp2
    refine bodyPost_ret (v := .bool true) ?_ had ⟨rfl, HB.out⟩
    rw [results_tmp rfl]
    rw [Array.getD_eq_getD_getElem?, h4]

  · obtain ⟨xs, hxl, hxC, hxok⟩ : ∃ xs : List Int, Aside0 (xs.length = l.length) ∧ Aside0 (Kd.C (Kd.int .u8) w A l.length xs) ∧ Aside0 (okB xs) := ⟨l, ⟨rfl⟩, HC, hok'⟩
    obtain ⟨k, hK, hk, hne⟩ := place2 cut l.length (by omega)
    go_enter Try.func3, Try.ntmps3
    go_wp2_with (go_at_call 7; refine (first_calls _).mono ?_; rintro e w1 ⟨rfl, hb1⟩)
    have hCx : Kd.C (Kd.int .u8) w1 A xs.length xs := by have h := Kd.C_below hxC.out hb1; rw [hxl.out]; exact h
    have hcall := Aside0.mk (calepinref16_Sum.calls A c xs ((crcN (ns xs) : Nat) : Int) w1 hCx (by rw [hxl.out]; omega) (by unfold calepinref16_Sum.f; rw [if_pos hxok.out]))
    rw [hxl.out] at hcall
    refine hcall.out.mono ?_
    clear hcall hCx
    rintro e w2 ⟨rfl, hd⟩
    have hb2 := hd.below
    clear hd
    go_wp2_with fail
    refine region6 (by kernel_rfl) A l.length k c (crcN (ns xs)) (crcN (ns (xs.take k))) xs (by omega) (by omega) hcm hxl hxok ⟨rfl⟩ ⟨rfl⟩ _ _ ⟨Kd.C_below (Kd.C_below hxC.out hb1) hb2⟩ rfl rfl rfl rfl ?_
    intro a w3 had h4 hb3
    have HB := Aside0.mk (below_over (below_over hb1 hb2) hb3)
    clear hb1 hb2 hb3
    go_wp2
    refine bodyPost_ret (v := .bool true) ?_ had ⟨rfl, HB.out⟩
    rw [results_tmp rfl]
    rw [Array.getD_eq_getD_getElem?, h4]

end Go.Proofs.Ytppjhekjcoogoaa.PCrc
