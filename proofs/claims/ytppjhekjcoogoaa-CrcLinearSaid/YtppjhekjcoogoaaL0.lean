/- CrcLinear's last statement: four sums in one statement, whose order Go leaves open. -/
import Derived.Test.YtppjhekjcoogoaaE1
import Derived.Test.YtppjhekjcoogoaaReg
namespace Go.Proofs.Ytppjhekjcoogoaa.PCrc
open Go.RowKit Go.Proofs.YtppjhekjcoogoaaW.PrintWords Go.Proofs.YtppjhekjcoogoaaW.PrintLast Go.Proofs.YtppjhekjcoogoaaW.PrintMore
open Go.Proofs.Ytppjhekjcoogoaa.PSum (okB ns ns_lt)
open CrcMath Reg
set_option linter.unusedVariables false
set_option linter.unusedSimpArgs false
/-- A list of rows, just made. -/
def Rows1 (cs : List Value) (v : Value) (w : World) : Prop := ∃ g, v = .slice (some ⟨g, 0, none⟩) cs.length cs.length ∧ w.heap[g]? = some (.cells cs.toArray 22 (0, 0))
theorem sum_rows (w : World) (g : Nat) (A : Option Addr) (m c : Nat) (xs : List Int) (hl : xs.length = m) (hC : Kd.C (Kd.int .u8) w A m xs) (hc : m ≤ c) (hok : okB xs) (hg : w.heap[g]? = some (.cells ([.slice A m c] : List Value).toArray 22 (0, 0))) :
    Calls Try.prog 9 #[.slice (some ⟨g, 0, none⟩) 1 1] w fun e w' => e = .returned (.int .u32 ((crcN (ns xs) : Nat) : Int)) ∧ Below w.heap.size w w' := by
  subst hl
  exact crc_Sum.calls (some ⟨g, 0, none⟩) 1 [xs] ((crcN (ns xs) : Nat) : Int) w (C_rows [(A, xs, c)] hg rfl (by simp) (by intro p hp; rw [List.mem_singleton.1 hp]; exact ⟨hC, hc⟩)) (by simp)
    (by unfold crc_Sum.f; rw [if_pos (by intro p hp; rw [List.mem_singleton.1 hp]; exact hok)]; simp)
def dst10 (i : Nat) : Nat := ([44, 45, 46, 47, 48, 49, 50, 51, 52, 53, 54, 55, 56, 57, 58, 59, 60, 61, 62, 63, 64, 6] : List Nat).getD i 0
def nd10 : List (List Nat) := [[], [0], [1], [], [], [3, 4], [5], [6, 2], [], [], [8, 9], [10], [11, 7], [7, 12], [], [], [14, 15], [16], [17, 12], [13, 18], [2, 19], [20, 18, 0, 1, 2, 3, 4, 5, 6, 7, 8, 9, 10, 11, 12, 13, 14, 15, 16, 17, 18, 19, 20]]
def F10 (A B C : Option Addr) (g n na nb nc ca cb cc xd xa xb xc : Nat) : Nat → Value → World → Prop
  | 0, v, w => v = .slice (some ⟨g, 0, none⟩) n n
  | 1, v, w => Rows1 [.slice (some ⟨g, 0, none⟩) n n] v w
  | 2, v, w => v = .int .u32 (xd : Int)
  | 3, v, w => v = .slice A na ca
  | 4, v, w => v = .int .i64 (n : Int)
  | 5, v, w => v = .slice A n ca
  | 6, v, w => Rows1 [.slice A n ca] v w
  | 7, v, w => v = .int .u32 (xa : Int)
  | 8, v, w => v = .slice B nb cb
  | 9, v, w => v = .int .i64 (n : Int)
  | 10, v, w => v = .slice B n cb
  | 11, v, w => Rows1 [.slice B n cb] v w
  | 12, v, w => v = .int .u32 (xb : Int)
  | 13, v, w => v = .int .u32 ((xa ^^^ xb : Nat) : Int)
  | 14, v, w => v = .slice C nc cc
  | 15, v, w => v = .int .i64 (n : Int)
  | 16, v, w => v = .slice C n cc
  | 17, v, w => Rows1 [.slice C n cc] v w
  | 18, v, w => v = .int .u32 (xc : Int)
  | 19, v, w => v = .int .u32 ((xa ^^^ xb ^^^ xc : Nat) : Int)
  | 20, v, w => v = .bool true
  | 21, v, w => v = .bool true
  | _, _, _ => True
theorem s10_0 {ops : Array Oper} {Q : Exit → Act → World → Prop} (hops : ops = opsOf Try.f5 10) (A B C : Option Addr) (g n na nb nc ca cb cc xd xa xb xc : Nat) (la lb lc ds : List Int) (hca : n ≤ ca) (hcb : n ≤ cb) (hcc : n ≤ cc) (hd : Aside0 (ds.length = n ∧ xd = crcN (ns ds))) (hla : Aside0 (la.length = n ∧ xa = crcN (ns la))) (hlb : Aside0 (lb.length = n ∧ xb = crcN (ns lb))) (hlc : Aside0 (lc.length = n ∧ xc = crcN (ns lc))) (od : Aside0 (okB ds)) (oa : Aside0 (okB la)) (ob : Aside0 (okB lb)) (oc : Aside0 (okB lc)) (heq : Aside0 (xd = xa ^^^ xb ^^^ xc)) (hlt : Aside0 (xa < 4294967296 ∧ xb < 4294967296 ∧ xc < 4294967296)) (a : Act) (w : World) (hA : Aside0 (Kd.C (Kd.int .u8) w A n la)) (hB : Aside0 (Kd.C (Kd.int .u8) w B n lb)) (hC : Aside0 (Kd.C (Kd.int .u8) w C n lc)) (hD : Aside0 (Kd.C (Kd.int .u8) w (some ⟨g, 0, none⟩) n ds)) (h0 : a.tmps[0]?.getD undef = .slice A na ca) (h1 : a.tmps[1]?.getD undef = .slice B nb cb) (h2 : a.tmps[2]?.getD undef = .slice C nc cc) (h7 : a.tmps[7]?.getD undef = .int .i64 (n : Int)) (h8 : a.tmps[8]?.getD undef = .slice (some ⟨g, 0, none⟩) n n)
    (hN : ∀ j, j ∈ nd10.getD 0 [] → F10 A B C g n na nb nc ca cb cc xd xa xb xc j (a.tmps[dst10 j]?.getD undef) w) : wpOp Try.prog ops Q 0 (fun a' w' => ∃ v, a' = a.put (some (dst10 0)) v ∧ F10 A B C g n na nb nc ca cb cc xd xa xb xc 0 v w' ∧ Below w.heap.size w w') a w := by
  subst hops
  have ho : (opsOf Try.f5 10)[0]? = some ({ dst := some 44, op := Go.Op.move (Go.Operand.tmp 8), type := 22, pos := "law.go:54", after := #[], guard := none } : Oper) := by kernel_rfl
  refine wpOp_plain ho rfl ?_
  clear hN ho
  go_simp
  exact ⟨_, rfl, rfl, Below.refl _ _⟩
theorem s10_1 {ops : Array Oper} {Q : Exit → Act → World → Prop} (hops : ops = opsOf Try.f5 10) (A B C : Option Addr) (g n na nb nc ca cb cc xd xa xb xc : Nat) (la lb lc ds : List Int) (hca : n ≤ ca) (hcb : n ≤ cb) (hcc : n ≤ cc) (hd : Aside0 (ds.length = n ∧ xd = crcN (ns ds))) (hla : Aside0 (la.length = n ∧ xa = crcN (ns la))) (hlb : Aside0 (lb.length = n ∧ xb = crcN (ns lb))) (hlc : Aside0 (lc.length = n ∧ xc = crcN (ns lc))) (od : Aside0 (okB ds)) (oa : Aside0 (okB la)) (ob : Aside0 (okB lb)) (oc : Aside0 (okB lc)) (heq : Aside0 (xd = xa ^^^ xb ^^^ xc)) (hlt : Aside0 (xa < 4294967296 ∧ xb < 4294967296 ∧ xc < 4294967296)) (a : Act) (w : World) (hA : Aside0 (Kd.C (Kd.int .u8) w A n la)) (hB : Aside0 (Kd.C (Kd.int .u8) w B n lb)) (hC : Aside0 (Kd.C (Kd.int .u8) w C n lc)) (hD : Aside0 (Kd.C (Kd.int .u8) w (some ⟨g, 0, none⟩) n ds)) (h0 : a.tmps[0]?.getD undef = .slice A na ca) (h1 : a.tmps[1]?.getD undef = .slice B nb cb) (h2 : a.tmps[2]?.getD undef = .slice C nc cc) (h7 : a.tmps[7]?.getD undef = .int .i64 (n : Int)) (h8 : a.tmps[8]?.getD undef = .slice (some ⟨g, 0, none⟩) n n)
    (hN : ∀ j, j ∈ nd10.getD 1 [] → F10 A B C g n na nb nc ca cb cc xd xa xb xc j (a.tmps[dst10 j]?.getD undef) w) : wpOp Try.prog ops Q 1 (fun a' w' => ∃ v, a' = a.put (some (dst10 1)) v ∧ F10 A B C g n na nb nc ca cb cc xd xa xb xc 1 v w' ∧ Below w.heap.size w w') a w := by
  subst hops
  have n0 : a.tmps[44]?.getD undef = .slice (some ⟨g, 0, none⟩) n n := hN 0 (by decide)
  have ho : (opsOf Try.f5 10)[1]? = some ({ dst := some 45, op := Go.Op.buildSlice 32 1 #[(0, Go.Operand.tmp 44)], type := 32, pos := "law.go:54", after := #[{ on := 0, ground := Go.Ground.data }], guard := none } : Oper) := by kernel_rfl
  refine wpOp_plain ho rfl ?_
  clear hN ho
  go_simp
  exact ⟨_, rfl, ⟨w.heap.size, rfl, heap_alloc_new _ _⟩, (Below.refl _ _).alloc (Nat.le_refl _) _⟩
theorem s10_2 {ops : Array Oper} {Q : Exit → Act → World → Prop} (hops : ops = opsOf Try.f5 10) (A B C : Option Addr) (g n na nb nc ca cb cc xd xa xb xc : Nat) (la lb lc ds : List Int) (hca : n ≤ ca) (hcb : n ≤ cb) (hcc : n ≤ cc) (hd : Aside0 (ds.length = n ∧ xd = crcN (ns ds))) (hla : Aside0 (la.length = n ∧ xa = crcN (ns la))) (hlb : Aside0 (lb.length = n ∧ xb = crcN (ns lb))) (hlc : Aside0 (lc.length = n ∧ xc = crcN (ns lc))) (od : Aside0 (okB ds)) (oa : Aside0 (okB la)) (ob : Aside0 (okB lb)) (oc : Aside0 (okB lc)) (heq : Aside0 (xd = xa ^^^ xb ^^^ xc)) (hlt : Aside0 (xa < 4294967296 ∧ xb < 4294967296 ∧ xc < 4294967296)) (a : Act) (w : World) (hA : Aside0 (Kd.C (Kd.int .u8) w A n la)) (hB : Aside0 (Kd.C (Kd.int .u8) w B n lb)) (hC : Aside0 (Kd.C (Kd.int .u8) w C n lc)) (hD : Aside0 (Kd.C (Kd.int .u8) w (some ⟨g, 0, none⟩) n ds)) (h0 : a.tmps[0]?.getD undef = .slice A na ca) (h1 : a.tmps[1]?.getD undef = .slice B nb cb) (h2 : a.tmps[2]?.getD undef = .slice C nc cc) (h7 : a.tmps[7]?.getD undef = .int .i64 (n : Int)) (h8 : a.tmps[8]?.getD undef = .slice (some ⟨g, 0, none⟩) n n)
    (hN : ∀ j, j ∈ nd10.getD 2 [] → F10 A B C g n na nb nc ca cb cc xd xa xb xc j (a.tmps[dst10 j]?.getD undef) w) : wpOp Try.prog ops Q 2 (fun a' w' => ∃ v, a' = a.put (some (dst10 2)) v ∧ F10 A B C g n na nb nc ca cb cc xd xa xb xc 2 v w' ∧ Below w.heap.size w w') a w := by
  subst hops
  obtain ⟨g1, n1, b1⟩ : Rows1 [.slice (some ⟨g, 0, none⟩) n n] (a.tmps[45]?.getD undef) w := hN 1 (by decide)
  have ho : (opsOf Try.f5 10)[2]? = some ({ dst := some 46, op := Go.Op.call { callee := Go.Callee.value (Go.Operand.func 9), args := #[Go.Operand.tmp 45], argTypes := #[32] }, type := 25, pos := "law.go:54", after := #[{ on := 1, ground := Go.Ground.data }], guard := none } : Oper) := by kernel_rfl
  refine wpOp_plain ho rfl ?_
  clear hN ho
  have h := sum_rows w g1 (some ⟨g, 0, none⟩) n n ds hd.out.1 hD.out (Nat.le_refl _) od.out b1
  rw [← hd.out.2] at h
  have HH := Aside0.mk h
  clear h
  go_simp
  refine HH.out.mono ?_
  rintro e w' ⟨rfl, hb⟩
  exact ⟨_, rfl, rfl, hb⟩
theorem s10_3 {ops : Array Oper} {Q : Exit → Act → World → Prop} (hops : ops = opsOf Try.f5 10) (A B C : Option Addr) (g n na nb nc ca cb cc xd xa xb xc : Nat) (la lb lc ds : List Int) (hca : n ≤ ca) (hcb : n ≤ cb) (hcc : n ≤ cc) (hd : Aside0 (ds.length = n ∧ xd = crcN (ns ds))) (hla : Aside0 (la.length = n ∧ xa = crcN (ns la))) (hlb : Aside0 (lb.length = n ∧ xb = crcN (ns lb))) (hlc : Aside0 (lc.length = n ∧ xc = crcN (ns lc))) (od : Aside0 (okB ds)) (oa : Aside0 (okB la)) (ob : Aside0 (okB lb)) (oc : Aside0 (okB lc)) (heq : Aside0 (xd = xa ^^^ xb ^^^ xc)) (hlt : Aside0 (xa < 4294967296 ∧ xb < 4294967296 ∧ xc < 4294967296)) (a : Act) (w : World) (hA : Aside0 (Kd.C (Kd.int .u8) w A n la)) (hB : Aside0 (Kd.C (Kd.int .u8) w B n lb)) (hC : Aside0 (Kd.C (Kd.int .u8) w C n lc)) (hD : Aside0 (Kd.C (Kd.int .u8) w (some ⟨g, 0, none⟩) n ds)) (h0 : a.tmps[0]?.getD undef = .slice A na ca) (h1 : a.tmps[1]?.getD undef = .slice B nb cb) (h2 : a.tmps[2]?.getD undef = .slice C nc cc) (h7 : a.tmps[7]?.getD undef = .int .i64 (n : Int)) (h8 : a.tmps[8]?.getD undef = .slice (some ⟨g, 0, none⟩) n n)
    (hN : ∀ j, j ∈ nd10.getD 3 [] → F10 A B C g n na nb nc ca cb cc xd xa xb xc j (a.tmps[dst10 j]?.getD undef) w) : wpOp Try.prog ops Q 3 (fun a' w' => ∃ v, a' = a.put (some (dst10 3)) v ∧ F10 A B C g n na nb nc ca cb cc xd xa xb xc 3 v w' ∧ Below w.heap.size w w') a w := by
  subst hops
  have ho : (opsOf Try.f5 10)[3]? = some ({ dst := some 47, op := Go.Op.move (Go.Operand.tmp 0), type := 22, pos := "law.go:54", after := #[], guard := none } : Oper) := by kernel_rfl
  refine wpOp_plain ho rfl ?_
  clear hN ho
  go_simp
  exact ⟨_, rfl, rfl, Below.refl _ _⟩
theorem s10_4 {ops : Array Oper} {Q : Exit → Act → World → Prop} (hops : ops = opsOf Try.f5 10) (A B C : Option Addr) (g n na nb nc ca cb cc xd xa xb xc : Nat) (la lb lc ds : List Int) (hca : n ≤ ca) (hcb : n ≤ cb) (hcc : n ≤ cc) (hd : Aside0 (ds.length = n ∧ xd = crcN (ns ds))) (hla : Aside0 (la.length = n ∧ xa = crcN (ns la))) (hlb : Aside0 (lb.length = n ∧ xb = crcN (ns lb))) (hlc : Aside0 (lc.length = n ∧ xc = crcN (ns lc))) (od : Aside0 (okB ds)) (oa : Aside0 (okB la)) (ob : Aside0 (okB lb)) (oc : Aside0 (okB lc)) (heq : Aside0 (xd = xa ^^^ xb ^^^ xc)) (hlt : Aside0 (xa < 4294967296 ∧ xb < 4294967296 ∧ xc < 4294967296)) (a : Act) (w : World) (hA : Aside0 (Kd.C (Kd.int .u8) w A n la)) (hB : Aside0 (Kd.C (Kd.int .u8) w B n lb)) (hC : Aside0 (Kd.C (Kd.int .u8) w C n lc)) (hD : Aside0 (Kd.C (Kd.int .u8) w (some ⟨g, 0, none⟩) n ds)) (h0 : a.tmps[0]?.getD undef = .slice A na ca) (h1 : a.tmps[1]?.getD undef = .slice B nb cb) (h2 : a.tmps[2]?.getD undef = .slice C nc cc) (h7 : a.tmps[7]?.getD undef = .int .i64 (n : Int)) (h8 : a.tmps[8]?.getD undef = .slice (some ⟨g, 0, none⟩) n n)
    (hN : ∀ j, j ∈ nd10.getD 4 [] → F10 A B C g n na nb nc ca cb cc xd xa xb xc j (a.tmps[dst10 j]?.getD undef) w) : wpOp Try.prog ops Q 4 (fun a' w' => ∃ v, a' = a.put (some (dst10 4)) v ∧ F10 A B C g n na nb nc ca cb cc xd xa xb xc 4 v w' ∧ Below w.heap.size w w') a w := by
  subst hops
  have ho : (opsOf Try.f5 10)[4]? = some ({ dst := some 48, op := Go.Op.move (Go.Operand.tmp 7), type := 3, pos := "law.go:54", after := #[], guard := none } : Oper) := by kernel_rfl
  refine wpOp_plain ho rfl ?_
  clear hN ho
  go_simp
  exact ⟨_, rfl, rfl, Below.refl _ _⟩
theorem s10_5 {ops : Array Oper} {Q : Exit → Act → World → Prop} (hops : ops = opsOf Try.f5 10) (A B C : Option Addr) (g n na nb nc ca cb cc xd xa xb xc : Nat) (la lb lc ds : List Int) (hca : n ≤ ca) (hcb : n ≤ cb) (hcc : n ≤ cc) (hd : Aside0 (ds.length = n ∧ xd = crcN (ns ds))) (hla : Aside0 (la.length = n ∧ xa = crcN (ns la))) (hlb : Aside0 (lb.length = n ∧ xb = crcN (ns lb))) (hlc : Aside0 (lc.length = n ∧ xc = crcN (ns lc))) (od : Aside0 (okB ds)) (oa : Aside0 (okB la)) (ob : Aside0 (okB lb)) (oc : Aside0 (okB lc)) (heq : Aside0 (xd = xa ^^^ xb ^^^ xc)) (hlt : Aside0 (xa < 4294967296 ∧ xb < 4294967296 ∧ xc < 4294967296)) (a : Act) (w : World) (hA : Aside0 (Kd.C (Kd.int .u8) w A n la)) (hB : Aside0 (Kd.C (Kd.int .u8) w B n lb)) (hC : Aside0 (Kd.C (Kd.int .u8) w C n lc)) (hD : Aside0 (Kd.C (Kd.int .u8) w (some ⟨g, 0, none⟩) n ds)) (h0 : a.tmps[0]?.getD undef = .slice A na ca) (h1 : a.tmps[1]?.getD undef = .slice B nb cb) (h2 : a.tmps[2]?.getD undef = .slice C nc cc) (h7 : a.tmps[7]?.getD undef = .int .i64 (n : Int)) (h8 : a.tmps[8]?.getD undef = .slice (some ⟨g, 0, none⟩) n n)
    (hN : ∀ j, j ∈ nd10.getD 5 [] → F10 A B C g n na nb nc ca cb cc xd xa xb xc j (a.tmps[dst10 j]?.getD undef) w) : wpOp Try.prog ops Q 5 (fun a' w' => ∃ v, a' = a.put (some (dst10 5)) v ∧ F10 A B C g n na nb nc ca cb cc xd xa xb xc 5 v w' ∧ Below w.heap.size w w') a w := by
  subst hops
  have n3 : a.tmps[47]?.getD undef = .slice A na ca := hN 3 (by decide)
  have n4 : a.tmps[48]?.getD undef = .int .i64 (n : Int) := hN 4 (by decide)
  have ho : (opsOf Try.f5 10)[5]? = some ({ dst := some 49, op := Go.Op.slice 22 (Go.Operand.tmp 47) none (some (Go.Operand.tmp 48)) none, type := 22, pos := "law.go:54", after := #[{ on := 3, ground := Go.Ground.data }, { on := 4, ground := Go.Ground.data }], guard := none } : Oper) := by kernel_rfl
  refine wpOp_plain ho rfl ?_
  clear hN ho
  go_simp
  exact ⟨_, rfl, rfl, Below.refl _ _⟩
theorem s10_6 {ops : Array Oper} {Q : Exit → Act → World → Prop} (hops : ops = opsOf Try.f5 10) (A B C : Option Addr) (g n na nb nc ca cb cc xd xa xb xc : Nat) (la lb lc ds : List Int) (hca : n ≤ ca) (hcb : n ≤ cb) (hcc : n ≤ cc) (hd : Aside0 (ds.length = n ∧ xd = crcN (ns ds))) (hla : Aside0 (la.length = n ∧ xa = crcN (ns la))) (hlb : Aside0 (lb.length = n ∧ xb = crcN (ns lb))) (hlc : Aside0 (lc.length = n ∧ xc = crcN (ns lc))) (od : Aside0 (okB ds)) (oa : Aside0 (okB la)) (ob : Aside0 (okB lb)) (oc : Aside0 (okB lc)) (heq : Aside0 (xd = xa ^^^ xb ^^^ xc)) (hlt : Aside0 (xa < 4294967296 ∧ xb < 4294967296 ∧ xc < 4294967296)) (a : Act) (w : World) (hA : Aside0 (Kd.C (Kd.int .u8) w A n la)) (hB : Aside0 (Kd.C (Kd.int .u8) w B n lb)) (hC : Aside0 (Kd.C (Kd.int .u8) w C n lc)) (hD : Aside0 (Kd.C (Kd.int .u8) w (some ⟨g, 0, none⟩) n ds)) (h0 : a.tmps[0]?.getD undef = .slice A na ca) (h1 : a.tmps[1]?.getD undef = .slice B nb cb) (h2 : a.tmps[2]?.getD undef = .slice C nc cc) (h7 : a.tmps[7]?.getD undef = .int .i64 (n : Int)) (h8 : a.tmps[8]?.getD undef = .slice (some ⟨g, 0, none⟩) n n)
    (hN : ∀ j, j ∈ nd10.getD 6 [] → F10 A B C g n na nb nc ca cb cc xd xa xb xc j (a.tmps[dst10 j]?.getD undef) w) : wpOp Try.prog ops Q 6 (fun a' w' => ∃ v, a' = a.put (some (dst10 6)) v ∧ F10 A B C g n na nb nc ca cb cc xd xa xb xc 6 v w' ∧ Below w.heap.size w w') a w := by
  subst hops
  have n5 : a.tmps[49]?.getD undef = .slice A n ca := hN 5 (by decide)
  have ho : (opsOf Try.f5 10)[6]? = some ({ dst := some 50, op := Go.Op.buildSlice 32 1 #[(0, Go.Operand.tmp 49)], type := 32, pos := "law.go:54", after := #[{ on := 5, ground := Go.Ground.data }], guard := none } : Oper) := by kernel_rfl
  refine wpOp_plain ho rfl ?_
  clear hN ho
  go_simp
  exact ⟨_, rfl, ⟨w.heap.size, rfl, heap_alloc_new _ _⟩, (Below.refl _ _).alloc (Nat.le_refl _) _⟩
theorem s10_7 {ops : Array Oper} {Q : Exit → Act → World → Prop} (hops : ops = opsOf Try.f5 10) (A B C : Option Addr) (g n na nb nc ca cb cc xd xa xb xc : Nat) (la lb lc ds : List Int) (hca : n ≤ ca) (hcb : n ≤ cb) (hcc : n ≤ cc) (hd : Aside0 (ds.length = n ∧ xd = crcN (ns ds))) (hla : Aside0 (la.length = n ∧ xa = crcN (ns la))) (hlb : Aside0 (lb.length = n ∧ xb = crcN (ns lb))) (hlc : Aside0 (lc.length = n ∧ xc = crcN (ns lc))) (od : Aside0 (okB ds)) (oa : Aside0 (okB la)) (ob : Aside0 (okB lb)) (oc : Aside0 (okB lc)) (heq : Aside0 (xd = xa ^^^ xb ^^^ xc)) (hlt : Aside0 (xa < 4294967296 ∧ xb < 4294967296 ∧ xc < 4294967296)) (a : Act) (w : World) (hA : Aside0 (Kd.C (Kd.int .u8) w A n la)) (hB : Aside0 (Kd.C (Kd.int .u8) w B n lb)) (hC : Aside0 (Kd.C (Kd.int .u8) w C n lc)) (hD : Aside0 (Kd.C (Kd.int .u8) w (some ⟨g, 0, none⟩) n ds)) (h0 : a.tmps[0]?.getD undef = .slice A na ca) (h1 : a.tmps[1]?.getD undef = .slice B nb cb) (h2 : a.tmps[2]?.getD undef = .slice C nc cc) (h7 : a.tmps[7]?.getD undef = .int .i64 (n : Int)) (h8 : a.tmps[8]?.getD undef = .slice (some ⟨g, 0, none⟩) n n)
    (hN : ∀ j, j ∈ nd10.getD 7 [] → F10 A B C g n na nb nc ca cb cc xd xa xb xc j (a.tmps[dst10 j]?.getD undef) w) : wpOp Try.prog ops Q 7 (fun a' w' => ∃ v, a' = a.put (some (dst10 7)) v ∧ F10 A B C g n na nb nc ca cb cc xd xa xb xc 7 v w' ∧ Below w.heap.size w w') a w := by
  subst hops
  have n2 : a.tmps[46]?.getD undef = .int .u32 (xd : Int) := hN 2 (by decide)
  obtain ⟨g6, n6, b6⟩ : Rows1 [.slice A n ca] (a.tmps[50]?.getD undef) w := hN 6 (by decide)
  have ho : (opsOf Try.f5 10)[7]? = some ({ dst := some 51, op := Go.Op.call { callee := Go.Callee.value (Go.Operand.func 9), args := #[Go.Operand.tmp 50], argTypes := #[32] }, type := 25, pos := "law.go:54", after := #[{ on := 6, ground := Go.Ground.data }, { on := 2, ground := Go.Ground.chain }], guard := none } : Oper) := by kernel_rfl
  refine wpOp_plain ho rfl ?_
  clear hN ho
  have h := sum_rows w g6 A n ca la hla.out.1 hA.out hca oa.out b6
  rw [← hla.out.2] at h
  have HH := Aside0.mk h
  clear h
  go_simp
  refine HH.out.mono ?_
  rintro e w' ⟨rfl, hb⟩
  exact ⟨_, rfl, rfl, hb⟩
theorem s10_8 {ops : Array Oper} {Q : Exit → Act → World → Prop} (hops : ops = opsOf Try.f5 10) (A B C : Option Addr) (g n na nb nc ca cb cc xd xa xb xc : Nat) (la lb lc ds : List Int) (hca : n ≤ ca) (hcb : n ≤ cb) (hcc : n ≤ cc) (hd : Aside0 (ds.length = n ∧ xd = crcN (ns ds))) (hla : Aside0 (la.length = n ∧ xa = crcN (ns la))) (hlb : Aside0 (lb.length = n ∧ xb = crcN (ns lb))) (hlc : Aside0 (lc.length = n ∧ xc = crcN (ns lc))) (od : Aside0 (okB ds)) (oa : Aside0 (okB la)) (ob : Aside0 (okB lb)) (oc : Aside0 (okB lc)) (heq : Aside0 (xd = xa ^^^ xb ^^^ xc)) (hlt : Aside0 (xa < 4294967296 ∧ xb < 4294967296 ∧ xc < 4294967296)) (a : Act) (w : World) (hA : Aside0 (Kd.C (Kd.int .u8) w A n la)) (hB : Aside0 (Kd.C (Kd.int .u8) w B n lb)) (hC : Aside0 (Kd.C (Kd.int .u8) w C n lc)) (hD : Aside0 (Kd.C (Kd.int .u8) w (some ⟨g, 0, none⟩) n ds)) (h0 : a.tmps[0]?.getD undef = .slice A na ca) (h1 : a.tmps[1]?.getD undef = .slice B nb cb) (h2 : a.tmps[2]?.getD undef = .slice C nc cc) (h7 : a.tmps[7]?.getD undef = .int .i64 (n : Int)) (h8 : a.tmps[8]?.getD undef = .slice (some ⟨g, 0, none⟩) n n)
    (hN : ∀ j, j ∈ nd10.getD 8 [] → F10 A B C g n na nb nc ca cb cc xd xa xb xc j (a.tmps[dst10 j]?.getD undef) w) : wpOp Try.prog ops Q 8 (fun a' w' => ∃ v, a' = a.put (some (dst10 8)) v ∧ F10 A B C g n na nb nc ca cb cc xd xa xb xc 8 v w' ∧ Below w.heap.size w w') a w := by
  subst hops
  have ho : (opsOf Try.f5 10)[8]? = some ({ dst := some 52, op := Go.Op.move (Go.Operand.tmp 1), type := 22, pos := "law.go:54", after := #[], guard := none } : Oper) := by kernel_rfl
  refine wpOp_plain ho rfl ?_
  clear hN ho
  go_simp
  exact ⟨_, rfl, rfl, Below.refl _ _⟩
theorem s10_9 {ops : Array Oper} {Q : Exit → Act → World → Prop} (hops : ops = opsOf Try.f5 10) (A B C : Option Addr) (g n na nb nc ca cb cc xd xa xb xc : Nat) (la lb lc ds : List Int) (hca : n ≤ ca) (hcb : n ≤ cb) (hcc : n ≤ cc) (hd : Aside0 (ds.length = n ∧ xd = crcN (ns ds))) (hla : Aside0 (la.length = n ∧ xa = crcN (ns la))) (hlb : Aside0 (lb.length = n ∧ xb = crcN (ns lb))) (hlc : Aside0 (lc.length = n ∧ xc = crcN (ns lc))) (od : Aside0 (okB ds)) (oa : Aside0 (okB la)) (ob : Aside0 (okB lb)) (oc : Aside0 (okB lc)) (heq : Aside0 (xd = xa ^^^ xb ^^^ xc)) (hlt : Aside0 (xa < 4294967296 ∧ xb < 4294967296 ∧ xc < 4294967296)) (a : Act) (w : World) (hA : Aside0 (Kd.C (Kd.int .u8) w A n la)) (hB : Aside0 (Kd.C (Kd.int .u8) w B n lb)) (hC : Aside0 (Kd.C (Kd.int .u8) w C n lc)) (hD : Aside0 (Kd.C (Kd.int .u8) w (some ⟨g, 0, none⟩) n ds)) (h0 : a.tmps[0]?.getD undef = .slice A na ca) (h1 : a.tmps[1]?.getD undef = .slice B nb cb) (h2 : a.tmps[2]?.getD undef = .slice C nc cc) (h7 : a.tmps[7]?.getD undef = .int .i64 (n : Int)) (h8 : a.tmps[8]?.getD undef = .slice (some ⟨g, 0, none⟩) n n)
    (hN : ∀ j, j ∈ nd10.getD 9 [] → F10 A B C g n na nb nc ca cb cc xd xa xb xc j (a.tmps[dst10 j]?.getD undef) w) : wpOp Try.prog ops Q 9 (fun a' w' => ∃ v, a' = a.put (some (dst10 9)) v ∧ F10 A B C g n na nb nc ca cb cc xd xa xb xc 9 v w' ∧ Below w.heap.size w w') a w := by
  subst hops
  have ho : (opsOf Try.f5 10)[9]? = some ({ dst := some 53, op := Go.Op.move (Go.Operand.tmp 7), type := 3, pos := "law.go:54", after := #[], guard := none } : Oper) := by kernel_rfl
  refine wpOp_plain ho rfl ?_
  clear hN ho
  go_simp
  exact ⟨_, rfl, rfl, Below.refl _ _⟩
theorem s10_10 {ops : Array Oper} {Q : Exit → Act → World → Prop} (hops : ops = opsOf Try.f5 10) (A B C : Option Addr) (g n na nb nc ca cb cc xd xa xb xc : Nat) (la lb lc ds : List Int) (hca : n ≤ ca) (hcb : n ≤ cb) (hcc : n ≤ cc) (hd : Aside0 (ds.length = n ∧ xd = crcN (ns ds))) (hla : Aside0 (la.length = n ∧ xa = crcN (ns la))) (hlb : Aside0 (lb.length = n ∧ xb = crcN (ns lb))) (hlc : Aside0 (lc.length = n ∧ xc = crcN (ns lc))) (od : Aside0 (okB ds)) (oa : Aside0 (okB la)) (ob : Aside0 (okB lb)) (oc : Aside0 (okB lc)) (heq : Aside0 (xd = xa ^^^ xb ^^^ xc)) (hlt : Aside0 (xa < 4294967296 ∧ xb < 4294967296 ∧ xc < 4294967296)) (a : Act) (w : World) (hA : Aside0 (Kd.C (Kd.int .u8) w A n la)) (hB : Aside0 (Kd.C (Kd.int .u8) w B n lb)) (hC : Aside0 (Kd.C (Kd.int .u8) w C n lc)) (hD : Aside0 (Kd.C (Kd.int .u8) w (some ⟨g, 0, none⟩) n ds)) (h0 : a.tmps[0]?.getD undef = .slice A na ca) (h1 : a.tmps[1]?.getD undef = .slice B nb cb) (h2 : a.tmps[2]?.getD undef = .slice C nc cc) (h7 : a.tmps[7]?.getD undef = .int .i64 (n : Int)) (h8 : a.tmps[8]?.getD undef = .slice (some ⟨g, 0, none⟩) n n)
    (hN : ∀ j, j ∈ nd10.getD 10 [] → F10 A B C g n na nb nc ca cb cc xd xa xb xc j (a.tmps[dst10 j]?.getD undef) w) : wpOp Try.prog ops Q 10 (fun a' w' => ∃ v, a' = a.put (some (dst10 10)) v ∧ F10 A B C g n na nb nc ca cb cc xd xa xb xc 10 v w' ∧ Below w.heap.size w w') a w := by
  subst hops
  have n8 : a.tmps[52]?.getD undef = .slice B nb cb := hN 8 (by decide)
  have n9 : a.tmps[53]?.getD undef = .int .i64 (n : Int) := hN 9 (by decide)
  have ho : (opsOf Try.f5 10)[10]? = some ({ dst := some 54, op := Go.Op.slice 22 (Go.Operand.tmp 52) none (some (Go.Operand.tmp 53)) none, type := 22, pos := "law.go:54", after := #[{ on := 8, ground := Go.Ground.data }, { on := 9, ground := Go.Ground.data }], guard := none } : Oper) := by kernel_rfl
  refine wpOp_plain ho rfl ?_
  clear hN ho
  go_simp
  exact ⟨_, rfl, rfl, Below.refl _ _⟩
theorem s10_11 {ops : Array Oper} {Q : Exit → Act → World → Prop} (hops : ops = opsOf Try.f5 10) (A B C : Option Addr) (g n na nb nc ca cb cc xd xa xb xc : Nat) (la lb lc ds : List Int) (hca : n ≤ ca) (hcb : n ≤ cb) (hcc : n ≤ cc) (hd : Aside0 (ds.length = n ∧ xd = crcN (ns ds))) (hla : Aside0 (la.length = n ∧ xa = crcN (ns la))) (hlb : Aside0 (lb.length = n ∧ xb = crcN (ns lb))) (hlc : Aside0 (lc.length = n ∧ xc = crcN (ns lc))) (od : Aside0 (okB ds)) (oa : Aside0 (okB la)) (ob : Aside0 (okB lb)) (oc : Aside0 (okB lc)) (heq : Aside0 (xd = xa ^^^ xb ^^^ xc)) (hlt : Aside0 (xa < 4294967296 ∧ xb < 4294967296 ∧ xc < 4294967296)) (a : Act) (w : World) (hA : Aside0 (Kd.C (Kd.int .u8) w A n la)) (hB : Aside0 (Kd.C (Kd.int .u8) w B n lb)) (hC : Aside0 (Kd.C (Kd.int .u8) w C n lc)) (hD : Aside0 (Kd.C (Kd.int .u8) w (some ⟨g, 0, none⟩) n ds)) (h0 : a.tmps[0]?.getD undef = .slice A na ca) (h1 : a.tmps[1]?.getD undef = .slice B nb cb) (h2 : a.tmps[2]?.getD undef = .slice C nc cc) (h7 : a.tmps[7]?.getD undef = .int .i64 (n : Int)) (h8 : a.tmps[8]?.getD undef = .slice (some ⟨g, 0, none⟩) n n)
    (hN : ∀ j, j ∈ nd10.getD 11 [] → F10 A B C g n na nb nc ca cb cc xd xa xb xc j (a.tmps[dst10 j]?.getD undef) w) : wpOp Try.prog ops Q 11 (fun a' w' => ∃ v, a' = a.put (some (dst10 11)) v ∧ F10 A B C g n na nb nc ca cb cc xd xa xb xc 11 v w' ∧ Below w.heap.size w w') a w := by
  subst hops
  have n10 : a.tmps[54]?.getD undef = .slice B n cb := hN 10 (by decide)
  have ho : (opsOf Try.f5 10)[11]? = some ({ dst := some 55, op := Go.Op.buildSlice 32 1 #[(0, Go.Operand.tmp 54)], type := 32, pos := "law.go:54", after := #[{ on := 10, ground := Go.Ground.data }], guard := none } : Oper) := by kernel_rfl
  refine wpOp_plain ho rfl ?_
  clear hN ho
  go_simp
  exact ⟨_, rfl, ⟨w.heap.size, rfl, heap_alloc_new _ _⟩, (Below.refl _ _).alloc (Nat.le_refl _) _⟩
theorem s10_12 {ops : Array Oper} {Q : Exit → Act → World → Prop} (hops : ops = opsOf Try.f5 10) (A B C : Option Addr) (g n na nb nc ca cb cc xd xa xb xc : Nat) (la lb lc ds : List Int) (hca : n ≤ ca) (hcb : n ≤ cb) (hcc : n ≤ cc) (hd : Aside0 (ds.length = n ∧ xd = crcN (ns ds))) (hla : Aside0 (la.length = n ∧ xa = crcN (ns la))) (hlb : Aside0 (lb.length = n ∧ xb = crcN (ns lb))) (hlc : Aside0 (lc.length = n ∧ xc = crcN (ns lc))) (od : Aside0 (okB ds)) (oa : Aside0 (okB la)) (ob : Aside0 (okB lb)) (oc : Aside0 (okB lc)) (heq : Aside0 (xd = xa ^^^ xb ^^^ xc)) (hlt : Aside0 (xa < 4294967296 ∧ xb < 4294967296 ∧ xc < 4294967296)) (a : Act) (w : World) (hA : Aside0 (Kd.C (Kd.int .u8) w A n la)) (hB : Aside0 (Kd.C (Kd.int .u8) w B n lb)) (hC : Aside0 (Kd.C (Kd.int .u8) w C n lc)) (hD : Aside0 (Kd.C (Kd.int .u8) w (some ⟨g, 0, none⟩) n ds)) (h0 : a.tmps[0]?.getD undef = .slice A na ca) (h1 : a.tmps[1]?.getD undef = .slice B nb cb) (h2 : a.tmps[2]?.getD undef = .slice C nc cc) (h7 : a.tmps[7]?.getD undef = .int .i64 (n : Int)) (h8 : a.tmps[8]?.getD undef = .slice (some ⟨g, 0, none⟩) n n)
    (hN : ∀ j, j ∈ nd10.getD 12 [] → F10 A B C g n na nb nc ca cb cc xd xa xb xc j (a.tmps[dst10 j]?.getD undef) w) : wpOp Try.prog ops Q 12 (fun a' w' => ∃ v, a' = a.put (some (dst10 12)) v ∧ F10 A B C g n na nb nc ca cb cc xd xa xb xc 12 v w' ∧ Below w.heap.size w w') a w := by
  subst hops
  have n7 : a.tmps[51]?.getD undef = .int .u32 (xa : Int) := hN 7 (by decide)
  obtain ⟨g11, n11, b11⟩ : Rows1 [.slice B n cb] (a.tmps[55]?.getD undef) w := hN 11 (by decide)
  have ho : (opsOf Try.f5 10)[12]? = some ({ dst := some 56, op := Go.Op.call { callee := Go.Callee.value (Go.Operand.func 9), args := #[Go.Operand.tmp 55], argTypes := #[32] }, type := 25, pos := "law.go:54", after := #[{ on := 11, ground := Go.Ground.data }, { on := 7, ground := Go.Ground.chain }], guard := none } : Oper) := by kernel_rfl
  refine wpOp_plain ho rfl ?_
  clear hN ho
  have h := sum_rows w g11 B n cb lb hlb.out.1 hB.out hcb ob.out b11
  rw [← hlb.out.2] at h
  have HH := Aside0.mk h
  clear h
  go_simp
  refine HH.out.mono ?_
  rintro e w' ⟨rfl, hb⟩
  exact ⟨_, rfl, rfl, hb⟩
theorem s10_13 {ops : Array Oper} {Q : Exit → Act → World → Prop} (hops : ops = opsOf Try.f5 10) (A B C : Option Addr) (g n na nb nc ca cb cc xd xa xb xc : Nat) (la lb lc ds : List Int) (hca : n ≤ ca) (hcb : n ≤ cb) (hcc : n ≤ cc) (hd : Aside0 (ds.length = n ∧ xd = crcN (ns ds))) (hla : Aside0 (la.length = n ∧ xa = crcN (ns la))) (hlb : Aside0 (lb.length = n ∧ xb = crcN (ns lb))) (hlc : Aside0 (lc.length = n ∧ xc = crcN (ns lc))) (od : Aside0 (okB ds)) (oa : Aside0 (okB la)) (ob : Aside0 (okB lb)) (oc : Aside0 (okB lc)) (heq : Aside0 (xd = xa ^^^ xb ^^^ xc)) (hlt : Aside0 (xa < 4294967296 ∧ xb < 4294967296 ∧ xc < 4294967296)) (a : Act) (w : World) (hA : Aside0 (Kd.C (Kd.int .u8) w A n la)) (hB : Aside0 (Kd.C (Kd.int .u8) w B n lb)) (hC : Aside0 (Kd.C (Kd.int .u8) w C n lc)) (hD : Aside0 (Kd.C (Kd.int .u8) w (some ⟨g, 0, none⟩) n ds)) (h0 : a.tmps[0]?.getD undef = .slice A na ca) (h1 : a.tmps[1]?.getD undef = .slice B nb cb) (h2 : a.tmps[2]?.getD undef = .slice C nc cc) (h7 : a.tmps[7]?.getD undef = .int .i64 (n : Int)) (h8 : a.tmps[8]?.getD undef = .slice (some ⟨g, 0, none⟩) n n)
    (hN : ∀ j, j ∈ nd10.getD 13 [] → F10 A B C g n na nb nc ca cb cc xd xa xb xc j (a.tmps[dst10 j]?.getD undef) w) : wpOp Try.prog ops Q 13 (fun a' w' => ∃ v, a' = a.put (some (dst10 13)) v ∧ F10 A B C g n na nb nc ca cb cc xd xa xb xc 13 v w' ∧ Below w.heap.size w w') a w := by
  subst hops
  have n7 : a.tmps[51]?.getD undef = .int .u32 (xa : Int) := hN 7 (by decide)
  have n12 : a.tmps[56]?.getD undef = .int .u32 (xb : Int) := hN 12 (by decide)
  have ho : (opsOf Try.f5 10)[13]? = some ({ dst := some 57, op := Go.Op.binOp Go.BinOp.xor 25 (Go.Operand.tmp 51) (Go.Operand.tmp 56) 25, type := 25, pos := "law.go:54", after := #[{ on := 7, ground := Go.Ground.data }, { on := 12, ground := Go.Ground.data }], guard := none } : Oper) := by kernel_rfl
  refine wpOp_plain ho rfl ?_
  clear hN ho
  have hx := u32_xor_nat xa xb hlt.out.1 hlt.out.2.1
  go_simp
  exact ⟨_, rfl, rfl, Below.refl _ _⟩
theorem s10_14 {ops : Array Oper} {Q : Exit → Act → World → Prop} (hops : ops = opsOf Try.f5 10) (A B C : Option Addr) (g n na nb nc ca cb cc xd xa xb xc : Nat) (la lb lc ds : List Int) (hca : n ≤ ca) (hcb : n ≤ cb) (hcc : n ≤ cc) (hd : Aside0 (ds.length = n ∧ xd = crcN (ns ds))) (hla : Aside0 (la.length = n ∧ xa = crcN (ns la))) (hlb : Aside0 (lb.length = n ∧ xb = crcN (ns lb))) (hlc : Aside0 (lc.length = n ∧ xc = crcN (ns lc))) (od : Aside0 (okB ds)) (oa : Aside0 (okB la)) (ob : Aside0 (okB lb)) (oc : Aside0 (okB lc)) (heq : Aside0 (xd = xa ^^^ xb ^^^ xc)) (hlt : Aside0 (xa < 4294967296 ∧ xb < 4294967296 ∧ xc < 4294967296)) (a : Act) (w : World) (hA : Aside0 (Kd.C (Kd.int .u8) w A n la)) (hB : Aside0 (Kd.C (Kd.int .u8) w B n lb)) (hC : Aside0 (Kd.C (Kd.int .u8) w C n lc)) (hD : Aside0 (Kd.C (Kd.int .u8) w (some ⟨g, 0, none⟩) n ds)) (h0 : a.tmps[0]?.getD undef = .slice A na ca) (h1 : a.tmps[1]?.getD undef = .slice B nb cb) (h2 : a.tmps[2]?.getD undef = .slice C nc cc) (h7 : a.tmps[7]?.getD undef = .int .i64 (n : Int)) (h8 : a.tmps[8]?.getD undef = .slice (some ⟨g, 0, none⟩) n n)
    (hN : ∀ j, j ∈ nd10.getD 14 [] → F10 A B C g n na nb nc ca cb cc xd xa xb xc j (a.tmps[dst10 j]?.getD undef) w) : wpOp Try.prog ops Q 14 (fun a' w' => ∃ v, a' = a.put (some (dst10 14)) v ∧ F10 A B C g n na nb nc ca cb cc xd xa xb xc 14 v w' ∧ Below w.heap.size w w') a w := by
  subst hops
  have ho : (opsOf Try.f5 10)[14]? = some ({ dst := some 58, op := Go.Op.move (Go.Operand.tmp 2), type := 22, pos := "law.go:54", after := #[], guard := none } : Oper) := by kernel_rfl
  refine wpOp_plain ho rfl ?_
  clear hN ho
  go_simp
  exact ⟨_, rfl, rfl, Below.refl _ _⟩
theorem s10_15 {ops : Array Oper} {Q : Exit → Act → World → Prop} (hops : ops = opsOf Try.f5 10) (A B C : Option Addr) (g n na nb nc ca cb cc xd xa xb xc : Nat) (la lb lc ds : List Int) (hca : n ≤ ca) (hcb : n ≤ cb) (hcc : n ≤ cc) (hd : Aside0 (ds.length = n ∧ xd = crcN (ns ds))) (hla : Aside0 (la.length = n ∧ xa = crcN (ns la))) (hlb : Aside0 (lb.length = n ∧ xb = crcN (ns lb))) (hlc : Aside0 (lc.length = n ∧ xc = crcN (ns lc))) (od : Aside0 (okB ds)) (oa : Aside0 (okB la)) (ob : Aside0 (okB lb)) (oc : Aside0 (okB lc)) (heq : Aside0 (xd = xa ^^^ xb ^^^ xc)) (hlt : Aside0 (xa < 4294967296 ∧ xb < 4294967296 ∧ xc < 4294967296)) (a : Act) (w : World) (hA : Aside0 (Kd.C (Kd.int .u8) w A n la)) (hB : Aside0 (Kd.C (Kd.int .u8) w B n lb)) (hC : Aside0 (Kd.C (Kd.int .u8) w C n lc)) (hD : Aside0 (Kd.C (Kd.int .u8) w (some ⟨g, 0, none⟩) n ds)) (h0 : a.tmps[0]?.getD undef = .slice A na ca) (h1 : a.tmps[1]?.getD undef = .slice B nb cb) (h2 : a.tmps[2]?.getD undef = .slice C nc cc) (h7 : a.tmps[7]?.getD undef = .int .i64 (n : Int)) (h8 : a.tmps[8]?.getD undef = .slice (some ⟨g, 0, none⟩) n n)
    (hN : ∀ j, j ∈ nd10.getD 15 [] → F10 A B C g n na nb nc ca cb cc xd xa xb xc j (a.tmps[dst10 j]?.getD undef) w) : wpOp Try.prog ops Q 15 (fun a' w' => ∃ v, a' = a.put (some (dst10 15)) v ∧ F10 A B C g n na nb nc ca cb cc xd xa xb xc 15 v w' ∧ Below w.heap.size w w') a w := by
  subst hops
  have ho : (opsOf Try.f5 10)[15]? = some ({ dst := some 59, op := Go.Op.move (Go.Operand.tmp 7), type := 3, pos := "law.go:54", after := #[], guard := none } : Oper) := by kernel_rfl
  refine wpOp_plain ho rfl ?_
  clear hN ho
  go_simp
  exact ⟨_, rfl, rfl, Below.refl _ _⟩
theorem s10_16 {ops : Array Oper} {Q : Exit → Act → World → Prop} (hops : ops = opsOf Try.f5 10) (A B C : Option Addr) (g n na nb nc ca cb cc xd xa xb xc : Nat) (la lb lc ds : List Int) (hca : n ≤ ca) (hcb : n ≤ cb) (hcc : n ≤ cc) (hd : Aside0 (ds.length = n ∧ xd = crcN (ns ds))) (hla : Aside0 (la.length = n ∧ xa = crcN (ns la))) (hlb : Aside0 (lb.length = n ∧ xb = crcN (ns lb))) (hlc : Aside0 (lc.length = n ∧ xc = crcN (ns lc))) (od : Aside0 (okB ds)) (oa : Aside0 (okB la)) (ob : Aside0 (okB lb)) (oc : Aside0 (okB lc)) (heq : Aside0 (xd = xa ^^^ xb ^^^ xc)) (hlt : Aside0 (xa < 4294967296 ∧ xb < 4294967296 ∧ xc < 4294967296)) (a : Act) (w : World) (hA : Aside0 (Kd.C (Kd.int .u8) w A n la)) (hB : Aside0 (Kd.C (Kd.int .u8) w B n lb)) (hC : Aside0 (Kd.C (Kd.int .u8) w C n lc)) (hD : Aside0 (Kd.C (Kd.int .u8) w (some ⟨g, 0, none⟩) n ds)) (h0 : a.tmps[0]?.getD undef = .slice A na ca) (h1 : a.tmps[1]?.getD undef = .slice B nb cb) (h2 : a.tmps[2]?.getD undef = .slice C nc cc) (h7 : a.tmps[7]?.getD undef = .int .i64 (n : Int)) (h8 : a.tmps[8]?.getD undef = .slice (some ⟨g, 0, none⟩) n n)
    (hN : ∀ j, j ∈ nd10.getD 16 [] → F10 A B C g n na nb nc ca cb cc xd xa xb xc j (a.tmps[dst10 j]?.getD undef) w) : wpOp Try.prog ops Q 16 (fun a' w' => ∃ v, a' = a.put (some (dst10 16)) v ∧ F10 A B C g n na nb nc ca cb cc xd xa xb xc 16 v w' ∧ Below w.heap.size w w') a w := by
  subst hops
  have n14 : a.tmps[58]?.getD undef = .slice C nc cc := hN 14 (by decide)
  have n15 : a.tmps[59]?.getD undef = .int .i64 (n : Int) := hN 15 (by decide)
  have ho : (opsOf Try.f5 10)[16]? = some ({ dst := some 60, op := Go.Op.slice 22 (Go.Operand.tmp 58) none (some (Go.Operand.tmp 59)) none, type := 22, pos := "law.go:54", after := #[{ on := 14, ground := Go.Ground.data }, { on := 15, ground := Go.Ground.data }], guard := none } : Oper) := by kernel_rfl
  refine wpOp_plain ho rfl ?_
  clear hN ho
  go_simp
  exact ⟨_, rfl, rfl, Below.refl _ _⟩
theorem s10_17 {ops : Array Oper} {Q : Exit → Act → World → Prop} (hops : ops = opsOf Try.f5 10) (A B C : Option Addr) (g n na nb nc ca cb cc xd xa xb xc : Nat) (la lb lc ds : List Int) (hca : n ≤ ca) (hcb : n ≤ cb) (hcc : n ≤ cc) (hd : Aside0 (ds.length = n ∧ xd = crcN (ns ds))) (hla : Aside0 (la.length = n ∧ xa = crcN (ns la))) (hlb : Aside0 (lb.length = n ∧ xb = crcN (ns lb))) (hlc : Aside0 (lc.length = n ∧ xc = crcN (ns lc))) (od : Aside0 (okB ds)) (oa : Aside0 (okB la)) (ob : Aside0 (okB lb)) (oc : Aside0 (okB lc)) (heq : Aside0 (xd = xa ^^^ xb ^^^ xc)) (hlt : Aside0 (xa < 4294967296 ∧ xb < 4294967296 ∧ xc < 4294967296)) (a : Act) (w : World) (hA : Aside0 (Kd.C (Kd.int .u8) w A n la)) (hB : Aside0 (Kd.C (Kd.int .u8) w B n lb)) (hC : Aside0 (Kd.C (Kd.int .u8) w C n lc)) (hD : Aside0 (Kd.C (Kd.int .u8) w (some ⟨g, 0, none⟩) n ds)) (h0 : a.tmps[0]?.getD undef = .slice A na ca) (h1 : a.tmps[1]?.getD undef = .slice B nb cb) (h2 : a.tmps[2]?.getD undef = .slice C nc cc) (h7 : a.tmps[7]?.getD undef = .int .i64 (n : Int)) (h8 : a.tmps[8]?.getD undef = .slice (some ⟨g, 0, none⟩) n n)
    (hN : ∀ j, j ∈ nd10.getD 17 [] → F10 A B C g n na nb nc ca cb cc xd xa xb xc j (a.tmps[dst10 j]?.getD undef) w) : wpOp Try.prog ops Q 17 (fun a' w' => ∃ v, a' = a.put (some (dst10 17)) v ∧ F10 A B C g n na nb nc ca cb cc xd xa xb xc 17 v w' ∧ Below w.heap.size w w') a w := by
  subst hops
  have n16 : a.tmps[60]?.getD undef = .slice C n cc := hN 16 (by decide)
  have ho : (opsOf Try.f5 10)[17]? = some ({ dst := some 61, op := Go.Op.buildSlice 32 1 #[(0, Go.Operand.tmp 60)], type := 32, pos := "law.go:54", after := #[{ on := 16, ground := Go.Ground.data }], guard := none } : Oper) := by kernel_rfl
  refine wpOp_plain ho rfl ?_
  clear hN ho
  go_simp
  exact ⟨_, rfl, ⟨w.heap.size, rfl, heap_alloc_new _ _⟩, (Below.refl _ _).alloc (Nat.le_refl _) _⟩
theorem s10_18 {ops : Array Oper} {Q : Exit → Act → World → Prop} (hops : ops = opsOf Try.f5 10) (A B C : Option Addr) (g n na nb nc ca cb cc xd xa xb xc : Nat) (la lb lc ds : List Int) (hca : n ≤ ca) (hcb : n ≤ cb) (hcc : n ≤ cc) (hd : Aside0 (ds.length = n ∧ xd = crcN (ns ds))) (hla : Aside0 (la.length = n ∧ xa = crcN (ns la))) (hlb : Aside0 (lb.length = n ∧ xb = crcN (ns lb))) (hlc : Aside0 (lc.length = n ∧ xc = crcN (ns lc))) (od : Aside0 (okB ds)) (oa : Aside0 (okB la)) (ob : Aside0 (okB lb)) (oc : Aside0 (okB lc)) (heq : Aside0 (xd = xa ^^^ xb ^^^ xc)) (hlt : Aside0 (xa < 4294967296 ∧ xb < 4294967296 ∧ xc < 4294967296)) (a : Act) (w : World) (hA : Aside0 (Kd.C (Kd.int .u8) w A n la)) (hB : Aside0 (Kd.C (Kd.int .u8) w B n lb)) (hC : Aside0 (Kd.C (Kd.int .u8) w C n lc)) (hD : Aside0 (Kd.C (Kd.int .u8) w (some ⟨g, 0, none⟩) n ds)) (h0 : a.tmps[0]?.getD undef = .slice A na ca) (h1 : a.tmps[1]?.getD undef = .slice B nb cb) (h2 : a.tmps[2]?.getD undef = .slice C nc cc) (h7 : a.tmps[7]?.getD undef = .int .i64 (n : Int)) (h8 : a.tmps[8]?.getD undef = .slice (some ⟨g, 0, none⟩) n n)
    (hN : ∀ j, j ∈ nd10.getD 18 [] → F10 A B C g n na nb nc ca cb cc xd xa xb xc j (a.tmps[dst10 j]?.getD undef) w) : wpOp Try.prog ops Q 18 (fun a' w' => ∃ v, a' = a.put (some (dst10 18)) v ∧ F10 A B C g n na nb nc ca cb cc xd xa xb xc 18 v w' ∧ Below w.heap.size w w') a w := by
  subst hops
  have n12 : a.tmps[56]?.getD undef = .int .u32 (xb : Int) := hN 12 (by decide)
  obtain ⟨g17, n17, b17⟩ : Rows1 [.slice C n cc] (a.tmps[61]?.getD undef) w := hN 17 (by decide)
  have ho : (opsOf Try.f5 10)[18]? = some ({ dst := some 62, op := Go.Op.call { callee := Go.Callee.value (Go.Operand.func 9), args := #[Go.Operand.tmp 61], argTypes := #[32] }, type := 25, pos := "law.go:54", after := #[{ on := 17, ground := Go.Ground.data }, { on := 12, ground := Go.Ground.chain }], guard := none } : Oper) := by kernel_rfl
  refine wpOp_plain ho rfl ?_
  clear hN ho
  have h := sum_rows w g17 C n cc lc hlc.out.1 hC.out hcc oc.out b17
  rw [← hlc.out.2] at h
  have HH := Aside0.mk h
  clear h
  go_simp
  refine HH.out.mono ?_
  rintro e w' ⟨rfl, hb⟩
  exact ⟨_, rfl, rfl, hb⟩
theorem s10_19 {ops : Array Oper} {Q : Exit → Act → World → Prop} (hops : ops = opsOf Try.f5 10) (A B C : Option Addr) (g n na nb nc ca cb cc xd xa xb xc : Nat) (la lb lc ds : List Int) (hca : n ≤ ca) (hcb : n ≤ cb) (hcc : n ≤ cc) (hd : Aside0 (ds.length = n ∧ xd = crcN (ns ds))) (hla : Aside0 (la.length = n ∧ xa = crcN (ns la))) (hlb : Aside0 (lb.length = n ∧ xb = crcN (ns lb))) (hlc : Aside0 (lc.length = n ∧ xc = crcN (ns lc))) (od : Aside0 (okB ds)) (oa : Aside0 (okB la)) (ob : Aside0 (okB lb)) (oc : Aside0 (okB lc)) (heq : Aside0 (xd = xa ^^^ xb ^^^ xc)) (hlt : Aside0 (xa < 4294967296 ∧ xb < 4294967296 ∧ xc < 4294967296)) (a : Act) (w : World) (hA : Aside0 (Kd.C (Kd.int .u8) w A n la)) (hB : Aside0 (Kd.C (Kd.int .u8) w B n lb)) (hC : Aside0 (Kd.C (Kd.int .u8) w C n lc)) (hD : Aside0 (Kd.C (Kd.int .u8) w (some ⟨g, 0, none⟩) n ds)) (h0 : a.tmps[0]?.getD undef = .slice A na ca) (h1 : a.tmps[1]?.getD undef = .slice B nb cb) (h2 : a.tmps[2]?.getD undef = .slice C nc cc) (h7 : a.tmps[7]?.getD undef = .int .i64 (n : Int)) (h8 : a.tmps[8]?.getD undef = .slice (some ⟨g, 0, none⟩) n n)
    (hN : ∀ j, j ∈ nd10.getD 19 [] → F10 A B C g n na nb nc ca cb cc xd xa xb xc j (a.tmps[dst10 j]?.getD undef) w) : wpOp Try.prog ops Q 19 (fun a' w' => ∃ v, a' = a.put (some (dst10 19)) v ∧ F10 A B C g n na nb nc ca cb cc xd xa xb xc 19 v w' ∧ Below w.heap.size w w') a w := by
  subst hops
  have n13 : a.tmps[57]?.getD undef = .int .u32 ((xa ^^^ xb : Nat) : Int) := hN 13 (by decide)
  have n18 : a.tmps[62]?.getD undef = .int .u32 (xc : Int) := hN 18 (by decide)
  have ho : (opsOf Try.f5 10)[19]? = some ({ dst := some 63, op := Go.Op.binOp Go.BinOp.xor 25 (Go.Operand.tmp 57) (Go.Operand.tmp 62) 25, type := 25, pos := "law.go:54", after := #[{ on := 13, ground := Go.Ground.data }, { on := 18, ground := Go.Ground.data }], guard := none } : Oper) := by kernel_rfl
  refine wpOp_plain ho rfl ?_
  clear hN ho
  have hx := u32_xor_nat (xa ^^^ xb) xc (Nat.xor_lt_two_pow (n := 32) hlt.out.1 hlt.out.2.1) hlt.out.2.2
  go_simp
  exact ⟨_, rfl, rfl, Below.refl _ _⟩
theorem s10_20 {ops : Array Oper} {Q : Exit → Act → World → Prop} (hops : ops = opsOf Try.f5 10) (A B C : Option Addr) (g n na nb nc ca cb cc xd xa xb xc : Nat) (la lb lc ds : List Int) (hca : n ≤ ca) (hcb : n ≤ cb) (hcc : n ≤ cc) (hd : Aside0 (ds.length = n ∧ xd = crcN (ns ds))) (hla : Aside0 (la.length = n ∧ xa = crcN (ns la))) (hlb : Aside0 (lb.length = n ∧ xb = crcN (ns lb))) (hlc : Aside0 (lc.length = n ∧ xc = crcN (ns lc))) (od : Aside0 (okB ds)) (oa : Aside0 (okB la)) (ob : Aside0 (okB lb)) (oc : Aside0 (okB lc)) (heq : Aside0 (xd = xa ^^^ xb ^^^ xc)) (hlt : Aside0 (xa < 4294967296 ∧ xb < 4294967296 ∧ xc < 4294967296)) (a : Act) (w : World) (hA : Aside0 (Kd.C (Kd.int .u8) w A n la)) (hB : Aside0 (Kd.C (Kd.int .u8) w B n lb)) (hC : Aside0 (Kd.C (Kd.int .u8) w C n lc)) (hD : Aside0 (Kd.C (Kd.int .u8) w (some ⟨g, 0, none⟩) n ds)) (h0 : a.tmps[0]?.getD undef = .slice A na ca) (h1 : a.tmps[1]?.getD undef = .slice B nb cb) (h2 : a.tmps[2]?.getD undef = .slice C nc cc) (h7 : a.tmps[7]?.getD undef = .int .i64 (n : Int)) (h8 : a.tmps[8]?.getD undef = .slice (some ⟨g, 0, none⟩) n n)
    (hN : ∀ j, j ∈ nd10.getD 20 [] → F10 A B C g n na nb nc ca cb cc xd xa xb xc j (a.tmps[dst10 j]?.getD undef) w) : wpOp Try.prog ops Q 20 (fun a' w' => ∃ v, a' = a.put (some (dst10 20)) v ∧ F10 A B C g n na nb nc ca cb cc xd xa xb xc 20 v w' ∧ Below w.heap.size w w') a w := by
  subst hops
  have n2 : a.tmps[46]?.getD undef = .int .u32 (xd : Int) := hN 2 (by decide)
  have n19 : a.tmps[63]?.getD undef = .int .u32 ((xa ^^^ xb ^^^ xc : Nat) : Int) := hN 19 (by decide)
  have ho : (opsOf Try.f5 10)[20]? = some ({ dst := some 64, op := Go.Op.binOp Go.BinOp.eql 25 (Go.Operand.tmp 46) (Go.Operand.tmp 63) 25, type := 4, pos := "law.go:54", after := #[{ on := 2, ground := Go.Ground.data }, { on := 19, ground := Go.Ground.data }], guard := none } : Oper) := by kernel_rfl
  refine wpOp_plain ho rfl ?_
  clear hN ho
  have hq : ((xd : Int) == ((xa ^^^ xb ^^^ xc : Nat) : Int)) = true := by rw [heq.out]; exact beq_self_eq_true _
  go_simp
  exact ⟨_, rfl, rfl, Below.refl _ _⟩
theorem s10_21 {ops : Array Oper} {Q : Exit → Act → World → Prop} (hops : ops = opsOf Try.f5 10) (A B C : Option Addr) (g n na nb nc ca cb cc xd xa xb xc : Nat) (la lb lc ds : List Int) (hca : n ≤ ca) (hcb : n ≤ cb) (hcc : n ≤ cc) (hd : Aside0 (ds.length = n ∧ xd = crcN (ns ds))) (hla : Aside0 (la.length = n ∧ xa = crcN (ns la))) (hlb : Aside0 (lb.length = n ∧ xb = crcN (ns lb))) (hlc : Aside0 (lc.length = n ∧ xc = crcN (ns lc))) (od : Aside0 (okB ds)) (oa : Aside0 (okB la)) (ob : Aside0 (okB lb)) (oc : Aside0 (okB lc)) (heq : Aside0 (xd = xa ^^^ xb ^^^ xc)) (hlt : Aside0 (xa < 4294967296 ∧ xb < 4294967296 ∧ xc < 4294967296)) (a : Act) (w : World) (hA : Aside0 (Kd.C (Kd.int .u8) w A n la)) (hB : Aside0 (Kd.C (Kd.int .u8) w B n lb)) (hC : Aside0 (Kd.C (Kd.int .u8) w C n lc)) (hD : Aside0 (Kd.C (Kd.int .u8) w (some ⟨g, 0, none⟩) n ds)) (h0 : a.tmps[0]?.getD undef = .slice A na ca) (h1 : a.tmps[1]?.getD undef = .slice B nb cb) (h2 : a.tmps[2]?.getD undef = .slice C nc cc) (h7 : a.tmps[7]?.getD undef = .int .i64 (n : Int)) (h8 : a.tmps[8]?.getD undef = .slice (some ⟨g, 0, none⟩) n n)
    (hN : ∀ j, j ∈ nd10.getD 21 [] → F10 A B C g n na nb nc ca cb cc xd xa xb xc j (a.tmps[dst10 j]?.getD undef) w) : wpOp Try.prog ops Q 21 (fun a' w' => ∃ v, a' = a.put (some (dst10 21)) v ∧ F10 A B C g n na nb nc ca cb cc xd xa xb xc 21 v w' ∧ Below w.heap.size w w') a w := by
  subst hops
  have n20 : a.tmps[64]?.getD undef = .bool true := hN 20 (by decide)
  have ho : (opsOf Try.f5 10)[21]? = some ({ dst := some 6, op := Go.Op.assign (Go.Operand.tmp 64), type := 4, pos := "law.go:54", after := #[{ on := 20, ground := Go.Ground.data }, { on := 18, ground := Go.Ground.chain }, { on := 0, ground := Go.Ground.phase }, { on := 1, ground := Go.Ground.phase }, { on := 2, ground := Go.Ground.phase }, { on := 3, ground := Go.Ground.phase }, { on := 4, ground := Go.Ground.phase }, { on := 5, ground := Go.Ground.phase }, { on := 6, ground := Go.Ground.phase }, { on := 7, ground := Go.Ground.phase }, { on := 8, ground := Go.Ground.phase }, { on := 9, ground := Go.Ground.phase }, { on := 10, ground := Go.Ground.phase }, { on := 11, ground := Go.Ground.phase }, { on := 12, ground := Go.Ground.phase }, { on := 13, ground := Go.Ground.phase }, { on := 14, ground := Go.Ground.phase }, { on := 15, ground := Go.Ground.phase }, { on := 16, ground := Go.Ground.phase }, { on := 17, ground := Go.Ground.phase }, { on := 18, ground := Go.Ground.phase }, { on := 19, ground := Go.Ground.phase }, { on := 20, ground := Go.Ground.phase }], guard := none } : Oper) := by kernel_rfl
  refine wpOp_plain ho rfl ?_
  clear hN ho
  go_simp
  exact ⟨_, rfl, rfl, Below.refl _ _⟩
theorem mono10 (A B C : Option Addr) (g n na nb nc ca cb cc xd xa xb xc : Nat) (j : Nat) (v : Value) (w w' : World) (h : F10 A B C g n na nb nc ca cb cc xd xa xb xc j v w) (hb : Below w.heap.size w w') : F10 A B C g n na nb nc ca cb cc xd xa xb xc j v w' := by
  have key : ∀ cs, Rows1 cs v w → Rows1 cs v w' := by
    rintro cs ⟨g, e, hg⟩
    exact ⟨g, e, (hb.block g (Array.getElem?_eq_some_iff.1 hg).1).trans hg⟩
  unfold F10 at h ⊢
  split <;> simp_all
theorem region10 {ops : Array Oper} {Q : Exit → Act → World → Prop} (hops : ops = opsOf Try.f5 10) {id : Nat} (A B C : Option Addr) (g n na nb nc ca cb cc xd xa xb xc : Nat) (la lb lc ds : List Int) (hca : n ≤ ca) (hcb : n ≤ cb) (hcc : n ≤ cc) (hd : Aside0 (ds.length = n ∧ xd = crcN (ns ds))) (hla : Aside0 (la.length = n ∧ xa = crcN (ns la))) (hlb : Aside0 (lb.length = n ∧ xb = crcN (ns lb))) (hlc : Aside0 (lc.length = n ∧ xc = crcN (ns lc))) (od : Aside0 (okB ds)) (oa : Aside0 (okB la)) (ob : Aside0 (okB lb)) (oc : Aside0 (okB lc)) (heq : Aside0 (xd = xa ^^^ xb ^^^ xc)) (hlt : Aside0 (xa < 4294967296 ∧ xb < 4294967296 ∧ xc < 4294967296)) (a0 : Act) (w0 : World) (hAA : Aside0 (Kd.C (Kd.int .u8) w0 A n la)) (hBB : Aside0 (Kd.C (Kd.int .u8) w0 B n lb)) (hC : Aside0 (Kd.C (Kd.int .u8) w0 C n lc)) (hD : Aside0 (Kd.C (Kd.int .u8) w0 (some ⟨g, 0, none⟩) n ds)) (hsz : a0.tmps.size = 65) (h0 : a0.tmps[0]?.getD undef = .slice A na ca) (h1 : a0.tmps[1]?.getD undef = .slice B nb cb) (h2 : a0.tmps[2]?.getD undef = .slice C nc cc) (h7 : a0.tmps[7]?.getD undef = .int .i64 (n : Int)) (h8 : a0.tmps[8]?.getD undef = .slice (some ⟨g, 0, none⟩) n n)
    (hQ : ∀ a w, Agree 22 dst10 a0 a → F10 A B C g n na nb nc ca cb cc xd xa xb xc 21 (a.tmps[dst10 21]?.getD undef) w → Below w0.heap.size w0 w → Q .normal a w) : (Code.region id ops true).wp Try.prog Q a0 w0 := by
  refine region_facts (n := 22) dst10 (F10 A B C g n na nb nc ca cb cc xd xa xb xc) nd10 (by kernel_rfl) (by rw [hops]; kernel_rfl) ?_ ?_ (fun j v w w' _ h hb => mono10 A B C g n na nb nc ca cb cc xd xa xb xc j v w w' h hb) (by rw [hops]; kernel_rfl) (by decide) ?_ ?_
  · have h : ∀ i, i < 22 → ∀ j, j < 22 → dst10 i = dst10 j → i = j := by decide
    exact fun i j hi hj => h i hi j hj
  · have h : ∀ i, i < 22 → dst10 i < 65 := by decide
    rw [hsz]; exact h
  · intro i a w hi hA hN hB
    have h0 := (hA.old 0 (by decide)).trans h0
    have h1 := (hA.old 1 (by decide)).trans h1
    have h2 := (hA.old 2 (by decide)).trans h2
    have h7 := (hA.old 7 (by decide)).trans h7
    have h8 := (hA.old 8 (by decide)).trans h8
    have hA' : Aside0 (Kd.C (Kd.int .u8) w A n la) := ⟨Kd.C_below hAA.out hB⟩
    have hB' : Aside0 (Kd.C (Kd.int .u8) w B n lb) := ⟨Kd.C_below hBB.out hB⟩
    have hC' : Aside0 (Kd.C (Kd.int .u8) w C n lc) := ⟨Kd.C_below hC.out hB⟩
    have hD' : Aside0 (Kd.C (Kd.int .u8) w (some ⟨g, 0, none⟩) n ds) := ⟨Kd.C_below hD.out hB⟩
    have hi' : i = 0 ∨ i = 1 ∨ i = 2 ∨ i = 3 ∨ i = 4 ∨ i = 5 ∨ i = 6 ∨ i = 7 ∨ i = 8 ∨ i = 9 ∨ i = 10 ∨ i = 11 ∨ i = 12 ∨ i = 13 ∨ i = 14 ∨ i = 15 ∨ i = 16 ∨ i = 17 ∨ i = 18 ∨ i = 19 ∨ i = 20 ∨ i = 21 := by omega
    rcases hi' with rfl | rfl | rfl | rfl | rfl | rfl | rfl | rfl | rfl | rfl | rfl | rfl | rfl | rfl | rfl | rfl | rfl | rfl | rfl | rfl | rfl | rfl
    · exact s10_0 hops A B C g n na nb nc ca cb cc xd xa xb xc la lb lc ds hca hcb hcc hd hla hlb hlc od oa ob oc heq hlt a w hA' hB' hC' hD' h0 h1 h2 h7 h8 hN
    · exact s10_1 hops A B C g n na nb nc ca cb cc xd xa xb xc la lb lc ds hca hcb hcc hd hla hlb hlc od oa ob oc heq hlt a w hA' hB' hC' hD' h0 h1 h2 h7 h8 hN
    · exact s10_2 hops A B C g n na nb nc ca cb cc xd xa xb xc la lb lc ds hca hcb hcc hd hla hlb hlc od oa ob oc heq hlt a w hA' hB' hC' hD' h0 h1 h2 h7 h8 hN
    · exact s10_3 hops A B C g n na nb nc ca cb cc xd xa xb xc la lb lc ds hca hcb hcc hd hla hlb hlc od oa ob oc heq hlt a w hA' hB' hC' hD' h0 h1 h2 h7 h8 hN
    · exact s10_4 hops A B C g n na nb nc ca cb cc xd xa xb xc la lb lc ds hca hcb hcc hd hla hlb hlc od oa ob oc heq hlt a w hA' hB' hC' hD' h0 h1 h2 h7 h8 hN
    · exact s10_5 hops A B C g n na nb nc ca cb cc xd xa xb xc la lb lc ds hca hcb hcc hd hla hlb hlc od oa ob oc heq hlt a w hA' hB' hC' hD' h0 h1 h2 h7 h8 hN
    · exact s10_6 hops A B C g n na nb nc ca cb cc xd xa xb xc la lb lc ds hca hcb hcc hd hla hlb hlc od oa ob oc heq hlt a w hA' hB' hC' hD' h0 h1 h2 h7 h8 hN
    · exact s10_7 hops A B C g n na nb nc ca cb cc xd xa xb xc la lb lc ds hca hcb hcc hd hla hlb hlc od oa ob oc heq hlt a w hA' hB' hC' hD' h0 h1 h2 h7 h8 hN
    · exact s10_8 hops A B C g n na nb nc ca cb cc xd xa xb xc la lb lc ds hca hcb hcc hd hla hlb hlc od oa ob oc heq hlt a w hA' hB' hC' hD' h0 h1 h2 h7 h8 hN
    · exact s10_9 hops A B C g n na nb nc ca cb cc xd xa xb xc la lb lc ds hca hcb hcc hd hla hlb hlc od oa ob oc heq hlt a w hA' hB' hC' hD' h0 h1 h2 h7 h8 hN
    · exact s10_10 hops A B C g n na nb nc ca cb cc xd xa xb xc la lb lc ds hca hcb hcc hd hla hlb hlc od oa ob oc heq hlt a w hA' hB' hC' hD' h0 h1 h2 h7 h8 hN
    · exact s10_11 hops A B C g n na nb nc ca cb cc xd xa xb xc la lb lc ds hca hcb hcc hd hla hlb hlc od oa ob oc heq hlt a w hA' hB' hC' hD' h0 h1 h2 h7 h8 hN
    · exact s10_12 hops A B C g n na nb nc ca cb cc xd xa xb xc la lb lc ds hca hcb hcc hd hla hlb hlc od oa ob oc heq hlt a w hA' hB' hC' hD' h0 h1 h2 h7 h8 hN
    · exact s10_13 hops A B C g n na nb nc ca cb cc xd xa xb xc la lb lc ds hca hcb hcc hd hla hlb hlc od oa ob oc heq hlt a w hA' hB' hC' hD' h0 h1 h2 h7 h8 hN
    · exact s10_14 hops A B C g n na nb nc ca cb cc xd xa xb xc la lb lc ds hca hcb hcc hd hla hlb hlc od oa ob oc heq hlt a w hA' hB' hC' hD' h0 h1 h2 h7 h8 hN
    · exact s10_15 hops A B C g n na nb nc ca cb cc xd xa xb xc la lb lc ds hca hcb hcc hd hla hlb hlc od oa ob oc heq hlt a w hA' hB' hC' hD' h0 h1 h2 h7 h8 hN
    · exact s10_16 hops A B C g n na nb nc ca cb cc xd xa xb xc la lb lc ds hca hcb hcc hd hla hlb hlc od oa ob oc heq hlt a w hA' hB' hC' hD' h0 h1 h2 h7 h8 hN
    · exact s10_17 hops A B C g n na nb nc ca cb cc xd xa xb xc la lb lc ds hca hcb hcc hd hla hlb hlc od oa ob oc heq hlt a w hA' hB' hC' hD' h0 h1 h2 h7 h8 hN
    · exact s10_18 hops A B C g n na nb nc ca cb cc xd xa xb xc la lb lc ds hca hcb hcc hd hla hlb hlc od oa ob oc heq hlt a w hA' hB' hC' hD' h0 h1 h2 h7 h8 hN
    · exact s10_19 hops A B C g n na nb nc ca cb cc xd xa xb xc la lb lc ds hca hcb hcc hd hla hlb hlc od oa ob oc heq hlt a w hA' hB' hC' hD' h0 h1 h2 h7 h8 hN
    · exact s10_20 hops A B C g n na nb nc ca cb cc xd xa xb xc la lb lc ds hca hcb hcc hd hla hlb hlc od oa ob oc heq hlt a w hA' hB' hC' hD' h0 h1 h2 h7 h8 hN
    · exact s10_21 hops A B C g n na nb nc ca cb cc xd xa xb xc la lb lc ds hca hcb hcc hd hla hlb hlc od oa ob oc heq hlt a w hA' hB' hC' hD' h0 h1 h2 h7 h8 hN
  · intro a w hA hF hB
    exact hQ a w hA (hF 21 (by omega)) hB
end Go.Proofs.Ytppjhekjcoogoaa.PCrc
