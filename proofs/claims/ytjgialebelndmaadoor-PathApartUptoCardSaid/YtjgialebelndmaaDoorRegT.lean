/- path.text: the region of the two digits. -/
import Derived.Test.YtjgialebelndmaaDoorTxt
import Derived.Test.YtjgialebelndmaaDoorReg
namespace Go.Proofs.YtjgialebelndmaaDoor.PF
open Go.RowKit Go.Proofs.YtjgialebelndmaaDoorW.PrintWords Go.Proofs.YtjgialebelndmaaDoorW.PrintLast Go.Proofs.YtjgialebelndmaaDoorW.PrintMore
open Go.Shelf
set_option linter.unusedVariables false
set_option linter.unusedSimpArgs false
set_option maxHeartbeats 4000000
set_option maxRecDepth 100000

open Go.Proofs Go.Lib Go.Proofs.YtjgialebelndmaaDoor.Reg
def dstT (i : Nat) : Nat := ([19, 20, 21, 22, 23, 24, 25, 26, 6, 7] : List Nat).getD i 0
def ndT : List (List Nat) := [[], [0], [1], [2, 2], [], [4], [5, 3], [6, 6], [3, 7, 0, 1, 2, 3], [7, 8, 0, 1, 2, 3, 4, 5, 6, 7, 8]]
def FT (z : ByteArray) (x y : UInt8) : Nat → Value → World → Prop
  | 0, v, w => v = .string z
  | 1, v, w => v = .int .u8 (x.toNat : Int)
  | 2, v, w => v = .int .u8 ((tr 97 122 x).toNat : Int)
  | 3, v, w => v = .int .i64 (dg x)
  | 4, v, w => v = .string z
  | 5, v, w => v = .int .u8 (y.toNat : Int)
  | 6, v, w => v = .int .u8 ((tr 97 122 y).toNat : Int)
  | 7, v, w => v = .int .i64 (dg y)
  | 8, v, w => v = .int .i64 (dg x)
  | 9, v, w => v = .int .i64 (dg y)
  | _, _, _ => True
theorem sT_0 {ops : Array Oper} {Q : Exit → Act → World → Prop} (hops : ops = opsOf Tryd.f23 8) (z : ByteArray) (x y : UInt8) (g0 : 0 < z.size) (g1 : 1 < z.size) (z0 : z[0]'g0 = x) (z1 : z[1]'g1 = y) (a : Act) (w : World)  (h0 : a.tmps[0]?.getD undef = .string z)
    (hN : ∀ j, j ∈ ndT.getD 0 [] → FT z x y j (a.tmps[dstT j]?.getD undef) w) : wpOp Tryd.prog ops Q 0 (fun a' w' => ∃ v, a' = a.put (some (dstT 0)) v ∧ FT z x y 0 v w' ∧ Below w.heap.size w w') a w := by
  subst hops
  have ho : (opsOf Tryd.f23 8)[0]? = some ({ dst := some 19, op := Go.Op.move (Go.Operand.tmp 0), type := 9, pos := "path.go:51", after := #[], guard := none } : Oper) := by kernel_rfl
  refine wpOp_plain ho rfl ?_
  clear hN ho
  go_simp
  exact ⟨_, rfl, rfl, Below.refl _ _⟩
theorem sT_1 {ops : Array Oper} {Q : Exit → Act → World → Prop} (hops : ops = opsOf Tryd.f23 8) (z : ByteArray) (x y : UInt8) (g0 : 0 < z.size) (g1 : 1 < z.size) (z0 : z[0]'g0 = x) (z1 : z[1]'g1 = y) (a : Act) (w : World)  (h0 : a.tmps[0]?.getD undef = .string z)
    (hN : ∀ j, j ∈ ndT.getD 1 [] → FT z x y j (a.tmps[dstT j]?.getD undef) w) : wpOp Tryd.prog ops Q 1 (fun a' w' => ∃ v, a' = a.put (some (dstT 1)) v ∧ FT z x y 1 v w' ∧ Below w.heap.size w w') a w := by
  subst hops
  have n0 : a.tmps[19]?.getD undef = .string z := hN 0 (by decide)
  have ho : (opsOf Tryd.f23 8)[1]? = some ({ dst := some 20, op := Go.Op.index 9 (Go.Operand.tmp 19) (Go.Operand.const (Go.Value.int Go.IntKind.i64 0)), type := 5, pos := "path.go:51", after := #[{ on := 0, ground := Go.Ground.data }], guard := none } : Oper) := by kernel_rfl
  refine wpOp_plain ho rfl ?_
  clear hN ho
  go_simp
  exact ⟨_, rfl, rfl, Below.refl _ _⟩
theorem sT_2 {ops : Array Oper} {Q : Exit → Act → World → Prop} (hops : ops = opsOf Tryd.f23 8) (z : ByteArray) (x y : UInt8) (g0 : 0 < z.size) (g1 : 1 < z.size) (z0 : z[0]'g0 = x) (z1 : z[1]'g1 = y) (a : Act) (w : World)  (h0 : a.tmps[0]?.getD undef = .string z)
    (hN : ∀ j, j ∈ ndT.getD 2 [] → FT z x y j (a.tmps[dstT j]?.getD undef) w) : wpOp Tryd.prog ops Q 2 (fun a' w' => ∃ v, a' = a.put (some (dstT 2)) v ∧ FT z x y 2 v w' ∧ Below w.heap.size w w') a w := by
  subst hops
  have n1 : a.tmps[20]?.getD undef = .int .u8 (x.toNat : Int) := hN 1 (by decide)
  have ho : (opsOf Tryd.f23 8)[2]? = some ({ dst := some 21, op := Go.Op.call { callee := Go.Callee.value (Go.Operand.func 30), args := #[Go.Operand.tmp 20], argTypes := #[5] }, type := 5, pos := "path.go:51", after := #[{ on := 1, ground := Go.Ground.data }], guard := none } : Oper) := by kernel_rfl
  refine wpOp_plain ho rfl ?_
  clear hN ho
  have HH := Aside0.mk (path_upper_calls x w)
  go_simp
  refine HH.out.mono ?_
  rintro e w' ⟨rfl, hb⟩
  exact ⟨_, rfl, rfl, hb⟩
theorem sT_3 {ops : Array Oper} {Q : Exit → Act → World → Prop} (hops : ops = opsOf Tryd.f23 8) (z : ByteArray) (x y : UInt8) (g0 : 0 < z.size) (g1 : 1 < z.size) (z0 : z[0]'g0 = x) (z1 : z[1]'g1 = y) (a : Act) (w : World)  (h0 : a.tmps[0]?.getD undef = .string z)
    (hN : ∀ j, j ∈ ndT.getD 3 [] → FT z x y j (a.tmps[dstT j]?.getD undef) w) : wpOp Tryd.prog ops Q 3 (fun a' w' => ∃ v, a' = a.put (some (dstT 3)) v ∧ FT z x y 3 v w' ∧ Below w.heap.size w w') a w := by
  subst hops
  have n2 : a.tmps[21]?.getD undef = .int .u8 ((tr 97 122 x).toNat : Int) := hN 2 (by decide)
  have ho : (opsOf Tryd.f23 8)[3]? = some ({ dst := some 22, op := Go.Op.call { callee := Go.Callee.value (Go.Operand.func 26), args := #[Go.Operand.const (Go.Value.string { data := #[48, 49, 50, 51, 52, 53, 54, 55, 56, 57, 65, 66, 67, 68, 69, 70] }), Go.Operand.tmp 21], argTypes := #[9, 5] }, type := 3, pos := "path.go:51", after := #[{ on := 2, ground := Go.Ground.data }, { on := 2, ground := Go.Ground.chain }], guard := none } : Oper) := by kernel_rfl
  refine wpOp_plain ho rfl ?_
  clear hN ho
  have HH := Aside0.mk (digit_calls x w)
  go_simp
  refine HH.out.mono ?_
  rintro e w' ⟨rfl, hb⟩
  exact ⟨_, rfl, rfl, hb⟩
theorem sT_4 {ops : Array Oper} {Q : Exit → Act → World → Prop} (hops : ops = opsOf Tryd.f23 8) (z : ByteArray) (x y : UInt8) (g0 : 0 < z.size) (g1 : 1 < z.size) (z0 : z[0]'g0 = x) (z1 : z[1]'g1 = y) (a : Act) (w : World)  (h0 : a.tmps[0]?.getD undef = .string z)
    (hN : ∀ j, j ∈ ndT.getD 4 [] → FT z x y j (a.tmps[dstT j]?.getD undef) w) : wpOp Tryd.prog ops Q 4 (fun a' w' => ∃ v, a' = a.put (some (dstT 4)) v ∧ FT z x y 4 v w' ∧ Below w.heap.size w w') a w := by
  subst hops
  have ho : (opsOf Tryd.f23 8)[4]? = some ({ dst := some 23, op := Go.Op.move (Go.Operand.tmp 0), type := 9, pos := "path.go:51", after := #[], guard := none } : Oper) := by kernel_rfl
  refine wpOp_plain ho rfl ?_
  clear hN ho
  go_simp
  exact ⟨_, rfl, rfl, Below.refl _ _⟩
theorem sT_5 {ops : Array Oper} {Q : Exit → Act → World → Prop} (hops : ops = opsOf Tryd.f23 8) (z : ByteArray) (x y : UInt8) (g0 : 0 < z.size) (g1 : 1 < z.size) (z0 : z[0]'g0 = x) (z1 : z[1]'g1 = y) (a : Act) (w : World)  (h0 : a.tmps[0]?.getD undef = .string z)
    (hN : ∀ j, j ∈ ndT.getD 5 [] → FT z x y j (a.tmps[dstT j]?.getD undef) w) : wpOp Tryd.prog ops Q 5 (fun a' w' => ∃ v, a' = a.put (some (dstT 5)) v ∧ FT z x y 5 v w' ∧ Below w.heap.size w w') a w := by
  subst hops
  have n4 : a.tmps[23]?.getD undef = .string z := hN 4 (by decide)
  have ho : (opsOf Tryd.f23 8)[5]? = some ({ dst := some 24, op := Go.Op.index 9 (Go.Operand.tmp 23) (Go.Operand.const (Go.Value.int Go.IntKind.i64 1)), type := 5, pos := "path.go:51", after := #[{ on := 4, ground := Go.Ground.data }], guard := none } : Oper) := by kernel_rfl
  refine wpOp_plain ho rfl ?_
  clear hN ho
  have gq : ((1 : Int) < (z.size : Int)) = True := eq_true (by omega)
  go_simp
  exact ⟨_, rfl, rfl, Below.refl _ _⟩
theorem sT_6 {ops : Array Oper} {Q : Exit → Act → World → Prop} (hops : ops = opsOf Tryd.f23 8) (z : ByteArray) (x y : UInt8) (g0 : 0 < z.size) (g1 : 1 < z.size) (z0 : z[0]'g0 = x) (z1 : z[1]'g1 = y) (a : Act) (w : World)  (h0 : a.tmps[0]?.getD undef = .string z)
    (hN : ∀ j, j ∈ ndT.getD 6 [] → FT z x y j (a.tmps[dstT j]?.getD undef) w) : wpOp Tryd.prog ops Q 6 (fun a' w' => ∃ v, a' = a.put (some (dstT 6)) v ∧ FT z x y 6 v w' ∧ Below w.heap.size w w') a w := by
  subst hops
  have n3 : a.tmps[22]?.getD undef = .int .i64 (dg x) := hN 3 (by decide)
  have n5 : a.tmps[24]?.getD undef = .int .u8 (y.toNat : Int) := hN 5 (by decide)
  have ho : (opsOf Tryd.f23 8)[6]? = some ({ dst := some 25, op := Go.Op.call { callee := Go.Callee.value (Go.Operand.func 30), args := #[Go.Operand.tmp 24], argTypes := #[5] }, type := 5, pos := "path.go:51", after := #[{ on := 5, ground := Go.Ground.data }, { on := 3, ground := Go.Ground.chain }], guard := none } : Oper) := by kernel_rfl
  refine wpOp_plain ho rfl ?_
  clear hN ho
  have HH := Aside0.mk (path_upper_calls y w)
  go_simp
  refine HH.out.mono ?_
  rintro e w' ⟨rfl, hb⟩
  exact ⟨_, rfl, rfl, hb⟩
theorem sT_7 {ops : Array Oper} {Q : Exit → Act → World → Prop} (hops : ops = opsOf Tryd.f23 8) (z : ByteArray) (x y : UInt8) (g0 : 0 < z.size) (g1 : 1 < z.size) (z0 : z[0]'g0 = x) (z1 : z[1]'g1 = y) (a : Act) (w : World)  (h0 : a.tmps[0]?.getD undef = .string z)
    (hN : ∀ j, j ∈ ndT.getD 7 [] → FT z x y j (a.tmps[dstT j]?.getD undef) w) : wpOp Tryd.prog ops Q 7 (fun a' w' => ∃ v, a' = a.put (some (dstT 7)) v ∧ FT z x y 7 v w' ∧ Below w.heap.size w w') a w := by
  subst hops
  have n6 : a.tmps[25]?.getD undef = .int .u8 ((tr 97 122 y).toNat : Int) := hN 6 (by decide)
  have ho : (opsOf Tryd.f23 8)[7]? = some ({ dst := some 26, op := Go.Op.call { callee := Go.Callee.value (Go.Operand.func 26), args := #[Go.Operand.const (Go.Value.string { data := #[48, 49, 50, 51, 52, 53, 54, 55, 56, 57, 65, 66, 67, 68, 69, 70] }), Go.Operand.tmp 25], argTypes := #[9, 5] }, type := 3, pos := "path.go:51", after := #[{ on := 6, ground := Go.Ground.data }, { on := 6, ground := Go.Ground.chain }], guard := none } : Oper) := by kernel_rfl
  refine wpOp_plain ho rfl ?_
  clear hN ho
  have HH := Aside0.mk (digit_calls y w)
  go_simp
  refine HH.out.mono ?_
  rintro e w' ⟨rfl, hb⟩
  exact ⟨_, rfl, rfl, hb⟩
theorem sT_8 {ops : Array Oper} {Q : Exit → Act → World → Prop} (hops : ops = opsOf Tryd.f23 8) (z : ByteArray) (x y : UInt8) (g0 : 0 < z.size) (g1 : 1 < z.size) (z0 : z[0]'g0 = x) (z1 : z[1]'g1 = y) (a : Act) (w : World)  (h0 : a.tmps[0]?.getD undef = .string z)
    (hN : ∀ j, j ∈ ndT.getD 8 [] → FT z x y j (a.tmps[dstT j]?.getD undef) w) : wpOp Tryd.prog ops Q 8 (fun a' w' => ∃ v, a' = a.put (some (dstT 8)) v ∧ FT z x y 8 v w' ∧ Below w.heap.size w w') a w := by
  subst hops
  have n0 : a.tmps[19]?.getD undef = .string z := hN 0 (by decide)
  have n1 : a.tmps[20]?.getD undef = .int .u8 (x.toNat : Int) := hN 1 (by decide)
  have n2 : a.tmps[21]?.getD undef = .int .u8 ((tr 97 122 x).toNat : Int) := hN 2 (by decide)
  have n3 : a.tmps[22]?.getD undef = .int .i64 (dg x) := hN 3 (by decide)
  have n7 : a.tmps[26]?.getD undef = .int .i64 (dg y) := hN 7 (by decide)
  have ho : (opsOf Tryd.f23 8)[8]? = some ({ dst := some 6, op := Go.Op.assign (Go.Operand.tmp 22), type := 3, pos := "path.go:51", after := #[{ on := 3, ground := Go.Ground.data }, { on := 7, ground := Go.Ground.chain }, { on := 0, ground := Go.Ground.phase }, { on := 1, ground := Go.Ground.phase }, { on := 2, ground := Go.Ground.phase }, { on := 3, ground := Go.Ground.phase }, { on := 4, ground := Go.Ground.textOnly Go.Departure.lateStores }, { on := 5, ground := Go.Ground.textOnly Go.Departure.lateStores }, { on := 6, ground := Go.Ground.textOnly Go.Departure.lateStoresUnsure }, { on := 7, ground := Go.Ground.textOnly Go.Departure.lateStoresUnsure }], guard := none } : Oper) := by kernel_rfl
  refine wpOp_plain ho rfl ?_
  clear hN ho
  go_simp
  exact ⟨_, rfl, rfl, Below.refl _ _⟩
theorem sT_9 {ops : Array Oper} {Q : Exit → Act → World → Prop} (hops : ops = opsOf Tryd.f23 8) (z : ByteArray) (x y : UInt8) (g0 : 0 < z.size) (g1 : 1 < z.size) (z0 : z[0]'g0 = x) (z1 : z[1]'g1 = y) (a : Act) (w : World)  (h0 : a.tmps[0]?.getD undef = .string z)
    (hN : ∀ j, j ∈ ndT.getD 9 [] → FT z x y j (a.tmps[dstT j]?.getD undef) w) : wpOp Tryd.prog ops Q 9 (fun a' w' => ∃ v, a' = a.put (some (dstT 9)) v ∧ FT z x y 9 v w' ∧ Below w.heap.size w w') a w := by
  subst hops
  have n0 : a.tmps[19]?.getD undef = .string z := hN 0 (by decide)
  have n1 : a.tmps[20]?.getD undef = .int .u8 (x.toNat : Int) := hN 1 (by decide)
  have n2 : a.tmps[21]?.getD undef = .int .u8 ((tr 97 122 x).toNat : Int) := hN 2 (by decide)
  have n3 : a.tmps[22]?.getD undef = .int .i64 (dg x) := hN 3 (by decide)
  have n4 : a.tmps[23]?.getD undef = .string z := hN 4 (by decide)
  have n5 : a.tmps[24]?.getD undef = .int .u8 (y.toNat : Int) := hN 5 (by decide)
  have n6 : a.tmps[25]?.getD undef = .int .u8 ((tr 97 122 y).toNat : Int) := hN 6 (by decide)
  have n7 : a.tmps[26]?.getD undef = .int .i64 (dg y) := hN 7 (by decide)
  have n8 : a.tmps[6]?.getD undef = .int .i64 (dg x) := hN 8 (by decide)
  have ho : (opsOf Tryd.f23 8)[9]? = some ({ dst := some 7, op := Go.Op.assign (Go.Operand.tmp 26), type := 3, pos := "path.go:51", after := #[{ on := 7, ground := Go.Ground.data }, { on := 8, ground := Go.Ground.chain }, { on := 0, ground := Go.Ground.phase }, { on := 1, ground := Go.Ground.phase }, { on := 2, ground := Go.Ground.phase }, { on := 3, ground := Go.Ground.phase }, { on := 4, ground := Go.Ground.phase }, { on := 5, ground := Go.Ground.phase }, { on := 6, ground := Go.Ground.phase }, { on := 7, ground := Go.Ground.phase }, { on := 8, ground := Go.Ground.phase }], guard := none } : Oper) := by kernel_rfl
  refine wpOp_plain ho rfl ?_
  clear hN ho
  go_simp
  exact ⟨_, rfl, rfl, Below.refl _ _⟩
def dOT (i : Nat) : Option Nat := some (dstT i)
theorem regionT {ops : Array Oper} {Q : Exit → Act → World → Prop} (hops : ops = opsOf Tryd.f23 8) {id_ : Nat} (z : ByteArray) (x y : UInt8) (g0 : 0 < z.size) (g1 : 1 < z.size) (z0 : z[0]'g0 = x) (z1 : z[1]'g1 = y) (a0 : Act) (w0 : World) (hsz : a0.tmps.size = 49) (h0 : a0.tmps[0]?.getD undef = .string z)
    (hQ : ∀ w, Below w0.heap.size w0 w → Q .normal ((((((((((a0.put (some 19) (.string z)).put (some 20) (.int .u8 (x.toNat : Int))).put (some 21) (.int .u8 ((tr 97 122 x).toNat : Int))).put (some 22) (.int .i64 (dg x))).put (some 23) (.string z)).put (some 24) (.int .u8 (y.toNat : Int))).put (some 25) (.int .u8 ((tr 97 122 y).toNat : Int))).put (some 26) (.int .i64 (dg y))).put (some 6) (.int .i64 (dg x))).put (some 7) (.int .i64 (dg y))) w) : (Code.region id_ ops true).wp Tryd.prog Q a0 w0 := by
  refine region_facts (n := 10) dstT (FT z x y) ndT (by kernel_rfl) (by rw [hops]; kernel_rfl) ?_ ?_ (fun j v w w' _ h hb => by unfold FT at h ⊢; split <;> simp_all) (by rw [hops]; kernel_rfl) (by decide) ?_ ?_
  · have h : ∀ i, i < 10 → ∀ j, j < 10 → dstT i = dstT j → i = j := by decide
    exact fun i j hi hj => h i hi j hj
  · have h : ∀ i, i < 10 → dstT i < 49 := by decide
    rw [hsz]; exact h
  · intro i a w hi hA hN hB
    have h0 := (hA.old 0 (by decide)).trans h0
    have hi' : i = 0 ∨ i = 1 ∨ i = 2 ∨ i = 3 ∨ i = 4 ∨ i = 5 ∨ i = 6 ∨ i = 7 ∨ i = 8 ∨ i = 9 := by omega
    rcases hi' with rfl | rfl | rfl | rfl | rfl | rfl | rfl | rfl | rfl | rfl
    · exact sT_0 hops z x y g0 g1 z0 z1 a w h0 hN
    · exact sT_1 hops z x y g0 g1 z0 z1 a w h0 hN
    · exact sT_2 hops z x y g0 g1 z0 z1 a w h0 hN
    · exact sT_3 hops z x y g0 g1 z0 z1 a w h0 hN
    · exact sT_4 hops z x y g0 g1 z0 z1 a w h0 hN
    · exact sT_5 hops z x y g0 g1 z0 z1 a w h0 hN
    · exact sT_6 hops z x y g0 g1 z0 z1 a w h0 hN
    · exact sT_7 hops z x y g0 g1 z0 z1 a w h0 hN
    · exact sT_8 hops z x y g0 g1 z0 z1 a w h0 hN
    · exact sT_9 hops z x y g0 g1 z0 z1 a w h0 hN
  · intro a w hA hF hB
    have hAO : AgreeO 10 dOT a0 a := ⟨hA.defers, hA.size, fun s hs => hA.old s (fun i hi h => hs i hi (by show some (dstT i) = _; rw [h]))⟩
    have hfr := hAO.frame (fun i hi d hd => by
      have h : ∀ i, i < 10 → dstT i < 49 := by decide
      have h1 := h i hi
      have h2 : dstT i = d := Option.some.inj hd
      rw [hsz, ← h2]; exact h1)
    have e0 : slotO dOT a 0 = .string z := hF 0 (by decide)
    have e1 : slotO dOT a 1 = .int .u8 (x.toNat : Int) := hF 1 (by decide)
    have e2 : slotO dOT a 2 = .int .u8 ((tr 97 122 x).toNat : Int) := hF 2 (by decide)
    have e3 : slotO dOT a 3 = .int .i64 (dg x) := hF 3 (by decide)
    have e4 : slotO dOT a 4 = .string z := hF 4 (by decide)
    have e5 : slotO dOT a 5 = .int .u8 (y.toNat : Int) := hF 5 (by decide)
    have e6 : slotO dOT a 6 = .int .u8 ((tr 97 122 y).toNat : Int) := hF 6 (by decide)
    have e7 : slotO dOT a 7 = .int .i64 (dg y) := hF 7 (by decide)
    have e8 : slotO dOT a 8 = .int .i64 (dg x) := hF 8 (by decide)
    have e9 : slotO dOT a 9 = .int .i64 (dg y) := hF 9 (by decide)
    rw [hfr]
    show Q .normal (foldO dOT a [0, 1, 2, 3, 4, 5, 6, 7, 8, 9] a0) w
    simp only [foldO, e0, e1, e2, e3, e4, e5, e6, e7, e8, e9]
    exact hQ w hB
end Go.Proofs.YtjgialebelndmaaDoor.PF
