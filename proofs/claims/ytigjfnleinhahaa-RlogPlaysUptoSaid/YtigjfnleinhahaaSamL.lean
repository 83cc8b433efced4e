/- A log, as the document has it: the regions of same. -/
import Derived.Test.YtigjfnleinhahaaReg2
import Derived.Test.YtigjfnleinhahaaSpoil
import Derived.Test.YtigjfnleinhahaaHintX
import Derived.Test.YtigjfnleinhahaaSameH
import Derived.Test.YtigjfnleinhahaaFirst
import Derived.Test.YtigjfnleinhahaaMergeX

namespace Go.Proofs.Ytigjfnleinhahaa.PLog
open Go.RowKit Go.Proofs.YtigjfnleinhahaaW.PrintWords Go.Proofs.YtigjfnleinhahaaW.PrintLast Go.Proofs.YtigjfnleinhahaaW.PrintMore
open Go.Proofs.Ytigjfnleinhahaa.Reg
set_option linter.unusedVariables false
set_option linter.unusedSimpArgs false
set_option maxHeartbeats 4000000
set_option maxRecDepth 100000

def EntAt (w : World) (es : List S60) (q : Nat) (v : Value) : Prop := ∃ ad : Addr, v = .pointer (some (ad.add (q * 14))) ∧ Kd.C k60 w (some ad) es.length es
theorem EntAt.mk {w : World} {es : List S60} {ad : Addr} (q : Nat) (h : Kd.C k60 w (some ad) es.length es) : EntAt w es q (.pointer (some (ad.add (q * 14)))) := ⟨ad, rfl, h⟩
theorem EntAt.out {w : World} {es : List S60} {q : Nat} {v : Value} (h : EntAt w es q v) : ∃ ad : Addr, v = .pointer (some (ad.add (q * 14))) ∧ Kd.C k60 w (some ad) es.length es := h
theorem EntAt.below {w w' : World} {es : List S60} {q : Nat} {v : Value} (h : EntAt w es q v) (hb : Below w.heap.size w w') : EntAt w' es q v := by
  obtain ⟨ad, hv, hC⟩ := h
  exact ⟨ad, hv, Kd.C_below hC hb⟩
def dstP (i : Nat) : Option Nat := ([some 32, some 33, some 34, some 35, some 36, some 37, some 38, some 39, some 40, some 41, some 42, some 43, some 44, some 45, some 46] : List (Option Nat)).getD i none
def ndP : List (List Nat) := [[], [], [1], [2], [3], [], [5], [6], [7], [8], [], [10], [0, 4, 9, 11], [12], []]
def usP : List (List Nat) := [[], [], [1], [2], [3], [], [5], [6], [7], [8], [], [10], [0, 4, 9, 11], [12], []]
def ncP : List (List Nat) := [[], [], [1], [1, 2], [1, 2, 3], [], [5], [5, 6], [5, 6, 7], [5, 6, 7, 8], [], [10], [0, 1, 2, 3, 4, 5, 6, 7, 8, 9, 10, 11], [0, 1, 2, 3, 4, 5, 6, 7, 8, 9, 10, 11, 12], []]
def killP (h j : Nat) : Bool := (false)
def killIP (h j : Nat) : Bool := (false)
def useIP (h j : Nat) : Bool := ((h == 4 && [0].contains j) || (h == 8 && [0].contains j) || (h == 11 && [0].contains j))
def IP (w0 : World) (ok1 ok2 : Nat → Prop) (g1 g2 : Nat) (bs t : Int) (es : List S60) (hb0 : 0 ≤ bs) (hb1 : bs + es.length ≤ 4611686018427387904) (x : Int) : Nat → World → Prop
  | 0, w => Log w ok1 g1 bs t es ∧ LogX w ok2 g2 bs t es ∧ Below w0.heap.size w0 w
  | _, _ => True
def FP (w0 : World) (ok1 ok2 : Nat → Prop) (g1 g2 : Nat) (bs t : Int) (es : List S60) (hb0 : 0 ≤ bs) (hb1 : bs + es.length ≤ 4611686018427387904) (x : Int) : Nat → Value → World → Prop
  | 0, v, w => v = .int .i64 x
  | 1, v, w => v = .pointer (some ⟨g2, 0, none⟩)
  | 2, v, w => v = .pointer (some ⟨g2, 0, none⟩)
  | 3, v, w => v = .pointer (some ⟨g2, 0, none⟩)
  | 4, v, w => v = .int .i64 bs
  | 5, v, w => v = .pointer (some ⟨g2, 0, none⟩)
  | 6, v, w => v = .pointer (some ⟨g2, 0, none⟩)
  | 7, v, w => v = .pointer (some ⟨g2, 0, none⟩)
  | 8, v, w => v = .int .i64 bs
  | 9, v, w => v = .int .i64 (bs + 1)
  | 10, v, w => v = .pointer (some ⟨g2, 0, none⟩)
  | 11, v, w => v = .int .i64 (bs + es.length)
  | 12, v, w => ∃ g, v = .slice (some ⟨g, 0, none⟩) 4 4 ∧ (Kd.int .i64).C w (some ⟨g, 0, none⟩) 4 [x, bs, bs + 1, bs + es.length]
  | 13, v, w => v = .int .i64 4
  | 14, v, w => v = .int .i64 0
  | _, _, _ => True
def StP (i_ : Nat) : Prop := ∀ (ops : Array Oper) (Q : Exit → Act → World → Prop) (hops : ops = opsOf Try.f26 3) (w0 : World) (ok1 ok2 : Nat → Prop) (g1 g2 : Nat) (bs t : Int) (es : List S60) (hb0 : 0 ≤ bs) (hb1 : bs + es.length ≤ 4611686018427387904) (x : Int) (a : Act) (w : World) (h0 : a.tmps[0]?.getD undef = .pointer (some ⟨g1, 0, none⟩)) (h1 : a.tmps[1]?.getD undef = .pointer (some ⟨g2, 0, none⟩)) (h2 : a.tmps[2]?.getD undef = .int .i64 x)
    (hN : ∀ j, j ∈ usP.getD i_ [] → FP w0 ok1 ok2 g1 g2 bs t es hb0 hb1 x j (slotO dstP a j) w) (hI : ∀ c, c < 1 → useIP i_ c = true → IP w0 ok1 ok2 g1 g2 bs t es hb0 hb1 x c w), wpOp Try.prog ops Q i_ (fun a' w' => ∃ v, a' = a.put (dstP i_) v ∧ FP w0 ok1 ok2 g1 g2 bs t es hb0 hb1 x i_ (valO dstP i_ v) w' ∧ (Below w.heap.size w w' ∨ ((∀ j u, j < 15 → j ≠ i_ → killP i_ j = false → (ncP.getD j []).contains i_ = false → FP w0 ok1 ok2 g1 g2 bs t es hb0 hb1 x j u w → FP w0 ok1 ok2 g1 g2 bs t es hb0 hb1 x j u w') ∧ (∀ c, c < 1 → killIP i_ c = false → IP w0 ok1 ok2 g1 g2 bs t es hb0 hb1 x c w → IP w0 ok1 ok2 g1 g2 bs t es hb0 hb1 x c w')))) a w
theorem sP_0 : StP 0 := by
  intro ops Q hops w0 ok1 ok2 g1 g2 bs t es hb0 hb1 x a w h0 h1 h2 hN hI
  subst hops
  have ho : (opsOf Try.f26 3)[0]? = some (⟨some 32, .move (.tmp 2), 3, "law.go:65", #[], none⟩ : Oper) := by kernel_rfl
  refine wpOp_plain ho rfl ?_
  clear hN hI ho
  go_simp
  first | exact ⟨_, rfl, rfl⟩ | exact ⟨_, rfl, rfl, .inl (Below.refl _ _)⟩
theorem sP_1 : StP 1 := by
  intro ops Q hops w0 ok1 ok2 g1 g2 bs t es hb0 hb1 x a w h0 h1 h2 hN hI
  subst hops
  have ho : (opsOf Try.f26 3)[1]? = some (⟨some 33, .move (.tmp 1), 45, "law.go:65", #[], none⟩ : Oper) := by kernel_rfl
  refine wpOp_plain ho rfl ?_
  clear hN hI ho
  go_simp
  first | exact ⟨_, rfl, rfl⟩ | exact ⟨_, rfl, rfl, .inl (Below.refl _ _)⟩
theorem sP_2 : StP 2 := by
  intro ops Q hops w0 ok1 ok2 g1 g2 bs t es hb0 hb1 x a w h0 h1 h2 hN hI
  subst hops
  have n1 : a.tmps[33]?.getD undef = .pointer (some ⟨g2, 0, none⟩) := hN 1 (by decide)
  have ho : (opsOf Try.f26 3)[2]? = some (⟨some 34, .nilCheck (.tmp 33), 0, "law.go:65", #[⟨1, .data⟩], none⟩ : Oper) := by kernel_rfl
  refine wpOp_plain ho rfl ?_
  clear hN hI ho
  go_simp
  first | exact ⟨_, rfl, rfl⟩ | exact ⟨_, rfl, rfl, .inl (Below.refl _ _)⟩
theorem sP_3 : StP 3 := by
  intro ops Q hops w0 ok1 ok2 g1 g2 bs t es hb0 hb1 x a w h0 h1 h2 hN hI
  subst hops
  have n2 : a.tmps[34]?.getD undef = .pointer (some ⟨g2, 0, none⟩) := hN 2 (by decide)
  have ho : (opsOf Try.f26 3)[3]? = some (⟨some 35, .fieldAddr 47 (.tmp 34) 0, 0, "law.go:65", #[⟨2, .data⟩], none⟩ : Oper) := by kernel_rfl
  refine wpOp_plain ho rfl ?_
  clear hN hI ho
  go_simp
  first | exact ⟨_, rfl, rfl⟩ | exact ⟨_, rfl, rfl, .inl (Below.refl _ _)⟩
theorem sP_4 : StP 4 := by
  intro ops Q hops w0 ok1 ok2 g1 g2 bs t es hb0 hb1 x a w h0 h1 h2 hN hI
  subst hops
  have n3 : a.tmps[35]?.getD undef = .pointer (some ⟨g2, 0, none⟩) := hN 3 (by decide)
  have hi0 : (fun (w : World) => Log w ok1 g1 bs t es ∧ LogX w ok2 g2 bs t es ∧ Below w0.heap.size w0 w) w := hI 0 (by decide) (by decide)
  have ho : (opsOf Try.f26 3)[4]? = some (⟨some 36, .load 3 (.tmp 35), 3, "law.go:65", #[⟨3, .data⟩], none⟩ : Oper) := by kernel_rfl
  refine wpOp_plain ho rfl ?_
  clear hN hI ho
  have hc : w.cell? ⟨g2, 0, none⟩ = some (.int .i64 bs) := by
    obtain ⟨_, v0, hh, hR⟩ := hi0.2.1
    simp [World.cell?, hh]
  clear hi0
  go_simp
  first | exact ⟨_, rfl, rfl⟩ | exact ⟨_, rfl, rfl, .inl (Below.refl _ _)⟩
theorem sP_5 : StP 5 := by
  intro ops Q hops w0 ok1 ok2 g1 g2 bs t es hb0 hb1 x a w h0 h1 h2 hN hI
  subst hops
  have ho : (opsOf Try.f26 3)[5]? = some (⟨some 37, .move (.tmp 1), 45, "law.go:65", #[], none⟩ : Oper) := by kernel_rfl
  refine wpOp_plain ho rfl ?_
  clear hN hI ho
  go_simp
  first | exact ⟨_, rfl, rfl⟩ | exact ⟨_, rfl, rfl, .inl (Below.refl _ _)⟩
theorem sP_6 : StP 6 := by
  intro ops Q hops w0 ok1 ok2 g1 g2 bs t es hb0 hb1 x a w h0 h1 h2 hN hI
  subst hops
  have n5 : a.tmps[37]?.getD undef = .pointer (some ⟨g2, 0, none⟩) := hN 5 (by decide)
  have ho : (opsOf Try.f26 3)[6]? = some (⟨some 38, .nilCheck (.tmp 37), 0, "law.go:65", #[⟨5, .data⟩], none⟩ : Oper) := by kernel_rfl
  refine wpOp_plain ho rfl ?_
  clear hN hI ho
  go_simp
  first | exact ⟨_, rfl, rfl⟩ | exact ⟨_, rfl, rfl, .inl (Below.refl _ _)⟩
theorem sP_7 : StP 7 := by
  intro ops Q hops w0 ok1 ok2 g1 g2 bs t es hb0 hb1 x a w h0 h1 h2 hN hI
  subst hops
  have n6 : a.tmps[38]?.getD undef = .pointer (some ⟨g2, 0, none⟩) := hN 6 (by decide)
  have ho : (opsOf Try.f26 3)[7]? = some (⟨some 39, .fieldAddr 47 (.tmp 38) 0, 0, "law.go:65", #[⟨6, .data⟩], none⟩ : Oper) := by kernel_rfl
  refine wpOp_plain ho rfl ?_
  clear hN hI ho
  go_simp
  first | exact ⟨_, rfl, rfl⟩ | exact ⟨_, rfl, rfl, .inl (Below.refl _ _)⟩
theorem sP_8 : StP 8 := by
  intro ops Q hops w0 ok1 ok2 g1 g2 bs t es hb0 hb1 x a w h0 h1 h2 hN hI
  subst hops
  have n7 : a.tmps[39]?.getD undef = .pointer (some ⟨g2, 0, none⟩) := hN 7 (by decide)
  have hi0 : (fun (w : World) => Log w ok1 g1 bs t es ∧ LogX w ok2 g2 bs t es ∧ Below w0.heap.size w0 w) w := hI 0 (by decide) (by decide)
  have ho : (opsOf Try.f26 3)[8]? = some (⟨some 40, .load 3 (.tmp 39), 3, "law.go:65", #[⟨7, .data⟩], none⟩ : Oper) := by kernel_rfl
  refine wpOp_plain ho rfl ?_
  clear hN hI ho
  have hc : w.cell? ⟨g2, 0, none⟩ = some (.int .i64 bs) := by
    obtain ⟨_, v0, hh, hR⟩ := hi0.2.1
    simp [World.cell?, hh]
  clear hi0
  go_simp
  first | exact ⟨_, rfl, rfl⟩ | exact ⟨_, rfl, rfl, .inl (Below.refl _ _)⟩
theorem sP_9 : StP 9 := by
  intro ops Q hops w0 ok1 ok2 g1 g2 bs t es hb0 hb1 x a w h0 h1 h2 hN hI
  subst hops
  have n8 : a.tmps[40]?.getD undef = .int .i64 bs := hN 8 (by decide)
  have ho : (opsOf Try.f26 3)[9]? = some (⟨some 41, .binOp .add 3 (.tmp 40) (.const (Value.int .i64 1)) 3, 3, "law.go:65", #[⟨8, .data⟩], none⟩ : Oper) := by kernel_rfl
  refine wpOp_plain ho rfl ?_
  clear hN hI ho
  have hk : IntKind.i64.wrap (bs + 1) = bs + 1 := by rw [i64_w]; unfold wrap64; omega
  go_simp
  first | exact ⟨_, rfl, rfl⟩ | exact ⟨_, rfl, rfl, .inl (Below.refl _ _)⟩
theorem sP_10 : StP 10 := by
  intro ops Q hops w0 ok1 ok2 g1 g2 bs t es hb0 hb1 x a w h0 h1 h2 hN hI
  subst hops
  have ho : (opsOf Try.f26 3)[10]? = some (⟨some 42, .move (.tmp 1), 45, "law.go:65", #[], none⟩ : Oper) := by kernel_rfl
  refine wpOp_plain ho rfl ?_
  clear hN hI ho
  go_simp
  first | exact ⟨_, rfl, rfl⟩ | exact ⟨_, rfl, rfl, .inl (Below.refl _ _)⟩
theorem sP_11 : StP 11 := by
  intro ops Q hops w0 ok1 ok2 g1 g2 bs t es hb0 hb1 x a w h0 h1 h2 hN hI
  subst hops
  have n10 : a.tmps[42]?.getD undef = .pointer (some ⟨g2, 0, none⟩) := hN 10 (by decide)
  have hi0 : (fun (w : World) => Log w ok1 g1 bs t es ∧ LogX w ok2 g2 bs t es ∧ Below w0.heap.size w0 w) w := hI 0 (by decide) (by decide)
  have ho : (opsOf Try.f26 3)[11]? = some (⟨some 43, .call { callee := .value (.func 21), args := #[.tmp 42], argTypes := #[45] }, 3, "law.go:65", #[⟨10, .data⟩], none⟩ : Oper) := by kernel_rfl
  refine wpOp_plain ho rfl ?_
  clear hN hI ho
  have HH := Aside0.mk (last_x hi0.2.1 (by omega) hb1)
  clear hi0
  go_simp
  refine HH.out.mono ?_
  rintro e w' ⟨rfl, m, rfl⟩
  exact ⟨_, rfl, rfl, .inl (pw_below_drewN (Below.refl _ _) m)⟩
theorem sP_12 : StP 12 := by
  intro ops Q hops w0 ok1 ok2 g1 g2 bs t es hb0 hb1 x a w h0 h1 h2 hN hI
  subst hops
  have n0 : a.tmps[32]?.getD undef = .int .i64 x := hN 0 (by decide)
  have n4 : a.tmps[36]?.getD undef = .int .i64 bs := hN 4 (by decide)
  have n9 : a.tmps[41]?.getD undef = .int .i64 (bs + 1) := hN 9 (by decide)
  have n11 : a.tmps[43]?.getD undef = .int .i64 (bs + es.length) := hN 11 (by decide)
  have ho : (opsOf Try.f26 3)[12]? = some (⟨some 44, .buildSlice 31 4 #[(0, .tmp 32), (1, .tmp 36), (2, .tmp 41), (3, .tmp 43)], 31, "law.go:65", #[⟨0, .data⟩, ⟨4, .data⟩, ⟨9, .data⟩, ⟨11, .data⟩], none⟩ : Oper) := by kernel_rfl
  refine wpOp_plain ho rfl ?_
  clear hN hI ho
  have HB := Aside0.mk (below_alloc (Below.refl w.heap.size w) (Obj.cells ([x, bs, bs + 1, bs + es.length].map (Value.int .i64)).toArray 3))
  have HC := Aside0.mk (C_lit w [x, bs, bs + 1, bs + es.length] (by simp))
  go_simp
  exact ⟨_, rfl, ⟨_, rfl, HC.out⟩, .inl HB.out⟩
theorem sP_13 : StP 13 := by
  intro ops Q hops w0 ok1 ok2 g1 g2 bs t es hb0 hb1 x a w h0 h1 h2 hN hI
  subst hops
  have n12 : (fun (v : Value) (w : World) => ∃ g, v = .slice (some ⟨g, 0, none⟩) 4 4 ∧ (Kd.int .i64).C w (some ⟨g, 0, none⟩) 4 [x, bs, bs + 1, bs + es.length]) (a.tmps[44]?.getD undef) w := hN 12 (by decide)
  have ho : (opsOf Try.f26 3)[13]? = some (⟨some 45, .call { callee := .builtin .len, args := #[.tmp 44], argTypes := #[31] }, 3, "law.go:65", #[⟨12, .data⟩], none⟩ : Oper) := by kernel_rfl
  refine wpOp_plain ho rfl ?_
  clear hN hI ho
  obtain ⟨g, hv, -⟩ := n12
  go_simp
  first | exact ⟨_, rfl, rfl⟩ | exact ⟨_, rfl, rfl, .inl (Below.refl _ _)⟩
theorem sP_14 : StP 14 := by
  intro ops Q hops w0 ok1 ok2 g1 g2 bs t es hb0 hb1 x a w h0 h1 h2 hN hI
  subst hops
  have ho : (opsOf Try.f26 3)[14]? = some (⟨some 46, .move (.const (Value.int .i64 0)), 3, "law.go:65", #[], none⟩ : Oper) := by kernel_rfl
  refine wpOp_plain ho rfl ?_
  clear hN hI ho
  go_simp
  first | exact ⟨_, rfl, rfl⟩ | exact ⟨_, rfl, rfl, .inl (Below.refl _ _)⟩
theorem monoP (w0 : World) (ok1 ok2 : Nat → Prop) (g1 g2 : Nat) (bs t : Int) (es : List S60) (hb0 : 0 ≤ bs) (hb1 : bs + es.length ≤ 4611686018427387904) (x : Int) (j : Nat) (v : Value) (w w' : World) (h : FP w0 ok1 ok2 g1 g2 bs t es hb0 hb1 x j v w) (hb : Below w.heap.size w w') : FP w0 ok1 ok2 g1 g2 bs t es hb0 hb1 x j v w' := by
  unfold FP at h ⊢
  split <;> first
    | exact True.intro
    | exact h
    | (obtain ⟨g, hv, hC⟩ := h; exact ⟨g, hv, Kd.C_below hC hb⟩)
theorem monoIP (w0 : World) (ok1 ok2 : Nat → Prop) (g1 g2 : Nat) (bs t : Int) (es : List S60) (hb0 : 0 ≤ bs) (hb1 : bs + es.length ≤ 4611686018427387904) (x : Int) (c : Nat) (w w' : World) (h : IP w0 ok1 ok2 g1 g2 bs t es hb0 hb1 x c w) (hb : Below w.heap.size w w') : IP w0 ok1 ok2 g1 g2 bs t es hb0 hb1 x c w' := by
  unfold IP at h ⊢
  split <;> first
    | exact True.intro
    | exact ⟨h.1.below hb, h.2.1.below hb, h.2.2.trans (hb.mono h.2.2.size)⟩
theorem hinP : ∀ i, i < 15 → ∀ d, dstP i = some d → d < 160 := by
  have h2 : ∀ i, i < 15 → (dstP i).all (fun d => decide (d < 160)) = true := by decide
  intro i hi d hd
  have := h2 i hi
  rw [hd] at this
  simpa using this
set_option maxRecDepth 100000 in
theorem regionP {ops : Array Oper} {Q : Exit → Act → World → Prop} (hops : ops = opsOf Try.f26 3) {id_ : Nat} (w0 : World) (ok1 ok2 : Nat → Prop) (g1 g2 : Nat) (bs t : Int) (es : List S60) (hb0 : 0 ≤ bs) (hb1 : bs + es.length ≤ 4611686018427387904) (x : Int) (a0 : Act) (w0_ : World) (hI0 : ∀ c, IP w0 ok1 ok2 g1 g2 bs t es hb0 hb1 x c w0_) (hsz : a0.tmps.size = 160) (h0 : a0.tmps[0]?.getD undef = .pointer (some ⟨g1, 0, none⟩)) (h1 : a0.tmps[1]?.getD undef = .pointer (some ⟨g2, 0, none⟩)) (h2 : a0.tmps[2]?.getD undef = .int .i64 x)
    (hQ : ∀ a w, AgreeO 15 dstP a0 a → FP w0 ok1 ok2 g1 g2 bs t es hb0 hb1 x 12 (slotO dstP a 12) w → FP w0 ok1 ok2 g1 g2 bs t es hb0 hb1 x 13 (slotO dstP a 13) w → FP w0 ok1 ok2 g1 g2 bs t es hb0 hb1 x 14 (slotO dstP a 14) w → IP w0 ok1 ok2 g1 g2 bs t es hb0 hb1 x 0 w → Q .normal a w) : (Code.region id_ ops true).wp Try.prog Q a0 w0_ := by
  refine region_heldB (n := 15) dstP (FP w0 ok1 ok2 g1 g2 bs t es hb0 hb1 x) (IP w0 ok1 ok2 g1 g2 bs t es hb0 hb1 x) 1 ndP ncP usP killP killIP useIP (by kernel_rfl) (by rw [hops]; kernel_rfl) (by decide) ?_ (fun j v w w' _ h hb => monoP w0 ok1 ok2 g1 g2 bs t es hb0 hb1 x j v w w' h hb) (fun c w w' h hb => monoIP w0 ok1 ok2 g1 g2 bs t es hb0 hb1 x c w w' h hb) hI0 (by rw [hops]; kernel_rfl) (by decide) (by decide) (by decide) (by decide) (by decide) ?_ (fun a w hA hF hI => hQ a w hA (hF 12 (by decide) (by decide)) (hF 13 (by decide) (by decide)) (hF 14 (by decide) (by decide)) (hI 0 (by decide) (by decide)))
  · intro i hi d hd
    rw [hsz]; exact hinP i hi d hd
  · intro i a w hi hA hN hI
    have h0 := (hA.old 0 (by decide)).trans h0
    have h1 := (hA.old 1 (by decide)).trans h1
    have h2 := (hA.old 2 (by decide)).trans h2
    have hi' : i = 0 ∨ i = 1 ∨ i = 2 ∨ i = 3 ∨ i = 4 ∨ i = 5 ∨ i = 6 ∨ i = 7 ∨ i = 8 ∨ i = 9 ∨ i = 10 ∨ i = 11 ∨ i = 12 ∨ i = 13 ∨ i = 14 := by omega
    rcases hi' with rfl | rfl | rfl | rfl | rfl | rfl | rfl | rfl | rfl | rfl | rfl | rfl | rfl | rfl | rfl
    · exact sP_0 ops Q hops w0 ok1 ok2 g1 g2 bs t es hb0 hb1 x a w h0 h1 h2 hN hI
    · exact sP_1 ops Q hops w0 ok1 ok2 g1 g2 bs t es hb0 hb1 x a w h0 h1 h2 hN hI
    · exact sP_2 ops Q hops w0 ok1 ok2 g1 g2 bs t es hb0 hb1 x a w h0 h1 h2 hN hI
    · exact sP_3 ops Q hops w0 ok1 ok2 g1 g2 bs t es hb0 hb1 x a w h0 h1 h2 hN hI
    · exact sP_4 ops Q hops w0 ok1 ok2 g1 g2 bs t es hb0 hb1 x a w h0 h1 h2 hN hI
    · exact sP_5 ops Q hops w0 ok1 ok2 g1 g2 bs t es hb0 hb1 x a w h0 h1 h2 hN hI
    · exact sP_6 ops Q hops w0 ok1 ok2 g1 g2 bs t es hb0 hb1 x a w h0 h1 h2 hN hI
    · exact sP_7 ops Q hops w0 ok1 ok2 g1 g2 bs t es hb0 hb1 x a w h0 h1 h2 hN hI
    · exact sP_8 ops Q hops w0 ok1 ok2 g1 g2 bs t es hb0 hb1 x a w h0 h1 h2 hN hI
    · exact sP_9 ops Q hops w0 ok1 ok2 g1 g2 bs t es hb0 hb1 x a w h0 h1 h2 hN hI
    · exact sP_10 ops Q hops w0 ok1 ok2 g1 g2 bs t es hb0 hb1 x a w h0 h1 h2 hN hI
    · exact sP_11 ops Q hops w0 ok1 ok2 g1 g2 bs t es hb0 hb1 x a w h0 h1 h2 hN hI
    · exact sP_12 ops Q hops w0 ok1 ok2 g1 g2 bs t es hb0 hb1 x a w h0 h1 h2 hN hI
    · exact sP_13 ops Q hops w0 ok1 ok2 g1 g2 bs t es hb0 hb1 x a w h0 h1 h2 hN hI
    · exact sP_14 ops Q hops w0 ok1 ok2 g1 g2 bs t es hb0 hb1 x a w h0 h1 h2 hN hI
def dstY (i : Nat) : Option Nat := ([some 80, some 81, some 82, some 83, some 84, some 85, some 86, some 87, some 88, some 89, some 90, some 91, some 92, some 93, some 94, some 95, some 96, some 97, some 98, some 99, some 100, some 101, some 102, some 103, some 104, some 105, some 106, some 107, some 108, some 109, some 110, some 111, some 112, some 113, some 114, some 115, some 116, some 117, some 118, some 119, some 120, some 121, some 122, some 123, some 124, some 125, some 126, some 127, some 128, some 129, some 130, some 131, some 132] : List (Option Nat)).getD i none
def ndY : List (List Nat) := [[], [], [0, 1], [2], [3], [3], [4, 5, 3], [3, 6], [7, 3], [8], [8], [9, 10, 8], [8, 11], [12, 8], [13], [14, 13, 13], [15], [15], [17, 15], [18, 15], [19, 15], [15], [15], [22, 15], [23, 15], [24, 15], [21, 25, 15], [26, 15], [20, 27, 15], [28, 15], [16, 29, 15, 15], [30, 15], [15, 31, 13], [13, 32], [33, 30], [34], [35, 34], [36, 34, 34], [37], [37], [38, 39, 37, 37], [40, 37], [37, 41, 34], [34, 42], [43, 40], [44], [44], [45, 46, 44, 44], [44], [44], [48, 49, 47, 44], [47, 50, 44], [44, 51]]
def usY : List (List Nat) := [[], [], [0, 1], [2], [3], [3], [3, 4, 5], [3, 6], [7], [8], [8], [8, 9, 10], [8, 11], [12], [13], [13, 14], [15], [15], [15, 17], [15, 18], [15, 19], [15], [15], [15, 22], [15, 23], [15, 24], [15, 21, 25], [15, 26], [15, 20, 27], [15, 28], [15, 16, 29], [15, 30], [13, 15, 31], [13, 32], [33], [34], [34, 35], [34, 36], [37], [37], [37, 38, 39], [37, 40], [34, 37, 41], [34, 42], [43], [44], [44], [44, 45, 46], [44], [44], [44, 48, 49], [44, 47, 50], [44, 51]]
def ncY : List (List Nat) := [[], [], [0, 1], [0, 1, 2], [0, 1, 2, 3], [0, 1, 2, 3], [0, 1, 2, 3, 4, 5], [0, 1, 2, 3, 4, 5, 6], [0, 1, 2, 3, 4, 5, 6, 7], [0, 1, 2, 3, 4, 5, 6, 7, 8], [0, 1, 2, 3, 4, 5, 6, 7, 8], [0, 1, 2, 3, 4, 5, 6, 7, 8, 9, 10], [0, 1, 2, 3, 4, 5, 6, 7, 8, 9, 10, 11], [0, 1, 2, 3, 4, 5, 6, 7, 8, 9, 10, 11, 12], [0, 1, 2, 3, 4, 5, 6, 7, 8, 9, 10, 11, 12, 13], [0, 1, 2, 3, 4, 5, 6, 7, 8, 9, 10, 11, 12, 13, 14], [0, 1, 2, 3, 4, 5, 6, 7, 8, 9, 10, 11, 12, 13, 14, 15], [0, 1, 2, 3, 4, 5, 6, 7, 8, 9, 10, 11, 12, 13, 14, 15], [0, 1, 2, 3, 4, 5, 6, 7, 8, 9, 10, 11, 12, 13, 14, 15, 17], [0, 1, 2, 3, 4, 5, 6, 7, 8, 9, 10, 11, 12, 13, 14, 15, 17, 18], [0, 1, 2, 3, 4, 5, 6, 7, 8, 9, 10, 11, 12, 13, 14, 15, 17, 18, 19], [0, 1, 2, 3, 4, 5, 6, 7, 8, 9, 10, 11, 12, 13, 14, 15], [0, 1, 2, 3, 4, 5, 6, 7, 8, 9, 10, 11, 12, 13, 14, 15], [0, 1, 2, 3, 4, 5, 6, 7, 8, 9, 10, 11, 12, 13, 14, 15, 22], [0, 1, 2, 3, 4, 5, 6, 7, 8, 9, 10, 11, 12, 13, 14, 15, 22, 23], [0, 1, 2, 3, 4, 5, 6, 7, 8, 9, 10, 11, 12, 13, 14, 15, 22, 23, 24], [0, 1, 2, 3, 4, 5, 6, 7, 8, 9, 10, 11, 12, 13, 14, 15, 21, 22, 23, 24, 25], [0, 1, 2, 3, 4, 5, 6, 7, 8, 9, 10, 11, 12, 13, 14, 15, 21, 22, 23, 24, 25, 26], [0, 1, 2, 3, 4, 5, 6, 7, 8, 9, 10, 11, 12, 13, 14, 15, 17, 18, 19, 20, 21, 22, 23, 24, 25, 26, 27], [0, 1, 2, 3, 4, 5, 6, 7, 8, 9, 10, 11, 12, 13, 14, 15, 17, 18, 19, 20, 21, 22, 23, 24, 25, 26, 27, 28], [0, 1, 2, 3, 4, 5, 6, 7, 8, 9, 10, 11, 12, 13, 14, 15, 16, 17, 18, 19, 20, 21, 22, 23, 24, 25, 26, 27, 28, 29], [0, 1, 2, 3, 4, 5, 6, 7, 8, 9, 10, 11, 12, 13, 14, 15, 16, 17, 18, 19, 20, 21, 22, 23, 24, 25, 26, 27, 28, 29, 30], [0, 1, 2, 3, 4, 5, 6, 7, 8, 9, 10, 11, 12, 13, 14, 15, 16, 17, 18, 19, 20, 21, 22, 23, 24, 25, 26, 27, 28, 29, 30, 31], [0, 1, 2, 3, 4, 5, 6, 7, 8, 9, 10, 11, 12, 13, 14, 15, 16, 17, 18, 19, 20, 21, 22, 23, 24, 25, 26, 27, 28, 29, 30, 31, 32], [0, 1, 2, 3, 4, 5, 6, 7, 8, 9, 10, 11, 12, 13, 14, 15, 16, 17, 18, 19, 20, 21, 22, 23, 24, 25, 26, 27, 28, 29, 30, 31, 32, 33], [0, 1, 2, 3, 4, 5, 6, 7, 8, 9, 10, 11, 12, 13, 14, 15, 16, 17, 18, 19, 20, 21, 22, 23, 24, 25, 26, 27, 28, 29, 30, 31, 32, 33, 34], [0, 1, 2, 3, 4, 5, 6, 7, 8, 9, 10, 11, 12, 13, 14, 15, 16, 17, 18, 19, 20, 21, 22, 23, 24, 25, 26, 27, 28, 29, 30, 31, 32, 33, 34, 35], [0, 1, 2, 3, 4, 5, 6, 7, 8, 9, 10, 11, 12, 13, 14, 15, 16, 17, 18, 19, 20, 21, 22, 23, 24, 25, 26, 27, 28, 29, 30, 31, 32, 33, 34, 35, 36], [0, 1, 2, 3, 4, 5, 6, 7, 8, 9, 10, 11, 12, 13, 14, 15, 16, 17, 18, 19, 20, 21, 22, 23, 24, 25, 26, 27, 28, 29, 30, 31, 32, 33, 34, 35, 36, 37], [0, 1, 2, 3, 4, 5, 6, 7, 8, 9, 10, 11, 12, 13, 14, 15, 16, 17, 18, 19, 20, 21, 22, 23, 24, 25, 26, 27, 28, 29, 30, 31, 32, 33, 34, 35, 36, 37], [0, 1, 2, 3, 4, 5, 6, 7, 8, 9, 10, 11, 12, 13, 14, 15, 16, 17, 18, 19, 20, 21, 22, 23, 24, 25, 26, 27, 28, 29, 30, 31, 32, 33, 34, 35, 36, 37, 38, 39], [0, 1, 2, 3, 4, 5, 6, 7, 8, 9, 10, 11, 12, 13, 14, 15, 16, 17, 18, 19, 20, 21, 22, 23, 24, 25, 26, 27, 28, 29, 30, 31, 32, 33, 34, 35, 36, 37, 38, 39, 40], [0, 1, 2, 3, 4, 5, 6, 7, 8, 9, 10, 11, 12, 13, 14, 15, 16, 17, 18, 19, 20, 21, 22, 23, 24, 25, 26, 27, 28, 29, 30, 31, 32, 33, 34, 35, 36, 37, 38, 39, 40, 41], [0, 1, 2, 3, 4, 5, 6, 7, 8, 9, 10, 11, 12, 13, 14, 15, 16, 17, 18, 19, 20, 21, 22, 23, 24, 25, 26, 27, 28, 29, 30, 31, 32, 33, 34, 35, 36, 37, 38, 39, 40, 41, 42], [0, 1, 2, 3, 4, 5, 6, 7, 8, 9, 10, 11, 12, 13, 14, 15, 16, 17, 18, 19, 20, 21, 22, 23, 24, 25, 26, 27, 28, 29, 30, 31, 32, 33, 34, 35, 36, 37, 38, 39, 40, 41, 42, 43], [0, 1, 2, 3, 4, 5, 6, 7, 8, 9, 10, 11, 12, 13, 14, 15, 16, 17, 18, 19, 20, 21, 22, 23, 24, 25, 26, 27, 28, 29, 30, 31, 32, 33, 34, 35, 36, 37, 38, 39, 40, 41, 42, 43, 44], [0, 1, 2, 3, 4, 5, 6, 7, 8, 9, 10, 11, 12, 13, 14, 15, 16, 17, 18, 19, 20, 21, 22, 23, 24, 25, 26, 27, 28, 29, 30, 31, 32, 33, 34, 35, 36, 37, 38, 39, 40, 41, 42, 43, 44], [0, 1, 2, 3, 4, 5, 6, 7, 8, 9, 10, 11, 12, 13, 14, 15, 16, 17, 18, 19, 20, 21, 22, 23, 24, 25, 26, 27, 28, 29, 30, 31, 32, 33, 34, 35, 36, 37, 38, 39, 40, 41, 42, 43, 44, 45, 46], [0, 1, 2, 3, 4, 5, 6, 7, 8, 9, 10, 11, 12, 13, 14, 15, 16, 17, 18, 19, 20, 21, 22, 23, 24, 25, 26, 27, 28, 29, 30, 31, 32, 33, 34, 35, 36, 37, 38, 39, 40, 41, 42, 43, 44], [0, 1, 2, 3, 4, 5, 6, 7, 8, 9, 10, 11, 12, 13, 14, 15, 16, 17, 18, 19, 20, 21, 22, 23, 24, 25, 26, 27, 28, 29, 30, 31, 32, 33, 34, 35, 36, 37, 38, 39, 40, 41, 42, 43, 44], [0, 1, 2, 3, 4, 5, 6, 7, 8, 9, 10, 11, 12, 13, 14, 15, 16, 17, 18, 19, 20, 21, 22, 23, 24, 25, 26, 27, 28, 29, 30, 31, 32, 33, 34, 35, 36, 37, 38, 39, 40, 41, 42, 43, 44, 45, 46, 47, 48, 49], [0, 1, 2, 3, 4, 5, 6, 7, 8, 9, 10, 11, 12, 13, 14, 15, 16, 17, 18, 19, 20, 21, 22, 23, 24, 25, 26, 27, 28, 29, 30, 31, 32, 33, 34, 35, 36, 37, 38, 39, 40, 41, 42, 43, 44, 45, 46, 47, 48, 49, 50], [0, 1, 2, 3, 4, 5, 6, 7, 8, 9, 10, 11, 12, 13, 14, 15, 16, 17, 18, 19, 20, 21, 22, 23, 24, 25, 26, 27, 28, 29, 30, 31, 32, 33, 34, 35, 36, 37, 38, 39, 40, 41, 42, 43, 44, 45, 46, 47, 48, 49, 50, 51]]
def killY (h j : Nat) : Bool := (false)
def killIY (h j : Nat) : Bool := (false)
def useIY (h j : Nat) : Bool := ((h == 16 && [0].contains j) || (h == 20 && [0].contains j) || (h == 25 && [0].contains j) || (h == 30 && [0].contains j) || (h == 47 && [0].contains j) || (h == 50 && [0].contains j))
def IY (w0 : World) (ok1 ok2 : Nat → Prop) (g1 g2 : Nat) (bs t : Int) (es : List S60) (hb0 : 0 ≤ bs) (hb1 : bs + es.length ≤ 4611686018427387904) (i : Int) (T1 : Int) (b : Bool) (gb : Nat) (e : S60) (cs : List Value) (he : okS e) (q : Nat) (hq : i - bs - 1 = (q : Int)) (hql : q < es.length) (hx : rd_T60 es (q : Int) = e) : Nat → World → Prop
  | 0, w => (Log w ok1 g1 bs t es ∧ LogX w ok2 g2 bs t es ∧ Below w0.heap.size w0 w) ∧ w.heap[gb]? = some (.cells cs.toArray 60 (0, 0)) ∧ k60.K w e cs
  | _, _ => True
def FY (w0 : World) (ok1 ok2 : Nat → Prop) (g1 g2 : Nat) (bs t : Int) (es : List S60) (hb0 : 0 ≤ bs) (hb1 : bs + es.length ≤ 4611686018427387904) (i : Int) (T1 : Int) (b : Bool) (gb : Nat) (e : S60) (cs : List Value) (he : okS e) (q : Nat) (hq : i - bs - 1 = (q : Int)) (hql : q < es.length) (hx : rd_T60 es (q : Int) = e) : Nat → Value → World → Prop
  | 0, v, w => v = .int .i64 T1
  | 1, v, w => v = .int .i64 T1
  | 2, v, w => v = .bool false
  | 3, v, w => v = .bool false
  | 4, v, w => v = .bool b
  | 5, v, w => v = .bool b
  | 6, v, w => v = .bool false
  | 7, v, w => v = .bool false
  | 8, v, w => v = .bool false
  | 9, v, w => v = .bool true
  | 10, v, w => v = .bool true
  | 11, v, w => v = .bool false
  | 12, v, w => v = .bool false
  | 13, v, w => v = .bool false
  | 14, v, w => v = .bool true
  | 15, v, w => v = .bool true
  | 16, v, w => v = .agg cs.toArray
  | 17, v, w => v = .pointer (some ⟨g2, 0, none⟩)
  | 18, v, w => v = .pointer (some ⟨g2, 0, none⟩)
  | 19, v, w => v = .pointer (some ⟨g2, 2, none⟩)
  | 20, v, w => ∃ A c, v = .slice A es.length c ∧ es.length ≤ c ∧ Kd.C k60 w A es.length es
  | 21, v, w => v = .int .i64 i
  | 22, v, w => v = .pointer (some ⟨g2, 0, none⟩)
  | 23, v, w => v = .pointer (some ⟨g2, 0, none⟩)
  | 24, v, w => v = .pointer (some ⟨g2, 0, none⟩)
  | 25, v, w => v = .int .i64 bs
  | 26, v, w => v = .int .i64 ((q : Int) + 1)
  | 27, v, w => v = .int .i64 (q : Int)
  | 28, v, w => EntAt w es q v
  | 29, v, w => ∃ cs2, v = .agg cs2.toArray ∧ k60.K w e cs2
  | 30, v, w => v = .bool true
  | 31, v, w => v = .bool false
  | 32, v, w => v = .bool false
  | 33, v, w => v = .bool false
  | 34, v, w => v = .bool false
  | 35, v, w => v = .bool true
  | 36, v, w => v = .bool false
  | 37, v, w => v = .bool false
  | 38, v, w => v = undef
  | 39, v, w => v = undef
  | 40, v, w => v = undef
  | 41, v, w => v = undef
  | 42, v, w => v = .bool false
  | 43, v, w => v = .bool false
  | 44, v, w => v = .bool false
  | 45, v, w => v = .pointer (some ⟨g1, 0, none⟩)
  | 46, v, w => v = .int .i64 i
  | 47, v, w => v = .int .i64 (hintL bs t es i)
  | 48, v, w => v = .pointer (some ⟨g2, 0, none⟩)
  | 49, v, w => v = .int .i64 i
  | 50, v, w => v = .int .i64 (hintL bs t es i)
  | 51, v, w => v = .bool false
  | 52, v, w => v = .bool false
  | _, _, _ => True
def StY (i_ : Nat) : Prop := ∀ (ops : Array Oper) (Q : Exit → Act → World → Prop) (hops : ops = opsOf Try.f26 10) (w0 : World) (ok1 ok2 : Nat → Prop) (g1 g2 : Nat) (bs t : Int) (es : List S60) (hb0 : 0 ≤ bs) (hb1 : bs + es.length ≤ 4611686018427387904) (i : Int) (T1 : Int) (b : Bool) (gb : Nat) (e : S60) (cs : List Value) (he : okS e) (q : Nat) (hq : i - bs - 1 = (q : Int)) (hql : q < es.length) (hx : rd_T60 es (q : Int) = e) (a : Act) (w : World) (h0 : a.tmps[0]?.getD undef = .pointer (some ⟨g1, 0, none⟩)) (h1 : a.tmps[1]?.getD undef = .pointer (some ⟨g2, 0, none⟩)) (h8 : a.tmps[8]?.getD undef = .int .i64 i) (h9 : a.tmps[9]?.getD undef = .int .i64 T1) (h11 : a.tmps[11]?.getD undef = .int .i64 T1) (h10 : a.tmps[10]?.getD undef = .bool b) (h12 : a.tmps[12]?.getD undef = .bool b) (h14 : a.tmps[14]?.getD undef = .bool true) (h15 : a.tmps[15]?.getD undef = .bool true) (h13 : a.tmps[13]?.getD undef = .pointer (some ⟨gb, 0, none⟩))
    (hN : ∀ j, j ∈ usY.getD i_ [] → FY w0 ok1 ok2 g1 g2 bs t es hb0 hb1 i T1 b gb e cs he q hq hql hx j (slotO dstY a j) w) (hI : ∀ c, c < 1 → useIY i_ c = true → IY w0 ok1 ok2 g1 g2 bs t es hb0 hb1 i T1 b gb e cs he q hq hql hx c w), wpOp Try.prog ops Q i_ (fun a' w' => ∃ v, a' = a.put (dstY i_) v ∧ FY w0 ok1 ok2 g1 g2 bs t es hb0 hb1 i T1 b gb e cs he q hq hql hx i_ (valO dstY i_ v) w' ∧ (Below w.heap.size w w' ∨ ((∀ j u, j < 53 → j ≠ i_ → killY i_ j = false → (ncY.getD j []).contains i_ = false → FY w0 ok1 ok2 g1 g2 bs t es hb0 hb1 i T1 b gb e cs he q hq hql hx j u w → FY w0 ok1 ok2 g1 g2 bs t es hb0 hb1 i T1 b gb e cs he q hq hql hx j u w') ∧ (∀ c, c < 1 → killIY i_ c = false → IY w0 ok1 ok2 g1 g2 bs t es hb0 hb1 i T1 b gb e cs he q hq hql hx c w → IY w0 ok1 ok2 g1 g2 bs t es hb0 hb1 i T1 b gb e cs he q hq hql hx c w')))) a w
theorem sY_0 : StY 0 := by
  intro ops Q hops w0 ok1 ok2 g1 g2 bs t es hb0 hb1 i T1 b gb e cs he q hq hql hx a w h0 h1 h8 h9 h11 h10 h12 h14 h15 h13 hN hI
  subst hops
  have ho : (opsOf Try.f26 10)[0]? = some (⟨some 80, .move (.tmp 9), 3, "law.go:70", #[], none⟩ : Oper) := by kernel_rfl
  refine wpOp_plain ho rfl ?_
  clear hN hI ho
  go_simp
  first | exact ⟨_, rfl, rfl⟩ | exact ⟨_, rfl, rfl, .inl (Below.refl _ _)⟩
theorem sY_1 : StY 1 := by
  intro ops Q hops w0 ok1 ok2 g1 g2 bs t es hb0 hb1 i T1 b gb e cs he q hq hql hx a w h0 h1 h8 h9 h11 h10 h12 h14 h15 h13 hN hI
  subst hops
  have ho : (opsOf Try.f26 10)[1]? = some (⟨some 81, .move (.tmp 11), 3, "law.go:70", #[], none⟩ : Oper) := by kernel_rfl
  refine wpOp_plain ho rfl ?_
  clear hN hI ho
  go_simp
  first | exact ⟨_, rfl, rfl⟩ | exact ⟨_, rfl, rfl, .inl (Below.refl _ _)⟩
theorem sY_2 : StY 2 := by
  intro ops Q hops w0 ok1 ok2 g1 g2 bs t es hb0 hb1 i T1 b gb e cs he q hq hql hx a w h0 h1 h8 h9 h11 h10 h12 h14 h15 h13 hN hI
  subst hops
  have n0 : a.tmps[80]?.getD undef = .int .i64 T1 := hN 0 (by decide)
  have n1 : a.tmps[81]?.getD undef = .int .i64 T1 := hN 1 (by decide)
  have ho : (opsOf Try.f26 10)[2]? = some (⟨some 82, .binOp .neq 3 (.tmp 80) (.tmp 81) 3, 4, "law.go:70", #[⟨0, .data⟩, ⟨1, .data⟩], none⟩ : Oper) := by kernel_rfl
  refine wpOp_plain ho rfl ?_
  clear hN hI ho
  go_simp
  first | exact ⟨_, rfl, rfl⟩ | exact ⟨_, rfl, rfl, .inl (Below.refl _ _)⟩
theorem sY_3 : StY 3 := by
  intro ops Q hops w0 ok1 ok2 g1 g2 bs t es hb0 hb1 i T1 b gb e cs he q hq hql hx a w h0 h1 h8 h9 h11 h10 h12 h14 h15 h13 hN hI
  subst hops
  have n2 : a.tmps[82]?.getD undef = .bool false := hN 2 (by decide)
  have ho : (opsOf Try.f26 10)[3]? = some (⟨some 83, .move (.tmp 82), 4, "law.go:70", #[⟨2, .data⟩], none⟩ : Oper) := by kernel_rfl
  refine wpOp_plain ho rfl ?_
  clear hN hI ho
  go_simp
  first | exact ⟨_, rfl, rfl⟩ | exact ⟨_, rfl, rfl, .inl (Below.refl _ _)⟩
theorem sY_4 : StY 4 := by
  intro ops Q hops w0 ok1 ok2 g1 g2 bs t es hb0 hb1 i T1 b gb e cs he q hq hql hx a w h0 h1 h8 h9 h11 h10 h12 h14 h15 h13 hN hI
  subst hops
  have n3 : a.tmps[83]?.getD undef = .bool false := hN 3 (by decide)
  have ho : (opsOf Try.f26 10)[4]? = some (⟨some 84, .move (.tmp 10), 4, "law.go:70", #[⟨3, .guard⟩], some (3, false)⟩ : Oper) := by kernel_rfl
  refine wpOp_guarded (d := 83) ho rfl rfl n3 ?_
  clear hN hI ho
  go_simp
  first | exact ⟨_, rfl, rfl⟩ | exact ⟨_, rfl, rfl, .inl (Below.refl _ _)⟩
theorem sY_5 : StY 5 := by
  intro ops Q hops w0 ok1 ok2 g1 g2 bs t es hb0 hb1 i T1 b gb e cs he q hq hql hx a w h0 h1 h8 h9 h11 h10 h12 h14 h15 h13 hN hI
  subst hops
  have n3 : a.tmps[83]?.getD undef = .bool false := hN 3 (by decide)
  have ho : (opsOf Try.f26 10)[5]? = some (⟨some 85, .move (.tmp 12), 4, "law.go:70", #[⟨3, .guard⟩], some (3, false)⟩ : Oper) := by kernel_rfl
  refine wpOp_guarded (d := 83) ho rfl rfl n3 ?_
  clear hN hI ho
  go_simp
  first | exact ⟨_, rfl, rfl⟩ | exact ⟨_, rfl, rfl, .inl (Below.refl _ _)⟩
theorem sY_6 : StY 6 := by
  intro ops Q hops w0 ok1 ok2 g1 g2 bs t es hb0 hb1 i T1 b gb e cs he q hq hql hx a w h0 h1 h8 h9 h11 h10 h12 h14 h15 h13 hN hI
  subst hops
  have n3 : a.tmps[83]?.getD undef = .bool false := hN 3 (by decide)
  have n4 : a.tmps[84]?.getD undef = .bool b := hN 4 (by decide)
  have n5 : a.tmps[85]?.getD undef = .bool b := hN 5 (by decide)
  have ho : (opsOf Try.f26 10)[6]? = some (⟨some 86, .binOp .neq 4 (.tmp 84) (.tmp 85) 4, 4, "law.go:70", #[⟨4, .data⟩, ⟨5, .data⟩, ⟨3, .guard⟩], some (3, false)⟩ : Oper) := by kernel_rfl
  refine wpOp_guarded (d := 83) ho rfl rfl n3 ?_
  clear hN hI ho
  go_simp
  first | exact ⟨_, rfl, rfl⟩ | exact ⟨_, rfl, rfl, .inl (Below.refl _ _)⟩
theorem sY_7 : StY 7 := by
  intro ops Q hops w0 ok1 ok2 g1 g2 bs t es hb0 hb1 i T1 b gb e cs he q hq hql hx a w h0 h1 h8 h9 h11 h10 h12 h14 h15 h13 hN hI
  subst hops
  have n3 : a.tmps[83]?.getD undef = .bool false := hN 3 (by decide)
  have n6 : a.tmps[86]?.getD undef = .bool false := hN 6 (by decide)
  have ho : (opsOf Try.f26 10)[7]? = some (⟨some 87, .pick (.tmp 83) (.const (Value.bool true)) (.tmp 86), 4, "law.go:70", #[⟨3, .data⟩, ⟨6, .data⟩], none⟩ : Oper) := by kernel_rfl
  refine wpOp_plain ho rfl ?_
  clear hN hI ho
  go_simp
  first | exact ⟨_, rfl, rfl⟩ | exact ⟨_, rfl, rfl, .inl (Below.refl _ _)⟩
theorem sY_8 : StY 8 := by
  intro ops Q hops w0 ok1 ok2 g1 g2 bs t es hb0 hb1 i T1 b gb e cs he q hq hql hx a w h0 h1 h8 h9 h11 h10 h12 h14 h15 h13 hN hI
  subst hops
  have n7 : a.tmps[87]?.getD undef = .bool false := hN 7 (by decide)
  have ho : (opsOf Try.f26 10)[8]? = some (⟨some 88, .move (.tmp 87), 4, "law.go:70", #[⟨7, .data⟩, ⟨3, .chain⟩], none⟩ : Oper) := by kernel_rfl
  refine wpOp_plain ho rfl ?_
  clear hN hI ho
  go_simp
  first | exact ⟨_, rfl, rfl⟩ | exact ⟨_, rfl, rfl, .inl (Below.refl _ _)⟩
theorem sY_9 : StY 9 := by
  intro ops Q hops w0 ok1 ok2 g1 g2 bs t es hb0 hb1 i T1 b gb e cs he q hq hql hx a w h0 h1 h8 h9 h11 h10 h12 h14 h15 h13 hN hI
  subst hops
  have n8 : a.tmps[88]?.getD undef = .bool false := hN 8 (by decide)
  have ho : (opsOf Try.f26 10)[9]? = some (⟨some 89, .move (.tmp 14), 4, "law.go:70", #[⟨8, .guard⟩], some (8, false)⟩ : Oper) := by kernel_rfl
  refine wpOp_guarded (d := 88) ho rfl rfl n8 ?_
  clear hN hI ho
  go_simp
  first | exact ⟨_, rfl, rfl⟩ | exact ⟨_, rfl, rfl, .inl (Below.refl _ _)⟩
theorem sY_10 : StY 10 := by
  intro ops Q hops w0 ok1 ok2 g1 g2 bs t es hb0 hb1 i T1 b gb e cs he q hq hql hx a w h0 h1 h8 h9 h11 h10 h12 h14 h15 h13 hN hI
  subst hops
  have n8 : a.tmps[88]?.getD undef = .bool false := hN 8 (by decide)
  have ho : (opsOf Try.f26 10)[10]? = some (⟨some 90, .move (.tmp 15), 4, "law.go:70", #[⟨8, .guard⟩], some (8, false)⟩ : Oper) := by kernel_rfl
  refine wpOp_guarded (d := 88) ho rfl rfl n8 ?_
  clear hN hI ho
  go_simp
  first | exact ⟨_, rfl, rfl⟩ | exact ⟨_, rfl, rfl, .inl (Below.refl _ _)⟩
theorem sY_11 : StY 11 := by
  intro ops Q hops w0 ok1 ok2 g1 g2 bs t es hb0 hb1 i T1 b gb e cs he q hq hql hx a w h0 h1 h8 h9 h11 h10 h12 h14 h15 h13 hN hI
  subst hops
  have n8 : a.tmps[88]?.getD undef = .bool false := hN 8 (by decide)
  have n9 : a.tmps[89]?.getD undef = .bool true := hN 9 (by decide)
  have n10 : a.tmps[90]?.getD undef = .bool true := hN 10 (by decide)
  have ho : (opsOf Try.f26 10)[11]? = some (⟨some 91, .binOp .neq 4 (.tmp 89) (.tmp 90) 4, 4, "law.go:70", #[⟨9, .data⟩, ⟨10, .data⟩, ⟨8, .guard⟩], some (8, false)⟩ : Oper) := by kernel_rfl
  refine wpOp_guarded (d := 88) ho rfl rfl n8 ?_
  clear hN hI ho
  go_simp
  first | exact ⟨_, rfl, rfl⟩ | exact ⟨_, rfl, rfl, .inl (Below.refl _ _)⟩
theorem sY_12 : StY 12 := by
  intro ops Q hops w0 ok1 ok2 g1 g2 bs t es hb0 hb1 i T1 b gb e cs he q hq hql hx a w h0 h1 h8 h9 h11 h10 h12 h14 h15 h13 hN hI
  subst hops
  have n8 : a.tmps[88]?.getD undef = .bool false := hN 8 (by decide)
  have n11 : a.tmps[91]?.getD undef = .bool false := hN 11 (by decide)
  have ho : (opsOf Try.f26 10)[12]? = some (⟨some 92, .pick (.tmp 88) (.const (Value.bool true)) (.tmp 91), 4, "law.go:70", #[⟨8, .data⟩, ⟨11, .data⟩], none⟩ : Oper) := by kernel_rfl
  refine wpOp_plain ho rfl ?_
  clear hN hI ho
  go_simp
  first | exact ⟨_, rfl, rfl⟩ | exact ⟨_, rfl, rfl, .inl (Below.refl _ _)⟩
theorem sY_13 : StY 13 := by
  intro ops Q hops w0 ok1 ok2 g1 g2 bs t es hb0 hb1 i T1 b gb e cs he q hq hql hx a w h0 h1 h8 h9 h11 h10 h12 h14 h15 h13 hN hI
  subst hops
  have n12 : a.tmps[92]?.getD undef = .bool false := hN 12 (by decide)
  have ho : (opsOf Try.f26 10)[13]? = some (⟨some 93, .move (.tmp 92), 4, "law.go:70", #[⟨12, .data⟩, ⟨8, .chain⟩], none⟩ : Oper) := by kernel_rfl
  refine wpOp_plain ho rfl ?_
  clear hN hI ho
  go_simp
  first | exact ⟨_, rfl, rfl⟩ | exact ⟨_, rfl, rfl, .inl (Below.refl _ _)⟩
theorem sY_14 : StY 14 := by
  intro ops Q hops w0 ok1 ok2 g1 g2 bs t es hb0 hb1 i T1 b gb e cs he q hq hql hx a w h0 h1 h8 h9 h11 h10 h12 h14 h15 h13 hN hI
  subst hops
  have n13 : a.tmps[93]?.getD undef = .bool false := hN 13 (by decide)
  have ho : (opsOf Try.f26 10)[14]? = some (⟨some 94, .move (.tmp 15), 4, "law.go:70", #[⟨13, .guard⟩], some (13, false)⟩ : Oper) := by kernel_rfl
  refine wpOp_guarded (d := 93) ho rfl rfl n13 ?_
  clear hN hI ho
  go_simp
  first | exact ⟨_, rfl, rfl⟩ | exact ⟨_, rfl, rfl, .inl (Below.refl _ _)⟩
theorem sY_15 : StY 15 := by
  intro ops Q hops w0 ok1 ok2 g1 g2 bs t es hb0 hb1 i T1 b gb e cs he q hq hql hx a w h0 h1 h8 h9 h11 h10 h12 h14 h15 h13 hN hI
  subst hops
  have n13 : a.tmps[93]?.getD undef = .bool false := hN 13 (by decide)
  have n14 : a.tmps[94]?.getD undef = .bool true := hN 14 (by decide)
  have ho : (opsOf Try.f26 10)[15]? = some (⟨some 95, .move (.tmp 94), 4, "law.go:70", #[⟨14, .data⟩, ⟨13, .chain⟩, ⟨13, .guard⟩], some (13, false)⟩ : Oper) := by kernel_rfl
  refine wpOp_guarded (d := 93) ho rfl rfl n13 ?_
  clear hN hI ho
  go_simp
  first | exact ⟨_, rfl, rfl⟩ | exact ⟨_, rfl, rfl, .inl (Below.refl _ _)⟩
theorem sY_16 : StY 16 := by
  intro ops Q hops w0 ok1 ok2 g1 g2 bs t es hb0 hb1 i T1 b gb e cs he q hq hql hx a w h0 h1 h8 h9 h11 h10 h12 h14 h15 h13 hN hI
  subst hops
  have n15 : a.tmps[95]?.getD undef = .bool true := hN 15 (by decide)
  have hi0 : (fun (w : World) => (Log w ok1 g1 bs t es ∧ LogX w ok2 g2 bs t es ∧ Below w0.heap.size w0 w) ∧ w.heap[gb]? = some (.cells cs.toArray 60 (0, 0)) ∧ k60.K w e cs) w := hI 0 (by decide) (by decide)
  have ho : (opsOf Try.f26 10)[16]? = some (⟨some 96, .load 60 (.tmp 13), 60, "law.go:70", #[⟨15, .guard⟩], some (15, true)⟩ : Oper) := by kernel_rfl
  refine wpOp_guarded (d := 95) ho rfl rfl n15 ?_
  clear hN hI ho
  obtain ⟨hS, hh, hK⟩ := hi0
  obtain ⟨A9, c9, A13, c13, rfl, l9, g9, l13, g13⟩ := k60_open hK
  have q0 : w.cell? ⟨gb, 0, none⟩ = some (.int .i64 e.f0) := (blk_cell hh 0).trans rfl
  have q1 : w.cell? ⟨gb, 1, none⟩ = some (.int .i64 e.f1) := (blk_cell hh 1).trans rfl
  have q2 : w.cell? ⟨gb, 2, none⟩ = some (.int .i64 e.f2.f0) := (blk_cell hh 2).trans rfl
  have q3 : w.cell? ⟨gb, 3, none⟩ = some (.string e.f2.f1) := (blk_cell hh 3).trans rfl
  have q4 : w.cell? ⟨gb, 4, none⟩ = some (.string e.f2.f2) := (blk_cell hh 4).trans rfl
  have q5 : w.cell? ⟨gb, 5, none⟩ = some (.string e.f2.f3) := (blk_cell hh 5).trans rfl
  have q6 : w.cell? ⟨gb, 6, none⟩ = some (.string e.f2.f4) := (blk_cell hh 6).trans rfl
  have q7 : w.cell? ⟨gb, 7, none⟩ = some (.string e.f2.f5) := (blk_cell hh 7).trans rfl
  have q8 : w.cell? ⟨gb, 8, none⟩ = some (.string e.f2.f6) := (blk_cell hh 8).trans rfl
  have q9 : w.cell? ⟨gb, 9, none⟩ = some (.slice A9 e.f2.f7.length c9) := (blk_cell hh 9).trans rfl
  have q10 : w.cell? ⟨gb, 10, none⟩ = some (.int .i64 e.f2.f8) := (blk_cell hh 10).trans rfl
  have q11 : w.cell? ⟨gb, 11, none⟩ = some (.int .i64 e.f2.f9) := (blk_cell hh 11).trans rfl
  have q12 : w.cell? ⟨gb, 12, none⟩ = some (.int .i64 e.f2.f10) := (blk_cell hh 12).trans rfl
  have q13 : w.cell? ⟨gb, 13, none⟩ = some (.slice A13 e.f3.length c13) := (blk_cell hh 13).trans rfl
  clear hS hh hK l9 g9 l13 g13
  go_simp
  first | exact ⟨_, rfl, rfl⟩ | exact ⟨_, rfl, rfl, .inl (Below.refl _ _)⟩
theorem sY_17 : StY 17 := by
  intro ops Q hops w0 ok1 ok2 g1 g2 bs t es hb0 hb1 i T1 b gb e cs he q hq hql hx a w h0 h1 h8 h9 h11 h10 h12 h14 h15 h13 hN hI
  subst hops
  have n15 : a.tmps[95]?.getD undef = .bool true := hN 15 (by decide)
  have ho : (opsOf Try.f26 10)[17]? = some (⟨some 97, .move (.tmp 1), 45, "law.go:70", #[⟨15, .guard⟩], some (15, true)⟩ : Oper) := by kernel_rfl
  refine wpOp_guarded (d := 95) ho rfl rfl n15 ?_
  clear hN hI ho
  go_simp
  first | exact ⟨_, rfl, rfl⟩ | exact ⟨_, rfl, rfl, .inl (Below.refl _ _)⟩
theorem sY_18 : StY 18 := by
  intro ops Q hops w0 ok1 ok2 g1 g2 bs t es hb0 hb1 i T1 b gb e cs he q hq hql hx a w h0 h1 h8 h9 h11 h10 h12 h14 h15 h13 hN hI
  subst hops
  have n15 : a.tmps[95]?.getD undef = .bool true := hN 15 (by decide)
  have n17 : a.tmps[97]?.getD undef = .pointer (some ⟨g2, 0, none⟩) := hN 17 (by decide)
  have ho : (opsOf Try.f26 10)[18]? = some (⟨some 98, .nilCheck (.tmp 97), 0, "law.go:70", #[⟨17, .data⟩, ⟨15, .guard⟩], some (15, true)⟩ : Oper) := by kernel_rfl
  refine wpOp_guarded (d := 95) ho rfl rfl n15 ?_
  clear hN hI ho
  go_simp
  first | exact ⟨_, rfl, rfl⟩ | exact ⟨_, rfl, rfl, .inl (Below.refl _ _)⟩
theorem sY_19 : StY 19 := by
  intro ops Q hops w0 ok1 ok2 g1 g2 bs t es hb0 hb1 i T1 b gb e cs he q hq hql hx a w h0 h1 h8 h9 h11 h10 h12 h14 h15 h13 hN hI
  subst hops
  have n15 : a.tmps[95]?.getD undef = .bool true := hN 15 (by decide)
  have n18 : a.tmps[98]?.getD undef = .pointer (some ⟨g2, 0, none⟩) := hN 18 (by decide)
  have ho : (opsOf Try.f26 10)[19]? = some (⟨some 99, .fieldAddr 47 (.tmp 98) 2, 0, "law.go:70", #[⟨18, .data⟩, ⟨15, .guard⟩], some (15, true)⟩ : Oper) := by kernel_rfl
  refine wpOp_guarded (d := 95) ho rfl rfl n15 ?_
  clear hN hI ho
  go_simp
  first | exact ⟨_, rfl, rfl⟩ | exact ⟨_, rfl, rfl, .inl (Below.refl _ _)⟩
theorem sY_20 : StY 20 := by
  intro ops Q hops w0 ok1 ok2 g1 g2 bs t es hb0 hb1 i T1 b gb e cs he q hq hql hx a w h0 h1 h8 h9 h11 h10 h12 h14 h15 h13 hN hI
  subst hops
  have n15 : a.tmps[95]?.getD undef = .bool true := hN 15 (by decide)
  have n19 : a.tmps[99]?.getD undef = .pointer (some ⟨g2, 2, none⟩) := hN 19 (by decide)
  have hi0 : (fun (w : World) => (Log w ok1 g1 bs t es ∧ LogX w ok2 g2 bs t es ∧ Below w0.heap.size w0 w) ∧ w.heap[gb]? = some (.cells cs.toArray 60 (0, 0)) ∧ k60.K w e cs) w := hI 0 (by decide) (by decide)
  have ho : (opsOf Try.f26 10)[20]? = some (⟨some 100, .load 35 (.tmp 99), 35, "law.go:70", #[⟨19, .data⟩, ⟨15, .guard⟩], some (15, true)⟩ : Oper) := by kernel_rfl
  refine wpOp_guarded (d := 95) ho rfl rfl n15 ?_
  clear hN hI ho
  obtain ⟨A0, c0, q0, q1, q2, hc, hr⟩ := hi0.1.2.1.cells
  clear hi0 q0 q1
  have HR := Aside0.mk hr
  clear hr
  go_simp
  first | exact ⟨_, rfl, ⟨A0, c0, rfl, hc, HR.out⟩⟩ | exact ⟨_, rfl, ⟨A0, c0, rfl, hc, HR.out⟩, .inl (Below.refl _ _)⟩
theorem sY_21 : StY 21 := by
  intro ops Q hops w0 ok1 ok2 g1 g2 bs t es hb0 hb1 i T1 b gb e cs he q hq hql hx a w h0 h1 h8 h9 h11 h10 h12 h14 h15 h13 hN hI
  subst hops
  have n15 : a.tmps[95]?.getD undef = .bool true := hN 15 (by decide)
  have ho : (opsOf Try.f26 10)[21]? = some (⟨some 101, .move (.tmp 8), 3, "law.go:70", #[⟨15, .guard⟩], some (15, true)⟩ : Oper) := by kernel_rfl
  refine wpOp_guarded (d := 95) ho rfl rfl n15 ?_
  clear hN hI ho
  go_simp
  first | exact ⟨_, rfl, rfl⟩ | exact ⟨_, rfl, rfl, .inl (Below.refl _ _)⟩
theorem sY_22 : StY 22 := by
  intro ops Q hops w0 ok1 ok2 g1 g2 bs t es hb0 hb1 i T1 b gb e cs he q hq hql hx a w h0 h1 h8 h9 h11 h10 h12 h14 h15 h13 hN hI
  subst hops
  have n15 : a.tmps[95]?.getD undef = .bool true := hN 15 (by decide)
  have ho : (opsOf Try.f26 10)[22]? = some (⟨some 102, .move (.tmp 1), 45, "law.go:70", #[⟨15, .guard⟩], some (15, true)⟩ : Oper) := by kernel_rfl
  refine wpOp_guarded (d := 95) ho rfl rfl n15 ?_
  clear hN hI ho
  go_simp
  first | exact ⟨_, rfl, rfl⟩ | exact ⟨_, rfl, rfl, .inl (Below.refl _ _)⟩
theorem sY_23 : StY 23 := by
  intro ops Q hops w0 ok1 ok2 g1 g2 bs t es hb0 hb1 i T1 b gb e cs he q hq hql hx a w h0 h1 h8 h9 h11 h10 h12 h14 h15 h13 hN hI
  subst hops
  have n15 : a.tmps[95]?.getD undef = .bool true := hN 15 (by decide)
  have n22 : a.tmps[102]?.getD undef = .pointer (some ⟨g2, 0, none⟩) := hN 22 (by decide)
  have ho : (opsOf Try.f26 10)[23]? = some (⟨some 103, .nilCheck (.tmp 102), 0, "law.go:70", #[⟨22, .data⟩, ⟨15, .guard⟩], some (15, true)⟩ : Oper) := by kernel_rfl
  refine wpOp_guarded (d := 95) ho rfl rfl n15 ?_
  clear hN hI ho
  go_simp
  first | exact ⟨_, rfl, rfl⟩ | exact ⟨_, rfl, rfl, .inl (Below.refl _ _)⟩
theorem sY_24 : StY 24 := by
  intro ops Q hops w0 ok1 ok2 g1 g2 bs t es hb0 hb1 i T1 b gb e cs he q hq hql hx a w h0 h1 h8 h9 h11 h10 h12 h14 h15 h13 hN hI
  subst hops
  have n15 : a.tmps[95]?.getD undef = .bool true := hN 15 (by decide)
  have n23 : a.tmps[103]?.getD undef = .pointer (some ⟨g2, 0, none⟩) := hN 23 (by decide)
  have ho : (opsOf Try.f26 10)[24]? = some (⟨some 104, .fieldAddr 47 (.tmp 103) 0, 0, "law.go:70", #[⟨23, .data⟩, ⟨15, .guard⟩], some (15, true)⟩ : Oper) := by kernel_rfl
  refine wpOp_guarded (d := 95) ho rfl rfl n15 ?_
  clear hN hI ho
  go_simp
  first | exact ⟨_, rfl, rfl⟩ | exact ⟨_, rfl, rfl, .inl (Below.refl _ _)⟩
theorem sY_25 : StY 25 := by
  intro ops Q hops w0 ok1 ok2 g1 g2 bs t es hb0 hb1 i T1 b gb e cs he q hq hql hx a w h0 h1 h8 h9 h11 h10 h12 h14 h15 h13 hN hI
  subst hops
  have n15 : a.tmps[95]?.getD undef = .bool true := hN 15 (by decide)
  have n24 : a.tmps[104]?.getD undef = .pointer (some ⟨g2, 0, none⟩) := hN 24 (by decide)
  have hi0 : (fun (w : World) => (Log w ok1 g1 bs t es ∧ LogX w ok2 g2 bs t es ∧ Below w0.heap.size w0 w) ∧ w.heap[gb]? = some (.cells cs.toArray 60 (0, 0)) ∧ k60.K w e cs) w := hI 0 (by decide) (by decide)
  have ho : (opsOf Try.f26 10)[25]? = some (⟨some 105, .load 3 (.tmp 104), 3, "law.go:70", #[⟨24, .data⟩, ⟨15, .guard⟩], some (15, true)⟩ : Oper) := by kernel_rfl
  refine wpOp_guarded (d := 95) ho rfl rfl n15 ?_
  clear hN hI ho
  have hc : w.cell? ⟨g2, 0, none⟩ = some (.int .i64 bs) := by
    obtain ⟨_, v0, hh, hR⟩ := hi0.1.2.1
    simp [World.cell?, hh]
  clear hi0
  go_simp
  first | exact ⟨_, rfl, rfl⟩ | exact ⟨_, rfl, rfl, .inl (Below.refl _ _)⟩
theorem sY_26 : StY 26 := by
  intro ops Q hops w0 ok1 ok2 g1 g2 bs t es hb0 hb1 i T1 b gb e cs he q hq hql hx a w h0 h1 h8 h9 h11 h10 h12 h14 h15 h13 hN hI
  subst hops
  have n15 : a.tmps[95]?.getD undef = .bool true := hN 15 (by decide)
  have n21 : a.tmps[101]?.getD undef = .int .i64 i := hN 21 (by decide)
  have n25 : a.tmps[105]?.getD undef = .int .i64 bs := hN 25 (by decide)
  have ho : (opsOf Try.f26 10)[26]? = some (⟨some 106, .binOp .sub 3 (.tmp 101) (.tmp 105) 3, 3, "law.go:70", #[⟨21, .data⟩, ⟨25, .data⟩, ⟨15, .guard⟩], some (15, true)⟩ : Oper) := by kernel_rfl
  refine wpOp_guarded (d := 95) ho rfl rfl n15 ?_
  clear hN hI ho
  have hk : IntKind.i64.wrap (i - bs) = (q : Int) + 1 := by rw [i64_w]; unfold wrap64; omega
  go_simp
  first | exact ⟨_, rfl, rfl⟩ | exact ⟨_, rfl, rfl, .inl (Below.refl _ _)⟩
theorem sY_27 : StY 27 := by
  intro ops Q hops w0 ok1 ok2 g1 g2 bs t es hb0 hb1 i T1 b gb e cs he q hq hql hx a w h0 h1 h8 h9 h11 h10 h12 h14 h15 h13 hN hI
  subst hops
  have n15 : a.tmps[95]?.getD undef = .bool true := hN 15 (by decide)
  have n26 : a.tmps[106]?.getD undef = .int .i64 ((q : Int) + 1) := hN 26 (by decide)
  have ho : (opsOf Try.f26 10)[27]? = some (⟨some 107, .binOp .sub 3 (.tmp 106) (.const (Value.int .i64 1)) 3, 3, "law.go:70", #[⟨26, .data⟩, ⟨15, .guard⟩], some (15, true)⟩ : Oper) := by kernel_rfl
  refine wpOp_guarded (d := 95) ho rfl rfl n15 ?_
  clear hN hI ho
  have hk : IntKind.i64.wrap ((q : Int) + 1 - 1) = (q : Int) := by rw [i64_w]; unfold wrap64; omega
  have hk3 : IntKind.i64.wrap (q : Int) = (q : Int) := by rw [i64_w]; unfold wrap64; omega
  go_simp
  first | exact ⟨_, rfl, rfl⟩ | exact ⟨_, rfl, rfl, .inl (Below.refl _ _)⟩
theorem sY_28 : StY 28 := by
  intro ops Q hops w0 ok1 ok2 g1 g2 bs t es hb0 hb1 i T1 b gb e cs he q hq hql hx a w h0 h1 h8 h9 h11 h10 h12 h14 h15 h13 hN hI
  subst hops
  have n15 : a.tmps[95]?.getD undef = .bool true := hN 15 (by decide)
  have n20 : (fun (v : Value) (w : World) => ∃ A c, v = .slice A es.length c ∧ es.length ≤ c ∧ Kd.C k60 w A es.length es) (a.tmps[100]?.getD undef) w := hN 20 (by decide)
  have n27 : a.tmps[107]?.getD undef = .int .i64 (q : Int) := hN 27 (by decide)
  have ho : (opsOf Try.f26 10)[28]? = some (⟨some 108, .indexAddr 35 (.tmp 100) (.tmp 107), 0, "law.go:70", #[⟨20, .data⟩, ⟨27, .data⟩, ⟨15, .guard⟩], some (15, true)⟩ : Oper) := by kernel_rfl
  refine wpOp_guarded (d := 95) ho rfl rfl n15 ?_
  clear hN hI ho
  obtain ⟨A, c, hv, hc, hC⟩ := n20
  obtain ⟨ad, rfl, -⟩ := hC.2.2 (by omega)
  have HC := Aside0.mk hC
  have q0 : (0 : Int) ≤ (q : Int) := by omega
  have q1 : (q : Int) < (es.length : Int) := by omega
  clear hC
  go_simp
  have HE := EntAt.mk q HC.out
  first | exact ⟨_, rfl, HE⟩ | exact ⟨_, rfl, HE, .inl (Below.refl _ _)⟩ | exact HE
theorem sY_29 : StY 29 := by
  intro ops Q hops w0 ok1 ok2 g1 g2 bs t es hb0 hb1 i T1 b gb e cs he q hq hql hx a w h0 h1 h8 h9 h11 h10 h12 h14 h15 h13 hN hI
  subst hops
  have n15 : a.tmps[95]?.getD undef = .bool true := hN 15 (by decide)
  have n28 : (fun (v : Value) (w : World) => EntAt w es q v) (a.tmps[108]?.getD undef) w := hN 28 (by decide)
  have ho : (opsOf Try.f26 10)[29]? = some (⟨some 109, .load 60 (.tmp 108), 60, "law.go:70", #[⟨28, .data⟩, ⟨15, .guard⟩], some (15, true)⟩ : Oper) := by kernel_rfl
  refine wpOp_guarded (d := 95) ho rfl rfl n15 ?_
  clear hN hI ho
  obtain ⟨ad, hv, hC⟩ := EntAt.out n28
  have hC2 := hC
  obtain ⟨ad', A9, c9, A13, c13, hadd, y0, y1, y2, y3, y4, y5, y6, y7, y8, y9, y10, y11, y12, y13, l9, g9, l13, g13⟩ := at_T60 hC2 (q : Int) (by omega) (by omega)
  injection hadd with hadd
  subst hadd
  rw [Int.toNat_natCast] at y0 y1 y2 y3 y4 y5 y6 y7 y8 y9 y10 y11 y12 y13
  rw [hx] at y0 y1 y2 y3 y4 y5 y6 y7 y8 y9 y10 y11 y12 y13 l9 g9 l13 g13
  have HX := Aside0.mk (k60_mk w e l9 g9 l13 g13)
  clear hC hC2 l9 g9 l13 g13
  go_simp
  first | exact ⟨_, rfl, ⟨_, rfl, HX.out⟩⟩ | exact ⟨_, rfl, ⟨_, rfl, HX.out⟩, .inl (Below.refl _ _)⟩
theorem sY_30 : StY 30 := by
  intro ops Q hops w0 ok1 ok2 g1 g2 bs t es hb0 hb1 i T1 b gb e cs he q hq hql hx a w h0 h1 h8 h9 h11 h10 h12 h14 h15 h13 hN hI
  subst hops
  have n15 : a.tmps[95]?.getD undef = .bool true := hN 15 (by decide)
  have n16 : (fun (v : Value) (w : World) => v = .agg cs.toArray) (a.tmps[96]?.getD undef) w := hN 16 (by decide)
  have n29 : (fun (v : Value) (w : World) => ∃ cs2, v = .agg cs2.toArray ∧ k60.K w e cs2) (a.tmps[109]?.getD undef) w := hN 29 (by decide)
  have hi0 : (fun (w : World) => (Log w ok1 g1 bs t es ∧ LogX w ok2 g2 bs t es ∧ Below w0.heap.size w0 w) ∧ w.heap[gb]? = some (.cells cs.toArray 60 (0, 0)) ∧ k60.K w e cs) w := hI 0 (by decide) (by decide)
  have ho : (opsOf Try.f26 10)[30]? = some (⟨some 110, .call { callee := .value (.func 30), args := #[.tmp 96, .tmp 109], argTypes := #[60, 60] }, 4, "law.go:70", #[⟨16, .data⟩, ⟨29, .data⟩, ⟨15, .chain⟩, ⟨15, .guard⟩], some (15, true)⟩ : Oper) := by kernel_rfl
  refine wpOp_guarded (d := 95) ho rfl rfl n15 ?_
  clear hN hI ho
  obtain ⟨cs2, hv2, hK2⟩ := n29
  have hv1 : a.tmps[96]?.getD undef = .agg cs.toArray := n16
  obtain ⟨hS, hh, hK⟩ := hi0
  have HH := Aside0.mk (one_eq w e cs cs2 he hK hK2)
  clear hS hh hK hK2
  go_simp
  refine HH.out.mono ?_
  rintro e w' ⟨rfl, hb⟩
  exact ⟨_, rfl, rfl, .inl hb⟩
theorem sY_31 : StY 31 := by
  intro ops Q hops w0 ok1 ok2 g1 g2 bs t es hb0 hb1 i T1 b gb e cs he q hq hql hx a w h0 h1 h8 h9 h11 h10 h12 h14 h15 h13 hN hI
  subst hops
  have n15 : a.tmps[95]?.getD undef = .bool true := hN 15 (by decide)
  have n30 : a.tmps[110]?.getD undef = .bool true := hN 30 (by decide)
  have ho : (opsOf Try.f26 10)[31]? = some (⟨some 111, .unOp .not 4 (.tmp 110), 4, "law.go:70", #[⟨30, .data⟩, ⟨15, .guard⟩], some (15, true)⟩ : Oper) := by kernel_rfl
  refine wpOp_guarded (d := 95) ho rfl rfl n15 ?_
  clear hN hI ho
  go_simp
  first | exact ⟨_, rfl, rfl⟩ | exact ⟨_, rfl, rfl, .inl (Below.refl _ _)⟩
theorem sY_32 : StY 32 := by
  intro ops Q hops w0 ok1 ok2 g1 g2 bs t es hb0 hb1 i T1 b gb e cs he q hq hql hx a w h0 h1 h8 h9 h11 h10 h12 h14 h15 h13 hN hI
  subst hops
  have n13 : a.tmps[93]?.getD undef = .bool false := hN 13 (by decide)
  have n15 : a.tmps[95]?.getD undef = .bool true := hN 15 (by decide)
  have n31 : a.tmps[111]?.getD undef = .bool false := hN 31 (by decide)
  have ho : (opsOf Try.f26 10)[32]? = some (⟨some 112, .pick (.tmp 95) (.tmp 111) (.const (Value.bool false)), 4, "law.go:70", #[⟨15, .data⟩, ⟨31, .data⟩, ⟨13, .guard⟩], some (13, false)⟩ : Oper) := by kernel_rfl
  refine wpOp_guarded (d := 93) ho rfl rfl n13 ?_
  clear hN hI ho
  go_simp
  first | exact ⟨_, rfl, rfl⟩ | exact ⟨_, rfl, rfl, .inl (Below.refl _ _)⟩
theorem sY_33 : StY 33 := by
  intro ops Q hops w0 ok1 ok2 g1 g2 bs t es hb0 hb1 i T1 b gb e cs he q hq hql hx a w h0 h1 h8 h9 h11 h10 h12 h14 h15 h13 hN hI
  subst hops
  have n13 : a.tmps[93]?.getD undef = .bool false := hN 13 (by decide)
  have n32 : a.tmps[112]?.getD undef = .bool false := hN 32 (by decide)
  have ho : (opsOf Try.f26 10)[33]? = some (⟨some 113, .pick (.tmp 93) (.const (Value.bool true)) (.tmp 112), 4, "law.go:70", #[⟨13, .data⟩, ⟨32, .data⟩], none⟩ : Oper) := by kernel_rfl
  refine wpOp_plain ho rfl ?_
  clear hN hI ho
  go_simp
  first | exact ⟨_, rfl, rfl⟩ | exact ⟨_, rfl, rfl, .inl (Below.refl _ _)⟩
theorem sY_34 : StY 34 := by
  intro ops Q hops w0 ok1 ok2 g1 g2 bs t es hb0 hb1 i T1 b gb e cs he q hq hql hx a w h0 h1 h8 h9 h11 h10 h12 h14 h15 h13 hN hI
  subst hops
  have n33 : a.tmps[113]?.getD undef = .bool false := hN 33 (by decide)
  have ho : (opsOf Try.f26 10)[34]? = some (⟨some 114, .move (.tmp 113), 4, "law.go:70", #[⟨33, .data⟩, ⟨30, .chain⟩], none⟩ : Oper) := by kernel_rfl
  refine wpOp_plain ho rfl ?_
  clear hN hI ho
  go_simp
  first | exact ⟨_, rfl, rfl⟩ | exact ⟨_, rfl, rfl, .inl (Below.refl _ _)⟩
theorem sY_35 : StY 35 := by
  intro ops Q hops w0 ok1 ok2 g1 g2 bs t es hb0 hb1 i T1 b gb e cs he q hq hql hx a w h0 h1 h8 h9 h11 h10 h12 h14 h15 h13 hN hI
  subst hops
  have n34 : a.tmps[114]?.getD undef = .bool false := hN 34 (by decide)
  have ho : (opsOf Try.f26 10)[35]? = some (⟨some 115, .move (.tmp 15), 4, "law.go:70", #[⟨34, .guard⟩], some (34, false)⟩ : Oper) := by kernel_rfl
  refine wpOp_guarded (d := 114) ho rfl rfl n34 ?_
  clear hN hI ho
  go_simp
  first | exact ⟨_, rfl, rfl⟩ | exact ⟨_, rfl, rfl, .inl (Below.refl _ _)⟩
theorem sY_36 : StY 36 := by
  intro ops Q hops w0 ok1 ok2 g1 g2 bs t es hb0 hb1 i T1 b gb e cs he q hq hql hx a w h0 h1 h8 h9 h11 h10 h12 h14 h15 h13 hN hI
  subst hops
  have n34 : a.tmps[114]?.getD undef = .bool false := hN 34 (by decide)
  have n35 : a.tmps[115]?.getD undef = .bool true := hN 35 (by decide)
  have ho : (opsOf Try.f26 10)[36]? = some (⟨some 116, .unOp .not 4 (.tmp 115), 4, "law.go:70", #[⟨35, .data⟩, ⟨34, .guard⟩], some (34, false)⟩ : Oper) := by kernel_rfl
  refine wpOp_guarded (d := 114) ho rfl rfl n34 ?_
  clear hN hI ho
  go_simp
  first | exact ⟨_, rfl, rfl⟩ | exact ⟨_, rfl, rfl, .inl (Below.refl _ _)⟩
theorem sY_37 : StY 37 := by
  intro ops Q hops w0 ok1 ok2 g1 g2 bs t es hb0 hb1 i T1 b gb e cs he q hq hql hx a w h0 h1 h8 h9 h11 h10 h12 h14 h15 h13 hN hI
  subst hops
  have n34 : a.tmps[114]?.getD undef = .bool false := hN 34 (by decide)
  have n36 : a.tmps[116]?.getD undef = .bool false := hN 36 (by decide)
  have ho : (opsOf Try.f26 10)[37]? = some (⟨some 117, .move (.tmp 116), 4, "law.go:70", #[⟨36, .data⟩, ⟨34, .chain⟩, ⟨34, .guard⟩], some (34, false)⟩ : Oper) := by kernel_rfl
  refine wpOp_guarded (d := 114) ho rfl rfl n34 ?_
  clear hN hI ho
  go_simp
  first | exact ⟨_, rfl, rfl⟩ | exact ⟨_, rfl, rfl, .inl (Below.refl _ _)⟩
theorem sY_38 : StY 38 := by
  intro ops Q hops w0 ok1 ok2 g1 g2 bs t es hb0 hb1 i T1 b gb e cs he q hq hql hx a w h0 h1 h8 h9 h11 h10 h12 h14 h15 h13 hN hI
  subst hops
  have n37 : a.tmps[117]?.getD undef = .bool false := hN 37 (by decide)
  have ho : (opsOf Try.f26 10)[38]? = some (⟨some 118, .load 60 (.tmp 13), 60, "law.go:70", #[⟨37, .guard⟩], some (37, true)⟩ : Oper) := by kernel_rfl
  refine wpOp_skip (b' := false) (d := 117) ho rfl rfl n37 rfl ?_
  exact ⟨undef, rfl, rfl, .inl (Below.refl _ _)⟩
theorem sY_39 : StY 39 := by
  intro ops Q hops w0 ok1 ok2 g1 g2 bs t es hb0 hb1 i T1 b gb e cs he q hq hql hx a w h0 h1 h8 h9 h11 h10 h12 h14 h15 h13 hN hI
  subst hops
  have n37 : a.tmps[117]?.getD undef = .bool false := hN 37 (by decide)
  have ho : (opsOf Try.f26 10)[39]? = some (⟨some 119, .build 60 #[], 60, "law.go:70", #[⟨37, .guard⟩], some (37, true)⟩ : Oper) := by kernel_rfl
  refine wpOp_skip (b' := false) (d := 117) ho rfl rfl n37 rfl ?_
  exact ⟨undef, rfl, rfl, .inl (Below.refl _ _)⟩
theorem sY_40 : StY 40 := by
  intro ops Q hops w0 ok1 ok2 g1 g2 bs t es hb0 hb1 i T1 b gb e cs he q hq hql hx a w h0 h1 h8 h9 h11 h10 h12 h14 h15 h13 hN hI
  subst hops
  have n37 : a.tmps[117]?.getD undef = .bool false := hN 37 (by decide)
  have n38 : a.tmps[118]?.getD undef = undef := hN 38 (by decide)
  have n39 : a.tmps[119]?.getD undef = undef := hN 39 (by decide)
  have ho : (opsOf Try.f26 10)[40]? = some (⟨some 120, .call { callee := .value (.func 30), args := #[.tmp 118, .tmp 119], argTypes := #[60, 60] }, 4, "law.go:70", #[⟨38, .data⟩, ⟨39, .data⟩, ⟨37, .chain⟩, ⟨37, .guard⟩], some (37, true)⟩ : Oper) := by kernel_rfl
  refine wpOp_skip (b' := false) (d := 117) ho rfl rfl n37 rfl ?_
  exact ⟨undef, rfl, rfl, .inl (Below.refl _ _)⟩
theorem sY_41 : StY 41 := by
  intro ops Q hops w0 ok1 ok2 g1 g2 bs t es hb0 hb1 i T1 b gb e cs he q hq hql hx a w h0 h1 h8 h9 h11 h10 h12 h14 h15 h13 hN hI
  subst hops
  have n37 : a.tmps[117]?.getD undef = .bool false := hN 37 (by decide)
  have n40 : a.tmps[120]?.getD undef = undef := hN 40 (by decide)
  have ho : (opsOf Try.f26 10)[41]? = some (⟨some 121, .unOp .not 4 (.tmp 120), 4, "law.go:70", #[⟨40, .data⟩, ⟨37, .guard⟩], some (37, true)⟩ : Oper) := by kernel_rfl
  refine wpOp_skip (b' := false) (d := 117) ho rfl rfl n37 rfl ?_
  exact ⟨undef, rfl, rfl, .inl (Below.refl _ _)⟩
theorem sY_42 : StY 42 := by
  intro ops Q hops w0 ok1 ok2 g1 g2 bs t es hb0 hb1 i T1 b gb e cs he q hq hql hx a w h0 h1 h8 h9 h11 h10 h12 h14 h15 h13 hN hI
  subst hops
  have n34 : a.tmps[114]?.getD undef = .bool false := hN 34 (by decide)
  have n37 : a.tmps[117]?.getD undef = .bool false := hN 37 (by decide)
  have n41 : a.tmps[121]?.getD undef = undef := hN 41 (by decide)
  have ho : (opsOf Try.f26 10)[42]? = some (⟨some 122, .pick (.tmp 117) (.tmp 121) (.const (Value.bool false)), 4, "law.go:70", #[⟨37, .data⟩, ⟨41, .data⟩, ⟨34, .guard⟩], some (34, false)⟩ : Oper) := by kernel_rfl
  refine wpOp_guarded (d := 114) ho rfl rfl n34 ?_
  clear hN hI ho
  go_simp
  first | exact ⟨_, rfl, rfl⟩ | exact ⟨_, rfl, rfl, .inl (Below.refl _ _)⟩
theorem sY_43 : StY 43 := by
  intro ops Q hops w0 ok1 ok2 g1 g2 bs t es hb0 hb1 i T1 b gb e cs he q hq hql hx a w h0 h1 h8 h9 h11 h10 h12 h14 h15 h13 hN hI
  subst hops
  have n34 : a.tmps[114]?.getD undef = .bool false := hN 34 (by decide)
  have n42 : a.tmps[122]?.getD undef = .bool false := hN 42 (by decide)
  have ho : (opsOf Try.f26 10)[43]? = some (⟨some 123, .pick (.tmp 114) (.const (Value.bool true)) (.tmp 122), 4, "law.go:70", #[⟨34, .data⟩, ⟨42, .data⟩], none⟩ : Oper) := by kernel_rfl
  refine wpOp_plain ho rfl ?_
  clear hN hI ho
  go_simp
  first | exact ⟨_, rfl, rfl⟩ | exact ⟨_, rfl, rfl, .inl (Below.refl _ _)⟩
theorem sY_44 : StY 44 := by
  intro ops Q hops w0 ok1 ok2 g1 g2 bs t es hb0 hb1 i T1 b gb e cs he q hq hql hx a w h0 h1 h8 h9 h11 h10 h12 h14 h15 h13 hN hI
  subst hops
  have n43 : a.tmps[123]?.getD undef = .bool false := hN 43 (by decide)
  have ho : (opsOf Try.f26 10)[44]? = some (⟨some 124, .move (.tmp 123), 4, "law.go:70", #[⟨43, .data⟩, ⟨40, .chain⟩], none⟩ : Oper) := by kernel_rfl
  refine wpOp_plain ho rfl ?_
  clear hN hI ho
  go_simp
  first | exact ⟨_, rfl, rfl⟩ | exact ⟨_, rfl, rfl, .inl (Below.refl _ _)⟩
theorem sY_45 : StY 45 := by
  intro ops Q hops w0 ok1 ok2 g1 g2 bs t es hb0 hb1 i T1 b gb e cs he q hq hql hx a w h0 h1 h8 h9 h11 h10 h12 h14 h15 h13 hN hI
  subst hops
  have n44 : a.tmps[124]?.getD undef = .bool false := hN 44 (by decide)
  have ho : (opsOf Try.f26 10)[45]? = some (⟨some 125, .move (.tmp 0), 24, "law.go:70", #[⟨44, .guard⟩], some (44, false)⟩ : Oper) := by kernel_rfl
  refine wpOp_guarded (d := 124) ho rfl rfl n44 ?_
  clear hN hI ho
  go_simp
  first | exact ⟨_, rfl, rfl⟩ | exact ⟨_, rfl, rfl, .inl (Below.refl _ _)⟩
theorem sY_46 : StY 46 := by
  intro ops Q hops w0 ok1 ok2 g1 g2 bs t es hb0 hb1 i T1 b gb e cs he q hq hql hx a w h0 h1 h8 h9 h11 h10 h12 h14 h15 h13 hN hI
  subst hops
  have n44 : a.tmps[124]?.getD undef = .bool false := hN 44 (by decide)
  have ho : (opsOf Try.f26 10)[46]? = some (⟨some 126, .move (.tmp 8), 3, "law.go:70", #[⟨44, .guard⟩], some (44, false)⟩ : Oper) := by kernel_rfl
  refine wpOp_guarded (d := 124) ho rfl rfl n44 ?_
  clear hN hI ho
  go_simp
  first | exact ⟨_, rfl, rfl⟩ | exact ⟨_, rfl, rfl, .inl (Below.refl _ _)⟩
theorem sY_47 : StY 47 := by
  intro ops Q hops w0 ok1 ok2 g1 g2 bs t es hb0 hb1 i T1 b gb e cs he q hq hql hx a w h0 h1 h8 h9 h11 h10 h12 h14 h15 h13 hN hI
  subst hops
  have n44 : a.tmps[124]?.getD undef = .bool false := hN 44 (by decide)
  have n45 : a.tmps[125]?.getD undef = .pointer (some ⟨g1, 0, none⟩) := hN 45 (by decide)
  have n46 : a.tmps[126]?.getD undef = .int .i64 i := hN 46 (by decide)
  have hi0 : (fun (w : World) => (Log w ok1 g1 bs t es ∧ LogX w ok2 g2 bs t es ∧ Below w0.heap.size w0 w) ∧ w.heap[gb]? = some (.cells cs.toArray 60 (0, 0)) ∧ k60.K w e cs) w := hI 0 (by decide) (by decide)
  have ho : (opsOf Try.f26 10)[47]? = some (⟨some 127, .call { callee := .value (.func 18), args := #[.tmp 125, .tmp 126], argTypes := #[24, 3] }, 3, "law.go:70", #[⟨45, .data⟩, ⟨46, .data⟩, ⟨44, .chain⟩, ⟨44, .guard⟩], some (44, false)⟩ : Oper) := by kernel_rfl
  refine wpOp_guarded (d := 124) ho rfl rfl n44 ?_
  clear hN hI ho
  have HH := Aside0.mk (hint_calls hi0.1.1 hb0 hb1 i)
  clear hi0
  go_simp
  refine HH.out.mono ?_
  rintro e w' ⟨rfl, m, rfl⟩
  exact ⟨_, rfl, rfl, .inl (pw_below_drewN (Below.refl _ _) m)⟩
theorem sY_48 : StY 48 := by
  intro ops Q hops w0 ok1 ok2 g1 g2 bs t es hb0 hb1 i T1 b gb e cs he q hq hql hx a w h0 h1 h8 h9 h11 h10 h12 h14 h15 h13 hN hI
  subst hops
  have n44 : a.tmps[124]?.getD undef = .bool false := hN 44 (by decide)
  have ho : (opsOf Try.f26 10)[48]? = some (⟨some 128, .move (.tmp 1), 45, "law.go:70", #[⟨44, .guard⟩], some (44, false)⟩ : Oper) := by kernel_rfl
  refine wpOp_guarded (d := 124) ho rfl rfl n44 ?_
  clear hN hI ho
  go_simp
  first | exact ⟨_, rfl, rfl⟩ | exact ⟨_, rfl, rfl, .inl (Below.refl _ _)⟩
theorem sY_49 : StY 49 := by
  intro ops Q hops w0 ok1 ok2 g1 g2 bs t es hb0 hb1 i T1 b gb e cs he q hq hql hx a w h0 h1 h8 h9 h11 h10 h12 h14 h15 h13 hN hI
  subst hops
  have n44 : a.tmps[124]?.getD undef = .bool false := hN 44 (by decide)
  have ho : (opsOf Try.f26 10)[49]? = some (⟨some 129, .move (.tmp 8), 3, "law.go:70", #[⟨44, .guard⟩], some (44, false)⟩ : Oper) := by kernel_rfl
  refine wpOp_guarded (d := 124) ho rfl rfl n44 ?_
  clear hN hI ho
  go_simp
  first | exact ⟨_, rfl, rfl⟩ | exact ⟨_, rfl, rfl, .inl (Below.refl _ _)⟩
theorem sY_50 : StY 50 := by
  intro ops Q hops w0 ok1 ok2 g1 g2 bs t es hb0 hb1 i T1 b gb e cs he q hq hql hx a w h0 h1 h8 h9 h11 h10 h12 h14 h15 h13 hN hI
  subst hops
  have n44 : a.tmps[124]?.getD undef = .bool false := hN 44 (by decide)
  have n48 : a.tmps[128]?.getD undef = .pointer (some ⟨g2, 0, none⟩) := hN 48 (by decide)
  have n49 : a.tmps[129]?.getD undef = .int .i64 i := hN 49 (by decide)
  have hi0 : (fun (w : World) => (Log w ok1 g1 bs t es ∧ LogX w ok2 g2 bs t es ∧ Below w0.heap.size w0 w) ∧ w.heap[gb]? = some (.cells cs.toArray 60 (0, 0)) ∧ k60.K w e cs) w := hI 0 (by decide) (by decide)
  have ho : (opsOf Try.f26 10)[50]? = some (⟨some 130, .call { callee := .value (.func 35), args := #[.tmp 128, .tmp 129], argTypes := #[45, 3] }, 3, "law.go:70", #[⟨48, .data⟩, ⟨49, .data⟩, ⟨47, .chain⟩, ⟨44, .guard⟩], some (44, false)⟩ : Oper) := by kernel_rfl
  refine wpOp_guarded (d := 124) ho rfl rfl n44 ?_
  clear hN hI ho
  have HH := Aside0.mk (hint_x hi0.1.2.1 hb0 hb1 i)
  clear hi0
  go_simp
  refine HH.out.mono ?_
  rintro e w' ⟨rfl, m, rfl⟩
  exact ⟨_, rfl, rfl, .inl (pw_below_drewN (Below.refl _ _) m)⟩
theorem sY_51 : StY 51 := by
  intro ops Q hops w0 ok1 ok2 g1 g2 bs t es hb0 hb1 i T1 b gb e cs he q hq hql hx a w h0 h1 h8 h9 h11 h10 h12 h14 h15 h13 hN hI
  subst hops
  have n44 : a.tmps[124]?.getD undef = .bool false := hN 44 (by decide)
  have n47 : a.tmps[127]?.getD undef = .int .i64 (hintL bs t es i) := hN 47 (by decide)
  have n50 : a.tmps[130]?.getD undef = .int .i64 (hintL bs t es i) := hN 50 (by decide)
  have ho : (opsOf Try.f26 10)[51]? = some (⟨some 131, .binOp .neq 3 (.tmp 127) (.tmp 130) 3, 4, "law.go:70", #[⟨47, .data⟩, ⟨50, .data⟩, ⟨44, .guard⟩], some (44, false)⟩ : Oper) := by kernel_rfl
  refine wpOp_guarded (d := 124) ho rfl rfl n44 ?_
  clear hN hI ho
  go_simp
  first | exact ⟨_, rfl, rfl⟩ | exact ⟨_, rfl, rfl, .inl (Below.refl _ _)⟩
theorem sY_52 : StY 52 := by
  intro ops Q hops w0 ok1 ok2 g1 g2 bs t es hb0 hb1 i T1 b gb e cs he q hq hql hx a w h0 h1 h8 h9 h11 h10 h12 h14 h15 h13 hN hI
  subst hops
  have n44 : a.tmps[124]?.getD undef = .bool false := hN 44 (by decide)
  have n51 : a.tmps[131]?.getD undef = .bool false := hN 51 (by decide)
  have ho : (opsOf Try.f26 10)[52]? = some (⟨some 132, .pick (.tmp 124) (.const (Value.bool true)) (.tmp 131), 4, "law.go:70", #[⟨44, .data⟩, ⟨51, .data⟩], none⟩ : Oper) := by kernel_rfl
  refine wpOp_plain ho rfl ?_
  clear hN hI ho
  go_simp
  first | exact ⟨_, rfl, rfl⟩ | exact ⟨_, rfl, rfl, .inl (Below.refl _ _)⟩
theorem monoY (w0 : World) (ok1 ok2 : Nat → Prop) (g1 g2 : Nat) (bs t : Int) (es : List S60) (hb0 : 0 ≤ bs) (hb1 : bs + es.length ≤ 4611686018427387904) (i : Int) (T1 : Int) (b : Bool) (gb : Nat) (e : S60) (cs : List Value) (he : okS e) (q : Nat) (hq : i - bs - 1 = (q : Int)) (hql : q < es.length) (hx : rd_T60 es (q : Int) = e) (j : Nat) (v : Value) (w w' : World) (h : FY w0 ok1 ok2 g1 g2 bs t es hb0 hb1 i T1 b gb e cs he q hq hql hx j v w) (hb : Below w.heap.size w w') : FY w0 ok1 ok2 g1 g2 bs t es hb0 hb1 i T1 b gb e cs he q hq hql hx j v w' := by
  unfold FY at h ⊢
  split <;> first
    | exact True.intro
    | exact h
    | (obtain ⟨A, c, hv, hc, hC⟩ := h; exact ⟨A, c, hv, hc, Kd.C_below hC hb⟩)
    | exact EntAt.below h hb
    | (obtain ⟨cs2, hv, hK⟩ := h; exact ⟨cs2, hv, k60.K_below hb hK⟩)
theorem monoIY (w0 : World) (ok1 ok2 : Nat → Prop) (g1 g2 : Nat) (bs t : Int) (es : List S60) (hb0 : 0 ≤ bs) (hb1 : bs + es.length ≤ 4611686018427387904) (i : Int) (T1 : Int) (b : Bool) (gb : Nat) (e : S60) (cs : List Value) (he : okS e) (q : Nat) (hq : i - bs - 1 = (q : Int)) (hql : q < es.length) (hx : rd_T60 es (q : Int) = e) (c : Nat) (w w' : World) (h : IY w0 ok1 ok2 g1 g2 bs t es hb0 hb1 i T1 b gb e cs he q hq hql hx c w) (hb : Below w.heap.size w w') : IY w0 ok1 ok2 g1 g2 bs t es hb0 hb1 i T1 b gb e cs he q hq hql hx c w' := by
  unfold IY at h ⊢
  split <;> first
    | exact True.intro
    | exact ⟨⟨h.1.1.below hb, h.1.2.1.below hb, h.1.2.2.trans (hb.mono h.1.2.2.size)⟩, (hb.block gb (Array.getElem?_eq_some_iff.1 h.2.1).1).trans h.2.1, k60.K_below hb h.2.2⟩
theorem hinY : ∀ i, i < 53 → ∀ d, dstY i = some d → d < 160 := by
  have h2 : ∀ i, i < 53 → (dstY i).all (fun d => decide (d < 160)) = true := by decide
  intro i hi d hd
  have := h2 i hi
  rw [hd] at this
  simpa using this
set_option maxRecDepth 100000 in
theorem regionY {ops : Array Oper} {Q : Exit → Act → World → Prop} (hops : ops = opsOf Try.f26 10) {id_ : Nat} (w0 : World) (ok1 ok2 : Nat → Prop) (g1 g2 : Nat) (bs t : Int) (es : List S60) (hb0 : 0 ≤ bs) (hb1 : bs + es.length ≤ 4611686018427387904) (i : Int) (T1 : Int) (b : Bool) (gb : Nat) (e : S60) (cs : List Value) (he : okS e) (q : Nat) (hq : i - bs - 1 = (q : Int)) (hql : q < es.length) (hx : rd_T60 es (q : Int) = e) (a0 : Act) (w0_ : World) (hI0 : ∀ c, IY w0 ok1 ok2 g1 g2 bs t es hb0 hb1 i T1 b gb e cs he q hq hql hx c w0_) (hsz : a0.tmps.size = 160) (h0 : a0.tmps[0]?.getD undef = .pointer (some ⟨g1, 0, none⟩)) (h1 : a0.tmps[1]?.getD undef = .pointer (some ⟨g2, 0, none⟩)) (h8 : a0.tmps[8]?.getD undef = .int .i64 i) (h9 : a0.tmps[9]?.getD undef = .int .i64 T1) (h11 : a0.tmps[11]?.getD undef = .int .i64 T1) (h10 : a0.tmps[10]?.getD undef = .bool b) (h12 : a0.tmps[12]?.getD undef = .bool b) (h14 : a0.tmps[14]?.getD undef = .bool true) (h15 : a0.tmps[15]?.getD undef = .bool true) (h13 : a0.tmps[13]?.getD undef = .pointer (some ⟨gb, 0, none⟩))
    (hQ : ∀ a w, AgreeO 53 dstY a0 a → FY w0 ok1 ok2 g1 g2 bs t es hb0 hb1 i T1 b gb e cs he q hq hql hx 52 (slotO dstY a 52) w → IY w0 ok1 ok2 g1 g2 bs t es hb0 hb1 i T1 b gb e cs he q hq hql hx 0 w → Q .normal a w) : (Code.region id_ ops true).wp Try.prog Q a0 w0_ := by
  refine region_heldB (n := 53) dstY (FY w0 ok1 ok2 g1 g2 bs t es hb0 hb1 i T1 b gb e cs he q hq hql hx) (IY w0 ok1 ok2 g1 g2 bs t es hb0 hb1 i T1 b gb e cs he q hq hql hx) 1 ndY ncY usY killY killIY useIY (by kernel_rfl) (by rw [hops]; kernel_rfl) (by decide) ?_ (fun j v w w' _ h hb => monoY w0 ok1 ok2 g1 g2 bs t es hb0 hb1 i T1 b gb e cs he q hq hql hx j v w w' h hb) (fun c w w' h hb => monoIY w0 ok1 ok2 g1 g2 bs t es hb0 hb1 i T1 b gb e cs he q hq hql hx c w w' h hb) hI0 (by rw [hops]; kernel_rfl) (by decide) (by decide) (by decide) (by decide) (by decide) ?_ (fun a w hA hF hI => hQ a w hA (hF 52 (by decide) (by decide)) (hI 0 (by decide) (by decide)))
  · intro i hi d hd
    rw [hsz]; exact hinY i hi d hd
  · intro i a w hi hA hN hI
    have h0 := (hA.old 0 (by decide)).trans h0
    have h1 := (hA.old 1 (by decide)).trans h1
    have h8 := (hA.old 8 (by decide)).trans h8
    have h9 := (hA.old 9 (by decide)).trans h9
    have h11 := (hA.old 11 (by decide)).trans h11
    have h10 := (hA.old 10 (by decide)).trans h10
    have h12 := (hA.old 12 (by decide)).trans h12
    have h14 := (hA.old 14 (by decide)).trans h14
    have h15 := (hA.old 15 (by decide)).trans h15
    have h13 := (hA.old 13 (by decide)).trans h13
    have hi' : i = 0 ∨ i = 1 ∨ i = 2 ∨ i = 3 ∨ i = 4 ∨ i = 5 ∨ i = 6 ∨ i = 7 ∨ i = 8 ∨ i = 9 ∨ i = 10 ∨ i = 11 ∨ i = 12 ∨ i = 13 ∨ i = 14 ∨ i = 15 ∨ i = 16 ∨ i = 17 ∨ i = 18 ∨ i = 19 ∨ i = 20 ∨ i = 21 ∨ i = 22 ∨ i = 23 ∨ i = 24 ∨ i = 25 ∨ i = 26 ∨ i = 27 ∨ i = 28 ∨ i = 29 ∨ i = 30 ∨ i = 31 ∨ i = 32 ∨ i = 33 ∨ i = 34 ∨ i = 35 ∨ i = 36 ∨ i = 37 ∨ i = 38 ∨ i = 39 ∨ i = 40 ∨ i = 41 ∨ i = 42 ∨ i = 43 ∨ i = 44 ∨ i = 45 ∨ i = 46 ∨ i = 47 ∨ i = 48 ∨ i = 49 ∨ i = 50 ∨ i = 51 ∨ i = 52 := by omega
    rcases hi' with rfl | rfl | rfl | rfl | rfl | rfl | rfl | rfl | rfl | rfl | rfl | rfl | rfl | rfl | rfl | rfl | rfl | rfl | rfl | rfl | rfl | rfl | rfl | rfl | rfl | rfl | rfl | rfl | rfl | rfl | rfl | rfl | rfl | rfl | rfl | rfl | rfl | rfl | rfl | rfl | rfl | rfl | rfl | rfl | rfl | rfl | rfl | rfl | rfl | rfl | rfl | rfl | rfl
    · exact sY_0 ops Q hops w0 ok1 ok2 g1 g2 bs t es hb0 hb1 i T1 b gb e cs he q hq hql hx a w h0 h1 h8 h9 h11 h10 h12 h14 h15 h13 hN hI
    · exact sY_1 ops Q hops w0 ok1 ok2 g1 g2 bs t es hb0 hb1 i T1 b gb e cs he q hq hql hx a w h0 h1 h8 h9 h11 h10 h12 h14 h15 h13 hN hI
    · exact sY_2 ops Q hops w0 ok1 ok2 g1 g2 bs t es hb0 hb1 i T1 b gb e cs he q hq hql hx a w h0 h1 h8 h9 h11 h10 h12 h14 h15 h13 hN hI
    · exact sY_3 ops Q hops w0 ok1 ok2 g1 g2 bs t es hb0 hb1 i T1 b gb e cs he q hq hql hx a w h0 h1 h8 h9 h11 h10 h12 h14 h15 h13 hN hI
    · exact sY_4 ops Q hops w0 ok1 ok2 g1 g2 bs t es hb0 hb1 i T1 b gb e cs he q hq hql hx a w h0 h1 h8 h9 h11 h10 h12 h14 h15 h13 hN hI
    · exact sY_5 ops Q hops w0 ok1 ok2 g1 g2 bs t es hb0 hb1 i T1 b gb e cs he q hq hql hx a w h0 h1 h8 h9 h11 h10 h12 h14 h15 h13 hN hI
    · exact sY_6 ops Q hops w0 ok1 ok2 g1 g2 bs t es hb0 hb1 i T1 b gb e cs he q hq hql hx a w h0 h1 h8 h9 h11 h10 h12 h14 h15 h13 hN hI
    · exact sY_7 ops Q hops w0 ok1 ok2 g1 g2 bs t es hb0 hb1 i T1 b gb e cs he q hq hql hx a w h0 h1 h8 h9 h11 h10 h12 h14 h15 h13 hN hI
    · exact sY_8 ops Q hops w0 ok1 ok2 g1 g2 bs t es hb0 hb1 i T1 b gb e cs he q hq hql hx a w h0 h1 h8 h9 h11 h10 h12 h14 h15 h13 hN hI
    · exact sY_9 ops Q hops w0 ok1 ok2 g1 g2 bs t es hb0 hb1 i T1 b gb e cs he q hq hql hx a w h0 h1 h8 h9 h11 h10 h12 h14 h15 h13 hN hI
    · exact sY_10 ops Q hops w0 ok1 ok2 g1 g2 bs t es hb0 hb1 i T1 b gb e cs he q hq hql hx a w h0 h1 h8 h9 h11 h10 h12 h14 h15 h13 hN hI
    · exact sY_11 ops Q hops w0 ok1 ok2 g1 g2 bs t es hb0 hb1 i T1 b gb e cs he q hq hql hx a w h0 h1 h8 h9 h11 h10 h12 h14 h15 h13 hN hI
    · exact sY_12 ops Q hops w0 ok1 ok2 g1 g2 bs t es hb0 hb1 i T1 b gb e cs he q hq hql hx a w h0 h1 h8 h9 h11 h10 h12 h14 h15 h13 hN hI
    · exact sY_13 ops Q hops w0 ok1 ok2 g1 g2 bs t es hb0 hb1 i T1 b gb e cs he q hq hql hx a w h0 h1 h8 h9 h11 h10 h12 h14 h15 h13 hN hI
    · exact sY_14 ops Q hops w0 ok1 ok2 g1 g2 bs t es hb0 hb1 i T1 b gb e cs he q hq hql hx a w h0 h1 h8 h9 h11 h10 h12 h14 h15 h13 hN hI
    · exact sY_15 ops Q hops w0 ok1 ok2 g1 g2 bs t es hb0 hb1 i T1 b gb e cs he q hq hql hx a w h0 h1 h8 h9 h11 h10 h12 h14 h15 h13 hN hI
    · exact sY_16 ops Q hops w0 ok1 ok2 g1 g2 bs t es hb0 hb1 i T1 b gb e cs he q hq hql hx a w h0 h1 h8 h9 h11 h10 h12 h14 h15 h13 hN hI
    · exact sY_17 ops Q hops w0 ok1 ok2 g1 g2 bs t es hb0 hb1 i T1 b gb e cs he q hq hql hx a w h0 h1 h8 h9 h11 h10 h12 h14 h15 h13 hN hI
    · exact sY_18 ops Q hops w0 ok1 ok2 g1 g2 bs t es hb0 hb1 i T1 b gb e cs he q hq hql hx a w h0 h1 h8 h9 h11 h10 h12 h14 h15 h13 hN hI
    · exact sY_19 ops Q hops w0 ok1 ok2 g1 g2 bs t es hb0 hb1 i T1 b gb e cs he q hq hql hx a w h0 h1 h8 h9 h11 h10 h12 h14 h15 h13 hN hI
    · exact sY_20 ops Q hops w0 ok1 ok2 g1 g2 bs t es hb0 hb1 i T1 b gb e cs he q hq hql hx a w h0 h1 h8 h9 h11 h10 h12 h14 h15 h13 hN hI
    · exact sY_21 ops Q hops w0 ok1 ok2 g1 g2 bs t es hb0 hb1 i T1 b gb e cs he q hq hql hx a w h0 h1 h8 h9 h11 h10 h12 h14 h15 h13 hN hI
    · exact sY_22 ops Q hops w0 ok1 ok2 g1 g2 bs t es hb0 hb1 i T1 b gb e cs he q hq hql hx a w h0 h1 h8 h9 h11 h10 h12 h14 h15 h13 hN hI
    · exact sY_23 ops Q hops w0 ok1 ok2 g1 g2 bs t es hb0 hb1 i T1 b gb e cs he q hq hql hx a w h0 h1 h8 h9 h11 h10 h12 h14 h15 h13 hN hI
    · exact sY_24 ops Q hops w0 ok1 ok2 g1 g2 bs t es hb0 hb1 i T1 b gb e cs he q hq hql hx a w h0 h1 h8 h9 h11 h10 h12 h14 h15 h13 hN hI
    · exact sY_25 ops Q hops w0 ok1 ok2 g1 g2 bs t es hb0 hb1 i T1 b gb e cs he q hq hql hx a w h0 h1 h8 h9 h11 h10 h12 h14 h15 h13 hN hI
    · exact sY_26 ops Q hops w0 ok1 ok2 g1 g2 bs t es hb0 hb1 i T1 b gb e cs he q hq hql hx a w h0 h1 h8 h9 h11 h10 h12 h14 h15 h13 hN hI
    · exact sY_27 ops Q hops w0 ok1 ok2 g1 g2 bs t es hb0 hb1 i T1 b gb e cs he q hq hql hx a w h0 h1 h8 h9 h11 h10 h12 h14 h15 h13 hN hI
    · exact sY_28 ops Q hops w0 ok1 ok2 g1 g2 bs t es hb0 hb1 i T1 b gb e cs he q hq hql hx a w h0 h1 h8 h9 h11 h10 h12 h14 h15 h13 hN hI
    · exact sY_29 ops Q hops w0 ok1 ok2 g1 g2 bs t es hb0 hb1 i T1 b gb e cs he q hq hql hx a w h0 h1 h8 h9 h11 h10 h12 h14 h15 h13 hN hI
    · exact sY_30 ops Q hops w0 ok1 ok2 g1 g2 bs t es hb0 hb1 i T1 b gb e cs he q hq hql hx a w h0 h1 h8 h9 h11 h10 h12 h14 h15 h13 hN hI
    · exact sY_31 ops Q hops w0 ok1 ok2 g1 g2 bs t es hb0 hb1 i T1 b gb e cs he q hq hql hx a w h0 h1 h8 h9 h11 h10 h12 h14 h15 h13 hN hI
    · exact sY_32 ops Q hops w0 ok1 ok2 g1 g2 bs t es hb0 hb1 i T1 b gb e cs he q hq hql hx a w h0 h1 h8 h9 h11 h10 h12 h14 h15 h13 hN hI
    · exact sY_33 ops Q hops w0 ok1 ok2 g1 g2 bs t es hb0 hb1 i T1 b gb e cs he q hq hql hx a w h0 h1 h8 h9 h11 h10 h12 h14 h15 h13 hN hI
    · exact sY_34 ops Q hops w0 ok1 ok2 g1 g2 bs t es hb0 hb1 i T1 b gb e cs he q hq hql hx a w h0 h1 h8 h9 h11 h10 h12 h14 h15 h13 hN hI
    · exact sY_35 ops Q hops w0 ok1 ok2 g1 g2 bs t es hb0 hb1 i T1 b gb e cs he q hq hql hx a w h0 h1 h8 h9 h11 h10 h12 h14 h15 h13 hN hI
    · exact sY_36 ops Q hops w0 ok1 ok2 g1 g2 bs t es hb0 hb1 i T1 b gb e cs he q hq hql hx a w h0 h1 h8 h9 h11 h10 h12 h14 h15 h13 hN hI
    · exact sY_37 ops Q hops w0 ok1 ok2 g1 g2 bs t es hb0 hb1 i T1 b gb e cs he q hq hql hx a w h0 h1 h8 h9 h11 h10 h12 h14 h15 h13 hN hI
    · exact sY_38 ops Q hops w0 ok1 ok2 g1 g2 bs t es hb0 hb1 i T1 b gb e cs he q hq hql hx a w h0 h1 h8 h9 h11 h10 h12 h14 h15 h13 hN hI
    · exact sY_39 ops Q hops w0 ok1 ok2 g1 g2 bs t es hb0 hb1 i T1 b gb e cs he q hq hql hx a w h0 h1 h8 h9 h11 h10 h12 h14 h15 h13 hN hI
    · exact sY_40 ops Q hops w0 ok1 ok2 g1 g2 bs t es hb0 hb1 i T1 b gb e cs he q hq hql hx a w h0 h1 h8 h9 h11 h10 h12 h14 h15 h13 hN hI
    · exact sY_41 ops Q hops w0 ok1 ok2 g1 g2 bs t es hb0 hb1 i T1 b gb e cs he q hq hql hx a w h0 h1 h8 h9 h11 h10 h12 h14 h15 h13 hN hI
    · exact sY_42 ops Q hops w0 ok1 ok2 g1 g2 bs t es hb0 hb1 i T1 b gb e cs he q hq hql hx a w h0 h1 h8 h9 h11 h10 h12 h14 h15 h13 hN hI
    · exact sY_43 ops Q hops w0 ok1 ok2 g1 g2 bs t es hb0 hb1 i T1 b gb e cs he q hq hql hx a w h0 h1 h8 h9 h11 h10 h12 h14 h15 h13 hN hI
    · exact sY_44 ops Q hops w0 ok1 ok2 g1 g2 bs t es hb0 hb1 i T1 b gb e cs he q hq hql hx a w h0 h1 h8 h9 h11 h10 h12 h14 h15 h13 hN hI
    · exact sY_45 ops Q hops w0 ok1 ok2 g1 g2 bs t es hb0 hb1 i T1 b gb e cs he q hq hql hx a w h0 h1 h8 h9 h11 h10 h12 h14 h15 h13 hN hI
    · exact sY_46 ops Q hops w0 ok1 ok2 g1 g2 bs t es hb0 hb1 i T1 b gb e cs he q hq hql hx a w h0 h1 h8 h9 h11 h10 h12 h14 h15 h13 hN hI
    · exact sY_47 ops Q hops w0 ok1 ok2 g1 g2 bs t es hb0 hb1 i T1 b gb e cs he q hq hql hx a w h0 h1 h8 h9 h11 h10 h12 h14 h15 h13 hN hI
    · exact sY_48 ops Q hops w0 ok1 ok2 g1 g2 bs t es hb0 hb1 i T1 b gb e cs he q hq hql hx a w h0 h1 h8 h9 h11 h10 h12 h14 h15 h13 hN hI
    · exact sY_49 ops Q hops w0 ok1 ok2 g1 g2 bs t es hb0 hb1 i T1 b gb e cs he q hq hql hx a w h0 h1 h8 h9 h11 h10 h12 h14 h15 h13 hN hI
    · exact sY_50 ops Q hops w0 ok1 ok2 g1 g2 bs t es hb0 hb1 i T1 b gb e cs he q hq hql hx a w h0 h1 h8 h9 h11 h10 h12 h14 h15 h13 hN hI
    · exact sY_51 ops Q hops w0 ok1 ok2 g1 g2 bs t es hb0 hb1 i T1 b gb e cs he q hq hql hx a w h0 h1 h8 h9 h11 h10 h12 h14 h15 h13 hN hI
    · exact sY_52 ops Q hops w0 ok1 ok2 g1 g2 bs t es hb0 hb1 i T1 b gb e cs he q hq hql hx a w h0 h1 h8 h9 h11 h10 h12 h14 h15 h13 hN hI
def dstZ (i : Nat) : Option Nat := ([some 80, some 81, some 82, some 83, some 84, some 85, some 86, some 87, some 88, some 89, some 90, some 91, some 92, some 93, some 94, some 95, some 96, some 97, some 98, some 99, some 100, some 101, some 102, some 103, some 104, some 105, some 106, some 107, some 108, some 109, some 110, some 111, some 112, some 113, some 114, some 115, some 116, some 117, some 118, some 119, some 120, some 121, some 122, some 123, some 124, some 125, some 126, some 127, some 128, some 129, some 130, some 131, some 132] : List (Option Nat)).getD i none
def ndZ : List (List Nat) := [[], [], [0, 1], [2], [3], [3], [4, 5, 3], [3, 6], [7, 3], [8], [8], [9, 10, 8], [8, 11], [12, 8], [13], [14, 13, 13], [15], [15], [17, 15], [18, 15], [19, 15], [15], [15], [22, 15], [23, 15], [24, 15], [21, 25, 15], [26, 15], [20, 27, 15], [28, 15], [16, 29, 15, 15], [30, 15], [15, 31, 13], [13, 32], [33, 30], [34], [35, 34], [36, 34, 34], [37], [37], [38, 39, 37, 37], [40, 37], [37, 41, 34], [34, 42], [43, 40], [44], [44], [45, 46, 44, 44], [44], [44], [48, 49, 47, 44], [47, 50, 44], [44, 51]]
def usZ : List (List Nat) := [[], [], [0, 1], [2], [3], [3], [3, 4, 5], [3, 6], [7], [8], [8], [8, 9, 10], [8, 11], [12], [13], [13, 14], [15], [15], [15, 17], [15, 18], [15, 19], [15], [15], [15, 22], [15, 23], [15, 24], [15, 21, 25], [15, 26], [15, 20, 27], [15, 28], [15, 16, 29], [15, 30], [13, 15, 31], [13, 32], [33], [34], [34, 35], [34, 36], [37], [37], [37, 38, 39], [37, 40], [34, 37, 41], [34, 42], [43], [44], [44], [44, 45, 46], [44], [44], [44, 48, 49], [44, 47, 50], [44, 51]]
def ncZ : List (List Nat) := [[], [], [0, 1], [0, 1, 2], [0, 1, 2, 3], [0, 1, 2, 3], [0, 1, 2, 3, 4, 5], [0, 1, 2, 3, 4, 5, 6], [0, 1, 2, 3, 4, 5, 6, 7], [0, 1, 2, 3, 4, 5, 6, 7, 8], [0, 1, 2, 3, 4, 5, 6, 7, 8], [0, 1, 2, 3, 4, 5, 6, 7, 8, 9, 10], [0, 1, 2, 3, 4, 5, 6, 7, 8, 9, 10, 11], [0, 1, 2, 3, 4, 5, 6, 7, 8, 9, 10, 11, 12], [0, 1, 2, 3, 4, 5, 6, 7, 8, 9, 10, 11, 12, 13], [0, 1, 2, 3, 4, 5, 6, 7, 8, 9, 10, 11, 12, 13, 14], [0, 1, 2, 3, 4, 5, 6, 7, 8, 9, 10, 11, 12, 13, 14, 15], [0, 1, 2, 3, 4, 5, 6, 7, 8, 9, 10, 11, 12, 13, 14, 15], [0, 1, 2, 3, 4, 5, 6, 7, 8, 9, 10, 11, 12, 13, 14, 15, 17], [0, 1, 2, 3, 4, 5, 6, 7, 8, 9, 10, 11, 12, 13, 14, 15, 17, 18], [0, 1, 2, 3, 4, 5, 6, 7, 8, 9, 10, 11, 12, 13, 14, 15, 17, 18, 19], [0, 1, 2, 3, 4, 5, 6, 7, 8, 9, 10, 11, 12, 13, 14, 15], [0, 1, 2, 3, 4, 5, 6, 7, 8, 9, 10, 11, 12, 13, 14, 15], [0, 1, 2, 3, 4, 5, 6, 7, 8, 9, 10, 11, 12, 13, 14, 15, 22], [0, 1, 2, 3, 4, 5, 6, 7, 8, 9, 10, 11, 12, 13, 14, 15, 22, 23], [0, 1, 2, 3, 4, 5, 6, 7, 8, 9, 10, 11, 12, 13, 14, 15, 22, 23, 24], [0, 1, 2, 3, 4, 5, 6, 7, 8, 9, 10, 11, 12, 13, 14, 15, 21, 22, 23, 24, 25], [0, 1, 2, 3, 4, 5, 6, 7, 8, 9, 10, 11, 12, 13, 14, 15, 21, 22, 23, 24, 25, 26], [0, 1, 2, 3, 4, 5, 6, 7, 8, 9, 10, 11, 12, 13, 14, 15, 17, 18, 19, 20, 21, 22, 23, 24, 25, 26, 27], [0, 1, 2, 3, 4, 5, 6, 7, 8, 9, 10, 11, 12, 13, 14, 15, 17, 18, 19, 20, 21, 22, 23, 24, 25, 26, 27, 28], [0, 1, 2, 3, 4, 5, 6, 7, 8, 9, 10, 11, 12, 13, 14, 15, 16, 17, 18, 19, 20, 21, 22, 23, 24, 25, 26, 27, 28, 29], [0, 1, 2, 3, 4, 5, 6, 7, 8, 9, 10, 11, 12, 13, 14, 15, 16, 17, 18, 19, 20, 21, 22, 23, 24, 25, 26, 27, 28, 29, 30], [0, 1, 2, 3, 4, 5, 6, 7, 8, 9, 10, 11, 12, 13, 14, 15, 16, 17, 18, 19, 20, 21, 22, 23, 24, 25, 26, 27, 28, 29, 30, 31], [0, 1, 2, 3, 4, 5, 6, 7, 8, 9, 10, 11, 12, 13, 14, 15, 16, 17, 18, 19, 20, 21, 22, 23, 24, 25, 26, 27, 28, 29, 30, 31, 32], [0, 1, 2, 3, 4, 5, 6, 7, 8, 9, 10, 11, 12, 13, 14, 15, 16, 17, 18, 19, 20, 21, 22, 23, 24, 25, 26, 27, 28, 29, 30, 31, 32, 33], [0, 1, 2, 3, 4, 5, 6, 7, 8, 9, 10, 11, 12, 13, 14, 15, 16, 17, 18, 19, 20, 21, 22, 23, 24, 25, 26, 27, 28, 29, 30, 31, 32, 33, 34], [0, 1, 2, 3, 4, 5, 6, 7, 8, 9, 10, 11, 12, 13, 14, 15, 16, 17, 18, 19, 20, 21, 22, 23, 24, 25, 26, 27, 28, 29, 30, 31, 32, 33, 34, 35], [0, 1, 2, 3, 4, 5, 6, 7, 8, 9, 10, 11, 12, 13, 14, 15, 16, 17, 18, 19, 20, 21, 22, 23, 24, 25, 26, 27, 28, 29, 30, 31, 32, 33, 34, 35, 36], [0, 1, 2, 3, 4, 5, 6, 7, 8, 9, 10, 11, 12, 13, 14, 15, 16, 17, 18, 19, 20, 21, 22, 23, 24, 25, 26, 27, 28, 29, 30, 31, 32, 33, 34, 35, 36, 37], [0, 1, 2, 3, 4, 5, 6, 7, 8, 9, 10, 11, 12, 13, 14, 15, 16, 17, 18, 19, 20, 21, 22, 23, 24, 25, 26, 27, 28, 29, 30, 31, 32, 33, 34, 35, 36, 37], [0, 1, 2, 3, 4, 5, 6, 7, 8, 9, 10, 11, 12, 13, 14, 15, 16, 17, 18, 19, 20, 21, 22, 23, 24, 25, 26, 27, 28, 29, 30, 31, 32, 33, 34, 35, 36, 37, 38, 39], [0, 1, 2, 3, 4, 5, 6, 7, 8, 9, 10, 11, 12, 13, 14, 15, 16, 17, 18, 19, 20, 21, 22, 23, 24, 25, 26, 27, 28, 29, 30, 31, 32, 33, 34, 35, 36, 37, 38, 39, 40], [0, 1, 2, 3, 4, 5, 6, 7, 8, 9, 10, 11, 12, 13, 14, 15, 16, 17, 18, 19, 20, 21, 22, 23, 24, 25, 26, 27, 28, 29, 30, 31, 32, 33, 34, 35, 36, 37, 38, 39, 40, 41], [0, 1, 2, 3, 4, 5, 6, 7, 8, 9, 10, 11, 12, 13, 14, 15, 16, 17, 18, 19, 20, 21, 22, 23, 24, 25, 26, 27, 28, 29, 30, 31, 32, 33, 34, 35, 36, 37, 38, 39, 40, 41, 42], [0, 1, 2, 3, 4, 5, 6, 7, 8, 9, 10, 11, 12, 13, 14, 15, 16, 17, 18, 19, 20, 21, 22, 23, 24, 25, 26, 27, 28, 29, 30, 31, 32, 33, 34, 35, 36, 37, 38, 39, 40, 41, 42, 43], [0, 1, 2, 3, 4, 5, 6, 7, 8, 9, 10, 11, 12, 13, 14, 15, 16, 17, 18, 19, 20, 21, 22, 23, 24, 25, 26, 27, 28, 29, 30, 31, 32, 33, 34, 35, 36, 37, 38, 39, 40, 41, 42, 43, 44], [0, 1, 2, 3, 4, 5, 6, 7, 8, 9, 10, 11, 12, 13, 14, 15, 16, 17, 18, 19, 20, 21, 22, 23, 24, 25, 26, 27, 28, 29, 30, 31, 32, 33, 34, 35, 36, 37, 38, 39, 40, 41, 42, 43, 44], [0, 1, 2, 3, 4, 5, 6, 7, 8, 9, 10, 11, 12, 13, 14, 15, 16, 17, 18, 19, 20, 21, 22, 23, 24, 25, 26, 27, 28, 29, 30, 31, 32, 33, 34, 35, 36, 37, 38, 39, 40, 41, 42, 43, 44, 45, 46], [0, 1, 2, 3, 4, 5, 6, 7, 8, 9, 10, 11, 12, 13, 14, 15, 16, 17, 18, 19, 20, 21, 22, 23, 24, 25, 26, 27, 28, 29, 30, 31, 32, 33, 34, 35, 36, 37, 38, 39, 40, 41, 42, 43, 44], [0, 1, 2, 3, 4, 5, 6, 7, 8, 9, 10, 11, 12, 13, 14, 15, 16, 17, 18, 19, 20, 21, 22, 23, 24, 25, 26, 27, 28, 29, 30, 31, 32, 33, 34, 35, 36, 37, 38, 39, 40, 41, 42, 43, 44], [0, 1, 2, 3, 4, 5, 6, 7, 8, 9, 10, 11, 12, 13, 14, 15, 16, 17, 18, 19, 20, 21, 22, 23, 24, 25, 26, 27, 28, 29, 30, 31, 32, 33, 34, 35, 36, 37, 38, 39, 40, 41, 42, 43, 44, 45, 46, 47, 48, 49], [0, 1, 2, 3, 4, 5, 6, 7, 8, 9, 10, 11, 12, 13, 14, 15, 16, 17, 18, 19, 20, 21, 22, 23, 24, 25, 26, 27, 28, 29, 30, 31, 32, 33, 34, 35, 36, 37, 38, 39, 40, 41, 42, 43, 44, 45, 46, 47, 48, 49, 50], [0, 1, 2, 3, 4, 5, 6, 7, 8, 9, 10, 11, 12, 13, 14, 15, 16, 17, 18, 19, 20, 21, 22, 23, 24, 25, 26, 27, 28, 29, 30, 31, 32, 33, 34, 35, 36, 37, 38, 39, 40, 41, 42, 43, 44, 45, 46, 47, 48, 49, 50, 51]]
def killZ (h j : Nat) : Bool := (false)
def killIZ (h j : Nat) : Bool := (false)
def useIZ (h j : Nat) : Bool := ((h == 38 && [0].contains j) || (h == 40 && [0].contains j) || (h == 47 && [0].contains j) || (h == 50 && [0].contains j))
def IZ (w0 : World) (ok1 ok2 : Nat → Prop) (g1 g2 : Nat) (bs t : Int) (es : List S60) (hb0 : 0 ≤ bs) (hb1 : bs + es.length ≤ 4611686018427387904) (i : Int) (T1 : Int) (b : Bool) (gb : Nat) (e : S60) (cs : List Value) (he : okS e) (hx : e = z60) : Nat → World → Prop
  | 0, w => (Log w ok1 g1 bs t es ∧ LogX w ok2 g2 bs t es ∧ Below w0.heap.size w0 w) ∧ w.heap[gb]? = some (.cells cs.toArray 60 (0, 0)) ∧ k60.K w e cs
  | _, _ => True
def FZ (w0 : World) (ok1 ok2 : Nat → Prop) (g1 g2 : Nat) (bs t : Int) (es : List S60) (hb0 : 0 ≤ bs) (hb1 : bs + es.length ≤ 4611686018427387904) (i : Int) (T1 : Int) (b : Bool) (gb : Nat) (e : S60) (cs : List Value) (he : okS e) (hx : e = z60) : Nat → Value → World → Prop
  | 0, v, w => v = .int .i64 T1
  | 1, v, w => v = .int .i64 T1
  | 2, v, w => v = .bool false
  | 3, v, w => v = .bool false
  | 4, v, w => v = .bool b
  | 5, v, w => v = .bool b
  | 6, v, w => v = .bool false
  | 7, v, w => v = .bool false
  | 8, v, w => v = .bool false
  | 9, v, w => v = .bool false
  | 10, v, w => v = .bool false
  | 11, v, w => v = .bool false
  | 12, v, w => v = .bool false
  | 13, v, w => v = .bool false
  | 14, v, w => v = .bool false
  | 15, v, w => v = .bool false
  | 16, v, w => v = undef
  | 17, v, w => v = undef
  | 18, v, w => v = undef
  | 19, v, w => v = undef
  | 20, v, w => v = undef
  | 21, v, w => v = undef
  | 22, v, w => v = undef
  | 23, v, w => v = undef
  | 24, v, w => v = undef
  | 25, v, w => v = undef
  | 26, v, w => v = undef
  | 27, v, w => v = undef
  | 28, v, w => v = undef
  | 29, v, w => v = undef
  | 30, v, w => v = undef
  | 31, v, w => v = undef
  | 32, v, w => v = .bool false
  | 33, v, w => v = .bool false
  | 34, v, w => v = .bool false
  | 35, v, w => v = .bool false
  | 36, v, w => v = .bool true
  | 37, v, w => v = .bool true
  | 38, v, w => v = .agg cs.toArray
  | 39, v, w => v = .agg #[.int .i64 0, .int .i64 0, .int .i64 0, .string ⟨#[]⟩, .string ⟨#[]⟩, .string ⟨#[]⟩, .string ⟨#[]⟩, .string ⟨#[]⟩, .string ⟨#[]⟩, .slice none 0 0, .int .i64 0, .int .i64 0, .int .i64 0, .slice none 0 0]
  | 40, v, w => v = .bool true
  | 41, v, w => v = .bool false
  | 42, v, w => v = .bool false
  | 43, v, w => v = .bool false
  | 44, v, w => v = .bool false
  | 45, v, w => v = .pointer (some ⟨g1, 0, none⟩)
  | 46, v, w => v = .int .i64 i
  | 47, v, w => v = .int .i64 (hintL bs t es i)
  | 48, v, w => v = .pointer (some ⟨g2, 0, none⟩)
  | 49, v, w => v = .int .i64 i
  | 50, v, w => v = .int .i64 (hintL bs t es i)
  | 51, v, w => v = .bool false
  | 52, v, w => v = .bool false
  | _, _, _ => True
def StZ (i_ : Nat) : Prop := ∀ (ops : Array Oper) (Q : Exit → Act → World → Prop) (hops : ops = opsOf Try.f26 10) (w0 : World) (ok1 ok2 : Nat → Prop) (g1 g2 : Nat) (bs t : Int) (es : List S60) (hb0 : 0 ≤ bs) (hb1 : bs + es.length ≤ 4611686018427387904) (i : Int) (T1 : Int) (b : Bool) (gb : Nat) (e : S60) (cs : List Value) (he : okS e) (hx : e = z60) (a : Act) (w : World) (h0 : a.tmps[0]?.getD undef = .pointer (some ⟨g1, 0, none⟩)) (h1 : a.tmps[1]?.getD undef = .pointer (some ⟨g2, 0, none⟩)) (h8 : a.tmps[8]?.getD undef = .int .i64 i) (h9 : a.tmps[9]?.getD undef = .int .i64 T1) (h11 : a.tmps[11]?.getD undef = .int .i64 T1) (h10 : a.tmps[10]?.getD undef = .bool b) (h12 : a.tmps[12]?.getD undef = .bool b) (h14 : a.tmps[14]?.getD undef = .bool false) (h15 : a.tmps[15]?.getD undef = .bool false) (h13 : a.tmps[13]?.getD undef = .pointer (some ⟨gb, 0, none⟩))
    (hN : ∀ j, j ∈ usZ.getD i_ [] → FZ w0 ok1 ok2 g1 g2 bs t es hb0 hb1 i T1 b gb e cs he hx j (slotO dstZ a j) w) (hI : ∀ c, c < 1 → useIZ i_ c = true → IZ w0 ok1 ok2 g1 g2 bs t es hb0 hb1 i T1 b gb e cs he hx c w), wpOp Try.prog ops Q i_ (fun a' w' => ∃ v, a' = a.put (dstZ i_) v ∧ FZ w0 ok1 ok2 g1 g2 bs t es hb0 hb1 i T1 b gb e cs he hx i_ (valO dstZ i_ v) w' ∧ (Below w.heap.size w w' ∨ ((∀ j u, j < 53 → j ≠ i_ → killZ i_ j = false → (ncZ.getD j []).contains i_ = false → FZ w0 ok1 ok2 g1 g2 bs t es hb0 hb1 i T1 b gb e cs he hx j u w → FZ w0 ok1 ok2 g1 g2 bs t es hb0 hb1 i T1 b gb e cs he hx j u w') ∧ (∀ c, c < 1 → killIZ i_ c = false → IZ w0 ok1 ok2 g1 g2 bs t es hb0 hb1 i T1 b gb e cs he hx c w → IZ w0 ok1 ok2 g1 g2 bs t es hb0 hb1 i T1 b gb e cs he hx c w')))) a w
theorem sZ_0 : StZ 0 := by
  intro ops Q hops w0 ok1 ok2 g1 g2 bs t es hb0 hb1 i T1 b gb e cs he hx a w h0 h1 h8 h9 h11 h10 h12 h14 h15 h13 hN hI
  subst hops
  have ho : (opsOf Try.f26 10)[0]? = some (⟨some 80, .move (.tmp 9), 3, "law.go:70", #[], none⟩ : Oper) := by kernel_rfl
  refine wpOp_plain ho rfl ?_
  clear hN hI ho
  go_simp
  first | exact ⟨_, rfl, rfl⟩ | exact ⟨_, rfl, rfl, .inl (Below.refl _ _)⟩
theorem sZ_1 : StZ 1 := by
  intro ops Q hops w0 ok1 ok2 g1 g2 bs t es hb0 hb1 i T1 b gb e cs he hx a w h0 h1 h8 h9 h11 h10 h12 h14 h15 h13 hN hI
  subst hops
  have ho : (opsOf Try.f26 10)[1]? = some (⟨some 81, .move (.tmp 11), 3, "law.go:70", #[], none⟩ : Oper) := by kernel_rfl
  refine wpOp_plain ho rfl ?_
  clear hN hI ho
  go_simp
  first | exact ⟨_, rfl, rfl⟩ | exact ⟨_, rfl, rfl, .inl (Below.refl _ _)⟩
theorem sZ_2 : StZ 2 := by
  intro ops Q hops w0 ok1 ok2 g1 g2 bs t es hb0 hb1 i T1 b gb e cs he hx a w h0 h1 h8 h9 h11 h10 h12 h14 h15 h13 hN hI
  subst hops
  have n0 : a.tmps[80]?.getD undef = .int .i64 T1 := hN 0 (by decide)
  have n1 : a.tmps[81]?.getD undef = .int .i64 T1 := hN 1 (by decide)
  have ho : (opsOf Try.f26 10)[2]? = some (⟨some 82, .binOp .neq 3 (.tmp 80) (.tmp 81) 3, 4, "law.go:70", #[⟨0, .data⟩, ⟨1, .data⟩], none⟩ : Oper) := by kernel_rfl
  refine wpOp_plain ho rfl ?_
  clear hN hI ho
  go_simp
  first | exact ⟨_, rfl, rfl⟩ | exact ⟨_, rfl, rfl, .inl (Below.refl _ _)⟩
theorem sZ_3 : StZ 3 := by
  intro ops Q hops w0 ok1 ok2 g1 g2 bs t es hb0 hb1 i T1 b gb e cs he hx a w h0 h1 h8 h9 h11 h10 h12 h14 h15 h13 hN hI
  subst hops
  have n2 : a.tmps[82]?.getD undef = .bool false := hN 2 (by decide)
  have ho : (opsOf Try.f26 10)[3]? = some (⟨some 83, .move (.tmp 82), 4, "law.go:70", #[⟨2, .data⟩], none⟩ : Oper) := by kernel_rfl
  refine wpOp_plain ho rfl ?_
  clear hN hI ho
  go_simp
  first | exact ⟨_, rfl, rfl⟩ | exact ⟨_, rfl, rfl, .inl (Below.refl _ _)⟩
theorem sZ_4 : StZ 4 := by
  intro ops Q hops w0 ok1 ok2 g1 g2 bs t es hb0 hb1 i T1 b gb e cs he hx a w h0 h1 h8 h9 h11 h10 h12 h14 h15 h13 hN hI
  subst hops
  have n3 : a.tmps[83]?.getD undef = .bool false := hN 3 (by decide)
  have ho : (opsOf Try.f26 10)[4]? = some (⟨some 84, .move (.tmp 10), 4, "law.go:70", #[⟨3, .guard⟩], some (3, false)⟩ : Oper) := by kernel_rfl
  refine wpOp_guarded (d := 83) ho rfl rfl n3 ?_
  clear hN hI ho
  go_simp
  first | exact ⟨_, rfl, rfl⟩ | exact ⟨_, rfl, rfl, .inl (Below.refl _ _)⟩
theorem sZ_5 : StZ 5 := by
  intro ops Q hops w0 ok1 ok2 g1 g2 bs t es hb0 hb1 i T1 b gb e cs he hx a w h0 h1 h8 h9 h11 h10 h12 h14 h15 h13 hN hI
  subst hops
  have n3 : a.tmps[83]?.getD undef = .bool false := hN 3 (by decide)
  have ho : (opsOf Try.f26 10)[5]? = some (⟨some 85, .move (.tmp 12), 4, "law.go:70", #[⟨3, .guard⟩], some (3, false)⟩ : Oper) := by kernel_rfl
  refine wpOp_guarded (d := 83) ho rfl rfl n3 ?_
  clear hN hI ho
  go_simp
  first | exact ⟨_, rfl, rfl⟩ | exact ⟨_, rfl, rfl, .inl (Below.refl _ _)⟩
theorem sZ_6 : StZ 6 := by
  intro ops Q hops w0 ok1 ok2 g1 g2 bs t es hb0 hb1 i T1 b gb e cs he hx a w h0 h1 h8 h9 h11 h10 h12 h14 h15 h13 hN hI
  subst hops
  have n3 : a.tmps[83]?.getD undef = .bool false := hN 3 (by decide)
  have n4 : a.tmps[84]?.getD undef = .bool b := hN 4 (by decide)
  have n5 : a.tmps[85]?.getD undef = .bool b := hN 5 (by decide)
  have ho : (opsOf Try.f26 10)[6]? = some (⟨some 86, .binOp .neq 4 (.tmp 84) (.tmp 85) 4, 4, "law.go:70", #[⟨4, .data⟩, ⟨5, .data⟩, ⟨3, .guard⟩], some (3, false)⟩ : Oper) := by kernel_rfl
  refine wpOp_guarded (d := 83) ho rfl rfl n3 ?_
  clear hN hI ho
  go_simp
  first | exact ⟨_, rfl, rfl⟩ | exact ⟨_, rfl, rfl, .inl (Below.refl _ _)⟩
theorem sZ_7 : StZ 7 := by
  intro ops Q hops w0 ok1 ok2 g1 g2 bs t es hb0 hb1 i T1 b gb e cs he hx a w h0 h1 h8 h9 h11 h10 h12 h14 h15 h13 hN hI
  subst hops
  have n3 : a.tmps[83]?.getD undef = .bool false := hN 3 (by decide)
  have n6 : a.tmps[86]?.getD undef = .bool false := hN 6 (by decide)
  have ho : (opsOf Try.f26 10)[7]? = some (⟨some 87, .pick (.tmp 83) (.const (Value.bool true)) (.tmp 86), 4, "law.go:70", #[⟨3, .data⟩, ⟨6, .data⟩], none⟩ : Oper) := by kernel_rfl
  refine wpOp_plain ho rfl ?_
  clear hN hI ho
  go_simp
  first | exact ⟨_, rfl, rfl⟩ | exact ⟨_, rfl, rfl, .inl (Below.refl _ _)⟩
theorem sZ_8 : StZ 8 := by
  intro ops Q hops w0 ok1 ok2 g1 g2 bs t es hb0 hb1 i T1 b gb e cs he hx a w h0 h1 h8 h9 h11 h10 h12 h14 h15 h13 hN hI
  subst hops
  have n7 : a.tmps[87]?.getD undef = .bool false := hN 7 (by decide)
  have ho : (opsOf Try.f26 10)[8]? = some (⟨some 88, .move (.tmp 87), 4, "law.go:70", #[⟨7, .data⟩, ⟨3, .chain⟩], none⟩ : Oper) := by kernel_rfl
  refine wpOp_plain ho rfl ?_
  clear hN hI ho
  go_simp
  first | exact ⟨_, rfl, rfl⟩ | exact ⟨_, rfl, rfl, .inl (Below.refl _ _)⟩
theorem sZ_9 : StZ 9 := by
  intro ops Q hops w0 ok1 ok2 g1 g2 bs t es hb0 hb1 i T1 b gb e cs he hx a w h0 h1 h8 h9 h11 h10 h12 h14 h15 h13 hN hI
  subst hops
  have n8 : a.tmps[88]?.getD undef = .bool false := hN 8 (by decide)
  have ho : (opsOf Try.f26 10)[9]? = some (⟨some 89, .move (.tmp 14), 4, "law.go:70", #[⟨8, .guard⟩], some (8, false)⟩ : Oper) := by kernel_rfl
  refine wpOp_guarded (d := 88) ho rfl rfl n8 ?_
  clear hN hI ho
  go_simp
  first | exact ⟨_, rfl, rfl⟩ | exact ⟨_, rfl, rfl, .inl (Below.refl _ _)⟩
theorem sZ_10 : StZ 10 := by
  intro ops Q hops w0 ok1 ok2 g1 g2 bs t es hb0 hb1 i T1 b gb e cs he hx a w h0 h1 h8 h9 h11 h10 h12 h14 h15 h13 hN hI
  subst hops
  have n8 : a.tmps[88]?.getD undef = .bool false := hN 8 (by decide)
  have ho : (opsOf Try.f26 10)[10]? = some (⟨some 90, .move (.tmp 15), 4, "law.go:70", #[⟨8, .guard⟩], some (8, false)⟩ : Oper) := by kernel_rfl
  refine wpOp_guarded (d := 88) ho rfl rfl n8 ?_
  clear hN hI ho
  go_simp
  first | exact ⟨_, rfl, rfl⟩ | exact ⟨_, rfl, rfl, .inl (Below.refl _ _)⟩
theorem sZ_11 : StZ 11 := by
  intro ops Q hops w0 ok1 ok2 g1 g2 bs t es hb0 hb1 i T1 b gb e cs he hx a w h0 h1 h8 h9 h11 h10 h12 h14 h15 h13 hN hI
  subst hops
  have n8 : a.tmps[88]?.getD undef = .bool false := hN 8 (by decide)
  have n9 : a.tmps[89]?.getD undef = .bool false := hN 9 (by decide)
  have n10 : a.tmps[90]?.getD undef = .bool false := hN 10 (by decide)
  have ho : (opsOf Try.f26 10)[11]? = some (⟨some 91, .binOp .neq 4 (.tmp 89) (.tmp 90) 4, 4, "law.go:70", #[⟨9, .data⟩, ⟨10, .data⟩, ⟨8, .guard⟩], some (8, false)⟩ : Oper) := by kernel_rfl
  refine wpOp_guarded (d := 88) ho rfl rfl n8 ?_
  clear hN hI ho
  go_simp
  first | exact ⟨_, rfl, rfl⟩ | exact ⟨_, rfl, rfl, .inl (Below.refl _ _)⟩
theorem sZ_12 : StZ 12 := by
  intro ops Q hops w0 ok1 ok2 g1 g2 bs t es hb0 hb1 i T1 b gb e cs he hx a w h0 h1 h8 h9 h11 h10 h12 h14 h15 h13 hN hI
  subst hops
  have n8 : a.tmps[88]?.getD undef = .bool false := hN 8 (by decide)
  have n11 : a.tmps[91]?.getD undef = .bool false := hN 11 (by decide)
  have ho : (opsOf Try.f26 10)[12]? = some (⟨some 92, .pick (.tmp 88) (.const (Value.bool true)) (.tmp 91), 4, "law.go:70", #[⟨8, .data⟩, ⟨11, .data⟩], none⟩ : Oper) := by kernel_rfl
  refine wpOp_plain ho rfl ?_
  clear hN hI ho
  go_simp
  first | exact ⟨_, rfl, rfl⟩ | exact ⟨_, rfl, rfl, .inl (Below.refl _ _)⟩
theorem sZ_13 : StZ 13 := by
  intro ops Q hops w0 ok1 ok2 g1 g2 bs t es hb0 hb1 i T1 b gb e cs he hx a w h0 h1 h8 h9 h11 h10 h12 h14 h15 h13 hN hI
  subst hops
  have n12 : a.tmps[92]?.getD undef = .bool false := hN 12 (by decide)
  have ho : (opsOf Try.f26 10)[13]? = some (⟨some 93, .move (.tmp 92), 4, "law.go:70", #[⟨12, .data⟩, ⟨8, .chain⟩], none⟩ : Oper) := by kernel_rfl
  refine wpOp_plain ho rfl ?_
  clear hN hI ho
  go_simp
  first | exact ⟨_, rfl, rfl⟩ | exact ⟨_, rfl, rfl, .inl (Below.refl _ _)⟩
theorem sZ_14 : StZ 14 := by
  intro ops Q hops w0 ok1 ok2 g1 g2 bs t es hb0 hb1 i T1 b gb e cs he hx a w h0 h1 h8 h9 h11 h10 h12 h14 h15 h13 hN hI
  subst hops
  have n13 : a.tmps[93]?.getD undef = .bool false := hN 13 (by decide)
  have ho : (opsOf Try.f26 10)[14]? = some (⟨some 94, .move (.tmp 15), 4, "law.go:70", #[⟨13, .guard⟩], some (13, false)⟩ : Oper) := by kernel_rfl
  refine wpOp_guarded (d := 93) ho rfl rfl n13 ?_
  clear hN hI ho
  go_simp
  first | exact ⟨_, rfl, rfl⟩ | exact ⟨_, rfl, rfl, .inl (Below.refl _ _)⟩
theorem sZ_15 : StZ 15 := by
  intro ops Q hops w0 ok1 ok2 g1 g2 bs t es hb0 hb1 i T1 b gb e cs he hx a w h0 h1 h8 h9 h11 h10 h12 h14 h15 h13 hN hI
  subst hops
  have n13 : a.tmps[93]?.getD undef = .bool false := hN 13 (by decide)
  have n14 : a.tmps[94]?.getD undef = .bool false := hN 14 (by decide)
  have ho : (opsOf Try.f26 10)[15]? = some (⟨some 95, .move (.tmp 94), 4, "law.go:70", #[⟨14, .data⟩, ⟨13, .chain⟩, ⟨13, .guard⟩], some (13, false)⟩ : Oper) := by kernel_rfl
  refine wpOp_guarded (d := 93) ho rfl rfl n13 ?_
  clear hN hI ho
  go_simp
  first | exact ⟨_, rfl, rfl⟩ | exact ⟨_, rfl, rfl, .inl (Below.refl _ _)⟩
theorem sZ_16 : StZ 16 := by
  intro ops Q hops w0 ok1 ok2 g1 g2 bs t es hb0 hb1 i T1 b gb e cs he hx a w h0 h1 h8 h9 h11 h10 h12 h14 h15 h13 hN hI
  subst hops
  have n15 : a.tmps[95]?.getD undef = .bool false := hN 15 (by decide)
  have ho : (opsOf Try.f26 10)[16]? = some (⟨some 96, .load 60 (.tmp 13), 60, "law.go:70", #[⟨15, .guard⟩], some (15, true)⟩ : Oper) := by kernel_rfl
  refine wpOp_skip (b' := false) (d := 95) ho rfl rfl n15 rfl ?_
  exact ⟨undef, rfl, rfl, .inl (Below.refl _ _)⟩
theorem sZ_17 : StZ 17 := by
  intro ops Q hops w0 ok1 ok2 g1 g2 bs t es hb0 hb1 i T1 b gb e cs he hx a w h0 h1 h8 h9 h11 h10 h12 h14 h15 h13 hN hI
  subst hops
  have n15 : a.tmps[95]?.getD undef = .bool false := hN 15 (by decide)
  have ho : (opsOf Try.f26 10)[17]? = some (⟨some 97, .move (.tmp 1), 45, "law.go:70", #[⟨15, .guard⟩], some (15, true)⟩ : Oper) := by kernel_rfl
  refine wpOp_skip (b' := false) (d := 95) ho rfl rfl n15 rfl ?_
  exact ⟨undef, rfl, rfl, .inl (Below.refl _ _)⟩
theorem sZ_18 : StZ 18 := by
  intro ops Q hops w0 ok1 ok2 g1 g2 bs t es hb0 hb1 i T1 b gb e cs he hx a w h0 h1 h8 h9 h11 h10 h12 h14 h15 h13 hN hI
  subst hops
  have n15 : a.tmps[95]?.getD undef = .bool false := hN 15 (by decide)
  have n17 : a.tmps[97]?.getD undef = undef := hN 17 (by decide)
  have ho : (opsOf Try.f26 10)[18]? = some (⟨some 98, .nilCheck (.tmp 97), 0, "law.go:70", #[⟨17, .data⟩, ⟨15, .guard⟩], some (15, true)⟩ : Oper) := by kernel_rfl
  refine wpOp_skip (b' := false) (d := 95) ho rfl rfl n15 rfl ?_
  exact ⟨undef, rfl, rfl, .inl (Below.refl _ _)⟩
theorem sZ_19 : StZ 19 := by
  intro ops Q hops w0 ok1 ok2 g1 g2 bs t es hb0 hb1 i T1 b gb e cs he hx a w h0 h1 h8 h9 h11 h10 h12 h14 h15 h13 hN hI
  subst hops
  have n15 : a.tmps[95]?.getD undef = .bool false := hN 15 (by decide)
  have n18 : a.tmps[98]?.getD undef = undef := hN 18 (by decide)
  have ho : (opsOf Try.f26 10)[19]? = some (⟨some 99, .fieldAddr 47 (.tmp 98) 2, 0, "law.go:70", #[⟨18, .data⟩, ⟨15, .guard⟩], some (15, true)⟩ : Oper) := by kernel_rfl
  refine wpOp_skip (b' := false) (d := 95) ho rfl rfl n15 rfl ?_
  exact ⟨undef, rfl, rfl, .inl (Below.refl _ _)⟩
theorem sZ_20 : StZ 20 := by
  intro ops Q hops w0 ok1 ok2 g1 g2 bs t es hb0 hb1 i T1 b gb e cs he hx a w h0 h1 h8 h9 h11 h10 h12 h14 h15 h13 hN hI
  subst hops
  have n15 : a.tmps[95]?.getD undef = .bool false := hN 15 (by decide)
  have n19 : a.tmps[99]?.getD undef = undef := hN 19 (by decide)
  have ho : (opsOf Try.f26 10)[20]? = some (⟨some 100, .load 35 (.tmp 99), 35, "law.go:70", #[⟨19, .data⟩, ⟨15, .guard⟩], some (15, true)⟩ : Oper) := by kernel_rfl
  refine wpOp_skip (b' := false) (d := 95) ho rfl rfl n15 rfl ?_
  exact ⟨undef, rfl, rfl, .inl (Below.refl _ _)⟩
theorem sZ_21 : StZ 21 := by
  intro ops Q hops w0 ok1 ok2 g1 g2 bs t es hb0 hb1 i T1 b gb e cs he hx a w h0 h1 h8 h9 h11 h10 h12 h14 h15 h13 hN hI
  subst hops
  have n15 : a.tmps[95]?.getD undef = .bool false := hN 15 (by decide)
  have ho : (opsOf Try.f26 10)[21]? = some (⟨some 101, .move (.tmp 8), 3, "law.go:70", #[⟨15, .guard⟩], some (15, true)⟩ : Oper) := by kernel_rfl
  refine wpOp_skip (b' := false) (d := 95) ho rfl rfl n15 rfl ?_
  exact ⟨undef, rfl, rfl, .inl (Below.refl _ _)⟩
theorem sZ_22 : StZ 22 := by
  intro ops Q hops w0 ok1 ok2 g1 g2 bs t es hb0 hb1 i T1 b gb e cs he hx a w h0 h1 h8 h9 h11 h10 h12 h14 h15 h13 hN hI
  subst hops
  have n15 : a.tmps[95]?.getD undef = .bool false := hN 15 (by decide)
  have ho : (opsOf Try.f26 10)[22]? = some (⟨some 102, .move (.tmp 1), 45, "law.go:70", #[⟨15, .guard⟩], some (15, true)⟩ : Oper) := by kernel_rfl
  refine wpOp_skip (b' := false) (d := 95) ho rfl rfl n15 rfl ?_
  exact ⟨undef, rfl, rfl, .inl (Below.refl _ _)⟩
theorem sZ_23 : StZ 23 := by
  intro ops Q hops w0 ok1 ok2 g1 g2 bs t es hb0 hb1 i T1 b gb e cs he hx a w h0 h1 h8 h9 h11 h10 h12 h14 h15 h13 hN hI
  subst hops
  have n15 : a.tmps[95]?.getD undef = .bool false := hN 15 (by decide)
  have n22 : a.tmps[102]?.getD undef = undef := hN 22 (by decide)
  have ho : (opsOf Try.f26 10)[23]? = some (⟨some 103, .nilCheck (.tmp 102), 0, "law.go:70", #[⟨22, .data⟩, ⟨15, .guard⟩], some (15, true)⟩ : Oper) := by kernel_rfl
  refine wpOp_skip (b' := false) (d := 95) ho rfl rfl n15 rfl ?_
  exact ⟨undef, rfl, rfl, .inl (Below.refl _ _)⟩
theorem sZ_24 : StZ 24 := by
  intro ops Q hops w0 ok1 ok2 g1 g2 bs t es hb0 hb1 i T1 b gb e cs he hx a w h0 h1 h8 h9 h11 h10 h12 h14 h15 h13 hN hI
  subst hops
  have n15 : a.tmps[95]?.getD undef = .bool false := hN 15 (by decide)
  have n23 : a.tmps[103]?.getD undef = undef := hN 23 (by decide)
  have ho : (opsOf Try.f26 10)[24]? = some (⟨some 104, .fieldAddr 47 (.tmp 103) 0, 0, "law.go:70", #[⟨23, .data⟩, ⟨15, .guard⟩], some (15, true)⟩ : Oper) := by kernel_rfl
  refine wpOp_skip (b' := false) (d := 95) ho rfl rfl n15 rfl ?_
  exact ⟨undef, rfl, rfl, .inl (Below.refl _ _)⟩
theorem sZ_25 : StZ 25 := by
  intro ops Q hops w0 ok1 ok2 g1 g2 bs t es hb0 hb1 i T1 b gb e cs he hx a w h0 h1 h8 h9 h11 h10 h12 h14 h15 h13 hN hI
  subst hops
  have n15 : a.tmps[95]?.getD undef = .bool false := hN 15 (by decide)
  have n24 : a.tmps[104]?.getD undef = undef := hN 24 (by decide)
  have ho : (opsOf Try.f26 10)[25]? = some (⟨some 105, .load 3 (.tmp 104), 3, "law.go:70", #[⟨24, .data⟩, ⟨15, .guard⟩], some (15, true)⟩ : Oper) := by kernel_rfl
  refine wpOp_skip (b' := false) (d := 95) ho rfl rfl n15 rfl ?_
  exact ⟨undef, rfl, rfl, .inl (Below.refl _ _)⟩
theorem sZ_26 : StZ 26 := by
  intro ops Q hops w0 ok1 ok2 g1 g2 bs t es hb0 hb1 i T1 b gb e cs he hx a w h0 h1 h8 h9 h11 h10 h12 h14 h15 h13 hN hI
  subst hops
  have n15 : a.tmps[95]?.getD undef = .bool false := hN 15 (by decide)
  have n21 : a.tmps[101]?.getD undef = undef := hN 21 (by decide)
  have n25 : a.tmps[105]?.getD undef = undef := hN 25 (by decide)
  have ho : (opsOf Try.f26 10)[26]? = some (⟨some 106, .binOp .sub 3 (.tmp 101) (.tmp 105) 3, 3, "law.go:70", #[⟨21, .data⟩, ⟨25, .data⟩, ⟨15, .guard⟩], some (15, true)⟩ : Oper) := by kernel_rfl
  refine wpOp_skip (b' := false) (d := 95) ho rfl rfl n15 rfl ?_
  exact ⟨undef, rfl, rfl, .inl (Below.refl _ _)⟩
theorem sZ_27 : StZ 27 := by
  intro ops Q hops w0 ok1 ok2 g1 g2 bs t es hb0 hb1 i T1 b gb e cs he hx a w h0 h1 h8 h9 h11 h10 h12 h14 h15 h13 hN hI
  subst hops
  have n15 : a.tmps[95]?.getD undef = .bool false := hN 15 (by decide)
  have n26 : a.tmps[106]?.getD undef = undef := hN 26 (by decide)
  have ho : (opsOf Try.f26 10)[27]? = some (⟨some 107, .binOp .sub 3 (.tmp 106) (.const (Value.int .i64 1)) 3, 3, "law.go:70", #[⟨26, .data⟩, ⟨15, .guard⟩], some (15, true)⟩ : Oper) := by kernel_rfl
  refine wpOp_skip (b' := false) (d := 95) ho rfl rfl n15 rfl ?_
  exact ⟨undef, rfl, rfl, .inl (Below.refl _ _)⟩
theorem sZ_28 : StZ 28 := by
  intro ops Q hops w0 ok1 ok2 g1 g2 bs t es hb0 hb1 i T1 b gb e cs he hx a w h0 h1 h8 h9 h11 h10 h12 h14 h15 h13 hN hI
  subst hops
  have n15 : a.tmps[95]?.getD undef = .bool false := hN 15 (by decide)
  have n20 : a.tmps[100]?.getD undef = undef := hN 20 (by decide)
  have n27 : a.tmps[107]?.getD undef = undef := hN 27 (by decide)
  have ho : (opsOf Try.f26 10)[28]? = some (⟨some 108, .indexAddr 35 (.tmp 100) (.tmp 107), 0, "law.go:70", #[⟨20, .data⟩, ⟨27, .data⟩, ⟨15, .guard⟩], some (15, true)⟩ : Oper) := by kernel_rfl
  refine wpOp_skip (b' := false) (d := 95) ho rfl rfl n15 rfl ?_
  exact ⟨undef, rfl, rfl, .inl (Below.refl _ _)⟩
theorem sZ_29 : StZ 29 := by
  intro ops Q hops w0 ok1 ok2 g1 g2 bs t es hb0 hb1 i T1 b gb e cs he hx a w h0 h1 h8 h9 h11 h10 h12 h14 h15 h13 hN hI
  subst hops
  have n15 : a.tmps[95]?.getD undef = .bool false := hN 15 (by decide)
  have n28 : a.tmps[108]?.getD undef = undef := hN 28 (by decide)
  have ho : (opsOf Try.f26 10)[29]? = some (⟨some 109, .load 60 (.tmp 108), 60, "law.go:70", #[⟨28, .data⟩, ⟨15, .guard⟩], some (15, true)⟩ : Oper) := by kernel_rfl
  refine wpOp_skip (b' := false) (d := 95) ho rfl rfl n15 rfl ?_
  exact ⟨undef, rfl, rfl, .inl (Below.refl _ _)⟩
theorem sZ_30 : StZ 30 := by
  intro ops Q hops w0 ok1 ok2 g1 g2 bs t es hb0 hb1 i T1 b gb e cs he hx a w h0 h1 h8 h9 h11 h10 h12 h14 h15 h13 hN hI
  subst hops
  have n15 : a.tmps[95]?.getD undef = .bool false := hN 15 (by decide)
  have n16 : a.tmps[96]?.getD undef = undef := hN 16 (by decide)
  have n29 : a.tmps[109]?.getD undef = undef := hN 29 (by decide)
  have ho : (opsOf Try.f26 10)[30]? = some (⟨some 110, .call { callee := .value (.func 30), args := #[.tmp 96, .tmp 109], argTypes := #[60, 60] }, 4, "law.go:70", #[⟨16, .data⟩, ⟨29, .data⟩, ⟨15, .chain⟩, ⟨15, .guard⟩], some (15, true)⟩ : Oper) := by kernel_rfl
  refine wpOp_skip (b' := false) (d := 95) ho rfl rfl n15 rfl ?_
  exact ⟨undef, rfl, rfl, .inl (Below.refl _ _)⟩
theorem sZ_31 : StZ 31 := by
  intro ops Q hops w0 ok1 ok2 g1 g2 bs t es hb0 hb1 i T1 b gb e cs he hx a w h0 h1 h8 h9 h11 h10 h12 h14 h15 h13 hN hI
  subst hops
  have n15 : a.tmps[95]?.getD undef = .bool false := hN 15 (by decide)
  have n30 : a.tmps[110]?.getD undef = undef := hN 30 (by decide)
  have ho : (opsOf Try.f26 10)[31]? = some (⟨some 111, .unOp .not 4 (.tmp 110), 4, "law.go:70", #[⟨30, .data⟩, ⟨15, .guard⟩], some (15, true)⟩ : Oper) := by kernel_rfl
  refine wpOp_skip (b' := false) (d := 95) ho rfl rfl n15 rfl ?_
  exact ⟨undef, rfl, rfl, .inl (Below.refl _ _)⟩
theorem sZ_32 : StZ 32 := by
  intro ops Q hops w0 ok1 ok2 g1 g2 bs t es hb0 hb1 i T1 b gb e cs he hx a w h0 h1 h8 h9 h11 h10 h12 h14 h15 h13 hN hI
  subst hops
  have n13 : a.tmps[93]?.getD undef = .bool false := hN 13 (by decide)
  have n15 : a.tmps[95]?.getD undef = .bool false := hN 15 (by decide)
  have n31 : a.tmps[111]?.getD undef = undef := hN 31 (by decide)
  have ho : (opsOf Try.f26 10)[32]? = some (⟨some 112, .pick (.tmp 95) (.tmp 111) (.const (Value.bool false)), 4, "law.go:70", #[⟨15, .data⟩, ⟨31, .data⟩, ⟨13, .guard⟩], some (13, false)⟩ : Oper) := by kernel_rfl
  refine wpOp_guarded (d := 93) ho rfl rfl n13 ?_
  clear hN hI ho
  go_simp
  first | exact ⟨_, rfl, rfl⟩ | exact ⟨_, rfl, rfl, .inl (Below.refl _ _)⟩
theorem sZ_33 : StZ 33 := by
  intro ops Q hops w0 ok1 ok2 g1 g2 bs t es hb0 hb1 i T1 b gb e cs he hx a w h0 h1 h8 h9 h11 h10 h12 h14 h15 h13 hN hI
  subst hops
  have n13 : a.tmps[93]?.getD undef = .bool false := hN 13 (by decide)
  have n32 : a.tmps[112]?.getD undef = .bool false := hN 32 (by decide)
  have ho : (opsOf Try.f26 10)[33]? = some (⟨some 113, .pick (.tmp 93) (.const (Value.bool true)) (.tmp 112), 4, "law.go:70", #[⟨13, .data⟩, ⟨32, .data⟩], none⟩ : Oper) := by kernel_rfl
  refine wpOp_plain ho rfl ?_
  clear hN hI ho
  go_simp
  first | exact ⟨_, rfl, rfl⟩ | exact ⟨_, rfl, rfl, .inl (Below.refl _ _)⟩
theorem sZ_34 : StZ 34 := by
  intro ops Q hops w0 ok1 ok2 g1 g2 bs t es hb0 hb1 i T1 b gb e cs he hx a w h0 h1 h8 h9 h11 h10 h12 h14 h15 h13 hN hI
  subst hops
  have n33 : a.tmps[113]?.getD undef = .bool false := hN 33 (by decide)
  have ho : (opsOf Try.f26 10)[34]? = some (⟨some 114, .move (.tmp 113), 4, "law.go:70", #[⟨33, .data⟩, ⟨30, .chain⟩], none⟩ : Oper) := by kernel_rfl
  refine wpOp_plain ho rfl ?_
  clear hN hI ho
  go_simp
  first | exact ⟨_, rfl, rfl⟩ | exact ⟨_, rfl, rfl, .inl (Below.refl _ _)⟩
theorem sZ_35 : StZ 35 := by
  intro ops Q hops w0 ok1 ok2 g1 g2 bs t es hb0 hb1 i T1 b gb e cs he hx a w h0 h1 h8 h9 h11 h10 h12 h14 h15 h13 hN hI
  subst hops
  have n34 : a.tmps[114]?.getD undef = .bool false := hN 34 (by decide)
  have ho : (opsOf Try.f26 10)[35]? = some (⟨some 115, .move (.tmp 15), 4, "law.go:70", #[⟨34, .guard⟩], some (34, false)⟩ : Oper) := by kernel_rfl
  refine wpOp_guarded (d := 114) ho rfl rfl n34 ?_
  clear hN hI ho
  go_simp
  first | exact ⟨_, rfl, rfl⟩ | exact ⟨_, rfl, rfl, .inl (Below.refl _ _)⟩
theorem sZ_36 : StZ 36 := by
  intro ops Q hops w0 ok1 ok2 g1 g2 bs t es hb0 hb1 i T1 b gb e cs he hx a w h0 h1 h8 h9 h11 h10 h12 h14 h15 h13 hN hI
  subst hops
  have n34 : a.tmps[114]?.getD undef = .bool false := hN 34 (by decide)
  have n35 : a.tmps[115]?.getD undef = .bool false := hN 35 (by decide)
  have ho : (opsOf Try.f26 10)[36]? = some (⟨some 116, .unOp .not 4 (.tmp 115), 4, "law.go:70", #[⟨35, .data⟩, ⟨34, .guard⟩], some (34, false)⟩ : Oper) := by kernel_rfl
  refine wpOp_guarded (d := 114) ho rfl rfl n34 ?_
  clear hN hI ho
  go_simp
  first | exact ⟨_, rfl, rfl⟩ | exact ⟨_, rfl, rfl, .inl (Below.refl _ _)⟩
theorem sZ_37 : StZ 37 := by
  intro ops Q hops w0 ok1 ok2 g1 g2 bs t es hb0 hb1 i T1 b gb e cs he hx a w h0 h1 h8 h9 h11 h10 h12 h14 h15 h13 hN hI
  subst hops
  have n34 : a.tmps[114]?.getD undef = .bool false := hN 34 (by decide)
  have n36 : a.tmps[116]?.getD undef = .bool true := hN 36 (by decide)
  have ho : (opsOf Try.f26 10)[37]? = some (⟨some 117, .move (.tmp 116), 4, "law.go:70", #[⟨36, .data⟩, ⟨34, .chain⟩, ⟨34, .guard⟩], some (34, false)⟩ : Oper) := by kernel_rfl
  refine wpOp_guarded (d := 114) ho rfl rfl n34 ?_
  clear hN hI ho
  go_simp
  first | exact ⟨_, rfl, rfl⟩ | exact ⟨_, rfl, rfl, .inl (Below.refl _ _)⟩
theorem sZ_38 : StZ 38 := by
  intro ops Q hops w0 ok1 ok2 g1 g2 bs t es hb0 hb1 i T1 b gb e cs he hx a w h0 h1 h8 h9 h11 h10 h12 h14 h15 h13 hN hI
  subst hops
  have n37 : a.tmps[117]?.getD undef = .bool true := hN 37 (by decide)
  have hi0 : (fun (w : World) => (Log w ok1 g1 bs t es ∧ LogX w ok2 g2 bs t es ∧ Below w0.heap.size w0 w) ∧ w.heap[gb]? = some (.cells cs.toArray 60 (0, 0)) ∧ k60.K w e cs) w := hI 0 (by decide) (by decide)
  have ho : (opsOf Try.f26 10)[38]? = some (⟨some 118, .load 60 (.tmp 13), 60, "law.go:70", #[⟨37, .guard⟩], some (37, true)⟩ : Oper) := by kernel_rfl
  refine wpOp_guarded (d := 117) ho rfl rfl n37 ?_
  clear hN hI ho
  obtain ⟨hS, hh, hK⟩ := hi0
  obtain ⟨A9, c9, A13, c13, rfl, l9, g9, l13, g13⟩ := k60_open hK
  have q0 : w.cell? ⟨gb, 0, none⟩ = some (.int .i64 e.f0) := (blk_cell hh 0).trans rfl
  have q1 : w.cell? ⟨gb, 1, none⟩ = some (.int .i64 e.f1) := (blk_cell hh 1).trans rfl
  have q2 : w.cell? ⟨gb, 2, none⟩ = some (.int .i64 e.f2.f0) := (blk_cell hh 2).trans rfl
  have q3 : w.cell? ⟨gb, 3, none⟩ = some (.string e.f2.f1) := (blk_cell hh 3).trans rfl
  have q4 : w.cell? ⟨gb, 4, none⟩ = some (.string e.f2.f2) := (blk_cell hh 4).trans rfl
  have q5 : w.cell? ⟨gb, 5, none⟩ = some (.string e.f2.f3) := (blk_cell hh 5).trans rfl
  have q6 : w.cell? ⟨gb, 6, none⟩ = some (.string e.f2.f4) := (blk_cell hh 6).trans rfl
  have q7 : w.cell? ⟨gb, 7, none⟩ = some (.string e.f2.f5) := (blk_cell hh 7).trans rfl
  have q8 : w.cell? ⟨gb, 8, none⟩ = some (.string e.f2.f6) := (blk_cell hh 8).trans rfl
  have q9 : w.cell? ⟨gb, 9, none⟩ = some (.slice A9 e.f2.f7.length c9) := (blk_cell hh 9).trans rfl
  have q10 : w.cell? ⟨gb, 10, none⟩ = some (.int .i64 e.f2.f8) := (blk_cell hh 10).trans rfl
  have q11 : w.cell? ⟨gb, 11, none⟩ = some (.int .i64 e.f2.f9) := (blk_cell hh 11).trans rfl
  have q12 : w.cell? ⟨gb, 12, none⟩ = some (.int .i64 e.f2.f10) := (blk_cell hh 12).trans rfl
  have q13 : w.cell? ⟨gb, 13, none⟩ = some (.slice A13 e.f3.length c13) := (blk_cell hh 13).trans rfl
  clear hS hh hK l9 g9 l13 g13
  go_simp
  first | exact ⟨_, rfl, rfl⟩ | exact ⟨_, rfl, rfl, .inl (Below.refl _ _)⟩
theorem sZ_39 : StZ 39 := by
  intro ops Q hops w0 ok1 ok2 g1 g2 bs t es hb0 hb1 i T1 b gb e cs he hx a w h0 h1 h8 h9 h11 h10 h12 h14 h15 h13 hN hI
  subst hops
  have n37 : a.tmps[117]?.getD undef = .bool true := hN 37 (by decide)
  have ho : (opsOf Try.f26 10)[39]? = some (⟨some 119, .build 60 #[], 60, "law.go:70", #[⟨37, .guard⟩], some (37, true)⟩ : Oper) := by kernel_rfl
  refine wpOp_guarded (d := 117) ho rfl rfl n37 ?_
  clear hN hI ho
  go_simp
  first | exact ⟨_, rfl, rfl⟩ | exact ⟨_, rfl, rfl, .inl (Below.refl _ _)⟩
theorem sZ_40 : StZ 40 := by
  intro ops Q hops w0 ok1 ok2 g1 g2 bs t es hb0 hb1 i T1 b gb e cs he hx a w h0 h1 h8 h9 h11 h10 h12 h14 h15 h13 hN hI
  subst hops
  have n37 : a.tmps[117]?.getD undef = .bool true := hN 37 (by decide)
  have n38 : (fun (v : Value) (w : World) => v = .agg cs.toArray) (a.tmps[118]?.getD undef) w := hN 38 (by decide)
  have n39 : (fun (v : Value) (w : World) => v = .agg #[.int .i64 0, .int .i64 0, .int .i64 0, .string ⟨#[]⟩, .string ⟨#[]⟩, .string ⟨#[]⟩, .string ⟨#[]⟩, .string ⟨#[]⟩, .string ⟨#[]⟩, .slice none 0 0, .int .i64 0, .int .i64 0, .int .i64 0, .slice none 0 0]) (a.tmps[119]?.getD undef) w := hN 39 (by decide)
  have hi0 : (fun (w : World) => (Log w ok1 g1 bs t es ∧ LogX w ok2 g2 bs t es ∧ Below w0.heap.size w0 w) ∧ w.heap[gb]? = some (.cells cs.toArray 60 (0, 0)) ∧ k60.K w e cs) w := hI 0 (by decide) (by decide)
  have ho : (opsOf Try.f26 10)[40]? = some (⟨some 120, .call { callee := .value (.func 30), args := #[.tmp 118, .tmp 119], argTypes := #[60, 60] }, 4, "law.go:70", #[⟨38, .data⟩, ⟨39, .data⟩, ⟨37, .chain⟩, ⟨37, .guard⟩], some (37, true)⟩ : Oper) := by kernel_rfl
  refine wpOp_guarded (d := 117) ho rfl rfl n37 ?_
  clear hN hI ho
  have hv1 : a.tmps[118]?.getD undef = .agg cs.toArray := n38
  obtain ⟨hS, hh, hK⟩ := hi0
  have HH := Aside0.mk (one_eq w e cs [.int .i64 0, .int .i64 0, .int .i64 0, .string ⟨#[]⟩, .string ⟨#[]⟩, .string ⟨#[]⟩, .string ⟨#[]⟩, .string ⟨#[]⟩, .string ⟨#[]⟩, .slice none 0 0, .int .i64 0, .int .i64 0, .int .i64 0, .slice none 0 0] he hK (by rw [hx]; exact k60.K_of_M (k60_mkM w 0 (fun _ => True) z60 (Kd.R_nil _ _ _ _ _) (Kd.R_nil _ _ _ _ _))))
  clear hS hh hK
  go_simp
  refine HH.out.mono ?_
  rintro e w' ⟨rfl, hb⟩
  exact ⟨_, rfl, rfl, .inl hb⟩
theorem sZ_41 : StZ 41 := by
  intro ops Q hops w0 ok1 ok2 g1 g2 bs t es hb0 hb1 i T1 b gb e cs he hx a w h0 h1 h8 h9 h11 h10 h12 h14 h15 h13 hN hI
  subst hops
  have n37 : a.tmps[117]?.getD undef = .bool true := hN 37 (by decide)
  have n40 : a.tmps[120]?.getD undef = .bool true := hN 40 (by decide)
  have ho : (opsOf Try.f26 10)[41]? = some (⟨some 121, .unOp .not 4 (.tmp 120), 4, "law.go:70", #[⟨40, .data⟩, ⟨37, .guard⟩], some (37, true)⟩ : Oper) := by kernel_rfl
  refine wpOp_guarded (d := 117) ho rfl rfl n37 ?_
  clear hN hI ho
  go_simp
  first | exact ⟨_, rfl, rfl⟩ | exact ⟨_, rfl, rfl, .inl (Below.refl _ _)⟩
theorem sZ_42 : StZ 42 := by
  intro ops Q hops w0 ok1 ok2 g1 g2 bs t es hb0 hb1 i T1 b gb e cs he hx a w h0 h1 h8 h9 h11 h10 h12 h14 h15 h13 hN hI
  subst hops
  have n34 : a.tmps[114]?.getD undef = .bool false := hN 34 (by decide)
  have n37 : a.tmps[117]?.getD undef = .bool true := hN 37 (by decide)
  have n41 : a.tmps[121]?.getD undef = .bool false := hN 41 (by decide)
  have ho : (opsOf Try.f26 10)[42]? = some (⟨some 122, .pick (.tmp 117) (.tmp 121) (.const (Value.bool false)), 4, "law.go:70", #[⟨37, .data⟩, ⟨41, .data⟩, ⟨34, .guard⟩], some (34, false)⟩ : Oper) := by kernel_rfl
  refine wpOp_guarded (d := 114) ho rfl rfl n34 ?_
  clear hN hI ho
  go_simp
  first | exact ⟨_, rfl, rfl⟩ | exact ⟨_, rfl, rfl, .inl (Below.refl _ _)⟩
theorem sZ_43 : StZ 43 := by
  intro ops Q hops w0 ok1 ok2 g1 g2 bs t es hb0 hb1 i T1 b gb e cs he hx a w h0 h1 h8 h9 h11 h10 h12 h14 h15 h13 hN hI
  subst hops
  have n34 : a.tmps[114]?.getD undef = .bool false := hN 34 (by decide)
  have n42 : a.tmps[122]?.getD undef = .bool false := hN 42 (by decide)
  have ho : (opsOf Try.f26 10)[43]? = some (⟨some 123, .pick (.tmp 114) (.const (Value.bool true)) (.tmp 122), 4, "law.go:70", #[⟨34, .data⟩, ⟨42, .data⟩], none⟩ : Oper) := by kernel_rfl
  refine wpOp_plain ho rfl ?_
  clear hN hI ho
  go_simp
  first | exact ⟨_, rfl, rfl⟩ | exact ⟨_, rfl, rfl, .inl (Below.refl _ _)⟩
theorem sZ_44 : StZ 44 := by
  intro ops Q hops w0 ok1 ok2 g1 g2 bs t es hb0 hb1 i T1 b gb e cs he hx a w h0 h1 h8 h9 h11 h10 h12 h14 h15 h13 hN hI
  subst hops
  have n43 : a.tmps[123]?.getD undef = .bool false := hN 43 (by decide)
  have ho : (opsOf Try.f26 10)[44]? = some (⟨some 124, .move (.tmp 123), 4, "law.go:70", #[⟨43, .data⟩, ⟨40, .chain⟩], none⟩ : Oper) := by kernel_rfl
  refine wpOp_plain ho rfl ?_
  clear hN hI ho
  go_simp
  first | exact ⟨_, rfl, rfl⟩ | exact ⟨_, rfl, rfl, .inl (Below.refl _ _)⟩
theorem sZ_45 : StZ 45 := by
  intro ops Q hops w0 ok1 ok2 g1 g2 bs t es hb0 hb1 i T1 b gb e cs he hx a w h0 h1 h8 h9 h11 h10 h12 h14 h15 h13 hN hI
  subst hops
  have n44 : a.tmps[124]?.getD undef = .bool false := hN 44 (by decide)
  have ho : (opsOf Try.f26 10)[45]? = some (⟨some 125, .move (.tmp 0), 24, "law.go:70", #[⟨44, .guard⟩], some (44, false)⟩ : Oper) := by kernel_rfl
  refine wpOp_guarded (d := 124) ho rfl rfl n44 ?_
  clear hN hI ho
  go_simp
  first | exact ⟨_, rfl, rfl⟩ | exact ⟨_, rfl, rfl, .inl (Below.refl _ _)⟩
theorem sZ_46 : StZ 46 := by
  intro ops Q hops w0 ok1 ok2 g1 g2 bs t es hb0 hb1 i T1 b gb e cs he hx a w h0 h1 h8 h9 h11 h10 h12 h14 h15 h13 hN hI
  subst hops
  have n44 : a.tmps[124]?.getD undef = .bool false := hN 44 (by decide)
  have ho : (opsOf Try.f26 10)[46]? = some (⟨some 126, .move (.tmp 8), 3, "law.go:70", #[⟨44, .guard⟩], some (44, false)⟩ : Oper) := by kernel_rfl
  refine wpOp_guarded (d := 124) ho rfl rfl n44 ?_
  clear hN hI ho
  go_simp
  first | exact ⟨_, rfl, rfl⟩ | exact ⟨_, rfl, rfl, .inl (Below.refl _ _)⟩
theorem sZ_47 : StZ 47 := by
  intro ops Q hops w0 ok1 ok2 g1 g2 bs t es hb0 hb1 i T1 b gb e cs he hx a w h0 h1 h8 h9 h11 h10 h12 h14 h15 h13 hN hI
  subst hops
  have n44 : a.tmps[124]?.getD undef = .bool false := hN 44 (by decide)
  have n45 : a.tmps[125]?.getD undef = .pointer (some ⟨g1, 0, none⟩) := hN 45 (by decide)
  have n46 : a.tmps[126]?.getD undef = .int .i64 i := hN 46 (by decide)
  have hi0 : (fun (w : World) => (Log w ok1 g1 bs t es ∧ LogX w ok2 g2 bs t es ∧ Below w0.heap.size w0 w) ∧ w.heap[gb]? = some (.cells cs.toArray 60 (0, 0)) ∧ k60.K w e cs) w := hI 0 (by decide) (by decide)
  have ho : (opsOf Try.f26 10)[47]? = some (⟨some 127, .call { callee := .value (.func 18), args := #[.tmp 125, .tmp 126], argTypes := #[24, 3] }, 3, "law.go:70", #[⟨45, .data⟩, ⟨46, .data⟩, ⟨44, .chain⟩, ⟨44, .guard⟩], some (44, false)⟩ : Oper) := by kernel_rfl
  refine wpOp_guarded (d := 124) ho rfl rfl n44 ?_
  clear hN hI ho
  have HH := Aside0.mk (hint_calls hi0.1.1 hb0 hb1 i)
  clear hi0
  go_simp
  refine HH.out.mono ?_
  rintro e w' ⟨rfl, m, rfl⟩
  exact ⟨_, rfl, rfl, .inl (pw_below_drewN (Below.refl _ _) m)⟩
theorem sZ_48 : StZ 48 := by
  intro ops Q hops w0 ok1 ok2 g1 g2 bs t es hb0 hb1 i T1 b gb e cs he hx a w h0 h1 h8 h9 h11 h10 h12 h14 h15 h13 hN hI
  subst hops
  have n44 : a.tmps[124]?.getD undef = .bool false := hN 44 (by decide)
  have ho : (opsOf Try.f26 10)[48]? = some (⟨some 128, .move (.tmp 1), 45, "law.go:70", #[⟨44, .guard⟩], some (44, false)⟩ : Oper) := by kernel_rfl
  refine wpOp_guarded (d := 124) ho rfl rfl n44 ?_
  clear hN hI ho
  go_simp
  first | exact ⟨_, rfl, rfl⟩ | exact ⟨_, rfl, rfl, .inl (Below.refl _ _)⟩
theorem sZ_49 : StZ 49 := by
  intro ops Q hops w0 ok1 ok2 g1 g2 bs t es hb0 hb1 i T1 b gb e cs he hx a w h0 h1 h8 h9 h11 h10 h12 h14 h15 h13 hN hI
  subst hops
  have n44 : a.tmps[124]?.getD undef = .bool false := hN 44 (by decide)
  have ho : (opsOf Try.f26 10)[49]? = some (⟨some 129, .move (.tmp 8), 3, "law.go:70", #[⟨44, .guard⟩], some (44, false)⟩ : Oper) := by kernel_rfl
  refine wpOp_guarded (d := 124) ho rfl rfl n44 ?_
  clear hN hI ho
  go_simp
  first | exact ⟨_, rfl, rfl⟩ | exact ⟨_, rfl, rfl, .inl (Below.refl _ _)⟩
theorem sZ_50 : StZ 50 := by
  intro ops Q hops w0 ok1 ok2 g1 g2 bs t es hb0 hb1 i T1 b gb e cs he hx a w h0 h1 h8 h9 h11 h10 h12 h14 h15 h13 hN hI
  subst hops
  have n44 : a.tmps[124]?.getD undef = .bool false := hN 44 (by decide)
  have n48 : a.tmps[128]?.getD undef = .pointer (some ⟨g2, 0, none⟩) := hN 48 (by decide)
  have n49 : a.tmps[129]?.getD undef = .int .i64 i := hN 49 (by decide)
  have hi0 : (fun (w : World) => (Log w ok1 g1 bs t es ∧ LogX w ok2 g2 bs t es ∧ Below w0.heap.size w0 w) ∧ w.heap[gb]? = some (.cells cs.toArray 60 (0, 0)) ∧ k60.K w e cs) w := hI 0 (by decide) (by decide)
  have ho : (opsOf Try.f26 10)[50]? = some (⟨some 130, .call { callee := .value (.func 35), args := #[.tmp 128, .tmp 129], argTypes := #[45, 3] }, 3, "law.go:70", #[⟨48, .data⟩, ⟨49, .data⟩, ⟨47, .chain⟩, ⟨44, .guard⟩], some (44, false)⟩ : Oper) := by kernel_rfl
  refine wpOp_guarded (d := 124) ho rfl rfl n44 ?_
  clear hN hI ho
  have HH := Aside0.mk (hint_x hi0.1.2.1 hb0 hb1 i)
  clear hi0
  go_simp
  refine HH.out.mono ?_
  rintro e w' ⟨rfl, m, rfl⟩
  exact ⟨_, rfl, rfl, .inl (pw_below_drewN (Below.refl _ _) m)⟩
theorem sZ_51 : StZ 51 := by
  intro ops Q hops w0 ok1 ok2 g1 g2 bs t es hb0 hb1 i T1 b gb e cs he hx a w h0 h1 h8 h9 h11 h10 h12 h14 h15 h13 hN hI
  subst hops
  have n44 : a.tmps[124]?.getD undef = .bool false := hN 44 (by decide)
  have n47 : a.tmps[127]?.getD undef = .int .i64 (hintL bs t es i) := hN 47 (by decide)
  have n50 : a.tmps[130]?.getD undef = .int .i64 (hintL bs t es i) := hN 50 (by decide)
  have ho : (opsOf Try.f26 10)[51]? = some (⟨some 131, .binOp .neq 3 (.tmp 127) (.tmp 130) 3, 4, "law.go:70", #[⟨47, .data⟩, ⟨50, .data⟩, ⟨44, .guard⟩], some (44, false)⟩ : Oper) := by kernel_rfl
  refine wpOp_guarded (d := 124) ho rfl rfl n44 ?_
  clear hN hI ho
  go_simp
  first | exact ⟨_, rfl, rfl⟩ | exact ⟨_, rfl, rfl, .inl (Below.refl _ _)⟩
theorem sZ_52 : StZ 52 := by
  intro ops Q hops w0 ok1 ok2 g1 g2 bs t es hb0 hb1 i T1 b gb e cs he hx a w h0 h1 h8 h9 h11 h10 h12 h14 h15 h13 hN hI
  subst hops
  have n44 : a.tmps[124]?.getD undef = .bool false := hN 44 (by decide)
  have n51 : a.tmps[131]?.getD undef = .bool false := hN 51 (by decide)
  have ho : (opsOf Try.f26 10)[52]? = some (⟨some 132, .pick (.tmp 124) (.const (Value.bool true)) (.tmp 131), 4, "law.go:70", #[⟨44, .data⟩, ⟨51, .data⟩], none⟩ : Oper) := by kernel_rfl
  refine wpOp_plain ho rfl ?_
  clear hN hI ho
  go_simp
  first | exact ⟨_, rfl, rfl⟩ | exact ⟨_, rfl, rfl, .inl (Below.refl _ _)⟩
theorem monoZ (w0 : World) (ok1 ok2 : Nat → Prop) (g1 g2 : Nat) (bs t : Int) (es : List S60) (hb0 : 0 ≤ bs) (hb1 : bs + es.length ≤ 4611686018427387904) (i : Int) (T1 : Int) (b : Bool) (gb : Nat) (e : S60) (cs : List Value) (he : okS e) (hx : e = z60) (j : Nat) (v : Value) (w w' : World) (h : FZ w0 ok1 ok2 g1 g2 bs t es hb0 hb1 i T1 b gb e cs he hx j v w) (hb : Below w.heap.size w w') : FZ w0 ok1 ok2 g1 g2 bs t es hb0 hb1 i T1 b gb e cs he hx j v w' := by
  unfold FZ at h ⊢
  split <;> first
    | exact True.intro
    | exact h
    | (obtain ⟨A, c, hv, hc, hC⟩ := h; exact ⟨A, c, hv, hc, Kd.C_below hC hb⟩)
    | exact EntAt.below h hb
    | (obtain ⟨cs2, hv, hK⟩ := h; exact ⟨cs2, hv, k60.K_below hb hK⟩)
theorem monoIZ (w0 : World) (ok1 ok2 : Nat → Prop) (g1 g2 : Nat) (bs t : Int) (es : List S60) (hb0 : 0 ≤ bs) (hb1 : bs + es.length ≤ 4611686018427387904) (i : Int) (T1 : Int) (b : Bool) (gb : Nat) (e : S60) (cs : List Value) (he : okS e) (hx : e = z60) (c : Nat) (w w' : World) (h : IZ w0 ok1 ok2 g1 g2 bs t es hb0 hb1 i T1 b gb e cs he hx c w) (hb : Below w.heap.size w w') : IZ w0 ok1 ok2 g1 g2 bs t es hb0 hb1 i T1 b gb e cs he hx c w' := by
  unfold IZ at h ⊢
  split <;> first
    | exact True.intro
    | exact ⟨⟨h.1.1.below hb, h.1.2.1.below hb, h.1.2.2.trans (hb.mono h.1.2.2.size)⟩, (hb.block gb (Array.getElem?_eq_some_iff.1 h.2.1).1).trans h.2.1, k60.K_below hb h.2.2⟩
theorem hinZ : ∀ i, i < 53 → ∀ d, dstZ i = some d → d < 160 := by
  have h2 : ∀ i, i < 53 → (dstZ i).all (fun d => decide (d < 160)) = true := by decide
  intro i hi d hd
  have := h2 i hi
  rw [hd] at this
  simpa using this
set_option maxRecDepth 100000 in
theorem regionZ {ops : Array Oper} {Q : Exit → Act → World → Prop} (hops : ops = opsOf Try.f26 10) {id_ : Nat} (w0 : World) (ok1 ok2 : Nat → Prop) (g1 g2 : Nat) (bs t : Int) (es : List S60) (hb0 : 0 ≤ bs) (hb1 : bs + es.length ≤ 4611686018427387904) (i : Int) (T1 : Int) (b : Bool) (gb : Nat) (e : S60) (cs : List Value) (he : okS e) (hx : e = z60) (a0 : Act) (w0_ : World) (hI0 : ∀ c, IZ w0 ok1 ok2 g1 g2 bs t es hb0 hb1 i T1 b gb e cs he hx c w0_) (hsz : a0.tmps.size = 160) (h0 : a0.tmps[0]?.getD undef = .pointer (some ⟨g1, 0, none⟩)) (h1 : a0.tmps[1]?.getD undef = .pointer (some ⟨g2, 0, none⟩)) (h8 : a0.tmps[8]?.getD undef = .int .i64 i) (h9 : a0.tmps[9]?.getD undef = .int .i64 T1) (h11 : a0.tmps[11]?.getD undef = .int .i64 T1) (h10 : a0.tmps[10]?.getD undef = .bool b) (h12 : a0.tmps[12]?.getD undef = .bool b) (h14 : a0.tmps[14]?.getD undef = .bool false) (h15 : a0.tmps[15]?.getD undef = .bool false) (h13 : a0.tmps[13]?.getD undef = .pointer (some ⟨gb, 0, none⟩))
    (hQ : ∀ a w, AgreeO 53 dstZ a0 a → FZ w0 ok1 ok2 g1 g2 bs t es hb0 hb1 i T1 b gb e cs he hx 52 (slotO dstZ a 52) w → IZ w0 ok1 ok2 g1 g2 bs t es hb0 hb1 i T1 b gb e cs he hx 0 w → Q .normal a w) : (Code.region id_ ops true).wp Try.prog Q a0 w0_ := by
  refine region_heldB (n := 53) dstZ (FZ w0 ok1 ok2 g1 g2 bs t es hb0 hb1 i T1 b gb e cs he hx) (IZ w0 ok1 ok2 g1 g2 bs t es hb0 hb1 i T1 b gb e cs he hx) 1 ndZ ncZ usZ killZ killIZ useIZ (by kernel_rfl) (by rw [hops]; kernel_rfl) (by decide) ?_ (fun j v w w' _ h hb => monoZ w0 ok1 ok2 g1 g2 bs t es hb0 hb1 i T1 b gb e cs he hx j v w w' h hb) (fun c w w' h hb => monoIZ w0 ok1 ok2 g1 g2 bs t es hb0 hb1 i T1 b gb e cs he hx c w w' h hb) hI0 (by rw [hops]; kernel_rfl) (by decide) (by decide) (by decide) (by decide) (by decide) ?_ (fun a w hA hF hI => hQ a w hA (hF 52 (by decide) (by decide)) (hI 0 (by decide) (by decide)))
  · intro i hi d hd
    rw [hsz]; exact hinZ i hi d hd
  · intro i a w hi hA hN hI
    have h0 := (hA.old 0 (by decide)).trans h0
    have h1 := (hA.old 1 (by decide)).trans h1
    have h8 := (hA.old 8 (by decide)).trans h8
    have h9 := (hA.old 9 (by decide)).trans h9
    have h11 := (hA.old 11 (by decide)).trans h11
    have h10 := (hA.old 10 (by decide)).trans h10
    have h12 := (hA.old 12 (by decide)).trans h12
    have h14 := (hA.old 14 (by decide)).trans h14
    have h15 := (hA.old 15 (by decide)).trans h15
    have h13 := (hA.old 13 (by decide)).trans h13
    have hi' : i = 0 ∨ i = 1 ∨ i = 2 ∨ i = 3 ∨ i = 4 ∨ i = 5 ∨ i = 6 ∨ i = 7 ∨ i = 8 ∨ i = 9 ∨ i = 10 ∨ i = 11 ∨ i = 12 ∨ i = 13 ∨ i = 14 ∨ i = 15 ∨ i = 16 ∨ i = 17 ∨ i = 18 ∨ i = 19 ∨ i = 20 ∨ i = 21 ∨ i = 22 ∨ i = 23 ∨ i = 24 ∨ i = 25 ∨ i = 26 ∨ i = 27 ∨ i = 28 ∨ i = 29 ∨ i = 30 ∨ i = 31 ∨ i = 32 ∨ i = 33 ∨ i = 34 ∨ i = 35 ∨ i = 36 ∨ i = 37 ∨ i = 38 ∨ i = 39 ∨ i = 40 ∨ i = 41 ∨ i = 42 ∨ i = 43 ∨ i = 44 ∨ i = 45 ∨ i = 46 ∨ i = 47 ∨ i = 48 ∨ i = 49 ∨ i = 50 ∨ i = 51 ∨ i = 52 := by omega
    rcases hi' with rfl | rfl | rfl | rfl | rfl | rfl | rfl | rfl | rfl | rfl | rfl | rfl | rfl | rfl | rfl | rfl | rfl | rfl | rfl | rfl | rfl | rfl | rfl | rfl | rfl | rfl | rfl | rfl | rfl | rfl | rfl | rfl | rfl | rfl | rfl | rfl | rfl | rfl | rfl | rfl | rfl | rfl | rfl | rfl | rfl | rfl | rfl | rfl | rfl | rfl | rfl | rfl | rfl
    · exact sZ_0 ops Q hops w0 ok1 ok2 g1 g2 bs t es hb0 hb1 i T1 b gb e cs he hx a w h0 h1 h8 h9 h11 h10 h12 h14 h15 h13 hN hI
    · exact sZ_1 ops Q hops w0 ok1 ok2 g1 g2 bs t es hb0 hb1 i T1 b gb e cs he hx a w h0 h1 h8 h9 h11 h10 h12 h14 h15 h13 hN hI
    · exact sZ_2 ops Q hops w0 ok1 ok2 g1 g2 bs t es hb0 hb1 i T1 b gb e cs he hx a w h0 h1 h8 h9 h11 h10 h12 h14 h15 h13 hN hI
    · exact sZ_3 ops Q hops w0 ok1 ok2 g1 g2 bs t es hb0 hb1 i T1 b gb e cs he hx a w h0 h1 h8 h9 h11 h10 h12 h14 h15 h13 hN hI
    · exact sZ_4 ops Q hops w0 ok1 ok2 g1 g2 bs t es hb0 hb1 i T1 b gb e cs he hx a w h0 h1 h8 h9 h11 h10 h12 h14 h15 h13 hN hI
    · exact sZ_5 ops Q hops w0 ok1 ok2 g1 g2 bs t es hb0 hb1 i T1 b gb e cs he hx a w h0 h1 h8 h9 h11 h10 h12 h14 h15 h13 hN hI
    · exact sZ_6 ops Q hops w0 ok1 ok2 g1 g2 bs t es hb0 hb1 i T1 b gb e cs he hx a w h0 h1 h8 h9 h11 h10 h12 h14 h15 h13 hN hI
    · exact sZ_7 ops Q hops w0 ok1 ok2 g1 g2 bs t es hb0 hb1 i T1 b gb e cs he hx a w h0 h1 h8 h9 h11 h10 h12 h14 h15 h13 hN hI
    · exact sZ_8 ops Q hops w0 ok1 ok2 g1 g2 bs t es hb0 hb1 i T1 b gb e cs he hx a w h0 h1 h8 h9 h11 h10 h12 h14 h15 h13 hN hI
    · exact sZ_9 ops Q hops w0 ok1 ok2 g1 g2 bs t es hb0 hb1 i T1 b gb e cs he hx a w h0 h1 h8 h9 h11 h10 h12 h14 h15 h13 hN hI
    · exact sZ_10 ops Q hops w0 ok1 ok2 g1 g2 bs t es hb0 hb1 i T1 b gb e cs he hx a w h0 h1 h8 h9 h11 h10 h12 h14 h15 h13 hN hI
    · exact sZ_11 ops Q hops w0 ok1 ok2 g1 g2 bs t es hb0 hb1 i T1 b gb e cs he hx a w h0 h1 h8 h9 h11 h10 h12 h14 h15 h13 hN hI
    · exact sZ_12 ops Q hops w0 ok1 ok2 g1 g2 bs t es hb0 hb1 i T1 b gb e cs he hx a w h0 h1 h8 h9 h11 h10 h12 h14 h15 h13 hN hI
    · exact sZ_13 ops Q hops w0 ok1 ok2 g1 g2 bs t es hb0 hb1 i T1 b gb e cs he hx a w h0 h1 h8 h9 h11 h10 h12 h14 h15 h13 hN hI
    · exact sZ_14 ops Q hops w0 ok1 ok2 g1 g2 bs t es hb0 hb1 i T1 b gb e cs he hx a w h0 h1 h8 h9 h11 h10 h12 h14 h15 h13 hN hI
    · exact sZ_15 ops Q hops w0 ok1 ok2 g1 g2 bs t es hb0 hb1 i T1 b gb e cs he hx a w h0 h1 h8 h9 h11 h10 h12 h14 h15 h13 hN hI
    · exact sZ_16 ops Q hops w0 ok1 ok2 g1 g2 bs t es hb0 hb1 i T1 b gb e cs he hx a w h0 h1 h8 h9 h11 h10 h12 h14 h15 h13 hN hI
    · exact sZ_17 ops Q hops w0 ok1 ok2 g1 g2 bs t es hb0 hb1 i T1 b gb e cs he hx a w h0 h1 h8 h9 h11 h10 h12 h14 h15 h13 hN hI
    · exact sZ_18 ops Q hops w0 ok1 ok2 g1 g2 bs t es hb0 hb1 i T1 b gb e cs he hx a w h0 h1 h8 h9 h11 h10 h12 h14 h15 h13 hN hI
    · exact sZ_19 ops Q hops w0 ok1 ok2 g1 g2 bs t es hb0 hb1 i T1 b gb e cs he hx a w h0 h1 h8 h9 h11 h10 h12 h14 h15 h13 hN hI
    · exact sZ_20 ops Q hops w0 ok1 ok2 g1 g2 bs t es hb0 hb1 i T1 b gb e cs he hx a w h0 h1 h8 h9 h11 h10 h12 h14 h15 h13 hN hI
    · exact sZ_21 ops Q hops w0 ok1 ok2 g1 g2 bs t es hb0 hb1 i T1 b gb e cs he hx a w h0 h1 h8 h9 h11 h10 h12 h14 h15 h13 hN hI
    · exact sZ_22 ops Q hops w0 ok1 ok2 g1 g2 bs t es hb0 hb1 i T1 b gb e cs he hx a w h0 h1 h8 h9 h11 h10 h12 h14 h15 h13 hN hI
    · exact sZ_23 ops Q hops w0 ok1 ok2 g1 g2 bs t es hb0 hb1 i T1 b gb e cs he hx a w h0 h1 h8 h9 h11 h10 h12 h14 h15 h13 hN hI
    · exact sZ_24 ops Q hops w0 ok1 ok2 g1 g2 bs t es hb0 hb1 i T1 b gb e cs he hx a w h0 h1 h8 h9 h11 h10 h12 h14 h15 h13 hN hI
    · exact sZ_25 ops Q hops w0 ok1 ok2 g1 g2 bs t es hb0 hb1 i T1 b gb e cs he hx a w h0 h1 h8 h9 h11 h10 h12 h14 h15 h13 hN hI
    · exact sZ_26 ops Q hops w0 ok1 ok2 g1 g2 bs t es hb0 hb1 i T1 b gb e cs he hx a w h0 h1 h8 h9 h11 h10 h12 h14 h15 h13 hN hI
    · exact sZ_27 ops Q hops w0 ok1 ok2 g1 g2 bs t es hb0 hb1 i T1 b gb e cs he hx a w h0 h1 h8 h9 h11 h10 h12 h14 h15 h13 hN hI
    · exact sZ_28 ops Q hops w0 ok1 ok2 g1 g2 bs t es hb0 hb1 i T1 b gb e cs he hx a w h0 h1 h8 h9 h11 h10 h12 h14 h15 h13 hN hI
    · exact sZ_29 ops Q hops w0 ok1 ok2 g1 g2 bs t es hb0 hb1 i T1 b gb e cs he hx a w h0 h1 h8 h9 h11 h10 h12 h14 h15 h13 hN hI
    · exact sZ_30 ops Q hops w0 ok1 ok2 g1 g2 bs t es hb0 hb1 i T1 b gb e cs he hx a w h0 h1 h8 h9 h11 h10 h12 h14 h15 h13 hN hI
    · exact sZ_31 ops Q hops w0 ok1 ok2 g1 g2 bs t es hb0 hb1 i T1 b gb e cs he hx a w h0 h1 h8 h9 h11 h10 h12 h14 h15 h13 hN hI
    · exact sZ_32 ops Q hops w0 ok1 ok2 g1 g2 bs t es hb0 hb1 i T1 b gb e cs he hx a w h0 h1 h8 h9 h11 h10 h12 h14 h15 h13 hN hI
    · exact sZ_33 ops Q hops w0 ok1 ok2 g1 g2 bs t es hb0 hb1 i T1 b gb e cs he hx a w h0 h1 h8 h9 h11 h10 h12 h14 h15 h13 hN hI
    · exact sZ_34 ops Q hops w0 ok1 ok2 g1 g2 bs t es hb0 hb1 i T1 b gb e cs he hx a w h0 h1 h8 h9 h11 h10 h12 h14 h15 h13 hN hI
    · exact sZ_35 ops Q hops w0 ok1 ok2 g1 g2 bs t es hb0 hb1 i T1 b gb e cs he hx a w h0 h1 h8 h9 h11 h10 h12 h14 h15 h13 hN hI
    · exact sZ_36 ops Q hops w0 ok1 ok2 g1 g2 bs t es hb0 hb1 i T1 b gb e cs he hx a w h0 h1 h8 h9 h11 h10 h12 h14 h15 h13 hN hI
    · exact sZ_37 ops Q hops w0 ok1 ok2 g1 g2 bs t es hb0 hb1 i T1 b gb e cs he hx a w h0 h1 h8 h9 h11 h10 h12 h14 h15 h13 hN hI
    · exact sZ_38 ops Q hops w0 ok1 ok2 g1 g2 bs t es hb0 hb1 i T1 b gb e cs he hx a w h0 h1 h8 h9 h11 h10 h12 h14 h15 h13 hN hI
    · exact sZ_39 ops Q hops w0 ok1 ok2 g1 g2 bs t es hb0 hb1 i T1 b gb e cs he hx a w h0 h1 h8 h9 h11 h10 h12 h14 h15 h13 hN hI
    · exact sZ_40 ops Q hops w0 ok1 ok2 g1 g2 bs t es hb0 hb1 i T1 b gb e cs he hx a w h0 h1 h8 h9 h11 h10 h12 h14 h15 h13 hN hI
    · exact sZ_41 ops Q hops w0 ok1 ok2 g1 g2 bs t es hb0 hb1 i T1 b gb e cs he hx a w h0 h1 h8 h9 h11 h10 h12 h14 h15 h13 hN hI
    · exact sZ_42 ops Q hops w0 ok1 ok2 g1 g2 bs t es hb0 hb1 i T1 b gb e cs he hx a w h0 h1 h8 h9 h11 h10 h12 h14 h15 h13 hN hI
    · exact sZ_43 ops Q hops w0 ok1 ok2 g1 g2 bs t es hb0 hb1 i T1 b gb e cs he hx a w h0 h1 h8 h9 h11 h10 h12 h14 h15 h13 hN hI
    · exact sZ_44 ops Q hops w0 ok1 ok2 g1 g2 bs t es hb0 hb1 i T1 b gb e cs he hx a w h0 h1 h8 h9 h11 h10 h12 h14 h15 h13 hN hI
    · exact sZ_45 ops Q hops w0 ok1 ok2 g1 g2 bs t es hb0 hb1 i T1 b gb e cs he hx a w h0 h1 h8 h9 h11 h10 h12 h14 h15 h13 hN hI
    · exact sZ_46 ops Q hops w0 ok1 ok2 g1 g2 bs t es hb0 hb1 i T1 b gb e cs he hx a w h0 h1 h8 h9 h11 h10 h12 h14 h15 h13 hN hI
    · exact sZ_47 ops Q hops w0 ok1 ok2 g1 g2 bs t es hb0 hb1 i T1 b gb e cs he hx a w h0 h1 h8 h9 h11 h10 h12 h14 h15 h13 hN hI
    · exact sZ_48 ops Q hops w0 ok1 ok2 g1 g2 bs t es hb0 hb1 i T1 b gb e cs he hx a w h0 h1 h8 h9 h11 h10 h12 h14 h15 h13 hN hI
    · exact sZ_49 ops Q hops w0 ok1 ok2 g1 g2 bs t es hb0 hb1 i T1 b gb e cs he hx a w h0 h1 h8 h9 h11 h10 h12 h14 h15 h13 hN hI
    · exact sZ_50 ops Q hops w0 ok1 ok2 g1 g2 bs t es hb0 hb1 i T1 b gb e cs he hx a w h0 h1 h8 h9 h11 h10 h12 h14 h15 h13 hN hI
    · exact sZ_51 ops Q hops w0 ok1 ok2 g1 g2 bs t es hb0 hb1 i T1 b gb e cs he hx a w h0 h1 h8 h9 h11 h10 h12 h14 h15 h13 hN hI
    · exact sZ_52 ops Q hops w0 ok1 ok2 g1 g2 bs t es hb0 hb1 i T1 b gb e cs he hx a w h0 h1 h8 h9 h11 h10 h12 h14 h15 h13 hN hI

end Go.Proofs.Ytigjfnleinhahaa.PLog
