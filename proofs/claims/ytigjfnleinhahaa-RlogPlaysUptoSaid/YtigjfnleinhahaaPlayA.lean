/- RlogPlays: the regions in which both logs are called. RlogPlays: what the walk keeps. RlogPlays: what the walk keeps in a round. RlogPlays: the region at a round's end. -/
import Derived.Test.YtigjfnleinhahaaReg2
import Derived.Test.YtigjfnleinhahaaSam
import Derived.Test.YtigjfnleinhahaaMergeX
namespace Go.Proofs.Ytigjfnleinhahaa.PLog
open Go.RowKit Go.Proofs.YtigjfnleinhahaaW.PrintWords Go.Proofs.YtigjfnleinhahaaW.PrintLast Go.Proofs.YtigjfnleinhahaaW.PrintMore
open Go.Proofs.Ytigjfnleinhahaa.Reg
set_option linter.unusedVariables false
set_option linter.unusedSimpArgs false
set_option maxHeartbeats 4000000
set_option maxRecDepth 100000

/-- An act of a script. -/
structure S49 where
  f0 : Int
  f1 : Int
  f2 : Int
  f3 : Int
  f4 : List S60
def dstC9 (i : Nat) : Option Nat := ([some 165, some 166, some 167, some 168, some 169, some 170, some 171, some 172, some 173, some 174, some 175, some 176, some 177] : List (Option Nat)).getD i none
def ndC9 : List (List Nat) := [[], [], [1], [], [3], [0, 2, 4], [], [], [7], [], [9], [6, 8, 10, 5], [5, 11]]
def usC9 : List (List Nat) := [[], [], [1], [], [3], [0, 2, 4], [], [], [7], [], [9], [5, 6, 8, 10], [5, 11]]
def ncC9 : List (List Nat) := [[], [], [1], [], [3], [0, 1, 2, 3, 4], [], [], [7], [], [9], [0, 1, 2, 3, 4, 5, 6, 7, 8, 9, 10], [0, 1, 2, 3, 4, 5, 6, 7, 8, 9, 10, 11]]
def killC9 (h j : Nat) : Bool := (false)
def killIC9 (h j : Nat) : Bool := ((h == 5 && [1].contains j) || (h == 11 && [1, 2].contains j))
def useIC9 (h j : Nat) : Bool := ((h == 2 && [0].contains j) || (h == 4 && [0].contains j) || (h == 8 && [0].contains j) || (h == 10 && [0].contains j) || (h == 5 && [1].contains j) || (h == 11 && [2].contains j))
def IC9 (w0 : World) (ok1 ok2 : Nat → Prop) (g1 g2 b : Nat) (bs t : Int) (es : List S60) (y : S49) (Ae : Option Addr) (ce : Nat) : Nat → World → Prop
  | 0, w => w.heap[b]? = some (.cells #[.int .i64 y.f0, .int .i64 y.f1, .int .i64 y.f2, .int .i64 y.f3, .slice Ae y.f4.length ce] 49 (0, 0)) ∧ (∀ k, ok1 k → k < w0.heap.size ∧ ¬ ok2 k ∧ k ≠ b) ∧ (∀ k, ok2 k → k < w0.heap.size ∧ k ≠ b) ∧ b < w0.heap.size ∧ 0 ≤ bs ∧ bs + es.length ≤ 2305843009213693952 ∧ es.length ≤ 4000 ∧ y.f4.length ≤ 100 ∧ y.f1 ≤ 2305843009213693952 ∧ (∀ x ∈ es, okE x) ∧ (∀ x ∈ y.f4, okE x)
  | 1, w => Log w ok1 g1 bs t es ∧ Below w0.heap.size w0 w ∧ (∀ k, ok1 k → k < w0.heap.size ∧ ¬ ok2 k ∧ k ≠ b) ∧ (∀ k, ok2 k → k < w0.heap.size ∧ k ≠ b) ∧ b < w0.heap.size ∧ 0 ≤ bs ∧ bs + es.length ≤ 2305843009213693952 ∧ es.length ≤ 4000 ∧ y.f4.length ≤ 100 ∧ y.f1 ≤ 2305843009213693952 ∧ (∀ x ∈ es, okE x) ∧ (∀ x ∈ y.f4, okE x)
  | 2, w => LogX w ok2 g2 bs t es ∧ (∀ k, ok1 k → k < w0.heap.size ∧ ¬ ok2 k ∧ k ≠ b) ∧ (∀ k, ok2 k → k < w0.heap.size ∧ k ≠ b) ∧ b < w0.heap.size ∧ 0 ≤ bs ∧ bs + es.length ≤ 2305843009213693952 ∧ es.length ≤ 4000 ∧ y.f4.length ≤ 100 ∧ y.f1 ≤ 2305843009213693952 ∧ (∀ x ∈ es, okE x) ∧ (∀ x ∈ y.f4, okE x)
  | _, _ => True
def FC9 (w0 : World) (ok1 ok2 : Nat → Prop) (g1 g2 b : Nat) (bs t : Int) (es : List S60) (y : S49) (Ae : Option Addr) (ce : Nat) : Nat → Value → World → Prop
  | 0, v, w => v = .pointer (some ⟨g1, 0, none⟩)
  | 1, v, w => v = .pointer (some ⟨b, 1, none⟩)
  | 2, v, w => v = .int .i64 y.f1
  | 3, v, w => v = .pointer (some ⟨b, 2, none⟩)
  | 4, v, w => v = .int .i64 y.f2
  | 5, v, w => v = .bool (compactL bs t es y.f1 y.f2).1 ∧ ∃ N, w0.heap.size ≤ N ∧ N ≤ w.heap.size ∧ Log w (fun k => (ok1 k ∨ w0.heap.size ≤ k) ∧ k < N) g1 (compactL bs t es y.f1 y.f2).2.1 (compactL bs t es y.f1 y.f2).2.2.1 (compactL bs t es y.f1 y.f2).2.2.2 ∧ Kept w0 w (fun k => ok1 k ∨ ok2 k) ∧ Below 0 w0 w
  | 6, v, w => v = .pointer (some ⟨g2, 0, none⟩)
  | 7, v, w => v = .pointer (some ⟨b, 1, none⟩)
  | 8, v, w => v = .int .i64 y.f1
  | 9, v, w => v = .pointer (some ⟨b, 2, none⟩)
  | 10, v, w => v = .int .i64 y.f2
  | 11, v, w => v = .bool (compactL bs t es y.f1 y.f2).1 ∧ ∃ N, w0.heap.size ≤ N ∧ N ≤ w.heap.size ∧ Log w (fun k => (ok1 k ∨ w0.heap.size ≤ k) ∧ k < N) g1 (compactL bs t es y.f1 y.f2).2.1 (compactL bs t es y.f1 y.f2).2.2.1 (compactL bs t es y.f1 y.f2).2.2.2 ∧ LogX w (fun k => ok2 k ∨ N ≤ k) g2 (compactL bs t es y.f1 y.f2).2.1 (compactL bs t es y.f1 y.f2).2.2.1 (compactL bs t es y.f1 y.f2).2.2.2 ∧ Kept w0 w (fun k => ok1 k ∨ ok2 k) ∧ Below 0 w0 w
  | 12, v, w => v = .bool false
  | _, _, _ => True
def StC9 (i_ : Nat) : Prop := ∀ (ops : Array Oper) (Q : Exit → Act → World → Prop) (hops : ops = opsOf Try.f6 29) (w0 : World) (ok1 ok2 : Nat → Prop) (g1 g2 b : Nat) (bs t : Int) (es : List S60) (y : S49) (Ae : Option Addr) (ce : Nat) (a : Act) (w : World) (h5 : a.tmps[5]?.getD undef = .pointer (some ⟨g1, 0, none⟩)) (h6 : a.tmps[6]?.getD undef = .pointer (some ⟨g2, 0, none⟩)) (h8 : a.tmps[8]?.getD undef = .pointer (some ⟨b, 0, none⟩))
    (hN : ∀ j, j ∈ usC9.getD i_ [] → FC9 w0 ok1 ok2 g1 g2 b bs t es y Ae ce j (slotO dstC9 a j) w) (hI : ∀ c, c < 3 → useIC9 i_ c = true → IC9 w0 ok1 ok2 g1 g2 b bs t es y Ae ce c w), wpOp Try.prog ops Q i_ (fun a' w' => ∃ v, a' = a.put (dstC9 i_) v ∧ FC9 w0 ok1 ok2 g1 g2 b bs t es y Ae ce i_ (valO dstC9 i_ v) w' ∧ (Below w.heap.size w w' ∨ ((∀ j u, j < 13 → j ≠ i_ → killC9 i_ j = false → (ncC9.getD j []).contains i_ = false → FC9 w0 ok1 ok2 g1 g2 b bs t es y Ae ce j u w → FC9 w0 ok1 ok2 g1 g2 b bs t es y Ae ce j u w') ∧ (∀ c, c < 3 → killIC9 i_ c = false → IC9 w0 ok1 ok2 g1 g2 b bs t es y Ae ce c w → IC9 w0 ok1 ok2 g1 g2 b bs t es y Ae ce c w')))) a w
theorem sC9_0 : StC9 0 := by
  intro ops Q hops w0 ok1 ok2 g1 g2 b bs t es y Ae ce a w h5 h6 h8 hN hI
  subst hops
  have ho : (opsOf Try.f6 29)[0]? = some (⟨some 165, .move (.tmp 5), 24, "law.go:109", #[], none⟩ : Oper) := by kernel_rfl
  refine wpOp_plain ho rfl ?_
  clear hN hI ho
  go_simp
  first | exact ⟨_, rfl, rfl⟩ | exact ⟨_, rfl, rfl, .inl (Below.refl _ _)⟩
theorem sC9_1 : StC9 1 := by
  intro ops Q hops w0 ok1 ok2 g1 g2 b bs t es y Ae ce a w h5 h6 h8 hN hI
  subst hops
  have ho : (opsOf Try.f6 29)[1]? = some (⟨some 166, .fieldAddr 49 (.tmp 8) 1, 0, "law.go:109", #[], none⟩ : Oper) := by kernel_rfl
  refine wpOp_plain ho rfl ?_
  clear hN hI ho
  go_simp
  first | exact ⟨_, rfl, rfl⟩ | exact ⟨_, rfl, rfl, .inl (Below.refl _ _)⟩
theorem sC9_2 : StC9 2 := by
  intro ops Q hops w0 ok1 ok2 g1 g2 b bs t es y Ae ce a w h5 h6 h8 hN hI
  subst hops
  have n1 : a.tmps[166]?.getD undef = .pointer (some ⟨b, 1, none⟩) := hN 1 (by decide)
  have hi0 : (fun (w : World) => w.heap[b]? = some (.cells #[.int .i64 y.f0, .int .i64 y.f1, .int .i64 y.f2, .int .i64 y.f3, .slice Ae y.f4.length ce] 49 (0, 0)) ∧ (∀ k, ok1 k → k < w0.heap.size ∧ ¬ ok2 k ∧ k ≠ b) ∧ (∀ k, ok2 k → k < w0.heap.size ∧ k ≠ b) ∧ b < w0.heap.size ∧ 0 ≤ bs ∧ bs + es.length ≤ 2305843009213693952 ∧ es.length ≤ 4000 ∧ y.f4.length ≤ 100 ∧ y.f1 ≤ 2305843009213693952 ∧ (∀ x ∈ es, okE x) ∧ (∀ x ∈ y.f4, okE x)) w := hI 0 (by decide) (by decide)
  have ho : (opsOf Try.f6 29)[2]? = some (⟨some 167, .load 3 (.tmp 166), 3, "law.go:109", #[⟨1, .data⟩], none⟩ : Oper) := by kernel_rfl
  refine wpOp_plain ho rfl ?_
  clear hN hI ho
  have hc : w.cell? ⟨b, 1, none⟩ = some (.int .i64 y.f1) := by
    have hb := hi0.1
    simp [World.cell?, hb]
  clear hi0
  go_simp
  first | exact ⟨_, rfl, rfl⟩ | exact ⟨_, rfl, rfl, .inl (Below.refl _ _)⟩
theorem sC9_3 : StC9 3 := by
  intro ops Q hops w0 ok1 ok2 g1 g2 b bs t es y Ae ce a w h5 h6 h8 hN hI
  subst hops
  have ho : (opsOf Try.f6 29)[3]? = some (⟨some 168, .fieldAddr 49 (.tmp 8) 2, 0, "law.go:109", #[], none⟩ : Oper) := by kernel_rfl
  refine wpOp_plain ho rfl ?_
  clear hN hI ho
  go_simp
  first | exact ⟨_, rfl, rfl⟩ | exact ⟨_, rfl, rfl, .inl (Below.refl _ _)⟩
theorem sC9_4 : StC9 4 := by
  intro ops Q hops w0 ok1 ok2 g1 g2 b bs t es y Ae ce a w h5 h6 h8 hN hI
  subst hops
  have n3 : a.tmps[168]?.getD undef = .pointer (some ⟨b, 2, none⟩) := hN 3 (by decide)
  have hi0 : (fun (w : World) => w.heap[b]? = some (.cells #[.int .i64 y.f0, .int .i64 y.f1, .int .i64 y.f2, .int .i64 y.f3, .slice Ae y.f4.length ce] 49 (0, 0)) ∧ (∀ k, ok1 k → k < w0.heap.size ∧ ¬ ok2 k ∧ k ≠ b) ∧ (∀ k, ok2 k → k < w0.heap.size ∧ k ≠ b) ∧ b < w0.heap.size ∧ 0 ≤ bs ∧ bs + es.length ≤ 2305843009213693952 ∧ es.length ≤ 4000 ∧ y.f4.length ≤ 100 ∧ y.f1 ≤ 2305843009213693952 ∧ (∀ x ∈ es, okE x) ∧ (∀ x ∈ y.f4, okE x)) w := hI 0 (by decide) (by decide)
  have ho : (opsOf Try.f6 29)[4]? = some (⟨some 169, .load 3 (.tmp 168), 3, "law.go:109", #[⟨3, .data⟩], none⟩ : Oper) := by kernel_rfl
  refine wpOp_plain ho rfl ?_
  clear hN hI ho
  have hc : w.cell? ⟨b, 2, none⟩ = some (.int .i64 y.f2) := by
    have hb := hi0.1
    simp [World.cell?, hb]
  clear hi0
  go_simp
  first | exact ⟨_, rfl, rfl⟩ | exact ⟨_, rfl, rfl, .inl (Below.refl _ _)⟩
theorem sC9_5 : StC9 5 := by
  intro ops Q hops w0 ok1 ok2 g1 g2 b bs t es y Ae ce a w h5 h6 h8 hN hI
  subst hops
  have n0 : a.tmps[165]?.getD undef = .pointer (some ⟨g1, 0, none⟩) := hN 0 (by decide)
  have n2 : a.tmps[167]?.getD undef = .int .i64 y.f1 := hN 2 (by decide)
  have n4 : a.tmps[169]?.getD undef = .int .i64 y.f2 := hN 4 (by decide)
  have hi1 : (fun (w : World) => Log w ok1 g1 bs t es ∧ Below w0.heap.size w0 w ∧ (∀ k, ok1 k → k < w0.heap.size ∧ ¬ ok2 k ∧ k ≠ b) ∧ (∀ k, ok2 k → k < w0.heap.size ∧ k ≠ b) ∧ b < w0.heap.size ∧ 0 ≤ bs ∧ bs + es.length ≤ 2305843009213693952 ∧ es.length ≤ 4000 ∧ y.f4.length ≤ 100 ∧ y.f1 ≤ 2305843009213693952 ∧ (∀ x ∈ es, okE x) ∧ (∀ x ∈ y.f4, okE x)) w := hI 1 (by decide) (by decide)
  have ho : (opsOf Try.f6 29)[5]? = some (⟨some 170, .call { callee := .value (.func 23), args := #[.tmp 165, .tmp 167, .tmp 169], argTypes := #[24, 3, 3] }, 4, "law.go:109", #[⟨0, .data⟩, ⟨2, .data⟩, ⟨4, .data⟩], none⟩ : Oper) := by kernel_rfl
  refine wpOp_plain ho rfl ?_
  clear hN hI ho
  obtain ⟨hT, hB, hD⟩ := hi1
  have HH := Aside0.mk (compact_calls hT hD.2.2.2.1 (by omega) (by omega) y.f1 y.f2)
  have HB := Aside0.mk hB
  have HD := Aside0.mk hD
  clear hT hB hD
  go_simp
  refine HH.out.mono ?_
  rintro e w' ⟨rfl, hT2, hK2, hB2⟩
  refine ⟨_, rfl, ⟨rfl, w'.heap.size, Nat.le_trans HB.out.size hK2.1, Nat.le_refl _, ?_, ⟨Nat.le_trans HB.out.size hK2.1, fun k hk hn => (hK2.2 k (Nat.lt_of_lt_of_le hk HB.out.size) (fun h => hn (.inl h))).trans (HB.out.block k hk)⟩, (HB.out.mono (Nat.zero_le _)).trans hB2⟩, .inr ⟨?_, ?_⟩⟩
  · exact (Log.bound hT2).mono (fun k hk => ⟨by
      rcases hk.1 with h | h
      · exact .inl h
      · exact .inr (Nat.le_trans HB.out.size h), hk.2⟩)
  · intro j u hj hne hk hcc hF
    have hj' : j = 0 ∨ j = 1 ∨ j = 2 ∨ j = 3 ∨ j = 4 ∨ j = 5 ∨ j = 6 ∨ j = 7 ∨ j = 8 ∨ j = 9 ∨ j = 10 ∨ j = 11 ∨ j = 12 := by omega
    rcases hj' with rfl | rfl | rfl | rfl | rfl | rfl | rfl | rfl | rfl | rfl | rfl | rfl | rfl <;> first | exact hF | (exact absurd hk (by decide)) | (exact absurd rfl hne) | (exact absurd hcc (by decide))
  · intro c hc hk hi
    have hc' : c = 0 ∨ c = 1 ∨ c = 2 := by omega
    rcases hc' with rfl | rfl | rfl
    · have h : w.heap[b]? = some (.cells #[.int .i64 y.f0, .int .i64 y.f1, .int .i64 y.f2, .int .i64 y.f3, .slice Ae y.f4.length ce] 49 (0, 0)) ∧ (∀ k, ok1 k → k < w0.heap.size ∧ ¬ ok2 k ∧ k ≠ b) ∧ (∀ k, ok2 k → k < w0.heap.size ∧ k ≠ b) ∧ b < w0.heap.size ∧ 0 ≤ bs ∧ bs + es.length ≤ 2305843009213693952 ∧ es.length ≤ 4000 ∧ y.f4.length ≤ 100 ∧ y.f1 ≤ 2305843009213693952 ∧ (∀ x ∈ es, okE x) ∧ (∀ x ∈ y.f4, okE x) := hi
      exact ⟨(hK2.2 b (Array.getElem?_eq_some_iff.1 h.1).1 (fun h2 => (h.2.1 b h2).2.2 rfl)).trans h.1, h.2⟩
    · exact absurd hk (by decide)
    · have h : LogX w ok2 g2 bs t es ∧ (∀ k, ok1 k → k < w0.heap.size ∧ ¬ ok2 k ∧ k ≠ b) ∧ (∀ k, ok2 k → k < w0.heap.size ∧ k ≠ b) ∧ b < w0.heap.size ∧ 0 ≤ bs ∧ bs + es.length ≤ 2305843009213693952 ∧ es.length ≤ 4000 ∧ y.f4.length ≤ 100 ∧ y.f1 ≤ 2305843009213693952 ∧ (∀ x ∈ es, okE x) ∧ (∀ x ∈ y.f4, okE x) := hi
      exact ⟨h.1.kept hK2 (fun k h2 h1 => (h.2.1 k h1).2.1 h2), h.2⟩
theorem sC9_6 : StC9 6 := by
  intro ops Q hops w0 ok1 ok2 g1 g2 b bs t es y Ae ce a w h5 h6 h8 hN hI
  subst hops
  have ho : (opsOf Try.f6 29)[6]? = some (⟨some 171, .move (.tmp 6), 45, "law.go:109", #[], none⟩ : Oper) := by kernel_rfl
  refine wpOp_plain ho rfl ?_
  clear hN hI ho
  go_simp
  first | exact ⟨_, rfl, rfl⟩ | exact ⟨_, rfl, rfl, .inl (Below.refl _ _)⟩
theorem sC9_7 : StC9 7 := by
  intro ops Q hops w0 ok1 ok2 g1 g2 b bs t es y Ae ce a w h5 h6 h8 hN hI
  subst hops
  have ho : (opsOf Try.f6 29)[7]? = some (⟨some 172, .fieldAddr 49 (.tmp 8) 1, 0, "law.go:109", #[], none⟩ : Oper) := by kernel_rfl
  refine wpOp_plain ho rfl ?_
  clear hN hI ho
  go_simp
  first | exact ⟨_, rfl, rfl⟩ | exact ⟨_, rfl, rfl, .inl (Below.refl _ _)⟩
theorem sC9_8 : StC9 8 := by
  intro ops Q hops w0 ok1 ok2 g1 g2 b bs t es y Ae ce a w h5 h6 h8 hN hI
  subst hops
  have n7 : a.tmps[172]?.getD undef = .pointer (some ⟨b, 1, none⟩) := hN 7 (by decide)
  have hi0 : (fun (w : World) => w.heap[b]? = some (.cells #[.int .i64 y.f0, .int .i64 y.f1, .int .i64 y.f2, .int .i64 y.f3, .slice Ae y.f4.length ce] 49 (0, 0)) ∧ (∀ k, ok1 k → k < w0.heap.size ∧ ¬ ok2 k ∧ k ≠ b) ∧ (∀ k, ok2 k → k < w0.heap.size ∧ k ≠ b) ∧ b < w0.heap.size ∧ 0 ≤ bs ∧ bs + es.length ≤ 2305843009213693952 ∧ es.length ≤ 4000 ∧ y.f4.length ≤ 100 ∧ y.f1 ≤ 2305843009213693952 ∧ (∀ x ∈ es, okE x) ∧ (∀ x ∈ y.f4, okE x)) w := hI 0 (by decide) (by decide)
  have ho : (opsOf Try.f6 29)[8]? = some (⟨some 173, .load 3 (.tmp 172), 3, "law.go:109", #[⟨7, .data⟩], none⟩ : Oper) := by kernel_rfl
  refine wpOp_plain ho rfl ?_
  clear hN hI ho
  have hc : w.cell? ⟨b, 1, none⟩ = some (.int .i64 y.f1) := by
    have hb := hi0.1
    simp [World.cell?, hb]
  clear hi0
  go_simp
  first | exact ⟨_, rfl, rfl⟩ | exact ⟨_, rfl, rfl, .inl (Below.refl _ _)⟩
theorem sC9_9 : StC9 9 := by
  intro ops Q hops w0 ok1 ok2 g1 g2 b bs t es y Ae ce a w h5 h6 h8 hN hI
  subst hops
  have ho : (opsOf Try.f6 29)[9]? = some (⟨some 174, .fieldAddr 49 (.tmp 8) 2, 0, "law.go:109", #[], none⟩ : Oper) := by kernel_rfl
  refine wpOp_plain ho rfl ?_
  clear hN hI ho
  go_simp
  first | exact ⟨_, rfl, rfl⟩ | exact ⟨_, rfl, rfl, .inl (Below.refl _ _)⟩
theorem sC9_10 : StC9 10 := by
  intro ops Q hops w0 ok1 ok2 g1 g2 b bs t es y Ae ce a w h5 h6 h8 hN hI
  subst hops
  have n9 : a.tmps[174]?.getD undef = .pointer (some ⟨b, 2, none⟩) := hN 9 (by decide)
  have hi0 : (fun (w : World) => w.heap[b]? = some (.cells #[.int .i64 y.f0, .int .i64 y.f1, .int .i64 y.f2, .int .i64 y.f3, .slice Ae y.f4.length ce] 49 (0, 0)) ∧ (∀ k, ok1 k → k < w0.heap.size ∧ ¬ ok2 k ∧ k ≠ b) ∧ (∀ k, ok2 k → k < w0.heap.size ∧ k ≠ b) ∧ b < w0.heap.size ∧ 0 ≤ bs ∧ bs + es.length ≤ 2305843009213693952 ∧ es.length ≤ 4000 ∧ y.f4.length ≤ 100 ∧ y.f1 ≤ 2305843009213693952 ∧ (∀ x ∈ es, okE x) ∧ (∀ x ∈ y.f4, okE x)) w := hI 0 (by decide) (by decide)
  have ho : (opsOf Try.f6 29)[10]? = some (⟨some 175, .load 3 (.tmp 174), 3, "law.go:109", #[⟨9, .data⟩], none⟩ : Oper) := by kernel_rfl
  refine wpOp_plain ho rfl ?_
  clear hN hI ho
  have hc : w.cell? ⟨b, 2, none⟩ = some (.int .i64 y.f2) := by
    have hb := hi0.1
    simp [World.cell?, hb]
  clear hi0
  go_simp
  first | exact ⟨_, rfl, rfl⟩ | exact ⟨_, rfl, rfl, .inl (Below.refl _ _)⟩
theorem sC9_11 : StC9 11 := by
  intro ops Q hops w0 ok1 ok2 g1 g2 b bs t es y Ae ce a w h5 h6 h8 hN hI
  subst hops
  have n5 : (fun (v : Value) (w : World) => v = .bool (compactL bs t es y.f1 y.f2).1 ∧ ∃ N, w0.heap.size ≤ N ∧ N ≤ w.heap.size ∧ Log w (fun k => (ok1 k ∨ w0.heap.size ≤ k) ∧ k < N) g1 (compactL bs t es y.f1 y.f2).2.1 (compactL bs t es y.f1 y.f2).2.2.1 (compactL bs t es y.f1 y.f2).2.2.2 ∧ Kept w0 w (fun k => ok1 k ∨ ok2 k) ∧ Below 0 w0 w) (a.tmps[170]?.getD undef) w := hN 5 (by decide)
  have n6 : a.tmps[171]?.getD undef = .pointer (some ⟨g2, 0, none⟩) := hN 6 (by decide)
  have n8 : a.tmps[173]?.getD undef = .int .i64 y.f1 := hN 8 (by decide)
  have n10 : a.tmps[175]?.getD undef = .int .i64 y.f2 := hN 10 (by decide)
  have hi2 : (fun (w : World) => LogX w ok2 g2 bs t es ∧ (∀ k, ok1 k → k < w0.heap.size ∧ ¬ ok2 k ∧ k ≠ b) ∧ (∀ k, ok2 k → k < w0.heap.size ∧ k ≠ b) ∧ b < w0.heap.size ∧ 0 ≤ bs ∧ bs + es.length ≤ 2305843009213693952 ∧ es.length ≤ 4000 ∧ y.f4.length ≤ 100 ∧ y.f1 ≤ 2305843009213693952 ∧ (∀ x ∈ es, okE x) ∧ (∀ x ∈ y.f4, okE x)) w := hI 2 (by decide) (by decide)
  have ho : (opsOf Try.f6 29)[11]? = some (⟨some 176, .call { callee := .value (.func 24), args := #[.tmp 171, .tmp 173, .tmp 175], argTypes := #[45, 3, 3] }, 4, "law.go:109", #[⟨6, .data⟩, ⟨8, .data⟩, ⟨10, .data⟩, ⟨5, .chain⟩], none⟩ : Oper) := by kernel_rfl
  refine wpOp_plain ho rfl ?_
  clear hN hI ho
  obtain ⟨hT, hD⟩ := hi2
  obtain ⟨hv, NN, hn1, hn2, hT1, hK1, hB1⟩ := n5
  have HH := Aside0.mk (compact_x hT hD.2.2.2.1 (by omega) (by omega) y.f1 y.f2)
  have HG := Aside0.mk (And.intro hn1 (And.intro hn2 (And.intro hT1 (And.intro hK1 (And.intro hB1 hD)))))
  clear hT hD hn1 hn2 hT1 hK1 hB1
  go_simp
  refine HH.out.mono ?_
  rintro e w' ⟨rfl, hT2, hK2, hB2⟩
  obtain ⟨hn1, hn2, hT1, hK1, hB1, hD⟩ := HG.out
  have hdis : ∀ k, ((ok1 k ∨ w0.heap.size ≤ k) ∧ k < NN) → ¬ ok2 k := fun k hk h2 => by
    rcases hk.1 with h | h
    · exact (hD.1 k h).2.1 h2
    · have := (hD.2.1 k h2).1; omega
  refine ⟨_, rfl, ⟨rfl, NN, hn1, Nat.le_trans hn2 hK2.1, hT1.kept hK2 hdis, hT2.mono (fun k hk => by
      rcases hk with h | h
      · exact .inl h
      · exact .inr (Nat.le_trans hn2 h)), ⟨Nat.le_trans hK1.1 hK2.1, fun k hk hn => (hK2.2 k (Nat.lt_of_lt_of_le hk hK1.1) (fun h => hn (.inr h))).trans (hK1.2 k hk hn)⟩, hB1.trans hB2⟩, .inr ⟨?_, ?_⟩⟩
  · intro j u hj hne hk hcc hF
    have hj' : j = 0 ∨ j = 1 ∨ j = 2 ∨ j = 3 ∨ j = 4 ∨ j = 5 ∨ j = 6 ∨ j = 7 ∨ j = 8 ∨ j = 9 ∨ j = 10 ∨ j = 11 ∨ j = 12 := by omega
    rcases hj' with rfl | rfl | rfl | rfl | rfl | rfl | rfl | rfl | rfl | rfl | rfl | rfl | rfl <;> first | exact hF | (exact absurd hk (by decide)) | (exact absurd rfl hne) | (exact absurd hcc (by decide)) | (
      obtain ⟨hv, N2, hm1, hm2, hT3, hK3, hB3⟩ := hF
      exact ⟨hv, N2, hm1, Nat.le_trans hm2 hK2.1, hT3.kept hK2 (fun k hk h2 => by
        rcases hk.1 with h | h
        · exact (hD.1 k h).2.1 h2
        · have := (hD.2.1 k h2).1; omega), ⟨Nat.le_trans hK3.1 hK2.1, fun k hk hn => (hK2.2 k (Nat.lt_of_lt_of_le hk hK3.1) (fun h => hn (.inr h))).trans (hK3.2 k hk hn)⟩, hB3.trans hB2⟩)
  · intro c hc hk hi
    have hc' : c = 0 ∨ c = 1 ∨ c = 2 := by omega
    rcases hc' with rfl | rfl | rfl
    · have h : w.heap[b]? = some (.cells #[.int .i64 y.f0, .int .i64 y.f1, .int .i64 y.f2, .int .i64 y.f3, .slice Ae y.f4.length ce] 49 (0, 0)) ∧ (∀ k, ok1 k → k < w0.heap.size ∧ ¬ ok2 k ∧ k ≠ b) ∧ (∀ k, ok2 k → k < w0.heap.size ∧ k ≠ b) ∧ b < w0.heap.size ∧ 0 ≤ bs ∧ bs + es.length ≤ 2305843009213693952 ∧ es.length ≤ 4000 ∧ y.f4.length ≤ 100 ∧ y.f1 ≤ 2305843009213693952 ∧ (∀ x ∈ es, okE x) ∧ (∀ x ∈ y.f4, okE x) := hi
      exact ⟨(hK2.2 b (Array.getElem?_eq_some_iff.1 h.1).1 (fun h2 => (h.2.2.1 b h2).2 rfl)).trans h.1, h.2⟩
    · exact absurd hk (by decide)
    · exact absurd hk (by decide)
theorem sC9_12 : StC9 12 := by
  intro ops Q hops w0 ok1 ok2 g1 g2 b bs t es y Ae ce a w h5 h6 h8 hN hI
  subst hops
  have n5 : (fun (v : Value) (w : World) => v = .bool (compactL bs t es y.f1 y.f2).1 ∧ ∃ N, w0.heap.size ≤ N ∧ N ≤ w.heap.size ∧ Log w (fun k => (ok1 k ∨ w0.heap.size ≤ k) ∧ k < N) g1 (compactL bs t es y.f1 y.f2).2.1 (compactL bs t es y.f1 y.f2).2.2.1 (compactL bs t es y.f1 y.f2).2.2.2 ∧ Kept w0 w (fun k => ok1 k ∨ ok2 k) ∧ Below 0 w0 w) (a.tmps[170]?.getD undef) w := hN 5 (by decide)
  have n11 : (fun (v : Value) (w : World) => v = .bool (compactL bs t es y.f1 y.f2).1 ∧ ∃ N, w0.heap.size ≤ N ∧ N ≤ w.heap.size ∧ Log w (fun k => (ok1 k ∨ w0.heap.size ≤ k) ∧ k < N) g1 (compactL bs t es y.f1 y.f2).2.1 (compactL bs t es y.f1 y.f2).2.2.1 (compactL bs t es y.f1 y.f2).2.2.2 ∧ LogX w (fun k => ok2 k ∨ N ≤ k) g2 (compactL bs t es y.f1 y.f2).2.1 (compactL bs t es y.f1 y.f2).2.2.1 (compactL bs t es y.f1 y.f2).2.2.2 ∧ Kept w0 w (fun k => ok1 k ∨ ok2 k) ∧ Below 0 w0 w) (a.tmps[176]?.getD undef) w := hN 11 (by decide)
  have ho : (opsOf Try.f6 29)[12]? = some (⟨some 177, .binOp .neq 4 (.tmp 170) (.tmp 176) 4, 4, "law.go:109", #[⟨5, .data⟩, ⟨11, .data⟩], none⟩ : Oper) := by kernel_rfl
  refine wpOp_plain ho rfl ?_
  clear hN hI ho
  have n5' : a.tmps[170]?.getD undef = .bool (compactL bs t es y.f1 y.f2).1 := n5.1
  have n11' : a.tmps[176]?.getD undef = .bool (compactL bs t es y.f1 y.f2).1 := n11.1
  clear n5 n11
  generalize (compactL bs t es y.f1 y.f2).1 = r at *
  go_simp
  cases r <;> first | exact ⟨_, rfl, rfl⟩ | exact ⟨_, rfl, rfl, .inl (Below.refl _ _)⟩
theorem monoC9 (w0 : World) (ok1 ok2 : Nat → Prop) (g1 g2 b : Nat) (bs t : Int) (es : List S60) (y : S49) (Ae : Option Addr) (ce : Nat) (j : Nat) (v : Value) (w w' : World) (h : FC9 w0 ok1 ok2 g1 g2 b bs t es y Ae ce j v w) (hb : Below w.heap.size w w') : FC9 w0 ok1 ok2 g1 g2 b bs t es y Ae ce j v w' := by
  unfold FC9 at h ⊢
  split <;> first
    | exact True.intro
    | exact h
    | (obtain ⟨hv, N2, hm1, hm2, hT3, hK3, hB3⟩ := h; exact ⟨hv, N2, hm1, Nat.le_trans hm2 hb.size, hT3.below hb, Kept.below hK3 hb, hB3.trans (hb.mono (Nat.zero_le _))⟩)
    | (obtain ⟨hv, N2, hm1, hm2, hT3, hT4, hK3, hB3⟩ := h; exact ⟨hv, N2, hm1, Nat.le_trans hm2 hb.size, hT3.below hb, hT4.below hb, Kept.below hK3 hb, hB3.trans (hb.mono (Nat.zero_le _))⟩)
theorem monoIC9 (w0 : World) (ok1 ok2 : Nat → Prop) (g1 g2 b : Nat) (bs t : Int) (es : List S60) (y : S49) (Ae : Option Addr) (ce : Nat) (c : Nat) (w w' : World) (h : IC9 w0 ok1 ok2 g1 g2 b bs t es y Ae ce c w) (hb : Below w.heap.size w w') : IC9 w0 ok1 ok2 g1 g2 b bs t es y Ae ce c w' := by
  unfold IC9 at h ⊢
  split <;> first
    | exact True.intro
    | exact ⟨(hb.block b (Array.getElem?_eq_some_iff.1 h.1).1).trans h.1, h.2⟩
    | exact ⟨h.1.below hb, h.2.1.trans (hb.mono h.2.1.size), h.2.2⟩
    | exact ⟨h.1.below hb, h.2⟩
theorem hinC9 : ∀ i, i < 13 → ∀ d, dstC9 i = some d → d < 207 := by
  have h2 : ∀ i, i < 13 → (dstC9 i).all (fun d => decide (d < 207)) = true := by decide
  intro i hi d hd
  have := h2 i hi
  rw [hd] at this
  simpa using this
set_option maxRecDepth 100000 in
theorem regionC9 {ops : Array Oper} {Q : Exit → Act → World → Prop} (hops : ops = opsOf Try.f6 29) {id_ : Nat} (w0 : World) (ok1 ok2 : Nat → Prop) (g1 g2 b : Nat) (bs t : Int) (es : List S60) (y : S49) (Ae : Option Addr) (ce : Nat) (a0 : Act) (w0_ : World) (hI0 : ∀ c, IC9 w0 ok1 ok2 g1 g2 b bs t es y Ae ce c w0_) (hsz : a0.tmps.size = 207) (h5 : a0.tmps[5]?.getD undef = .pointer (some ⟨g1, 0, none⟩)) (h6 : a0.tmps[6]?.getD undef = .pointer (some ⟨g2, 0, none⟩)) (h8 : a0.tmps[8]?.getD undef = .pointer (some ⟨b, 0, none⟩))
    (hQ : ∀ a w, AgreeO 13 dstC9 a0 a → FC9 w0 ok1 ok2 g1 g2 b bs t es y Ae ce 11 (slotO dstC9 a 11) w → FC9 w0 ok1 ok2 g1 g2 b bs t es y Ae ce 12 (slotO dstC9 a 12) w → IC9 w0 ok1 ok2 g1 g2 b bs t es y Ae ce 0 w → Q .normal a w) : (Code.region id_ ops true).wp Try.prog Q a0 w0_ := by
  refine region_heldB (n := 13) dstC9 (FC9 w0 ok1 ok2 g1 g2 b bs t es y Ae ce) (IC9 w0 ok1 ok2 g1 g2 b bs t es y Ae ce) 3 ndC9 ncC9 usC9 killC9 killIC9 useIC9 (by kernel_rfl) (by rw [hops]; kernel_rfl) (by decide) ?_ (fun j v w w' _ h hb => monoC9 w0 ok1 ok2 g1 g2 b bs t es y Ae ce j v w w' h hb) (fun c w w' h hb => monoIC9 w0 ok1 ok2 g1 g2 b bs t es y Ae ce c w w' h hb) hI0 (by rw [hops]; kernel_rfl) (by decide) (by decide) (by decide) (by decide) (by decide) ?_ (fun a w hA hF hI => hQ a w hA (hF 11 (by decide) (by decide)) (hF 12 (by decide) (by decide)) (hI 0 (by decide) (by decide)))
  · intro i hi d hd
    rw [hsz]; exact hinC9 i hi d hd
  · intro i a w hi hA hN hI
    have h5 := (hA.old 5 (by decide)).trans h5
    have h6 := (hA.old 6 (by decide)).trans h6
    have h8 := (hA.old 8 (by decide)).trans h8
    have hi' : i = 0 ∨ i = 1 ∨ i = 2 ∨ i = 3 ∨ i = 4 ∨ i = 5 ∨ i = 6 ∨ i = 7 ∨ i = 8 ∨ i = 9 ∨ i = 10 ∨ i = 11 ∨ i = 12 := by omega
    rcases hi' with rfl | rfl | rfl | rfl | rfl | rfl | rfl | rfl | rfl | rfl | rfl | rfl | rfl
    · exact sC9_0 ops Q hops w0 ok1 ok2 g1 g2 b bs t es y Ae ce a w h5 h6 h8 hN hI
    · exact sC9_1 ops Q hops w0 ok1 ok2 g1 g2 b bs t es y Ae ce a w h5 h6 h8 hN hI
    · exact sC9_2 ops Q hops w0 ok1 ok2 g1 g2 b bs t es y Ae ce a w h5 h6 h8 hN hI
    · exact sC9_3 ops Q hops w0 ok1 ok2 g1 g2 b bs t es y Ae ce a w h5 h6 h8 hN hI
    · exact sC9_4 ops Q hops w0 ok1 ok2 g1 g2 b bs t es y Ae ce a w h5 h6 h8 hN hI
    · exact sC9_5 ops Q hops w0 ok1 ok2 g1 g2 b bs t es y Ae ce a w h5 h6 h8 hN hI
    · exact sC9_6 ops Q hops w0 ok1 ok2 g1 g2 b bs t es y Ae ce a w h5 h6 h8 hN hI
    · exact sC9_7 ops Q hops w0 ok1 ok2 g1 g2 b bs t es y Ae ce a w h5 h6 h8 hN hI
    · exact sC9_8 ops Q hops w0 ok1 ok2 g1 g2 b bs t es y Ae ce a w h5 h6 h8 hN hI
    · exact sC9_9 ops Q hops w0 ok1 ok2 g1 g2 b bs t es y Ae ce a w h5 h6 h8 hN hI
    · exact sC9_10 ops Q hops w0 ok1 ok2 g1 g2 b bs t es y Ae ce a w h5 h6 h8 hN hI
    · exact sC9_11 ops Q hops w0 ok1 ok2 g1 g2 b bs t es y Ae ce a w h5 h6 h8 hN hI
    · exact sC9_12 ops Q hops w0 ok1 ok2 g1 g2 b bs t es y Ae ce a w h5 h6 h8 hN hI
def dstA9 (i : Nat) : Option Nat := ([some 110, some 111, some 112, some 113, some 114, some 115, some 116, some 117, some 118, some 119] : List (Option Nat)).getD i none
def ndA9 : List (List Nat) := [[], [], [0, 1], [], [3, 2], [], [5], [6], [4, 7], [2, 8]]
def usA9 : List (List Nat) := [[], [], [0, 1], [], [3], [], [5], [6], [4, 7], [2, 8]]
def ncA9 : List (List Nat) := [[], [], [0, 1], [], [0, 1, 2, 3], [], [5], [5, 6], [0, 1, 2, 3, 4, 5, 6, 7], [0, 1, 2, 3, 4, 5, 6, 7, 8]]
def killA9 (h j : Nat) : Bool := (false)
def killIA9 (h j : Nat) : Bool := ((h == 2 && [1].contains j))
def useIA9 (h j : Nat) : Bool := ((h == 6 && [0].contains j) || (h == 2 && [1].contains j) || (h == 4 && [2].contains j) || (h == 8 && [0].contains j))
def IA9 (w0 : World) (ok1 ok2 : Nat → Prop) (g1 g2 b : Nat) (bs t : Int) (es : List S60) (y : S49) (Ae : Option Addr) (ce : Nat) (Ao : Option Addr) (co : Nat) (okO : Nat → Prop) : Nat → World → Prop
  | 0, w => w.heap[b]? = some (.cells #[.int .i64 y.f0, .int .i64 y.f1, .int .i64 y.f2, .int .i64 y.f3, .slice Ae y.f4.length ce] 49 (0, 0)) ∧ (∀ k, ok1 k → k < w0.heap.size ∧ ¬ ok2 k ∧ k ≠ b) ∧ (∀ k, ok2 k → k < w0.heap.size ∧ k ≠ b) ∧ b < w0.heap.size ∧ 0 ≤ bs ∧ bs + es.length ≤ 2305843009213693952 ∧ es.length ≤ 4000 ∧ y.f4.length ≤ 100 ∧ y.f1 ≤ 2305843009213693952 ∧ (∀ x ∈ es, okE x) ∧ (∀ x ∈ y.f4, okE x)
  | 1, w => Log w ok1 g1 bs t es ∧ Kd.R k60 60 w 0 okO (.slice Ao y.f4.length co) y.f4 ∧ Below w0.heap.size w0 w ∧ (∀ k, ok1 k → k < w0.heap.size ∧ ¬ ok2 k ∧ k ≠ b) ∧ (∀ k, ok2 k → k < w0.heap.size ∧ k ≠ b) ∧ b < w0.heap.size ∧ 0 ≤ bs ∧ bs + es.length ≤ 2305843009213693952 ∧ es.length ≤ 4000 ∧ y.f4.length ≤ 100 ∧ y.f1 ≤ 2305843009213693952 ∧ (∀ x ∈ es, okE x) ∧ (∀ x ∈ y.f4, okE x)
  | 2, w => LogX w ok2 g2 bs t es ∧ (∀ k, ok1 k → k < w0.heap.size ∧ ¬ ok2 k ∧ k ≠ b) ∧ (∀ k, ok2 k → k < w0.heap.size ∧ k ≠ b) ∧ b < w0.heap.size ∧ 0 ≤ bs ∧ bs + es.length ≤ 2305843009213693952 ∧ es.length ≤ 4000 ∧ y.f4.length ≤ 100 ∧ y.f1 ≤ 2305843009213693952 ∧ (∀ x ∈ es, okE x) ∧ (∀ x ∈ y.f4, okE x)
  | _, _ => True
def FA9 (w0 : World) (ok1 ok2 : Nat → Prop) (g1 g2 b : Nat) (bs t : Int) (es : List S60) (y : S49) (Ae : Option Addr) (ce : Nat) (Ao : Option Addr) (co : Nat) (okO : Nat → Prop) : Nat → Value → World → Prop
  | 0, v, w => v = .pointer (some ⟨g1, 0, none⟩)
  | 1, v, w => v = .slice Ao y.f4.length co
  | 2, v, w => v = .int .i64 (bs + (es.length : Int) + (y.f4.length : Int)) ∧ Log w (fun k => ok1 k ∨ w0.heap.size ≤ k) g1 bs t (es ++ y.f4) ∧ Kept w0 w ok1 ∧ Below 0 w0 w
  | 3, v, w => v = .pointer (some ⟨g2, 0, none⟩)
  | 4, v, w => v = .int .i64 (bs + es.length)
  | 5, v, w => v = .pointer (some ⟨b, 4, none⟩)
  | 6, v, w => v = .slice Ae y.f4.length ce
  | 7, v, w => v = .int .i64 y.f4.length
  | 8, v, w => v = .int .i64 (bs + (es.length : Int) + (y.f4.length : Int))
  | 9, v, w => v = .bool false
  | _, _, _ => True
def StA9 (i_ : Nat) : Prop := ∀ (ops : Array Oper) (Q : Exit → Act → World → Prop) (hops : ops = opsOf Try.f6 20) (w0 : World) (ok1 ok2 : Nat → Prop) (g1 g2 b : Nat) (bs t : Int) (es : List S60) (y : S49) (Ae : Option Addr) (ce : Nat) (Ao : Option Addr) (co : Nat) (okO : Nat → Prop) (a : Act) (w : World) (h5 : a.tmps[5]?.getD undef = .pointer (some ⟨g1, 0, none⟩)) (h6 : a.tmps[6]?.getD undef = .pointer (some ⟨g2, 0, none⟩)) (h8 : a.tmps[8]?.getD undef = .pointer (some ⟨b, 0, none⟩)) (h9 : a.tmps[9]?.getD undef = .slice Ao y.f4.length co)
    (hN : ∀ j, j ∈ usA9.getD i_ [] → FA9 w0 ok1 ok2 g1 g2 b bs t es y Ae ce Ao co okO j (slotO dstA9 a j) w) (hI : ∀ c, c < 3 → useIA9 i_ c = true → IA9 w0 ok1 ok2 g1 g2 b bs t es y Ae ce Ao co okO c w), wpOp Try.prog ops Q i_ (fun a' w' => ∃ v, a' = a.put (dstA9 i_) v ∧ FA9 w0 ok1 ok2 g1 g2 b bs t es y Ae ce Ao co okO i_ (valO dstA9 i_ v) w' ∧ (Below w.heap.size w w' ∨ ((∀ j u, j < 10 → j ≠ i_ → killA9 i_ j = false → (ncA9.getD j []).contains i_ = false → FA9 w0 ok1 ok2 g1 g2 b bs t es y Ae ce Ao co okO j u w → FA9 w0 ok1 ok2 g1 g2 b bs t es y Ae ce Ao co okO j u w') ∧ (∀ c, c < 3 → killIA9 i_ c = false → IA9 w0 ok1 ok2 g1 g2 b bs t es y Ae ce Ao co okO c w → IA9 w0 ok1 ok2 g1 g2 b bs t es y Ae ce Ao co okO c w')))) a w
theorem sA9_0 : StA9 0 := by
  intro ops Q hops w0 ok1 ok2 g1 g2 b bs t es y Ae ce Ao co okO a w h5 h6 h8 h9 hN hI
  subst hops
  have ho : (opsOf Try.f6 20)[0]? = some (⟨some 110, .move (.tmp 5), 24, "law.go:98", #[], none⟩ : Oper) := by kernel_rfl
  refine wpOp_plain ho rfl ?_
  clear hN hI ho
  go_simp
  first | exact ⟨_, rfl, rfl⟩ | exact ⟨_, rfl, rfl, .inl (Below.refl _ _)⟩
theorem sA9_1 : StA9 1 := by
  intro ops Q hops w0 ok1 ok2 g1 g2 b bs t es y Ae ce Ao co okO a w h5 h6 h8 h9 hN hI
  subst hops
  have ho : (opsOf Try.f6 20)[1]? = some (⟨some 111, .move (.tmp 9), 35, "law.go:98", #[], none⟩ : Oper) := by kernel_rfl
  refine wpOp_plain ho rfl ?_
  clear hN hI ho
  go_simp
  first | exact ⟨_, rfl, rfl⟩ | exact ⟨_, rfl, rfl, .inl (Below.refl _ _)⟩
theorem sA9_2 : StA9 2 := by
  intro ops Q hops w0 ok1 ok2 g1 g2 b bs t es y Ae ce Ao co okO a w h5 h6 h8 h9 hN hI
  subst hops
  have n0 : a.tmps[110]?.getD undef = .pointer (some ⟨g1, 0, none⟩) := hN 0 (by decide)
  have n1 : a.tmps[111]?.getD undef = .slice Ao y.f4.length co := hN 1 (by decide)
  have hi1 : (fun (w : World) => Log w ok1 g1 bs t es ∧ Kd.R k60 60 w 0 okO (.slice Ao y.f4.length co) y.f4 ∧ Below w0.heap.size w0 w ∧ (∀ k, ok1 k → k < w0.heap.size ∧ ¬ ok2 k ∧ k ≠ b) ∧ (∀ k, ok2 k → k < w0.heap.size ∧ k ≠ b) ∧ b < w0.heap.size ∧ 0 ≤ bs ∧ bs + es.length ≤ 2305843009213693952 ∧ es.length ≤ 4000 ∧ y.f4.length ≤ 100 ∧ y.f1 ≤ 2305843009213693952 ∧ (∀ x ∈ es, okE x) ∧ (∀ x ∈ y.f4, okE x)) w := hI 1 (by decide) (by decide)
  have ho : (opsOf Try.f6 20)[2]? = some (⟨some 112, .call { callee := .value (.func 14), args := #[.tmp 110, .tmp 111], argTypes := #[24, 35] }, 3, "law.go:98", #[⟨0, .data⟩, ⟨1, .data⟩], none⟩ : Oper) := by kernel_rfl
  refine wpOp_plain ho rfl ?_
  clear hN hI ho
  obtain ⟨hT, hO, hB, hD⟩ := hi1
  have HH := Aside0.mk (append_calls hT hD.2.2.2.1 Ao co y.f4 y.f4 _ (by have := (Kd.R_reads' hO).2.2; exact this) (Kd.R_reads' hO).2.1 (owned_id y.f4 (by omega) hD.2.2.2.2.2.2.2.2.2) (by omega) (by rw [List.length_append]; push_cast; omega))
  rw [show bs + ((es ++ y.f4).length : Int) = bs + (es.length : Int) + (y.f4.length : Int) from by rw [List.length_append]; push_cast; omega] at HH
  have HB := Aside0.mk hB
  have HD := Aside0.mk hD
  clear hT hO hB hD
  go_simp
  refine HH.out.mono ?_
  rintro e w' ⟨rfl, hT2, hK2, hB2⟩
  refine ⟨_, rfl, ⟨rfl, hT2.mono (fun k hk => by
      rcases hk with h | h
      · exact .inl h
      · exact .inr (Nat.le_trans HB.out.size h)), ⟨Nat.le_trans HB.out.size hK2.1, fun k hk hn => (hK2.2 k (Nat.lt_of_lt_of_le hk HB.out.size) hn).trans (HB.out.block k hk)⟩, (HB.out.mono (Nat.zero_le _)).trans hB2⟩, .inr ⟨?_, ?_⟩⟩
  · intro j u hj hne hk hcc hF
    have hj' : j = 0 ∨ j = 1 ∨ j = 2 ∨ j = 3 ∨ j = 4 ∨ j = 5 ∨ j = 6 ∨ j = 7 ∨ j = 8 ∨ j = 9 := by omega
    rcases hj' with rfl | rfl | rfl | rfl | rfl | rfl | rfl | rfl | rfl | rfl <;> first | exact hF | (exact absurd hk (by decide)) | (exact absurd rfl hne) | (exact absurd hcc (by decide))
  · intro c hc hk hi
    have hc' : c = 0 ∨ c = 1 ∨ c = 2 := by omega
    rcases hc' with rfl | rfl | rfl
    · have h : w.heap[b]? = some (.cells #[.int .i64 y.f0, .int .i64 y.f1, .int .i64 y.f2, .int .i64 y.f3, .slice Ae y.f4.length ce] 49 (0, 0)) ∧ (∀ k, ok1 k → k < w0.heap.size ∧ ¬ ok2 k ∧ k ≠ b) ∧ (∀ k, ok2 k → k < w0.heap.size ∧ k ≠ b) ∧ b < w0.heap.size ∧ 0 ≤ bs ∧ bs + es.length ≤ 2305843009213693952 ∧ es.length ≤ 4000 ∧ y.f4.length ≤ 100 ∧ y.f1 ≤ 2305843009213693952 ∧ (∀ x ∈ es, okE x) ∧ (∀ x ∈ y.f4, okE x) := hi
      exact ⟨(hK2.2 b (Array.getElem?_eq_some_iff.1 h.1).1 (fun h2 => (h.2.1 b h2).2.2 rfl)).trans h.1, h.2⟩
    · exact absurd hk (by decide)
    · have h : LogX w ok2 g2 bs t es ∧ (∀ k, ok1 k → k < w0.heap.size ∧ ¬ ok2 k ∧ k ≠ b) ∧ (∀ k, ok2 k → k < w0.heap.size ∧ k ≠ b) ∧ b < w0.heap.size ∧ 0 ≤ bs ∧ bs + es.length ≤ 2305843009213693952 ∧ es.length ≤ 4000 ∧ y.f4.length ≤ 100 ∧ y.f1 ≤ 2305843009213693952 ∧ (∀ x ∈ es, okE x) ∧ (∀ x ∈ y.f4, okE x) := hi
      exact ⟨h.1.kept hK2 (fun k h2 h1 => (h.2.1 k h1).2.1 h2), h.2⟩
theorem sA9_3 : StA9 3 := by
  intro ops Q hops w0 ok1 ok2 g1 g2 b bs t es y Ae ce Ao co okO a w h5 h6 h8 h9 hN hI
  subst hops
  have ho : (opsOf Try.f6 20)[3]? = some (⟨some 113, .move (.tmp 6), 45, "law.go:98", #[], none⟩ : Oper) := by kernel_rfl
  refine wpOp_plain ho rfl ?_
  clear hN hI ho
  go_simp
  first | exact ⟨_, rfl, rfl⟩ | exact ⟨_, rfl, rfl, .inl (Below.refl _ _)⟩
theorem sA9_4 : StA9 4 := by
  intro ops Q hops w0 ok1 ok2 g1 g2 b bs t es y Ae ce Ao co okO a w h5 h6 h8 h9 hN hI
  subst hops
  have n3 : a.tmps[113]?.getD undef = .pointer (some ⟨g2, 0, none⟩) := hN 3 (by decide)
  have hi2 : (fun (w : World) => LogX w ok2 g2 bs t es ∧ (∀ k, ok1 k → k < w0.heap.size ∧ ¬ ok2 k ∧ k ≠ b) ∧ (∀ k, ok2 k → k < w0.heap.size ∧ k ≠ b) ∧ b < w0.heap.size ∧ 0 ≤ bs ∧ bs + es.length ≤ 2305843009213693952 ∧ es.length ≤ 4000 ∧ y.f4.length ≤ 100 ∧ y.f1 ≤ 2305843009213693952 ∧ (∀ x ∈ es, okE x) ∧ (∀ x ∈ y.f4, okE x)) w := hI 2 (by decide) (by decide)
  have ho : (opsOf Try.f6 20)[4]? = some (⟨some 114, .call { callee := .value (.func 21), args := #[.tmp 113], argTypes := #[45] }, 3, "law.go:98", #[⟨3, .data⟩, ⟨2, .chain⟩], none⟩ : Oper) := by kernel_rfl
  refine wpOp_plain ho rfl ?_
  clear hN hI ho
  have HH := Aside0.mk (last_x hi2.1 (by omega) (by omega))
  clear hi2
  go_simp
  refine HH.out.mono ?_
  rintro e w' ⟨rfl, m, rfl⟩
  exact ⟨_, rfl, rfl, .inl (pw_below_drewN (Below.refl _ _) m)⟩
theorem sA9_5 : StA9 5 := by
  intro ops Q hops w0 ok1 ok2 g1 g2 b bs t es y Ae ce Ao co okO a w h5 h6 h8 h9 hN hI
  subst hops
  have ho : (opsOf Try.f6 20)[5]? = some (⟨some 115, .fieldAddr 49 (.tmp 8) 4, 0, "law.go:98", #[], none⟩ : Oper) := by kernel_rfl
  refine wpOp_plain ho rfl ?_
  clear hN hI ho
  go_simp
  first | exact ⟨_, rfl, rfl⟩ | exact ⟨_, rfl, rfl, .inl (Below.refl _ _)⟩
theorem sA9_6 : StA9 6 := by
  intro ops Q hops w0 ok1 ok2 g1 g2 b bs t es y Ae ce Ao co okO a w h5 h6 h8 h9 hN hI
  subst hops
  have n5 : a.tmps[115]?.getD undef = .pointer (some ⟨b, 4, none⟩) := hN 5 (by decide)
  have hi0 : (fun (w : World) => w.heap[b]? = some (.cells #[.int .i64 y.f0, .int .i64 y.f1, .int .i64 y.f2, .int .i64 y.f3, .slice Ae y.f4.length ce] 49 (0, 0)) ∧ (∀ k, ok1 k → k < w0.heap.size ∧ ¬ ok2 k ∧ k ≠ b) ∧ (∀ k, ok2 k → k < w0.heap.size ∧ k ≠ b) ∧ b < w0.heap.size ∧ 0 ≤ bs ∧ bs + es.length ≤ 2305843009213693952 ∧ es.length ≤ 4000 ∧ y.f4.length ≤ 100 ∧ y.f1 ≤ 2305843009213693952 ∧ (∀ x ∈ es, okE x) ∧ (∀ x ∈ y.f4, okE x)) w := hI 0 (by decide) (by decide)
  have ho : (opsOf Try.f6 20)[6]? = some (⟨some 116, .load 35 (.tmp 115), 35, "law.go:98", #[⟨5, .data⟩], none⟩ : Oper) := by kernel_rfl
  refine wpOp_plain ho rfl ?_
  clear hN hI ho
  have hc : w.cell? ⟨b, 4, none⟩ = some (.slice Ae y.f4.length ce) := by
    have hb := hi0.1
    simp [World.cell?, hb]
  clear hi0
  go_simp
  first | exact ⟨_, rfl, rfl⟩ | exact ⟨_, rfl, rfl, .inl (Below.refl _ _)⟩
theorem sA9_7 : StA9 7 := by
  intro ops Q hops w0 ok1 ok2 g1 g2 b bs t es y Ae ce Ao co okO a w h5 h6 h8 h9 hN hI
  subst hops
  have n6 : a.tmps[116]?.getD undef = .slice Ae y.f4.length ce := hN 6 (by decide)
  have ho : (opsOf Try.f6 20)[7]? = some (⟨some 117, .call { callee := .builtin .len, args := #[.tmp 116], argTypes := #[35] }, 3, "law.go:98", #[⟨6, .data⟩], none⟩ : Oper) := by kernel_rfl
  refine wpOp_plain ho rfl ?_
  clear hN hI ho
  go_simp
  first | exact ⟨_, rfl, rfl⟩ | exact ⟨_, rfl, rfl, .inl (Below.refl _ _)⟩
theorem sA9_8 : StA9 8 := by
  intro ops Q hops w0 ok1 ok2 g1 g2 b bs t es y Ae ce Ao co okO a w h5 h6 h8 h9 hN hI
  subst hops
  have n4 : a.tmps[114]?.getD undef = .int .i64 (bs + es.length) := hN 4 (by decide)
  have n7 : a.tmps[117]?.getD undef = .int .i64 y.f4.length := hN 7 (by decide)
  have hi0 : (fun (w : World) => w.heap[b]? = some (.cells #[.int .i64 y.f0, .int .i64 y.f1, .int .i64 y.f2, .int .i64 y.f3, .slice Ae y.f4.length ce] 49 (0, 0)) ∧ (∀ k, ok1 k → k < w0.heap.size ∧ ¬ ok2 k ∧ k ≠ b) ∧ (∀ k, ok2 k → k < w0.heap.size ∧ k ≠ b) ∧ b < w0.heap.size ∧ 0 ≤ bs ∧ bs + es.length ≤ 2305843009213693952 ∧ es.length ≤ 4000 ∧ y.f4.length ≤ 100 ∧ y.f1 ≤ 2305843009213693952 ∧ (∀ x ∈ es, okE x) ∧ (∀ x ∈ y.f4, okE x)) w := hI 0 (by decide) (by decide)
  have ho : (opsOf Try.f6 20)[8]? = some (⟨some 118, .binOp .add 3 (.tmp 114) (.tmp 117) 3, 3, "law.go:98", #[⟨4, .data⟩, ⟨7, .data⟩], none⟩ : Oper) := by kernel_rfl
  refine wpOp_plain ho rfl ?_
  clear hN hI ho
  have hk : IntKind.i64.wrap (bs + (es.length : Int) + (y.f4.length : Int)) = bs + (es.length : Int) + (y.f4.length : Int) := by rw [i64_w]; have := hi0.2; unfold wrap64; omega
  clear hi0
  go_simp
  first | exact ⟨_, rfl, rfl⟩ | exact ⟨_, rfl, rfl, .inl (Below.refl _ _)⟩
theorem sA9_9 : StA9 9 := by
  intro ops Q hops w0 ok1 ok2 g1 g2 b bs t es y Ae ce Ao co okO a w h5 h6 h8 h9 hN hI
  subst hops
  have n2 : (fun (v : Value) (w : World) => v = .int .i64 (bs + (es.length : Int) + (y.f4.length : Int)) ∧ Log w (fun k => ok1 k ∨ w0.heap.size ≤ k) g1 bs t (es ++ y.f4) ∧ Kept w0 w ok1 ∧ Below 0 w0 w) (a.tmps[112]?.getD undef) w := hN 2 (by decide)
  have n8 : a.tmps[118]?.getD undef = .int .i64 (bs + (es.length : Int) + (y.f4.length : Int)) := hN 8 (by decide)
  have ho : (opsOf Try.f6 20)[9]? = some (⟨some 119, .binOp .neq 3 (.tmp 112) (.tmp 118) 3, 4, "law.go:98", #[⟨2, .data⟩, ⟨8, .data⟩], none⟩ : Oper) := by kernel_rfl
  refine wpOp_plain ho rfl ?_
  clear hN hI ho
  have n2' := n2.1
  clear n2
  go_simp
  first | exact ⟨_, rfl, rfl⟩ | exact ⟨_, rfl, rfl, .inl (Below.refl _ _)⟩
theorem monoA9 (w0 : World) (ok1 ok2 : Nat → Prop) (g1 g2 b : Nat) (bs t : Int) (es : List S60) (y : S49) (Ae : Option Addr) (ce : Nat) (Ao : Option Addr) (co : Nat) (okO : Nat → Prop) (j : Nat) (v : Value) (w w' : World) (h : FA9 w0 ok1 ok2 g1 g2 b bs t es y Ae ce Ao co okO j v w) (hb : Below w.heap.size w w') : FA9 w0 ok1 ok2 g1 g2 b bs t es y Ae ce Ao co okO j v w' := by
  unfold FA9 at h ⊢
  split <;> first
    | exact True.intro
    | exact h
    | (obtain ⟨hv, hT3, hK3, hB3⟩ := h; exact ⟨hv, hT3.below hb, Kept.below hK3 hb, hB3.trans (hb.mono (Nat.zero_le _))⟩)
theorem monoIA9 (w0 : World) (ok1 ok2 : Nat → Prop) (g1 g2 b : Nat) (bs t : Int) (es : List S60) (y : S49) (Ae : Option Addr) (ce : Nat) (Ao : Option Addr) (co : Nat) (okO : Nat → Prop) (c : Nat) (w w' : World) (h : IA9 w0 ok1 ok2 g1 g2 b bs t es y Ae ce Ao co okO c w) (hb : Below w.heap.size w w') : IA9 w0 ok1 ok2 g1 g2 b bs t es y Ae ce Ao co okO c w' := by
  unfold IA9 at h ⊢
  split <;> first
    | exact True.intro
    | exact ⟨(hb.block b (Array.getElem?_eq_some_iff.1 h.1).1).trans h.1, h.2⟩
    | exact ⟨h.1.below hb, Kd.R_below h.2.1 hb, h.2.2.1.trans (hb.mono h.2.2.1.size), h.2.2.2⟩
    | exact ⟨h.1.below hb, h.2⟩
theorem hinA9 : ∀ i, i < 10 → ∀ d, dstA9 i = some d → d < 207 := by
  have h2 : ∀ i, i < 10 → (dstA9 i).all (fun d => decide (d < 207)) = true := by decide
  intro i hi d hd
  have := h2 i hi
  rw [hd] at this
  simpa using this
set_option maxRecDepth 100000 in
theorem regionA9 {ops : Array Oper} {Q : Exit → Act → World → Prop} (hops : ops = opsOf Try.f6 20) {id_ : Nat} (w0 : World) (ok1 ok2 : Nat → Prop) (g1 g2 b : Nat) (bs t : Int) (es : List S60) (y : S49) (Ae : Option Addr) (ce : Nat) (Ao : Option Addr) (co : Nat) (okO : Nat → Prop) (a0 : Act) (w0_ : World) (hI0 : ∀ c, IA9 w0 ok1 ok2 g1 g2 b bs t es y Ae ce Ao co okO c w0_) (hsz : a0.tmps.size = 207) (h5 : a0.tmps[5]?.getD undef = .pointer (some ⟨g1, 0, none⟩)) (h6 : a0.tmps[6]?.getD undef = .pointer (some ⟨g2, 0, none⟩)) (h8 : a0.tmps[8]?.getD undef = .pointer (some ⟨b, 0, none⟩)) (h9 : a0.tmps[9]?.getD undef = .slice Ao y.f4.length co)
    (hQ : ∀ a w, AgreeO 10 dstA9 a0 a → FA9 w0 ok1 ok2 g1 g2 b bs t es y Ae ce Ao co okO 2 (slotO dstA9 a 2) w → FA9 w0 ok1 ok2 g1 g2 b bs t es y Ae ce Ao co okO 9 (slotO dstA9 a 9) w → IA9 w0 ok1 ok2 g1 g2 b bs t es y Ae ce Ao co okO 0 w → Q .normal a w) : (Code.region id_ ops true).wp Try.prog Q a0 w0_ := by
  refine region_heldB (n := 10) dstA9 (FA9 w0 ok1 ok2 g1 g2 b bs t es y Ae ce Ao co okO) (IA9 w0 ok1 ok2 g1 g2 b bs t es y Ae ce Ao co okO) 3 ndA9 ncA9 usA9 killA9 killIA9 useIA9 (by kernel_rfl) (by rw [hops]; kernel_rfl) (by decide) ?_ (fun j v w w' _ h hb => monoA9 w0 ok1 ok2 g1 g2 b bs t es y Ae ce Ao co okO j v w w' h hb) (fun c w w' h hb => monoIA9 w0 ok1 ok2 g1 g2 b bs t es y Ae ce Ao co okO c w w' h hb) hI0 (by rw [hops]; kernel_rfl) (by decide) (by decide) (by decide) (by decide) (by decide) ?_ (fun a w hA hF hI => hQ a w hA (hF 2 (by decide) (by decide)) (hF 9 (by decide) (by decide)) (hI 0 (by decide) (by decide)))
  · intro i hi d hd
    rw [hsz]; exact hinA9 i hi d hd
  · intro i a w hi hA hN hI
    have h5 := (hA.old 5 (by decide)).trans h5
    have h6 := (hA.old 6 (by decide)).trans h6
    have h8 := (hA.old 8 (by decide)).trans h8
    have h9 := (hA.old 9 (by decide)).trans h9
    have hi' : i = 0 ∨ i = 1 ∨ i = 2 ∨ i = 3 ∨ i = 4 ∨ i = 5 ∨ i = 6 ∨ i = 7 ∨ i = 8 ∨ i = 9 := by omega
    rcases hi' with rfl | rfl | rfl | rfl | rfl | rfl | rfl | rfl | rfl | rfl
    · exact sA9_0 ops Q hops w0 ok1 ok2 g1 g2 b bs t es y Ae ce Ao co okO a w h5 h6 h8 h9 hN hI
    · exact sA9_1 ops Q hops w0 ok1 ok2 g1 g2 b bs t es y Ae ce Ao co okO a w h5 h6 h8 h9 hN hI
    · exact sA9_2 ops Q hops w0 ok1 ok2 g1 g2 b bs t es y Ae ce Ao co okO a w h5 h6 h8 h9 hN hI
    · exact sA9_3 ops Q hops w0 ok1 ok2 g1 g2 b bs t es y Ae ce Ao co okO a w h5 h6 h8 h9 hN hI
    · exact sA9_4 ops Q hops w0 ok1 ok2 g1 g2 b bs t es y Ae ce Ao co okO a w h5 h6 h8 h9 hN hI
    · exact sA9_5 ops Q hops w0 ok1 ok2 g1 g2 b bs t es y Ae ce Ao co okO a w h5 h6 h8 h9 hN hI
    · exact sA9_6 ops Q hops w0 ok1 ok2 g1 g2 b bs t es y Ae ce Ao co okO a w h5 h6 h8 h9 hN hI
    · exact sA9_7 ops Q hops w0 ok1 ok2 g1 g2 b bs t es y Ae ce Ao co okO a w h5 h6 h8 h9 hN hI
    · exact sA9_8 ops Q hops w0 ok1 ok2 g1 g2 b bs t es y Ae ce Ao co okO a w h5 h6 h8 h9 hN hI
    · exact sA9_9 ops Q hops w0 ok1 ok2 g1 g2 b bs t es y Ae ce Ao co okO a w h5 h6 h8 h9 hN hI
def dstD9 (i : Nat) : Option Nat := ([some 120, some 121, some 122, some 123, some 124, some 125, some 126, some 127, some 128, some 129, some 130, none] : List (Option Nat)).getD i none
def ndD9 : List (List Nat) := [[], [], [1], [2], [3], [], [5], [6], [4, 7, 7], [0, 0, 1, 2, 3, 4, 5, 6, 7, 8], [9, 0, 1, 2, 3, 4, 5, 6, 7, 8], [10, 8, 8, 0, 1, 2, 3, 4, 5, 6, 7, 8]]
def usD9 : List (List Nat) := [[], [], [1], [2], [3], [], [5], [6], [4, 7], [0], [9], [8, 10]]
def ncD9 : List (List Nat) := [[], [], [1], [1, 2], [1, 2, 3], [], [5], [5, 6], [1, 2, 3, 4, 5, 6, 7], [0, 1, 2, 3, 4, 5, 6, 7, 8], [0, 1, 2, 3, 4, 5, 6, 7, 8, 9], [0, 1, 2, 3, 4, 5, 6, 7, 8, 9, 10]]
def killD9 (h j : Nat) : Bool := ((h == 8 && [7].contains j) || (h == 11 && [7, 8].contains j))
def killID9 (h j : Nat) : Bool := ((h == 8 && [0, 1].contains j) || (h == 11 && [0, 1].contains j))
def useID9 (h j : Nat) : Bool := ((h == 6 && [0].contains j) || (h == 7 && [0].contains j) || (h == 4 && [1].contains j) || (h == 8 && [1].contains j))
def ID9 (w0 : World) (ok1 ok2 : Nat → Prop) (g1 g2 b : Nat) (bs t : Int) (es : List S60) (y : S49) (Ae : Option Addr) (ce : Nat) (A0 : Option Addr) (c0 : Nat) : Nat → World → Prop
  | 0, w => w.heap[b]? = some (.cells #[.int .i64 y.f0, .int .i64 y.f1, .int .i64 y.f2, .int .i64 y.f3, .slice Ae y.f4.length ce] 49 (0, 0)) ∧ Kd.C k60 w Ae y.f4.length y.f4 ∧ y.f4.length ≤ ce ∧ Below w0.heap.size w0 w ∧ (∀ k, ok1 k → k < w0.heap.size ∧ ¬ ok2 k ∧ k ≠ b) ∧ (∀ k, ok2 k → k < w0.heap.size ∧ k ≠ b) ∧ b < w0.heap.size ∧ 0 ≤ bs ∧ bs + es.length ≤ 2305843009213693952 ∧ es.length ≤ 4000 ∧ y.f4.length ≤ 100 ∧ y.f1 ≤ 2305843009213693952 ∧ (∀ x ∈ es, okE x) ∧ (∀ x ∈ y.f4, okE x)
  | 1, w => ok2 g2 ∧ w.heap[g2]? = some (.cells #[.int .i64 bs, .int .i64 t, (.slice A0 es.length c0)] 47 (0, 0)) ∧ Kd.R k60 60 w 0 (fun k => ok2 k ∧ k ≠ g2) (.slice A0 es.length c0) es ∧ Below w0.heap.size w0 w ∧ (∀ k, ok1 k → k < w0.heap.size ∧ ¬ ok2 k ∧ k ≠ b) ∧ (∀ k, ok2 k → k < w0.heap.size ∧ k ≠ b) ∧ b < w0.heap.size ∧ 0 ≤ bs ∧ bs + es.length ≤ 2305843009213693952 ∧ es.length ≤ 4000 ∧ y.f4.length ≤ 100 ∧ y.f1 ≤ 2305843009213693952 ∧ (∀ x ∈ es, okE x) ∧ (∀ x ∈ y.f4, okE x)
  | _, _ => True
def FD9 (w0 : World) (ok1 ok2 : Nat → Prop) (g1 g2 b : Nat) (bs t : Int) (es : List S60) (y : S49) (Ae : Option Addr) (ce : Nat) (A0 : Option Addr) (c0 : Nat) : Nat → Value → World → Prop
  | 0, v, w => v = .pointer (some ⟨g2, 0, none⟩)
  | 1, v, w => v = .pointer (some ⟨g2, 0, none⟩)
  | 2, v, w => v = .pointer (some ⟨g2, 0, none⟩)
  | 3, v, w => v = .pointer (some ⟨g2, 2, none⟩)
  | 4, v, w => v = .slice A0 es.length c0
  | 5, v, w => v = .pointer (some ⟨b, 4, none⟩)
  | 6, v, w => v = .slice Ae y.f4.length ce
  | 7, v, w => Kd.R k60 60 w w0.heap.size (fun _ => True) v y.f4
  | 8, v, w => ok2 g2 ∧ g2 < w0.heap.size ∧ w.heap[g2]? = some (.cells #[.int .i64 bs, .int .i64 t, (.slice A0 es.length c0)] 47 (0, 0)) ∧ Kd.R k60 60 w 0 (fun k => (ok2 k ∨ w0.heap.size ≤ k) ∧ k ≠ g2) v (es ++ y.f4) ∧ Kept w0 w ok2 ∧ Below 0 w0 w
  | 9, v, w => v = .pointer (some ⟨g2, 0, none⟩)
  | 10, v, w => v = .pointer (some ⟨g2, 2, none⟩)
  | 11, v, w => LogX w (fun k => ok2 k ∨ w0.heap.size ≤ k) g2 bs t (es ++ y.f4) ∧ Kept w0 w ok2 ∧ Below 0 w0 w
  | _, _, _ => True
def StD9 (i_ : Nat) : Prop := ∀ (ops : Array Oper) (Q : Exit → Act → World → Prop) (hops : ops = opsOf Try.f6 22) (w0 : World) (ok1 ok2 : Nat → Prop) (g1 g2 b : Nat) (bs t : Int) (es : List S60) (y : S49) (Ae : Option Addr) (ce : Nat) (A0 : Option Addr) (c0 : Nat) (a : Act) (w : World) (h6 : a.tmps[6]?.getD undef = .pointer (some ⟨g2, 0, none⟩)) (h8 : a.tmps[8]?.getD undef = .pointer (some ⟨b, 0, none⟩))
    (hN : ∀ j, j ∈ usD9.getD i_ [] → FD9 w0 ok1 ok2 g1 g2 b bs t es y Ae ce A0 c0 j (slotO dstD9 a j) w) (hI : ∀ c, c < 2 → useID9 i_ c = true → ID9 w0 ok1 ok2 g1 g2 b bs t es y Ae ce A0 c0 c w), wpOp Try.prog ops Q i_ (fun a' w' => ∃ v, a' = a.put (dstD9 i_) v ∧ FD9 w0 ok1 ok2 g1 g2 b bs t es y Ae ce A0 c0 i_ (valO dstD9 i_ v) w' ∧ (Below w.heap.size w w' ∨ ((∀ j u, j < 12 → j ≠ i_ → killD9 i_ j = false → (ncD9.getD j []).contains i_ = false → FD9 w0 ok1 ok2 g1 g2 b bs t es y Ae ce A0 c0 j u w → FD9 w0 ok1 ok2 g1 g2 b bs t es y Ae ce A0 c0 j u w') ∧ (∀ c, c < 2 → killID9 i_ c = false → ID9 w0 ok1 ok2 g1 g2 b bs t es y Ae ce A0 c0 c w → ID9 w0 ok1 ok2 g1 g2 b bs t es y Ae ce A0 c0 c w')))) a w
theorem sD9_0 : StD9 0 := by
  intro ops Q hops w0 ok1 ok2 g1 g2 b bs t es y Ae ce A0 c0 a w h6 h8 hN hI
  subst hops
  have ho : (opsOf Try.f6 22)[0]? = some (⟨some 120, .move (.tmp 6), 45, "law.go:101", #[], none⟩ : Oper) := by kernel_rfl
  refine wpOp_plain ho rfl ?_
  clear hN hI ho
  go_simp
  first | exact ⟨_, rfl, rfl⟩ | exact ⟨_, rfl, rfl, .inl (Below.refl _ _)⟩
theorem sD9_1 : StD9 1 := by
  intro ops Q hops w0 ok1 ok2 g1 g2 b bs t es y Ae ce A0 c0 a w h6 h8 hN hI
  subst hops
  have ho : (opsOf Try.f6 22)[1]? = some (⟨some 121, .move (.tmp 6), 45, "law.go:101", #[], none⟩ : Oper) := by kernel_rfl
  refine wpOp_plain ho rfl ?_
  clear hN hI ho
  go_simp
  first | exact ⟨_, rfl, rfl⟩ | exact ⟨_, rfl, rfl, .inl (Below.refl _ _)⟩
theorem sD9_2 : StD9 2 := by
  intro ops Q hops w0 ok1 ok2 g1 g2 b bs t es y Ae ce A0 c0 a w h6 h8 hN hI
  subst hops
  have n1 : a.tmps[121]?.getD undef = .pointer (some ⟨g2, 0, none⟩) := hN 1 (by decide)
  have ho : (opsOf Try.f6 22)[2]? = some (⟨some 122, .nilCheck (.tmp 121), 0, "law.go:101", #[⟨1, .data⟩], none⟩ : Oper) := by kernel_rfl
  refine wpOp_plain ho rfl ?_
  clear hN hI ho
  go_simp
  first | exact ⟨_, rfl, rfl⟩ | exact ⟨_, rfl, rfl, .inl (Below.refl _ _)⟩
theorem sD9_3 : StD9 3 := by
  intro ops Q hops w0 ok1 ok2 g1 g2 b bs t es y Ae ce A0 c0 a w h6 h8 hN hI
  subst hops
  have n2 : a.tmps[122]?.getD undef = .pointer (some ⟨g2, 0, none⟩) := hN 2 (by decide)
  have ho : (opsOf Try.f6 22)[3]? = some (⟨some 123, .fieldAddr 47 (.tmp 122) 2, 0, "law.go:101", #[⟨2, .data⟩], none⟩ : Oper) := by kernel_rfl
  refine wpOp_plain ho rfl ?_
  clear hN hI ho
  go_simp
  first | exact ⟨_, rfl, rfl⟩ | exact ⟨_, rfl, rfl, .inl (Below.refl _ _)⟩
theorem sD9_4 : StD9 4 := by
  intro ops Q hops w0 ok1 ok2 g1 g2 b bs t es y Ae ce A0 c0 a w h6 h8 hN hI
  subst hops
  have n3 : a.tmps[123]?.getD undef = .pointer (some ⟨g2, 2, none⟩) := hN 3 (by decide)
  have hi1 : (fun (w : World) => ok2 g2 ∧ w.heap[g2]? = some (.cells #[.int .i64 bs, .int .i64 t, (.slice A0 es.length c0)] 47 (0, 0)) ∧ Kd.R k60 60 w 0 (fun k => ok2 k ∧ k ≠ g2) (.slice A0 es.length c0) es ∧ Below w0.heap.size w0 w ∧ (∀ k, ok1 k → k < w0.heap.size ∧ ¬ ok2 k ∧ k ≠ b) ∧ (∀ k, ok2 k → k < w0.heap.size ∧ k ≠ b) ∧ b < w0.heap.size ∧ 0 ≤ bs ∧ bs + es.length ≤ 2305843009213693952 ∧ es.length ≤ 4000 ∧ y.f4.length ≤ 100 ∧ y.f1 ≤ 2305843009213693952 ∧ (∀ x ∈ es, okE x) ∧ (∀ x ∈ y.f4, okE x)) w := hI 1 (by decide) (by decide)
  have ho : (opsOf Try.f6 22)[4]? = some (⟨some 124, .load 35 (.tmp 123), 35, "law.go:101", #[⟨3, .data⟩], none⟩ : Oper) := by kernel_rfl
  refine wpOp_plain ho rfl ?_
  clear hN hI ho
  have hc : w.cell? ⟨g2, 2, none⟩ = some ((.slice A0 es.length c0)) := by
    have hb := hi1.2.1
    simp [World.cell?, hb]
  clear hi1
  go_simp
  first | exact ⟨_, rfl, rfl⟩ | exact ⟨_, rfl, rfl, .inl (Below.refl _ _)⟩
theorem sD9_5 : StD9 5 := by
  intro ops Q hops w0 ok1 ok2 g1 g2 b bs t es y Ae ce A0 c0 a w h6 h8 hN hI
  subst hops
  have ho : (opsOf Try.f6 22)[5]? = some (⟨some 125, .fieldAddr 49 (.tmp 8) 4, 0, "law.go:101", #[], none⟩ : Oper) := by kernel_rfl
  refine wpOp_plain ho rfl ?_
  clear hN hI ho
  go_simp
  first | exact ⟨_, rfl, rfl⟩ | exact ⟨_, rfl, rfl, .inl (Below.refl _ _)⟩
theorem sD9_6 : StD9 6 := by
  intro ops Q hops w0 ok1 ok2 g1 g2 b bs t es y Ae ce A0 c0 a w h6 h8 hN hI
  subst hops
  have n5 : a.tmps[125]?.getD undef = .pointer (some ⟨b, 4, none⟩) := hN 5 (by decide)
  have hi0 : (fun (w : World) => w.heap[b]? = some (.cells #[.int .i64 y.f0, .int .i64 y.f1, .int .i64 y.f2, .int .i64 y.f3, .slice Ae y.f4.length ce] 49 (0, 0)) ∧ Kd.C k60 w Ae y.f4.length y.f4 ∧ y.f4.length ≤ ce ∧ Below w0.heap.size w0 w ∧ (∀ k, ok1 k → k < w0.heap.size ∧ ¬ ok2 k ∧ k ≠ b) ∧ (∀ k, ok2 k → k < w0.heap.size ∧ k ≠ b) ∧ b < w0.heap.size ∧ 0 ≤ bs ∧ bs + es.length ≤ 2305843009213693952 ∧ es.length ≤ 4000 ∧ y.f4.length ≤ 100 ∧ y.f1 ≤ 2305843009213693952 ∧ (∀ x ∈ es, okE x) ∧ (∀ x ∈ y.f4, okE x)) w := hI 0 (by decide) (by decide)
  have ho : (opsOf Try.f6 22)[6]? = some (⟨some 126, .load 35 (.tmp 125), 35, "law.go:101", #[⟨5, .data⟩], none⟩ : Oper) := by kernel_rfl
  refine wpOp_plain ho rfl ?_
  clear hN hI ho
  have hc : w.cell? ⟨b, 4, none⟩ = some (.slice Ae y.f4.length ce) := by
    have hb := hi0.1
    simp [World.cell?, hb]
  clear hi0
  go_simp
  first | exact ⟨_, rfl, rfl⟩ | exact ⟨_, rfl, rfl, .inl (Below.refl _ _)⟩
theorem sD9_7 : StD9 7 := by
  intro ops Q hops w0 ok1 ok2 g1 g2 b bs t es y Ae ce A0 c0 a w h6 h8 hN hI
  subst hops
  have n6 : a.tmps[126]?.getD undef = .slice Ae y.f4.length ce := hN 6 (by decide)
  have hi0 : (fun (w : World) => w.heap[b]? = some (.cells #[.int .i64 y.f0, .int .i64 y.f1, .int .i64 y.f2, .int .i64 y.f3, .slice Ae y.f4.length ce] 49 (0, 0)) ∧ Kd.C k60 w Ae y.f4.length y.f4 ∧ y.f4.length ≤ ce ∧ Below w0.heap.size w0 w ∧ (∀ k, ok1 k → k < w0.heap.size ∧ ¬ ok2 k ∧ k ≠ b) ∧ (∀ k, ok2 k → k < w0.heap.size ∧ k ≠ b) ∧ b < w0.heap.size ∧ 0 ≤ bs ∧ bs + es.length ≤ 2305843009213693952 ∧ es.length ≤ 4000 ∧ y.f4.length ≤ 100 ∧ y.f1 ≤ 2305843009213693952 ∧ (∀ x ∈ es, okE x) ∧ (∀ x ∈ y.f4, okE x)) w := hI 0 (by decide) (by decide)
  have ho : (opsOf Try.f6 22)[7]? = some (⟨some 127, .call { callee := .value (.func 20), args := #[.tmp 126], argTypes := #[35] }, 35, "law.go:101", #[⟨6, .data⟩], none⟩ : Oper) := by kernel_rfl
  refine wpOp_plain ho rfl ?_
  clear hN hI ho
  obtain ⟨hb, hC, hce, hB, hD⟩ := hi0
  have HH := Aside0.mk (deep_calls w Ae ce y.f4 hC hce hD.2.2.2.2.2.2.2.2.2 (by omega))
  have HB := Aside0.mk hB
  clear hb hC hB hD
  go_simp
  refine HH.out.mono ?_
  rintro e w' ⟨v, rfl, hR, hb⟩
  exact ⟨_, rfl, Kd.R_lower hR HB.out.size, .inl hb⟩
theorem sD9_8 : StD9 8 := by
  intro ops Q hops w0 ok1 ok2 g1 g2 b bs t es y Ae ce A0 c0 a w h6 h8 hN hI
  subst hops
  have n4 : a.tmps[124]?.getD undef = .slice A0 es.length c0 := hN 4 (by decide)
  have n7 : (fun (v : Value) (w : World) => Kd.R k60 60 w w0.heap.size (fun _ => True) v y.f4) (a.tmps[127]?.getD undef) w := hN 7 (by decide)
  have hi1 : (fun (w : World) => ok2 g2 ∧ w.heap[g2]? = some (.cells #[.int .i64 bs, .int .i64 t, (.slice A0 es.length c0)] 47 (0, 0)) ∧ Kd.R k60 60 w 0 (fun k => ok2 k ∧ k ≠ g2) (.slice A0 es.length c0) es ∧ Below w0.heap.size w0 w ∧ (∀ k, ok1 k → k < w0.heap.size ∧ ¬ ok2 k ∧ k ≠ b) ∧ (∀ k, ok2 k → k < w0.heap.size ∧ k ≠ b) ∧ b < w0.heap.size ∧ 0 ≤ bs ∧ bs + es.length ≤ 2305843009213693952 ∧ es.length ≤ 4000 ∧ y.f4.length ≤ 100 ∧ y.f1 ≤ 2305843009213693952 ∧ (∀ x ∈ es, okE x) ∧ (∀ x ∈ y.f4, okE x)) w := hI 1 (by decide) (by decide)
  have ho : (opsOf Try.f6 22)[8]? = some (⟨some 128, .call { callee := .builtin .append, args := #[.tmp 124, .tmp 127], argTypes := #[35, 35] }, 35, "law.go:101", #[⟨4, .data⟩, ⟨7, .data⟩, ⟨7, .chain⟩], none⟩ : Oper) := by kernel_rfl
  refine wpOp_plain ho rfl ?_
  clear hN hI ho
  obtain ⟨hg, hh, hR, hB, hD⟩ := hi1
  have n7' : Kd.R k60 60 w w0.heap.size (fun _ => True) (a.tmps[127]?.getD undef) y.f4 := n7
  obtain ⟨A7, c7, e7, hc7, hrr⟩ := R_ownC (Kd.R_lower (Kd.R_mono (Kd.R_bound n7') (ok' := fun k => w0.heap.size ≤ k) (fun k hk => hk.2.1)) (Nat.zero_le _))
  have hg2 : g2 < w0.heap.size := (hD.2.1 g2 hg).1
  have hw : Region.wanted ({ dst := some 128, op := Go.Op.call { callee := Go.Callee.builtin Go.Builtin.append, args := #[Go.Operand.tmp 124, Go.Operand.tmp 127], argTypes := #[35, 35] }, type := 35, pos := "law.go:101", after := #[{ on := 4, ground := Go.Ground.data }, { on := 7, ground := Go.Ground.data }, { on := 7, ground := Go.Ground.chain }], guard := none } : Oper) (yielded (opsOf Try.f6 22) a.tmps) = true := rfl
  have hown : ∀ k, (Value.slice A0 es.length c0).ownBlock = some k → ok2 k ∧ k ≠ g2 := hR.1
  refine (if_pos hw).mp (Kd.R_append_rows_step k60 (w0 := w) 0 hw (.tmp 124) (.tmp 127) 35 60 _ 192 rfl Try.underlying35 info60 rfl (by decide) (by decide) (.slice A0 es.length c0) es y.f4 A7 y.f4.length c7 (fun k => (ok2 k ∨ w0.heap.size ≤ k) ∧ k ≠ g2) (fun k => w0.heap.size ≤ k) (by simp only [Act.eval, Array.getD_eq_getD_getElem?]; exact n4) (by simp only [Act.eval, Array.getD_eq_getD_getElem?]; exact e7) (Kd.R_mono hR (fun k hk => ⟨.inl hk.1, hk.2⟩)) hrr (fun x cs h => k60.M_mono (fun k hk => hk.1) h) (fun k hk => ⟨⟨.inr hk, by omega⟩, fun he => by have := (hown k he.symm).1; have := (hD.2.1 k this).1; omega⟩) (fun k hk => ⟨.inr (Nat.le_trans hB.size hk), by have := hB.size; omega⟩) (Below.refl 0 w) (Nat.zero_le _) (by omega) ?_)
  intro v1 w1 hR1 hB1 hg1 hat1
  refine ⟨v1, rfl, ⟨hg, hg2, (hg1.block g2 (Nat.lt_of_lt_of_le hg2 hB.size) (fun he => (hown g2 he.symm).2 rfl)).trans hh, hR1, Kept.of_grown hg1 (Kept.of_below hB _) (fun k hk => .inl (hown k hk).1), (hB.mono (Nat.zero_le _)).trans hB1⟩, .inr ⟨?_, ?_⟩⟩
  · intro j u hj hne hk hcc hF
    have hj' : j = 0 ∨ j = 1 ∨ j = 2 ∨ j = 3 ∨ j = 4 ∨ j = 5 ∨ j = 6 ∨ j = 7 ∨ j = 8 ∨ j = 9 ∨ j = 10 ∨ j = 11 := by omega
    rcases hj' with rfl | rfl | rfl | rfl | rfl | rfl | rfl | rfl | rfl | rfl | rfl | rfl <;> first | exact hF | (exact absurd hk (by decide)) | (exact absurd rfl hne) | (exact absurd hcc (by decide))
  · intro c hc hk hi
    have hc' : c = 0 ∨ c = 1 := by omega
    rcases hc' with rfl | rfl <;> exact absurd hk (by decide)
theorem sD9_9 : StD9 9 := by
  intro ops Q hops w0 ok1 ok2 g1 g2 b bs t es y Ae ce A0 c0 a w h6 h8 hN hI
  subst hops
  have n0 : a.tmps[120]?.getD undef = .pointer (some ⟨g2, 0, none⟩) := hN 0 (by decide)
  have ho : (opsOf Try.f6 22)[9]? = some (⟨some 129, .nilCheck (.tmp 120), 0, "law.go:101", #[⟨0, .data⟩, ⟨0, .phase⟩, ⟨1, .phase⟩, ⟨2, .phase⟩, ⟨3, .phase⟩, ⟨4, .phase⟩, ⟨5, .phase⟩, ⟨6, .phase⟩, ⟨7, .phase⟩, ⟨8, .phase⟩], none⟩ : Oper) := by kernel_rfl
  refine wpOp_plain ho rfl ?_
  clear hN hI ho
  go_simp
  first | exact ⟨_, rfl, rfl⟩ | exact ⟨_, rfl, rfl, .inl (Below.refl _ _)⟩
theorem sD9_10 : StD9 10 := by
  intro ops Q hops w0 ok1 ok2 g1 g2 b bs t es y Ae ce A0 c0 a w h6 h8 hN hI
  subst hops
  have n9 : a.tmps[129]?.getD undef = .pointer (some ⟨g2, 0, none⟩) := hN 9 (by decide)
  have ho : (opsOf Try.f6 22)[10]? = some (⟨some 130, .fieldAddr 47 (.tmp 129) 2, 0, "law.go:101", #[⟨9, .data⟩, ⟨0, .phase⟩, ⟨1, .phase⟩, ⟨2, .phase⟩, ⟨3, .phase⟩, ⟨4, .phase⟩, ⟨5, .phase⟩, ⟨6, .phase⟩, ⟨7, .phase⟩, ⟨8, .phase⟩], none⟩ : Oper) := by kernel_rfl
  refine wpOp_plain ho rfl ?_
  clear hN hI ho
  go_simp
  first | exact ⟨_, rfl, rfl⟩ | exact ⟨_, rfl, rfl, .inl (Below.refl _ _)⟩
theorem sD9_11 : StD9 11 := by
  intro ops Q hops w0 ok1 ok2 g1 g2 b bs t es y Ae ce A0 c0 a w h6 h8 hN hI
  subst hops
  have n8 : (fun (v : Value) (w : World) => ok2 g2 ∧ g2 < w0.heap.size ∧ w.heap[g2]? = some (.cells #[.int .i64 bs, .int .i64 t, (.slice A0 es.length c0)] 47 (0, 0)) ∧ Kd.R k60 60 w 0 (fun k => (ok2 k ∨ w0.heap.size ≤ k) ∧ k ≠ g2) v (es ++ y.f4) ∧ Kept w0 w ok2 ∧ Below 0 w0 w) (a.tmps[128]?.getD undef) w := hN 8 (by decide)
  have n10 : a.tmps[130]?.getD undef = .pointer (some ⟨g2, 2, none⟩) := hN 10 (by decide)
  have ho : (opsOf Try.f6 22)[11]? = some (⟨none, .store 35 (.tmp 130) (.tmp 128), 0, "law.go:101", #[⟨10, .data⟩, ⟨8, .data⟩, ⟨8, .chain⟩, ⟨0, .phase⟩, ⟨1, .phase⟩, ⟨2, .phase⟩, ⟨3, .phase⟩, ⟨4, .phase⟩, ⟨5, .phase⟩, ⟨6, .phase⟩, ⟨7, .phase⟩, ⟨8, .phase⟩], none⟩ : Oper) := by kernel_rfl
  refine wpOp_plain ho rfl ?_
  clear hN hI ho
  obtain ⟨hg, hlt, hh, hR, hK, hB⟩ := n8
  obtain ⟨A2, c2, e2⟩ := Kd.R_slice hR
  rw [e2] at hR
  have hcell : w.cell? ⟨g2, 2, none⟩ = some (.slice A0 es.length c0) := by simp [World.cell?, hh]
  have hfz : w.frozen? ⟨g2, 2, none⟩ = false := by simp [World.frozen?, hh]
  have HH := Aside0.mk hh
  have HR := Aside0.mk hR
  have HK := Aside0.mk hK
  have HB := Aside0.mk hB
  clear hh hR hK hB
  generalize hlen : (es ++ y.f4).length = L at HR e2
  go_simp
  refine ⟨undef, rfl, ⟨⟨.inl hg, _, set_field 2 HH.out _, ?_⟩, Kept.setCell HK.out (.inl hg) _, Below.setCell HB.out (Nat.zero_le _) _⟩, .inr ⟨?_, ?_⟩⟩
  · exact Kd.R_far (p := ⟨g2, 2, none⟩) HR.out (fun k hk => hk.2) (.slice A2 L c2)
  · intro j u hj hne hk hcc hF
    have hj' : j = 0 ∨ j = 1 ∨ j = 2 ∨ j = 3 ∨ j = 4 ∨ j = 5 ∨ j = 6 ∨ j = 7 ∨ j = 8 ∨ j = 9 ∨ j = 10 ∨ j = 11 := by omega
    rcases hj' with rfl | rfl | rfl | rfl | rfl | rfl | rfl | rfl | rfl | rfl | rfl | rfl <;> first | exact hF | (exact absurd hk (by decide)) | (exact absurd rfl hne) | (exact absurd hcc (by decide))
  · intro c hc hk hi
    have hc' : c = 0 ∨ c = 1 := by omega
    rcases hc' with rfl | rfl <;> exact absurd hk (by decide)
theorem monoD9 (w0 : World) (ok1 ok2 : Nat → Prop) (g1 g2 b : Nat) (bs t : Int) (es : List S60) (y : S49) (Ae : Option Addr) (ce : Nat) (A0 : Option Addr) (c0 : Nat) (j : Nat) (v : Value) (w w' : World) (h : FD9 w0 ok1 ok2 g1 g2 b bs t es y Ae ce A0 c0 j v w) (hb : Below w.heap.size w w') : FD9 w0 ok1 ok2 g1 g2 b bs t es y Ae ce A0 c0 j v w' := by
  unfold FD9 at h ⊢
  split <;> first
    | exact True.intro
    | exact h
    | exact Kd.R_below h hb
    | (obtain ⟨h1, h2, h3, h4, h5, h6⟩ := h; exact ⟨h1, h2, (hb.block g2 (Array.getElem?_eq_some_iff.1 h3).1).trans h3, Kd.R_below h4 hb, Kept.below h5 hb, h6.trans (hb.mono (Nat.zero_le _))⟩)
    | (obtain ⟨hT3, hK3, hB3⟩ := h; exact ⟨hT3.below hb, Kept.below hK3 hb, hB3.trans (hb.mono (Nat.zero_le _))⟩)
theorem monoID9 (w0 : World) (ok1 ok2 : Nat → Prop) (g1 g2 b : Nat) (bs t : Int) (es : List S60) (y : S49) (Ae : Option Addr) (ce : Nat) (A0 : Option Addr) (c0 : Nat) (c : Nat) (w w' : World) (h : ID9 w0 ok1 ok2 g1 g2 b bs t es y Ae ce A0 c0 c w) (hb : Below w.heap.size w w') : ID9 w0 ok1 ok2 g1 g2 b bs t es y Ae ce A0 c0 c w' := by
  unfold ID9 at h ⊢
  split <;> first
    | exact True.intro
    | exact ⟨(hb.block b (Array.getElem?_eq_some_iff.1 h.1).1).trans h.1, Kd.C_below h.2.1 hb, h.2.2.1, h.2.2.2.1.trans (hb.mono h.2.2.2.1.size), h.2.2.2.2⟩
    | exact ⟨h.1, (hb.block g2 (Array.getElem?_eq_some_iff.1 h.2.1).1).trans h.2.1, Kd.R_below h.2.2.1 hb, h.2.2.2.1.trans (hb.mono h.2.2.2.1.size), h.2.2.2.2⟩
theorem hinD9 : ∀ i, i < 12 → ∀ d, dstD9 i = some d → d < 207 := by
  have h2 : ∀ i, i < 12 → (dstD9 i).all (fun d => decide (d < 207)) = true := by decide
  intro i hi d hd
  have := h2 i hi
  rw [hd] at this
  simpa using this
set_option maxRecDepth 100000 in
theorem regionD9 {ops : Array Oper} {Q : Exit → Act → World → Prop} (hops : ops = opsOf Try.f6 22) {id_ : Nat} (w0 : World) (ok1 ok2 : Nat → Prop) (g1 g2 b : Nat) (bs t : Int) (es : List S60) (y : S49) (Ae : Option Addr) (ce : Nat) (A0 : Option Addr) (c0 : Nat) (a0 : Act) (w0_ : World) (hI0 : ∀ c, ID9 w0 ok1 ok2 g1 g2 b bs t es y Ae ce A0 c0 c w0_) (hsz : a0.tmps.size = 207) (h6 : a0.tmps[6]?.getD undef = .pointer (some ⟨g2, 0, none⟩)) (h8 : a0.tmps[8]?.getD undef = .pointer (some ⟨b, 0, none⟩))
    (hQ : ∀ a w, AgreeO 12 dstD9 a0 a → FD9 w0 ok1 ok2 g1 g2 b bs t es y Ae ce A0 c0 11 (slotO dstD9 a 11) w → Q .normal a w) : (Code.region id_ ops true).wp Try.prog Q a0 w0_ := by
  refine region_heldB (n := 12) dstD9 (FD9 w0 ok1 ok2 g1 g2 b bs t es y Ae ce A0 c0) (ID9 w0 ok1 ok2 g1 g2 b bs t es y Ae ce A0 c0) 2 ndD9 ncD9 usD9 killD9 killID9 useID9 (by kernel_rfl) (by rw [hops]; kernel_rfl) (by decide) ?_ (fun j v w w' _ h hb => monoD9 w0 ok1 ok2 g1 g2 b bs t es y Ae ce A0 c0 j v w w' h hb) (fun c w w' h hb => monoID9 w0 ok1 ok2 g1 g2 b bs t es y Ae ce A0 c0 c w w' h hb) hI0 (by rw [hops]; kernel_rfl) (by decide) (by decide) (by decide) (by decide) (by decide) ?_ (fun a w hA hF hI => hQ a w hA (hF 11 (by decide) (by decide)) )
  · intro i hi d hd
    rw [hsz]; exact hinD9 i hi d hd
  · intro i a w hi hA hN hI
    have h6 := (hA.old 6 (by decide)).trans h6
    have h8 := (hA.old 8 (by decide)).trans h8
    have hi' : i = 0 ∨ i = 1 ∨ i = 2 ∨ i = 3 ∨ i = 4 ∨ i = 5 ∨ i = 6 ∨ i = 7 ∨ i = 8 ∨ i = 9 ∨ i = 10 ∨ i = 11 := by omega
    rcases hi' with rfl | rfl | rfl | rfl | rfl | rfl | rfl | rfl | rfl | rfl | rfl | rfl
    · exact sD9_0 ops Q hops w0 ok1 ok2 g1 g2 b bs t es y Ae ce A0 c0 a w h6 h8 hN hI
    · exact sD9_1 ops Q hops w0 ok1 ok2 g1 g2 b bs t es y Ae ce A0 c0 a w h6 h8 hN hI
    · exact sD9_2 ops Q hops w0 ok1 ok2 g1 g2 b bs t es y Ae ce A0 c0 a w h6 h8 hN hI
    · exact sD9_3 ops Q hops w0 ok1 ok2 g1 g2 b bs t es y Ae ce A0 c0 a w h6 h8 hN hI
    · exact sD9_4 ops Q hops w0 ok1 ok2 g1 g2 b bs t es y Ae ce A0 c0 a w h6 h8 hN hI
    · exact sD9_5 ops Q hops w0 ok1 ok2 g1 g2 b bs t es y Ae ce A0 c0 a w h6 h8 hN hI
    · exact sD9_6 ops Q hops w0 ok1 ok2 g1 g2 b bs t es y Ae ce A0 c0 a w h6 h8 hN hI
    · exact sD9_7 ops Q hops w0 ok1 ok2 g1 g2 b bs t es y Ae ce A0 c0 a w h6 h8 hN hI
    · exact sD9_8 ops Q hops w0 ok1 ok2 g1 g2 b bs t es y Ae ce A0 c0 a w h6 h8 hN hI
    · exact sD9_9 ops Q hops w0 ok1 ok2 g1 g2 b bs t es y Ae ce A0 c0 a w h6 h8 hN hI
    · exact sD9_10 ops Q hops w0 ok1 ok2 g1 g2 b bs t es y Ae ce A0 c0 a w h6 h8 hN hI
    · exact sD9_11 ops Q hops w0 ok1 ok2 g1 g2 b bs t es y Ae ce A0 c0 a w h6 h8 hN hI
def dstM9 (i : Nat) : Option Nat := ([some 144, some 145, some 146, some 147, some 148, some 149, some 150, some 151, some 152, some 143, some 153, some 154, some 12, some 13] : List (Option Nat)).getD i none
def ndM9 : List (List Nat) := [[], [], [1], [], [3], [], [5], [6], [0, 2, 4, 7, 7], [8], [9], [9], [10, 8, 0, 1, 2, 3, 4, 5, 6, 7, 8, 9, 10], [11, 12, 0, 1, 2, 3, 4, 5, 6, 7, 8, 9, 10, 11, 12]]
def usM9 : List (List Nat) := [[], [], [1], [], [3], [], [5], [6], [0, 2, 4, 7], [8], [9], [9], [10], [11]]
def ncM9 : List (List Nat) := [[], [], [1], [], [3], [], [5], [5, 6], [0, 1, 2, 3, 4, 5, 6, 7], [0, 1, 2, 3, 4, 5, 6, 7, 8], [0, 1, 2, 3, 4, 5, 6, 7, 8, 9], [0, 1, 2, 3, 4, 5, 6, 7, 8, 9], [0, 1, 2, 3, 4, 5, 6, 7, 8, 9, 10], [0, 1, 2, 3, 4, 5, 6, 7, 8, 9, 10, 11, 12]]
def killM9 (h j : Nat) : Bool := ((h == 8 && [7].contains j))
def killIM9 (h j : Nat) : Bool := ((h == 8 && [0, 1].contains j))
def useIM9 (h j : Nat) : Bool := ((h == 2 && [0].contains j) || (h == 4 && [0].contains j) || (h == 6 && [0].contains j) || (h == 7 && [0].contains j) || (h == 8 && [1].contains j))
def IM9 (w0 : World) (ok1 ok2 : Nat → Prop) (g1 g2 b : Nat) (bs t : Int) (es : List S60) (y : S49) (Ae : Option Addr) (ce : Nat) : Nat → World → Prop
  | 0, w => w.heap[b]? = some (.cells #[.int .i64 y.f0, .int .i64 y.f1, .int .i64 y.f2, .int .i64 y.f3, .slice Ae y.f4.length ce] 49 (0, 0)) ∧ Kd.C k60 w Ae y.f4.length y.f4 ∧ y.f4.length ≤ ce ∧ Below w0.heap.size w0 w ∧ (∀ k, ok1 k → k < w0.heap.size ∧ ¬ ok2 k ∧ k ≠ b) ∧ (∀ k, ok2 k → k < w0.heap.size ∧ k ≠ b) ∧ b < w0.heap.size ∧ 0 ≤ bs ∧ bs + es.length ≤ 2305843009213693952 ∧ es.length ≤ 4000 ∧ y.f4.length ≤ 100 ∧ y.f1 ≤ 2305843009213693952 ∧ (∀ x ∈ es, okE x) ∧ (∀ x ∈ y.f4, okE x)
  | 1, w => ok2 g2 ∧ LogX w ok2 g2 bs t es ∧ Below w0.heap.size w0 w ∧ (∀ k, ok1 k → k < w0.heap.size ∧ ¬ ok2 k ∧ k ≠ b) ∧ (∀ k, ok2 k → k < w0.heap.size ∧ k ≠ b) ∧ b < w0.heap.size ∧ 0 ≤ bs ∧ bs + es.length ≤ 2305843009213693952 ∧ es.length ≤ 4000 ∧ y.f4.length ≤ 100 ∧ y.f1 ≤ 2305843009213693952 ∧ (∀ x ∈ es, okE x) ∧ (∀ x ∈ y.f4, okE x)
  | _, _ => True
def FM9 (w0 : World) (ok1 ok2 : Nat → Prop) (g1 g2 b : Nat) (bs t : Int) (es : List S60) (y : S49) (Ae : Option Addr) (ce : Nat) : Nat → Value → World → Prop
  | 0, v, w => v = .pointer (some ⟨g2, 0, none⟩)
  | 1, v, w => v = .pointer (some ⟨b, 1, none⟩)
  | 2, v, w => v = .int .i64 y.f1
  | 3, v, w => v = .pointer (some ⟨b, 2, none⟩)
  | 4, v, w => v = .int .i64 y.f2
  | 5, v, w => v = .pointer (some ⟨b, 4, none⟩)
  | 6, v, w => v = .slice Ae y.f4.length ce
  | 7, v, w => Kd.R k60 60 w w0.heap.size (fun _ => True) v y.f4
  | 8, v, w => v = .tuple #[.int .i64 (mergeXL bs t es y.f1 y.f2 y.f4).1, .bool (mergeXL bs t es y.f1 y.f2 y.f4).2.1] ∧ LogX w (fun k => ok2 k ∨ w0.heap.size ≤ k) g2 bs t (mergeXL bs t es y.f1 y.f2 y.f4).2.2 ∧ Kept w0 w ok2 ∧ Below 0 w0 w
  | 9, v, w => v = .tuple #[.int .i64 (mergeXL bs t es y.f1 y.f2 y.f4).1, .bool (mergeXL bs t es y.f1 y.f2 y.f4).2.1]
  | 10, v, w => v = .int .i64 (mergeXL bs t es y.f1 y.f2 y.f4).1
  | 11, v, w => v = .bool (mergeXL bs t es y.f1 y.f2 y.f4).2.1
  | 12, v, w => v = .int .i64 (mergeXL bs t es y.f1 y.f2 y.f4).1
  | 13, v, w => v = .bool (mergeXL bs t es y.f1 y.f2 y.f4).2.1
  | _, _, _ => True
def StM9 (i_ : Nat) : Prop := ∀ (ops : Array Oper) (Q : Exit → Act → World → Prop) (hops : ops = opsOf Try.f6 25) (w0 : World) (ok1 ok2 : Nat → Prop) (g1 g2 b : Nat) (bs t : Int) (es : List S60) (y : S49) (Ae : Option Addr) (ce : Nat) (a : Act) (w : World) (h6 : a.tmps[6]?.getD undef = .pointer (some ⟨g2, 0, none⟩)) (h8 : a.tmps[8]?.getD undef = .pointer (some ⟨b, 0, none⟩))
    (hN : ∀ j, j ∈ usM9.getD i_ [] → FM9 w0 ok1 ok2 g1 g2 b bs t es y Ae ce j (slotO dstM9 a j) w) (hI : ∀ c, c < 2 → useIM9 i_ c = true → IM9 w0 ok1 ok2 g1 g2 b bs t es y Ae ce c w), wpOp Try.prog ops Q i_ (fun a' w' => ∃ v, a' = a.put (dstM9 i_) v ∧ FM9 w0 ok1 ok2 g1 g2 b bs t es y Ae ce i_ (valO dstM9 i_ v) w' ∧ (Below w.heap.size w w' ∨ ((∀ j u, j < 14 → j ≠ i_ → killM9 i_ j = false → (ncM9.getD j []).contains i_ = false → FM9 w0 ok1 ok2 g1 g2 b bs t es y Ae ce j u w → FM9 w0 ok1 ok2 g1 g2 b bs t es y Ae ce j u w') ∧ (∀ c, c < 2 → killIM9 i_ c = false → IM9 w0 ok1 ok2 g1 g2 b bs t es y Ae ce c w → IM9 w0 ok1 ok2 g1 g2 b bs t es y Ae ce c w')))) a w
theorem sM9_0 : StM9 0 := by
  intro ops Q hops w0 ok1 ok2 g1 g2 b bs t es y Ae ce a w h6 h8 hN hI
  subst hops
  have ho : (opsOf Try.f6 25)[0]? = some (⟨some 144, .move (.tmp 6), 45, "law.go:104", #[], none⟩ : Oper) := by kernel_rfl
  refine wpOp_plain ho rfl ?_
  clear hN hI ho
  go_simp
  first | exact ⟨_, rfl, rfl⟩ | exact ⟨_, rfl, rfl, .inl (Below.refl _ _)⟩
theorem sM9_1 : StM9 1 := by
  intro ops Q hops w0 ok1 ok2 g1 g2 b bs t es y Ae ce a w h6 h8 hN hI
  subst hops
  have ho : (opsOf Try.f6 25)[1]? = some (⟨some 145, .fieldAddr 49 (.tmp 8) 1, 0, "law.go:104", #[], none⟩ : Oper) := by kernel_rfl
  refine wpOp_plain ho rfl ?_
  clear hN hI ho
  go_simp
  first | exact ⟨_, rfl, rfl⟩ | exact ⟨_, rfl, rfl, .inl (Below.refl _ _)⟩
theorem sM9_2 : StM9 2 := by
  intro ops Q hops w0 ok1 ok2 g1 g2 b bs t es y Ae ce a w h6 h8 hN hI
  subst hops
  have n1 : a.tmps[145]?.getD undef = .pointer (some ⟨b, 1, none⟩) := hN 1 (by decide)
  have hi0 : (fun (w : World) => w.heap[b]? = some (.cells #[.int .i64 y.f0, .int .i64 y.f1, .int .i64 y.f2, .int .i64 y.f3, .slice Ae y.f4.length ce] 49 (0, 0)) ∧ Kd.C k60 w Ae y.f4.length y.f4 ∧ y.f4.length ≤ ce ∧ Below w0.heap.size w0 w ∧ (∀ k, ok1 k → k < w0.heap.size ∧ ¬ ok2 k ∧ k ≠ b) ∧ (∀ k, ok2 k → k < w0.heap.size ∧ k ≠ b) ∧ b < w0.heap.size ∧ 0 ≤ bs ∧ bs + es.length ≤ 2305843009213693952 ∧ es.length ≤ 4000 ∧ y.f4.length ≤ 100 ∧ y.f1 ≤ 2305843009213693952 ∧ (∀ x ∈ es, okE x) ∧ (∀ x ∈ y.f4, okE x)) w := hI 0 (by decide) (by decide)
  have ho : (opsOf Try.f6 25)[2]? = some (⟨some 146, .load 3 (.tmp 145), 3, "law.go:104", #[⟨1, .data⟩], none⟩ : Oper) := by kernel_rfl
  refine wpOp_plain ho rfl ?_
  clear hN hI ho
  have hc : w.cell? ⟨b, 1, none⟩ = some (.int .i64 y.f1) := by
    have hb := hi0.1
    simp [World.cell?, hb]
  clear hi0
  go_simp
  first | exact ⟨_, rfl, rfl⟩ | exact ⟨_, rfl, rfl, .inl (Below.refl _ _)⟩
theorem sM9_3 : StM9 3 := by
  intro ops Q hops w0 ok1 ok2 g1 g2 b bs t es y Ae ce a w h6 h8 hN hI
  subst hops
  have ho : (opsOf Try.f6 25)[3]? = some (⟨some 147, .fieldAddr 49 (.tmp 8) 2, 0, "law.go:104", #[], none⟩ : Oper) := by kernel_rfl
  refine wpOp_plain ho rfl ?_
  clear hN hI ho
  go_simp
  first | exact ⟨_, rfl, rfl⟩ | exact ⟨_, rfl, rfl, .inl (Below.refl _ _)⟩
theorem sM9_4 : StM9 4 := by
  intro ops Q hops w0 ok1 ok2 g1 g2 b bs t es y Ae ce a w h6 h8 hN hI
  subst hops
  have n3 : a.tmps[147]?.getD undef = .pointer (some ⟨b, 2, none⟩) := hN 3 (by decide)
  have hi0 : (fun (w : World) => w.heap[b]? = some (.cells #[.int .i64 y.f0, .int .i64 y.f1, .int .i64 y.f2, .int .i64 y.f3, .slice Ae y.f4.length ce] 49 (0, 0)) ∧ Kd.C k60 w Ae y.f4.length y.f4 ∧ y.f4.length ≤ ce ∧ Below w0.heap.size w0 w ∧ (∀ k, ok1 k → k < w0.heap.size ∧ ¬ ok2 k ∧ k ≠ b) ∧ (∀ k, ok2 k → k < w0.heap.size ∧ k ≠ b) ∧ b < w0.heap.size ∧ 0 ≤ bs ∧ bs + es.length ≤ 2305843009213693952 ∧ es.length ≤ 4000 ∧ y.f4.length ≤ 100 ∧ y.f1 ≤ 2305843009213693952 ∧ (∀ x ∈ es, okE x) ∧ (∀ x ∈ y.f4, okE x)) w := hI 0 (by decide) (by decide)
  have ho : (opsOf Try.f6 25)[4]? = some (⟨some 148, .load 3 (.tmp 147), 3, "law.go:104", #[⟨3, .data⟩], none⟩ : Oper) := by kernel_rfl
  refine wpOp_plain ho rfl ?_
  clear hN hI ho
  have hc : w.cell? ⟨b, 2, none⟩ = some (.int .i64 y.f2) := by
    have hb := hi0.1
    simp [World.cell?, hb]
  clear hi0
  go_simp
  first | exact ⟨_, rfl, rfl⟩ | exact ⟨_, rfl, rfl, .inl (Below.refl _ _)⟩
theorem sM9_5 : StM9 5 := by
  intro ops Q hops w0 ok1 ok2 g1 g2 b bs t es y Ae ce a w h6 h8 hN hI
  subst hops
  have ho : (opsOf Try.f6 25)[5]? = some (⟨some 149, .fieldAddr 49 (.tmp 8) 4, 0, "law.go:104", #[], none⟩ : Oper) := by kernel_rfl
  refine wpOp_plain ho rfl ?_
  clear hN hI ho
  go_simp
  first | exact ⟨_, rfl, rfl⟩ | exact ⟨_, rfl, rfl, .inl (Below.refl _ _)⟩
theorem sM9_6 : StM9 6 := by
  intro ops Q hops w0 ok1 ok2 g1 g2 b bs t es y Ae ce a w h6 h8 hN hI
  subst hops
  have n5 : a.tmps[149]?.getD undef = .pointer (some ⟨b, 4, none⟩) := hN 5 (by decide)
  have hi0 : (fun (w : World) => w.heap[b]? = some (.cells #[.int .i64 y.f0, .int .i64 y.f1, .int .i64 y.f2, .int .i64 y.f3, .slice Ae y.f4.length ce] 49 (0, 0)) ∧ Kd.C k60 w Ae y.f4.length y.f4 ∧ y.f4.length ≤ ce ∧ Below w0.heap.size w0 w ∧ (∀ k, ok1 k → k < w0.heap.size ∧ ¬ ok2 k ∧ k ≠ b) ∧ (∀ k, ok2 k → k < w0.heap.size ∧ k ≠ b) ∧ b < w0.heap.size ∧ 0 ≤ bs ∧ bs + es.length ≤ 2305843009213693952 ∧ es.length ≤ 4000 ∧ y.f4.length ≤ 100 ∧ y.f1 ≤ 2305843009213693952 ∧ (∀ x ∈ es, okE x) ∧ (∀ x ∈ y.f4, okE x)) w := hI 0 (by decide) (by decide)
  have ho : (opsOf Try.f6 25)[6]? = some (⟨some 150, .load 35 (.tmp 149), 35, "law.go:104", #[⟨5, .data⟩], none⟩ : Oper) := by kernel_rfl
  refine wpOp_plain ho rfl ?_
  clear hN hI ho
  have hc : w.cell? ⟨b, 4, none⟩ = some (.slice Ae y.f4.length ce) := by
    have hb := hi0.1
    simp [World.cell?, hb]
  clear hi0
  go_simp
  first | exact ⟨_, rfl, rfl⟩ | exact ⟨_, rfl, rfl, .inl (Below.refl _ _)⟩
theorem sM9_7 : StM9 7 := by
  intro ops Q hops w0 ok1 ok2 g1 g2 b bs t es y Ae ce a w h6 h8 hN hI
  subst hops
  have n6 : a.tmps[150]?.getD undef = .slice Ae y.f4.length ce := hN 6 (by decide)
  have hi0 : (fun (w : World) => w.heap[b]? = some (.cells #[.int .i64 y.f0, .int .i64 y.f1, .int .i64 y.f2, .int .i64 y.f3, .slice Ae y.f4.length ce] 49 (0, 0)) ∧ Kd.C k60 w Ae y.f4.length y.f4 ∧ y.f4.length ≤ ce ∧ Below w0.heap.size w0 w ∧ (∀ k, ok1 k → k < w0.heap.size ∧ ¬ ok2 k ∧ k ≠ b) ∧ (∀ k, ok2 k → k < w0.heap.size ∧ k ≠ b) ∧ b < w0.heap.size ∧ 0 ≤ bs ∧ bs + es.length ≤ 2305843009213693952 ∧ es.length ≤ 4000 ∧ y.f4.length ≤ 100 ∧ y.f1 ≤ 2305843009213693952 ∧ (∀ x ∈ es, okE x) ∧ (∀ x ∈ y.f4, okE x)) w := hI 0 (by decide) (by decide)
  have ho : (opsOf Try.f6 25)[7]? = some (⟨some 151, .call { callee := .value (.func 20), args := #[.tmp 150], argTypes := #[35] }, 35, "law.go:104", #[⟨6, .data⟩], none⟩ : Oper) := by kernel_rfl
  refine wpOp_plain ho rfl ?_
  clear hN hI ho
  obtain ⟨hb, hC, hce, hB, hD⟩ := hi0
  have HH := Aside0.mk (deep_calls w Ae ce y.f4 hC hce hD.2.2.2.2.2.2.2.2.2 (by omega))
  have HB := Aside0.mk hB
  clear hb hC hB hD
  go_simp
  refine HH.out.mono ?_
  rintro e w' ⟨v, rfl, hR, hb⟩
  exact ⟨_, rfl, Kd.R_lower hR HB.out.size, .inl hb⟩
theorem sM9_8 : StM9 8 := by
  intro ops Q hops w0 ok1 ok2 g1 g2 b bs t es y Ae ce a w h6 h8 hN hI
  subst hops
  have n0 : a.tmps[144]?.getD undef = .pointer (some ⟨g2, 0, none⟩) := hN 0 (by decide)
  have n2 : a.tmps[146]?.getD undef = .int .i64 y.f1 := hN 2 (by decide)
  have n4 : a.tmps[148]?.getD undef = .int .i64 y.f2 := hN 4 (by decide)
  have n7 : (fun (v : Value) (w : World) => Kd.R k60 60 w w0.heap.size (fun _ => True) v y.f4) (a.tmps[151]?.getD undef) w := hN 7 (by decide)
  have hi1 : (fun (w : World) => ok2 g2 ∧ LogX w ok2 g2 bs t es ∧ Below w0.heap.size w0 w ∧ (∀ k, ok1 k → k < w0.heap.size ∧ ¬ ok2 k ∧ k ≠ b) ∧ (∀ k, ok2 k → k < w0.heap.size ∧ k ≠ b) ∧ b < w0.heap.size ∧ 0 ≤ bs ∧ bs + es.length ≤ 2305843009213693952 ∧ es.length ≤ 4000 ∧ y.f4.length ≤ 100 ∧ y.f1 ≤ 2305843009213693952 ∧ (∀ x ∈ es, okE x) ∧ (∀ x ∈ y.f4, okE x)) w := hI 1 (by decide) (by decide)
  have ho : (opsOf Try.f6 25)[8]? = some (⟨some 152, .call { callee := .value (.func 22), args := #[.tmp 144, .tmp 146, .tmp 148, .tmp 151], argTypes := #[45, 3, 3, 35] }, 26, "law.go:104", #[⟨0, .data⟩, ⟨2, .data⟩, ⟨4, .data⟩, ⟨7, .data⟩, ⟨7, .chain⟩], none⟩ : Oper) := by kernel_rfl
  refine wpOp_plain ho rfl ?_
  clear hN hI ho
  obtain ⟨hg, hT, hB, hD⟩ := hi1
  have n7' : Kd.R k60 60 w w0.heap.size (fun _ => True) (a.tmps[151]?.getD undef) y.f4 := n7
  obtain ⟨A7, c7, e7, hc7, hrr⟩ := R_ownC (Kd.R_lower (Kd.R_mono (Kd.R_bound n7') (ok' := fun k => w0.heap.size ≤ k) (fun k hk => hk.2.1)) (Nat.zero_le _))
  have HH := Aside0.mk (merge_x hT hD.2.2.2.1 y.f1 y.f2 A7 c7 y.f4 (fun k => w0.heap.size ≤ k ∧ k < w.heap.size) hrr (fun k hk => ⟨by have := (hD.2.1 g2 hg).1; omega, hk.2⟩) hc7 (by omega) (by omega) (by omega))
  have HB := Aside0.mk hB
  clear hT hB hD hrr n7 n7'
  go_simp
  refine HH.out.mono ?_
  rintro e w' ⟨rfl, hT2, hK2, hB2⟩
  refine ⟨_, rfl, ⟨rfl, hT2.mono (fun k hk => by
      rcases hk with h | h | h
      · exact .inl h
      · exact .inr h.1
      · exact .inr (Nat.le_trans HB.out.size h)), ⟨Nat.le_trans HB.out.size hK2.1, fun k hk hn => (hK2.2 k (Nat.lt_of_lt_of_le hk HB.out.size) hn).trans (HB.out.block k hk)⟩, (HB.out.mono (Nat.zero_le _)).trans hB2⟩, .inr ⟨?_, ?_⟩⟩
  · intro j u hj hne hk hcc hF
    have hj' : j = 0 ∨ j = 1 ∨ j = 2 ∨ j = 3 ∨ j = 4 ∨ j = 5 ∨ j = 6 ∨ j = 7 ∨ j = 8 ∨ j = 9 ∨ j = 10 ∨ j = 11 ∨ j = 12 ∨ j = 13 := by omega
    rcases hj' with rfl | rfl | rfl | rfl | rfl | rfl | rfl | rfl | rfl | rfl | rfl | rfl | rfl | rfl <;> first | exact hF | (exact absurd hk (by decide)) | (exact absurd rfl hne) | (exact absurd hcc (by decide))
  · intro c hc hk hi
    have hc' : c = 0 ∨ c = 1 := by omega
    rcases hc' with rfl | rfl <;> exact absurd hk (by decide)
theorem sM9_9 : StM9 9 := by
  intro ops Q hops w0 ok1 ok2 g1 g2 b bs t es y Ae ce a w h6 h8 hN hI
  subst hops
  have n8 : (fun (v : Value) (w : World) => v = .tuple #[.int .i64 (mergeXL bs t es y.f1 y.f2 y.f4).1, .bool (mergeXL bs t es y.f1 y.f2 y.f4).2.1] ∧ LogX w (fun k => ok2 k ∨ w0.heap.size ≤ k) g2 bs t (mergeXL bs t es y.f1 y.f2 y.f4).2.2 ∧ Kept w0 w ok2 ∧ Below 0 w0 w) (a.tmps[152]?.getD undef) w := hN 8 (by decide)
  have ho : (opsOf Try.f6 25)[9]? = some (⟨some 143, .move (.tmp 152), 26, "law.go:104", #[⟨8, .data⟩], none⟩ : Oper) := by kernel_rfl
  refine wpOp_plain ho rfl ?_
  clear hN hI ho
  have n8' := n8.1
  clear n8
  go_simp
  first | exact ⟨_, rfl, rfl⟩ | exact ⟨_, rfl, rfl, .inl (Below.refl _ _)⟩
theorem sM9_10 : StM9 10 := by
  intro ops Q hops w0 ok1 ok2 g1 g2 b bs t es y Ae ce a w h6 h8 hN hI
  subst hops
  have n9 : a.tmps[143]?.getD undef = .tuple #[.int .i64 (mergeXL bs t es y.f1 y.f2 y.f4).1, .bool (mergeXL bs t es y.f1 y.f2 y.f4).2.1] := hN 9 (by decide)
  have ho : (opsOf Try.f6 25)[10]? = some (⟨some 153, .extract (.tmp 143) 0, 3, "law.go:104", #[⟨9, .data⟩], none⟩ : Oper) := by kernel_rfl
  refine wpOp_plain ho rfl ?_
  clear hN hI ho
  go_simp
  first | exact ⟨_, rfl, rfl⟩ | exact ⟨_, rfl, rfl, .inl (Below.refl _ _)⟩
theorem sM9_11 : StM9 11 := by
  intro ops Q hops w0 ok1 ok2 g1 g2 b bs t es y Ae ce a w h6 h8 hN hI
  subst hops
  have n9 : a.tmps[143]?.getD undef = .tuple #[.int .i64 (mergeXL bs t es y.f1 y.f2 y.f4).1, .bool (mergeXL bs t es y.f1 y.f2 y.f4).2.1] := hN 9 (by decide)
  have ho : (opsOf Try.f6 25)[11]? = some (⟨some 154, .extract (.tmp 143) 1, 4, "law.go:104", #[⟨9, .data⟩, ⟨12, (.gcOnly .lateStores)⟩], none⟩ : Oper) := by kernel_rfl
  refine wpOp_plain ho rfl ?_
  clear hN hI ho
  go_simp
  first | exact ⟨_, rfl, rfl⟩ | exact ⟨_, rfl, rfl, .inl (Below.refl _ _)⟩
theorem sM9_12 : StM9 12 := by
  intro ops Q hops w0 ok1 ok2 g1 g2 b bs t es y Ae ce a w h6 h8 hN hI
  subst hops
  have n10 : a.tmps[153]?.getD undef = .int .i64 (mergeXL bs t es y.f1 y.f2 y.f4).1 := hN 10 (by decide)
  have ho : (opsOf Try.f6 25)[12]? = some (⟨some 12, .assign (.tmp 153), 3, "law.go:104", #[⟨10, .data⟩, ⟨8, .chain⟩, ⟨0, .phase⟩, ⟨1, .phase⟩, ⟨2, .phase⟩, ⟨3, .phase⟩, ⟨4, .phase⟩, ⟨5, .phase⟩, ⟨6, .phase⟩, ⟨7, .phase⟩, ⟨8, .phase⟩, ⟨9, .phase⟩, ⟨10, .phase⟩, ⟨11, (.textOnly .lateStores)⟩], none⟩ : Oper) := by kernel_rfl
  refine wpOp_plain ho rfl ?_
  clear hN hI ho
  go_simp
  first | exact ⟨_, rfl, rfl⟩ | exact ⟨_, rfl, rfl, .inl (Below.refl _ _)⟩
theorem sM9_13 : StM9 13 := by
  intro ops Q hops w0 ok1 ok2 g1 g2 b bs t es y Ae ce a w h6 h8 hN hI
  subst hops
  have n11 : a.tmps[154]?.getD undef = .bool (mergeXL bs t es y.f1 y.f2 y.f4).2.1 := hN 11 (by decide)
  have ho : (opsOf Try.f6 25)[13]? = some (⟨some 13, .assign (.tmp 154), 4, "law.go:104", #[⟨11, .data⟩, ⟨12, .chain⟩, ⟨0, .phase⟩, ⟨1, .phase⟩, ⟨2, .phase⟩, ⟨3, .phase⟩, ⟨4, .phase⟩, ⟨5, .phase⟩, ⟨6, .phase⟩, ⟨7, .phase⟩, ⟨8, .phase⟩, ⟨9, .phase⟩, ⟨10, .phase⟩, ⟨11, .phase⟩, ⟨12, .phase⟩], none⟩ : Oper) := by kernel_rfl
  refine wpOp_plain ho rfl ?_
  clear hN hI ho
  go_simp
  first | exact ⟨_, rfl, rfl⟩ | exact ⟨_, rfl, rfl, .inl (Below.refl _ _)⟩
theorem monoM9 (w0 : World) (ok1 ok2 : Nat → Prop) (g1 g2 b : Nat) (bs t : Int) (es : List S60) (y : S49) (Ae : Option Addr) (ce : Nat) (j : Nat) (v : Value) (w w' : World) (h : FM9 w0 ok1 ok2 g1 g2 b bs t es y Ae ce j v w) (hb : Below w.heap.size w w') : FM9 w0 ok1 ok2 g1 g2 b bs t es y Ae ce j v w' := by
  unfold FM9 at h ⊢
  split <;> first
    | exact True.intro
    | exact h
    | exact Kd.R_below h hb
    | (obtain ⟨hv, hT3, hK3, hB3⟩ := h; exact ⟨hv, hT3.below hb, Kept.below hK3 hb, hB3.trans (hb.mono (Nat.zero_le _))⟩)
theorem monoIM9 (w0 : World) (ok1 ok2 : Nat → Prop) (g1 g2 b : Nat) (bs t : Int) (es : List S60) (y : S49) (Ae : Option Addr) (ce : Nat) (c : Nat) (w w' : World) (h : IM9 w0 ok1 ok2 g1 g2 b bs t es y Ae ce c w) (hb : Below w.heap.size w w') : IM9 w0 ok1 ok2 g1 g2 b bs t es y Ae ce c w' := by
  unfold IM9 at h ⊢
  split <;> first
    | exact True.intro
    | exact ⟨(hb.block b (Array.getElem?_eq_some_iff.1 h.1).1).trans h.1, Kd.C_below h.2.1 hb, h.2.2.1, h.2.2.2.1.trans (hb.mono h.2.2.2.1.size), h.2.2.2.2⟩
    | exact ⟨h.1, h.2.1.below hb, h.2.2.1.trans (hb.mono h.2.2.1.size), h.2.2.2⟩
theorem hinM9 : ∀ i, i < 14 → ∀ d, dstM9 i = some d → d < 207 := by
  have h2 : ∀ i, i < 14 → (dstM9 i).all (fun d => decide (d < 207)) = true := by decide
  intro i hi d hd
  have := h2 i hi
  rw [hd] at this
  simpa using this
set_option maxRecDepth 100000 in
theorem regionM9 {ops : Array Oper} {Q : Exit → Act → World → Prop} (hops : ops = opsOf Try.f6 25) {id_ : Nat} (w0 : World) (ok1 ok2 : Nat → Prop) (g1 g2 b : Nat) (bs t : Int) (es : List S60) (y : S49) (Ae : Option Addr) (ce : Nat) (a0 : Act) (w0_ : World) (hI0 : ∀ c, IM9 w0 ok1 ok2 g1 g2 b bs t es y Ae ce c w0_) (hsz : a0.tmps.size = 207) (h6 : a0.tmps[6]?.getD undef = .pointer (some ⟨g2, 0, none⟩)) (h8 : a0.tmps[8]?.getD undef = .pointer (some ⟨b, 0, none⟩))
    (hQ : ∀ a w, AgreeO 14 dstM9 a0 a → FM9 w0 ok1 ok2 g1 g2 b bs t es y Ae ce 8 (slotO dstM9 a 8) w → FM9 w0 ok1 ok2 g1 g2 b bs t es y Ae ce 12 (slotO dstM9 a 12) w → FM9 w0 ok1 ok2 g1 g2 b bs t es y Ae ce 13 (slotO dstM9 a 13) w → Q .normal a w) : (Code.region id_ ops true).wp Try.prog Q a0 w0_ := by
  refine region_heldB (n := 14) dstM9 (FM9 w0 ok1 ok2 g1 g2 b bs t es y Ae ce) (IM9 w0 ok1 ok2 g1 g2 b bs t es y Ae ce) 2 ndM9 ncM9 usM9 killM9 killIM9 useIM9 (by kernel_rfl) (by rw [hops]; kernel_rfl) (by decide) ?_ (fun j v w w' _ h hb => monoM9 w0 ok1 ok2 g1 g2 b bs t es y Ae ce j v w w' h hb) (fun c w w' h hb => monoIM9 w0 ok1 ok2 g1 g2 b bs t es y Ae ce c w w' h hb) hI0 (by rw [hops]; kernel_rfl) (by decide) (by decide) (by decide) (by decide) (by decide) ?_ (fun a w hA hF hI => hQ a w hA (hF 8 (by decide) (by decide)) (hF 12 (by decide) (by decide)) (hF 13 (by decide) (by decide)) )
  · intro i hi d hd
    rw [hsz]; exact hinM9 i hi d hd
  · intro i a w hi hA hN hI
    have h6 := (hA.old 6 (by decide)).trans h6
    have h8 := (hA.old 8 (by decide)).trans h8
    have hi' : i = 0 ∨ i = 1 ∨ i = 2 ∨ i = 3 ∨ i = 4 ∨ i = 5 ∨ i = 6 ∨ i = 7 ∨ i = 8 ∨ i = 9 ∨ i = 10 ∨ i = 11 ∨ i = 12 ∨ i = 13 := by omega
    rcases hi' with rfl | rfl | rfl | rfl | rfl | rfl | rfl | rfl | rfl | rfl | rfl | rfl | rfl | rfl
    · exact sM9_0 ops Q hops w0 ok1 ok2 g1 g2 b bs t es y Ae ce a w h6 h8 hN hI
    · exact sM9_1 ops Q hops w0 ok1 ok2 g1 g2 b bs t es y Ae ce a w h6 h8 hN hI
    · exact sM9_2 ops Q hops w0 ok1 ok2 g1 g2 b bs t es y Ae ce a w h6 h8 hN hI
    · exact sM9_3 ops Q hops w0 ok1 ok2 g1 g2 b bs t es y Ae ce a w h6 h8 hN hI
    · exact sM9_4 ops Q hops w0 ok1 ok2 g1 g2 b bs t es y Ae ce a w h6 h8 hN hI
    · exact sM9_5 ops Q hops w0 ok1 ok2 g1 g2 b bs t es y Ae ce a w h6 h8 hN hI
    · exact sM9_6 ops Q hops w0 ok1 ok2 g1 g2 b bs t es y Ae ce a w h6 h8 hN hI
    · exact sM9_7 ops Q hops w0 ok1 ok2 g1 g2 b bs t es y Ae ce a w h6 h8 hN hI
    · exact sM9_8 ops Q hops w0 ok1 ok2 g1 g2 b bs t es y Ae ce a w h6 h8 hN hI
    · exact sM9_9 ops Q hops w0 ok1 ok2 g1 g2 b bs t es y Ae ce a w h6 h8 hN hI
    · exact sM9_10 ops Q hops w0 ok1 ok2 g1 g2 b bs t es y Ae ce a w h6 h8 hN hI
    · exact sM9_11 ops Q hops w0 ok1 ok2 g1 g2 b bs t es y Ae ce a w h6 h8 hN hI
    · exact sM9_12 ops Q hops w0 ok1 ok2 g1 g2 b bs t es y Ae ce a w h6 h8 hN hI
    · exact sM9_13 ops Q hops w0 ok1 ok2 g1 g2 b bs t es y Ae ce a w h6 h8 hN hI


def z49 : S49 := ⟨0, 0, 0, 0, []⟩
def k49 : Kd S49 := Kd.iso (Kd.pair (Kd.int .i64) (Kd.pair (Kd.int .i64) (Kd.pair (Kd.int .i64) (Kd.pair (Kd.int .i64) (Kd.slice 60 k60))))) (fun x : S49 => (x.f0, x.f1, x.f2, x.f3, x.f4))
theorem k49_open {w : World} {x : S49} {cs : List Value} (h : k49.K w x cs) : ∃ A c, cs = [.int .i64 x.f0, .int .i64 x.f1, .int .i64 x.f2, .int .i64 x.f3, .slice A x.f4.length c] ∧ x.f4.length ≤ c ∧ k60.C w A x.f4.length x.f4 := by
  obtain ⟨_, _, rfl, rfl, ⟨_, _, rfl, rfl, ⟨_, _, rfl, rfl, ⟨_, _, rfl, rfl, ⟨A, c, rfl, hl, hC⟩⟩⟩⟩⟩ := h
  exact ⟨A, c, rfl, hl, hC⟩
theorem k49_mk (w : World) (x : S49) {A : Option Addr} {c : Nat} (l : x.f4.length ≤ c) (h : k60.C w A x.f4.length x.f4) : k49.K w x [.int .i64 x.f0, .int .i64 x.f1, .int .i64 x.f2, .int .i64 x.f3, .slice A x.f4.length c] := ⟨[.int .i64 x.f0], [.int .i64 x.f1, .int .i64 x.f2, .int .i64 x.f3, .slice A x.f4.length c], rfl, rfl, ⟨[.int .i64 x.f1], [.int .i64 x.f2, .int .i64 x.f3, .slice A x.f4.length c], rfl, rfl, ⟨[.int .i64 x.f2], [.int .i64 x.f3, .slice A x.f4.length c], rfl, rfl, ⟨[.int .i64 x.f3], [.slice A x.f4.length c], rfl, rfl, ⟨A, c, rfl, l, h⟩⟩⟩⟩⟩
def rd_T49 (xs : List S49) (i : Int) : S49 := xs.getD i.toNat z49
theorem at_T49 {w : World} {A : Option Addr} {n : Nat} {xs : List S49} (h : Kd.C k49 w A n xs) (i : Int) (h0 : 0 ≤ i) (h1 : i < n) : ∃ ad Ae ce, A = some ad ∧ w.cell? (ad.add (i.toNat * 5)) = some (.int .i64 (rd_T49 xs i).f0) ∧ w.cell? ⟨(ad.add (i.toNat * 5)).block, (ad.add (i.toNat * 5)).off + 1, none⟩ = some (.int .i64 (rd_T49 xs i).f1) ∧ w.cell? ⟨(ad.add (i.toNat * 5)).block, (ad.add (i.toNat * 5)).off + 2, none⟩ = some (.int .i64 (rd_T49 xs i).f2) ∧ w.cell? ⟨(ad.add (i.toNat * 5)).block, (ad.add (i.toNat * 5)).off + 3, none⟩ = some (.int .i64 (rd_T49 xs i).f3) ∧ w.cell? ⟨(ad.add (i.toNat * 5)).block, (ad.add (i.toNat * 5)).off + 4, none⟩ = some (.slice Ae (rd_T49 xs i).f4.length ce) ∧ (rd_T49 xs i).f4.length ≤ ce ∧ k60.C w Ae (rd_T49 xs i).f4.length (rd_T49 xs i).f4 := by
  obtain ⟨ad, c, e, _, hK, hc0⟩ := Kd.C_get h z49 i h0 h1
  have hc : ∀ j u, c[j]? = some u → w.cell? (ad.add (i.toNat * 5 + j)) = some u := hc0
  obtain ⟨A, cc, rfl, hl, hC⟩ := k49_open hK
  exact ⟨ad, A, cc, e, hc 0 _ rfl, by rw [← add_field _ _ 1 (by omega)]; exact hc 1 _ rfl, by rw [← add_field _ _ 2 (by omega)]; exact hc 2 _ rfl, by rw [← add_field _ _ 3 (by omega)]; exact hc 3 _ rfl, by rw [← add_field _ _ 4 (by omega)]; exact hc 4 _ rfl, hl, hC⟩
/-- What an act of the script must be like: its entries are no wider than any machine's. -/
def okAct (y : S49) : Prop := y.f3 ≤ 9223372036854775807 ∧ (∀ x ∈ y.f4, okE x) ∧ (∀ x ∈ y.f4, okS x)
/-- How large the logs are after m acts. -/
structure Nums (a : Int) (es : List S60) (m : Nat) : Prop where
  lo : 0 ≤ a
  hi : a ≤ 1152921504606846976
  len : es.length ≤ 100 * m
  oe : ∀ x ∈ es, okE x
  os : ∀ x ∈ es, okS x
/-- Both logs, the same, in blocks of the call's own. -/
structure Two (w W : World) (g1 g2 : Nat) (ok1 ok2 : Nat → Prop) (a t : Int) (es : List S60) (m : Nat) : Prop where
  l1 : Log W ok1 g1 a t es
  l2 : LogX W ok2 g2 a t es
  d1 : ∀ k, ok1 k → w.heap.size ≤ k ∧ k < W.heap.size ∧ ¬ ok2 k
  d2 : ∀ k, ok2 k → w.heap.size ≤ k ∧ k < W.heap.size
  nm : Nums a es m
  be : Below w.heap.size w W
def St2 (w W : World) (g1 g2 m : Nat) : Prop := ∃ ok1 ok2 a t es, Two w W g1 g2 ok1 ok2 a t es m
theorem Two.keep {w W W2 : World} {g1 g2 : Nat} {ok1 ok2 S : Nat → Prop} {a t : Int} {es : List S60} {m : Nat} (h : Two w W g1 g2 ok1 ok2 a t es m) (hk : Kept W W2 S) (hb : Below 0 W W2) (hs : ∀ k, S k → w.heap.size ≤ k ∧ ¬ ok1 k ∧ ¬ ok2 k) : Two w W2 g1 g2 ok1 ok2 a t es m :=
  ⟨h.l1.kept hk (fun k h1 h2 => (hs k h2).2.1 h1), h.l2.kept hk (fun k h1 h2 => (hs k h2).2.2 h1), fun k h1 => ⟨(h.d1 k h1).1, Nat.lt_of_lt_of_le (h.d1 k h1).2.1 hk.1, (h.d1 k h1).2.2⟩, fun k h2 => ⟨(h.d2 k h2).1, Nat.lt_of_lt_of_le (h.d2 k h2).2 hk.1⟩, h.nm, below_kept h.be hk hb (fun k h1 => (hs k h1).1)⟩
theorem Two.below {w W W2 : World} {g1 g2 : Nat} {ok1 ok2 : Nat → Prop} {a t : Int} {es : List S60} {m : Nat} (h : Two w W g1 g2 ok1 ok2 a t es m) (hb : Below W.heap.size W W2) : Two w W2 g1 g2 ok1 ok2 a t es m :=
  h.keep (S := fun _ => False) (Kept.of_below hb _) (hb.mono (Nat.zero_le _)) (fun _ h => h.elim)
theorem Two.st {w W : World} {g1 g2 : Nat} {ok1 ok2 : Nat → Prop} {a t : Int} {es : List S60} {m : Nat} (h : Two w W g1 g2 ok1 ok2 a t es m) : St2 w W g1 g2 m := ⟨_, _, _, _, _, h⟩
theorem St2.below {w W W2 : World} {g1 g2 m : Nat} (h : St2 w W g1 g2 m) (hb : Below W.heap.size W W2) : St2 w W2 g1 g2 m := by
  obtain ⟨_, _, _, _, _, h⟩ := h
  exact (h.below hb).st
theorem Nums.next {a : Int} {es es' : List S60} {m : Nat} {y : S49} (h : Nums a es m) (hy : okAct y) (h100 : y.f4.length ≤ 100) (hl : es'.length ≤ es.length + y.f4.length) (hm : ∀ x ∈ es', x ∈ es ∨ x ∈ y.f4) : Nums a es' (m + 1) :=
  ⟨h.lo, h.hi, by have := h.len; omega, fun x hx => (hm x hx).elim (h.oe x) (hy.2.1 x), fun x hx => (hm x hx).elim (h.os x) (hy.2.2 x)⟩
theorem Nums.up {a : Int} {es : List S60} {m : Nat} (h : Nums a es m) : Nums a es (m + 1) := ⟨h.lo, h.hi, by have := h.len; omega, h.oe, h.os⟩
theorem Nums.app {a : Int} {es : List S60} {m : Nat} {y : S49} (h : Nums a es m) (hy : okAct y) (h100 : y.f4.length ≤ 100) : Nums a (es ++ y.f4) (m + 1) := h.next hy h100 (by simp) (fun x hx => List.mem_append.1 hx)
theorem mergeXL_mem (a t : Int) (es : List S60) (x term : Int) (ys : List S60) : (mergeXL a t es x term ys).2.2.length ≤ es.length + ys.length ∧ ∀ e ∈ (mergeXL a t es x term ys).2.2, e ∈ es ∨ e ∈ ys := by
  unfold mergeXL
  split
  · exact ⟨by simp, fun e h => .inl h⟩
  · split
    · exact ⟨by simp, fun e h => .inl h⟩
    · unfold mergeXB
      split
      · exact ⟨by simp, fun e h => .inl h⟩
      · refine ⟨by simp only [List.length_append, List.length_take, List.length_drop]; omega, fun e h => ?_⟩
        rcases List.mem_append.1 h with h | h
        · exact .inl (List.mem_of_mem_take h)
        · exact .inr (List.mem_of_mem_drop h)
theorem Nums.merge {a t : Int} {es : List S60} {m : Nat} {y : S49} (h : Nums a es m) (hy : okAct y) (h100 : y.f4.length ≤ 100) : Nums a (mergeXL a t es y.f1 y.f2 y.f4).2.2 (m + 1) := h.next hy h100 (mergeXL_mem _ _ _ _ _ _).1 (mergeXL_mem _ _ _ _ _ _).2
theorem Nums.compact {a t : Int} {es : List S60} {m : Nat} (h : Nums a es m) (x y : Int) (hx : x ≤ 1152921504606846976) : Nums (compactL a t es x y).2.1 (compactL a t es x y).2.2.2 (m + 1) := by
  unfold compactL
  split
  · exact h.up
  · rename_i hax
    have := h.lo
    have := h.len
    split
    · exact ⟨by show 0 ≤ x; omega, hx, by simp only [List.length_drop]; omega, fun e he => h.oe e (List.mem_of_mem_drop he), fun e he => h.os e (List.mem_of_mem_drop he)⟩
    · exact ⟨by show 0 ≤ x; omega, hx, by simp, fun e he => by simp at he, fun e he => by simp at he⟩


structure Mid (w W : World) (g1 g2 b : Nat) (ok1 ok2 okO : Nat → Prop) (a t : Int) (es1 es2 : List S60) (y : S49) (Ae : Option Addr) (ce : Nat) (vO : Value) (m1 m2 : Nat) : Prop where
  l1 : Log W ok1 g1 a t es1
  l2 : LogX W ok2 g2 a t es2
  d1 : ∀ k, ok1 k → w.heap.size ≤ k ∧ k < W.heap.size ∧ ¬ ok2 k
  d2 : ∀ k, ok2 k → w.heap.size ≤ k ∧ k < W.heap.size
  n1 : Nums a es1 m1
  n2 : Nums a es2 m2
  be : Below w.heap.size w W
  box : W.heap[b]? = some (Obj.cells #[.int .i64 y.f0, .int .i64 y.f1, .int .i64 y.f2, .int .i64 y.f3, .slice Ae y.f4.length ce] 49)
  bl : w.heap.size ≤ b ∧ b < W.heap.size ∧ ¬ ok1 b ∧ ¬ ok2 b ∧ ¬ okO b
  own : Kd.R k60 60 W 0 okO vO y.f4
  od : ∀ k, okO k → w.heap.size ≤ k ∧ k < W.heap.size ∧ ¬ ok1 k ∧ ¬ ok2 k
  eC : Kd.C k60 w Ae y.f4.length y.f4
  ec : y.f4.length ≤ ce
section
variable {w W W2 : World} {g1 g2 b : Nat} {ok1 ok2 okO : Nat → Prop} {a t : Int} {es1 es2 es' : List S60} {y : S49} {Ae : Option Addr} {ce : Nat} {vO : Value} {m1 m2 m' : Nat}
theorem Mid.below (h : Mid w W g1 g2 b ok1 ok2 okO a t es1 es2 y Ae ce vO m1 m2) (hb : Below W.heap.size W W2) : Mid w W2 g1 g2 b ok1 ok2 okO a t es1 es2 y Ae ce vO m1 m2 where
  l1 := h.l1.below hb
  l2 := h.l2.below hb
  d1 := fun k hk => ⟨(h.d1 k hk).1, Nat.lt_of_lt_of_le (h.d1 k hk).2.1 hb.size, (h.d1 k hk).2.2⟩
  d2 := fun k hk => ⟨(h.d2 k hk).1, Nat.lt_of_lt_of_le (h.d2 k hk).2 hb.size⟩
  n1 := h.n1
  n2 := h.n2
  be := h.be.trans (hb.mono h.be.size)
  box := (hb.block b h.bl.2.1).trans h.box
  bl := ⟨h.bl.1, Nat.lt_of_lt_of_le h.bl.2.1 hb.size, h.bl.2.2⟩
  own := Kd.R_below h.own hb
  od := fun k hk => ⟨(h.od k hk).1, Nat.lt_of_lt_of_le (h.od k hk).2.1 hb.size, (h.od k hk).2.2⟩
  eC := h.eC
  ec := h.ec
theorem Mid.step1 (h : Mid w W g1 g2 b ok1 ok2 okO a t es1 es2 y Ae ce vO m1 m2) (hl : Log W2 (fun k => ok1 k ∨ W.heap.size ≤ k) g1 a t es') (hk : Kept W W2 ok1) (hb : Below 0 W W2) (hn : Nums a es' m') : Mid w W2 g1 g2 b (fun k => (ok1 k ∨ W.heap.size ≤ k) ∧ k < W2.heap.size) ok2 okO a t es' es2 y Ae ce vO m' m2 := by
  have hs := h.be.size
  have hz := hk.1
  refine ⟨hl.bound, h.l2.kept hk (fun k h2 h1 => (h.d1 k h1).2.2 h2), fun k hk' => ⟨?_, hk'.2, fun h2 => ?_⟩, fun k hk' => ⟨(h.d2 k hk').1, Nat.lt_of_lt_of_le (h.d2 k hk').2 hk.1⟩, hn, h.n2, below_kept h.be hk hb (fun k h1 => (h.d1 k h1).1), (hk.2 b h.bl.2.1 h.bl.2.2.1).trans h.box, ⟨h.bl.1, Nat.lt_of_lt_of_le h.bl.2.1 hk.1, fun hb' => ?_, h.bl.2.2.2.1, h.bl.2.2.2.2⟩, Kd.R_kept h.own hk (fun k h1 h2 => (h.od k h1).2.2.1 h2), fun k hk' => ⟨(h.od k hk').1, Nat.lt_of_lt_of_le (h.od k hk').2.1 hk.1, fun h2 => ?_, (h.od k hk').2.2.2⟩, h.eC, h.ec⟩
  · rcases hk'.1 with h1 | h1
    · exact (h.d1 k h1).1
    · omega
  · rcases hk'.1 with h1 | h1
    · exact (h.d1 k h1).2.2 h2
    · have := (h.d2 k h2).2; omega
  · rcases hb'.1 with h1 | h1
    · exact h.bl.2.2.1 h1
    · have := h.bl.2.1; omega
  · rcases h2.1 with h1 | h1
    · exact (h.od k hk').2.2.1 h1
    · have := (h.od k hk').2.1; omega
theorem Mid.step2 (h : Mid w W g1 g2 b ok1 ok2 okO a t es1 es2 y Ae ce vO m1 m2) (hl : LogX W2 (fun k => ok2 k ∨ W.heap.size ≤ k) g2 a t es') (hk : Kept W W2 ok2) (hb : Below 0 W W2) (hn : Nums a es' m') : Mid w W2 g1 g2 b ok1 (fun k => (ok2 k ∨ W.heap.size ≤ k) ∧ k < W2.heap.size) okO a t es1 es' y Ae ce vO m1 m' := by
  have hs := h.be.size
  have hz := hk.1
  refine ⟨h.l1.kept hk (fun k h1 h2 => (h.d1 k h1).2.2 h2), hl.bound, fun k hk' => ⟨(h.d1 k hk').1, Nat.lt_of_lt_of_le (h.d1 k hk').2.1 hz, fun h2 => ?_⟩, fun k hk' => ⟨?_, hk'.2⟩, h.n1, hn, below_kept h.be hk hb (fun k h1 => (h.d2 k h1).1), (hk.2 b h.bl.2.1 h.bl.2.2.2.1).trans h.box, ⟨h.bl.1, Nat.lt_of_lt_of_le h.bl.2.1 hk.1, h.bl.2.2.1, fun hb' => ?_, h.bl.2.2.2.2⟩, Kd.R_kept h.own hk (fun k h1 h2 => (h.od k h1).2.2.2 h2), fun k hk' => ⟨(h.od k hk').1, Nat.lt_of_lt_of_le (h.od k hk').2.1 hk.1, (h.od k hk').2.2.1, fun h2 => ?_⟩, h.eC, h.ec⟩
  · rcases h2.1 with h3 | h3
    · exact (h.d1 k hk').2.2 h3
    · have := (h.d1 k hk').2.1; omega
  · rcases hk'.1 with h1 | h1
    · exact (h.d2 k h1).1
    · omega
  · rcases hb'.1 with h1 | h1
    · exact h.bl.2.2.2.1 h1
    · have := h.bl.2.1; omega
  · rcases h2.1 with h1 | h1
    · exact (h.od k hk').2.2.2 h1
    · have := (h.od k hk').2.1; omega
theorem Mid.both {N : Nat} {a' t' : Int} (h : Mid w W g1 g2 b ok1 ok2 okO a t es1 es2 y Ae ce vO m1 m2) (hN1 : W.heap.size ≤ N) (hN2 : N ≤ W2.heap.size) (l1 : Log W2 (fun k => (ok1 k ∨ W.heap.size ≤ k) ∧ k < N) g1 a' t' es') (l2 : LogX W2 (fun k => ok2 k ∨ N ≤ k) g2 a' t' es') (hk : Kept W W2 (fun k => ok1 k ∨ ok2 k)) (hb : Below 0 W W2) (hn : Nums a' es' m') :
    Mid w W2 g1 g2 b (fun k => (ok1 k ∨ W.heap.size ≤ k) ∧ k < N) (fun k => (ok2 k ∨ N ≤ k) ∧ k < W2.heap.size) okO a' t' es' es' y Ae ce vO m' m' := by
  have hs := h.be.size
  have hz := hk.1
  refine ⟨l1, l2.bound, fun k hk' => ⟨?_, by omega, fun h2 => ?_⟩, fun k hk' => ⟨?_, hk'.2⟩, hn, hn, below_kept h.be hk hb (fun k h1 => h1.elim (fun h1 => (h.d1 k h1).1) (fun h1 => (h.d2 k h1).1)), (hk.2 b h.bl.2.1 (fun h1 => h1.elim h.bl.2.2.1 h.bl.2.2.2.1)).trans h.box, ⟨h.bl.1, Nat.lt_of_lt_of_le h.bl.2.1 hk.1, fun hb' => ?_, fun hb' => ?_, h.bl.2.2.2.2⟩, Kd.R_kept h.own hk (fun k h1 h2 => h2.elim (h.od k h1).2.2.1 (h.od k h1).2.2.2), fun k hk' => ⟨(h.od k hk').1, Nat.lt_of_lt_of_le (h.od k hk').2.1 hk.1, fun h2 => ?_, fun h2 => ?_⟩, h.eC, h.ec⟩
  · rcases hk'.1 with h1 | h1
    · exact (h.d1 k h1).1
    · omega
  · rcases hk'.1 with h1 | h1
    · rcases h2.1 with h3 | h3
      · exact (h.d1 k h1).2.2 h3
      · have := (h.d1 k h1).2.1; omega
    · rcases h2.1 with h3 | h3
      · have := (h.d2 k h3).2; omega
      · omega
  · rcases hk'.1 with h1 | h1
    · exact (h.d2 k h1).1
    · omega
  · rcases hb'.1 with h1 | h1
    · exact h.bl.2.2.1 h1
    · have := h.bl.2.1; omega
  · rcases hb'.1 with h1 | h1
    · exact h.bl.2.2.2.1 h1
    · have := h.bl.2.1; omega
  · rcases h2.1 with h1 | h1
    · exact (h.od k hk').2.2.1 h1
    · have := (h.od k hk').2.1; omega
  · rcases h2.1 with h1 | h1
    · exact (h.od k hk').2.2.2 h1
    · have := (h.od k hk').2.1; omega
theorem Mid.dis (h : Mid w W g1 g2 b ok1 ok2 okO a t es1 es2 y Ae ce vO m1 m2) (hm : m2 ≤ 40) (hy : okAct y) (h100 : y.f4.length ≤ 100) (hat : y.f1 ≤ 1152921504606846976) :
    (∀ k, ok1 k → k < W.heap.size ∧ ¬ ok2 k ∧ k ≠ b) ∧ (∀ k, ok2 k → k < W.heap.size ∧ k ≠ b) ∧ b < W.heap.size ∧ 0 ≤ a ∧ a + es2.length ≤ 2305843009213693952 ∧ es2.length ≤ 4000 ∧ y.f4.length ≤ 100 ∧ y.f1 ≤ 2305843009213693952 ∧ (∀ x ∈ es2, okE x) ∧ (∀ x ∈ y.f4, okE x) :=
  ⟨fun k hk => ⟨(h.d1 k hk).2.1, (h.d1 k hk).2.2, fun e => h.bl.2.2.1 (e ▸ hk)⟩, fun k hk => ⟨(h.d2 k hk).2, fun e => h.bl.2.2.2.1 (e ▸ hk)⟩, h.bl.2.1, h.n2.lo, by have := h.n2.hi; have := h.n2.len; omega, by have := h.n2.len; omega, h100, by omega, h.n2.oe, hy.2.1⟩
theorem Mid.spoilt (h : Mid w W g1 g2 b ok1 ok2 okO a t es1 es1 y Ae ce vO m1 m2) (hk : Kept W W2 okO) (hb : Below 0 W W2) : Two w W2 g1 g2 ok1 ok2 a t es1 m1 ∧ W2.heap[b]? = some (Obj.cells #[.int .i64 y.f0, .int .i64 y.f1, .int .i64 y.f2, .int .i64 y.f3, .slice Ae y.f4.length ce] 49) ∧ b < W2.heap.size :=
  ⟨⟨h.l1.kept hk (fun k h1 h2 => (h.od k h2).2.2.1 h1), h.l2.kept hk (fun k h1 h2 => (h.od k h2).2.2.2 h1), fun k h1 => ⟨(h.d1 k h1).1, Nat.lt_of_lt_of_le (h.d1 k h1).2.1 hk.1, (h.d1 k h1).2.2⟩, fun k h2 => ⟨(h.d2 k h2).1, Nat.lt_of_lt_of_le (h.d2 k h2).2 hk.1⟩, h.n1, below_kept h.be hk hb (fun k h1 => (h.od k h1).1)⟩, (hk.2 b h.bl.2.1 h.bl.2.2.2.2).trans h.box, Nat.lt_of_lt_of_le h.bl.2.1 hk.1⟩
theorem Mid.start {W1 : World} {es : List S60} (h : Two w W g1 g2 ok1 ok2 a t es m1) (hC : Kd.C k60 w Ae y.f4.length y.f4) (hc : y.f4.length ≤ ce) (h1 : W1 = W.alloc (Obj.cells #[.int .i64 y.f0, .int .i64 y.f1, .int .i64 y.f2, .int .i64 y.f3, .slice Ae y.f4.length ce] 49)) (hb : b = W.heap.size) (hR : Kd.R k60 60 W2 W1.heap.size (fun _ => True) vO y.f4) (hB : Below W1.heap.size W1 W2) :
    Mid w W2 g1 g2 b ok1 ok2 (fun k => W1.heap.size ≤ k ∧ k < W2.heap.size) a t es es y Ae ce vO m1 m1 := by
  have hs1 : W1.heap.size = W.heap.size + 1 := by rw [h1]; show (W.heap.push _).size = _; rw [Array.size_push]
  have hbx := below_alloc (Below.refl W.heap.size W) (Obj.cells #[.int .i64 y.f0, .int .i64 y.f1, .int .i64 y.f2, .int .i64 y.f3, .slice Ae y.f4.length ce] 49)
  rw [← h1] at hbx
  have hnew := heap_alloc_new W (Obj.cells #[.int .i64 y.f0, .int .i64 y.f1, .int .i64 y.f2, .int .i64 y.f3, .slice Ae y.f4.length ce] 49)
  rw [← h1] at hnew
  have hs := h.be.size
  have hz := hB.size
  have h2 := (h.below hbx).below hB
  refine ⟨h2.l1, h2.l2, h2.d1, h2.d2, h.nm, h.nm, h2.be, (hB.block b (by omega)).trans (by rw [hb]; exact hnew), ⟨by omega, by omega, fun hk => by have := (h.d1 _ hk).2.1; omega, fun hk => by have := (h.d2 _ hk).2; omega, fun hk => by omega⟩, Kd.R_lower (Kd.R_mono (Kd.R_bound hR) (fun k hk => ⟨hk.2.1, hk.2.2.1⟩)) (Nat.zero_le _), fun k hk => ⟨by omega, hk.2, fun h1 => by have := (h.d1 _ h1).2.1; omega, fun h1 => by have := (h.d2 _ h1).2; omega⟩, hC, hc⟩
end

def dstN9 (i : Nat) : Option Nat := ([some 185, some 186, some 187, some 188, some 189, some 190, some 191, some 192, some 193, some 194, some 195, some 196, some 197, some 198, some 199, some 200, some 201, some 202, some 203, some 204, some 205] : List (Option Nat)).getD i none
def ndN9 : List (List Nat) := [[], [], [], [2], [0, 1, 3], [4], [5, 4], [6], [6], [8, 6], [6], [10, 6], [7, 9, 11, 6, 6], [6], [6], [14, 6], [6], [16, 6], [13, 15, 17, 12, 6], [12, 18, 6], [6, 19]]
def usN9 : List (List Nat) := [[], [], [], [2], [0, 1, 3], [4], [5], [6], [6], [6, 8], [6], [6, 10], [6, 7, 9, 11], [6], [6], [6, 14], [6], [6, 16], [6, 13, 15, 17], [6, 12, 18], [6, 19]]
def ncN9 : List (List Nat) := [[], [], [], [2], [0, 1, 2, 3], [0, 1, 2, 3, 4], [0, 1, 2, 3, 4, 5], [0, 1, 2, 3, 4, 5, 6], [0, 1, 2, 3, 4, 5, 6], [0, 1, 2, 3, 4, 5, 6, 8], [0, 1, 2, 3, 4, 5, 6], [0, 1, 2, 3, 4, 5, 6, 10], [0, 1, 2, 3, 4, 5, 6, 7, 8, 9, 10, 11], [0, 1, 2, 3, 4, 5, 6], [0, 1, 2, 3, 4, 5, 6], [0, 1, 2, 3, 4, 5, 6, 14], [0, 1, 2, 3, 4, 5, 6], [0, 1, 2, 3, 4, 5, 6, 16], [0, 1, 2, 3, 4, 5, 6, 7, 8, 9, 10, 11, 12, 13, 14, 15, 16, 17], [0, 1, 2, 3, 4, 5, 6, 7, 8, 9, 10, 11, 12, 13, 14, 15, 16, 17, 18], [0, 1, 2, 3, 4, 5, 6, 7, 8, 9, 10, 11, 12, 13, 14, 15, 16, 17, 18, 19]]
def killN9 (h j : Nat) : Bool := (false)
def killIN9 (h j : Nat) : Bool := (false)
def useIN9 (h j : Nat) : Bool := ((h == 3 && [0].contains j) || (h == 4 && [0].contains j) || (h == 9 && [0].contains j) || (h == 11 && [0].contains j) || (h == 12 && [0].contains j) || (h == 15 && [0].contains j) || (h == 17 && [0].contains j) || (h == 18 && [0].contains j))
def IN9 (w0 : World) (ok1 ok2 : Nat → Prop) (g1 g2 b : Nat) (bs t : Int) (es : List S60) (y : S49) (Ae : Option Addr) (ce : Nat) (m : Nat) (hnm : Nums bs es m) (hm40 : m ≤ 40) : Nat → World → Prop
  | 0, w => w.heap[b]? = some (.cells #[.int .i64 y.f0, .int .i64 y.f1, .int .i64 y.f2, .int .i64 y.f3, .slice Ae y.f4.length ce] 49 (0, 0)) ∧ Log w ok1 g1 bs t es ∧ LogX w ok2 g2 bs t es ∧ Below w0.heap.size w0 w
  | _, _ => True
def FN9 (w0 : World) (ok1 ok2 : Nat → Prop) (g1 g2 b : Nat) (bs t : Int) (es : List S60) (y : S49) (Ae : Option Addr) (ce : Nat) (m : Nat) (hnm : Nums bs es m) (hm40 : m ≤ 40) : Nat → Value → World → Prop
  | 0, v, w => v = .pointer (some ⟨g1, 0, none⟩)
  | 1, v, w => v = .pointer (some ⟨g2, 0, none⟩)
  | 2, v, w => v = .pointer (some ⟨b, 1, none⟩)
  | 3, v, w => v = .int .i64 y.f1
  | 4, v, w => v = .bool true
  | 5, v, w => v = .bool false
  | 6, v, w => v = .bool false
  | 7, v, w => v = .pointer (some ⟨g1, 0, none⟩)
  | 8, v, w => v = .pointer (some ⟨b, 1, none⟩)
  | 9, v, w => v = .int .i64 y.f1
  | 10, v, w => v = .pointer (some ⟨b, 2, none⟩)
  | 11, v, w => v = .int .i64 y.f2
  | 12, v, w => v = .bool (decide (y.f2 > (termAt bs t es (bs + es.length)).1) || (decide (y.f2 = (termAt bs t es (bs + es.length)).1) && decide (y.f1 ≥ bs + es.length)))
  | 13, v, w => v = .pointer (some ⟨g2, 0, none⟩)
  | 14, v, w => v = .pointer (some ⟨b, 1, none⟩)
  | 15, v, w => v = .int .i64 y.f1
  | 16, v, w => v = .pointer (some ⟨b, 2, none⟩)
  | 17, v, w => v = .int .i64 y.f2
  | 18, v, w => v = .bool (decide (y.f2 > (termAt bs t es (bs + es.length)).1) || (decide (y.f2 = (termAt bs t es (bs + es.length)).1) && decide (y.f1 ≥ bs + es.length)))
  | 19, v, w => v = .bool false
  | 20, v, w => v = .bool false
  | _, _, _ => True
def StN9 (i_ : Nat) : Prop := ∀ (ops : Array Oper) (Q : Exit → Act → World → Prop) (hops : ops = opsOf Try.f6 34) (w0 : World) (ok1 ok2 : Nat → Prop) (g1 g2 b : Nat) (bs t : Int) (es : List S60) (y : S49) (Ae : Option Addr) (ce : Nat) (m : Nat) (hnm : Nums bs es m) (hm40 : m ≤ 40) (a : Act) (w : World) (h5 : a.tmps[5]?.getD undef = .pointer (some ⟨g1, 0, none⟩)) (h6 : a.tmps[6]?.getD undef = .pointer (some ⟨g2, 0, none⟩)) (h8 : a.tmps[8]?.getD undef = .pointer (some ⟨b, 0, none⟩))
    (hN : ∀ j, j ∈ usN9.getD i_ [] → FN9 w0 ok1 ok2 g1 g2 b bs t es y Ae ce m hnm hm40 j (slotO dstN9 a j) w) (hI : ∀ c, c < 1 → useIN9 i_ c = true → IN9 w0 ok1 ok2 g1 g2 b bs t es y Ae ce m hnm hm40 c w), wpOp Try.prog ops Q i_ (fun a' w' => ∃ v, a' = a.put (dstN9 i_) v ∧ FN9 w0 ok1 ok2 g1 g2 b bs t es y Ae ce m hnm hm40 i_ (valO dstN9 i_ v) w' ∧ (Below w.heap.size w w' ∨ ((∀ j u, j < 21 → j ≠ i_ → killN9 i_ j = false → (ncN9.getD j []).contains i_ = false → FN9 w0 ok1 ok2 g1 g2 b bs t es y Ae ce m hnm hm40 j u w → FN9 w0 ok1 ok2 g1 g2 b bs t es y Ae ce m hnm hm40 j u w') ∧ (∀ c, c < 1 → killIN9 i_ c = false → IN9 w0 ok1 ok2 g1 g2 b bs t es y Ae ce m hnm hm40 c w → IN9 w0 ok1 ok2 g1 g2 b bs t es y Ae ce m hnm hm40 c w')))) a w
theorem sN9_0 : StN9 0 := by
  intro ops Q hops w0 ok1 ok2 g1 g2 b bs t es y Ae ce m hnm hm40 a w h5 h6 h8 hN hI
  subst hops
  have ho : (opsOf Try.f6 34)[0]? = some (⟨some 185, .move (.tmp 5), 24, "law.go:126", #[], none⟩ : Oper) := by kernel_rfl
  refine wpOp_plain ho rfl ?_
  clear hN hI ho
  go_simp
  first | exact ⟨_, rfl, rfl⟩ | exact ⟨_, rfl, rfl, .inl (Below.refl _ _)⟩
theorem sN9_1 : StN9 1 := by
  intro ops Q hops w0 ok1 ok2 g1 g2 b bs t es y Ae ce m hnm hm40 a w h5 h6 h8 hN hI
  subst hops
  have ho : (opsOf Try.f6 34)[1]? = some (⟨some 186, .move (.tmp 6), 45, "law.go:126", #[], none⟩ : Oper) := by kernel_rfl
  refine wpOp_plain ho rfl ?_
  clear hN hI ho
  go_simp
  first | exact ⟨_, rfl, rfl⟩ | exact ⟨_, rfl, rfl, .inl (Below.refl _ _)⟩
theorem sN9_2 : StN9 2 := by
  intro ops Q hops w0 ok1 ok2 g1 g2 b bs t es y Ae ce m hnm hm40 a w h5 h6 h8 hN hI
  subst hops
  have ho : (opsOf Try.f6 34)[2]? = some (⟨some 187, .fieldAddr 49 (.tmp 8) 1, 0, "law.go:126", #[], none⟩ : Oper) := by kernel_rfl
  refine wpOp_plain ho rfl ?_
  clear hN hI ho
  go_simp
  first | exact ⟨_, rfl, rfl⟩ | exact ⟨_, rfl, rfl, .inl (Below.refl _ _)⟩
theorem sN9_3 : StN9 3 := by
  intro ops Q hops w0 ok1 ok2 g1 g2 b bs t es y Ae ce m hnm hm40 a w h5 h6 h8 hN hI
  subst hops
  have n2 : a.tmps[187]?.getD undef = .pointer (some ⟨b, 1, none⟩) := hN 2 (by decide)
  have hi0 : (fun (w : World) => w.heap[b]? = some (.cells #[.int .i64 y.f0, .int .i64 y.f1, .int .i64 y.f2, .int .i64 y.f3, .slice Ae y.f4.length ce] 49 (0, 0)) ∧ Log w ok1 g1 bs t es ∧ LogX w ok2 g2 bs t es ∧ Below w0.heap.size w0 w) w := hI 0 (by decide) (by decide)
  have ho : (opsOf Try.f6 34)[3]? = some (⟨some 188, .load 3 (.tmp 187), 3, "law.go:126", #[⟨2, .data⟩], none⟩ : Oper) := by kernel_rfl
  refine wpOp_plain ho rfl ?_
  clear hN hI ho
  have hc : w.cell? ⟨b, 1, none⟩ = some (.int .i64 y.f1) := by
    have hb := hi0.1
    simp [World.cell?, hb]
  clear hi0
  go_simp
  first | exact ⟨_, rfl, rfl⟩ | exact ⟨_, rfl, rfl, .inl (Below.refl _ _)⟩
theorem sN9_4 : StN9 4 := by
  intro ops Q hops w0 ok1 ok2 g1 g2 b bs t es y Ae ce m hnm hm40 a w h5 h6 h8 hN hI
  subst hops
  have n0 : a.tmps[185]?.getD undef = .pointer (some ⟨g1, 0, none⟩) := hN 0 (by decide)
  have n1 : a.tmps[186]?.getD undef = .pointer (some ⟨g2, 0, none⟩) := hN 1 (by decide)
  have n3 : a.tmps[188]?.getD undef = .int .i64 y.f1 := hN 3 (by decide)
  have hi0 : (fun (w : World) => w.heap[b]? = some (.cells #[.int .i64 y.f0, .int .i64 y.f1, .int .i64 y.f2, .int .i64 y.f3, .slice Ae y.f4.length ce] 49 (0, 0)) ∧ Log w ok1 g1 bs t es ∧ LogX w ok2 g2 bs t es ∧ Below w0.heap.size w0 w) w := hI 0 (by decide) (by decide)
  have ho : (opsOf Try.f6 34)[4]? = some (⟨some 189, .call { callee := .value (.func 26), args := #[.tmp 185, .tmp 186, .tmp 188], argTypes := #[24, 45, 3] }, 4, "law.go:126", #[⟨0, .data⟩, ⟨1, .data⟩, ⟨3, .data⟩], none⟩ : Oper) := by kernel_rfl
  refine wpOp_plain ho rfl ?_
  clear hN hI ho
  have HH := Aside0.mk (same_log hi0.2.1 hi0.2.2.1 hnm.lo (by have := hnm.hi; have := hnm.len; omega) hnm.oe hnm.os (by have := hnm.len; omega) y.f1)
  clear hi0
  go_simp
  refine HH.out.mono ?_
  rintro e w' ⟨rfl, hb⟩
  exact ⟨_, rfl, rfl, .inl hb⟩
theorem sN9_5 : StN9 5 := by
  intro ops Q hops w0 ok1 ok2 g1 g2 b bs t es y Ae ce m hnm hm40 a w h5 h6 h8 hN hI
  subst hops
  have n4 : a.tmps[189]?.getD undef = .bool true := hN 4 (by decide)
  have ho : (opsOf Try.f6 34)[5]? = some (⟨some 190, .unOp .not 4 (.tmp 189), 4, "law.go:126", #[⟨4, .data⟩], none⟩ : Oper) := by kernel_rfl
  refine wpOp_plain ho rfl ?_
  clear hN hI ho
  go_simp
  first | exact ⟨_, rfl, rfl⟩ | exact ⟨_, rfl, rfl, .inl (Below.refl _ _)⟩
theorem sN9_6 : StN9 6 := by
  intro ops Q hops w0 ok1 ok2 g1 g2 b bs t es y Ae ce m hnm hm40 a w h5 h6 h8 hN hI
  subst hops
  have n5 : a.tmps[190]?.getD undef = .bool false := hN 5 (by decide)
  have ho : (opsOf Try.f6 34)[6]? = some (⟨some 191, .move (.tmp 190), 4, "law.go:126", #[⟨5, .data⟩, ⟨4, .chain⟩], none⟩ : Oper) := by kernel_rfl
  refine wpOp_plain ho rfl ?_
  clear hN hI ho
  go_simp
  first | exact ⟨_, rfl, rfl⟩ | exact ⟨_, rfl, rfl, .inl (Below.refl _ _)⟩
theorem sN9_7 : StN9 7 := by
  intro ops Q hops w0 ok1 ok2 g1 g2 b bs t es y Ae ce m hnm hm40 a w h5 h6 h8 hN hI
  subst hops
  have n6 : a.tmps[191]?.getD undef = .bool false := hN 6 (by decide)
  have ho : (opsOf Try.f6 34)[7]? = some (⟨some 192, .move (.tmp 5), 24, "law.go:126", #[⟨6, .guard⟩], some (6, false)⟩ : Oper) := by kernel_rfl
  refine wpOp_guarded (d := 191) ho rfl rfl n6 ?_
  clear hN hI ho
  go_simp
  first | exact ⟨_, rfl, rfl⟩ | exact ⟨_, rfl, rfl, .inl (Below.refl _ _)⟩
theorem sN9_8 : StN9 8 := by
  intro ops Q hops w0 ok1 ok2 g1 g2 b bs t es y Ae ce m hnm hm40 a w h5 h6 h8 hN hI
  subst hops
  have n6 : a.tmps[191]?.getD undef = .bool false := hN 6 (by decide)
  have ho : (opsOf Try.f6 34)[8]? = some (⟨some 193, .fieldAddr 49 (.tmp 8) 1, 0, "law.go:126", #[⟨6, .guard⟩], some (6, false)⟩ : Oper) := by kernel_rfl
  refine wpOp_guarded (d := 191) ho rfl rfl n6 ?_
  clear hN hI ho
  go_simp
  first | exact ⟨_, rfl, rfl⟩ | exact ⟨_, rfl, rfl, .inl (Below.refl _ _)⟩
theorem sN9_9 : StN9 9 := by
  intro ops Q hops w0 ok1 ok2 g1 g2 b bs t es y Ae ce m hnm hm40 a w h5 h6 h8 hN hI
  subst hops
  have n6 : a.tmps[191]?.getD undef = .bool false := hN 6 (by decide)
  have n8 : a.tmps[193]?.getD undef = .pointer (some ⟨b, 1, none⟩) := hN 8 (by decide)
  have hi0 : (fun (w : World) => w.heap[b]? = some (.cells #[.int .i64 y.f0, .int .i64 y.f1, .int .i64 y.f2, .int .i64 y.f3, .slice Ae y.f4.length ce] 49 (0, 0)) ∧ Log w ok1 g1 bs t es ∧ LogX w ok2 g2 bs t es ∧ Below w0.heap.size w0 w) w := hI 0 (by decide) (by decide)
  have ho : (opsOf Try.f6 34)[9]? = some (⟨some 194, .load 3 (.tmp 193), 3, "law.go:126", #[⟨8, .data⟩, ⟨6, .guard⟩], some (6, false)⟩ : Oper) := by kernel_rfl
  refine wpOp_guarded (d := 191) ho rfl rfl n6 ?_
  clear hN hI ho
  have hc : w.cell? ⟨b, 1, none⟩ = some (.int .i64 y.f1) := by
    have hb := hi0.1
    simp [World.cell?, hb]
  clear hi0
  go_simp
  first | exact ⟨_, rfl, rfl⟩ | exact ⟨_, rfl, rfl, .inl (Below.refl _ _)⟩
theorem sN9_10 : StN9 10 := by
  intro ops Q hops w0 ok1 ok2 g1 g2 b bs t es y Ae ce m hnm hm40 a w h5 h6 h8 hN hI
  subst hops
  have n6 : a.tmps[191]?.getD undef = .bool false := hN 6 (by decide)
  have ho : (opsOf Try.f6 34)[10]? = some (⟨some 195, .fieldAddr 49 (.tmp 8) 2, 0, "law.go:126", #[⟨6, .guard⟩], some (6, false)⟩ : Oper) := by kernel_rfl
  refine wpOp_guarded (d := 191) ho rfl rfl n6 ?_
  clear hN hI ho
  go_simp
  first | exact ⟨_, rfl, rfl⟩ | exact ⟨_, rfl, rfl, .inl (Below.refl _ _)⟩
theorem sN9_11 : StN9 11 := by
  intro ops Q hops w0 ok1 ok2 g1 g2 b bs t es y Ae ce m hnm hm40 a w h5 h6 h8 hN hI
  subst hops
  have n6 : a.tmps[191]?.getD undef = .bool false := hN 6 (by decide)
  have n10 : a.tmps[195]?.getD undef = .pointer (some ⟨b, 2, none⟩) := hN 10 (by decide)
  have hi0 : (fun (w : World) => w.heap[b]? = some (.cells #[.int .i64 y.f0, .int .i64 y.f1, .int .i64 y.f2, .int .i64 y.f3, .slice Ae y.f4.length ce] 49 (0, 0)) ∧ Log w ok1 g1 bs t es ∧ LogX w ok2 g2 bs t es ∧ Below w0.heap.size w0 w) w := hI 0 (by decide) (by decide)
  have ho : (opsOf Try.f6 34)[11]? = some (⟨some 196, .load 3 (.tmp 195), 3, "law.go:126", #[⟨10, .data⟩, ⟨6, .guard⟩], some (6, false)⟩ : Oper) := by kernel_rfl
  refine wpOp_guarded (d := 191) ho rfl rfl n6 ?_
  clear hN hI ho
  have hc : w.cell? ⟨b, 2, none⟩ = some (.int .i64 y.f2) := by
    have hb := hi0.1
    simp [World.cell?, hb]
  clear hi0
  go_simp
  first | exact ⟨_, rfl, rfl⟩ | exact ⟨_, rfl, rfl, .inl (Below.refl _ _)⟩
theorem sN9_12 : StN9 12 := by
  intro ops Q hops w0 ok1 ok2 g1 g2 b bs t es y Ae ce m hnm hm40 a w h5 h6 h8 hN hI
  subst hops
  have n6 : a.tmps[191]?.getD undef = .bool false := hN 6 (by decide)
  have n7 : a.tmps[192]?.getD undef = .pointer (some ⟨g1, 0, none⟩) := hN 7 (by decide)
  have n9 : a.tmps[194]?.getD undef = .int .i64 y.f1 := hN 9 (by decide)
  have n11 : a.tmps[196]?.getD undef = .int .i64 y.f2 := hN 11 (by decide)
  have hi0 : (fun (w : World) => w.heap[b]? = some (.cells #[.int .i64 y.f0, .int .i64 y.f1, .int .i64 y.f2, .int .i64 y.f3, .slice Ae y.f4.length ce] 49 (0, 0)) ∧ Log w ok1 g1 bs t es ∧ LogX w ok2 g2 bs t es ∧ Below w0.heap.size w0 w) w := hI 0 (by decide) (by decide)
  have ho : (opsOf Try.f6 34)[12]? = some (⟨some 197, .call { callee := .value (.func 11), args := #[.tmp 192, .tmp 194, .tmp 196], argTypes := #[24, 3, 3] }, 4, "law.go:126", #[⟨7, .data⟩, ⟨9, .data⟩, ⟨11, .data⟩, ⟨6, .chain⟩, ⟨6, .guard⟩], some (6, false)⟩ : Oper) := by kernel_rfl
  refine wpOp_guarded (d := 191) ho rfl rfl n6 ?_
  clear hN hI ho
  have HH := Aside0.mk (newer_calls hi0.2.1 hnm.lo (by have := hnm.hi; have := hnm.len; omega) y.f1 y.f2)
  clear hi0
  generalize hnw : (decide (y.f2 > (termAt bs t es (bs + es.length)).1) || (decide (y.f2 = (termAt bs t es (bs + es.length)).1) && decide (y.f1 ≥ bs + es.length))) = nw at HH
  go_simp
  refine HH.out.mono ?_
  rintro e w' ⟨rfl, m, rfl⟩
  exact ⟨_, rfl, congrArg Value.bool hnw.symm, .inl (pw_below_drewN (Below.refl _ _) m)⟩
theorem sN9_13 : StN9 13 := by
  intro ops Q hops w0 ok1 ok2 g1 g2 b bs t es y Ae ce m hnm hm40 a w h5 h6 h8 hN hI
  subst hops
  have n6 : a.tmps[191]?.getD undef = .bool false := hN 6 (by decide)
  have ho : (opsOf Try.f6 34)[13]? = some (⟨some 198, .move (.tmp 6), 45, "law.go:126", #[⟨6, .guard⟩], some (6, false)⟩ : Oper) := by kernel_rfl
  refine wpOp_guarded (d := 191) ho rfl rfl n6 ?_
  clear hN hI ho
  go_simp
  first | exact ⟨_, rfl, rfl⟩ | exact ⟨_, rfl, rfl, .inl (Below.refl _ _)⟩
theorem sN9_14 : StN9 14 := by
  intro ops Q hops w0 ok1 ok2 g1 g2 b bs t es y Ae ce m hnm hm40 a w h5 h6 h8 hN hI
  subst hops
  have n6 : a.tmps[191]?.getD undef = .bool false := hN 6 (by decide)
  have ho : (opsOf Try.f6 34)[14]? = some (⟨some 199, .fieldAddr 49 (.tmp 8) 1, 0, "law.go:126", #[⟨6, .guard⟩], some (6, false)⟩ : Oper) := by kernel_rfl
  refine wpOp_guarded (d := 191) ho rfl rfl n6 ?_
  clear hN hI ho
  go_simp
  first | exact ⟨_, rfl, rfl⟩ | exact ⟨_, rfl, rfl, .inl (Below.refl _ _)⟩
theorem sN9_15 : StN9 15 := by
  intro ops Q hops w0 ok1 ok2 g1 g2 b bs t es y Ae ce m hnm hm40 a w h5 h6 h8 hN hI
  subst hops
  have n6 : a.tmps[191]?.getD undef = .bool false := hN 6 (by decide)
  have n14 : a.tmps[199]?.getD undef = .pointer (some ⟨b, 1, none⟩) := hN 14 (by decide)
  have hi0 : (fun (w : World) => w.heap[b]? = some (.cells #[.int .i64 y.f0, .int .i64 y.f1, .int .i64 y.f2, .int .i64 y.f3, .slice Ae y.f4.length ce] 49 (0, 0)) ∧ Log w ok1 g1 bs t es ∧ LogX w ok2 g2 bs t es ∧ Below w0.heap.size w0 w) w := hI 0 (by decide) (by decide)
  have ho : (opsOf Try.f6 34)[15]? = some (⟨some 200, .load 3 (.tmp 199), 3, "law.go:126", #[⟨14, .data⟩, ⟨6, .guard⟩], some (6, false)⟩ : Oper) := by kernel_rfl
  refine wpOp_guarded (d := 191) ho rfl rfl n6 ?_
  clear hN hI ho
  have hc : w.cell? ⟨b, 1, none⟩ = some (.int .i64 y.f1) := by
    have hb := hi0.1
    simp [World.cell?, hb]
  clear hi0
  go_simp
  first | exact ⟨_, rfl, rfl⟩ | exact ⟨_, rfl, rfl, .inl (Below.refl _ _)⟩
theorem sN9_16 : StN9 16 := by
  intro ops Q hops w0 ok1 ok2 g1 g2 b bs t es y Ae ce m hnm hm40 a w h5 h6 h8 hN hI
  subst hops
  have n6 : a.tmps[191]?.getD undef = .bool false := hN 6 (by decide)
  have ho : (opsOf Try.f6 34)[16]? = some (⟨some 201, .fieldAddr 49 (.tmp 8) 2, 0, "law.go:126", #[⟨6, .guard⟩], some (6, false)⟩ : Oper) := by kernel_rfl
  refine wpOp_guarded (d := 191) ho rfl rfl n6 ?_
  clear hN hI ho
  go_simp
  first | exact ⟨_, rfl, rfl⟩ | exact ⟨_, rfl, rfl, .inl (Below.refl _ _)⟩
theorem sN9_17 : StN9 17 := by
  intro ops Q hops w0 ok1 ok2 g1 g2 b bs t es y Ae ce m hnm hm40 a w h5 h6 h8 hN hI
  subst hops
  have n6 : a.tmps[191]?.getD undef = .bool false := hN 6 (by decide)
  have n16 : a.tmps[201]?.getD undef = .pointer (some ⟨b, 2, none⟩) := hN 16 (by decide)
  have hi0 : (fun (w : World) => w.heap[b]? = some (.cells #[.int .i64 y.f0, .int .i64 y.f1, .int .i64 y.f2, .int .i64 y.f3, .slice Ae y.f4.length ce] 49 (0, 0)) ∧ Log w ok1 g1 bs t es ∧ LogX w ok2 g2 bs t es ∧ Below w0.heap.size w0 w) w := hI 0 (by decide) (by decide)
  have ho : (opsOf Try.f6 34)[17]? = some (⟨some 202, .load 3 (.tmp 201), 3, "law.go:126", #[⟨16, .data⟩, ⟨6, .guard⟩], some (6, false)⟩ : Oper) := by kernel_rfl
  refine wpOp_guarded (d := 191) ho rfl rfl n6 ?_
  clear hN hI ho
  have hc : w.cell? ⟨b, 2, none⟩ = some (.int .i64 y.f2) := by
    have hb := hi0.1
    simp [World.cell?, hb]
  clear hi0
  go_simp
  first | exact ⟨_, rfl, rfl⟩ | exact ⟨_, rfl, rfl, .inl (Below.refl _ _)⟩
theorem sN9_18 : StN9 18 := by
  intro ops Q hops w0 ok1 ok2 g1 g2 b bs t es y Ae ce m hnm hm40 a w h5 h6 h8 hN hI
  subst hops
  have n6 : a.tmps[191]?.getD undef = .bool false := hN 6 (by decide)
  have n13 : a.tmps[198]?.getD undef = .pointer (some ⟨g2, 0, none⟩) := hN 13 (by decide)
  have n15 : a.tmps[200]?.getD undef = .int .i64 y.f1 := hN 15 (by decide)
  have n17 : a.tmps[202]?.getD undef = .int .i64 y.f2 := hN 17 (by decide)
  have hi0 : (fun (w : World) => w.heap[b]? = some (.cells #[.int .i64 y.f0, .int .i64 y.f1, .int .i64 y.f2, .int .i64 y.f3, .slice Ae y.f4.length ce] 49 (0, 0)) ∧ Log w ok1 g1 bs t es ∧ LogX w ok2 g2 bs t es ∧ Below w0.heap.size w0 w) w := hI 0 (by decide) (by decide)
  have ho : (opsOf Try.f6 34)[18]? = some (⟨some 203, .call { callee := .value (.func 27), args := #[.tmp 198, .tmp 200, .tmp 202], argTypes := #[45, 3, 3] }, 4, "law.go:126", #[⟨13, .data⟩, ⟨15, .data⟩, ⟨17, .data⟩, ⟨12, .chain⟩, ⟨6, .guard⟩], some (6, false)⟩ : Oper) := by kernel_rfl
  refine wpOp_guarded (d := 191) ho rfl rfl n6 ?_
  clear hN hI ho
  have HH := Aside0.mk (newer_x hi0.2.2.1 hnm.lo (by have := hnm.hi; have := hnm.len; omega) y.f1 y.f2)
  clear hi0
  generalize hnw : (decide (y.f2 > (termAt bs t es (bs + es.length)).1) || (decide (y.f2 = (termAt bs t es (bs + es.length)).1) && decide (y.f1 ≥ bs + es.length))) = nw at HH
  go_simp
  refine HH.out.mono ?_
  rintro e w' ⟨rfl, m, rfl⟩
  exact ⟨_, rfl, congrArg Value.bool hnw.symm, .inl (pw_below_drewN (Below.refl _ _) m)⟩
theorem sN9_19 : StN9 19 := by
  intro ops Q hops w0 ok1 ok2 g1 g2 b bs t es y Ae ce m hnm hm40 a w h5 h6 h8 hN hI
  subst hops
  have n6 : a.tmps[191]?.getD undef = .bool false := hN 6 (by decide)
  have n12 : a.tmps[197]?.getD undef = .bool (decide (y.f2 > (termAt bs t es (bs + es.length)).1) || (decide (y.f2 = (termAt bs t es (bs + es.length)).1) && decide (y.f1 ≥ bs + es.length))) := hN 12 (by decide)
  have n18 : a.tmps[203]?.getD undef = .bool (decide (y.f2 > (termAt bs t es (bs + es.length)).1) || (decide (y.f2 = (termAt bs t es (bs + es.length)).1) && decide (y.f1 ≥ bs + es.length))) := hN 18 (by decide)
  have ho : (opsOf Try.f6 34)[19]? = some (⟨some 204, .binOp .neq 4 (.tmp 197) (.tmp 203) 4, 4, "law.go:126", #[⟨12, .data⟩, ⟨18, .data⟩, ⟨6, .guard⟩], some (6, false)⟩ : Oper) := by kernel_rfl
  refine wpOp_guarded (d := 191) ho rfl rfl n6 ?_
  clear hN hI ho
  generalize (decide (y.f2 > (termAt bs t es (bs + es.length)).1) || (decide (y.f2 = (termAt bs t es (bs + es.length)).1) && decide (y.f1 ≥ bs + es.length))) = nw at *
  go_simp
  cases nw <;> first | exact ⟨_, rfl, rfl⟩ | exact ⟨_, rfl, rfl, .inl (Below.refl _ _)⟩
theorem sN9_20 : StN9 20 := by
  intro ops Q hops w0 ok1 ok2 g1 g2 b bs t es y Ae ce m hnm hm40 a w h5 h6 h8 hN hI
  subst hops
  have n6 : a.tmps[191]?.getD undef = .bool false := hN 6 (by decide)
  have n19 : a.tmps[204]?.getD undef = .bool false := hN 19 (by decide)
  have ho : (opsOf Try.f6 34)[20]? = some (⟨some 205, .pick (.tmp 191) (.const (Value.bool true)) (.tmp 204), 4, "law.go:126", #[⟨6, .data⟩, ⟨19, .data⟩], none⟩ : Oper) := by kernel_rfl
  refine wpOp_plain ho rfl ?_
  clear hN hI ho
  go_simp
  first | exact ⟨_, rfl, rfl⟩ | exact ⟨_, rfl, rfl, .inl (Below.refl _ _)⟩
theorem monoN9 (w0 : World) (ok1 ok2 : Nat → Prop) (g1 g2 b : Nat) (bs t : Int) (es : List S60) (y : S49) (Ae : Option Addr) (ce : Nat) (m : Nat) (hnm : Nums bs es m) (hm40 : m ≤ 40) (j : Nat) (v : Value) (w w' : World) (h : FN9 w0 ok1 ok2 g1 g2 b bs t es y Ae ce m hnm hm40 j v w) (hb : Below w.heap.size w w') : FN9 w0 ok1 ok2 g1 g2 b bs t es y Ae ce m hnm hm40 j v w' := by
  unfold FN9 at h ⊢
  split <;> first
    | exact True.intro
    | exact h
theorem monoIN9 (w0 : World) (ok1 ok2 : Nat → Prop) (g1 g2 b : Nat) (bs t : Int) (es : List S60) (y : S49) (Ae : Option Addr) (ce : Nat) (m : Nat) (hnm : Nums bs es m) (hm40 : m ≤ 40) (c : Nat) (w w' : World) (h : IN9 w0 ok1 ok2 g1 g2 b bs t es y Ae ce m hnm hm40 c w) (hb : Below w.heap.size w w') : IN9 w0 ok1 ok2 g1 g2 b bs t es y Ae ce m hnm hm40 c w' := by
  unfold IN9 at h ⊢
  split <;> first
    | exact True.intro
    | exact ⟨(hb.block b (Array.getElem?_eq_some_iff.1 h.1).1).trans h.1, h.2.1.below hb, h.2.2.1.below hb, h.2.2.2.trans (hb.mono h.2.2.2.size)⟩
theorem hinN9 : ∀ i, i < 21 → ∀ d, dstN9 i = some d → d < 207 := by
  have h2 : ∀ i, i < 21 → (dstN9 i).all (fun d => decide (d < 207)) = true := by decide
  intro i hi d hd
  have := h2 i hi
  rw [hd] at this
  simpa using this
set_option maxRecDepth 100000 in
theorem regionN9 {ops : Array Oper} {Q : Exit → Act → World → Prop} (hops : ops = opsOf Try.f6 34) {id_ : Nat} (w0 : World) (ok1 ok2 : Nat → Prop) (g1 g2 b : Nat) (bs t : Int) (es : List S60) (y : S49) (Ae : Option Addr) (ce : Nat) (m : Nat) (hnm : Nums bs es m) (hm40 : m ≤ 40) (a0 : Act) (w0_ : World) (hI0 : ∀ c, IN9 w0 ok1 ok2 g1 g2 b bs t es y Ae ce m hnm hm40 c w0_) (hsz : a0.tmps.size = 207) (h5 : a0.tmps[5]?.getD undef = .pointer (some ⟨g1, 0, none⟩)) (h6 : a0.tmps[6]?.getD undef = .pointer (some ⟨g2, 0, none⟩)) (h8 : a0.tmps[8]?.getD undef = .pointer (some ⟨b, 0, none⟩))
    (hQ : ∀ a w, AgreeO 21 dstN9 a0 a → FN9 w0 ok1 ok2 g1 g2 b bs t es y Ae ce m hnm hm40 20 (slotO dstN9 a 20) w → IN9 w0 ok1 ok2 g1 g2 b bs t es y Ae ce m hnm hm40 0 w → Q .normal a w) : (Code.region id_ ops true).wp Try.prog Q a0 w0_ := by
  refine region_heldB (n := 21) dstN9 (FN9 w0 ok1 ok2 g1 g2 b bs t es y Ae ce m hnm hm40) (IN9 w0 ok1 ok2 g1 g2 b bs t es y Ae ce m hnm hm40) 1 ndN9 ncN9 usN9 killN9 killIN9 useIN9 (by kernel_rfl) (by rw [hops]; kernel_rfl) (by decide) ?_ (fun j v w w' _ h hb => monoN9 w0 ok1 ok2 g1 g2 b bs t es y Ae ce m hnm hm40 j v w w' h hb) (fun c w w' h hb => monoIN9 w0 ok1 ok2 g1 g2 b bs t es y Ae ce m hnm hm40 c w w' h hb) hI0 (by rw [hops]; kernel_rfl) (by decide) (by decide) (by decide) (by decide) (by decide) ?_ (fun a w hA hF hI => hQ a w hA (hF 20 (by decide) (by decide)) (hI 0 (by decide) (by decide)))
  · intro i hi d hd
    rw [hsz]; exact hinN9 i hi d hd
  · intro i a w hi hA hN hI
    have h5 := (hA.old 5 (by decide)).trans h5
    have h6 := (hA.old 6 (by decide)).trans h6
    have h8 := (hA.old 8 (by decide)).trans h8
    have hi' : i = 0 ∨ i = 1 ∨ i = 2 ∨ i = 3 ∨ i = 4 ∨ i = 5 ∨ i = 6 ∨ i = 7 ∨ i = 8 ∨ i = 9 ∨ i = 10 ∨ i = 11 ∨ i = 12 ∨ i = 13 ∨ i = 14 ∨ i = 15 ∨ i = 16 ∨ i = 17 ∨ i = 18 ∨ i = 19 ∨ i = 20 := by omega
    rcases hi' with rfl | rfl | rfl | rfl | rfl | rfl | rfl | rfl | rfl | rfl | rfl | rfl | rfl | rfl | rfl | rfl | rfl | rfl | rfl | rfl | rfl
    · exact sN9_0 ops Q hops w0 ok1 ok2 g1 g2 b bs t es y Ae ce m hnm hm40 a w h5 h6 h8 hN hI
    · exact sN9_1 ops Q hops w0 ok1 ok2 g1 g2 b bs t es y Ae ce m hnm hm40 a w h5 h6 h8 hN hI
    · exact sN9_2 ops Q hops w0 ok1 ok2 g1 g2 b bs t es y Ae ce m hnm hm40 a w h5 h6 h8 hN hI
    · exact sN9_3 ops Q hops w0 ok1 ok2 g1 g2 b bs t es y Ae ce m hnm hm40 a w h5 h6 h8 hN hI
    · exact sN9_4 ops Q hops w0 ok1 ok2 g1 g2 b bs t es y Ae ce m hnm hm40 a w h5 h6 h8 hN hI
    · exact sN9_5 ops Q hops w0 ok1 ok2 g1 g2 b bs t es y Ae ce m hnm hm40 a w h5 h6 h8 hN hI
    · exact sN9_6 ops Q hops w0 ok1 ok2 g1 g2 b bs t es y Ae ce m hnm hm40 a w h5 h6 h8 hN hI
    · exact sN9_7 ops Q hops w0 ok1 ok2 g1 g2 b bs t es y Ae ce m hnm hm40 a w h5 h6 h8 hN hI
    · exact sN9_8 ops Q hops w0 ok1 ok2 g1 g2 b bs t es y Ae ce m hnm hm40 a w h5 h6 h8 hN hI
    · exact sN9_9 ops Q hops w0 ok1 ok2 g1 g2 b bs t es y Ae ce m hnm hm40 a w h5 h6 h8 hN hI
    · exact sN9_10 ops Q hops w0 ok1 ok2 g1 g2 b bs t es y Ae ce m hnm hm40 a w h5 h6 h8 hN hI
    · exact sN9_11 ops Q hops w0 ok1 ok2 g1 g2 b bs t es y Ae ce m hnm hm40 a w h5 h6 h8 hN hI
    · exact sN9_12 ops Q hops w0 ok1 ok2 g1 g2 b bs t es y Ae ce m hnm hm40 a w h5 h6 h8 hN hI
    · exact sN9_13 ops Q hops w0 ok1 ok2 g1 g2 b bs t es y Ae ce m hnm hm40 a w h5 h6 h8 hN hI
    · exact sN9_14 ops Q hops w0 ok1 ok2 g1 g2 b bs t es y Ae ce m hnm hm40 a w h5 h6 h8 hN hI
    · exact sN9_15 ops Q hops w0 ok1 ok2 g1 g2 b bs t es y Ae ce m hnm hm40 a w h5 h6 h8 hN hI
    · exact sN9_16 ops Q hops w0 ok1 ok2 g1 g2 b bs t es y Ae ce m hnm hm40 a w h5 h6 h8 hN hI
    · exact sN9_17 ops Q hops w0 ok1 ok2 g1 g2 b bs t es y Ae ce m hnm hm40 a w h5 h6 h8 hN hI
    · exact sN9_18 ops Q hops w0 ok1 ok2 g1 g2 b bs t es y Ae ce m hnm hm40 a w h5 h6 h8 hN hI
    · exact sN9_19 ops Q hops w0 ok1 ok2 g1 g2 b bs t es y Ae ce m hnm hm40 a w h5 h6 h8 hN hI
    · exact sN9_20 ops Q hops w0 ok1 ok2 g1 g2 b bs t es y Ae ce m hnm hm40 a w h5 h6 h8 hN hI

end Go.Proofs.Ytigjfnleinhahaa.PLog
