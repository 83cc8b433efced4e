/- The region that copies. -/
import Derived.Test.YtdjdbmopckhcdaaRepl0
import Derived.Test.YtdjdbmopckhcdaaRegC
import Derived.Laws.CopyRow
namespace Go.Proofs.Ytdjdbmopckhcdaa.PV
open Go.RowKit Go.Proofs.YtdjdbmopckhcdaaW.PrintWords Go.Proofs.YtdjdbmopckhcdaaW.PrintLast Go.Proofs.YtdjdbmopckhcdaaW.PrintMore
open Go.Proofs
set_option linter.unusedVariables false
set_option linter.unusedSimpArgs false
set_option maxHeartbeats 4000000
set_option maxRecDepth 100000
open Go.Proofs.Ytdjdbmopckhcdaa.Reg
theorem src_cell {w : World} {k : Nat} {X : Array Value} {t : TypeId} {fr : Nat × Nat} (h : w.heap[k]? = some (.cells X t fr)) (i : Nat) : w.cell? ((⟨k, 0, none⟩ : Addr).add i) = X[i]? := by
  have hadd : (⟨k, 0, none⟩ : Addr).add i = ⟨k, i, none⟩ := by unfold Addr.add; split <;> simp_all
  rw [hadd]
  exact cell_of_row w k i X t fr h
theorem below_setRow {W w : World} {base B : Nat} (h : Below base W w) (hB : base ≤ B) (c : Array Value) : Below base W (w.setRow B c) := by
  refine h.trans ⟨rfl, rfl, rfl, by simp [World.setRow], fun k hk => ?_⟩
  show (w.heap.modify B _)[k]? = _
  rw [Array.getElem?_modify, if_neg (by omega)]
def dstY (i : Nat) : Option Nat := ([some 102, some 103, some 104, some 105, some 106, some 107, some 108, some 109, some 110, some 111, some 112, some 113, some 13] : List (Option Nat)).getD i none
def ndY : List (List Nat) := [[], [], [], [1, 2], [], [], [4], [6], [7, 5], [8], [3, 9], [0, 10], [11, 10, 0, 1, 2, 3, 4, 5, 6, 7, 8, 9, 10, 11]]
def usY : List (List Nat) := [[], [], [], [1, 2], [], [], [4], [6], [5, 7], [8], [3, 9], [0, 10], [11]]
def ncY : List (List Nat) := [[], [], [], [1, 2], [], [], [4], [4, 6], [4, 5, 6, 7], [4, 5, 6, 7, 8], [1, 2, 3, 4, 5, 6, 7, 8, 9], [0, 1, 2, 3, 4, 5, 6, 7, 8, 9, 10], [0, 1, 2, 3, 4, 5, 6, 7, 8, 9, 10, 11]]
def killY (h j : Nat) : Bool := (false)
def killIY (h j : Nat) : Bool := ((h == 10 && [0, 1].contains j))
def useIY (h j : Nat) : Bool := ((h == 3 && [1].contains j) || (h == 9 && [0].contains j) || (h == 10 && [1].contains j))
def IY (W : World) (g B N jj : Nat) (b : UInt8) (k2 c2 : Nat) (x y : UInt8) (X cur : Array Value) (fr : Nat × Nat) : Nat → World → Prop
  | 0, w => w.cell? ⟨g, b.toNat, none⟩ = some (.slice (some ⟨k2, 0, none⟩) 2 c2)
  | 1, w => w.heap[k2]? = some (.cells X 5 fr) ∧ X[0]? = some (.int .u8 (x.toNat : Int)) ∧ X[1]? = some (.int .u8 (y.toNat : Int)) ∧ w.heap[B]? = some (.cells cur 5 (0, 0)) ∧ jj + 2 ≤ N ∧ N ≤ 4294967296 ∧ cur.size = N ∧ W.heap.size ≤ B ∧ Below W.heap.size W w
  | _, _ => True
def FY (W : World) (g B N jj : Nat) (b : UInt8) (k2 c2 : Nat) (x y : UInt8) (X cur : Array Value) (fr : Nat × Nat) : Nat → Value → World → Prop
  | 0, v, w => v = .int .i64 (jj : Int)
  | 1, v, w => v = .slice (some ⟨B, 0, none⟩) N N
  | 2, v, w => v = .int .i64 (jj : Int)
  | 3, v, w => v = .slice (some ⟨B, jj, none⟩) (N - jj) (N - jj)
  | 4, v, w => v = .pointer (some ⟨g, 0, none⟩)
  | 5, v, w => v = .int .u8 (b.toNat : Int)
  | 6, v, w => v = .pointer (some ⟨g, 0, none⟩)
  | 7, v, w => v = .pointer (some ⟨g, 0, none⟩)
  | 8, v, w => v = .pointer (some ⟨g, b.toNat, none⟩)
  | 9, v, w => v = .slice (some ⟨k2, 0, none⟩) 2 c2
  | 10, v, w => v = .int .i64 2 ∧ jj + 2 ≤ 4294967296 ∧ w.heap[B]? = some (.cells (cur.toList.take jj ++ [Value.int .u8 (x.toNat : Int), Value.int .u8 (y.toNat : Int)] ++ cur.toList.drop (jj + 2)).toArray 5 (0, 0)) ∧ Below W.heap.size W w
  | 11, v, w => v = .int .i64 ((jj + 2 : Nat) : Int) ∧ w.heap[B]? = some (.cells (cur.toList.take jj ++ [Value.int .u8 (x.toNat : Int), Value.int .u8 (y.toNat : Int)] ++ cur.toList.drop (jj + 2)).toArray 5 (0, 0)) ∧ Below W.heap.size W w
  | 12, v, w => v = .int .i64 ((jj + 2 : Nat) : Int) ∧ w.heap[B]? = some (.cells (cur.toList.take jj ++ [Value.int .u8 (x.toNat : Int), Value.int .u8 (y.toNat : Int)] ++ cur.toList.drop (jj + 2)).toArray 5 (0, 0)) ∧ Below W.heap.size W w
  | _, _, _ => True
def StY (i_ : Nat) : Prop := ∀ (ops : Array Oper) (Q : Exit → Act → World → Prop) (hops : ops = opsOf Try.f98 28) (W : World) (g B N jj : Nat) (b : UInt8) (k2 c2 : Nat) (x y : UInt8) (X cur : Array Value) (fr : Nat × Nat) (a : Act) (w : World) (h0 : a.tmps[0]?.getD undef = .pointer (some ⟨g, 0, none⟩)) (h12 : a.tmps[12]?.getD undef = .slice (some ⟨B, 0, none⟩) N N) (h13 : a.tmps[13]?.getD undef = .int .i64 (jj : Int)) (h15 : a.tmps[15]?.getD undef = .int .u8 (b.toNat : Int))
    (hN : ∀ j, j ∈ usY.getD i_ [] → FY W g B N jj b k2 c2 x y X cur fr j (slotO dstY a j) w) (hI : ∀ c, c < 2 → useIY i_ c = true → IY W g B N jj b k2 c2 x y X cur fr c w), wpOp Try.prog ops Q i_ (fun a' w' => ∃ v, a' = a.put (dstY i_) v ∧ FY W g B N jj b k2 c2 x y X cur fr i_ (valO dstY i_ v) w' ∧ (Below w.heap.size w w' ∨ ((∀ j u, j < 13 → j ≠ i_ → killY i_ j = false → (ncY.getD j []).contains i_ = false → FY W g B N jj b k2 c2 x y X cur fr j u w → FY W g B N jj b k2 c2 x y X cur fr j u w') ∧ (∀ c, c < 2 → killIY i_ c = false → IY W g B N jj b k2 c2 x y X cur fr c w → IY W g B N jj b k2 c2 x y X cur fr c w')))) a w
theorem sY_0 : StY 0 := by
  intro ops Q hops W g B N jj b k2 c2 x y X cur fr a w h0 h12 h13 h15 hN hI
  subst hops
  have ho : (opsOf Try.f98 28)[0]? = some (⟨some 102, .move (.tmp 13), 3, "replace.go:541", #[], none⟩ : Oper) := by kernel_rfl
  refine wpOp_plain ho rfl ?_
  clear hN hI ho
  go_simp
  first | exact ⟨_, rfl, rfl⟩ | exact ⟨_, rfl, rfl, .inl (Below.refl _ _)⟩
theorem sY_1 : StY 1 := by
  intro ops Q hops W g B N jj b k2 c2 x y X cur fr a w h0 h12 h13 h15 hN hI
  subst hops
  have ho : (opsOf Try.f98 28)[1]? = some (⟨some 103, .move (.tmp 12), 51, "replace.go:541", #[], none⟩ : Oper) := by kernel_rfl
  refine wpOp_plain ho rfl ?_
  clear hN hI ho
  go_simp
  first | exact ⟨_, rfl, rfl⟩ | exact ⟨_, rfl, rfl, .inl (Below.refl _ _)⟩
theorem sY_2 : StY 2 := by
  intro ops Q hops W g B N jj b k2 c2 x y X cur fr a w h0 h12 h13 h15 hN hI
  subst hops
  have ho : (opsOf Try.f98 28)[2]? = some (⟨some 104, .move (.tmp 13), 3, "replace.go:541", #[], none⟩ : Oper) := by kernel_rfl
  refine wpOp_plain ho rfl ?_
  clear hN hI ho
  go_simp
  first | exact ⟨_, rfl, rfl⟩ | exact ⟨_, rfl, rfl, .inl (Below.refl _ _)⟩
theorem sY_3 : StY 3 := by
  intro ops Q hops W g B N jj b k2 c2 x y X cur fr a w h0 h12 h13 h15 hN hI
  subst hops
  have n1 : a.tmps[103]?.getD undef = .slice (some ⟨B, 0, none⟩) N N := hN 1 (by decide)
  have n2 : a.tmps[104]?.getD undef = .int .i64 (jj : Int) := hN 2 (by decide)
  have hi1 : (fun (w : World) => w.heap[k2]? = some (.cells X 5 fr) ∧ X[0]? = some (.int .u8 (x.toNat : Int)) ∧ X[1]? = some (.int .u8 (y.toNat : Int)) ∧ w.heap[B]? = some (.cells cur 5 (0, 0)) ∧ jj + 2 ≤ N ∧ N ≤ 4294967296 ∧ cur.size = N ∧ W.heap.size ≤ B ∧ Below W.heap.size W w) w := hI 1 (by decide) (by decide)
  have ho : (opsOf Try.f98 28)[3]? = some (⟨some 105, .slice 51 (.tmp 103) (some (.tmp 104)) none none, 51, "replace.go:541", #[⟨1, .data⟩, ⟨2, .data⟩], none⟩ : Oper) := by kernel_rfl
  refine wpOp_plain ho rfl ?_
  clear hN hI ho
  obtain ⟨-, -, -, -, hj, hN, -⟩ := hi1
  have h1 : ((jj : Int) ≤ (N : Int)) = True := eq_true (by omega)
  have h2 : (jj ≤ N) = True := eq_true (by omega)
  have h3 : (N = jj) = False := eq_false (by omega)
  clear hj
  go_simp
  first | exact ⟨_, rfl, rfl⟩ | exact ⟨_, rfl, rfl, .inl (Below.refl _ _)⟩
theorem sY_4 : StY 4 := by
  intro ops Q hops W g B N jj b k2 c2 x y X cur fr a w h0 h12 h13 h15 hN hI
  subst hops
  have ho : (opsOf Try.f98 28)[4]? = some (⟨some 106, .move (.tmp 0), 105, "replace.go:541", #[], none⟩ : Oper) := by kernel_rfl
  refine wpOp_plain ho rfl ?_
  clear hN hI ho
  go_simp
  first | exact ⟨_, rfl, rfl⟩ | exact ⟨_, rfl, rfl, .inl (Below.refl _ _)⟩
theorem sY_5 : StY 5 := by
  intro ops Q hops W g B N jj b k2 c2 x y X cur fr a w h0 h12 h13 h15 hN hI
  subst hops
  have ho : (opsOf Try.f98 28)[5]? = some (⟨some 107, .move (.tmp 15), 5, "replace.go:541", #[], none⟩ : Oper) := by kernel_rfl
  refine wpOp_plain ho rfl ?_
  clear hN hI ho
  go_simp
  first | exact ⟨_, rfl, rfl⟩ | exact ⟨_, rfl, rfl, .inl (Below.refl _ _)⟩
theorem sY_6 : StY 6 := by
  intro ops Q hops W g B N jj b k2 c2 x y X cur fr a w h0 h12 h13 h15 hN hI
  subst hops
  have n4 : a.tmps[106]?.getD undef = .pointer (some ⟨g, 0, none⟩) := hN 4 (by decide)
  have ho : (opsOf Try.f98 28)[6]? = some (⟨some 108, .nilCheck (.tmp 106), 0, "replace.go:541", #[⟨4, .data⟩], none⟩ : Oper) := by kernel_rfl
  refine wpOp_plain ho rfl ?_
  clear hN hI ho
  go_simp
  first | exact ⟨_, rfl, rfl⟩ | exact ⟨_, rfl, rfl, .inl (Below.refl _ _)⟩
theorem sY_7 : StY 7 := by
  intro ops Q hops W g B N jj b k2 c2 x y X cur fr a w h0 h12 h13 h15 hN hI
  subst hops
  have n6 : a.tmps[108]?.getD undef = .pointer (some ⟨g, 0, none⟩) := hN 6 (by decide)
  have ho : (opsOf Try.f98 28)[7]? = some (⟨some 109, .fieldAddr 104 (.tmp 108) 0, 0, "replace.go:541", #[⟨6, .data⟩], none⟩ : Oper) := by kernel_rfl
  refine wpOp_plain ho rfl ?_
  clear hN hI ho
  go_simp
  first | exact ⟨_, rfl, rfl⟩ | exact ⟨_, rfl, rfl, .inl (Below.refl _ _)⟩
theorem sY_8 : StY 8 := by
  intro ops Q hops W g B N jj b k2 c2 x y X cur fr a w h0 h12 h13 h15 hN hI
  subst hops
  have n5 : a.tmps[107]?.getD undef = .int .u8 (b.toNat : Int) := hN 5 (by decide)
  have n7 : a.tmps[109]?.getD undef = .pointer (some ⟨g, 0, none⟩) := hN 7 (by decide)
  have ho : (opsOf Try.f98 28)[8]? = some (⟨some 110, .indexAddr 102 (.tmp 109) (.tmp 107), 0, "replace.go:541", #[⟨7, .data⟩, ⟨5, .data⟩], none⟩ : Oper) := by kernel_rfl
  refine wpOp_plain ho rfl ?_
  clear hN hI ho
  have hb256 : ((b.toNat : Int) < 256) = True := eq_true (by have := b.toNat_lt; omega)
  go_simp
  first | exact ⟨_, rfl, rfl⟩ | exact ⟨_, rfl, rfl, .inl (Below.refl _ _)⟩
theorem sY_9 : StY 9 := by
  intro ops Q hops W g B N jj b k2 c2 x y X cur fr a w h0 h12 h13 h15 hN hI
  subst hops
  have n8 : a.tmps[110]?.getD undef = .pointer (some ⟨g, b.toNat, none⟩) := hN 8 (by decide)
  have hi0 : (fun (w : World) => w.cell? ⟨g, b.toNat, none⟩ = some (.slice (some ⟨k2, 0, none⟩) 2 c2)) w := hI 0 (by decide) (by decide)
  have ho : (opsOf Try.f98 28)[9]? = some (⟨some 111, .load 51 (.tmp 110), 51, "replace.go:541", #[⟨8, .data⟩], none⟩ : Oper) := by kernel_rfl
  refine wpOp_plain ho rfl ?_
  clear hN hI ho
  go_simp
  first | exact ⟨_, rfl, rfl⟩ | exact ⟨_, rfl, rfl, .inl (Below.refl _ _)⟩
theorem sY_10 : StY 10 := by
  intro ops Q hops W g B N jj b k2 c2 x y X cur fr a w h0 h12 h13 h15 hN hI
  subst hops
  have n3 : a.tmps[105]?.getD undef = .slice (some ⟨B, jj, none⟩) (N - jj) (N - jj) := hN 3 (by decide)
  have n9 : a.tmps[111]?.getD undef = .slice (some ⟨k2, 0, none⟩) 2 c2 := hN 9 (by decide)
  have hi1 : (fun (w : World) => w.heap[k2]? = some (.cells X 5 fr) ∧ X[0]? = some (.int .u8 (x.toNat : Int)) ∧ X[1]? = some (.int .u8 (y.toNat : Int)) ∧ w.heap[B]? = some (.cells cur 5 (0, 0)) ∧ jj + 2 ≤ N ∧ N ≤ 4294967296 ∧ cur.size = N ∧ W.heap.size ≤ B ∧ Below W.heap.size W w) w := hI 1 (by decide) (by decide)
  have ho : (opsOf Try.f98 28)[10]? = some (⟨some 112, .call { callee := .builtin .copy, args := #[.tmp 105, .tmp 111], argTypes := #[51, 51] }, 3, "replace.go:541", #[⟨3, .data⟩, ⟨9, .data⟩], none⟩ : Oper) := by kernel_rfl
  refine wpOp_plain ho rfl ?_
  clear hN hI ho
  obtain ⟨hX, hx0, hx1, hB, hj, hN, hs, hw, hb⟩ := hi1
  have hcp := run_copy_row (P := Try.prog) w 51 51 3 5 B jj (N - jj) (N - jj) ⟨k2, 0, none⟩ 2 c2 cur 5 [.int .u8 (x.toNat : Int), .int .u8 (y.toNat : Int)] Try.underlying51 (by kernel_rfl) hB
    (by show 2 = min 2 (N - jj); omega)
    (by
      intro i v hi
      match i, hi with
      | 0, hi => simp at hi; subst hi; exact (src_cell hX 0).trans hx0
      | 1, hi => simp at hi; subst hi; exact (src_cell hX 1).trans hx1
      | i + 2, hi => simp at hi)
    (by show jj + 2 ≤ cur.size; omega) (by simp [Value.oneCell'])
  have HP := Aside0.mk (show (w.setRow B (cur.toList.take jj ++ [Value.int .u8 (x.toNat : Int), Value.int .u8 (y.toNat : Int)] ++ cur.toList.drop (jj + 2)).toArray).heap[B]? = some (.cells (cur.toList.take jj ++ [Value.int .u8 (x.toNat : Int), Value.int .u8 (y.toNat : Int)] ++ cur.toList.drop (jj + 2)).toArray 5 (0, 0)) ∧ Below W.heap.size W (w.setRow B (cur.toList.take jj ++ [Value.int .u8 (x.toNat : Int), Value.int .u8 (y.toNat : Int)] ++ cur.toList.drop (jj + 2)).toArray) from ⟨setRow_heap w B cur _ 5 _ hB, below_setRow hb hw _⟩)
  have hlen : ([.int .u8 (x.toNat : Int), .int .u8 (y.toNat : Int)] : List Value).length = 2 := rfl
  rw [hlen] at hcp
  have HN := Aside0.mk (show jj + 2 ≤ 4294967296 by omega)
  clear hX hx0 hx1 hB hj hN hs hw hb hlen
  obtain ⟨nw, hnw⟩ : ∃ nw, nw = (cur.toList.take jj ++ [Value.int .u8 (x.toNat : Int), Value.int .u8 (y.toNat : Int)] ++ cur.toList.drop (jj + 2)).toArray := ⟨_, rfl⟩
  rw [← hnw] at hcp HP
  have HNW := Aside0.mk hnw
  clear hnw
  go_simp
  refine ⟨_, rfl, ⟨rfl, HN.out, by rw [← HNW.out]; exact HP.out⟩, .inr ⟨?_, ?_⟩⟩
  · intro j_ u hj hne hk hcc hF
    have hj' : j_ = 0 ∨ j_ = 1 ∨ j_ = 2 ∨ j_ = 3 ∨ j_ = 4 ∨ j_ = 5 ∨ j_ = 6 ∨ j_ = 7 ∨ j_ = 8 ∨ j_ = 9 ∨ j_ = 10 ∨ j_ = 11 ∨ j_ = 12 := by omega
    rcases hj' with rfl | rfl | rfl | rfl | rfl | rfl | rfl | rfl | rfl | rfl | rfl | rfl | rfl <;> first | exact hF | (exact absurd hk (by decide)) | (exact absurd rfl hne) | (exact absurd hcc (by decide))
  · intro c hc hk hI
    have hc' : c = 0 ∨ c = 1 := by omega
    rcases hc' with rfl | rfl <;> exact absurd hk (by decide)
theorem sY_11 : StY 11 := by
  intro ops Q hops W g B N jj b k2 c2 x y X cur fr a w h0 h12 h13 h15 hN hI
  subst hops
  have n0 : a.tmps[102]?.getD undef = .int .i64 (jj : Int) := hN 0 (by decide)
  have n10 : (fun (v : Value) (w : World) => v = .int .i64 2 ∧ jj + 2 ≤ 4294967296 ∧ w.heap[B]? = some (.cells (cur.toList.take jj ++ [Value.int .u8 (x.toNat : Int), Value.int .u8 (y.toNat : Int)] ++ cur.toList.drop (jj + 2)).toArray 5 (0, 0)) ∧ Below W.heap.size W w) (a.tmps[112]?.getD undef) w := hN 10 (by decide)
  have ho : (opsOf Try.f98 28)[11]? = some (⟨some 113, .binOp .add 3 (.tmp 102) (.tmp 112) 3, 3, "replace.go:541", #[⟨0, .data⟩, ⟨10, .data⟩], none⟩ : Oper) := by kernel_rfl
  refine wpOp_plain ho rfl ?_
  clear hN hI ho
  obtain ⟨e2, hN, hP⟩ := n10
  have HP := Aside0.mk hP
  have HN := Aside0.mk hN
  have e2' := e2
  have hw1 : IntKind.i64.wrap ((jj : Int) + 2) = ((jj + 2 : Nat) : Int) := by rw [i64_w]; unfold wrap64; omega
  clear hP hN e2
  go_simp
  first | exact ⟨_, rfl, rfl, HP.out⟩ | exact ⟨_, rfl, ⟨rfl, HP.out⟩, .inl (Below.refl _ _)⟩
theorem sY_12 : StY 12 := by
  intro ops Q hops W g B N jj b k2 c2 x y X cur fr a w h0 h12 h13 h15 hN hI
  subst hops
  have n11 : (fun (v : Value) (w : World) => v = .int .i64 ((jj + 2 : Nat) : Int) ∧ w.heap[B]? = some (.cells (cur.toList.take jj ++ [Value.int .u8 (x.toNat : Int), Value.int .u8 (y.toNat : Int)] ++ cur.toList.drop (jj + 2)).toArray 5 (0, 0)) ∧ Below W.heap.size W w) (a.tmps[113]?.getD undef) w := hN 11 (by decide)
  have ho : (opsOf Try.f98 28)[12]? = some (⟨some 13, .assign (.tmp 113), 3, "replace.go:541", #[⟨11, .data⟩, ⟨10, .chain⟩, ⟨0, .phase⟩, ⟨1, .phase⟩, ⟨2, .phase⟩, ⟨3, .phase⟩, ⟨4, .phase⟩, ⟨5, .phase⟩, ⟨6, .phase⟩, ⟨7, .phase⟩, ⟨8, .phase⟩, ⟨9, .phase⟩, ⟨10, .phase⟩, ⟨11, .phase⟩], none⟩ : Oper) := by kernel_rfl
  refine wpOp_plain ho rfl ?_
  clear hN hI ho
  obtain ⟨e2, hP⟩ := n11
  have HP := Aside0.mk hP
  clear hP
  go_simp
  first | exact ⟨_, rfl, rfl, HP.out⟩ | exact ⟨_, rfl, ⟨rfl, HP.out⟩, .inl (Below.refl _ _)⟩
theorem monoY (W : World) (g B N jj : Nat) (b : UInt8) (k2 c2 : Nat) (x y : UInt8) (X cur : Array Value) (fr : Nat × Nat) (j : Nat) (v : Value) (w w' : World) (h : FY W g B N jj b k2 c2 x y X cur fr j v w) (hb : Below w.heap.size w w') : FY W g B N jj b k2 c2 x y X cur fr j v w' := by
  unfold FY at h ⊢
  split <;> first
    | exact True.intro
    | exact h
    | exact ⟨h.1, h.2.1, (hb.block B (Array.getElem?_eq_some_iff.1 h.2.2.1).1).trans h.2.2.1, h.2.2.2.trans (hb.mono h.2.2.2.size)⟩
    | exact ⟨h.1, (hb.block B (Array.getElem?_eq_some_iff.1 h.2.1).1).trans h.2.1, h.2.2.trans (hb.mono h.2.2.size)⟩
theorem monoIY (W : World) (g B N jj : Nat) (b : UInt8) (k2 c2 : Nat) (x y : UInt8) (X cur : Array Value) (fr : Nat × Nat) (c : Nat) (w w' : World) (h : IY W g B N jj b k2 c2 x y X cur fr c w) (hb : Below w.heap.size w w') : IY W g B N jj b k2 c2 x y X cur fr c w' := by
  match c, h with
  | 0, h => exact (hb.cell (p := ⟨g, b.toNat, none⟩) (cell_lt h)).trans h
  | 1, h => exact ⟨(hb.block k2 (Array.getElem?_eq_some_iff.1 h.1).1).trans h.1, h.2.1, h.2.2.1, (hb.block B (Array.getElem?_eq_some_iff.1 h.2.2.2.1).1).trans h.2.2.2.1, h.2.2.2.2.1, h.2.2.2.2.2.1, h.2.2.2.2.2.2.1, h.2.2.2.2.2.2.2.1, h.2.2.2.2.2.2.2.2.trans (hb.mono h.2.2.2.2.2.2.2.2.size)⟩
  | c + 2, h => exact True.intro
theorem hinY : ∀ i, i < 13 → ∀ d, dstY i = some d → d < 122 := by
  have h2 : ∀ i, i < 13 → (dstY i).all (fun d => decide (d < 122)) = true := by decide
  intro i hi d hd
  have := h2 i hi
  rw [hd] at this
  simpa using this
set_option maxRecDepth 100000 in
theorem regionY {ops : Array Oper} {Q : Exit → Act → World → Prop} (hops : ops = opsOf Try.f98 28) {id_ : Nat} (W : World) (g B N jj : Nat) (b : UInt8) (k2 c2 : Nat) (x y : UInt8) (X cur : Array Value) (fr : Nat × Nat) (a0 : Act) (w0_ : World) (hI0 : ∀ c, IY W g B N jj b k2 c2 x y X cur fr c w0_) (hsz : a0.tmps.size = 122) (h0 : a0.tmps[0]?.getD undef = .pointer (some ⟨g, 0, none⟩)) (h12 : a0.tmps[12]?.getD undef = .slice (some ⟨B, 0, none⟩) N N) (h13 : a0.tmps[13]?.getD undef = .int .i64 (jj : Int)) (h15 : a0.tmps[15]?.getD undef = .int .u8 (b.toNat : Int))
    (hQ : ∀ a w, AgreeO 13 dstY a0 a → FY W g B N jj b k2 c2 x y X cur fr 12 (slotO dstY a 12) w → Q .normal a w) : (Code.region id_ ops true).wp Try.prog Q a0 w0_ := by
  refine region_heldC (n := 13) dstY (FY W g B N jj b k2 c2 x y X cur fr) (IY W g B N jj b k2 c2 x y X cur fr) 2 ndY ncY usY killY killIY useIY (by kernel_rfl) (by rw [hops]; kernel_rfl) (by decide) ?_ (fun j v w w' _ h hb => monoY W g B N jj b k2 c2 x y X cur fr j v w w' h hb) (fun c w w' h hb => monoIY W g B N jj b k2 c2 x y X cur fr c w w' h hb) hI0 (by rw [hops]; kernel_rfl) (by decide) (by decide) (by decide) (by decide) (by decide) ?_ (fun a w hA hF hI => hQ a w hA (hF 12 (by decide) (by decide)) )
  · intro i hi d hd
    rw [hsz]; exact hinY i hi d hd
  · intro i a w hi hA hN hI hO
    have h0 := (hA.old 0 (by decide)).trans h0
    have h12 := (hA.old 12 (by decide)).trans h12
    have h15 := (hA.old 15 (by decide)).trans h15
    have hi' : i = 0 ∨ i = 1 ∨ i = 2 ∨ i = 3 ∨ i = 4 ∨ i = 5 ∨ i = 6 ∨ i = 7 ∨ i = 8 ∨ i = 9 ∨ i = 10 ∨ i = 11 ∨ i = 12 := by omega
    rcases hi' with rfl | rfl | rfl | rfl | rfl | rfl | rfl | rfl | rfl | rfl | rfl | rfl | rfl
    · have h13 := (hO 13 (by decide)).trans h13; exact sY_0 ops Q hops W g B N jj b k2 c2 x y X cur fr a w h0 h12 h13 h15 hN hI
    · have h13 := (hO 13 (by decide)).trans h13; exact sY_1 ops Q hops W g B N jj b k2 c2 x y X cur fr a w h0 h12 h13 h15 hN hI
    · have h13 := (hO 13 (by decide)).trans h13; exact sY_2 ops Q hops W g B N jj b k2 c2 x y X cur fr a w h0 h12 h13 h15 hN hI
    · have h13 := (hO 13 (by decide)).trans h13; exact sY_3 ops Q hops W g B N jj b k2 c2 x y X cur fr a w h0 h12 h13 h15 hN hI
    · have h13 := (hO 13 (by decide)).trans h13; exact sY_4 ops Q hops W g B N jj b k2 c2 x y X cur fr a w h0 h12 h13 h15 hN hI
    · have h13 := (hO 13 (by decide)).trans h13; exact sY_5 ops Q hops W g B N jj b k2 c2 x y X cur fr a w h0 h12 h13 h15 hN hI
    · have h13 := (hO 13 (by decide)).trans h13; exact sY_6 ops Q hops W g B N jj b k2 c2 x y X cur fr a w h0 h12 h13 h15 hN hI
    · have h13 := (hO 13 (by decide)).trans h13; exact sY_7 ops Q hops W g B N jj b k2 c2 x y X cur fr a w h0 h12 h13 h15 hN hI
    · have h13 := (hO 13 (by decide)).trans h13; exact sY_8 ops Q hops W g B N jj b k2 c2 x y X cur fr a w h0 h12 h13 h15 hN hI
    · have h13 := (hO 13 (by decide)).trans h13; exact sY_9 ops Q hops W g B N jj b k2 c2 x y X cur fr a w h0 h12 h13 h15 hN hI
    · have h13 := (hO 13 (by decide)).trans h13; exact sY_10 ops Q hops W g B N jj b k2 c2 x y X cur fr a w h0 h12 h13 h15 hN hI
    · have h13 := (hO 13 (by decide)).trans h13; exact sY_11 ops Q hops W g B N jj b k2 c2 x y X cur fr a w h0 h12 h13 h15 hN hI
    · have h13 := (hO 13 (by decide)).trans h13; exact sY_12 ops Q hops W g B N jj b k2 c2 x y X cur fr a w h0 h12 h13 h15 hN hI
end Go.Proofs.Ytdjdbmopckhcdaa.PV
