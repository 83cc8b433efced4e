/- member.Place: the region that appends. -/
import Derived.Test.YtknaffajmfimbaaHPop
import Derived.Test.YtknaffajmfimbaaRegB
import Derived.Deep.AppendLies
namespace Go.Proofs.Ytknaffajmfimbaa.PHe
open Go.RowKit Go.Proofs.YtknaffajmfimbaaW.PrintWords Go.Proofs.YtknaffajmfimbaaW.PrintLast Go.Proofs.YtknaffajmfimbaaW.PrintMore
open Go.Proofs Go.Proofs.Ytknaffajmfimbaa Go.Shelf
set_option linter.unusedVariables false
set_option linter.unusedSimpArgs false
set_option maxHeartbeats 4000000
set_option maxRecDepth 100000
theorem own_below {w w' : World} {base : Nat} {v : Value} {Ls : List Int} {y : Int} (hO : w.ownsRow base 3 1 v (Ls.length + 1) (encs (Value.int .i64) (Ls ++ [y]))) (hb : Below w.heap.size w w') : w'.ownsRow base 3 1 v (Ls.length + 1) (encs (Value.int .i64) (Ls ++ [y])) := by
  have h := Kd.own_of_R (Kd.R_below (Kd.R_of_own (h1 := fun _ => rfl) (ok := fun _ => True) (xs := Ls ++ [y]) (by rw [List.length_append]; exact hO) (fun _ _ => trivial)) hb)
  rw [List.length_append] at h
  exact h
open Go.Proofs.Ytknaffajmfimbaa.Reg
theorem info3 : (Try.prog.info? 3).map (fun i => (i.zero, i.size, i.bytes)) = some (some (.int .i64 0), 1, 8) := by kernel_rfl
theorem cell_lt {W : World} {g i : Nat} {u : Value} (h : W.cell? ⟨g, i, none⟩ = some u) : g < W.heap.size := by
  rcases Nat.lt_or_ge g W.heap.size with h' | h'
  · exact h'
  · rw [World.cell?] at h
    simp [Array.getElem?_eq_none h'] at h
def dstP (i : Nat) : Option Nat := ([some 22, some 23, some 24, some 25, some 26, some 27, none] : List (Option Nat)).getD i none
def ndP : List (List Nat) := [[], [], [1], [2], [3], [0, 4], [5, 5, 0, 1, 2, 3, 4, 5]]
def usP : List (List Nat) := [[], [], [1], [2], [3], [0, 4], [5]]
def ncP : List (List Nat) := [[], [], [1], [1, 2], [1, 2, 3], [0, 1, 2, 3, 4], [0, 1, 2, 3, 4, 5]]
def killP (h j : Nat) : Bool := ((h == 5 && [4].contains j) || (h == 6 && [4, 5].contains j))
def killIP (h j : Nat) : Bool := ((h == 5 && [0, 1].contains j) || (h == 6 && [0, 1].contains j))
def useIP (h j : Nat) : Bool := ((h == 0 && [1].contains j) || (h == 2 && [0].contains j) || (h == 3 && [0].contains j) || (h == 5 && [1].contains j))
def IP (wa : World) (g0 b : Nat) (v0 : Value) (Ls : List Int) (x y : Int) : Nat → World → Prop
  | 0, w => w.cell? ⟨g0, x.toNat, none⟩ = some (.int .i64 y) ∧ 0 ≤ x ∧ x < 7
  | 1, w => Boxed w b 22 v0 ∧ Kd.R (Kd.int .i64) 3 w wa.heap.size (fun _ => True) v0 Ls ∧ Below wa.heap.size wa w ∧ wa.heap.size ≤ b ∧ Ls.length ≤ 1000
  | _, _ => True
def FP (wa : World) (g0 b : Nat) (v0 : Value) (Ls : List Int) (x y : Int) : Nat → Value → World → Prop
  | 0, v, w => v = v0
  | 1, v, w => v = .int .i64 x
  | 2, v, w => v = .pointer (some ⟨g0, x.toNat, none⟩)
  | 3, v, w => v = .int .i64 y
  | 4, v, w => ∃ g, v = .slice (some ⟨g, 0, none⟩) 1 1 ∧ w.heap[g]? = some (.cells #[.int .i64 y] 3 (0, 0))
  | 5, v, w => ∃ g cap, v = .slice (some ⟨g, 0, none⟩) (Ls.length + 1) cap ∧ Boxed w b 22 v0 ∧ w.ownsRow wa.heap.size 3 1 v (Ls.length + 1) (encs (Value.int .i64) (Ls ++ [y])) ∧ Below wa.heap.size wa w ∧ wa.heap.size ≤ b
  | 6, v, w => ∃ v', Boxed w b 22 v' ∧ Kd.R (Kd.int .i64) 3 w wa.heap.size (fun _ => True) v' (Ls ++ [y]) ∧ Below wa.heap.size wa w
  | _, _, _ => True
def StP (i_ : Nat) : Prop := ∀ (ops : Array Oper) (Q : Exit → Act → World → Prop) (hops : ops = opsOf Try.f22 7) (wa : World) (g0 b : Nat) (v0 : Value) (Ls : List Int) (x y : Int) (a : Act) (w : World) (h3 : a.tmps[3]?.getD undef = .pointer (some ⟨g0, 0, none⟩)) (h5 : a.tmps[5]?.getD undef = .pointer (some ⟨b, 0, none⟩)) (h7 : a.tmps[7]?.getD undef = .int .i64 x)
    (hN : ∀ j, j ∈ usP.getD i_ [] → FP wa g0 b v0 Ls x y j (slotO dstP a j) w) (hI : ∀ c, c < 2 → useIP i_ c = true → IP wa g0 b v0 Ls x y c w), wpOp Try.prog ops Q i_ (fun a' w' => ∃ v, a' = a.put (dstP i_) v ∧ FP wa g0 b v0 Ls x y i_ (valO dstP i_ v) w' ∧ (Below w.heap.size w w' ∨ ((∀ j u, j < 7 → j ≠ i_ → killP i_ j = false → (ncP.getD j []).contains i_ = false → FP wa g0 b v0 Ls x y j u w → FP wa g0 b v0 Ls x y j u w') ∧ (∀ c, c < 2 → killIP i_ c = false → IP wa g0 b v0 Ls x y c w → IP wa g0 b v0 Ls x y c w')))) a w
theorem sP_0 : StP 0 := by
  intro ops Q hops wa g0 b v0 Ls x y a w h3 h5 h7 hN hI
  subst hops
  have hi1 : (fun (w : World) => Boxed w b 22 v0 ∧ Kd.R (Kd.int .i64) 3 w wa.heap.size (fun _ => True) v0 Ls ∧ Below wa.heap.size wa w ∧ wa.heap.size ≤ b ∧ Ls.length ≤ 1000) w := hI 1 (by decide) (by decide)
  have ho : (opsOf Try.f22 7)[0]? = some (⟨some 22, .load 22 (.tmp 5), 22, "member.go:100", #[], none⟩ : Oper) := by kernel_rfl
  refine wpOp_plain ho rfl ?_
  clear hN hI ho
  obtain ⟨hb, -⟩ := hi1
  have hc := hb.cell
  clear hb
  go_simp
  first | exact ⟨_, rfl, rfl⟩ | exact ⟨_, rfl, rfl, .inl (Below.refl _ _)⟩
theorem sP_1 : StP 1 := by
  intro ops Q hops wa g0 b v0 Ls x y a w h3 h5 h7 hN hI
  subst hops
  have ho : (opsOf Try.f22 7)[1]? = some (⟨some 23, .move (.tmp 7), 3, "member.go:100", #[], none⟩ : Oper) := by kernel_rfl
  refine wpOp_plain ho rfl ?_
  clear hN hI ho
  go_simp
  first | exact ⟨_, rfl, rfl⟩ | exact ⟨_, rfl, rfl, .inl (Below.refl _ _)⟩
theorem sP_2 : StP 2 := by
  intro ops Q hops wa g0 b v0 Ls x y a w h3 h5 h7 hN hI
  subst hops
  have n1 : a.tmps[23]?.getD undef = .int .i64 x := hN 1 (by decide)
  have hi0 : (fun (w : World) => w.cell? ⟨g0, x.toNat, none⟩ = some (.int .i64 y) ∧ 0 ≤ x ∧ x < 7) w := hI 0 (by decide) (by decide)
  have ho : (opsOf Try.f22 7)[2]? = some (⟨some 24, .indexAddr 34 (.tmp 3) (.tmp 23), 0, "member.go:100", #[⟨1, .data⟩], none⟩ : Oper) := by kernel_rfl
  refine wpOp_plain ho rfl ?_
  clear hN hI ho
  obtain ⟨-, h0, h7⟩ := hi0
  replace h0 := eq_true h0
  replace h7 := eq_true h7
  go_simp
  first | exact ⟨_, rfl, rfl⟩ | exact ⟨_, rfl, rfl, .inl (Below.refl _ _)⟩
theorem sP_3 : StP 3 := by
  intro ops Q hops wa g0 b v0 Ls x y a w h3 h5 h7 hN hI
  subst hops
  have n2 : a.tmps[24]?.getD undef = .pointer (some ⟨g0, x.toNat, none⟩) := hN 2 (by decide)
  have hi0 : (fun (w : World) => w.cell? ⟨g0, x.toNat, none⟩ = some (.int .i64 y) ∧ 0 ≤ x ∧ x < 7) w := hI 0 (by decide) (by decide)
  have ho : (opsOf Try.f22 7)[3]? = some (⟨some 25, .load 3 (.tmp 24), 3, "member.go:100", #[⟨2, .data⟩], none⟩ : Oper) := by kernel_rfl
  refine wpOp_plain ho rfl ?_
  clear hN hI ho
  obtain ⟨hc, -⟩ := hi0
  go_simp
  first | exact ⟨_, rfl, rfl⟩ | exact ⟨_, rfl, rfl, .inl (Below.refl _ _)⟩
theorem sP_4 : StP 4 := by
  intro ops Q hops wa g0 b v0 Ls x y a w h3 h5 h7 hN hI
  subst hops
  have n3 : a.tmps[25]?.getD undef = .int .i64 y := hN 3 (by decide)
  have ho : (opsOf Try.f22 7)[4]? = some (⟨some 26, .buildSlice 22 1 #[(0, .tmp 25)], 22, "member.go:100", #[⟨3, .data⟩], none⟩ : Oper) := by kernel_rfl
  refine wpOp_plain ho rfl ?_
  clear hN hI ho
  go_simp
  exact ⟨_, rfl, ⟨w.heap.size, rfl, heap_alloc_new w _⟩, .inl (below_alloc (Below.refl _ _) _)⟩
theorem sP_5 : StP 5 := by
  intro ops Q hops wa g0 b v0 Ls x y a w h3 h5 h7 hN hI
  subst hops
  have n0 : a.tmps[22]?.getD undef = v0 := hN 0 (by decide)
  have n4 : (fun (v : Value) (w : World) => ∃ g, v = .slice (some ⟨g, 0, none⟩) 1 1 ∧ w.heap[g]? = some (.cells #[.int .i64 y] 3 (0, 0))) (a.tmps[26]?.getD undef) w := hN 4 (by decide)
  have hi1 : (fun (w : World) => Boxed w b 22 v0 ∧ Kd.R (Kd.int .i64) 3 w wa.heap.size (fun _ => True) v0 Ls ∧ Below wa.heap.size wa w ∧ wa.heap.size ≤ b ∧ Ls.length ≤ 1000) w := hI 1 (by decide) (by decide)
  have ho : (opsOf Try.f22 7)[5]? = some (⟨some 27, .call { callee := .builtin .append, args := #[.tmp 22, .tmp 26], argTypes := #[22, 22] }, 22, "member.go:100", #[⟨0, .data⟩, ⟨4, .data⟩], none⟩ : Oper) := by kernel_rfl
  refine wpOp_plain ho rfl ?_
  clear hN hI ho
  obtain ⟨hbx, hR, hB, hb, hl⟩ := hi1
  obtain ⟨g, e26, hg⟩ := n4
  obtain ⟨i0, hi, hzz⟩ := Option.map_eq_some_iff.1 info3
  simp only [Prod.mk.injEq] at hzz
  obtain ⟨hz0, hz1, hz2⟩ := hzz
  have HO := Kd.own_of_R hR
  have e22 : a.eval (.tmp 22) = v0 := by simp only [Act.eval, Array.getD_eq_getD_getElem?]; exact n0
  have e26' : a.eval (.tmp 26) = .slice (some ⟨g, 0, none⟩) 1 1 := by simp only [Act.eval, Array.getD_eq_getD_getElem?]; exact e26
  refine wp_append_lies w (.tmp 22) (.tmp 26) 22 rfl wa.heap.size 3 i0 (.int .i64 0) 1 8 Try.underlying22 hi hz0 hz1 hz2 rfl (by decide) v0 Ls.length _ e22 HO ⟨g, 0, none⟩ 1 1 [.int .i64 y] e26' rfl ?_ (by simp [Value.oneCell']) (by decide) (by unfold maxLen; omega) (by omega) hB.size _ rfl ?_
  · intro j u hj
    match j, hj with
    | 0, hj => simp at hj; subst hj; exact (blk_cell hg 0).trans rfl
    | j + 1, hj => simp at hj
  · intro g1 cap w1 hO1 hgr hat hlt
    have hB1 : Below wa.heap.size wa w1 := hB.grown hgr hB.size (own_base HO)
    refine ⟨_, rfl, ⟨g1, cap, rfl, hbx.kept hgr (hbx.not_row (by decide) HO), (show w1.ownsRow wa.heap.size 3 1 (.slice (some ⟨g1, 0, none⟩) (Ls.length + 1) cap) (Ls.length + 1) (encs (Value.int .i64) (Ls ++ [y])) by simpa [encs] using hO1), hB1, hb⟩, .inr ⟨?_, ?_⟩⟩
    · intro j u hj hne hk hcc hF
      have hj' : j = 0 ∨ j = 1 ∨ j = 2 ∨ j = 3 ∨ j = 4 ∨ j = 5 ∨ j = 6 := by omega
      rcases hj' with rfl | rfl | rfl | rfl | rfl | rfl | rfl <;> first | exact hF | (exact absurd hk (by decide)) | (exact absurd rfl hne) | (exact absurd hcc (by decide))
    · intro c hc hk hI
      have hc' : c = 0 ∨ c = 1 := by omega
      rcases hc' with rfl | rfl <;> exact absurd hk (by decide)
theorem sP_6 : StP 6 := by
  intro ops Q hops wa g0 b v0 Ls x y a w h3 h5 h7 hN hI
  subst hops
  have n5 : (fun (v : Value) (w : World) => ∃ g cap, v = .slice (some ⟨g, 0, none⟩) (Ls.length + 1) cap ∧ Boxed w b 22 v0 ∧ w.ownsRow wa.heap.size 3 1 v (Ls.length + 1) (encs (Value.int .i64) (Ls ++ [y])) ∧ Below wa.heap.size wa w ∧ wa.heap.size ≤ b) (a.tmps[27]?.getD undef) w := hN 5 (by decide)
  have ho : (opsOf Try.f22 7)[6]? = some (⟨none, .store 22 (.tmp 5) (.tmp 27), 0, "member.go:100", #[⟨5, .data⟩, ⟨5, .chain⟩, ⟨0, .phase⟩, ⟨1, .phase⟩, ⟨2, .phase⟩, ⟨3, .phase⟩, ⟨4, .phase⟩, ⟨5, .phase⟩], none⟩ : Oper) := by kernel_rfl
  refine wpOp_plain ho rfl ?_
  clear hN hI ho
  obtain ⟨g, cap, e27, hbx, hO, hB, hb⟩ := n5
  rw [e27] at hO
  have hc := hbx.cell
  have hf := hbx.frozen
  have HX := Aside0.mk hbx
  have HOO := Aside0.mk hO
  have HB := Aside0.mk (And.intro hB hb)
  clear hbx hO hB hb
  go_simp
  refine ⟨undef, rfl, ⟨_, HX.out.set _, Kd.R_of_own (h1 := fun _ => rfl) (by rw [List.length_append]; exact HOO.out.kept (grownBy_setCell' w b _) (.inr (HX.out.not_row (by decide) HOO.out).symm)) (fun _ _ => trivial), HB.out.1.setCell (p := ⟨b, 0, none⟩) HB.out.2 _⟩, .inr ⟨?_, ?_⟩⟩
  · intro j u hj hne hk hcc hF
    have hj' : j = 0 ∨ j = 1 ∨ j = 2 ∨ j = 3 ∨ j = 4 ∨ j = 5 ∨ j = 6 := by omega
    rcases hj' with rfl | rfl | rfl | rfl | rfl | rfl | rfl <;> first | exact hF | (exact absurd hk (by decide)) | (exact absurd rfl hne) | (exact absurd hcc (by decide))
  · intro c hc hk hI
    have hc' : c = 0 ∨ c = 1 := by omega
    rcases hc' with rfl | rfl <;> exact absurd hk (by decide)
theorem monoP (wa : World) (g0 b : Nat) (v0 : Value) (Ls : List Int) (x y : Int) (j : Nat) (v : Value) (w w' : World) (h : FP wa g0 b v0 Ls x y j v w) (hb : Below w.heap.size w w') : FP wa g0 b v0 Ls x y j v w' := by
  unfold FP at h ⊢
  split <;> first
    | exact True.intro
    | exact h
    | (obtain ⟨g, e, hg⟩ := h; exact ⟨g, e, (hb.block g (Array.getElem?_eq_some_iff.1 hg).1).trans hg⟩)
    | (obtain ⟨g, cap, e, hx, hO, hB, hbb⟩ := h; exact ⟨g, cap, e, (hb.block b hx.lt).trans hx, own_below hO hb, hB.trans (hb.mono hB.size), hbb⟩)
    | (obtain ⟨v', hx, hR, hB⟩ := h; exact ⟨v', (hb.block b hx.lt).trans hx, Kd.R_below hR hb, hB.trans (hb.mono hB.size)⟩)
theorem monoIP (wa : World) (g0 b : Nat) (v0 : Value) (Ls : List Int) (x y : Int) (c : Nat) (w w' : World) (h : IP wa g0 b v0 Ls x y c w) (hb : Below w.heap.size w w') : IP wa g0 b v0 Ls x y c w' := by
  match c, h with
  | 0, h => exact ⟨(hb.cell (by
      have h1 : w.cell? ⟨g0, x.toNat, none⟩ = some (.int .i64 y) := h.1
      exact cell_lt h1)).trans h.1, h.2⟩
  | 1, h => exact ⟨(hb.block b h.1.lt).trans h.1, Kd.R_below h.2.1 hb, h.2.2.1.trans (hb.mono h.2.2.1.size), h.2.2.2⟩
  | c + 2, h => exact True.intro
theorem hinP : ∀ i, i < 7 → ∀ d, dstP i = some d → d < 45 := by
  have h2 : ∀ i, i < 7 → (dstP i).all (fun d => decide (d < 45)) = true := by decide
  intro i hi d hd
  have := h2 i hi
  rw [hd] at this
  simpa using this
set_option maxRecDepth 100000 in
theorem regionP {ops : Array Oper} {Q : Exit → Act → World → Prop} (hops : ops = opsOf Try.f22 7) {id_ : Nat} (wa : World) (g0 b : Nat) (v0 : Value) (Ls : List Int) (x y : Int) (a0 : Act) (w0_ : World) (hI0 : ∀ c, IP wa g0 b v0 Ls x y c w0_) (hsz : a0.tmps.size = 45) (h3 : a0.tmps[3]?.getD undef = .pointer (some ⟨g0, 0, none⟩)) (h5 : a0.tmps[5]?.getD undef = .pointer (some ⟨b, 0, none⟩)) (h7 : a0.tmps[7]?.getD undef = .int .i64 x)
    (hQ : ∀ a w, AgreeO 7 dstP a0 a → FP wa g0 b v0 Ls x y 6 (slotO dstP a 6) w → Q .normal a w) : (Code.region id_ ops true).wp Try.prog Q a0 w0_ := by
  refine region_heldB (n := 7) dstP (FP wa g0 b v0 Ls x y) (IP wa g0 b v0 Ls x y) 2 ndP ncP usP killP killIP useIP (by kernel_rfl) (by rw [hops]; kernel_rfl) (by decide) ?_ (fun j v w w' _ h hb => monoP wa g0 b v0 Ls x y j v w w' h hb) (fun c w w' h hb => monoIP wa g0 b v0 Ls x y c w w' h hb) hI0 (by rw [hops]; kernel_rfl) (by decide) (by decide) (by decide) (by decide) (by decide) ?_ (fun a w hA hF hI => hQ a w hA (hF 6 (by decide) (by decide)) )
  · intro i hi d hd
    rw [hsz]; exact hinP i hi d hd
  · intro i a w hi hA hN hI
    have h3 := (hA.old 3 (by decide)).trans h3
    have h5 := (hA.old 5 (by decide)).trans h5
    have h7 := (hA.old 7 (by decide)).trans h7
    have hi' : i = 0 ∨ i = 1 ∨ i = 2 ∨ i = 3 ∨ i = 4 ∨ i = 5 ∨ i = 6 := by omega
    rcases hi' with rfl | rfl | rfl | rfl | rfl | rfl | rfl
    · exact sP_0 ops Q hops wa g0 b v0 Ls x y a w h3 h5 h7 hN hI
    · exact sP_1 ops Q hops wa g0 b v0 Ls x y a w h3 h5 h7 hN hI
    · exact sP_2 ops Q hops wa g0 b v0 Ls x y a w h3 h5 h7 hN hI
    · exact sP_3 ops Q hops wa g0 b v0 Ls x y a w h3 h5 h7 hN hI
    · exact sP_4 ops Q hops wa g0 b v0 Ls x y a w h3 h5 h7 hN hI
    · exact sP_5 ops Q hops wa g0 b v0 Ls x y a w h3 h5 h7 hN hI
    · exact sP_6 ops Q hops wa g0 b v0 Ls x y a w h3 h5 h7 hN hI
end Go.Proofs.Ytknaffajmfimbaa.PHe
