/- strings.Replacer.build: what it lays. -/
import Derived.Test.YtdjdbmopckhcdaaOnce
import Derived.Deep.WholeRow
import Derived.RangeFuncBox
namespace Go.Proofs.Ytdjdbmopckhcdaa.PV
open Go.RowKit Go.Proofs.YtdjdbmopckhcdaaW.PrintWords Go.Proofs.YtdjdbmopckhcdaaW.PrintLast Go.Proofs.YtdjdbmopckhcdaaW.PrintMore
open Go.Proofs
set_option linter.unusedVariables false
set_option linter.unusedSimpArgs false
set_option maxHeartbeats 4000000
set_option maxRecDepth 100000

theorem heap_alloc_old' (w : World) (o : Obj) (k : Nat) (hk : k < w.heap.size) : (w.alloc o).heap[k]? = w.heap[k]? := by
  show (w.heap.push o)[k]? = _
  rw [Array.getElem?_push, if_neg (by omega)]
theorem grown_set (W : World) (b i : Nat) (v : Value) : W.grownBy (W.setCell ⟨b, i, none⟩ v) (some b) :=
  ⟨rfl, rfl, rfl, (KeepsWalks.setCell W _ v).size, fun k _ hk => Below.heap_setCell _ _ _ k (fun e => hk (by rw [e]))⟩

def Z104 : Array Value := Array.replicate 257 (.slice none 0 0)
def BS0 (v : Value) : Array Value := (Z104.toList.set 256 v).toArray
theorem Z104_size : Z104.size = 257 := by simp [Z104]
theorem BS0_size (v : Value) : (BS0 v).size = 257 := by simp [BS0, Z104]
theorem BS0_last (v : Value) : (BS0 v)[256]? = some v := by simp [BS0, Z104]
theorem BS0_old (v : Value) (j : Nat) (hj : j < 256) : (BS0 v)[j]? = some (.slice none 0 0) := by
  have h1 : ¬ 256 = j := by omega
  have h2 : j < 257 := by omega
  unfold BS0
  rw [List.getElem?_toArray, List.getElem?_set_ne h1, show Z104.toList = List.replicate 257 (.slice none 0 0) from Array.toList_replicate, List.getElem?_replicate, if_pos h2]
theorem info104 : (Try.prog.info? 104).map (fun i => (i.zero, i.size)) = some (some (.agg Z104), 257) := by kernel_rfl
theorem run_make29 (W : World) : (Instr.makeSlice 29 (.int .i64 0) (.int .i64 4)).run Try.prog W = .ok (.slice (some ⟨W.heap.size, 0, none⟩) 0 4) (W.alloc (.cells #[.string ⟨#[]⟩, .string ⟨#[]⟩, .string ⟨#[]⟩, .string ⟨#[]⟩] 9)) := by kernel_rfl
theorem infoS9 : (Try.prog.info? 9).map (fun i => (i.zero, i.size, i.bytes)) = some (some (.string ⟨#[]⟩), 1, 16) := by kernel_rfl
def olds : List ByteArray := [⟨#[92]⟩, ⟨#[92, 92]⟩, ⟨#[44]⟩, ⟨#[92, 44]⟩, ⟨#[59]⟩, ⟨#[92, 59]⟩, ⟨#[10]⟩, ⟨#[92, 110]⟩]
/-- One byte's cell: what it is replaced by. -/
def RepC (W : World) (v : Value) : Option (UInt8 × UInt8) → Prop
  | none => v = .slice none 0 0
  | some (x, y) => ∃ k c X fr, v = .slice (some ⟨k, 0, none⟩) 2 c ∧ 2 ≤ c ∧ W.heap[k]? = some (.cells X 5 fr) ∧ X[0]? = some (.int .u8 x.toNat) ∧ X[1]? = some (.int .u8 y.toNat)
def Keeps5 (W W' : World) : Prop := ∀ (k : Nat) (X : Array Value) (fr : Nat × Nat), W.heap[k]? = some (.cells X 5 fr) → ∃ fr', W'.heap[k]? = some (.cells X 5 fr')
theorem RepC.keeps {W W' : World} {v : Value} {o : Option (UInt8 × UInt8)} (h : RepC W v o) (hk : Keeps5 W W') : RepC W' v o := by
  cases o with
  | none => exact h
  | some p =>
    obtain ⟨k, c, X, fr, e, hc, hX, h0, h1⟩ := h
    obtain ⟨fr', h'⟩ := hk k X fr hX
    exact ⟨k, c, X, fr', e, hc, h', h0, h1⟩
structure BSt (W : World) (base g : Nat) (C : Array Value) (v : Value) (T : List ByteArray) (done : Nat → Option (UInt8 × UInt8)) : Prop where
  blk : W.heap[g]? = some (.cells C 104 (0, 0))
  low : base ≤ g
  size : C.size = 257
  row : C[256]? = some v
  own : W.ownsRow base 9 1 v T.length (encs Value.string T)
  reps : ∀ j, j < 256 → ∃ u, C[j]? = some u ∧ RepC W u (done j)
theorem blk_set {W : World} {g : Nat} {C : Array Value} {t : TypeId} (h : W.heap[g]? = some (.cells C t (0, 0))) (i : Nat) (v : Value) : (W.setCell ⟨g, i, none⟩ v).heap[g]? = some (.cells (C.setIfInBounds i v) t (0, 0)) := by
  simp only [World.setCell, Array.getElem?_modify, if_true, h]
  rfl
theorem keeps5_set {W : World} {g : Nat} {C : Array Value} (h : W.heap[g]? = some (.cells C 104 (0, 0))) (i : Nat) (v : Value) : Keeps5 W (W.setCell ⟨g, i, none⟩ v) := by
  intro k X fr hk
  refine ⟨fr, ((grown_set W g i v).block k (Array.getElem?_eq_some_iff.1 hk).1 (fun e => ?_)).trans hk⟩
  injection e with e
  subst e
  rw [h] at hk
  simp at hk
theorem keeps5_grown {W W' : World} {base n : Nat} {v : Value} {xs : List Value} (ho : W.ownsRow base 9 1 v n xs) (hg : W.grownBy W' v.ownBlock) : Keeps5 W W' := by
  intro k X fr hk
  refine ⟨fr, (hg.block k (Array.getElem?_eq_some_iff.1 hk).1 (fun e => ?_)).trans hk⟩
  rcases ho.2 with ⟨rfl, _⟩ | ⟨g, cap, cur, rfl, _, hgb, _⟩
  · simp [Value.ownBlock] at e
  · obtain rfl : k = g := by simpa [Value.ownBlock] using e
    rw [hgb] at hk
    simp at hk
theorem keeps5_bytes (W : World) (s : ByteArray) : Keeps5 W (Lib.bytesWorld W 5 s) := fun k X fr hk => ⟨fr, (Lib.bytesWorld_at_old W 5 s k (Array.getElem?_eq_some_iff.1 hk).1).trans hk⟩
theorem Keeps5.trans {A B C : World} (h : Keeps5 A B) (h' : Keeps5 B C) : Keeps5 A C := fun k X fr hk => by
  obtain ⟨f1, h1⟩ := h k X fr hk
  exact h' k X f1 h1
theorem keeps5_alloc (W : World) (o : Obj) : Keeps5 W (W.alloc o) := fun k X fr hk => ⟨fr, (heap_alloc_old' W o k (Array.getElem?_eq_some_iff.1 hk).1).trans hk⟩
theorem BSt.alloc {W : World} {base g : Nat} {C : Array Value} {v : Value} {T : List ByteArray} {done : Nat → Option (UInt8 × UInt8)} (h : BSt W base g C v T done) (o : Obj) : BSt (W.alloc o) base g C v T done :=
  ⟨(heap_alloc_old' W o g (Array.getElem?_eq_some_iff.1 h.blk).1).trans h.blk, h.low, h.size, h.row, h.own.alloc o, fun j hj => by
    obtain ⟨u, hu, hr⟩ := h.reps j hj
    exact ⟨u, hu, hr.keeps (keeps5_alloc W o)⟩⟩
theorem BSt.nowhere {W : World} {base g : Nat} {C : Array Value} {v : Value} {T : List ByteArray} {done : Nat → Option (UInt8 × UInt8)} (h : BSt W base g C v T done) : some g ≠ v.ownBlock := by
  rcases h.own.2 with ⟨e, _⟩ | ⟨k, cap, cur, e, _, hgb, _⟩
  · rw [e]; simp [Value.ownBlock]
  · rw [e]
    intro e'
    obtain rfl : g = k := by simpa [Value.ownBlock] using e'
    have := h.blk.symm.trans hgb
    simp at this
/-- Behind 'toReplace = append(toReplace, x)'. -/
theorem BSt.app {W w1 : World} {base g : Nat} {C : Array Value} {v v1 : Value} {T : List ByteArray} {done : Nat → Option (UInt8 × UInt8)} {x : ByteArray} (h : BSt W base g C v T done) (ho : w1.ownsRow base 9 1 v1 (T ++ [x]).length (encs Value.string (T ++ [x]))) (hg : W.grownBy w1 v.ownBlock) :
    w1.heap[g]? = some (.cells C 104 (0, 0)) ∧ BSt (w1.setCell ⟨g, 256, none⟩ v1) base g (C.setIfInBounds 256 v1) v1 (T ++ [x]) done := by
  have hb : w1.heap[g]? = some (.cells C 104 (0, 0)) := (hg.block g (Array.getElem?_eq_some_iff.1 h.blk).1 h.nowhere).trans h.blk
  have hne : v1.ownBlock ≠ some g := by
    intro e
    rcases ho.2 with ⟨e1, _⟩ | ⟨k, cap, cur, e1, _, hgb, _⟩
    · rw [e1] at e; simp [Value.ownBlock] at e
    · rw [e1] at e
      obtain rfl : k = g := by simpa [Value.ownBlock] using e
      have := hb.symm.trans hgb
      simp at this
  refine ⟨hb, blk_set hb 256 v1, h.low, by rw [Array.size_setIfInBounds]; exact h.size, ?_, ho.kept (grown_set w1 g 256 v1) (.inr hne), fun j hj => ?_⟩
  · rw [Array.getElem?_setIfInBounds, if_pos rfl, if_pos (by rw [h.size]; omega)]
  · obtain ⟨u, hu, hr⟩ := h.reps j hj
    exact ⟨u, by rw [Array.getElem?_setIfInBounds, if_neg (by omega)]; exact hu, hr.keeps ((keeps5_grown h.own hg).trans (keeps5_set hb 256 v1))⟩
theorem grownBy_bytes (W : World) (s : ByteArray) (row : Option Nat) : W.grownBy (Lib.bytesWorld W 5 s) row :=
  ⟨rfl, rfl, rfl, by rw [Lib.bytesWorld_size]; omega, fun k hk _ => Lib.bytesWorld_at_old W 5 s k hk⟩
/-- Behind 'replacements[o] = []byte(n)', n of two bytes. -/
theorem BSt.rep {W : World} {base g : Nat} {C : Array Value} {v : Value} {T : List ByteArray} {done : Nat → Option (UInt8 × UInt8)} (h : BSt W base g C v T done) (o : Nat) (ho : o < 256) (a b : UInt8) (c : Nat) (hc : 2 ≤ c) :
    BSt ((Lib.bytesWorld W 5 ⟨#[a, b]⟩).setCell ⟨g, o, none⟩ (.slice (some ⟨W.heap.size, 0, none⟩) 2 c)) base g (C.setIfInBounds o (.slice (some ⟨W.heap.size, 0, none⟩) 2 c)) v T (fun j => if j = o then some (a, b) else done j) := by
  have hlt := (Array.getElem?_eq_some_iff.1 h.blk).1
  have hb : (Lib.bytesWorld W 5 ⟨#[a, b]⟩).heap[g]? = some (.cells C 104 (0, 0)) := (Lib.bytesWorld_at_old W 5 _ g hlt).trans h.blk
  have hn := Lib.bytesWorld_at_new W 5 ⟨#[a, b]⟩
  have hK := (keeps5_bytes W ⟨#[a, b]⟩).trans (keeps5_set hb o (.slice (some ⟨W.heap.size, 0, none⟩) 2 c))
  refine ⟨blk_set hb o _, h.low, by rw [Array.size_setIfInBounds]; exact h.size, by rw [Array.getElem?_setIfInBounds, if_neg (by omega)]; exact h.row, ?_, fun j hj => ?_⟩
  · exact (h.own.kept (grownBy_bytes W _ none) (by
      rcases h.own.2 with ⟨e, _⟩ | ⟨k, cap, cur, e, _⟩
      · exact .inl (by rw [e]; rfl)
      · exact .inr (by rw [e]; simp [Value.ownBlock]))).kept (grown_set _ g o _) (.inr (fun e => h.nowhere e.symm))
  · by_cases e : j = o
    · subst e
      refine ⟨_, by rw [Array.getElem?_setIfInBounds, if_pos rfl, if_pos (by rw [h.size]; omega)], ?_⟩
      rw [if_pos rfl]
      obtain ⟨fr', h'⟩ := keeps5_set hb j (.slice (some ⟨W.heap.size, 0, none⟩) 2 c) W.heap.size _ _ hn
      exact ⟨W.heap.size, c, _, fr', rfl, hc, h', by simp [Lib.bytesCells, Array.getElem?_append], by simp [Lib.bytesCells, Array.getElem?_append]⟩
    · obtain ⟨u, hu, hr⟩ := h.reps j hj
      rw [if_neg e]
      exact ⟨u, by rw [Array.getElem?_setIfInBounds, if_neg (fun h => e h.symm)]; exact hu, hr.keeps hK⟩

end Go.Proofs.Ytdjdbmopckhcdaa.PV
