/- A disk, as it lies in memory; Disk.may walked. -/
import Derived.Test.YtgpinkgfgkolfaaMapD
import Derived.OwnWalk
import Derived.Lib.BufferMore
import Derived.Lib.ConvBytes
namespace Go.Proofs.Ytgpinkgfgkolfaa.PD
open Go.RowKit Go.Proofs.YtgpinkgfgkolfaaW.PrintWords Go.Proofs.YtgpinkgfgkolfaaW.PrintLast Go.Proofs.YtgpinkgfgkolfaaW.PrintMore
set_option linter.unusedVariables false
set_option linter.unusedSimpArgs false
set_option maxHeartbeats 4000000
set_option maxRecDepth 100000

open Go.Proofs
/-- What the blocks outside ok hold stays. -/
structure Kp (ok : Nat → Prop) (w w' : World) : Prop where
  os : w'.os = w.os
  tape : w'.tape = w.tape
  output : w'.output = w.output
  size : w.heap.size ≤ w'.heap.size
  block : ∀ k, k < w.heap.size → ¬ ok k → w'.heap[k]? = w.heap[k]?
theorem Kp.refl (ok : Nat → Prop) (w : World) : Kp ok w w := ⟨rfl, rfl, rfl, Nat.le_refl _, fun _ _ _ => rfl⟩
theorem Kp.trans {ok : Nat → Prop} {a b c : World} (h : Kp ok a b) (k : Kp ok b c) : Kp ok a c :=
  ⟨k.os.trans h.os, k.tape.trans h.tape, k.output.trans h.output, Nat.le_trans h.size k.size, fun i hi ho => (k.block i (Nat.lt_of_lt_of_le hi h.size) ho).trans (h.block i hi ho)⟩
theorem Kp.mono {ok ok' : Nat → Prop} {a b : World} (h : Kp ok a b) (hk : ∀ k, ok k → ok' k) : Kp ok' a b := ⟨h.os, h.tape, h.output, h.size, fun i hi ho => h.block i hi (fun e => ho (hk i e))⟩
theorem Kp.below {ok : Nat → Prop} {a b : World} (h : Kp ok a b) {B : Nat} (hB : B ≤ a.heap.size) (hk : ∀ k, ok k → B ≤ k) : Below B a b := ⟨h.os, h.tape, h.output, h.size, fun i hi => h.block i (by omega) (fun e => by have := hk i e; omega)⟩
theorem Kp.of_below {ok : Nat → Prop} {a b : World} (h : Below a.heap.size a b) : Kp ok a b := ⟨h.os, h.tape, h.output, h.size, fun i hi _ => h.block i hi⟩
theorem Kp.of_grown {ok : Nat → Prop} {a b : World} {r : Option Nat} (h : a.grownBy b r) (hr : ∀ k, r = some k → ok k) : Kp ok a b := ⟨h.os, h.tape, h.output, h.size, fun i hi ho => h.block i hi (fun e => ho (hr i e.symm))⟩
theorem Kp.setCell {ok : Nat → Prop} {a b : World} (h : Kp ok a b) {p : Addr} (hp : ok p.block) (u : Value) : Kp ok a (b.setCell p u) := by
  refine h.trans ⟨rfl, rfl, rfl, ?_, fun k _ ho => Below.heap_setCell b p u k (fun e => ho (e ▸ hp))⟩
  exact ((Below.refl 0 b).setCell (Nat.zero_le _) u).size
theorem Kp.drawn {ok : Nat → Prop} {a b : World} (h : Kp ok a b) (n : Nat) : Kp ok a (b.drewN n) := h.trans (Kp.of_below (pw_below_drewN (Below.refl _ _) n))
def bcells (l : List UInt8) : List Value := l.map fun b => .int .u8 (b.toNat : Int)
/-- A row of bytes behind a slice. -/
def RowAt (w : World) (ok : Nat → Prop) (v : Value) (bs : List UInt8) : Prop :=
  (v = .slice none 0 0 ∧ bs = []) ∨ ∃ g cap cur, v = .slice (some ⟨g, 0, none⟩) bs.length cap ∧ ok g ∧ w.heap[g]? = some (.cells cur 5 (0, 0)) ∧ bs.length ≤ cap ∧ cap ≤ maxLen ∧ (cur.size = cap ∨ cap = bs.length) ∧ bs.length ≤ cur.size ∧ cur.toList.take bs.length = bcells bs
theorem RowAt.keep {w w' : World} {ok : Nat → Prop} {v : Value} {bs : List UInt8} (h : RowAt w ok v bs) (hk : ∀ g cur, ok g → w.heap[g]? = some (.cells cur 5 (0, 0)) → w'.heap[g]? = w.heap[g]?) : RowAt w' ok v bs := by
  rcases h with h | ⟨g, cap, cur, h1, h2, h3, h4⟩
  · exact .inl h
  · exact .inr ⟨g, cap, cur, h1, h2, (hk g cur h2 h3).trans h3, h4⟩
theorem RowAt.mono {w : World} {ok ok' : Nat → Prop} {v : Value} {bs : List UInt8} (h : RowAt w ok v bs) (hk : ∀ g cur, ok g → w.heap[g]? = some (.cells cur 5 (0, 0)) → ok' g) : RowAt w ok' v bs := by
  rcases h with h | ⟨g, cap, cur, h1, h2, h3, h4⟩
  · exact .inl h
  · exact .inr ⟨g, cap, cur, h1, hk g cur h2 h3, h3, h4⟩
/-- A file: its bytes, how many are safe. -/
def FileAt (w : World) (ok : Nat → Prop) (tg : Nat → Nat) (f : Nat) (x : List UInt8 × Nat) : Prop :=
  ok f ∧ ∃ v, w.heap[f]? = some (.cells #[v, .int .i64 (x.2 : Int)] 65 (0, 0)) ∧ RowAt w (fun k => ok k ∧ tg k = f) v x.1
theorem FileAt.keep {w w' : World} {ok : Nat → Prop} {tg : Nat → Nat} {f : Nat} {x : List UInt8 × Nat} (h : FileAt w ok tg f x) (hf : w'.heap[f]? = w.heap[f]?) (hk : ∀ g cur, ok g → tg g = f → w.heap[g]? = some (.cells cur 5 (0, 0)) → w'.heap[g]? = w.heap[g]?) : FileAt w' ok tg f x := by
  obtain ⟨h1, v, h2, h3⟩ := h
  exact ⟨h1, v, hf.trans h2, h3.keep (fun g cur hg hh => hk g cur hg.1 hg.2 hh)⟩
theorem FileAt.lt {w : World} {ok : Nat → Prop} {tg : Nat → Nat} {f : Nat} {x : List UInt8 × Nat} (h : FileAt w ok tg f x) : f < w.heap.size := by
  obtain ⟨_, v, h2, _⟩ := h
  exact (Array.getElem?_eq_some_iff.1 h2).1
/-- What a disk says. -/
structure Ab where
  room : Int
  dir : Dir
  safe : Dir
  fs : Nat → List UInt8 × Nat
  fl : Bool
  left : Int
  torn : Bool
def cellsD (A : Ab) (bd bs : Nat) : Array Value := #[.int .i64 A.room, .map (some bd), .map (some bs), .bool A.fl, .int .i64 A.left, .bool A.torn]
/-- Its files. -/
def In (A : Ab) (f : Nat) : Prop := (∃ n, (n, f) ∈ A.dir) ∨ ∃ n, (n, f) ∈ A.safe
def DiskB (w : World) (ok : Nat → Prop) (d bd bs : Nat) (tg : Nat → Nat) (A : Ab) : Prop :=
  ok d ∧ ok bd ∧ ok bs ∧ bd ≠ bs ∧ w.heap[d]? = some (.cells (cellsD A bd bs) 59 (0, 0)) ∧ MapL w bd A.dir ∧ MapL w bs A.safe ∧ ∀ f, In A f → FileAt w ok tg f (A.fs f)
def DiskAt (w : World) (ok : Nat → Prop) (d : Nat) (A : Ab) : Prop := ∃ bd bs tg, DiskB w ok d bd bs tg A
theorem DiskB.lt {w : World} {ok : Nat → Prop} {d bd bs : Nat} {tg : Nat → Nat} {A : Ab} (h : DiskB w ok d bd bs tg A) : d < w.heap.size := (Array.getElem?_eq_some_iff.1 h.2.2.2.2.1).1
theorem DiskB.ne {w : World} {ok : Nat → Prop} {d bd bs : Nat} {tg : Nat → Nat} {A : Ab} (h : DiskB w ok d bd bs tg A) : bd ≠ d ∧ bs ≠ d := by
  obtain ⟨_, _, _, _, hd, h1, h2, _⟩ := h
  obtain ⟨_, _, h1⟩ := h1.isMap
  obtain ⟨_, _, h2⟩ := h2.isMap
  constructor
  · intro e; rw [e, hd] at h1; cases h1
  · intro e; rw [e, hd] at h2; cases h2
theorem DiskB.fne {w : World} {ok : Nat → Prop} {d bd bs : Nat} {tg : Nat → Nat} {A : Ab} (h : DiskB w ok d bd bs tg A) {f : Nat} (hf : In A f) : f ≠ d := by
  obtain ⟨_, _, _, _, hd, _, _, h3⟩ := h
  obtain ⟨_, v, h4, _⟩ := h3 f hf
  intro e
  rw [e, hd] at h4
  simp only [Option.some.injEq, Obj.cells.injEq] at h4
  exact absurd h4.2.1 (by decide)
/-- Only the disk's own cells are turned. -/
theorem DiskB.turn {w w' : World} {ok : Nat → Prop} {d bd bs : Nat} {tg : Nat → Nat} {A A' : Ab} (h : DiskB w ok d bd bs tg A) (e1 : A'.dir = A.dir) (e2 : A'.safe = A.safe) (e3 : A'.fs = A.fs)
    (hd : w'.heap[d]? = some (.cells (cellsD A' bd bs) 59 (0, 0))) (hk : ∀ k, k < w.heap.size → k ≠ d → w'.heap[k]? = w.heap[k]?) : DiskB w' ok d bd bs tg A' := by
  have hne := h.ne
  have hfn := fun f hf => h.fne (f := f) hf
  obtain ⟨h1, h2, h3, h4, h5, h6, h7, h8⟩ := h
  refine ⟨h1, h2, h3, h4, hd, ?_, ?_, fun f hf => ?_⟩
  · rw [e1]; exact h6.keep (hk _ h6.lt hne.1)
  · rw [e2]; exact h7.keep (hk _ h7.lt hne.2)
  · rw [e3]
    have hf' : In A f := by unfold In at hf ⊢; rw [e1, e2] at hf; exact hf
    have h9 := h8 f hf'
    refine h9.keep (hk f h9.lt (hfn f hf')) (fun g cur _ _ hg => hk g (Array.getElem?_eq_some_iff.1 hg).1 (fun e => ?_))
    rw [e, h5] at hg
    simp only [Option.some.injEq, Obj.cells.injEq] at hg
    exact absurd hg.2.1 (by decide)
/-- A world that holds the same blocks, and more. -/
theorem DiskAt.keep {w w' : World} {ok : Nat → Prop} {d : Nat} {A : Ab} (h : DiskAt w ok d A) (hk : ∀ k, k < w.heap.size → ok k → w'.heap[k]? = w.heap[k]?) : DiskAt w' ok d A := by
  obtain ⟨bd, bs, tg, h⟩ := h
  have hl := h.lt
  obtain ⟨h1, h2, h3, h4, h5, h6, h7, h8⟩ := h
  refine ⟨bd, bs, tg, h1, h2, h3, h4, (hk d hl h1).trans h5, h6.keep (hk _ h6.lt h2), h7.keep (hk _ h7.lt h3), fun f hf => ?_⟩
  have h9 := h8 f hf
  exact h9.keep (hk f h9.lt h9.1) (fun g cur ho _ hg => hk g (Array.getElem?_eq_some_iff.1 hg).1 ho)
theorem DiskAt.mono {w : World} {ok ok' : Nat → Prop} {d : Nat} {A : Ab} (h : DiskAt w ok d A) (hk : ∀ k, k < w.heap.size → ok k → ok' k) : DiskAt w ok' d A := by
  obtain ⟨bd, bs, tg, h⟩ := h
  have hl := h.lt
  obtain ⟨h1, h2, h3, h4, h5, h6, h7, h8⟩ := h
  refine ⟨bd, bs, tg, hk _ hl h1, hk _ h6.lt h2, hk _ h7.lt h3, h4, h5, h6, h7, fun f hf => ?_⟩
  have h9 := h8 f hf
  have hlt := h9.lt
  obtain ⟨g1, v, g2, g3⟩ := h9
  exact ⟨hk f hlt g1, v, g2, g3.mono (fun g cur hg hh => ⟨hk g (Array.getElem?_eq_some_iff.1 hh).1 hg.1, hg.2⟩)⟩
theorem DiskAt.bound {w : World} {ok : Nat → Prop} {d : Nat} {A : Ab} (h : DiskAt w ok d A) : DiskAt w (fun k => ok k ∧ k < w.heap.size) d A := h.mono (fun _ h1 h2 => ⟨h2, h1⟩)
/-- The cells of the disk's own block. -/
theorem DiskB.cell {w : World} {ok : Nat → Prop} {d bd bs : Nat} {tg : Nat → Nat} {A : Ab} (h : DiskB w ok d bd bs tg A) (i : Nat) : w.cell? ⟨d, i, none⟩ = (cellsD A bd bs)[i]? := by
  simp [World.cell?, h.2.2.2.2.1]
theorem DiskB.free {w : World} {ok : Nat → Prop} {d bd bs : Nat} {tg : Nat → Nat} {A : Ab} (h : DiskB w ok d bd bs tg A) (i : Nat) : w.frozen? ⟨d, i, none⟩ = false := Lib.frozen_of_heap h.2.2.2.2.1 i
theorem heap_put {w : World} {g i : Nat} {cs cs' : Array Value} {t : TypeId} (h : w.heap[g]? = some (.cells cs t (0, 0))) (v : Value) (he : cs.setIfInBounds i v = cs') : (w.setCell ⟨g, i, none⟩ v).heap[g]? = some (.cells cs' t (0, 0)) := by
  rw [← he]; exact Lib.heap_setCell_same h v
/-- May a call do what it does; is it the first that fails? -/
def mayL (A : Ab) : Bool × Bool × Ab :=
  if A.fl = false then (true, false, A) else if A.left > 0 then (true, false, { A with left := A.left - 1 }) else (false, !A.torn, { A with torn := true })

theorem may_calls (ok : Nat → Prop) (d : Nat) (A : Ab) (w : World) (h : DiskAt w ok d A) (hr : -9223372036854775808 ≤ A.left ∧ A.left ≤ 9223372036854775807) :
    Calls Try.prog 22 #[.pointer (some ⟨d, 0, none⟩)] w fun e w' => e = .returned (.tuple #[.bool (mayL A).1, .bool (mayL A).2.1]) ∧ DiskAt w' ok d (mayL A).2.2 ∧ Kp ok w w' := by
  obtain ⟨bd, bs, tg, h⟩ := h
  have c3 : w.cell? ⟨d, 3, none⟩ = some (.bool A.fl) := h.cell 3
  have c4 : w.cell? ⟨d, 4, none⟩ = some (.int .i64 A.left) := h.cell 4
  have c5 : w.cell? ⟨d, 5, none⟩ = some (.bool A.torn) := h.cell 5
  have f4 := h.free 4
  have f5 := h.free 5
  have HD := Aside0.mk h
  have HOK := Aside0.mk h.1
  clear h
  unfold mayL
  by_cases hfl : A.fl = false
  · rw [hfl] at c3
    rw [if_pos hfl]
    clear c4 c5 f4 f5 hfl
    go_enter Try.func22, Try.ntmps22
    go_wp2_with fail
    go_ret2
    exact ⟨rfl, ⟨bd, bs, tg, HD.out⟩, Kp.refl _ _⟩
  · have hfl' : A.fl = true := by simpa using hfl
    rw [hfl'] at c3
    rw [if_neg hfl]
    by_cases hl : A.left > 0
    · rw [if_pos hl]
      have q1 : decide (0 < A.left) = true := decide_eq_true hl
      have q2 : wrap64 (A.left - 1) = A.left - 1 := by unfold wrap64; omega
      have HH := Aside0.mk (heap_put HD.out.2.2.2.2.1 (i := 4) (.int .i64 (A.left - 1)) (cs' := cellsD { A with left := A.left - 1 } bd bs) rfl)
      clear c5 f5 hfl hfl' hr hl
      go_enter Try.func22, Try.ntmps22
      go_wp2_with fail
      go_ret2
      rw [q2]
      exact ⟨rfl, ⟨bd, bs, tg, HD.out.turn rfl rfl rfl HH.out (fun k _ hk => Below.heap_setCell _ _ _ _ hk)⟩, (Kp.refl _ _).setCell HOK.out _⟩
    · rw [if_neg hl]
      have q1 : decide (0 < A.left) = false := decide_eq_false hl
      have HH := Aside0.mk (heap_put HD.out.2.2.2.2.1 (i := 5) (.bool true) (cs' := cellsD { A with torn := true } bd bs) rfl)
      clear f4 hfl hfl' hr hl
      go_enter Try.func22, Try.ntmps22
      go_wp2_with fail
      go_ret2
      exact ⟨rfl, ⟨bd, bs, tg, HD.out.turn rfl rfl rfl HH.out (fun k _ hk => Below.heap_setCell _ _ _ _ hk)⟩, (Kp.refl _ _).setCell HOK.out _⟩

end Go.Proofs.Ytgpinkgfgkolfaa.PD
