/- Rows of bytes that are written over. -/
import Derived.Test.YtgpinkgfgkolfaaTwo
namespace Go.Proofs.Ytgpinkgfgkolfaa.PD
open Go.RowKit Go.Proofs.YtgpinkgfgkolfaaW.PrintWords Go.Proofs.YtgpinkgfgkolfaaW.PrintLast Go.Proofs.YtgpinkgfgkolfaaW.PrintMore
set_option linter.unusedVariables false
set_option linter.unusedSimpArgs false
set_option maxHeartbeats 4000000
set_option maxRecDepth 100000

open Go.Proofs
/-- Bytes that may be written over. -/
def BRow (w : World) (A : Option Addr) (n : Nat) (ok : Nat → Prop) : Prop :=
  n = 0 ∨ ∃ g cur, A = some ⟨g, 0, none⟩ ∧ ok g ∧ w.heap[g]? = some (.cells cur 5 (0, 0)) ∧ ∀ i, i < n → ∃ z : Int, cur[i]? = some (.int .u8 z)
theorem BRow.of {w : World} {ok : Nat → Prop} {A : Option Addr} {n c : Nat} {bs : List UInt8} (h : RowAt w ok (.slice A n c) bs) : n = bs.length ∧ BRow w A n ok := by
  rcases h with ⟨h1, h2⟩ | ⟨g, cap, cur, h1, h2, h3, h4, h5, h6, h7, h8⟩
  · injection h1 with e1 e2 e3
    rw [h2]
    exact ⟨e2, .inl e2⟩
  · injection h1 with e1 e2 e3
    refine ⟨e2, .inr ⟨g, cur, e1, h2, h3, fun i hi => ?_⟩⟩
    have hi' : i < (bcells bs).length := by rw [bcells_len]; omega
    have : (cur.toList.take bs.length)[i]? = some ((bcells bs)[i]) := by rw [h8]; exact List.getElem?_eq_getElem hi'
    rw [List.getElem?_take, if_pos (by omega), Array.getElem?_toList] at this
    refine ⟨(bs[i]'(by omega)).toNat, ?_⟩
    rw [this]
    simp [bcells]
theorem BRow.at {w : World} {ok : Nat → Prop} {A : Option Addr} {n : Nat} (h : BRow w A n ok) {i : Nat} (hi : i < n) : ∃ g z, A = some ⟨g, 0, none⟩ ∧ ok g ∧ w.cell? ⟨g, i, none⟩ = some (.int .u8 z) ∧ w.frozen? ⟨g, i, none⟩ = false := by
  rcases h with h | ⟨g, cur, h1, h2, h3, h4⟩
  · omega
  · obtain ⟨z, hz⟩ := h4 i hi
    exact ⟨g, z, h1, h2, by simp [World.cell?, h3, hz], Lib.frozen_of_heap h3 i⟩
theorem BRow.set {w : World} {ok : Nat → Prop} {g n : Nat} (h : BRow w (some ⟨g, 0, none⟩) n ok) (i : Nat) (z : Int) : BRow (w.setCell ⟨g, i, none⟩ (.int .u8 z)) (some ⟨g, 0, none⟩) n ok := by
  rcases h with h | ⟨g', cur, h1, h2, h3, h4⟩
  · exact .inl h
  · injection h1 with h1
    injection h1 with h1 _ _
    subst h1
    refine .inr ⟨g, _, rfl, h2, Lib.heap_setCell_same h3 _, fun j hj => ?_⟩
    obtain ⟨y, hy⟩ := h4 j hj
    have hsz := (Array.getElem?_eq_some_iff.1 hy).1
    by_cases hji : i = j
    · subst hji
      exact ⟨z, by simp [hsz]⟩
    · exact ⟨y, by rw [Array.getElem?_setIfInBounds_ne hji]; exact hy⟩
theorem read_len {k L : Nat} {A : Ab} (h : Fine k L A) (nm : Nm) : ((readL A nm).getD []).length ≤ L := by
  unfold readL
  cases findL A.dir nm with
  | none => exact Nat.zero_le _
  | some f => exact (h.len f).2
theorem read_brow (ok : Nat → Prop) (d : Nat) (A : Ab) (nm : ByteArray) (w : World) {k L : Nat} (h : DiskAt w ok d A) (hnm : nm.size ≤ maxLen) (hF : Fine k L A) (hL : L ≤ 1000000) :
    Calls Try.prog 17 #[fptr d, .string nm] w fun e w' => ∃ N RA rc sm, e = .returned (.tuple #[.slice RA N rc, .int .i64 sm]) ∧ N ≤ 1000000 ∧ BRow w' RA N (fun k => w.heap.size ≤ k) ∧ Below w.heap.size w w' := by
  refine (read_calls ok d A nm w h hnm (fun f hf => by have := (hF.len f).2; omega)).mono ?_
  rintro e w3 ⟨v, he, hrow, hb3⟩
  obtain ⟨RA, rc, hv, -⟩ := hrow.slice
  subst hv
  exact ⟨_, RA, rc, _, he, Nat.le_trans (read_len hF _) hL, (BRow.of hrow).2, hb3⟩
theorem BRow.keep {w w' : World} {ok : Nat → Prop} {A : Option Addr} {n : Nat} (h : BRow w A n ok) (hk : ∀ g cur, ok g → w.heap[g]? = some (.cells cur 5 (0, 0)) → w'.heap[g]? = w.heap[g]?) : BRow w' A n ok := by
  rcases h with h | ⟨g, cur, h1, h2, h3, h4⟩
  · exact .inl h
  · exact .inr ⟨g, cur, h1, h2, (hk g cur h2 h3).trans h3, h4⟩

open Go.Proofs
theorem Fine.writeN {k L l : Nat} {A : Ab} (h : Fine k L A) (nm : Nm) (b : List UInt8) (fN : Nat) (hl : l = b.length) : Fine (k + 1) (L + l) (writeL A nm b fN).2 := hl ▸ h.write nm b fN
/-- append([]byte{}, b...): a row of its own. -/
theorem own_row (w : World) (BA : Option Addr) (c : Nat) (bs : List UInt8) (h : SrcAt (w.alloc (.cells #[] 5)) (.slice BA bs.length c) bs) (hl : bs.length ≤ 1000) :
    ∃ RA rc w1 r, (Builtin.append_ #[29, 29] 29 #[.slice (some ⟨w.heap.size, 0, none⟩) 0 0, .slice BA bs.length c]).run Try.prog (w.alloc (.cells #[] 5)) = .ok (.slice RA bs.length rc) w1 ∧ RowAt w1 (fun k => k = r) (.slice RA bs.length rc) bs ∧ w.heap.size ≤ r ∧ r < w1.heap.size ∧ Below w.heap.size w w1 := by
  have hrow : RowAt (w.alloc (.cells #[] 5)) (fun k => k = w.heap.size) (.slice (some ⟨w.heap.size, 0, none⟩) ([] : List UInt8).length 0) [] := .inr ⟨_, _, _, rfl, rfl, heap_alloc_new w _, Nat.le_refl _, by decide, .inl rfl, Nat.le_refl _, rfl⟩
  obtain ⟨v1, w1, hrun, hr1, hg⟩ := append_row hrow h (by simpa using (by omega : bs.length ≤ 140737488355328))
  rw [List.nil_append] at hr1
  have hb : Below w.heap.size w w1 := by
    have h1 : Below w.heap.size w (w.alloc (.cells #[] 5)) := below_alloc (Below.refl _ _) _
    refine ⟨hg.os.trans h1.os, hg.tape.trans h1.tape, hg.output.trans h1.output, Nat.le_trans h1.size hg.size, fun k hk => (hg.block k (Nat.lt_of_lt_of_le hk h1.size) (fun e => ?_)).trans (h1.block k hk)⟩
    have e' : some w.heap.size = some k := e.symm
    injection e' with e'
    omega
  have hsz : w.heap.size < w1.heap.size := Nat.lt_of_lt_of_le (by simp) hg.size
  rcases hr1 with ⟨rfl, rfl⟩ | ⟨g, cap, cur, rfl, h2, h3, h4⟩
  · exact ⟨none, 0, w1, w.heap.size, hrun, .inl ⟨rfl, rfl⟩, Nat.le_refl _, hsz, hb⟩
  · refine ⟨_, cap, w1, g, hrun, .inr ⟨g, cap, cur, rfl, rfl, h3, h4⟩, ?_, (Array.getElem?_eq_some_iff.1 h3).1, hb⟩
    rcases h2 with h2 | h2
    · omega
    · rw [h2]; simp

end Go.Proofs.Ytgpinkgfgkolfaa.PD
