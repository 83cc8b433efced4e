/- A script of operations, read. -/
import Derived.Test.YtgpinkgfgkolfaaApp
import Derived.ChangeSlices
import Derived.ChangeArms
namespace Go.Proofs.Ytgpinkgfgkolfaa.PD
open Go.RowKit Go.Proofs.YtgpinkgfgkolfaaW.PrintWords Go.Proofs.YtgpinkgfgkolfaaW.PrintLast Go.Proofs.YtgpinkgfgkolfaaW.PrintMore
set_option linter.unusedVariables false
set_option linter.unusedSimpArgs false
set_option maxHeartbeats 4000000
set_option maxRecDepth 100000

open Go.Proofs
theorem list_of {α : Type} {Q : Nat → α → Prop} : ∀ n, (∀ i, i < n → ∃ a, Q i a) → ∃ l : List α, l.length = n ∧ ∀ i a, l[i]? = some a → Q i a
  | 0, _ => ⟨[], rfl, fun i a h => by simp at h⟩
  | n + 1, h => by
    obtain ⟨l, hl, hq⟩ := list_of n (fun i hi => h i (by omega))
    obtain ⟨a, ha⟩ := h n (by omega)
    refine ⟨l ++ [a], by simp [hl], fun i b hb => ?_⟩
    by_cases e : i < l.length
    · rw [List.getElem?_append_left e] at hb
      exact hq i b hb
    · rw [List.getElem?_append_right (by omega)] at hb
      have : i - l.length = 0 := by
        rcases Nat.eq_zero_or_pos (i - l.length) with h0 | h0
        · exact h0
        · rw [List.getElem?_eq_none (by simp; omega)] at hb; cases hb
      rw [this] at hb
      simp at hb
      subst hb
      have : i = n := by omega
      subst this
      exact ha

structure OpD where
  kd : Int
  ni : Int
  ti : Int
  n : Int
  A : Option Addr
  c : Nat
  bs : List UInt8
def OpD.cells (o : OpD) : List Value := [.int .i64 o.kd, .int .i64 o.ni, .int .i64 o.ti, .int .i64 o.n, .slice o.A o.bs.length o.c]
def OpD.wf (o : OpD) : Prop := -9223372036854775808 ≤ o.n ∧ o.n ≤ 9223372036854775807 ∧ o.bs.length ≤ 9223372036854775807
/-- A script, as a slice reads it. -/
def OpsAt (w : World) (a : Option Addr) (l : List OpD) : Prop :=
  l.length ≤ 9223372036854775807 ∧ ∀ i o, l[i]? = some o → ∃ x : Addr, a = some x ∧ (∀ j u, o.cells[j]? = some u → w.cell? (x.add (i * 5 + j)) = some u) ∧ SrcAt w (.slice o.A o.bs.length o.c) o.bs ∧ o.wf
theorem trod_bytes {H : Type} {enc : TypeId × Value → H} {w : World} {base : Nat} {sp : Nat → Bool} {held : Bool} {fuel : Nat} {cs : List Value} {x : DataW H × List MemPlace} (h : DataW.trod enc Try.prog w base sp held fuel 29 cs = some x) : ∃ A bs c, cs = [.slice A bs.length c] ∧ SrcAt w (.slice A bs.length c) bs ∧ bs.length ≤ 9223372036854775807 := by
  rcases DataW.trod_slice Try.underlying29 h with ⟨rfl, rfl⟩ | ⟨ad, l, c, elems, rest, n, rfl, rfl, -, -, hl, hm, hlen, hq, -, -⟩
  · exact ⟨none, [], 0, rfl, .inl ⟨rfl, rfl⟩, by decide⟩
  · rw [show Try.prog.cellsOf 5 = 1 by kernel_rfl] at hq
    obtain ⟨xs, hx, hxq⟩ := list_of (Q := fun i (b : UInt8) => w.cell? (ad.add i) = some (.int .u8 (b.toNat : Int))) l (fun i hi => by
      have h1 := hq i hi
      have hlt : i < elems.length := by omega
      rw [List.getElem?_eq_getElem hlt] at h1
      obtain ⟨cs, h2, h3⟩ := Option.bind_eq_some_iff.1 h1
      obtain ⟨z, e, -, wf⟩ := DataW.trod_int Try.underlying5 h3
      obtain ⟨q1, q2, q3⟩ := World.cells?_some h2
      have hz : 0 ≤ z ∧ z ≤ 255 := by simpa [Lit.wf, IntKind.min, IntKind.max, IntKind.signed, IntKind.bits] using wf
      refine ⟨UInt8.ofNat z.toNat, ?_⟩
      have h0 := q3 0 (by omega)
      rw [add_add, Nat.mul_one, Nat.add_zero] at h0
      rw [h0, e]
      have : ((UInt8.ofNat z.toNat).toNat : Int) = z := by
        show ((z.toNat % 256 : Nat) : Int) = z
        rw [Nat.mod_eq_of_lt (by omega)]; omega
      rw [this]; rfl)
    subst hx
    refine ⟨some ad, xs, c, rfl, .inr ⟨ad, c, rfl, hl, fun j u hu => ?_⟩, by unfold maxLen at hm; omega⟩
    unfold bcells at hu
    rw [List.getElem?_map] at hu
    obtain ⟨b, hb, rfl⟩ := Option.map_eq_some_iff.1 hu
    exact hxq j b hb
theorem trod_op {H : Type} {enc : TypeId × Value → H} {w : World} {base : Nat} {sp : Nat → Bool} {held : Bool} {fuel : Nat} {cs : List Value} {x : DataW H × List MemPlace} (h : DataW.trod enc Try.prog w base sp held fuel 42 cs = some x) : ∃ o : OpD, cs = o.cells ∧ SrcAt w (.slice o.A o.bs.length o.c) o.bs ∧ o.wf := by
  obtain ⟨xs, n, rfl, -, hl, hxs, hf⟩ := DataW.trod_struct Try.underlying42 h
  have hc : Try.prog.cellsOf 42 = 5 := by kernel_rfl
  rw [hc] at hl
  have hg : ∀ (i : Nat) (f : Field), (#[{ name := "Kind", type := 3, offset := 0, embedded := false, tag := "", pkgPath := "", byteOffset := 0 }, { name := "Name", type := 3, offset := 1, embedded := false, tag := "", pkgPath := "", byteOffset := 8 }, { name := "To", type := 3, offset := 2, embedded := false, tag := "", pkgPath := "", byteOffset := 16 }, { name := "N", type := 3, offset := 3, embedded := false, tag := "", pkgPath := "", byteOffset := 24 }, { name := "B", type := 29, offset := 4, embedded := false, tag := "", pkgPath := "", byteOffset := 32 }] : Array Field)[i]? = some f → ∃ y, DataW.trod enc Try.prog w base sp held n f.type ((cs.drop f.offset).take (Try.prog.cellsOf f.type)) = some y := by
    intro i f hi
    have := hf i f hi
    have hlt : i < xs.length := by rw [hxs]; exact (Array.getElem?_eq_some_iff.1 hi).1
    exact ⟨xs[i], by rw [this, List.getElem?_eq_getElem hlt]⟩
  obtain ⟨y0, h0⟩ := hg 0 _ rfl
  obtain ⟨y1, h1⟩ := hg 1 _ rfl
  obtain ⟨y2, h2⟩ := hg 2 _ rfl
  obtain ⟨y3, h3⟩ := hg 3 _ rfl
  obtain ⟨y4, h4⟩ := hg 4 _ rfl
  have c3 : Try.prog.cellsOf 3 = 1 := by kernel_rfl
  have c29 : Try.prog.cellsOf 29 = 1 := by kernel_rfl
  have h0 : DataW.trod enc Try.prog w base sp held n 3 ((cs.drop 0).take (Try.prog.cellsOf 3)) = some y0 := h0
  rw [c3] at h0
  have h1 : DataW.trod enc Try.prog w base sp held n 3 ((cs.drop 1).take (Try.prog.cellsOf 3)) = some y1 := h1
  rw [c3] at h1
  have h2 : DataW.trod enc Try.prog w base sp held n 3 ((cs.drop 2).take (Try.prog.cellsOf 3)) = some y2 := h2
  rw [c3] at h2
  have h3 : DataW.trod enc Try.prog w base sp held n 3 ((cs.drop 3).take (Try.prog.cellsOf 3)) = some y3 := h3
  rw [c3] at h3
  have h4 : DataW.trod enc Try.prog w base sp held n 29 ((cs.drop 4).take (Try.prog.cellsOf 29)) = some y4 := h4
  rw [c29] at h4
  obtain ⟨a0, e0, -, -⟩ := DataW.trod_int Try.underlying3 h0
  obtain ⟨a1, e1, -, -⟩ := DataW.trod_int Try.underlying3 h1
  obtain ⟨a2, e2, -, -⟩ := DataW.trod_int Try.underlying3 h2
  obtain ⟨a3, e3, -, wf3⟩ := DataW.trod_int Try.underlying3 h3
  obtain ⟨A, bs, c, e4, hs, hlen⟩ := trod_bytes h4
  have hn : -9223372036854775808 ≤ a3 ∧ a3 ≤ 9223372036854775807 := by simpa [Lit.wf, IntKind.min, IntKind.max, IntKind.signed, IntKind.bits] using wf3
  match cs, hl with
  | [v0, v1, v2, v3, v4], _ =>
    simp at e0 e1 e2 e3 e4
    subst e0 e1 e2 e3 e4
    exact ⟨⟨a0, a1, a2, a3, A, c, bs⟩, rfl, hs, hn.1, hn.2, hlen⟩
theorem open_ops {H : Type} {enc : TypeId × Value → H} {w : World} {base : Nat} {sp : Nat → Bool} {held : Bool} {a : Option Addr} {len cap : Nat} {d : DataW H} {ps : List MemPlace} (h : DataW.Trod enc Try.prog w base sp held 40 (.slice a len cap) d ps) : ∃ l : List OpD, l.length = len ∧ OpsAt w a l := by
  obtain ⟨fuel, hf⟩ := h
  rcases DataW.trod_slice Try.underlying40 hf with ⟨hcs, _⟩ | ⟨x, l, c, elems, rest, n, _, hcs, _, _, hl, hm, hlen, hel, _, _⟩
  · simp [Value.cells] at hcs
    obtain ⟨rfl, rfl, rfl⟩ := hcs
    exact ⟨[], rfl, by decide, fun i o h => by simp at h⟩
  · simp [Value.cells] at hcs
    obtain ⟨rfl, rfl, rfl⟩ := hcs
    have c5 : Try.prog.cellsOf 42 = 5 := by kernel_rfl
    rw [c5] at hel
    obtain ⟨acts, ha, hq⟩ := list_of (Q := fun i (o : OpD) => (∀ j u, o.cells[j]? = some u → w.cell? (x.add (i * 5 + j)) = some u) ∧ SrcAt w (.slice o.A o.bs.length o.c) o.bs ∧ o.wf) len (fun i hi => by
      have h1 := hel i hi
      have hlt : i < elems.length := by omega
      rw [List.getElem?_eq_getElem hlt] at h1
      obtain ⟨cs, h2, h3⟩ := Option.bind_eq_some_iff.1 h1
      obtain ⟨o, ho, hs, hwf⟩ := trod_op h3
      obtain ⟨q1, q2, q3⟩ := World.cells?_some h2
      refine ⟨o, fun j u hj => ?_, hs, hwf⟩
      rw [← ho] at hj
      have hj5 : j < 5 := by have := (List.getElem?_eq_some_iff.1 hj).1; omega
      have := q3 j hj5
      rw [add_add] at this
      rw [this]; exact hj)
    exact ⟨acts, ha, by unfold maxLen at hm; omega, fun i o hi => ⟨x, rfl, hq i o hi⟩⟩

end Go.Proofs.Ytgpinkgfgkolfaa.PD
