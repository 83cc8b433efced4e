/- A script of acts, read; how large its entries are. -/
import Derived.Test.YtigjfnleinhahaaPlayA
import Derived.Test.YtigjfnleinhahaaRows

import Derived.ChangeSlices
import Derived.ChangeArms
namespace Go.Proofs.Ytigjfnleinhahaa.PLog
open Go.RowKit Go.Proofs.YtigjfnleinhahaaW.PrintWords Go.Proofs.YtigjfnleinhahaaW.PrintLast Go.Proofs.YtigjfnleinhahaaW.PrintMore
open Go.Proofs.Ytigjfnleinhahaa.Reg
set_option linter.unusedVariables false
set_option linter.unusedSimpArgs false
set_option maxHeartbeats 4000000
set_option maxRecDepth 100000

open Go.Proofs.Ytigjfnleinhahaa
theorem list_of {α : Type} {Q : Nat → α → Prop} : ∀ n, (∀ i, i < n → ∃ a, Q i a) → ∃ l : List α, l.length = n ∧ ∀ i a, l[i]? = some a → Q i a
  | 0, _ => ⟨[], rfl, fun i a h => by simp at h⟩
  | n + 1, h => by
    obtain ⟨l, hl, hq⟩ := list_of n (fun i hi => h i (by omega))
    obtain ⟨a, ha⟩ := h n (by omega)
    refine ⟨l ++ [a], by simp [hl], fun i b hb => ?_⟩
    by_cases e : i < l.length
    · rw [List.getElem?_append_left e] at hb
      exact hq i b hb
    · rw [List.getElem?_append_right (by omega)] at hb
      have : i - l.length = 0 := by
        rcases Nat.eq_zero_or_pos (i - l.length) with h0 | h0
        · exact h0
        · rw [List.getElem?_eq_none (by simp; omega)] at hb; cases hb
      rw [this] at hb
      simp at hb
      subst hb
      have : i = n := by omega
      subst this
      exact ha
theorem sum_bulk {H α : Type} (m : α → Nat) : ∀ (l : List α) (es : List (DataW H)), l.length = es.length → (∀ (i : Nat) a d, l[i]? = some a → es[i]? = some d → m a ≤ Rows.uptoBulk d) → (l.map m).sum ≤ Rows.uptoBulkAll es
  | [], es, _, _ => by simp
  | a :: l, [], h, _ => by simp at h
  | a :: l, d :: es, h, hp => by
    have h1 := hp 0 a d rfl rfl
    have h2 := sum_bulk m l es (by simpa using h) (fun i a' d' x y => hp (i + 1) a' d' (by simpa using x) (by simpa using y))
    simp only [List.map_cons, List.sum_cons, Rows.uptoBulkAll]
    omega
theorem open_list {α : Type} {P : Program} (d : Kd α) (m : α → Nat) {t e size : Nat} (ht : P.underlying t = some (.slice e)) (hc : P.cellsOf e = size) (hs : d.sz = size) {H : Type} {enc : TypeId × Value → H} {w : World} {base : Nat} {sp : Nat → Bool} {held : Bool}
    (hel : ∀ fuel cs x, DataW.trod enc P w base sp held fuel e cs = some x → ∃ v, d.K w v cs ∧ m v ≤ Rows.uptoBulk x.1) {fuel : Nat} {cs : List Value} {x : DataW H × List MemPlace} (h : DataW.trod enc P w base sp held fuel t cs = some x) :
    ∃ A xs c, cs = [.slice A xs.length c] ∧ xs.length ≤ c ∧ d.C w A xs.length xs ∧ (xs.map m).sum ≤ Rows.uptoBulk x.1 := by
  rcases DataW.trod_slice ht h with ⟨rfl, rfl⟩ | ⟨ad, l, c, elems, rest, n, rfl, rfl, rfl, -, hl, hm, hlen, hq, -, -⟩
  · exact ⟨none, [], 0, rfl, Nat.le_refl _, Kd.C_nil _ _, by simp⟩
  · rw [hc] at hq
    obtain ⟨xs, hx, hxq⟩ := list_of (Q := fun i (y : α) => (∃ cs, cs.length = size ∧ d.K w y cs ∧ ∀ j u, cs[j]? = some u → w.cell? (ad.add (i * size + j)) = some u) ∧ ∀ z, elems[i]? = some z → m y ≤ Rows.uptoBulk z.1) l (fun i hi => by
      have h1 := hq i hi
      have hlt : i < elems.length := by omega
      rw [List.getElem?_eq_getElem hlt] at h1
      obtain ⟨cs, h2, h3⟩ := Option.bind_eq_some_iff.1 h1
      obtain ⟨y, hy, hb⟩ := hel _ _ _ h3
      obtain ⟨q1, q2, q3⟩ := World.cells?_some h2
      refine ⟨y, ⟨cs, q2, hy, fun j u hj => ?_⟩, fun z hz => ?_⟩
      · have hj5 : j < size := by have := (List.getElem?_eq_some_iff.1 hj).1; omega
        have := q3 j hj5
        rw [add_add] at this
        rw [this]; exact hj
      · rw [List.getElem?_eq_getElem hlt] at hz
        injection hz with hz
        rw [← hz]
        exact hb)
    subst hx
    refine ⟨some ad, xs, c, rfl, hl, ⟨rfl, by unfold maxLen at hm; omega, fun _ => ⟨ad, rfl, fun j p hj => ?_⟩⟩, ?_⟩
    · obtain ⟨⟨cs, q1, q2, q3⟩, -⟩ := hxq j p hj
      subst hs
      exact ⟨cs, q1, q2, q3⟩
    · have := sum_bulk m xs (elems.map (·.1)) (by rw [List.length_map]; omega) (fun i a b h1 h2 => by
        rw [List.getElem?_map] at h2
        obtain ⟨z, hz, rfl⟩ := Option.map_eq_some_iff.1 h2
        exact (hxq i a h1).2 z hz)
      simp only [Rows.uptoBulk]
      omega
def mS (s : ByteArray) : Nat := s.size + 1
def m58 (x : S58) : Nat := x.f1.size + x.f2.size + x.f3.size + x.f4.size + x.f5.size + x.f6.size + (x.f7.map mS).sum
def m60 (x : S60) : Nat := m58 x.f2 + (x.f3.map (fun _ => 1)).sum
def m49 (y : S49) : Nat := (y.f4.map m60).sum
theorem trod_31 {H : Type} {enc : TypeId × Value → H} {w : World} {base : Nat} {sp : Nat → Bool} {held : Bool} {fuel : Nat} {cs : List Value} {x : DataW H × List MemPlace} (h : DataW.trod enc Try.prog w base sp held fuel 31 cs = some x) : ∃ A xs c, cs = [.slice A xs.length c] ∧ xs.length ≤ c ∧ (Kd.int .i64).C w A xs.length xs ∧ (xs.map (fun _ => 1)).sum ≤ Rows.uptoBulk x.1 :=
  open_list (Kd.int .i64) (fun _ => 1) Try.underlying31 (by kernel_rfl) rfl (fun fuel cs x hx => by
    obtain ⟨a, rfl, rfl, -⟩ := DataW.trod_int Try.underlying3 hx
    exact ⟨a, rfl, by simp [Rows.uptoBulk]⟩) h
theorem trod_56 {H : Type} {enc : TypeId × Value → H} {w : World} {base : Nat} {sp : Nat → Bool} {held : Bool} {fuel : Nat} {cs : List Value} {x : DataW H × List MemPlace} (h : DataW.trod enc Try.prog w base sp held fuel 56 cs = some x) : ∃ A xs c, cs = [.slice A xs.length c] ∧ xs.length ≤ c ∧ Kd.string.C w A xs.length xs ∧ (xs.map mS).sum ≤ Rows.uptoBulk x.1 :=
  open_list Kd.string mS Try.underlying56 (by kernel_rfl) rfl (fun fuel cs x hx => by
    obtain ⟨a, rfl, rfl, -⟩ := DataW.trod_string Try.underlying9 hx
    exact ⟨a, rfl, by simp [Rows.uptoBulk, mS]⟩) h
theorem trod_58 {H : Type} {enc : TypeId × Value → H} {w : World} {base : Nat} {sp : Nat → Bool} {held : Bool} {fuel : Nat} {cs : List Value} {x : DataW H × List MemPlace} (h : DataW.trod enc Try.prog w base sp held fuel 58 cs = some x) : ∃ v : S58, k58.K w v cs ∧ m58 v ≤ Rows.uptoBulk x.1 := by
  obtain ⟨xs, n, rfl, rfl, hl, hxs, hf⟩ := DataW.trod_struct Try.underlying58 h
  have hc : Try.prog.cellsOf 58 = 11 := by kernel_rfl
  rw [hc] at hl
  have hg : ∀ (i : Nat) (f : Field), (#[{ name := "Op", type := 55, offset := 0, embedded := false, tag := "", pkgPath := "", byteOffset := 0 }, { name := "Book", type := 9, offset := 1, embedded := false, tag := "", pkgPath := "", byteOffset := 8 }, { name := "Name", type := 9, offset := 2, embedded := false, tag := "", pkgPath := "", byteOffset := 24 }, { name := "Data", type := 9, offset := 3, embedded := false, tag := "", pkgPath := "", byteOffset := 40 }, { name := "Match", type := 9, offset := 4, embedded := false, tag := "", pkgPath := "", byteOffset := 56 }, { name := "None", type := 9, offset := 5, embedded := false, tag := "", pkgPath := "", byteOffset := 72 }, { name := "Token", type := 9, offset := 6, embedded := false, tag := "", pkgPath := "", byteOffset := 88 }, { name := "Names", type := 56, offset := 7, embedded := false, tag := "", pkgPath := "", byteOffset := 104 }, { name := "At", type := 3, offset := 8, embedded := false, tag := "", pkgPath := "", byteOffset := 128 }, { name := "Session", type := 3, offset := 9, embedded := false, tag := "", pkgPath := "", byteOffset := 136 }, { name := "Seq", type := 3, offset := 10, embedded := false, tag := "", pkgPath := "", byteOffset := 144 }] : Array Field)[i]? = some f → ∃ y, xs[i]? = some y ∧ DataW.trod enc Try.prog w base sp held n f.type ((cs.drop f.offset).take (Try.prog.cellsOf f.type)) = some y := by
    intro i f hi
    have := hf i f hi
    have hlt : i < xs.length := by rw [hxs]; exact (Array.getElem?_eq_some_iff.1 hi).1
    exact ⟨xs[i], List.getElem?_eq_getElem hlt, by rw [this, List.getElem?_eq_getElem hlt]⟩
  obtain ⟨y0, x0, h0⟩ := hg 0 _ rfl
  have h0 : DataW.trod enc Try.prog w base sp held n 55 ((cs.drop 0).take (Try.prog.cellsOf 55)) = some y0 := h0
  rw [show Try.prog.cellsOf 55 = 1 by kernel_rfl] at h0
  obtain ⟨y1, x1, h1⟩ := hg 1 _ rfl
  have h1 : DataW.trod enc Try.prog w base sp held n 9 ((cs.drop 1).take (Try.prog.cellsOf 9)) = some y1 := h1
  rw [show Try.prog.cellsOf 9 = 1 by kernel_rfl] at h1
  obtain ⟨y2, x2, h2⟩ := hg 2 _ rfl
  have h2 : DataW.trod enc Try.prog w base sp held n 9 ((cs.drop 2).take (Try.prog.cellsOf 9)) = some y2 := h2
  rw [show Try.prog.cellsOf 9 = 1 by kernel_rfl] at h2
  obtain ⟨y3, x3, h3⟩ := hg 3 _ rfl
  have h3 : DataW.trod enc Try.prog w base sp held n 9 ((cs.drop 3).take (Try.prog.cellsOf 9)) = some y3 := h3
  rw [show Try.prog.cellsOf 9 = 1 by kernel_rfl] at h3
  obtain ⟨y4, x4, h4⟩ := hg 4 _ rfl
  have h4 : DataW.trod enc Try.prog w base sp held n 9 ((cs.drop 4).take (Try.prog.cellsOf 9)) = some y4 := h4
  rw [show Try.prog.cellsOf 9 = 1 by kernel_rfl] at h4
  obtain ⟨y5, x5, h5⟩ := hg 5 _ rfl
  have h5 : DataW.trod enc Try.prog w base sp held n 9 ((cs.drop 5).take (Try.prog.cellsOf 9)) = some y5 := h5
  rw [show Try.prog.cellsOf 9 = 1 by kernel_rfl] at h5
  obtain ⟨y6, x6, h6⟩ := hg 6 _ rfl
  have h6 : DataW.trod enc Try.prog w base sp held n 9 ((cs.drop 6).take (Try.prog.cellsOf 9)) = some y6 := h6
  rw [show Try.prog.cellsOf 9 = 1 by kernel_rfl] at h6
  obtain ⟨y7, x7, h7⟩ := hg 7 _ rfl
  have h7 : DataW.trod enc Try.prog w base sp held n 56 ((cs.drop 7).take (Try.prog.cellsOf 56)) = some y7 := h7
  rw [show Try.prog.cellsOf 56 = 1 by kernel_rfl] at h7
  obtain ⟨y8, x8, h8⟩ := hg 8 _ rfl
  have h8 : DataW.trod enc Try.prog w base sp held n 3 ((cs.drop 8).take (Try.prog.cellsOf 3)) = some y8 := h8
  rw [show Try.prog.cellsOf 3 = 1 by kernel_rfl] at h8
  obtain ⟨y9, x9, h9⟩ := hg 9 _ rfl
  have h9 : DataW.trod enc Try.prog w base sp held n 3 ((cs.drop 9).take (Try.prog.cellsOf 3)) = some y9 := h9
  rw [show Try.prog.cellsOf 3 = 1 by kernel_rfl] at h9
  obtain ⟨y10, x10, h10⟩ := hg 10 _ rfl
  have h10 : DataW.trod enc Try.prog w base sp held n 3 ((cs.drop 10).take (Try.prog.cellsOf 3)) = some y10 := h10
  rw [show Try.prog.cellsOf 3 = 1 by kernel_rfl] at h10
  have hxs' : xs = [y0, y1, y2, y3, y4, y5, y6, y7, y8, y9, y10] := by
    have hlen : xs.length = 11 := hxs
    match xs, hlen with
    | [a0, a1, a2, a3, a4, a5, a6, a7, a8, a9, a10], _ =>
      simp at x0 x1 x2 x3 x4 x5 x6 x7 x8 x9 x10
      simp [*]
  obtain ⟨a0, e0, b0, c0⟩ := DataW.trod_int Try.underlying55 h0
  obtain ⟨a1, e1, b1, c1⟩ := DataW.trod_string Try.underlying9 h1
  obtain ⟨a2, e2, b2, c2⟩ := DataW.trod_string Try.underlying9 h2
  obtain ⟨a3, e3, b3, c3⟩ := DataW.trod_string Try.underlying9 h3
  obtain ⟨a4, e4, b4, c4⟩ := DataW.trod_string Try.underlying9 h4
  obtain ⟨a5, e5, b5, c5⟩ := DataW.trod_string Try.underlying9 h5
  obtain ⟨a6, e6, b6, c6⟩ := DataW.trod_string Try.underlying9 h6
  obtain ⟨A7, a7, c7, e7, l7, g7, b7⟩ := trod_56 h7
  obtain ⟨a8, e8, b8, c8⟩ := DataW.trod_int Try.underlying3 h8
  obtain ⟨a9, e9, b9, c9⟩ := DataW.trod_int Try.underlying3 h9
  obtain ⟨a10, e10, b10, c10⟩ := DataW.trod_int Try.underlying3 h10
  subst hxs'
  match cs, hl with
  | [v0, v1, v2, v3, v4, v5, v6, v7, v8, v9, v10], _ =>
    simp at e0 e1 e2 e3 e4 e5 e6 e7 e8 e9 e10
    subst e0 e1 e2 e3 e4 e5 e6 e7 e8 e9 e10
    subst b0 b1 b2 b3 b4 b5 b6 b8 b9 b10
    refine ⟨⟨a0, a1, a2, a3, a4, a5, a6, a7, a8, a9, a10⟩, k58_mk w ⟨a0, a1, a2, a3, a4, a5, a6, a7, a8, a9, a10⟩ l7 g7, ?_⟩
    simp only [m58, Rows.uptoBulk, Rows.uptoBulkAll, List.map_cons, List.map_nil, Array.length_toList, ByteArray.size] at *
    omega
theorem trod_60 {H : Type} {enc : TypeId × Value → H} {w : World} {base : Nat} {sp : Nat → Bool} {held : Bool} {fuel : Nat} {cs : List Value} {x : DataW H × List MemPlace} (h : DataW.trod enc Try.prog w base sp held fuel 60 cs = some x) : ∃ v : S60, k60.K w v cs ∧ m60 v ≤ Rows.uptoBulk x.1 := by
  obtain ⟨xs, n, rfl, rfl, hl, hxs, hf⟩ := DataW.trod_struct Try.underlying60 h
  have hc : Try.prog.cellsOf 60 = 14 := by kernel_rfl
  rw [hc] at hl
  have hg : ∀ (i : Nat) (f : Field), (#[{ name := "Term", type := 3, offset := 0, embedded := false, tag := "", pkgPath := "", byteOffset := 0 }, { name := "Kind", type := 54, offset := 1, embedded := false, tag := "", pkgPath := "", byteOffset := 8 }, { name := "Command", type := 58, offset := 2, embedded := false, tag := "", pkgPath := "", byteOffset := 16 }, { name := "Nodes", type := 31, offset := 13, embedded := false, tag := "", pkgPath := "", byteOffset := 168 }] : Array Field)[i]? = some f → ∃ y, xs[i]? = some y ∧ DataW.trod enc Try.prog w base sp held n f.type ((cs.drop f.offset).take (Try.prog.cellsOf f.type)) = some y := by
    intro i f hi
    have := hf i f hi
    have hlt : i < xs.length := by rw [hxs]; exact (Array.getElem?_eq_some_iff.1 hi).1
    exact ⟨xs[i], List.getElem?_eq_getElem hlt, by rw [this, List.getElem?_eq_getElem hlt]⟩
  obtain ⟨y0, x0, h0⟩ := hg 0 _ rfl
  have h0 : DataW.trod enc Try.prog w base sp held n 3 ((cs.drop 0).take (Try.prog.cellsOf 3)) = some y0 := h0
  rw [show Try.prog.cellsOf 3 = 1 by kernel_rfl] at h0
  obtain ⟨y1, x1, h1⟩ := hg 1 _ rfl
  have h1 : DataW.trod enc Try.prog w base sp held n 54 ((cs.drop 1).take (Try.prog.cellsOf 54)) = some y1 := h1
  rw [show Try.prog.cellsOf 54 = 1 by kernel_rfl] at h1
  obtain ⟨y2, x2, h2⟩ := hg 2 _ rfl
  have h2 : DataW.trod enc Try.prog w base sp held n 58 ((cs.drop 2).take (Try.prog.cellsOf 58)) = some y2 := h2
  rw [show Try.prog.cellsOf 58 = 11 by kernel_rfl] at h2
  obtain ⟨y3, x3, h3⟩ := hg 3 _ rfl
  have h3 : DataW.trod enc Try.prog w base sp held n 31 ((cs.drop 13).take (Try.prog.cellsOf 31)) = some y3 := h3
  rw [show Try.prog.cellsOf 31 = 1 by kernel_rfl] at h3
  have hxs' : xs = [y0, y1, y2, y3] := by
    have hlen : xs.length = 4 := hxs
    match xs, hlen with
    | [a0, a1, a2, a3], _ =>
      simp at x0 x1 x2 x3
      simp [*]
  obtain ⟨a0, e0, b0, c0⟩ := DataW.trod_int Try.underlying3 h0
  obtain ⟨a1, e1, b1, c1⟩ := DataW.trod_int Try.underlying54 h1
  obtain ⟨a2, e2, b2⟩ := trod_58 h2
  obtain ⟨A3, a3, c3, e3, l3, g3, b3⟩ := trod_31 h3
  subst hxs'
  have e2' := k58_open e2
  obtain ⟨A9, c9, hcs2, l9, g9⟩ := e2'
  match cs, hl with
  | [v0, v1, v2, v3, v4, v5, v6, v7, v8, v9, v10, v11, v12, v13], _ =>
    simp at e0 e1 hcs2 e3
    obtain ⟨rfl, rfl, rfl, rfl, rfl, rfl, rfl, rfl, rfl, rfl, rfl⟩ := hcs2
    subst e0 e1 e3
    subst b0 b1
    refine ⟨⟨a0, a1, a2, a3⟩, k60_mk w ⟨a0, a1, a2, a3⟩ l9 g9 l3 g3, ?_⟩
    simp only [m60, Rows.uptoBulk, Rows.uptoBulkAll, List.map_cons, List.map_nil] at *
    omega

theorem trod_35 {H : Type} {enc : TypeId × Value → H} {w : World} {base : Nat} {sp : Nat → Bool} {held : Bool} {fuel : Nat} {cs : List Value} {x : DataW H × List MemPlace} (h : DataW.trod enc Try.prog w base sp held fuel 35 cs = some x) : ∃ A xs c, cs = [.slice A xs.length c] ∧ xs.length ≤ c ∧ k60.C w A xs.length xs ∧ (xs.map m60).sum ≤ Rows.uptoBulk x.1 :=
  open_list k60 m60 Try.underlying35 (by kernel_rfl) rfl (fun fuel cs x hx => trod_60 hx) h
def m49' (y : S49) : Nat := if y.f3 ≤ 9223372036854775807 then m49 y else 2 ^ 100
theorem trod_49 {H : Type} {enc : TypeId × Value → H} {w : World} {base : Nat} {sp : Nat → Bool} {held : Bool} {fuel : Nat} {cs : List Value} {x : DataW H × List MemPlace} (h : DataW.trod enc Try.prog w base sp held fuel 49 cs = some x) : ∃ v : S49, k49.K w v cs ∧ m49 v ≤ Rows.uptoBulk x.1 ∧ v.f3 ≤ 9223372036854775807 := by
  obtain ⟨xs, n, rfl, rfl, hl, hxs, hf⟩ := DataW.trod_struct Try.underlying49 h
  have hc : Try.prog.cellsOf 49 = 5 := by kernel_rfl
  rw [hc] at hl
  have hg : ∀ (i : Nat) (f : Field), (#[{ name := "Kind", type := 3, offset := 0, embedded := false, tag := "", pkgPath := "", byteOffset := 0 }, { name := "At", type := 3, offset := 1, embedded := false, tag := "", pkgPath := "", byteOffset := 8 }, { name := "Term", type := 3, offset := 2, embedded := false, tag := "", pkgPath := "", byteOffset := 16 }, { name := "N", type := 3, offset := 3, embedded := false, tag := "", pkgPath := "", byteOffset := 24 }, { name := "Es", type := 35, offset := 4, embedded := false, tag := "", pkgPath := "", byteOffset := 32 }] : Array Field)[i]? = some f → ∃ y, xs[i]? = some y ∧ DataW.trod enc Try.prog w base sp held n f.type ((cs.drop f.offset).take (Try.prog.cellsOf f.type)) = some y := by
    intro i f hi
    have := hf i f hi
    have hlt : i < xs.length := by rw [hxs]; exact (Array.getElem?_eq_some_iff.1 hi).1
    exact ⟨xs[i], List.getElem?_eq_getElem hlt, by rw [this, List.getElem?_eq_getElem hlt]⟩
  obtain ⟨y0, x0, h0⟩ := hg 0 _ rfl
  have h0 : DataW.trod enc Try.prog w base sp held n 3 ((cs.drop 0).take (Try.prog.cellsOf 3)) = some y0 := h0
  rw [show Try.prog.cellsOf 3 = 1 by kernel_rfl] at h0
  obtain ⟨y1, x1, h1⟩ := hg 1 _ rfl
  have h1 : DataW.trod enc Try.prog w base sp held n 3 ((cs.drop 1).take (Try.prog.cellsOf 3)) = some y1 := h1
  rw [show Try.prog.cellsOf 3 = 1 by kernel_rfl] at h1
  obtain ⟨y2, x2, h2⟩ := hg 2 _ rfl
  have h2 : DataW.trod enc Try.prog w base sp held n 3 ((cs.drop 2).take (Try.prog.cellsOf 3)) = some y2 := h2
  rw [show Try.prog.cellsOf 3 = 1 by kernel_rfl] at h2
  obtain ⟨y3, x3, h3⟩ := hg 3 _ rfl
  have h3 : DataW.trod enc Try.prog w base sp held n 3 ((cs.drop 3).take (Try.prog.cellsOf 3)) = some y3 := h3
  rw [show Try.prog.cellsOf 3 = 1 by kernel_rfl] at h3
  obtain ⟨y4, x4, h4⟩ := hg 4 _ rfl
  have h4 : DataW.trod enc Try.prog w base sp held n 35 ((cs.drop 4).take (Try.prog.cellsOf 35)) = some y4 := h4
  rw [show Try.prog.cellsOf 35 = 1 by kernel_rfl] at h4
  have hxs' : xs = [y0, y1, y2, y3, y4] := by
    have hlen : xs.length = 5 := hxs
    match xs, hlen with
    | [a0, a1, a2, a3, a4], _ =>
      simp at x0 x1 x2 x3 x4
      simp [*]
  obtain ⟨a0, e0, b0, c0⟩ := DataW.trod_int Try.underlying3 h0
  obtain ⟨a1, e1, b1, c1⟩ := DataW.trod_int Try.underlying3 h1
  obtain ⟨a2, e2, b2, c2⟩ := DataW.trod_int Try.underlying3 h2
  obtain ⟨a3, e3, b3, c3⟩ := DataW.trod_int Try.underlying3 h3
  obtain ⟨A4, a4, c4, e4, l4, g4, b4⟩ := trod_35 h4
  subst hxs'
  match cs, hl with
  | [v0, v1, v2, v3, v4], _ =>
    simp at e0 e1 e2 e3 e4
    subst e0 e1 e2 e3 e4
    subst b0 b1 b2 b3
    have w3 : a3 ≤ 9223372036854775807 := by have : -9223372036854775808 ≤ a3 ∧ a3 ≤ 9223372036854775807 := by simpa [Lit.wf, IntKind.min, IntKind.max, IntKind.signed, IntKind.bits] using c3
                                             exact this.2
    refine ⟨⟨a0, a1, a2, a3, a4⟩, k49_mk w ⟨a0, a1, a2, a3, a4⟩ l4 g4, ?_, w3⟩
    simp only [m49, Rows.uptoBulk, Rows.uptoBulkAll, List.map_cons, List.map_nil] at *
    omega

theorem trod_44 {H : Type} {enc : TypeId × Value → H} {w : World} {base : Nat} {sp : Nat → Bool} {held : Bool} {fuel : Nat} {cs : List Value} {x : DataW H × List MemPlace} (h : DataW.trod enc Try.prog w base sp held fuel 44 cs = some x) : ∃ A xs c, cs = [.slice A xs.length c] ∧ xs.length ≤ c ∧ k49.C w A xs.length xs ∧ (xs.map m49').sum ≤ Rows.uptoBulk x.1 :=
  open_list k49 m49' Try.underlying44 (by kernel_rfl) rfl (fun fuel cs x hx => by
    obtain ⟨v, h1, h2, h3⟩ := trod_49 hx
    exact ⟨v, h1, by unfold m49'; rw [if_pos h3]; exact h2⟩) h
theorem sum_mem {α : Type} (m : α → Nat) {l : List α} {x : α} (h : x ∈ l) : m x ≤ (l.map m).sum := by
  induction l with
  | nil => cases h
  | cons y l ih =>
    simp only [List.map_cons, List.sum_cons]
    rcases List.mem_cons.1 h with rfl | h
    · omega
    · have := ih h; omega
theorem names_mS : ∀ l : List ByteArray, l.length + namesLen l ≤ 9 * (l.map mS).sum
  | [] => by simp [namesLen]
  | s :: l => by
    have := names_mS l
    simp only [namesLen, List.map_cons, List.sum_cons, mS, List.length_cons]
    omega
theorem ones (l : List Int) : (l.map (fun _ => 1)).sum = l.length := by
  induction l with
  | nil => rfl
  | cons a l ih => simp only [List.map_cons, List.sum_cons, ih, List.length_cons]; omega
theorem ok_of_m60 {x : S60} (h : m60 x ≤ 1048576) : okE x ∧ okS x := by
  have h1 := names_mS x.f2.f7
  have h2 := ones x.f3
  unfold m60 m58 at h
  refine ⟨⟨by omega, by omega⟩, ⟨by omega, by omega, ?_⟩⟩
  unfold cmdLen
  omega
theorem okActs {acts : List S49} {k : Nat} (h : (acts.map m49').sum ≤ k) (hk : k ≤ 1048576) : ∀ y ∈ acts, okAct y := by
  intro y hy
  have h1 := sum_mem m49' hy
  have h2 : y.f3 ≤ 9223372036854775807 := by
    by_cases e : y.f3 ≤ 9223372036854775807
    · exact e
    · have e2 : m49' y = 2 ^ 100 := by unfold m49'; rw [if_neg e]
      rw [e2] at h1
      have : (2 : Nat) ^ 100 = 1267650600228229401496703205376 := by decide
      omega
  have h3 : m49 y ≤ 1048576 := by
    have e2 : m49' y = m49 y := by unfold m49'; rw [if_pos h2]
    rw [e2] at h1
    omega
  have h4 : ∀ x ∈ y.f4, m60 x ≤ 1048576 := fun x hx => by
    have := sum_mem m60 hx
    unfold m49 at h3
    omega
  exact ⟨h2, fun x hx => (ok_of_m60 (h4 x hx)).1, fun x hx => (ok_of_m60 (h4 x hx)).2⟩

end Go.Proofs.Ytigjfnleinhahaa.PLog
