/- The document's Same: entries are the same as themselves. -/
import Derived.Test.YtigjfnleinhahaaPLogx4
import Derived.Test.YtigjfnleinhahaaOwn
namespace Go.Proofs.Ytigjfnleinhahaa.PLog
open Go.RowKit Go.Proofs.YtigjfnleinhahaaW.PrintWords Go.Proofs.YtigjfnleinhahaaW.PrintLast Go.Proofs.YtigjfnleinhahaaW.PrintMore
set_option linter.unusedVariables false
set_option linter.unusedSimpArgs false
theorem number_loop (v : Int) : ∀ (j : Nat) (xs : List Int) (k : Nat), j ≤ 8 → j < k → (xs.length + j ≤ 140737488355328) → ∃ r, calepinref15_number.l0 k xs v ((j : Int) - 1) = some r ∧ r.length = xs.length + j := by
  intro j
  induction j with
  | zero =>
    intro xs k _ hk _
    obtain ⟨k, rfl⟩ : ∃ q, k = q + 1 := ⟨k - 1, by omega⟩
    refine ⟨xs, ?_, rfl⟩
    unfold calepinref15_number.l0
    rw [if_neg (by omega)]
  | succ j ih =>
    intro xs k hj hk hl
    obtain ⟨k, rfl⟩ : ∃ q, k = q + 1 := ⟨k - 1, by omega⟩
    unfold calepinref15_number.l0
    have e : (((j + 1 : Nat) : Int) - 1) = (j : Int) := by omega
    rw [e, if_pos (by omega), if_pos (by rw [IntKind.wrap_u64]; omega), if_pos (by omega)]
    have hw : wrap64 ((j : Int) - 1) = (j : Int) - 1 := by unfold wrap64; omega
    rw [hw]
    obtain ⟨r, h1, h2⟩ := ih (xs ++ [(shr .u64 (IntKind.u64.wrap v) (IntKind.u64.wrap (wrap64 (8 * (j : Int))))) % 256]) k (by omega) (by omega) (by simp; omega)
    exact ⟨r, h1, by rw [h2]; simp; omega⟩
theorem number_some (xs : List Int) (v : Int) (k : Nat) (hk : 8 < k) (hl : xs.length + 8 ≤ 140737488355328) : ∃ r, calepinref15_number.f k xs v = some r ∧ r.length = xs.length + 8 := by
  obtain ⟨r, h1, h2⟩ := number_loop v 8 xs k (Nat.le_refl _) hk hl
  exact ⟨r, h1, h2⟩
theorem text_some (xs : List Int) (s : ByteArray) (k : Nat) (hk : 8 < k) (hl : xs.length + (8 + s.size) < 140737488355328) : ∃ r, calepinref15_text.f k xs s = some r ∧ r.length = xs.length + (8 + s.size) := by
  obtain ⟨r, h1, h2⟩ := number_some xs (s.size : Int) k hk (by omega)
  refine ⟨r ++ bytesOf s, ?_, by rw [List.length_append, h2, bytesOf_length]; omega⟩
  unfold calepinref15_text.f
  rw [h1, Option.bind_some, if_pos (by omega)]
/-- How many bytes names are put as. -/
def namesLen : List ByteArray → Nat
  | [] => 0
  | s :: l => (8 + s.size) + namesLen l
theorem names_some (b0 b8 b9 b10 : Int) (b1 b2 b3 b4 b5 b6 : ByteArray) (b7 : List ByteArray) (ns : List ByteArray) (hn : ns.length ≤ 9223372036854775807) : ∀ (n i k : Nat) (xs : List Int), i + n = ns.length → n + 9 < k → xs.length + namesLen (ns.drop i) + 24 < 140737488355328 →
    ∃ r, calepinref15_Command.l0 k xs ns (ns.length : Int) (i : Int) b0 b1 b2 b3 b4 b5 b6 b7 b8 b9 b10 = some r := by
  intro n
  induction n with
  | zero =>
    intro i k xs hi hk hl
    obtain ⟨k, rfl⟩ : ∃ q, k = q + 1 := ⟨k - 1, by omega⟩
    unfold calepinref15_Command.l0
    rw [if_neg (by omega)]
    obtain ⟨r1, h1, l1⟩ := number_some xs b8 k (by omega) (by omega)
    obtain ⟨r2, h2, l2⟩ := number_some r1 b9 k (by omega) (by omega)
    obtain ⟨r3, h3, l3⟩ := number_some r2 b10 k (by omega) (by omega)
    rw [h1, Option.bind_some, h2, Option.bind_some, h3, Option.bind_some]
    exact ⟨r3, rfl⟩
  | succ n ih =>
    intro i k xs hi hk hl
    obtain ⟨k, rfl⟩ : ∃ q, k = q + 1 := ⟨k - 1, by omega⟩
    have hlt : i < ns.length := by omega
    unfold calepinref15_Command.l0
    have hw : wrap64 ((i : Int) + 1) = ((i + 1 : Nat) : Int) := by unfold wrap64; omega
    have hrd : rdOf ByteArray.empty ns (i : Int) = ns[i] := by simp [rdOf, hlt]
    rw [List.drop_eq_getElem_cons hlt, namesLen] at hl
    rw [if_pos (by omega), if_pos (by omega), if_pos (by omega), hrd, hw]
    obtain ⟨r, h1, h2⟩ := text_some xs ns[i] k (by omega) (by omega)
    rw [h1, Option.bind_some]
    exact ih (i + 1) k r (by omega) (by omega) (by rw [h2]; omega)
/-- How many bytes a command is put as. -/
def cmdLen (x : S58) : Nat := x.f1.size + x.f2.size + x.f3.size + x.f4.size + x.f5.size + x.f6.size + namesLen x.f7 + 88
theorem command_some (x : S58) (hn : x.f7.length ≤ 9223372036854775807) (hl : cmdLen x < 140737488355328) (k : Nat) (hk : x.f7.length + 9 < k) : ∃ r, calepinref15_Command.f k x.f0 x.f1 x.f2 x.f3 x.f4 x.f5 x.f6 x.f7 x.f8 x.f9 x.f10 = some r := by
  unfold cmdLen at hl
  unfold calepinref15_Command.f
  obtain ⟨r0, h0, l0⟩ := number_some [] x.f0 k (by omega) (by simp)
  obtain ⟨r1, h1, l1⟩ := text_some r0 x.f1 k (by omega) (by rw [l0]; simp; omega)
  obtain ⟨r2, h2, l2⟩ := text_some r1 x.f2 k (by omega) (by rw [l1, l0]; simp; omega)
  obtain ⟨r3, h3, l3⟩ := text_some r2 x.f3 k (by omega) (by rw [l2, l1, l0]; simp; omega)
  obtain ⟨r4, h4, l4⟩ := text_some r3 x.f4 k (by omega) (by rw [l3, l2, l1, l0]; simp; omega)
  obtain ⟨r5, h5, l5⟩ := text_some r4 x.f5 k (by omega) (by rw [l4, l3, l2, l1, l0]; simp; omega)
  obtain ⟨r6, h6, l6⟩ := text_some r5 x.f6 k (by omega) (by rw [l5, l4, l3, l2, l1, l0]; simp; omega)
  obtain ⟨r7, h7, l7⟩ := number_some r6 (x.f7.length : Int) k (by omega) (by rw [l6, l5, l4, l3, l2, l1, l0]; simp; omega)
  obtain ⟨r8, h8⟩ := names_some x.f0 x.f8 x.f9 x.f10 x.f1 x.f2 x.f3 x.f4 x.f5 x.f6 x.f7 x.f7 hn x.f7.length 0 k r7 (by omega) (by omega) (by rw [l7, l6, l5, l4, l3, l2, l1, l0, List.drop_zero]; simp; omega)
  rw [h0, Option.bind_some, h1, Option.bind_some, h2, Option.bind_some, h3, Option.bind_some, h4, Option.bind_some, h5, Option.bind_some, h6, Option.bind_some, h7, Option.bind_some]
  exact ⟨r8, h8⟩
/-- An entry whose lists and texts are no longer than a machine bears. -/
def okS (x : S60) : Prop := x.f3.length ≤ 9223372036854775807 ∧ x.f2.f7.length ≤ 9223372036854775807 ∧ cmdLen x.f2 < 140737488355328
theorem nodes_loop (p0 p1 p2 : Int) (p3 p4 p5 p6 p7 p8 : ByteArray) (p9 : List ByteArray) (p10 p11 p12 : Int) (q0 q1 q2 : Int) (q3 q4 q5 q6 q7 q8 : ByteArray) (q9 : List ByteArray) (q10 q11 q12 : Int) (x13 : List Int) (hl : x13.length ≤ 9223372036854775807) : ∀ (n i k : Nat), i + n = x13.length → n < k → calepinref20_One.l0 k (x13.length : Int) (i : Int) p0 p1 p2 p3 p4 p5 p6 p7 p8 p9 p10 p11 p12 x13 q0 q1 q2 q3 q4 q5 q6 q7 q8 q9 q10 q11 q12 x13 = some true := by
  intro n
  induction n with
  | zero =>
    intro i k hi hk
    obtain ⟨k, rfl⟩ : ∃ q, k = q + 1 := ⟨k - 1, by omega⟩
    unfold calepinref20_One.l0
    rw [if_neg (by omega)]
  | succ n ih =>
    intro i k hi hk
    obtain ⟨k, rfl⟩ : ∃ q, k = q + 1 := ⟨k - 1, by omega⟩
    unfold calepinref20_One.l0
    have hw : wrap64 ((i : Int) + 1) = ((i + 1 : Nat) : Int) := by unfold wrap64; omega
    rw [if_pos (by omega), if_pos (by omega), if_pos (by omega), if_pos (by omega), if_pos rfl, hw]
    exact ih (i + 1) k (by omega) (by omega)
theorem one_same (x : S60) (h : okS x) (k : Nat) (hk : x.f3.length + x.f2.f7.length + 10 < k) : calepinref20_One.f k x.f0 x.f1 x.f2.f0 x.f2.f1 x.f2.f2 x.f2.f3 x.f2.f4 x.f2.f5 x.f2.f6 x.f2.f7 x.f2.f8 x.f2.f9 x.f2.f10 x.f3 x.f0 x.f1 x.f2.f0 x.f2.f1 x.f2.f2 x.f2.f3 x.f2.f4 x.f2.f5 x.f2.f6 x.f2.f7 x.f2.f8 x.f2.f9 x.f2.f10 x.f3 = some true := by
  obtain ⟨r, hr⟩ := command_some x.f2 h.2.1 h.2.2 k (by omega)
  unfold calepinref20_One.f
  rw [if_pos rfl, if_pos rfl, if_pos rfl, hr, Option.bind_some, Option.bind_some]
  obtain ⟨k, rfl⟩ : ∃ q, k = q + 1 := ⟨k - 1, by omega⟩
  simp only [calepinref20_One.j0]
  rw [if_neg (by simp)]
  exact nodes_loop x.f0 x.f1 x.f2.f0 x.f2.f1 x.f2.f2 x.f2.f3 x.f2.f4 x.f2.f5 x.f2.f6 x.f2.f7 x.f2.f8 x.f2.f9 x.f2.f10 x.f0 x.f1 x.f2.f0 x.f2.f1 x.f2.f2 x.f2.f3 x.f2.f4 x.f2.f5 x.f2.f6 x.f2.f7 x.f2.f8 x.f2.f9 x.f2.f10 x.f3 h.1 x.f3.length 0 k (by omega) (by omega)
def sizeS (l : List S60) : Nat := (l.map (fun x => x.f3.length + x.f2.f7.length)).sum
theorem sizeS_mem {l : List S60} {x : S60} (h : x ∈ l) : x.f3.length + x.f2.f7.length ≤ sizeS l := by
  induction l with
  | nil => cases h
  | cons y l ih =>
    simp only [sizeS, List.map_cons, List.sum_cons] at ih ⊢
    rcases List.mem_cons.1 h with rfl | h
    · omega
    · have := ih h; omega
theorem same_loop (l : List S60) (hl : l.length ≤ 9223372036854775807) (h : ∀ x ∈ l, okS x) : ∀ (n i k : Nat), i + n = l.length → n + sizeS l + 11 < k → calepinref20_Same.l0 k l l (l.length : Int) (i : Int) = some true := by
  intro n
  induction n with
  | zero =>
    intro i k hi hk
    obtain ⟨k, rfl⟩ : ∃ q, k = q + 1 := ⟨k - 1, by omega⟩
    unfold calepinref20_Same.l0
    rw [if_neg (by omega)]
  | succ n ih =>
    intro i k hi hk
    obtain ⟨k, rfl⟩ : ∃ q, k = q + 1 := ⟨k - 1, by omega⟩
    have hlt : i < l.length := by omega
    unfold calepinref20_Same.l0
    have hw : wrap64 ((i : Int) + 1) = ((i + 1 : Nat) : Int) := by unfold wrap64; omega
    have hrd : rd_T60 l (i : Int) = l[i] := by simp [rd_T60, hlt]
    have hm := sizeS_mem (List.getElem_mem hlt)
    rw [if_pos (by omega), if_pos (by omega), if_pos (by omega), if_pos (by omega), hrd, one_same l[i] (h _ (List.getElem_mem hlt)) k (by omega), Option.bind_some, if_pos rfl, hw]
    exact ih (i + 1) k (by omega) (by omega)
theorem same_is (l : List S60) (hl : l.length ≤ 9223372036854775807) (h : ∀ x ∈ l, okS x) : calepinref20_Same.f (l.length + sizeS l + 12) l l = some true := by
  unfold calepinref20_Same.f
  rw [if_pos rfl]
  exact same_loop l hl h l.length 0 _ (by omega) (by omega)
theorem same_calls (w : World) (A B : Option Addr) (c d : Nat) (l : List S60) (hA : Kd.C k60 w A l.length l) (hc : l.length ≤ c) (hB : Kd.C k60 w B l.length l) (hd : l.length ≤ d) (h : ∀ x ∈ l, okS x) :
    Calls Try.prog 19 #[.slice A l.length c, .slice B l.length d] w fun e w' => e = .returned (.bool true) ∧ Below w.heap.size w w' :=
  calepinref20_Same.calls _ A c l B d l true w hA hc hB hd (same_is l hA.2.1 h)
theorem okS_en (t : Int) : okS (en t) := by
  refine ⟨by simp [en], by simp [en], ?_⟩
  simp [cmdLen, en, namesLen, ByteArray.size]
theorem okS_ens (ts : List Int) : ∀ x ∈ ts.map en, okS x := by
  intro x hx
  obtain ⟨t, _, rfl⟩ := List.mem_map.1 hx
  exact okS_en t
end Go.Proofs.Ytigjfnleinhahaa.PLog
