/- For every list of rows of texts, of bulk at most 1048576: as fields they are put piece by piece, and read as the same rows again. The row, out of the walk. -/
import Derived.Test.YtdjdbmopckhcdaaRows
import Derived.Test.YtdjdbmopckhcdaaVWrt
import Derived.WalkKit
import Derived.ProofKit
import Derived.OpenShut
import Derived.ShutString
import Derived.ChangeOld
import Derived.Below
import Derived.JoinedCond
namespace Go.Proofs.Ytdjdbmopckhcdaa.PV
open Go.ChangeShapes Go.WideShapes Go.ChangeAt Go.RowKit Go.Proofs.YtdjdbmopckhcdaaW.PrintWords Go.Proofs.YtdjdbmopckhcdaaW.PrintLast Go.Proofs.YtdjdbmopckhcdaaW.PrintMore Go.Proofs Go.Proofs.Ytdjdbmopckhcdaa
set_option linter.unusedVariables false
set_option linter.unusedSimpArgs false
theorem list_of {α : Type} {Q : Nat → α → Prop} : ∀ n, (∀ i, i < n → ∃ a, Q i a) → ∃ l : List α, l.length = n ∧ ∀ i a, l[i]? = some a → Q i a
  | 0, _ => ⟨[], rfl, fun i a h => by simp at h⟩
  | n + 1, h => by
    obtain ⟨l, hl, hq⟩ := list_of n (fun i hi => h i (by omega))
    obtain ⟨a, ha⟩ := h n (by omega)
    refine ⟨l ++ [a], by simp [hl], fun i b hb => ?_⟩
    by_cases e : i < l.length
    · rw [List.getElem?_append_left e] at hb
      exact hq i b hb
    · rw [List.getElem?_append_right (by omega)] at hb
      have : i - l.length = 0 := by
        rcases Nat.eq_zero_or_pos (i - l.length) with h0 | h0
        · exact h0
        · rw [List.getElem?_eq_none (by simp; omega)] at hb; cases hb
      rw [this] at hb
      simp at hb
      subst hb
      have : i = n := by omega
      subst this
      exact ha
theorem sum_bulk {H α : Type} (m : α → Nat) : ∀ (l : List α) (es : List (DataW H)), l.length = es.length → (∀ (i : Nat) a d, l[i]? = some a → es[i]? = some d → m a ≤ Rows.uptoBulk d) → (l.map m).sum ≤ Rows.uptoBulkAll es
  | [], es, _, _ => by simp
  | a :: l, [], h, _ => by simp at h
  | a :: l, d :: es, h, hp => by
    have h1 := hp 0 a d rfl rfl
    have h2 := sum_bulk m l es (by simpa using h) (fun i a' d' x y => hp (i + 1) a' d' (by simpa using x) (by simpa using y))
    simp only [List.map_cons, List.sum_cons, Rows.uptoBulkAll]
    omega
theorem open_list {α : Type} {P : Program} (d : Kd α) (m : α → Nat) {t e size : Nat} (ht : P.underlying t = some (.slice e)) (hc : P.cellsOf e = size) (hs : d.sz = size) {H : Type} {enc : TypeId × Value → H} {w : World} {base : Nat} {sp : Nat → Bool} {held : Bool}
    (hel : ∀ fuel cs x, DataW.trod enc P w base sp held fuel e cs = some x → ∃ v, d.K w v cs ∧ m v ≤ Rows.uptoBulk x.1) {fuel : Nat} {cs : List Value} {x : DataW H × List MemPlace} (h : DataW.trod enc P w base sp held fuel t cs = some x) :
    ∃ A xs c, cs = [.slice A xs.length c] ∧ xs.length ≤ c ∧ d.C w A xs.length xs ∧ (xs.map m).sum + 1 ≤ Rows.uptoBulk x.1 := by
  rcases DataW.trod_slice ht h with ⟨rfl, rfl⟩ | ⟨ad, l, c, elems, rest, n, rfl, rfl, rfl, -, hl, hm, hlen, hq, -, -⟩
  · exact ⟨none, [], 0, rfl, Nat.le_refl _, Kd.C_nil _ _, by simp [Rows.uptoBulk]⟩
  · rw [hc] at hq
    obtain ⟨xs, hx, hxq⟩ := list_of (Q := fun i (y : α) => (∃ cs, cs.length = size ∧ d.K w y cs ∧ ∀ j u, cs[j]? = some u → w.cell? (ad.add (i * size + j)) = some u) ∧ ∀ z, elems[i]? = some z → m y ≤ Rows.uptoBulk z.1) l (fun i hi => by
      have h1 := hq i hi
      have hlt : i < elems.length := by omega
      rw [List.getElem?_eq_getElem hlt] at h1
      obtain ⟨cs, h2, h3⟩ := Option.bind_eq_some_iff.1 h1
      obtain ⟨y, hy, hb⟩ := hel _ _ _ h3
      obtain ⟨q1, q2, q3⟩ := World.cells?_some h2
      refine ⟨y, ⟨cs, q2, hy, fun j u hj => ?_⟩, fun z hz => ?_⟩
      · have hj5 : j < size := by have := (List.getElem?_eq_some_iff.1 hj).1; omega
        have := q3 j hj5
        rw [add_add] at this
        rw [this]; exact hj
      · rw [List.getElem?_eq_getElem hlt] at hz
        injection hz with hz
        rw [← hz]
        exact hb)
    subst hx
    refine ⟨some ad, xs, c, rfl, hl, ⟨rfl, by unfold maxLen at hm; omega, fun _ => ⟨ad, rfl, fun j p hj => ?_⟩⟩, ?_⟩
    · obtain ⟨⟨cs, q1, q2, q3⟩, -⟩ := hxq j p hj
      subst hs
      exact ⟨cs, q1, q2, q3⟩
    · have := sum_bulk m xs (elems.map (·.1)) (by rw [List.length_map]; omega) (fun i a b h1 h2 => by
        rw [List.getElem?_map] at h2
        obtain ⟨z, hz, rfl⟩ := Option.map_eq_some_iff.1 h2
        exact (hxq i a h1).2 z hz)
      simp only [Rows.uptoBulk]
      omega
theorem trod_29 {H : Type} {enc : TypeId × Value → H} {w : World} {base : Nat} {sp : Nat → Bool} {held : Bool} {fuel : Nat} {cs : List Value} {x : DataW H × List MemPlace} (h : DataW.trod enc Try.prog w base sp held fuel 29 cs = some x) : ∃ A xs c, cs = [.slice A xs.length c] ∧ xs.length ≤ c ∧ Kd.string.C w A xs.length xs ∧ (xs.map mS).sum + 1 ≤ Rows.uptoBulk x.1 :=
  open_list Kd.string mS Try.underlying29 (by kernel_rfl) rfl (fun fuel cs x hx => by
    obtain ⟨a, rfl, rfl, -⟩ := DataW.trod_string Try.underlying9 hx
    exact ⟨a, rfl, by simp [Rows.uptoBulk, mS]⟩) h
theorem trod_32 {H : Type} {enc : TypeId × Value → H} {w : World} {base : Nat} {sp : Nat → Bool} {held : Bool} {fuel : Nat} {cs : List Value} {x : DataW H × List MemPlace} (h : DataW.trod enc Try.prog w base sp held fuel 32 cs = some x) : ∃ A xs c, cs = [.slice A xs.length c] ∧ xs.length ≤ c ∧ (Kd.slice 9 Kd.string).C w A xs.length xs ∧ (xs.map mR).sum + 1 ≤ Rows.uptoBulk x.1 :=
  open_list (Kd.slice 9 Kd.string) mR Try.underlying32 (by kernel_rfl) rfl (fun fuel cs x hx => by
    obtain ⟨A, xs, c, rfl, hc, hC, hb⟩ := trod_29 hx
    exact ⟨xs, ⟨A, c, rfl, hc, hC⟩, hb⟩) h
end Go.Proofs.Ytdjdbmopckhcdaa.PV
namespace Go.Proofs.Ytdjdbmopckhcdaa.valueWrites
open Go.ChangeShapes Go.WideShapes Go.ChangeAt Go.RowKit Go.Proofs.YtdjdbmopckhcdaaW.PrintWords Go.Proofs.YtdjdbmopckhcdaaW.PrintLast Go.Proofs.YtdjdbmopckhcdaaW.PrintMore
set_option linter.unusedVariables false
theorem own : ownKnob Try.prog.godebug = none := by kernel_rfl
theorem laidOut : laidOutB Try.prog = true := by kernel_rfl
set_option maxRecDepth 100000 in
theorem contract (H : Type) (enc : TypeId × Value → H) (W : World) (base : Nat) (args : Array Value) (ds gs : List (DataW H)) (before : List MemPlace)
    (hval : ∀ (j : Nat) t v, Try.f7.params[j]? = some t → args[j]? = some v → Value.okWide Try.prog W .any base t v)
    (hW : DataW.Whole enc Try.prog Try.f7.params.toList Rows.valueWritesSpec.vars false W args.toList ds gs before) (hk : Rows.uptoSmall H (ds ++ gs) = true) :
    Calls Try.prog 7 args W fun e W' => ∃ v, e = .returned v ∧ Rows.valueWritesSpec.post enc Try.prog Try.f7 false true false false W args v W' := by
  have hW' := hW
  obtain ⟨p, q, hA0, hV, rfl, hfz, hnd⟩ := hW
  have hA : DataW.TrodAll enc Try.prog W 0 (fun _ => true) true Try.f7.params.toList args.toList ds p := hA0
  rw [Try.params7] at hA hval
  obtain ⟨v1, vs1, d1, ds1, p1, q1, hargs, rfl, rfl, h1, r1⟩ := trodAll_cons hA
  obtain ⟨rfl, rfl, rfl⟩ := trodAll_nil r1
  obtain rfl : args = #[v1] := by cases args; simp_all
  obtain ⟨rfl, rfl⟩ := trodVars_none hV
  obtain ⟨a1, len1, cap1, rfl⟩ := okWide_slice Try.underlying32 (hval 0 32 v1 rfl rfl)
  have k1 := h1
  have lt1 : ∀ x ∈ p1, x.block < W.heap.size := by obtain ⟨m, hm⟩ := k1; exact DataW.trod_lt m _ _ _ hm
  obtain ⟨A, acts, c, hcs, hc, hC, hb⟩ : ∃ A acts c, [Value.slice a1 len1 cap1] = [.slice A acts.length c] ∧ acts.length ≤ c ∧ (Kd.slice 9 Kd.string).C W A acts.length acts ∧ (acts.map PV.mR).sum + 1 ≤ Rows.uptoBulk d1 := by
    obtain ⟨m, hm⟩ := h1
    exact PV.trod_32 hm
  simp only [List.cons.injEq, Value.slice.injEq, and_true] at hcs
  obtain ⟨rfl, rfl, rfl⟩ := hcs
  have hbk : Rows.uptoBulk d1 ≤ 1048576 := by
    have h := of_decide_eq_true hk
    simp only [List.append_nil, Rows.uptoBulkAll] at h
    omega
  clear hA0
  have hsum : (acts.map PV.mR).sum ≤ 1048576 := Nat.le_trans (Nat.le_of_succ_le hb) hbk
  refine (PV.writes_walk a1 cap1 acts W hC hc hsum).mono fun e W' ⟨he, bel⟩ => ?_
  subst he
  exact ⟨_, rfl, _, _, _, [], _, [], hW', trodAll_mk1 (shut_bool Try.underlying4 _), (trodAll_cons_mk (Below.trod laidOut (by kernel_rfl) (of_decide_eq_true (by kernel_rfl)) k1 bel lt1) trodAll_mk0), rfl, bel.frame _, fun h => by cases h⟩
set_option maxRecDepth 100000 in
theorem lifted (os : Os) (started : os.Started) (H : Type) (enc : TypeId × Value → H) (F : Stop.Interp) :
    ReturnsInHanded {} Try.checked os 7 .any ((Rows.OpenSpec.upto Rows.valueWritesSpec).pre6 enc Try.prog Try.f7 Rows.valueWritesUptoRow.domain false) (((Rows.OpenSpec.upto Rows.valueWritesSpec).at F).post enc Try.prog Try.f7 false true false false) := by
  refine returnsInHanded_of_cond (C := Try.checked) (s := Rows.OpenSpec.upto Rows.valueWritesSpec) (k := Rows.uptoSmall) rfl own started (by kernel_rfl) Try.func7
    (OpenSpec.witness (enc := enc) (C := Try.checked) (s := Rows.OpenSpec.upto Rows.valueWritesSpec) (k := Rows.uptoSmall) rfl false ⟨#[], #[.slice none 0 0], []⟩ 8 (by kernel_rfl) (by kernel_rfl) (by kernel_rfl)
      (x := ([.nil], [], [])) (by kernel_rfl) rfl (by kernel_rfl)) ?_
  intro W base args ds gs before hval hW _ hk _
  exact contract H enc W base args ds gs before hval hW hk
theorem proved : Rows.ValueWritesUptoSaid :=
  OpenClaim.holds_of_cond 7 Try.f7 rfl rfl rfl rfl rfl rfl rfl ⟨rfl, rfl, rfl, rfl, rfl⟩ rfl rfl rfl rfl rfl (by kernel_rfl) Try.func7 (by kernel_rfl)
    (of_decide_eq_true (by kernel_rfl)) (by unfold Func.isWrapper; first | (rw [if_pos (by decide +kernel)]; kernel_rfl) | (rw [if_neg (by decide +kernel)]; exact ⟨rfl, rfl⟩))
    (fun os started H enc _ F => lifted os started H enc F)
#print axioms proved
end Go.Proofs.Ytdjdbmopckhcdaa.valueWrites
namespace Go.Proofs.Ytdjdbmopckhcdaa
/-- The row, under a short name, for the claim. -/
theorem valueWrites_holds : Rows.ValueWritesUptoSaid := valueWrites.proved
end Go.Proofs.Ytdjdbmopckhcdaa
