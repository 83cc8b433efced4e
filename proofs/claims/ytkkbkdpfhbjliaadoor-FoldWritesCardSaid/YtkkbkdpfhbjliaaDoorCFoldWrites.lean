/- For every list of lines: they are folded as the document says, and good ones are unfolded again. -/
import Derived.Test.YtkkbkdpfhbjliaaDoorTabs
import Derived.Test.YtkkbkdpfhbjliaaDoorLwW
import Derived.OpenShut
import Derived.ShutString
import Derived.ChangeOld
import Derived.Below
import Derived.JoinedCond
namespace Go.Proofs.YtkkbkdpfhbjliaaDoor.foldWrites
open Go.ChangeShapes Go.WideShapes Go.ChangeAt Go.RowKit Go.Proofs.YtkkbkdpfhbjliaaDoorW.PrintWords Go.Proofs.YtkkbkdpfhbjliaaDoorW.PrintLast Go.Proofs.YtkkbkdpfhbjliaaDoorW.PrintMore
open Go.ChangeMaps (open_string shut_string)
set_option linter.unusedVariables false
set_option linter.unusedSimpArgs false
theorem own : ownKnob Tryd.prog.godebug = none := by kernel_rfl
theorem list_of {α : Type} {Q : Nat → α → Prop} : ∀ n, (∀ i, i < n → ∃ a, Q i a) → ∃ l : List α, l.length = n ∧ ∀ i a, l[i]? = some a → Q i a
  | 0, _ => ⟨[], rfl, fun i a h => by simp at h⟩
  | n + 1, h => by
    obtain ⟨l, hl, hq⟩ := list_of n (fun i hi => h i (by omega))
    obtain ⟨a, ha⟩ := h n (by omega)
    refine ⟨l ++ [a], by simp [hl], fun i b hb => ?_⟩
    by_cases e : i < l.length
    · rw [List.getElem?_append_left e] at hb
      exact hq i b hb
    · rw [List.getElem?_append_right (by omega)] at hb
      have : i - l.length = 0 := by
        rcases Nat.eq_zero_or_pos (i - l.length) with h0 | h0
        · exact h0
        · rw [List.getElem?_eq_none (by simp; omega)] at hb; cases hb
      rw [this] at hb
      simp at hb
      subst hb
      have : i = n := by omega
      subst this
      exact ha
theorem sum_bulk {H α : Type} (m : α → Nat) : ∀ (l : List α) (es : List (DataW H)), l.length = es.length → (∀ (i : Nat) a d, l[i]? = some a → es[i]? = some d → m a ≤ Rows.uptoBulk d) → (l.map m).sum ≤ Rows.uptoBulkAll es
  | [], es, _, _ => by simp
  | a :: l, [], h, _ => by simp at h
  | a :: l, d :: es, h, hp => by
    have h1 := hp 0 a d rfl rfl
    have h2 := sum_bulk m l es (by simpa using h) (fun i a' d' x y => hp (i + 1) a' d' (by simpa using x) (by simpa using y))
    simp only [List.map_cons, List.sum_cons, Rows.uptoBulkAll]
    omega
theorem open_list {α : Type} {P : Program} (d : Kd α) (m : α → Nat) {t e size : Nat} (ht : P.underlying t = some (.slice e)) (hc : P.cellsOf e = size) (hs : d.sz = size) {H : Type} {enc : TypeId × Value → H} {w : World} {base : Nat} {sp : Nat → Bool} {held : Bool}
    (hel : ∀ fuel cs x, DataW.trod enc P w base sp held fuel e cs = some x → ∃ v, d.K w v cs ∧ m v ≤ Rows.uptoBulk x.1) {fuel : Nat} {cs : List Value} {x : DataW H × List MemPlace} (h : DataW.trod enc P w base sp held fuel t cs = some x) :
    ∃ A xs c, cs = [.slice A xs.length c] ∧ xs.length ≤ c ∧ d.C w A xs.length xs ∧ (xs.map m).sum ≤ Rows.uptoBulk x.1 := by
  rcases DataW.trod_slice ht h with ⟨rfl, rfl⟩ | ⟨ad, l, c, elems, rest, n, rfl, rfl, rfl, -, hl, hm, hlen, hq, -, -⟩
  · exact ⟨none, [], 0, rfl, Nat.le_refl _, Kd.C_nil _ _, by simp [Rows.uptoBulk]⟩
  · rw [hc] at hq
    obtain ⟨xs, hx, hxq⟩ := list_of (Q := fun i (y : α) => (∃ cs, cs.length = size ∧ d.K w y cs ∧ ∀ j u, cs[j]? = some u → w.cell? (ad.add (i * size + j)) = some u) ∧ ∀ z, elems[i]? = some z → m y ≤ Rows.uptoBulk z.1) l (fun i hi => by
      have h1 := hq i hi
      have hlt : i < elems.length := by omega
      rw [List.getElem?_eq_getElem hlt] at h1
      obtain ⟨cs, h2, h3⟩ := Option.bind_eq_some_iff.1 h1
      obtain ⟨y, hy, hb⟩ := hel _ _ _ h3
      obtain ⟨q1, q2, q3⟩ := World.cells?_some h2
      refine ⟨y, ⟨cs, q2, hy, fun j u hj => ?_⟩, fun z hz => ?_⟩
      · have hj5 : j < size := by have := (List.getElem?_eq_some_iff.1 hj).1; omega
        have := q3 j hj5
        rw [add_add] at this
        rw [this]; exact hj
      · rw [List.getElem?_eq_getElem hlt] at hz
        injection hz with hz
        rw [← hz]
        exact hb)
    subst hx
    refine ⟨some ad, xs, c, rfl, hl, ⟨rfl, by unfold maxLen at hm; omega, fun _ => ⟨ad, rfl, fun j p hj => ?_⟩⟩, ?_⟩
    · obtain ⟨⟨cs, q1, q2, q3⟩, -⟩ := hxq j p hj
      subst hs
      exact ⟨cs, q1, q2, q3⟩
    · have := sum_bulk m xs (elems.map (·.1)) (by rw [List.length_map]; omega) (fun i a b h1 h2 => by
        rw [List.getElem?_map] at h2
        obtain ⟨z, hz, rfl⟩ := Option.map_eq_some_iff.1 h2
        exact (hxq i a h1).2 z hz)
      simp only [Rows.uptoBulk]
      omega
theorem laidOut : laidOutB Tryd.prog = true := by kernel_rfl
theorem strings_in {H : Type} {enc : TypeId × Value → H} {w : World} {base : Nat} {sp : Nat → Bool} {held : Bool} {fuel : Nat} {cs : List Value} {x : DataW H × List MemPlace} (h : DataW.trod enc Tryd.prog w base sp held fuel 23 cs = some x) : ∃ A xs c, cs = [.slice A xs.length c] ∧ xs.length ≤ c ∧ Kd.C Kd.string w A xs.length xs := by
  obtain ⟨A, xs, c, h1, h2, h3, _⟩ := open_list Kd.string (fun _ => 0) Tryd.underlying23 (by kernel_rfl) rfl (fun fuel cs x hx => by
    obtain ⟨a, rfl, rfl, -⟩ := DataW.trod_string Tryd.underlying9 hx
    exact ⟨a, rfl, Nat.zero_le _⟩) h
  exact ⟨A, xs, c, h1, h2, h3⟩
set_option maxRecDepth 100000 in
theorem contract (H : Type) (enc : TypeId × Value → H) (W : World) (base : Nat) (args : Array Value) (ds gs : List (DataW H)) (before : List MemPlace)
    (hval : ∀ (j : Nat) t v, Tryd.f5.params[j]? = some t → args[j]? = some v → Value.okWide Tryd.prog W .any base t v)
    (hW : DataW.Whole enc Tryd.prog Tryd.f5.params.toList Rows.foldWritesSpec.vars false W args.toList ds gs before) (hL : laidMetH Tryd.prog Rows.foldWritesRow.laid W) :
    Calls Tryd.prog 5 args W fun e W' => ∃ v, e = .returned v ∧ Rows.foldWritesSpec.post enc Tryd.prog Tryd.f5 false true false false W args v W' := by
  have hW' := hW
  obtain ⟨p, q, hA0, hV, rfl, hfz, hnd⟩ := hW
  have hA : DataW.TrodAll enc Tryd.prog W 0 (fun _ => true) true Tryd.f5.params.toList args.toList ds p := hA0
  rw [Tryd.params5] at hA hval
  obtain ⟨v0, vs0, d0, ds0, p0, q0, hargs, rfl, rfl, h0, r0⟩ := trodAll_cons hA
  obtain ⟨rfl, rfl, rfl⟩ := trodAll_nil r0
  obtain rfl : args = #[v0] := by cases args; simp_all
  obtain ⟨rfl, rfl⟩ := trodVars_none hV
  obtain ⟨a0, len0, cap0, rfl⟩ := okWide_slice Tryd.underlying23 (hval 0 23 v0 rfl rfl)
  have k0 := h0
  have lt0 : ∀ x ∈ p0, x.block < W.heap.size := by obtain ⟨m, hm⟩ := k0; exact DataW.trod_lt m _ _ _ hm
  obtain ⟨ls, hls, hc, hC⟩ : ∃ ls : List ByteArray, len0 = ls.length ∧ ls.length ≤ cap0 ∧ Kd.C Kd.string W a0 ls.length ls := by
    obtain ⟨m, hm⟩ := h0
    obtain ⟨A', xs, c, hcs0, hc, hC⟩ := strings_in hm
    have hcs : [Value.slice a0 len0 cap0] = [Value.slice A' xs.length c] := hcs0
    simp only [List.cons.injEq, Value.slice.injEq, and_true] at hcs
    obtain ⟨rfl, rfl, rfl⟩ := hcs
    exact ⟨xs, rfl, hc, hC⟩
  subst hls
  obtain ⟨k, hk⟩ := PL.writes_true ls
  clear hA0
  refine (PL.calepinlaw02_FoldWrites.calls k a0 cap0 ls true W hC hc hk (tabs.of_laid hL)).mono fun e W' ⟨he, bel⟩ => ?_
  subst he
  exact ⟨_, rfl, _, _, _, [], _, [], hW', trodAll_mk1 (shut_bool Tryd.underlying4 _), (trodAll_cons_mk (Below.trod laidOut (by kernel_rfl) (of_decide_eq_true (by kernel_rfl)) k0 bel lt0) trodAll_mk0), rfl, bel.frame _, fun h => by cases h⟩
theorem reads (os : Os) {H : Type} (enc : TypeId × Value → H) : ∃ places, DataW.whole enc Tryd.prog ((tabs.laidWorld os).forCall (fun _ _ => 0) ⟨#[], #[.slice none 0 0], []⟩).memory Tryd.f5.params.toList Rows.foldWritesSpec.vars false #[Value.slice none 0 0].toList 8 = some ([.nil], [], places) :=
  ⟨[], by kernel_rfl⟩
set_option maxRecDepth 100000 in
theorem lifted (os : Os) (started : os.Started) (H : Type) (enc : TypeId × Value → H) (F : Stop.Interp) :
    ReturnsInHanded {} Tryd.checked os 5 .any ((OpenSpec.ofChange Rows.foldWritesSpec).preRow enc Tryd.prog Tryd.f5 Rows.foldWritesRow.domain false Rows.foldWritesRow.laid) (((OpenSpec.ofChange Rows.foldWritesSpec).at F).post enc Tryd.prog Tryd.f5 false true false false) := by
  obtain ⟨places, hx⟩ := reads os enc
  refine returnsInHanded_of_row (C := Tryd.checked) (s := (OpenSpec.ofChange Rows.foldWritesSpec)) own started (by kernel_rfl) Tryd.func5
    (witness_row_atRef (enc := enc) (C := Tryd.checked) false (tabs.laidWorld os) #[.slice none 0 0] rfl (by kernel_rfl) (by kernel_rfl) (by kernel_rfl)
      (OpenSpec.preRow_of_cond 8 hx (by kernel_rfl) (fun k hk => by cases hk) (by kernel_rfl) (tabs.laid_met os _))) ?_
  intro W base args ds gs before hval hW _ _ _ hL _ _
  exact contract H enc W base args ds gs before hval hW hL
theorem said : Rows.FoldWritesSaid :=
  OpenClaim.holds_of_cond 5 Tryd.f5 rfl rfl rfl rfl rfl rfl rfl ⟨rfl, rfl, rfl, rfl, rfl⟩ rfl rfl rfl rfl rfl (by kernel_rfl) Tryd.func5 (by kernel_rfl)
    (of_decide_eq_true (by kernel_rfl)) (by unfold Func.isWrapper; first | (rw [if_pos (by decide +kernel)]; kernel_rfl) | (rw [if_neg (by decide +kernel)]; exact ⟨rfl, rfl⟩))
    (fun os started H enc _ F => by rw [OpenClaim.pre_eq_preRow]; exact lifted os started H enc F)
theorem plain (f : FuncId) (fn : Func) (hf : Tryd.pinned.checked.prog.funcNamed "calepin/calepinlaw02.FoldWrites" = some f) (hfn : Tryd.pinned.checked.prog.funcs[f]? = some fn) :
    false = Tryd.pinned.checked.prog.looks [] ∧ ∀ (j : Nat) t, fn.params[j]? = some t → Tryd.pinned.checked.prog.wantsStandIn t = false := by
  obtain rfl : f = 5 := Option.some.inj ((show Tryd.prog.funcNamed "calepin/calepinlaw02.FoldWrites" = some 5 by kernel_rfl).symm.trans hf) |>.symm
  obtain rfl : fn = Tryd.f5 := (Option.some.inj (Tryd.func5.symm.trans hfn)).symm
  refine ⟨by kernel_rfl, fun j t ht => ?_⟩
  rw [Tryd.params5] at ht
  have hm : t ∈ [23] := by simpa using Array.mem_of_getElem? ht
  have hall : ([23].all fun u => !Tryd.prog.wantsStandIn u) = true := by kernel_rfl
  exact (show Tryd.prog.wantsStandIn t = false by simpa using List.all_eq_true.1 hall t hm)
theorem card : Rows.FoldWritesCardSaid :=
  Claim7.holds_tied_plain_at .later [] _ _ _ _ said (fun _ h => by cases h) (by kernel_rfl) (fun _ h => by cases h) foldWrites_row_tie rfl ⟨rfl, rfl⟩ (by kernel_rfl) rfl plain (by kernel_rfl)
#print axioms card
end Go.Proofs.YtkkbkdpfhbjliaaDoor.foldWrites
namespace Go.Proofs.YtkkbkdpfhbjliaaDoor
/-- The card, under a short name, for the claim. -/
theorem foldWrites_holds : Rows.FoldWritesCardSaid := foldWrites.card
end Go.Proofs.YtkkbkdpfhbjliaaDoor
