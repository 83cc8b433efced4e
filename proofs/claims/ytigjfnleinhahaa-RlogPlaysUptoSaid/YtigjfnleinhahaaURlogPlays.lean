/- For every script of acts, where what it reads is of bulk at most 1048576: logs answer it as the document says. The row, out of the walk. -/
import Derived.Test.YtigjfnleinhahaaRows
import Derived.Test.YtigjfnleinhahaaPlays
import Derived.Test.YtigjfnleinhahaaOpenL
import Derived.WalkKit
import Derived.ProofKit
import Derived.OpenShut
import Derived.ShutString
import Derived.ChangeOld
import Derived.Below
import Derived.JoinedCond
namespace Go.Proofs.Ytigjfnleinhahaa.rlogPlays
open Go.ChangeShapes Go.WideShapes Go.ChangeAt Go.RowKit
set_option linter.unusedVariables false
theorem own : ownKnob Try.prog.godebug = none := by kernel_rfl
theorem open_arr2 {H : Type} {enc : TypeId × Value → H} {P : Program} {w : World} {base : Nat} {sp : Nat → Bool} {held : Bool} {r : Reach} {b0 : Nat} {t e : TypeId} {k : IntKind} {v : Value} {d : DataW H} {ps : List MemPlace} (ht : P.underlying t = some (.array 2 e)) (he : P.underlying e = some (.int k)) (hc : P.cellsOf t = 2) (hc1 : P.cellsOf e = 1) (hval : Value.okWide P w r b0 t v) (hd : DataW.Trod enc P w base sp held t v d ps) :
    ∃ n m, v = .agg #[.int k n, .int k m] ∧ d = .agg [.lit (.int k n), .lit (.int k m)] ∧ ps = [] ∧ (Lit.int k n).wf = true ∧ (Lit.int k m).wf = true := by
  simp only [Value.okWide, ht] at hval
  obtain ⟨cs, rfl, h2, -⟩ := hval
  rw [hc] at h2
  obtain ⟨fuel, hf⟩ := hd
  cases fuel with
  | zero => simp [DataW.trod] at hf
  | succ m =>
    rw [DataW.trod_step] at hf
    unfold DataW.trodStep at hf
    simp only [ht, Value.cells, hc1] at hf
    rw [if_pos (by simpa [hc] using h2)] at hf
    obtain ⟨x, y, hxy⟩ : ∃ x y, cs.toList = [x, y] := by
      have : cs.toList.length = 2 := by simpa using h2
      match cs.toList, this with
      | [x, y], _ => exact ⟨x, y, rfl⟩
    have e : cs = #[x, y] := by apply Array.toList_inj.1; rw [hxy]
    subst e
    simp only [Option.map_eq_some_iff, List.range_succ, List.range_zero, List.nil_append, List.cons_append] at hf
    obtain ⟨ys, hy, e1⟩ := hf
    simp only [List.mapM_cons, List.mapM_nil, bind, Option.bind_eq_some_iff, pure, Option.some.injEq] at hy
    obtain ⟨a, ha, _, ⟨b, hb, _, rfl, rfl⟩, rfl⟩ := hy
    obtain ⟨n1, e2, rfl, w1⟩ := DataW.trod_int he ha
    obtain ⟨n2, e3, rfl, w2⟩ := DataW.trod_int he hb
    simp at e2 e3
    subst e2 e3
    simp only [Prod.mk.injEq] at e1
    refine ⟨n1, n2, rfl, by rw [← e1.1]; rfl, by rw [← e1.2]; rfl, w1, w2⟩
theorem shut_arr2 {H : Type} {enc : TypeId × Value → H} {P : Program} {w : World} {base : Nat} {sp : Nat → Bool} {held : Bool} {t e : TypeId} {k : IntKind} {n m : Int} (ht : P.underlying t = some (.array 2 e)) (he : P.underlying e = some (.int k)) (hc : P.cellsOf t = 2) (hc1 : P.cellsOf e = 1) (hn : (Lit.int k n).wf = true) (hm : (Lit.int k m).wf = true) :
    DataW.Trod enc P w base sp held t (.agg #[.int k n, .int k m]) (.agg [.lit (.int k n), .lit (.int k m)]) [] := by
  refine ⟨2, ?_⟩
  rw [DataW.trod_step]
  unfold DataW.trodStep
  simp [ht, Value.cells, hc, hc1, List.range_succ, trod_int_mk 0 he hn, trod_int_mk 0 he hm]

theorem laidOut : laidOutB Try.prog = true := by kernel_rfl
theorem contract (H : Type) (enc : TypeId × Value → H) (W : World) (base : Nat) (args : Array Value) (ds gs : List (DataW H)) (before : List MemPlace)
    (hval : ∀ (j : Nat) t v, Try.f6.params[j]? = some t → args[j]? = some v → Value.okWide Try.prog W .any base t v)
    (hW : DataW.Whole enc Try.prog Try.f6.params.toList Rows.rlogPlaysSpec.vars false W args.toList ds gs before) (hk : Rows.uptoSmall H (ds ++ gs) = true) :
    Calls Try.prog 6 args W fun e W' => ∃ v, e = .returned v ∧ Rows.rlogPlaysSpec.post enc Try.prog Try.f6 false true false false W args v W' := by
  have hW' := hW
  obtain ⟨p, q, hA0, hV, rfl, hfz, hnd⟩ := hW
  have hA : DataW.TrodAll enc Try.prog W 0 (fun _ => true) true Try.f6.params.toList args.toList ds p := hA0
  rw [Try.params6] at hA hval
  obtain ⟨v0, vs0, d0, ds0, p0, q0, hargs, rfl, rfl, h0, r0⟩ := trodAll_cons hA
  obtain ⟨v1, vs1, d1, ds1, p1, q1, rfl, rfl, rfl, h1, r1⟩ := trodAll_cons r0
  obtain ⟨rfl, rfl, rfl⟩ := trodAll_nil r1
  obtain rfl : args = #[v0, v1] := by cases args; simp_all
  obtain ⟨rfl, rfl⟩ := trodVars_none hV
  obtain ⟨a0x, a0y, rfl, rfl, rfl, w0x, w0y⟩ := open_arr2 Try.underlying22 Try.underlying3 (by kernel_rfl) (by kernel_rfl) (hval 0 22 v0 rfl rfl) h0
  obtain ⟨a1, len1, cap1, rfl⟩ := okWide_slice Try.underlying44 (hval 1 44 v1 rfl rfl)
  have k1 := h1
  have lt1 : ∀ x ∈ p1, x.block < W.heap.size := by obtain ⟨m, hm⟩ := k1; exact DataW.trod_lt m _ _ _ hm
  obtain ⟨A, acts, c, hcs, hc, hC, hb⟩ : ∃ A acts c, [Value.slice a1 len1 cap1] = [.slice A acts.length c] ∧ acts.length ≤ c ∧ PLog.k49.C W A acts.length acts ∧ (acts.map PLog.m49').sum ≤ Rows.uptoBulk d1 := by
    obtain ⟨m, hm⟩ := h1
    exact PLog.trod_44 hm
  simp only [List.cons.injEq, Value.slice.injEq, and_true] at hcs
  obtain ⟨rfl, rfl, rfl⟩ := hcs
  have hbk : Rows.uptoBulk d1 ≤ 1048576 := by
    have h := of_decide_eq_true hk
    simp only [List.append_nil, Rows.uptoBulkAll] at h
    omega
  clear hA0
  refine (PLog.plays_walk a0x a0y a1 cap1 acts W hC (PLog.okActs hb hbk)).mono fun e W' ⟨he, bel⟩ => ?_
  subst he
  exact ⟨_, rfl, _, _, _, [], _, [], hW', trodAll_mk1 (shut_bool Try.underlying4 _), (trodAll_cons_mk (shut_arr2 Try.underlying22 Try.underlying3 (by kernel_rfl) (by kernel_rfl) w0x w0y) (trodAll_cons_mk (Below.trod laidOut (by kernel_rfl) (of_decide_eq_true (by kernel_rfl)) k1 bel lt1) trodAll_mk0)), rfl, bel.frame _, fun h => by cases h⟩
set_option maxRecDepth 100000 in
theorem lifted (os : Os) (started : os.Started) (H : Type) (enc : TypeId × Value → H) (F : Stop.Interp) :
    ReturnsInHanded {} Try.checked os 6 .any ((Rows.OpenSpec.upto Rows.rlogPlaysSpec).pre6 enc Try.prog Try.f6 Rows.rlogPlaysUptoRow.domain false) (((Rows.OpenSpec.upto Rows.rlogPlaysSpec).at F).post enc Try.prog Try.f6 false true false false) := by
  refine returnsInHanded_of_cond (C := Try.checked) (s := Rows.OpenSpec.upto Rows.rlogPlaysSpec) (k := Rows.uptoSmall) rfl own started (by kernel_rfl) Try.func6
    (OpenSpec.witness (enc := enc) (C := Try.checked) (s := Rows.OpenSpec.upto Rows.rlogPlaysSpec) (k := Rows.uptoSmall) rfl false ⟨#[], #[.agg #[.int .i64 0, .int .i64 0], .slice none 0 0], []⟩ 8 (by kernel_rfl) (by kernel_rfl) (by kernel_rfl)
      (x := ([.agg [.lit (.int .i64 0), .lit (.int .i64 0)], .nil], [], [])) (by kernel_rfl) rfl (by kernel_rfl)) ?_
  intro W base args ds gs before hval hW _ hk _
  exact contract H enc W base args ds gs before hval hW hk
theorem proved : Rows.RlogPlaysUptoSaid :=
  OpenClaim.holds_of_cond 6 Try.f6 rfl rfl rfl rfl rfl rfl rfl ⟨rfl, rfl, rfl, rfl, rfl⟩ rfl rfl rfl rfl rfl (by kernel_rfl) Try.func6 (by kernel_rfl)
    (of_decide_eq_true (by kernel_rfl)) (by unfold Func.isWrapper; first | (rw [if_pos (by decide +kernel)]; kernel_rfl) | (rw [if_neg (by decide +kernel)]; exact ⟨rfl, rfl⟩))
    (fun os started H enc _ F => lifted os started H enc F)
end Go.Proofs.Ytigjfnleinhahaa.rlogPlays
namespace Go.Proofs.Ytigjfnleinhahaa
/-- The row, under a short name, for the claim. -/
theorem rlogPlays_holds : Rows.RlogPlaysUptoSaid := rlogPlays.proved
end Go.Proofs.Ytigjfnleinhahaa
