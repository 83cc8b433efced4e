/- For every two collections and cards whose texts are of bulk at most 1048576: unlike ones have unlike paths, and a path begins with its collection. -/
import Derived.Test.YtjgialebelndmaaDoorTabs
import Derived.Test.YtjgialebelndmaaDoorPa
import Derived.OpenShut
import Derived.ShutString
import Derived.ChangeOld
import Derived.Below
import Derived.JoinedCond
namespace Go.Proofs.YtjgialebelndmaaDoor.pathApart
open Go.ChangeShapes Go.WideShapes Go.ChangeAt Go.RowKit Go.Proofs.YtjgialebelndmaaDoorW.PrintWords Go.Proofs.YtjgialebelndmaaDoorW.PrintLast Go.Proofs.YtjgialebelndmaaDoorW.PrintMore
open Go.ChangeMaps (open_string shut_string)
set_option linter.unusedVariables false
set_option linter.unusedSimpArgs false
theorem own : ownKnob Tryd.prog.godebug = none := by kernel_rfl
theorem laidOut : laidOutB Tryd.prog = true := by kernel_rfl
set_option maxRecDepth 100000 in
theorem open_str2 {H : Type} {enc : TypeId × Value → H} {W : World} {base : Nat} {v : Value} {d : DataW H} {ps : List MemPlace} (hv : Value.okWide Tryd.prog W .any base 36 v) (h : DataW.Trod enc Tryd.prog W 0 (fun _ => true) true 36 v d ps) :
    ∃ a b : ByteArray, v = .agg #[.string a, .string b] ∧ d = .agg [.lit (.string a.data.toList), .lit (.string b.data.toList)] := by
  simp only [Value.okWide, Tryd.underlying36] at hv
  obtain ⟨cs, rfl, hn, _⟩ := hv
  rw [show Tryd.prog.cellsOf 36 = 2 by kernel_rfl] at hn
  obtain ⟨fuel, hf⟩ := h
  obtain ⟨xs, m, _, hx, _, hxs, hg⟩ := DataW.trod_array Tryd.underlying36 hf
  rw [show Tryd.prog.cellsOf 9 = 1 by kernel_rfl] at hg
  have hd : d = .agg (xs.map (·.1)) := (Prod.mk.inj hx).1
  match xs, hxs, hg, hd with
  | [x0, x1], _, hg, hd =>
    obtain ⟨c0, c1, rfl⟩ : ∃ c0 c1, cs = #[c0, c1] := by
      match cs, hn with
      | ⟨[c0, c1]⟩, _ => exact ⟨c0, c1, rfl⟩
    have h0 : DataW.trod enc Tryd.prog W 0 (fun _ => true) true m 9 [c0] = some x0 := hg 0 (by decide)
    have h1 : DataW.trod enc Tryd.prog W 0 (fun _ => true) true m 9 [c1] = some x1 := hg 1 (by decide)
    obtain ⟨a, ha, hxa⟩ := DataW.trod_string Tryd.underlying9 h0
    obtain ⟨b, hb, hxb⟩ := DataW.trod_string Tryd.underlying9 h1
    cases ha
    cases hb
    exact ⟨a, b, rfl, by rw [hd]; simp only [List.map_cons, List.map_nil]; rw [show x0.1 = _ from congrArg Prod.fst hxa.1, show x1.1 = _ from congrArg Prod.fst hxb.1]⟩
set_option maxRecDepth 100000 in
theorem contract (H : Type) (enc : TypeId × Value → H) (W : World) (base : Nat) (args : Array Value) (ds gs : List (DataW H)) (before : List MemPlace)
    (hval : ∀ (j : Nat) t v, Tryd.f5.params[j]? = some t → args[j]? = some v → Value.okWide Tryd.prog W .any base t v)
    (hW : DataW.Whole enc Tryd.prog Tryd.f5.params.toList Rows.pathApartSpec.vars false W args.toList ds gs before) (hL : laidMetH Tryd.prog Rows.pathApartUptoRow.laid W) (hk : Rows.uptoSmall H (ds ++ gs) = true) :
    Calls Tryd.prog 5 args W fun e W' => ∃ v, e = .returned v ∧ Rows.pathApartSpec.post enc Tryd.prog Tryd.f5 false true false false W args v W' := by
  have hW' := hW
  obtain ⟨p, q, hA0, hV, rfl, hfz, hnd⟩ := hW
  have hA : DataW.TrodAll enc Tryd.prog W 0 (fun _ => true) true Tryd.f5.params.toList args.toList ds p := hA0
  rw [Tryd.params5] at hA hval
  obtain ⟨v0, vs0, d0, ds0, p0, q0, hargs, rfl, rfl, h0, r0⟩ := trodAll_cons hA
  obtain ⟨v1, vs1, d1, ds1, p1, q1, rfl, rfl, rfl, h1, r1⟩ := trodAll_cons r0
  obtain ⟨rfl, rfl, rfl⟩ := trodAll_nil r1
  obtain rfl : args = #[v0, v1] := by cases args; simp_all
  obtain ⟨rfl, rfl⟩ := trodVars_none hV
  have k0 := h0
  have lt0 : ∀ x ∈ p0, x.block < W.heap.size := by obtain ⟨m, hm⟩ := k0; exact DataW.trod_lt m _ _ _ hm
  obtain ⟨a0, b0, rfl, rfl⟩ := open_str2 (hval 0 36 v0 rfl rfl) h0
  have k1 := h1
  have lt1 : ∀ x ∈ p1, x.block < W.heap.size := by obtain ⟨m, hm⟩ := k1; exact DataW.trod_lt m _ _ _ hm
  obtain ⟨a1, b1, rfl, rfl⟩ := open_str2 (hval 1 36 v1 rfl rfl) h1
  have hsm := of_decide_eq_true hk
  simp only [List.append_nil, List.cons_append, List.nil_append, Rows.uptoBulkAll, Rows.uptoBulk, Array.length_toList] at hsm
  have sa0 : a0.data.size = a0.size := rfl
  have sb0 : b0.data.size = b0.size := rfl
  have sa1 : a1.data.size = a1.size := rfl
  have sb1 : b1.data.size = b1.size := rfl
  have w0 : a0.size ≤ 1048576 := by omega
  have z0 : b0.size ≤ 1048576 := by omega
  have w1 : a1.size ≤ 1048576 := by omega
  have z1 : b1.size ≤ 1048576 := by omega
  clear hsm
  clear hA0
  have hcall := PH.apart_calls a0 b0 a1 b1 w0 z0 w1 z1 W (tabs.of_laid hL)
  refine (hcall).mono fun e W' ⟨he, bel⟩ => ?_
  subst he
  exact ⟨_, rfl, _, _, _, [], _, [], hW', trodAll_mk1 (shut_bool Tryd.underlying4 _), (trodAll_cons_mk (Below.trod laidOut (by kernel_rfl) (of_decide_eq_true (by kernel_rfl)) k0 bel lt0) (trodAll_cons_mk (Below.trod laidOut (by kernel_rfl) (of_decide_eq_true (by kernel_rfl)) k1 bel lt1) trodAll_mk0)), rfl, bel.frame _, fun h => by cases h⟩
theorem reads (os : Os) {H : Type} (enc : TypeId × Value → H) : ∃ places, DataW.whole enc Tryd.prog ((tabs.laidWorld os).forCall (fun _ _ => 0) ⟨#[], #[.agg #[.string ByteArray.empty, .string ByteArray.empty], .agg #[.string ByteArray.empty, .string ByteArray.empty]], []⟩).memory Tryd.f5.params.toList Rows.pathApartSpec.vars false #[Value.agg #[.string ByteArray.empty, .string ByteArray.empty], Value.agg #[.string ByteArray.empty, .string ByteArray.empty]].toList 8 = some ([.agg [.lit (.string []), .lit (.string [])], .agg [.lit (.string []), .lit (.string [])]], [], places) :=
  ⟨[], by kernel_rfl⟩
set_option maxRecDepth 100000 in
theorem lifted (os : Os) (started : os.Started) (H : Type) (enc : TypeId × Value → H) (F : Stop.Interp) :
    ReturnsInHanded {} Tryd.checked os 5 .any ((Rows.OpenSpec.upto Rows.pathApartSpec).preRow enc Tryd.prog Tryd.f5 Rows.pathApartUptoRow.domain false Rows.pathApartUptoRow.laid) (((Rows.OpenSpec.upto Rows.pathApartSpec).at F).post enc Tryd.prog Tryd.f5 false true false false) := by
  obtain ⟨places, hx⟩ := reads os enc
  refine returnsInHanded_of_row (C := Tryd.checked) (s := (Rows.OpenSpec.upto Rows.pathApartSpec)) own started (by kernel_rfl) Tryd.func5
    (witness_row_atRef (enc := enc) (C := Tryd.checked) false (tabs.laidWorld os) #[.agg #[.string ByteArray.empty, .string ByteArray.empty], .agg #[.string ByteArray.empty, .string ByteArray.empty]] rfl (by kernel_rfl) (by kernel_rfl) (by kernel_rfl)
      (OpenSpec.preRow_of_cond 8 hx (by kernel_rfl) (fun k hk => by cases hk; kernel_rfl) (by kernel_rfl) (tabs.laid_met os _))) ?_
  intro W base args ds gs before hval hW _ hcond _ hL _ _
  exact contract H enc W base args ds gs before hval hW hL (hcond _ rfl)
theorem said : Rows.PathApartUptoSaid :=
  OpenClaim.holds_of_cond 5 Tryd.f5 rfl rfl rfl rfl rfl rfl rfl ⟨rfl, rfl, rfl, rfl, rfl⟩ rfl rfl rfl rfl rfl (by kernel_rfl) Tryd.func5 (by kernel_rfl)
    (of_decide_eq_true (by kernel_rfl)) (by unfold Func.isWrapper; first | (rw [if_pos (by decide +kernel)]; kernel_rfl) | (rw [if_neg (by decide +kernel)]; exact ⟨rfl, rfl⟩))
    (fun os started H enc _ F => by rw [OpenClaim.pre_eq_preRow]; exact lifted os started H enc F)
theorem plain (f : FuncId) (fn : Func) (hf : Tryd.pinned.checked.prog.funcNamed "calepin/calepinlaw06.PathApart" = some f) (hfn : Tryd.pinned.checked.prog.funcs[f]? = some fn) :
    false = Tryd.pinned.checked.prog.looks [] ∧ ∀ (j : Nat) t, fn.params[j]? = some t → Tryd.pinned.checked.prog.wantsStandIn t = false := by
  obtain rfl : f = 5 := Option.some.inj ((show Tryd.prog.funcNamed "calepin/calepinlaw06.PathApart" = some 5 by kernel_rfl).symm.trans hf) |>.symm
  obtain rfl : fn = Tryd.f5 := (Option.some.inj (Tryd.func5.symm.trans hfn)).symm
  refine ⟨by kernel_rfl, fun j t ht => ?_⟩
  rw [Tryd.params5] at ht
  have hm : t ∈ [36, 36] := by simpa using Array.mem_of_getElem? ht
  have hall : ([36, 36].all fun u => !Tryd.prog.wantsStandIn u) = true := by kernel_rfl
  exact (show Tryd.prog.wantsStandIn t = false by simpa using List.all_eq_true.1 hall t hm)
theorem card : Rows.PathApartUptoCardSaid :=
  Claim7.holds_tied_plain_at .later [] _ _ _ _ said (fun _ h => by cases h) (by kernel_rfl) (fun _ h => by cases h) pathApartUpto_row_tie rfl ⟨rfl, rfl⟩ (by kernel_rfl) rfl plain (by kernel_rfl)
#print axioms card
end Go.Proofs.YtjgialebelndmaaDoor.pathApart
namespace Go.Proofs.YtjgialebelndmaaDoor
/-- The card, under a short name, for the claim. -/
theorem pathApart_holds : Rows.PathApartUptoCardSaid := pathApart.card
end Go.Proofs.YtjgialebelndmaaDoor
