-- Written for this claim by a program of this session (wip/tools/myprint.py) out of the translation. Not trusted: Lean checks it.
import Derived.Test.YtknaffajmfimbaaRows
import Derived.Test.YtknaffajmfimbaaMeW
import Derived.WalkKit
import Derived.ProofKit
import Derived.OpenShut
import Derived.ShutString
import Derived.ChangeOld
import Derived.Below
import Derived.SizedLaws
import Derived.Test.YtknaffajmfimbaaWSized
namespace Go.Proofs.Ytknaffajmfimbaa.memberMeets
open Go.Proofs.YtknaffajmfimbaaW
open Go.Proofs.YtknaffajmfimbaaW.PrintWords Go.Proofs.YtknaffajmfimbaaW.PrintLast Go.Proofs.YtknaffajmfimbaaW.PrintMore
open Go.ChangeShapes Go.WideShapes Go.ChangeAt Go.RowKit
open Go.ChangeMaps (open_string shut_string)
set_option linter.unusedVariables false
theorem own : ownKnob Try.prog.godebug = none := by kernel_rfl
theorem laidOut : laidOutB Try.prog = true := by kernel_rfl
def IsRow (k : IntKind) (w : World) (a : Option Addr) (len cap : Nat) (zs : List Int) : Prop :=
  (a = none ∧ len = 0 ∧ cap = 0 ∧ zs = []) ∨
  ∃ x, a = some x ∧ len ≤ cap ∧ cap ≤ maxLen ∧ zs.length = cap ∧ (∀ i, i < zs.length → w.cell? (x.add i) = some (.int k (zs.getD i 0))) ∧ ∀ n ∈ zs, (Lit.int k n).wf = true
/-- One []int, opened: its row, and that it weighs what it weighs. -/
theorem open_row {H : Type} {enc : TypeId × Value → H} {W : World} {fuel : Nat} {c : Value} {x : DataW H × List MemPlace} (h : DataW.trod enc Try.prog W 0 (fun _ => true) true fuel 22 [c] = some x) (hw : ∀ n ∈ x.1.weights Try.prog 22, n ≤ reachBytes) :
    ∃ a len cap zs, c = .slice a len cap ∧ IsRow .i64 W a len cap zs ∧ len * 8 ≤ 140737488351232 := by
  rcases open_ints Try.underlying22 Try.underlying3 (by kernel_rfl) h with ⟨hcs, _⟩ | ⟨a, l, cap, zs, hcs, _, hl, hm, hz, hx, hcell, hwz⟩
  · simp at hcs
    exact ⟨none, 0, 0, [], hcs, .inl ⟨rfl, rfl, rfl, rfl⟩, by decide⟩
  · simp at hcs
    have hz' : zs.length = cap := by simpa using hz
    refine ⟨some a, l, cap, zs, hcs, .inr ⟨_, rfl, hl, hm, hz', hcell, hwz⟩, ?_⟩
    have h1 : (lits (H := H) .i64 (zs.take l)).length + (lits (H := H) .i64 (zs.drop l)).length = zs.length := by
      simp [lits]; omega
    have hB : Try.prog.bytesOf 3 = 8 := by kernel_rfl
    have z := hw (zs.length * 8) (by rw [hx]; simp only [DataW.weights, Try.underlying22, hB, h1]; exact List.mem_cons_self)
    have : reachBytes = 140737488351232 := by decide
    omega
set_option maxRecDepth 100000 in
theorem open_two {H : Type} {enc : TypeId × Value → H} {W : World} {base : Nat} {v : Value} {d : DataW H} {ps : List MemPlace} (hv : Value.okWide Try.prog W .any base 32 v) (h : DataW.Trod enc Try.prog W 0 (fun _ => true) true 32 v d ps) (hw : ∀ n ∈ d.weights Try.prog 32, n ≤ reachBytes) :
    ∃ aA lenA capA zA aB lenB capB zB, v = .agg #[.slice aA lenA capA, .slice aB lenB capB] ∧ IsRow .i64 W aA lenA capA zA ∧ lenA * 8 ≤ 140737488351232 ∧ IsRow .i64 W aB lenB capB zB ∧ lenB * 8 ≤ 140737488351232 := by
  simp only [Value.okWide, Try.underlying32] at hv
  obtain ⟨cs, rfl, hn, _⟩ := hv
  rw [show Try.prog.cellsOf 32 = 2 by kernel_rfl] at hn
  obtain ⟨fuel, hf⟩ := h
  obtain ⟨xs, m, _, hx, _, hxs, hg⟩ := DataW.trod_array Try.underlying32 hf
  rw [show Try.prog.cellsOf 22 = 1 by kernel_rfl] at hg
  have hd : d = .agg (xs.map (·.1)) := (Prod.mk.inj hx).1
  match xs, hxs, hg, hd with
  | [x0, x1], _, hg, hd =>
    obtain ⟨c0, c1, rfl⟩ : ∃ c0 c1, cs = #[c0, c1] := by
      match cs, hn with
      | ⟨[c0, c1]⟩, _ => exact ⟨c0, c1, rfl⟩
    have h0 : DataW.trod enc Try.prog W 0 (fun _ => true) true m 22 [c0] = some x0 := hg 0 (by decide)
    have h1 : DataW.trod enc Try.prog W 0 (fun _ => true) true m 22 [c1] = some x1 := hg 1 (by decide)
    have hw' : ∀ n ∈ x0.1.weights Try.prog 22 ++ (x1.1.weights Try.prog 22 ++ []), n ≤ reachBytes := by
      intro n hn'
      refine hw n ?_
      rw [hd]
      simp only [DataW.weights, Try.underlying32, List.map_cons, List.map_nil, DataW.weightsAll]
      exact hn'
    obtain ⟨aA, lA, cA, zA, rfl, r1, r2⟩ := open_row h0 (fun n hn' => hw' n (List.mem_append_left _ hn'))
    obtain ⟨aB, lB, cB, zB, rfl, r3, r4⟩ := open_row h1 (fun n hn' => hw' n (List.mem_append_right _ (List.mem_append_left _ hn')))
    exact ⟨_, _, _, _, _, _, _, _, rfl, r1, r2, r3, r4⟩
set_option maxRecDepth 100000 in
theorem lifted (os : Os) (started : os.Started) (H : Type) (enc : TypeId × Value → H) :
    ReturnsInHanded {} Try.checked os 5 .any (Rows.memberMeetsSpec.pre6 enc Try.prog Try.f5 Rows.memberMeetsRow.domain false) (Rows.memberMeetsSpec.post enc Try.prog Try.f5 false true false false) := by
  refine returnsInHanded_of_change_sized (C := Try.checked) own started (by kernel_rfl) Try.func5
    (ChangeSpec.witness6 (enc := enc) (C := Try.checked) false ⟨#[], #[.slice none 0 0, .int .i64 0, .agg #[.slice none 0 0, .slice none 0 0]], []⟩ 8 (by kernel_rfl) (by kernel_rfl) (by kernel_rfl) (by kernel_rfl)) ?_
  intro W base args ds gs before hval0 hW hcnd hsz0 _
  have hsz : (DataW.weightsEach Try.prog (Try.f5.params.toList ++ Rows.memberMeetsSpec.plain.varTypes Try.prog) (ds ++ gs)).all (· ≤ reachBytes) = true := hsz0
  have hval : ∀ (j : Nat) t v, Try.f5.params[j]? = some t → args[j]? = some v → Value.okWide Try.prog W .any base t v := hval0
  have hW' := hW
  obtain ⟨p, q, hA0, hV, rfl, hfz, hnd⟩ := hW
  have hA : DataW.TrodAll enc Try.prog W 0 (fun _ => true) true Try.f5.params.toList args.toList ds p := hA0
  rw [Try.params5] at hA hval hsz
  obtain ⟨v0, vs0, d0, ds0, p0, q0, hargs, rfl, rfl, h0, r0⟩ := trodAll_cons hA
  obtain ⟨v1, vs1, d1, ds1, p1, q1, rfl, rfl, rfl, h1, r1⟩ := trodAll_cons r0
  obtain ⟨v2, vs2, d2, ds2, p2, q2, rfl, rfl, rfl, h2, r2⟩ := trodAll_cons r1
  obtain ⟨rfl, rfl, rfl⟩ := trodAll_nil r2
  obtain rfl : args = #[v0, v1, v2] := by cases args; simp_all
  obtain ⟨rfl, rfl⟩ := trodVars_none hV
  obtain ⟨a0, len0, cap0, rfl⟩ := okWide_slice Try.underlying22 (hval 0 22 v0 rfl rfl)
  have k0 := h0
  have lt0 : ∀ x ∈ p0, x.block < W.heap.size := by obtain ⟨m, hm⟩ := k0; exact DataW.trod_lt m _ _ _ hm
  obtain ⟨z0, w0⟩ : ∃ zs, IsRow .i64 W a0 len0 cap0 zs := by
    obtain ⟨fuel, hf⟩ := h0
    rcases open_ints Try.underlying22 Try.underlying3 (by kernel_rfl) hf with ⟨hcs, _⟩ | ⟨x, l, c, zs, hcs, _, hl, hm, hz, _, hcell, hwz⟩
    · simp [Value.cells] at hcs
      obtain ⟨rfl, rfl, rfl⟩ := hcs
      exact ⟨[], .inl ⟨rfl, rfl, rfl, rfl⟩⟩
    · simp [Value.cells] at hcs
      obtain ⟨rfl, rfl, rfl⟩ := hcs
      exact ⟨zs, .inr ⟨_, rfl, hl, hm, by simpa using hz, hcell, hwz⟩⟩
  have y0 : len0 * 8 ≤ 140737488351232 := PrintWords.sized_ints hsz (j := 0) (t := 22) rfl rfl Try.underlying22 Try.underlying3 (by kernel_rfl) (by kernel_rfl) h0
  obtain ⟨n, rfl, rfl, rfl, w1⟩ := open_int Try.underlying3 (hval 1 3 v1 rfl rfl) h1
  have k2 := h2
  have lt2 : ∀ x ∈ p2, x.block < W.heap.size := by obtain ⟨m, hm⟩ := k2; exact DataW.trod_lt m _ _ _ hm
  obtain ⟨aA, lenA, capA, zA, aB, lenB, capB, zB, rfl, wA, yA, wB, yB⟩ := open_two (hval 2 32 v2 rfl rfl) h2 (fun n hn => by
    have := List.all_eq_true.1 hsz _ (DataW.weights_mem_each (j := 2) (t := 32) rfl rfl n hn)
    simpa using this)
  clear hA0 hval0 hsz0 hsz
  obtain ⟨l0, rfl, hr0, hm0, hw0, hc0⟩ := ReadsInt.ofRowC w0
  obtain ⟨lA, rfl, hrA, hmA, hwA, hcA⟩ := ReadsInt.ofRowC wA
  obtain ⟨lB, rfl, hrB, hmB, hwB, hcB⟩ := ReadsInt.ofRowC wB
  refine (PMe.meets_calls W a0 aA aB cap0 capA capB l0 lA lB n (Kd.C_of_reads (d := (0 : Int)) (h1 := fun _ => rfl) hr0) (Kd.C_of_reads (d := (0 : Int)) (h1 := fun _ => rfl) hrA) (Kd.C_of_reads (d := (0 : Int)) (h1 := fun _ => rfl) hrB) hc0 hcA hcB (by omega) (by omega) (by omega)).mono fun e W' ⟨he, bel⟩ => ?_
  subst he
  exact ⟨_, rfl, _, _, _, [], _, [], hW', trodAll_mk1 (shut_bool Try.underlying4 _), (trodAll_cons_mk (Below.trod laidOut (by kernel_rfl) (of_decide_eq_true (by kernel_rfl)) k0 bel lt0) (trodAll_cons_mk (shut_int Try.underlying3 w1) (trodAll_cons_mk (Below.trod laidOut (by kernel_rfl) (of_decide_eq_true (by kernel_rfl)) k2 bel lt2) trodAll_mk0))), rfl, bel.frame _, fun h => by cases h⟩
theorem over : Rows.memberMeetsRow.holds Try.pinned (OpenSpec.ofChange Rows.memberMeetsSpec) :=
  OpenClaim.holds_of_wide 5 Try.f5 rfl rfl rfl rfl rfl rfl rfl ⟨rfl, rfl, rfl, rfl, rfl⟩ rfl rfl rfl rfl rfl (by kernel_rfl) Try.func5 (by kernel_rfl)
    (of_decide_eq_true (by kernel_rfl)) (by unfold Func.isWrapper; first | (rw [if_pos (by decide +kernel)]; kernel_rfl) | (rw [if_neg (by decide +kernel)]; exact ⟨rfl, rfl⟩))
    (fun os started H enc _ => lifted os started H enc)
theorem proved : Rows.MemberMeetsSaid := over
#print axioms proved
end Go.Proofs.Ytknaffajmfimbaa.memberMeets
namespace Go.Proofs.Ytknaffajmfimbaa
/-- The row, under a short name, for the claim. -/
theorem memberMeets_holds : Rows.MemberMeetsSaid := memberMeets.proved
end Go.Proofs.Ytknaffajmfimbaa
