/- The document's table: Ask. -/
import Derived.Test.YtahkokbfghifhaaLateL
import Derived.Test.YtahkokbfghifhaaFirst
import Derived.Test.YtahkokbfghifhaaProg
import Derived.Below
import Derived.Deep.Draws
import Derived.Deep.AppendLies
import Derived.Maps.AppendAt
import Derived.OwnWalk
import Derived.Laws.BytesArg
import Derived.Laws.MakeOwn
import Derived.Laws.OwnMore
import Derived.Deep.OwnRows
import Derived.Tactics
import Derived.Lib.ConvBytes
import Derived.Laws.Slices
import Derived.WalkKit
import Derived.KernelRfl
import Derived.RowKit3
import Derived.Deep.LoopGhost
import Derived.Deep.QuietTactic
import Derived.BigQuiet
import Derived.WideLaws
import Derived.Deep.DeepCutAuto
import Derived.Deep.CutBlock
import Derived.Deep.RegionHeld3
import Derived.Laws.Rows
import Derived.Lib.AppendStr
import Derived.ArgAppend
import Derived.Laws.IdiomCopy
import Derived.OrdersHeld
import Derived.Laws.BitsLemmas
import Derived.RowKit
import Derived.Test.YtahkokbfghifhaaWWords
import Derived.Test.YtahkokbfghifhaaWLast
import Derived.Test.YtahkokbfghifhaaWTab
import Derived.Test.YtahkokbfghifhaaWFour
import Derived.Test.YtahkokbfghifhaaWQPut
import Derived.Test.YtahkokbfghifhaaWApart
import Derived.Test.YtahkokbfghifhaaWArr
import Derived.Test.YtahkokbfghifhaaWZeros
import Derived.Test.YtahkokbfghifhaaWFoot
import Derived.Test.YtahkokbfghifhaaWKept
import Derived.Test.YtahkokbfghifhaaWShare
import Derived.Test.YtahkokbfghifhaaWN
import Derived.Test.YtahkokbfghifhaaWFootNe
import Derived.Test.YtahkokbfghifhaaWAt
import Derived.Test.YtahkokbfghifhaaWEqStruct
import Derived.Test.YtahkokbfghifhaaWRepsOne
import Derived.Test.YtahkokbfghifhaaWInv
import Derived.Test.YtahkokbfghifhaaWInvWords
import Derived.Test.YtahkokbfghifhaaWGuard
import Derived.Test.YtahkokbfghifhaaWNEv
import Derived.Test.YtahkokbfghifhaaWMore
namespace Go.Proofs.Ytahkokbfghifhaa.PS
open Go.RowKit Go.Proofs.YtahkokbfghifhaaW.PrintWords Go.Proofs.YtahkokbfghifhaaW.PrintLast Go.Proofs.YtahkokbfghifhaaW.PrintMore
set_option linter.unusedVariables false
set_option linter.unusedSimpArgs false
set_option maxHeartbeats 4000000
set_option maxRecDepth 100000
/-- A table at block g: its rows in blocks of ok. -/
def TblX (w : World) (ok : Nat → Prop) (g : Nat) (es : List S55) : Prop :=
  ok g ∧ ∃ v, w.heap[g]? = some (.cells #[v] 49 (0, 0)) ∧ Kd.R k55 55 w 0 (fun k => ok k ∧ k ≠ g) v es
theorem TblX.step {w w' : World} {ok : Nat → Prop} {g : Nat} {es : List S55} (h : TblX w ok g es) (hm : ∀ k, ok k → k < w.heap.size → w'.heap[k]? = w.heap[k]?) : TblX w' ok g es := by
  obtain ⟨h1, v, h2, h3⟩ := h
  exact ⟨h1, v, (hm g h1 (Array.getElem?_eq_some_iff.1 h2).1).trans h2, Kd.R_step h3 (fun k hk hlt => hm k hk.1 hlt)⟩
theorem TblX.kept {w w' : World} {ok S : Nat → Prop} {g : Nat} {es : List S55} (h : TblX w ok g es) (hk : Kept w w' S) (hs : ∀ k, ok k → ¬ S k) : TblX w' ok g es :=
  h.step (fun k ho hlt => hk.2 k hlt (hs k ho))
theorem TblX.below {w w' : World} {ok : Nat → Prop} {g : Nat} {es : List S55} (h : TblX w ok g es) (hb : Below w.heap.size w w') : TblX w' ok g es :=
  h.step (fun k _ hlt => hb.block k hlt)
theorem TblX.drewN {w : World} {ok : Nat → Prop} {g : Nat} {es : List S55} (h : TblX w ok g es) (m : Nat) : TblX (w.drewN m) ok g es := h.step (fun _ _ _ => rfl)
theorem TblX.mono {w : World} {ok ok' : Nat → Prop} {g : Nat} {es : List S55} (h : TblX w ok g es) (hk : ∀ k, ok k → ok' k) : TblX w ok' g es := by
  obtain ⟨h1, v, h2, h3⟩ := h
  exact ⟨hk g h1, v, h2, Kd.R_mono h3 (fun k hk' => ⟨hk k hk'.1, hk'.2⟩)⟩
theorem TblX.bound {w : World} {ok : Nat → Prop} {g : Nat} {es : List S55} (h : TblX w ok g es) : TblX w (fun k => ok k ∧ k < w.heap.size) g es := by
  obtain ⟨h1, v, h2, h3⟩ := h
  exact ⟨⟨h1, (Array.getElem?_eq_some_iff.1 h2).1⟩, v, h2, Kd.R_mono (Kd.R_bound h3) (fun k hk' => ⟨⟨hk'.1.1, hk'.2.2.1⟩, hk'.1.2⟩)⟩
theorem TblX.cells {w : World} {ok : Nat → Prop} {g : Nat} {es : List S55} (h : TblX w ok g es) : ∃ A c, w.cell? ⟨g, 0, none⟩ = some (.slice A es.length c) ∧ es.length ≤ c ∧ Kd.C k55 w A es.length es := by
  obtain ⟨h1, v, h2, h3⟩ := h
  obtain ⟨A, c, rfl, hc, hr⟩ := Kd.R_reads h3
  refine ⟨A, c, ?_, hc, hr⟩ <;> simp [World.cell?, h2]
theorem TblX.lt {w : World} {ok : Nat → Prop} {g : Nat} {es : List S55} (h : TblX w ok g es) : g < w.heap.size := by
  obtain ⟨h1, v, h2, h3⟩ := h
  exact (Array.getElem?_eq_some_iff.1 h2).1

theorem idx_hitS (p : S55 → Bool) (es : List S55) (i : Nat) (h1 : ∀ j, j < i → p (rd_T55 es (j : Nat)) = false) (h2 : i < es.length) (h3 : p (rd_T55 es (i : Nat)) = true) : idxS p es = (i : Int) := by
  have : es.findIdx? p = some i := by
    rw [List.findIdx?_eq_some_iff_getElem]
    refine ⟨h2, ?_, fun j hj => ?_⟩
    · have : rd_T55 es (i : Nat) = es[i] := by simp [rd_T55, h2]
      rw [← this]; exact h3
    · have := h1 j hj
      have e : rd_T55 es (j : Nat) = es[j]'(by omega) := by simp [rd_T55, show j < es.length by omega]
      rw [← e, this]; simp
  simp [idxS, this]
theorem idx_missS (p : S55 → Bool) (es : List S55) (h : ∀ j, j < es.length → p (rd_T55 es (j : Nat)) = false) : idxS p es = -1 := by
  have : es.findIdx? p = none := by
    rw [List.findIdx?_eq_none_iff]
    intro x hx
    obtain ⟨j, hj, rfl⟩ := List.getElem_of_mem hx
    have := h j hj
    have e : rd_T55 es (j : Nat) = es[j] := by simp [rd_T55, hj]
    rw [← e]; exact this
  simp [idxS, this]
theorem rask_calls {w : World} {ok : Nat → Prop} {g : Nat} {es : List S55} (h : TblX w ok g es) (id seq : Int) :
    Calls Try.prog 17 #[.pointer (some ⟨g, 0, none⟩), .int .i64 id, .int .i64 seq] w fun e w' => e = .returned (.tuple #[.int .i64 (askS es id seq).1, .string (askS es id seq).2]) ∧ Below w.heap.size w w' := by
  obtain ⟨A, c, cg, hc, hC⟩ := h.cells
  have HC := Aside0.mk hC
  have HN := Aside0.mk (Kd.C_max hC)
  have HH := Aside0.mk (fun i h1 h2 h3 => idx_hitS (fun r => decide (r.f0 = id)) es i h1 h2 h3)
  have HM := Aside0.mk (idx_missS (fun r => decide (r.f0 = id)) es)
  have HU := Aside0.mk (show askS es id seq = if idxS (fun r => decide (r.f0 = id)) es < 0 then (0, ByteArray.empty) else if seq > (rd_T55 es (idxS (fun r => decide (r.f0 = id)) es)).f1 then (1, ByteArray.empty) else if seq = (rd_T55 es (idxS (fun r => decide (r.f0 = id)) es)).f1 ∧ seq > 0 then (2, (rd_T55 es (idxS (fun r => decide (r.f0 = id)) es)).f3) else (3, ByteArray.empty) from rfl)
  generalize askS es id seq = r at HU ⊢
  clear h hC hc
  generalize hL : es.length = n at *
  have HL := Aside0.mk hL
  clear hL
  go_enter Try.func17, Try.ntmps17
  go_wp2_with fail
  have V0 := Aside0.mk (Below.refl w.heap.size w)
  go_loopw [15] (fun v15 wr => ∃ (i : Nat), v15 = .int .i64 (i : Int) ∧ Aside0 (i ≤ n) ∧ Aside0 (∀ j, j < i → decide ((rd_T55 es (j : Nat)).f0 = id) = false) ∧ Aside0 (Below w.heap.size w wr)) (fun v15 _ => n - (intOf v15).toNat)
  case atStart => exact ⟨0, rfl, Aside0.mk (Nat.zero_le _), Aside0.mk (fun j hj => absurd hj (Nat.not_lt_zero _)), V0⟩
  case round =>
    obtain ⟨i, rfl, HI, HJ, HB⟩ := hrel
    by_cases hin : i < n
    · have d1 : decide ((i : Int) < (n : Int)) = true := decide_eq_true (by omega)
      have hC2 := Kd.C_below HC.out HB.out
      obtain ⟨ad, rfl, c0, c1, c2, c3⟩ := at_T55 hC2 (i : Int) (by omega) (by omega)
      have hhit := HH.out i HJ.out hin
      rw [Int.toNat_natCast] at c0 c1 c2 c3
      generalize hy : rd_T55 es (i : Int) = y at c0 c1 c2 c3 hhit
      have HY := Aside0.mk hy
      have hin2 : (i : Int) < (n : Int) := by omega
      have hi0 : (0 : Int) ≤ (i : Int) := by omega
      have HBA := Aside0.mk (below_over HB.out (below_alloc (Below.refl wr.heap.size wr) (Obj.cells (cs55 y).toArray 55)))
      clear hC2 hy
      by_cases he : y.f0 = id
      · have hidx := hhit (decide_eq_true he)
        have hv := HU.out
        rw [hidx, if_neg (by omega), HY.out] at hv
        subst he
        clear hhit hidx
        by_cases h1 : seq > y.f1
        · rw [if_pos h1] at hv
          have d2 : decide (seq > y.f1) = true := decide_eq_true h1
          clear h1 HU
          subst hv
          go_wp2_with fail
          go_ret2
          exact ⟨rfl, HBA.out⟩
        · rw [if_neg h1] at hv
          have d2 : decide (seq > y.f1) = false := decide_eq_false h1
          by_cases h2 : seq = y.f1 ∧ seq > 0
          · rw [if_pos h2] at hv
            obtain ⟨rfl, h3⟩ := h2
            have d3 : decide (y.f1 ≥ 1) = true := decide_eq_true (by omega)
            clear h1 h3 HU
            subst hv
            go_wp2_with fail
            go_quiet (fail)
            go_wp2_with fail
            go_ret2
            exact ⟨rfl, pw_below_drewN HBA.out _⟩
          · rw [if_neg h2] at hv
            by_cases h3 : seq = y.f1
            · subst h3
              have d3 : decide (y.f1 ≥ 1) = false := decide_eq_false (fun h => h2 ⟨rfl, by omega⟩)
              clear h1 h2 HU
              subst hv
              go_wp2_with fail
              go_ret2
              exact ⟨rfl, HBA.out⟩
            · have d3 : (seq == y.f1) = false := decide_eq_false h3
              clear h1 h2 h3 HU
              subst hv
              go_wp2_with fail
              go_ret2
              exact ⟨rfl, HBA.out⟩
      · have d2 : (y.f0 != id) = true := by simpa using he
        have HE := Aside0.mk he
        have HIN := Aside0.mk hin
        have hwi : wrap64 ((i : Int) + 1) = ((i + 1 : Nat) : Int) := by have := HN.out; unfold wrap64; omega
        clear hhit he
        go_wp2_with fail
        go_roundw
        case rel =>
          exact ⟨i + 1, by first | rw [hwi] | rfl, Aside0.mk (by have := HIN.out; omega), Aside0.mk (fun j hj => by
            by_cases e : j = i
            · subst e; rw [HY.out]; exact decide_eq_false HE.out
            · exact HJ.out j (by omega)), HBA⟩
        case measure => have := HIN.out; first | (rw [hwi]; simp [intOf]; omega) | (simp [intOf]; omega)
    · have d1 : decide ((i : Int) < (n : Int)) = false := decide_eq_false (by omega)
      have hin2 : ¬ (i : Int) < (n : Int) := by omega
      have hv := HU.out
      rw [HM.out (fun j hj => HJ.out j (by omega)), if_pos (by decide)] at hv
      clear HU
      subst hv
      go_wp2_with fail
      go_ret2
      exact ⟨rfl, HB.out⟩

end Go.Proofs.Ytahkokbfghifhaa.PS
