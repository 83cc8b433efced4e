/- Rows: a copy of a table's rows. -/
import Derived.Test.YtahkokbfghifhaaOpR
import Derived.WalkSpells
import Derived.Test.YtahkokbfghifhaaProg
import Derived.Below
import Derived.Deep.Draws
import Derived.Deep.AppendLies
import Derived.Maps.AppendAt
import Derived.OwnWalk
import Derived.Laws.BytesArg
import Derived.Laws.MakeOwn
import Derived.Laws.OwnMore
import Derived.Deep.OwnRows
import Derived.Tactics
import Derived.Lib.ConvBytes
import Derived.Laws.Slices
import Derived.WalkKit
import Derived.KernelRfl
import Derived.RowKit3
import Derived.Deep.LoopGhost
import Derived.Deep.QuietTactic
import Derived.BigQuiet
import Derived.WideLaws
import Derived.Deep.DeepCutAuto
import Derived.Deep.CutBlock
import Derived.Deep.RegionHeld3
import Derived.Laws.Rows
import Derived.Lib.AppendStr
import Derived.ArgAppend
import Derived.Laws.IdiomCopy
import Derived.OrdersHeld
import Derived.Laws.BitsLemmas
import Derived.RowKit
import Derived.Test.YtahkokbfghifhaaWWords
import Derived.Test.YtahkokbfghifhaaWLast
import Derived.Test.YtahkokbfghifhaaWTab
import Derived.Test.YtahkokbfghifhaaWFour
import Derived.Test.YtahkokbfghifhaaWQPut
import Derived.Test.YtahkokbfghifhaaWApart
import Derived.Test.YtahkokbfghifhaaWArr
import Derived.Test.YtahkokbfghifhaaWZeros
import Derived.Test.YtahkokbfghifhaaWFoot
import Derived.Test.YtahkokbfghifhaaWKept
import Derived.Test.YtahkokbfghifhaaWShare
import Derived.Test.YtahkokbfghifhaaWN
import Derived.Test.YtahkokbfghifhaaWFootNe
import Derived.Test.YtahkokbfghifhaaWAt
import Derived.Test.YtahkokbfghifhaaWEqStruct
import Derived.Test.YtahkokbfghifhaaWRepsOne
import Derived.Test.YtahkokbfghifhaaWInv
import Derived.Test.YtahkokbfghifhaaWInvWords
import Derived.Test.YtahkokbfghifhaaWGuard
import Derived.Test.YtahkokbfghifhaaWNEv
import Derived.Test.YtahkokbfghifhaaWMore
namespace Go.Proofs.Ytahkokbfghifhaa.PS
open Go.RowKit Go.Proofs.YtahkokbfghifhaaW.PrintWords Go.Proofs.YtahkokbfghifhaaW.PrintLast Go.Proofs.YtahkokbfghifhaaW.PrintMore
set_option linter.unusedVariables false
set_option linter.unusedSimpArgs false
set_option maxHeartbeats 4000000
set_option maxRecDepth 100000

theorem empty_rowI (W : World) (base : Nat) (hb : base ≤ W.heap.size) : Kd.R k45 45 (W.alloc (.cells #[] 45)) base (fun _ => True) (.slice (some ⟨W.heap.size, 0, none⟩) 0 0) [] := by
  refine ⟨fun _ _ => trivial, [], ?_, rfl, fun j p hj => by simp at hj⟩
  have h2 := World.ownsRow_lit (base := base) (e := 45) (size := 4) W #[] 0 hb (by decide) (by rfl)
  exact h2
theorem clone_callsI (w : World) (A : Option Addr) (c : Nat) (es : List S45) (hC : Kd.C k45 w A es.length es) (hl : es.length * 32 ≤ 140737488355328) (hA : A = none → es.length = 0 ∧ c = 0) :
    Calls Try.prog 41 #[.slice A es.length c] w fun e w' => ∃ v, e = .returned v ∧ Kd.R k45 45 w' w.heap.size (fun _ => True) v es ∧ Below w.heap.size w w' := by
  cases A with
  | none =>
    obtain ⟨h0, rfl⟩ := hA rfl
    have hes : es = [] := List.eq_nil_of_length_eq_zero h0
    subst hes
    clear hC hl hA h0
    have hq := fun (W : World) (n c : Nat) => Lib.run_eql_slice_nil (P := Try.prog) W 24 45 none n c 0 0 Try.underlying24
    go_enter Try.func41, Try.ntmps41
    go_wp2_with fail
    go_ret
    exact ⟨_, rfl, Kd.R_nil _ _ _ _ _, Below.refl _ _⟩
  | some ad =>
    have hb := below_alloc (Below.refl w.heap.size w) (Obj.cells #[] 45)
    have HC := Aside0.mk (Kd.C_below hC hb)
    have HL := Aside0.mk hl
    have HE := Aside0.mk (empty_rowI w w.heap.size (Nat.le_refl _))
    have HB := Aside0.mk hb
    clear hC hl hA hb
    generalize hn : es.length = n at *
    have HN := Aside0.mk hn
    clear hn
    have hq := fun (W : World) (n c : Nat) => Lib.run_eql_slice_nil (P := Try.prog) W 24 45 (some ad) n c 0 0 Try.underlying24
    go_enter Try.func41, Try.ntmps41
    go_wp2_with (first
      | (at_builtin
         refine Kd.R_append_rows k45 (w0 := w) w.heap.size rfl (.tmp 5) (.tmp 6) 24 45 _ 32 rfl Try.underlying24 info45 rfl (by decide) (by decide) _ [] es (some ad) n c (fun _ => True) (fun _ => False) rfl rfl HE.out HC.out (fun x cs h => by obtain rfl := k45_open h; exact k45_mkM _ _ _ _) (fun k hk => hk.elim) (fun _ _ => trivial) HB.out HB.out.size (by have := HL.out; simp; omega) ?_
         intro v1 w1 hR1 hB1 hg1 hat1)
      | fail)
    go_ret
    exact ⟨_, rfl, hR1, hB1⟩
theorem rows_callsI {w : World} {ok : Nat → Prop} {g : Nat} {es : List S45} (h : TblI w ok g es) (hl : es.length ≤ 8) :
    Calls Try.prog 15 #[.pointer (some ⟨g, 0, none⟩)] w fun e w' => ∃ v, e = .returned v ∧ Kd.R k45 45 w' w.heap.size (fun _ => True) v es ∧ Below w.heap.size w w' := by
  obtain ⟨hg, v, hh, hR⟩ := h
  obtain ⟨A, c, rfl, hc, hr⟩ := Kd.R_reads hR
  have hA : A = none → es.length = 0 ∧ c = 0 := by
    intro hA
    subst hA
    obtain ⟨_, inner, ho, _⟩ := hR
    rcases ho.2 with ⟨hv, hn⟩ | ⟨g', cap', cur, hv, _⟩
    · injection hv with _ h2 h3
      exact ⟨h2, h3⟩
    · injection hv with h1 _ _
      cases h1
  have HC := Aside0.mk (clone_callsI w A c es hr (by omega) hA)
  have cg : w.cell? ⟨g, 0, none⟩ = some (.slice A es.length c) := by simp [World.cell?, hh]
  clear hg hh hR hc hr hA hl
  go_enter Try.func15, Try.ntmps15
  go_wp2_with fail
  refine HC.out.mono ?_
  rintro _ w1 ⟨v, rfl, hR, hb⟩
  have HR := Aside0.mk (And.intro hR hb)
  clear hR hb
  go_wp2_with fail
  go_ret
  exact ⟨v, rfl, HR.out⟩

theorem empty_rowS (W : World) (base : Nat) (hb : base ≤ W.heap.size) : Kd.R k55 55 (W.alloc (.cells #[] 55)) base (fun _ => True) (.slice (some ⟨W.heap.size, 0, none⟩) 0 0) [] := by
  refine ⟨fun _ _ => trivial, [], ?_, rfl, fun j p hj => by simp at hj⟩
  have h2 := World.ownsRow_lit (base := base) (e := 55) (size := 4) W #[] 0 hb (by decide) (by rfl)
  exact h2
theorem clone_callsS (w : World) (A : Option Addr) (c : Nat) (es : List S55) (hC : Kd.C k55 w A es.length es) (hl : es.length * 40 ≤ 140737488355328) (hA : A = none → es.length = 0 ∧ c = 0) :
    Calls Try.prog 40 #[.slice A es.length c] w fun e w' => ∃ v, e = .returned v ∧ Kd.R k55 55 w' w.heap.size (fun _ => True) v es ∧ Below w.heap.size w w' := by
  cases A with
  | none =>
    obtain ⟨h0, rfl⟩ := hA rfl
    have hes : es = [] := List.eq_nil_of_length_eq_zero h0
    subst hes
    clear hC hl hA h0
    have hq := fun (W : World) (n c : Nat) => Lib.run_eql_slice_nil (P := Try.prog) W 34 55 none n c 0 0 Try.underlying34
    go_enter Try.func40, Try.ntmps40
    go_wp2_with fail
    go_ret
    exact ⟨_, rfl, Kd.R_nil _ _ _ _ _, Below.refl _ _⟩
  | some ad =>
    have hb := below_alloc (Below.refl w.heap.size w) (Obj.cells #[] 55)
    have HC := Aside0.mk (Kd.C_below hC hb)
    have HL := Aside0.mk hl
    have HE := Aside0.mk (empty_rowS w w.heap.size (Nat.le_refl _))
    have HB := Aside0.mk hb
    clear hC hl hA hb
    generalize hn : es.length = n at *
    have HN := Aside0.mk hn
    clear hn
    have hq := fun (W : World) (n c : Nat) => Lib.run_eql_slice_nil (P := Try.prog) W 34 55 (some ad) n c 0 0 Try.underlying34
    go_enter Try.func40, Try.ntmps40
    go_wp2_with (first
      | (at_builtin
         refine Kd.R_append_rows k55 (w0 := w) w.heap.size rfl (.tmp 5) (.tmp 6) 34 55 _ 40 rfl Try.underlying34 info55 rfl (by decide) (by decide) _ [] es (some ad) n c (fun _ => True) (fun _ => False) rfl rfl HE.out HC.out (fun x cs h => by obtain rfl := k55_open h; exact k55_mkM _ _ _ _) (fun k hk => hk.elim) (fun _ _ => trivial) HB.out HB.out.size (by have := HL.out; simp; omega) ?_
         intro v1 w1 hR1 hB1 hg1 hat1)
      | fail)
    go_ret
    exact ⟨_, rfl, hR1, hB1⟩
theorem rows_callsS {w : World} {ok : Nat → Prop} {g : Nat} {es : List S55} (h : TblS w ok g es) (hl : es.length ≤ 8) :
    Calls Try.prog 14 #[.pointer (some ⟨g, 0, none⟩)] w fun e w' => ∃ v, e = .returned v ∧ Kd.R k55 55 w' w.heap.size (fun _ => True) v es ∧ Below w.heap.size w w' := by
  obtain ⟨hg, v, hh, hR⟩ := h
  obtain ⟨A, c, rfl, hc, hr⟩ := Kd.R_reads hR
  have hA : A = none → es.length = 0 ∧ c = 0 := by
    intro hA
    subst hA
    obtain ⟨_, inner, ho, _⟩ := hR
    rcases ho.2 with ⟨hv, hn⟩ | ⟨g', cap', cur, hv, _⟩
    · injection hv with _ h2 h3
      exact ⟨h2, h3⟩
    · injection hv with h1 _ _
      cases h1
  have HC := Aside0.mk (clone_callsS w A c es hr (by omega) hA)
  have cg : w.cell? ⟨g, 0, none⟩ = some (.slice A es.length c) := by simp [World.cell?, hh]
  clear hg hh hR hc hr hA hl
  go_enter Try.func14, Try.ntmps14
  go_wp2_with fail
  refine HC.out.mono ?_
  rintro _ w1 ⟨v, rfl, hR, hb⟩
  have HR := Aside0.mk (And.intro hR hb)
  clear hR hb
  go_wp2_with fail
  go_ret
  exact ⟨v, rfl, HR.out⟩

end Go.Proofs.Ytahkokbfghifhaa.PS
