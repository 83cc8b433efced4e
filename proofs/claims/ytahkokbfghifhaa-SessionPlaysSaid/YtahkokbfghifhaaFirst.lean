/- first: what must be answered ahead of everything else is answered. -/
import Derived.Test.YtahkokbfghifhaaOpen
import Derived.Test.YtahkokbfghifhaaProg
import Derived.Below
import Derived.Deep.Draws
import Derived.Deep.AppendLies
import Derived.Maps.AppendAt
import Derived.OwnWalk
import Derived.Laws.BytesArg
import Derived.Laws.MakeOwn
import Derived.Laws.OwnMore
import Derived.Deep.OwnRows
import Derived.Tactics
import Derived.Lib.ConvBytes
import Derived.Laws.Slices
import Derived.WalkKit
import Derived.KernelRfl
import Derived.RowKit3
import Derived.Deep.LoopGhost
import Derived.Deep.QuietTactic
import Derived.BigQuiet
import Derived.WideLaws
import Derived.Deep.DeepCutAuto
import Derived.Deep.CutBlock
import Derived.Deep.RegionHeld3
import Derived.Laws.Rows
import Derived.Lib.AppendStr
import Derived.ArgAppend
import Derived.Laws.IdiomCopy
import Derived.OrdersHeld
import Derived.Laws.BitsLemmas
import Derived.RowKit
import Derived.Test.YtahkokbfghifhaaWWords
import Derived.Test.YtahkokbfghifhaaWLast
import Derived.Test.YtahkokbfghifhaaWTab
import Derived.Test.YtahkokbfghifhaaWFour
import Derived.Test.YtahkokbfghifhaaWQPut
import Derived.Test.YtahkokbfghifhaaWApart
import Derived.Test.YtahkokbfghifhaaWArr
import Derived.Test.YtahkokbfghifhaaWZeros
import Derived.Test.YtahkokbfghifhaaWFoot
import Derived.Test.YtahkokbfghifhaaWKept
import Derived.Test.YtahkokbfghifhaaWShare
import Derived.Test.YtahkokbfghifhaaWN
import Derived.Test.YtahkokbfghifhaaWFootNe
import Derived.Test.YtahkokbfghifhaaWAt
import Derived.Test.YtahkokbfghifhaaWEqStruct
import Derived.Test.YtahkokbfghifhaaWRepsOne
import Derived.Test.YtahkokbfghifhaaWInv
import Derived.Test.YtahkokbfghifhaaWInvWords
import Derived.Test.YtahkokbfghifhaaWGuard
import Derived.Test.YtahkokbfghifhaaWNEv
import Derived.Test.YtahkokbfghifhaaWMore
namespace Go.Proofs.Ytahkokbfghifhaa.PS
open Go.RowKit Go.Proofs.YtahkokbfghifhaaW.PrintWords Go.Proofs.YtahkokbfghifhaaW.PrintLast Go.Proofs.YtahkokbfghifhaaW.PrintMore
set_option linter.unusedVariables false
set_option linter.unusedSimpArgs false
set_option maxHeartbeats 4000000
set_option maxRecDepth 100000

theorem below_kept {w W W2 : World} {S : Nat → Prop} (h : Below w.heap.size w W) (hk : Kept W W2 S) (hb : Below 0 W W2) (hs : ∀ k, S k → w.heap.size ≤ k) : Below w.heap.size w W2 :=
  h.trans ⟨hb.os, hb.tape, hb.output, hb.size, fun k hlt => hk.2 k (Nat.lt_of_lt_of_le hlt h.size) (fun hk' => by have := hs k hk'; omega)⟩
theorem below_over {w w1 w2 : World} (h : Below w.heap.size w w1) (h2 : Below w1.heap.size w1 w2) : Below w.heap.size w w2 := h.trans (h2.mono h.size)

/-- A table of the call's own, at some moment of it. -/
def StI (w W : World) (g : Nat) (es : List S45) : Prop := TblI W (fun k => w.heap.size ≤ k) g es ∧ Below w.heap.size w W
theorem StI.next {w W W2 : World} {g : Nat} {es es2 : List S45} (h : StI w W g es) (hl : TblI W2 (fun k => w.heap.size ≤ k ∨ W.heap.size ≤ k) g es2) (hk : Kept W W2 (fun k => w.heap.size ≤ k)) (hb : Below 0 W W2) : StI w W2 g es2 :=
  ⟨hl.mono (fun k hk => by rcases hk with h1 | h1; exact h1; exact Nat.le_trans h.2.size h1), below_kept h.2 hk hb (fun _ hk => hk)⟩
theorem StI.below {w W W2 : World} {g : Nat} {es : List S45} (h : StI w W g es) (hb : Below W.heap.size W W2) : StI w W2 g es := ⟨h.1.below hb, h.2.trans (hb.mono h.2.size)⟩
theorem StI.made (w W : World) (h : Below w.heap.size w W) : StI w (W.alloc (.cells #[.slice none 0 0] 26)) W.heap.size [] :=
  ⟨⟨h.size, _, heap_alloc_new _ _, Kd.R_nil _ _ _ _ _⟩, below_alloc h _⟩

/-- A table of the call's own, at some moment of it. -/
def StS (w W : World) (g : Nat) (es : List S55) : Prop := TblS W (fun k => w.heap.size ≤ k) g es ∧ Below w.heap.size w W
theorem StS.next {w W W2 : World} {g : Nat} {es es2 : List S55} (h : StS w W g es) (hl : TblS W2 (fun k => w.heap.size ≤ k ∨ W.heap.size ≤ k) g es2) (hk : Kept W W2 (fun k => w.heap.size ≤ k)) (hb : Below 0 W W2) : StS w W2 g es2 :=
  ⟨hl.mono (fun k hk => by rcases hk with h1 | h1; exact h1; exact Nat.le_trans h.2.size h1), below_kept h.2 hk hb (fun _ hk => hk)⟩
theorem StS.below {w W W2 : World} {g : Nat} {es : List S55} (h : StS w W g es) (hb : Below W.heap.size W W2) : StS w W2 g es := ⟨h.1.below hb, h.2.trans (hb.mono h.2.size)⟩
theorem StS.made (w W : World) (h : Below w.heap.size w W) : StS w (W.alloc (.cells #[.slice none 0 0] 36)) W.heap.size [] :=
  ⟨⟨h.size, _, heap_alloc_new _ _, Kd.R_nil _ _ _ _ _⟩, below_alloc h _⟩

theorem first_calls (w : World) : Calls Try.prog 7 #[] w fun e w' => e = .returned (.bool true) ∧ Below w.heap.size w w' := by
  have hst := StS.made w w (Below.refl _ _)
  obtain ⟨w1, hw1⟩ : ∃ w1, w1 = w.alloc (Obj.cells #[Value.slice none 0 0] 36) := ⟨_, rfl⟩
  obtain ⟨g, hg⟩ : ∃ g, g = w.heap.size := ⟨_, rfl⟩
  have H1 := Aside0.mk (show StS w w1 g [] by rw [hw1, hg]; exact hst)
  have HW := Aside0.mk hw1
  have HG := Aside0.mk hg
  clear hst hw1 hg
  go_enter Try.func7, Try.ntmps7
  go_wp2_with fail
  rw [← HW.out, ← HG.out]
  refine (open_yesS H1.out.1 4 (by decide) (by decide)).mono ?_
  rintro _ w2 ⟨rfl, hl, hk, hb⟩
  have H2 := Aside0.mk (H1.out.next hl hk hb)
  clear hl hk hb H1
  go_wp2_with fail
  have hd : doneS [⟨4, 0, 4, ByteArray.empty⟩] 4 1 5 (⟨#[120]⟩ : ByteArray) = (true, [⟨4, 1, 5, (⟨#[120]⟩ : ByteArray)⟩]) := by rfl
  have hc := done_callsS H2.out.1 4 1 5 (⟨#[120]⟩ : ByteArray)
  rw [List.nil_append, hd] at hc
  have HC := Aside0.mk hc
  clear hc hd
  refine HC.out.mono ?_
  rintro _ w3 ⟨rfl, hl, hk, hb⟩
  have H3 := Aside0.mk (H2.out.next hl hk hb)
  clear hl hk hb H2 HC
  go_wp2_with fail
  have hc := ask_callsS H3.out.1 4 1
  rw [show askS [⟨4, 1, 5, (⟨#[120]⟩ : ByteArray)⟩] 4 1 = (2, (⟨#[120]⟩ : ByteArray)) by rfl] at hc
  have HC := Aside0.mk hc
  clear hc
  refine HC.out.mono ?_
  rintro _ w4 ⟨rfl, hb⟩
  have H4 := Aside0.mk (H3.out.below hb)
  clear hb H3 HC
  go_wp2_with fail
  have hc := ask_callsS H4.out.1 4 3
  rw [show askS [⟨4, 1, 5, (⟨#[120]⟩ : ByteArray)⟩] 4 3 = (1, ByteArray.empty) by rfl] at hc
  have HC := Aside0.mk hc
  clear hc
  refine HC.out.mono ?_
  rintro _ w5 ⟨rfl, hb⟩
  have H5 := Aside0.mk (H4.out.below hb)
  clear hb H4 HC
  go_wp2_with fail
  have hc := ask_callsS H5.out.1 5 1
  rw [show askS [⟨4, 1, 5, (⟨#[120]⟩ : ByteArray)⟩] 5 1 = (0, ByteArray.empty) by rfl] at hc
  have HC := Aside0.mk hc
  clear hc
  refine HC.out.mono ?_
  rintro _ w6 ⟨rfl, hb⟩
  have H6 := Aside0.mk (H5.out.below hb)
  clear hb H5 HC
  go_wp2_with fail
  refine (open_noS H6.out.1 4 (by rfl)).mono ?_
  rintro _ w7 ⟨rfl, hl, hk, hb⟩
  have H7 := Aside0.mk (H6.out.next hl hk hb)
  clear hl hk hb H6
  go_wp2_with fail
  go_ret
  exact ⟨rfl, H7.out.2⟩

end Go.Proofs.Ytahkokbfghifhaa.PS
