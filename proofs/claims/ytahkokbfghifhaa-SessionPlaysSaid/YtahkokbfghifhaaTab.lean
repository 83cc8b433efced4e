/- A table of sessions, as it lies in memory. -/
import Derived.Test.YtahkokbfghifhaaPSx0
import Derived.Test.YtahkokbfghifhaaProg
import Derived.Below
import Derived.Deep.Draws
import Derived.Deep.AppendLies
import Derived.Maps.AppendAt
import Derived.OwnWalk
import Derived.Laws.BytesArg
import Derived.Laws.MakeOwn
import Derived.Laws.OwnMore
import Derived.Deep.OwnRows
import Derived.Tactics
import Derived.Lib.ConvBytes
import Derived.Laws.Slices
import Derived.WalkKit
import Derived.KernelRfl
import Derived.RowKit3
import Derived.Deep.LoopGhost
import Derived.Deep.QuietTactic
import Derived.BigQuiet
import Derived.WideLaws
import Derived.Deep.DeepCutAuto
import Derived.Deep.CutBlock
import Derived.Deep.RegionHeld3
import Derived.Laws.Rows
import Derived.Lib.AppendStr
import Derived.ArgAppend
import Derived.Laws.IdiomCopy
import Derived.OrdersHeld
import Derived.Laws.BitsLemmas
import Derived.RowKit
import Derived.Test.YtahkokbfghifhaaWWords
import Derived.Test.YtahkokbfghifhaaWLast
import Derived.Test.YtahkokbfghifhaaWTab
import Derived.Test.YtahkokbfghifhaaWFour
import Derived.Test.YtahkokbfghifhaaWQPut
import Derived.Test.YtahkokbfghifhaaWApart
import Derived.Test.YtahkokbfghifhaaWArr
import Derived.Test.YtahkokbfghifhaaWZeros
import Derived.Test.YtahkokbfghifhaaWFoot
import Derived.Test.YtahkokbfghifhaaWKept
import Derived.Test.YtahkokbfghifhaaWShare
import Derived.Test.YtahkokbfghifhaaWN
import Derived.Test.YtahkokbfghifhaaWFootNe
import Derived.Test.YtahkokbfghifhaaWAt
import Derived.Test.YtahkokbfghifhaaWEqStruct
import Derived.Test.YtahkokbfghifhaaWRepsOne
import Derived.Test.YtahkokbfghifhaaWInv
import Derived.Test.YtahkokbfghifhaaWInvWords
import Derived.Test.YtahkokbfghifhaaWGuard
import Derived.Test.YtahkokbfghifhaaWNEv
import Derived.Test.YtahkokbfghifhaaWMore
namespace Go.Proofs.Ytahkokbfghifhaa.PS
open Go.RowKit Go.Proofs.YtahkokbfghifhaaW.PrintWords Go.Proofs.YtahkokbfghifhaaW.PrintLast Go.Proofs.YtahkokbfghifhaaW.PrintMore
set_option linter.unusedVariables false
set_option linter.unusedSimpArgs false
set_option maxHeartbeats 4000000
set_option maxRecDepth 100000
/-! #### struct type 45 -/
structure S45 where
  f0 : Int
  f1 : Int
  f2 : Int
  f3 : Int
def z45 : S45 := ⟨(0 : Int), (0 : Int), (0 : Int), (0 : Int)⟩
def k45 : Kd S45 := Kd.iso (Kd.pair (Kd.int .i64) (Kd.pair (Kd.int .i64) (Kd.pair (Kd.int .i64) (Kd.int .i64)))) (fun x : S45 => (x.f0, x.f1, x.f2, x.f3))
theorem k45_open {w : World} {x : S45} {cs : List Value} (h : k45.K w x cs) : cs = [.int .i64 x.f0, .int .i64 x.f1, .int .i64 x.f2, .int .i64 x.f3] := by
  obtain ⟨_, _, rfl, rfl, ⟨_, _, rfl, rfl, ⟨_, _, rfl, rfl, rfl⟩⟩⟩ := h
  exact rfl
theorem k45_openM {w : World} {base : Nat} {ok : Nat → Prop} {x : S45} {cs : List Value} (h : k45.M w base ok x cs) : cs = [.int .i64 x.f0, .int .i64 x.f1, .int .i64 x.f2, .int .i64 x.f3] := by
  obtain ⟨_, _, rfl, rfl, ⟨_, _, rfl, rfl, ⟨_, _, rfl, rfl, rfl⟩⟩⟩ := h
  exact rfl
theorem k45_mk (w : World) (x : S45)  : k45.K w x [.int .i64 x.f0, .int .i64 x.f1, .int .i64 x.f2, .int .i64 x.f3] := ⟨[.int .i64 x.f0], [.int .i64 x.f1, .int .i64 x.f2, .int .i64 x.f3], rfl, rfl, ⟨[.int .i64 x.f1], [.int .i64 x.f2, .int .i64 x.f3], rfl, rfl, ⟨[.int .i64 x.f2], [.int .i64 x.f3], rfl, rfl, rfl⟩⟩⟩
theorem k45_mkM (w : World) (base : Nat) (ok : Nat → Prop) (x : S45)  : k45.M w base ok x [.int .i64 x.f0, .int .i64 x.f1, .int .i64 x.f2, .int .i64 x.f3] := ⟨[.int .i64 x.f0], [.int .i64 x.f1, .int .i64 x.f2, .int .i64 x.f3], rfl, rfl, ⟨[.int .i64 x.f1], [.int .i64 x.f2, .int .i64 x.f3], rfl, rfl, ⟨[.int .i64 x.f2], [.int .i64 x.f3], rfl, rfl, rfl⟩⟩⟩
def rd_T45 (xs : List S45) (i : Int) : S45 := xs.getD i.toNat z45
theorem at_T45 {w : World} {A : Option Addr} {n : Nat} {xs : List S45} (h : Kd.C k45 w A n xs) (i : Int) (h0 : 0 ≤ i) (h1 : i < n) : ∃ ad , A = some ad ∧ w.cell? (ad.add (i.toNat * 4)) = some (.int .i64 (rd_T45 xs i).f0) ∧ w.cell? ⟨(ad.add (i.toNat * 4)).block, (ad.add (i.toNat * 4)).off + 1, none⟩ = some (.int .i64 (rd_T45 xs i).f1) ∧ w.cell? ⟨(ad.add (i.toNat * 4)).block, (ad.add (i.toNat * 4)).off + 2, none⟩ = some (.int .i64 (rd_T45 xs i).f2) ∧ w.cell? ⟨(ad.add (i.toNat * 4)).block, (ad.add (i.toNat * 4)).off + 3, none⟩ = some (.int .i64 (rd_T45 xs i).f3) := by
  obtain ⟨ad, c, e, _, hK, hc0⟩ := Kd.C_get h z45 i h0 h1
  have hc : ∀ j u, c[j]? = some u → w.cell? (ad.add (i.toNat * 4 + j)) = some u := hc0
  obtain rfl := k45_open hK
  exact ⟨ad, e, hc 0 _ rfl, by rw [← add_field _ _ 1 (by omega)]; exact hc 1 _ rfl, by rw [← add_field _ _ 2 (by omega)]; exact hc 2 _ rfl, by rw [← add_field _ _ 3 (by omega)]; exact hc 3 _ rfl⟩


def cs45 (x : S45) : List Value := [.int .i64 x.f0, .int .i64 x.f1, .int .i64 x.f2, .int .i64 x.f3]
/-- A table at block g: its rows in blocks of ok. -/
def TblI (w : World) (ok : Nat → Prop) (g : Nat) (es : List S45) : Prop :=
  ok g ∧ ∃ v, w.heap[g]? = some (.cells #[v] 26 (0, 0)) ∧ Kd.R k45 45 w 0 (fun k => ok k ∧ k ≠ g) v es
theorem TblI.step {w w' : World} {ok : Nat → Prop} {g : Nat} {es : List S45} (h : TblI w ok g es) (hm : ∀ k, ok k → k < w.heap.size → w'.heap[k]? = w.heap[k]?) : TblI w' ok g es := by
  obtain ⟨h1, v, h2, h3⟩ := h
  exact ⟨h1, v, (hm g h1 (Array.getElem?_eq_some_iff.1 h2).1).trans h2, Kd.R_step h3 (fun k hk hlt => hm k hk.1 hlt)⟩
theorem TblI.kept {w w' : World} {ok S : Nat → Prop} {g : Nat} {es : List S45} (h : TblI w ok g es) (hk : Kept w w' S) (hs : ∀ k, ok k → ¬ S k) : TblI w' ok g es :=
  h.step (fun k ho hlt => hk.2 k hlt (hs k ho))
theorem TblI.below {w w' : World} {ok : Nat → Prop} {g : Nat} {es : List S45} (h : TblI w ok g es) (hb : Below w.heap.size w w') : TblI w' ok g es :=
  h.step (fun k _ hlt => hb.block k hlt)
theorem TblI.drewN {w : World} {ok : Nat → Prop} {g : Nat} {es : List S45} (h : TblI w ok g es) (m : Nat) : TblI (w.drewN m) ok g es := h.step (fun _ _ _ => rfl)
theorem TblI.mono {w : World} {ok ok' : Nat → Prop} {g : Nat} {es : List S45} (h : TblI w ok g es) (hk : ∀ k, ok k → ok' k) : TblI w ok' g es := by
  obtain ⟨h1, v, h2, h3⟩ := h
  exact ⟨hk g h1, v, h2, Kd.R_mono h3 (fun k hk' => ⟨hk k hk'.1, hk'.2⟩)⟩
theorem TblI.bound {w : World} {ok : Nat → Prop} {g : Nat} {es : List S45} (h : TblI w ok g es) : TblI w (fun k => ok k ∧ k < w.heap.size) g es := by
  obtain ⟨h1, v, h2, h3⟩ := h
  exact ⟨⟨h1, (Array.getElem?_eq_some_iff.1 h2).1⟩, v, h2, Kd.R_mono (Kd.R_bound h3) (fun k hk' => ⟨⟨hk'.1.1, hk'.2.2.1⟩, hk'.1.2⟩)⟩
theorem TblI.cells {w : World} {ok : Nat → Prop} {g : Nat} {es : List S45} (h : TblI w ok g es) : ∃ A c, w.cell? ⟨g, 0, none⟩ = some (.slice A es.length c) ∧ es.length ≤ c ∧ Kd.C k45 w A es.length es := by
  obtain ⟨h1, v, h2, h3⟩ := h
  obtain ⟨A, c, rfl, hc, hr⟩ := Kd.R_reads h3
  refine ⟨A, c, ?_, hc, hr⟩ <;> simp [World.cell?, h2]
theorem TblI.lt {w : World} {ok : Nat → Prop} {g : Nat} {es : List S45} (h : TblI w ok g es) : g < w.heap.size := by
  obtain ⟨h1, v, h2, h3⟩ := h
  exact (Array.getElem?_eq_some_iff.1 h2).1
/-- What a closure over one captured cell answers of a row. -/
def PredI (f B : Nat) (p : S45 → Bool) (w : World) : Prop := ∀ (W : World) (x : S45), Below w.heap.size w W → Calls Try.prog f #[.agg (cs45 x).toArray, .pointer (some ⟨B, 0, none⟩)] W fun e w' => e = .returned (.bool (p x)) ∧ Below W.heap.size W w'
/-- The place of the first row of p. -/
def idxI (p : S45 → Bool) (es : List S45) : Int := match es.findIdx? p with | some i => (i : Int) | none => -1

def cs55 (x : S55) : List Value := [.int .i64 x.f0, .int .i64 x.f1, .int .i64 x.f2, .string x.f3]
/-- A table at block g: its rows in blocks of ok. -/
def TblS (w : World) (ok : Nat → Prop) (g : Nat) (es : List S55) : Prop :=
  ok g ∧ ∃ v, w.heap[g]? = some (.cells #[v] 36 (0, 0)) ∧ Kd.R k55 55 w 0 (fun k => ok k ∧ k ≠ g) v es
theorem TblS.step {w w' : World} {ok : Nat → Prop} {g : Nat} {es : List S55} (h : TblS w ok g es) (hm : ∀ k, ok k → k < w.heap.size → w'.heap[k]? = w.heap[k]?) : TblS w' ok g es := by
  obtain ⟨h1, v, h2, h3⟩ := h
  exact ⟨h1, v, (hm g h1 (Array.getElem?_eq_some_iff.1 h2).1).trans h2, Kd.R_step h3 (fun k hk hlt => hm k hk.1 hlt)⟩
theorem TblS.kept {w w' : World} {ok S : Nat → Prop} {g : Nat} {es : List S55} (h : TblS w ok g es) (hk : Kept w w' S) (hs : ∀ k, ok k → ¬ S k) : TblS w' ok g es :=
  h.step (fun k ho hlt => hk.2 k hlt (hs k ho))
theorem TblS.below {w w' : World} {ok : Nat → Prop} {g : Nat} {es : List S55} (h : TblS w ok g es) (hb : Below w.heap.size w w') : TblS w' ok g es :=
  h.step (fun k _ hlt => hb.block k hlt)
theorem TblS.drewN {w : World} {ok : Nat → Prop} {g : Nat} {es : List S55} (h : TblS w ok g es) (m : Nat) : TblS (w.drewN m) ok g es := h.step (fun _ _ _ => rfl)
theorem TblS.mono {w : World} {ok ok' : Nat → Prop} {g : Nat} {es : List S55} (h : TblS w ok g es) (hk : ∀ k, ok k → ok' k) : TblS w ok' g es := by
  obtain ⟨h1, v, h2, h3⟩ := h
  exact ⟨hk g h1, v, h2, Kd.R_mono h3 (fun k hk' => ⟨hk k hk'.1, hk'.2⟩)⟩
theorem TblS.bound {w : World} {ok : Nat → Prop} {g : Nat} {es : List S55} (h : TblS w ok g es) : TblS w (fun k => ok k ∧ k < w.heap.size) g es := by
  obtain ⟨h1, v, h2, h3⟩ := h
  exact ⟨⟨h1, (Array.getElem?_eq_some_iff.1 h2).1⟩, v, h2, Kd.R_mono (Kd.R_bound h3) (fun k hk' => ⟨⟨hk'.1.1, hk'.2.2.1⟩, hk'.1.2⟩)⟩
theorem TblS.cells {w : World} {ok : Nat → Prop} {g : Nat} {es : List S55} (h : TblS w ok g es) : ∃ A c, w.cell? ⟨g, 0, none⟩ = some (.slice A es.length c) ∧ es.length ≤ c ∧ Kd.C k55 w A es.length es := by
  obtain ⟨h1, v, h2, h3⟩ := h
  obtain ⟨A, c, rfl, hc, hr⟩ := Kd.R_reads h3
  refine ⟨A, c, ?_, hc, hr⟩ <;> simp [World.cell?, h2]
theorem TblS.lt {w : World} {ok : Nat → Prop} {g : Nat} {es : List S55} (h : TblS w ok g es) : g < w.heap.size := by
  obtain ⟨h1, v, h2, h3⟩ := h
  exact (Array.getElem?_eq_some_iff.1 h2).1
/-- What a closure over one captured cell answers of a row. -/
def PredS (f B : Nat) (p : S55 → Bool) (w : World) : Prop := ∀ (W : World) (x : S55), Below w.heap.size w W → Calls Try.prog f #[.agg (cs55 x).toArray, .pointer (some ⟨B, 0, none⟩)] W fun e w' => e = .returned (.bool (p x)) ∧ Below W.heap.size W w'
/-- The place of the first row of p. -/
def idxS (p : S55 → Bool) (es : List S55) : Int := match es.findIdx? p with | some i => (i : Int) | none => -1

end Go.Proofs.Ytahkokbfghifhaa.PS
