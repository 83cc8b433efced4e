/- A disk in a law's words. -/
import Derived.Test.YtgpinkgfgkolfaaRem
namespace Go.Proofs.Ytgpinkgfgkolfaa.PD
open Go.RowKit Go.Proofs.YtgpinkgfgkolfaaW.PrintWords Go.Proofs.YtgpinkgfgkolfaaW.PrintLast Go.Proofs.YtgpinkgfgkolfaaW.PrintMore
set_option linter.unusedVariables false
set_option linter.unusedSimpArgs false
set_option maxHeartbeats 4000000
set_option maxRecDepth 100000

open Go.Proofs
/-- A disk of the call's own: all of it lies at B or above. -/
abbrev DAt (B : Nat) (w : World) (d : Nat) (A : Ab) : Prop := DiskAt w (fun k => B ≤ k) d A
theorem DAt.below {B d : Nat} {A : Ab} {w w' : World} (h : DAt B w d A) (hb : Below w.heap.size w w') : DAt B w' d A := h.keep (fun k hk _ => hb.block k hk)
theorem kp_below {B : Nat} {w w' : World} {ok : Nat → Prop} (h : Kp ok w w') (hB : B ≤ w.heap.size) (hok : ∀ k, ok k → B ≤ k) : Below B w w' := h.below hB hok
/-- A row of bytes that the law has just made. -/
theorem src_new {B d : Nat} {A : Ab} {w : World} (h : DAt B w d A) (xs : List UInt8) (fz : Nat × Nat) {w1 : World} (hw : w1 = w.alloc (.cells (bcells xs).toArray 5 fz)) :
    DiskAt w1 (fun k => B ≤ k ∧ k ≠ w.heap.size) d A ∧ (∀ W, Kp (fun k => B ≤ k ∧ k ≠ w.heap.size) w1 W → SrcAt W (.slice (some ⟨w.heap.size, 0, none⟩) xs.length xs.length) xs) := by
  have hb : Below w.heap.size w w1 := by rw [hw]; exact below_alloc (Below.refl _ _) _
  have hh : w1.heap[w.heap.size]? = some (.cells (bcells xs).toArray 5 fz) := by rw [hw]; exact heap_alloc_new w _
  refine ⟨(h.mono (fun k hk ho => ⟨ho, by omega⟩)).keep (fun k hk _ => hb.block k hk), fun W hW => .inr ⟨_, _, rfl, Nat.le_refl _, fun j u hu => ?_⟩⟩
  have hW2 : W.heap[w.heap.size]? = some (.cells (bcells xs).toArray 5 fz) := (hW.block _ (Array.getElem?_eq_some_iff.1 hh).1 (fun e => e.2 rfl)).trans hh
  have ha : (⟨w.heap.size, 0, none⟩ : Addr).add j = ⟨w.heap.size, j, none⟩ := by unfold Addr.add; split <;> simp_all
  rw [ha]
  have : (bcells xs).toArray[j]? = some u := by rw [List.getElem?_toArray]; exact hu
  simp [World.cell?, hW2, this]
theorem write_at (B d : Nat) (A : Ab) (nm : ByteArray) (x : Value) (xs : List UInt8) (ok : Nat → Prop) (w : World) (h : DiskAt w ok d A) (hs : ∀ W, Kp ok w W → SrcAt W x xs) (hB : B ≤ w.heap.size) (hok : ∀ k, ok k → B ≤ k) (hfresh : ∀ k, w.heap.size ≤ k → ok k)
    (hnm : nm.size ≤ 1000) (hdl : A.dir.length ≤ 1000000) (hroom : wrap64 A.room = A.room) (hleft : -9223372036854775808 ≤ A.left ∧ A.left ≤ 9223372036854775807)
    (hlen : ∀ f, findL A.dir nm.data.toList = some f → (A.fs f).1.length ≤ 1099511627776) (hxl : xs.length ≤ 1099511627776) :
    Calls Try.prog 9 #[fptr d, .string nm, x] w fun e w' => ∃ fN, w.heap.size ≤ fN ∧ e = .returned (.int .i64 (writeL A nm.data.toList xs fN).1) ∧ DAt B w' d (writeL A nm.data.toList xs fN).2 ∧ Below B w w' := by
  refine (write_calls ok d A nm x xs w h hfresh (by unfold maxLen; omega) (by omega) hroom hleft hs (fun f hf => by have := hlen f hf; omega) (by omega)).mono ?_
  rintro e w' ⟨fN, h1, h2, h3, h4⟩
  exact ⟨fN, h1, h2, h3.mono (fun k _ ho => hok k ho), h4.below hB hok⟩
/-! ### plain evaluation -/
theorem upd_upd (g : Nat → List UInt8 × Nat) (f : Nat) (x y : List UInt8 × Nat) : upd (upd g f x) f y = upd g f y := by
  funext k
  unfold upd
  split <;> rfl
theorem lenS_in {A : Ab} {f : Nat} (h : inDir A f) : lenS A f = 0 := if_pos h
theorem lenS_out {A : Ab} {f : Nat} (h : ¬ inDir A f) : lenS A f = lenF A f := if_neg h
theorem sumI_zero (g : Nat → Int) : ∀ (l : Dir), (∀ x ∈ l, g x.2 = 0) → sumI g l = 0
  | [], _ => rfl
  | x :: l, h => by
    unfold sumI
    rw [List.map_cons, List.sum_cons, h x (List.mem_cons_self ..)]
    have := sumI_zero g l (fun y hy => h y (List.mem_cons_of_mem _ hy))
    unfold sumI at this
    rw [this]; rfl
/-- Where no safe file lacks a name, the names' files fill the room. -/
theorem freeL_in (A : Ab) (h : ∀ x ∈ A.safe, inDir A x.2) : freeL A = A.room - sumI (lenF A) A.dir := by
  unfold freeL
  rw [sumI_zero (lenS A) A.safe (fun x hx => lenS_in (h x hx))]
  omega

end Go.Proofs.Ytgpinkgfgkolfaa.PD
