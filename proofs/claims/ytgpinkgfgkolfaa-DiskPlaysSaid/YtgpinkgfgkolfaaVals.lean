/- maps.Values at a map of pointers (turned out of the guide's worked text GgMapsAllAtTheDump). -/
import Derived.Test.YtgpinkgfgkolfaaDiskP
import Derived.RangeFuncMany
import Derived.RangeFuncLeaves
import Derived.Sort.MapsRangeIn
import Derived.Sort.KeysCollected
import Derived.OwnWalkIn
import Derived.TacticsInMore
import Derived.RegionIn
import Derived.LoopNIn
import Derived.LoopIn
import Derived.Shelf.Abstract
namespace Go.Proofs.Ytgpinkgfgkolfaa.PD
open Go.RowKit Go.Proofs.YtgpinkgfgkolfaaW.PrintWords Go.Proofs.YtgpinkgfgkolfaaW.PrintLast Go.Proofs.YtgpinkgfgkolfaaW.PrintMore
set_option linter.unusedVariables false
set_option linter.unusedSimpArgs false
set_option maxHeartbeats 4000000
set_option maxRecDepth 100000

open Go.Proofs Go.Maps Go.Sort Go.Shelf
def ptrD : Option Nat → DataW Unit
  | none => .nil
  | some b => .lit (.int .i64 b)
theorem ptrRd_mk (c : Option Nat) : ptrRd (ptrV c) = some (ptrD c, []) := by cases c <;> rfl
theorem ptrRd_inv {v : Value} {y : DataW Unit × List MemPlace} (h : ptrRd v = some y) : ∃ c, v = ptrV c ∧ y = (ptrD c, []) := by
  unfold ptrRd at h
  split at h
  · cases h; exact ⟨none, rfl, rfl⟩
  · cases h; exact ⟨some _, rfl, rfl⟩
  · cases h
def ValAt (D0 : DataW Unit) (p : List UInt8 × Option Nat) : Prop := ∀ zd, D0.atKey (.string p.1) zd = ptrD p.2
def AllOf (D0 : DataW Unit) (ps : List (List UInt8 × Option Nat)) : Prop := (ps.map (·.1)).Perm (strKeys D0) ∧ (∀ x, x ∈ ps.map (·.1) ↔ has D0 (.string x) = true) ∧ ∀ p ∈ ps, ValAt D0 p
def PartOf (D0 : DataW Unit) (ps : List (List UInt8 × Option Nat)) : Prop := (ps.map (·.1)).Nodup ∧ (∀ x ∈ ps.map (·.1), has D0 (.string x) = true) ∧ ∀ p ∈ ps, ValAt D0 p
set_option maxRecDepth 100000 in
set_option maxHeartbeats 1000000 in
theorem values1S_in (F : Fence) (n : Nat) (h8 : F.fn 48) (hro : F.round = none) (hn : 1 ≤ n) (l Bm b nn : Nat) (D0 : DataW Unit) (J Jx : List (Option Nat) → World → Prop)
    (hY : ∀ pre x W, J pre W → pre.length < Maps.size D0 → YieldAt F (n - 1) Try.prog l #[ptrV x] W fun e W' =>
      (e = .returned (.bool true) ∧ J (pre ++ [x]) W' ∧ KeepsWalks W W') ∨ (e = .returned (.bool false) ∧ Jx (pre ++ [x]) W'))
    (W : World) (hJ : AbidesFrom W.heap.size J) (hm : W.cell? ⟨Bm, 0, none⟩ = some (.map (some b))) (hown : W.ownsMap Try.prog 9 ptrRd b nn D0) (h0 : J [] W) :
    CallsIn F n Try.prog 48 #[.func (.yield l) #[] #[], .pointer (some ⟨Bm, 0, none⟩)] W fun e W' => (∃ v, e = .returned v) ∧
      ((∃ xs, (∃ ps, AllOf D0 ps ∧ xs = ps.map (·.2)) ∧ J xs W') ∨ (∃ pre, (∃ ps, PartOf D0 ps ∧ pre = ps.map (·.2)) ∧ Jx pre W')) := by
  refine callsIn_of_wp Try.func48 rfl h8 ?_ hro
  simp only [Try.ntmps48, List.size_toArray, List.length_cons, List.length_nil, Nat.reduceAdd, Nat.reduceSub, Array.replicate_succ, Array.replicate_zero, List.push_toArray, List.append_toArray, List.nil_append, List.cons_append]
  gi_wp2_with (first
    | (gi_at_range; refine wpListIn_range_own _ rfl _ 57 rfl 9 63 str_keyed Try.underlying57 _ b nn _ rfl hown ?_; intro w0 hrg0 hg0 hs0)
    | gi_in)
  go_frame
  gi_loopw [4] (fun _ wr => ∃ (left : Lit → Bool) (cnt : Nat) (ps : List (List UInt8 × Option Nat)), wr.ranges Try.prog 9 ptrRd b W.heap.size nn D0 left cnt ∧ ps.length + cnt ≤ Maps.size D0 ∧ Collected D0 left (ps.map (·.1)) ∧ (∀ p ∈ ps, ValAt D0 p) ∧ J (ps.map (·.2)) wr)
    (fun _ wr => wr.rangeLeft b W.heap.size)
  case atStart =>
    exact ⟨_, _, [], hrg0, by simp, Collected.start D0, by simp, hJ [] W w0 none h0 hg0 (fun r e => by cases e)⟩
  case round =>
    obtain ⟨left, cnt, ps, hrg, hcs, hC, hV, hJs⟩ := hrel
    gi_wp2_with (first
      | (gi_at_next; refine wpListIn_next_ranges _ rfl _ rfl 9 str_keyed ptrRd encStr ptrV (fun key kl hk => by obtain ⟨x, hx, _⟩ := Maps.keyOf_str Try.underlying9 hk; exact ⟨x, hx⟩) (fun v y hv => by obtain ⟨c, hc, _⟩ := ptrRd_inv hv; exact ⟨c, hc⟩) b W.heap.size nn _ _ _ rfl hrg ?_ ?_)
      | gi_in)
    · -- NOTHING IS LEFT
      intro hc0 hl0
      gi_wp2
      go_end0
      exact ⟨⟨_, rfl⟩, .inl ⟨_, ⟨ps, ⟨hC.perm hown str_keyed Try.underlying9 hl0, fun x => by rw [hC.2 x, hl0]; simp, hV⟩, rfl⟩, hJs⟩⟩
    · -- AN ENTRY HAS COME: yield(v)
      intro x c kl yd yp w2 cnt2 hkey hlk hv hat hrg2 hlt hg2 hs2 hen
      obtain ⟨x', ex, rfl, _⟩ := Maps.keyOf_str Try.underlying9 hkey
      obtain rfl : x = x' := encStr_inj ex
      obtain rfl : yd = ptrD c := (Prod.mk.inj (Option.some.inj ((ptrRd_mk c).symm.trans hv))).1.symm
      have hJ2 : J (ps.map (·.2)) w2 := hJ _ wr w2 (some W.heap.size) hJs hg2 (fun r e => by cases e; exact ⟨Nat.le_refl _, hrg.iter_walk⟩)
      obtain ⟨fn, tmps, assign, body, hy, hR⟩ := hY (ps.map (·.2)) c w2 hJ2 (by simp; omega)
      clear hs2
      gi_wp2
      refine hR.mono ?_
      have hC2 : Collected D0 (fun z => left z && !z.sameKey (.string x)) ((ps ++ [(x, c)]).map (·.1)) := by simpa using hC.step hlk hat
      have hV2 : ∀ p ∈ ps ++ [(x, c)], ValAt D0 p := fun p hp => (List.mem_append.1 hp).elim (hV p) (fun e => by simp at e; subst e; exact hat)
      rintro e W3 (⟨rfl, hJ3, hk3⟩ | ⟨rfl, hJx3⟩)
      · gi_wp2
        have hrg3 := hrg2.of_walks hk3
        go_roundw
        case rel => exact ⟨_, cnt2, ps ++ [(x, c)], hrg3, by simp; omega, hC2, hV2, by simpa using hJ3⟩
        case measure => rw [hrg3.left_eq, hrg.left_eq]; exact hlt
      · gi_wp2
        refine bodyPost_ret (results_none rfl _ _ _) rfl ?_
        exact ⟨⟨_, rfl⟩, .inr ⟨_, ⟨ps ++ [(x, c)], ⟨hC2.1, fun y hy => ((hC2.2 y).1 hy).1, hV2⟩, by simp⟩, hJx3⟩⟩

set_option maxHeartbeats 1000000 in
theorem values_in (F : Fence) (n : Nat) (hf : F.fn 26) (hro : F.round = none) (mb : Option Nat) (w : World) :
    CallsIn F n Try.prog 26 #[.map mb] w fun e w' => e = .returned (.func (.func 48) #[] #[.pointer (some ⟨w.heap.size, 0, none⟩)]) ∧ w' = w.alloc (.cells #[.map mb] 57) := by
  refine callsIn_of_wp Try.func26 rfl hf ?_ hro
  simp only [Try.ntmps26, List.size_toArray, List.length_cons, List.length_nil, Nat.reduceAdd, Nat.reduceSub, Array.replicate_succ, Array.replicate_zero, List.push_toArray, List.append_toArray, List.nil_append, List.cons_append]
  gi_wp2
  go_ret
  exact ⟨rfl, rfl⟩

theorem values_stops (F : Fence) (n : Nat) (h7 : F.fn 48) (hro : F.round = none) (hn : 1 ≤ n) (Bm b nn : Nat) (D0 : DataW Unit) (w : World) (hBm : Bm < w.heap.size)
    (hm : w.cell? ⟨Bm, 0, none⟩ = some (.map (some b))) (hown : w.ownsMap Try.prog 9 ptrRd b nn D0) :
    SeqStops F n Try.prog 48 #[.pointer (some ⟨Bm, 0, none⟩)] ptrV (fun xs => ∃ ps, AllOf D0 ps ∧ xs = ps.map (·.2)) (fun pre => ∃ ps, PartOf D0 ps ∧ pre = ps.map (·.2)) (Maps.size D0) w := fun l J Jx W hW hJ _ hY h0 => by
  have hown' : W.ownsMap Try.prog 9 ptrRd b nn D0 := by
    have hbl := hown.lt
    obtain ⟨es, clock, hb, Ft, hs, hD⟩ := hown
    exact ⟨es, clock, (hW.block b hbl).trans hb, Ft, hs, hD⟩
  exact values1S_in F n h7 hro hn l Bm b nn D0 J Jx hY W hJ ((hW.cell (p := ⟨Bm, 0, none⟩) hBm).trans hm) hown' h0


end Go.Proofs.Ytgpinkgfgkolfaa.PD
