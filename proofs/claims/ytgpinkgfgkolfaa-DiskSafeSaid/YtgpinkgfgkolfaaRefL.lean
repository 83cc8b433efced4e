/- The document's lay at a new, empty disk. -/
import Derived.Test.YtgpinkgfgkolfaaRefW
import Derived.Deep.RegionLaw
namespace Go.Proofs.Ytgpinkgfgkolfaa.PD
open Go.RowKit Go.Proofs.YtgpinkgfgkolfaaW.PrintWords Go.Proofs.YtgpinkgfgkolfaaW.PrintLast Go.Proofs.YtgpinkgfgkolfaaW.PrintMore
set_option linter.unusedVariables false
set_option linter.unusedSimpArgs false
set_option maxHeartbeats 4000000
set_option maxRecDepth 100000

open Go.Proofs
theorem step_append_run {P : Program} {ops : Array Oper} {o : Oper} {a : Act} {w : World} {K : Act → World → Prop} {Q : Exit → Act → World → Prop} (hg : o.guard = none) (s x : Operand) (t : TypeId)
    (hop : o.op = Op.call { callee := Callee.builtin Builtin.append, args := #[s, x], argTypes := #[t, t] }) (v xv v1 : Value) (w1 : World) (hs : a.eval s = v) (hx : a.eval x = xv) (hrun : (Builtin.append_ #[t, t] o.type #[v, xv]).run P w = .ok v1 w1)
    (h : K (a.put o.dst v1) w1) : if Region.wanted o (yielded ops a.tmps) = true then Oper.wp P o a w K Q else K (a.put o.dst undef) w := by
  rw [if_pos (by unfold Region.wanted; rw [hg])]
  unfold Oper.wp
  simp [execOp, hop, resolve, invoke, builtin, hs, hx, hrun, Result.andThen]
  exact h
theorem info87 : (Try.prog.info? 87).map (fun i => (i.zero, i.size, i.bytes)) = some (some (.agg #[.slice none 0 0, .int .i64 0]), 2, 32) := by kernel_rfl
/-- append of a new file onto no files. -/
theorem app_file (w : World) : ∃ cap cs w', (Builtin.append_ #[45, 45] 45 #[.slice none 0 0, .slice (some ⟨w.heap.size, 0, none⟩) 1 1]).run Try.prog (w.alloc (.cells #[.slice none 0 0, .int .i64 0] 87)) = .ok (.slice (some ⟨w.heap.size + 1, 0, none⟩) 1 cap) w' ∧ Below w.heap.size w w' ∧
    w'.heap[w.heap.size + 1]? = some (.cells (#[.slice none 0 0, .int .i64 0] ++ cs) 87 (0, 0)) := by
  obtain ⟨i0, hi, hz0, hz1, hz2⟩ := info_parts info87
  have hh : (w.alloc (.cells #[.slice none 0 0, .int .i64 0] 87)).heap[w.heap.size]? = some (.cells #[.slice none 0 0, .int .i64 0] 87 (0, 0)) := heap_alloc_new w _
  have hr := run_append_nil (P := Try.prog) (w := w.alloc (.cells #[.slice none 0 0, .int .i64 0] 87)) 45 45 87 i0 _ Try.underlying45 hi hz0 ⟨w.heap.size, 0, none⟩ 1 1 [.slice none 0 0, .int .i64 0] (by rw [hz1]; rfl) (fun j u hu => by
    have ha : (⟨w.heap.size, 0, none⟩ : Addr).add j = ⟨w.heap.size, j, none⟩ := by unfold Addr.add; split <;> simp_all
    rw [ha]
    have hu' : (#[Value.slice none 0 0, .int .i64 0] : Array Value)[j]? = some u := by rw [← hu]; simp
    simp only [World.cell?, hh]
    exact hu') (by decide) (by decide) (by rw [hz2]; decide)
  have b1 : Below w.heap.size w (w.alloc (.cells #[.slice none 0 0, .int .i64 0] 87)) := below_alloc (Below.refl _ _) _
  have hsz : (w.alloc (.cells #[.slice none 0 0, .int .i64 0] 87)).heap.size = w.heap.size + 1 := by simp
  rw [hsz] at hr
  exact ⟨_, _, _, hr, ((below_drew b1).alloc (by simp) _), by have := heap_alloc_new (w.alloc (.cells #[.slice none 0 0, .int .i64 0] 87)).drew (.cells (([.slice none 0 0, .int .i64 0] : List Value).toArray ++ Builtin.zeroCells (Value.agg #[.slice none 0 0, .int .i64 0]).cells (grownCap (w.alloc (.cells #[.slice none 0 0, .int .i64 0] 87)) 1 0 87 - 1)) 87); rw [show (w.alloc (.cells #[.slice none 0 0, .int .i64 0] 87)).drew.heap.size = w.heap.size + 1 from hsz] at this; exact this⟩
set_option maxHeartbeats 16000000 in
theorem rlay_e (x : Nat) (room : Int) (nm : ByteArray) (BA : Option Addr) (bc : Nat) (xs : List UInt8) (w : World) (h : RAt w x room) (hs : ∀ W, Kp (fun k => k = x ∨ w.heap.size ≤ k) w W → SrcAt W (.slice BA xs.length bc) xs) (hl : xs.length ≤ 140737488355328) :
    Calls Try.prog 51 #[fptr x, .string nm, .slice BA xs.length bc] w fun e w' => e = .returned (.tuple #[]) ∧ Kp (fun k => k = x ∨ w.heap.size ≤ k) w w' := by
  have hxs := (Array.getElem?_eq_some_iff.1 h).1
  obtain ⟨cap, cs, w1, hrun1, hb1, hg1⟩ := app_file w
  have hx1 : RAt w1 x room := (hb1.block x hxs).trans h
  have hx2 := heap_put hx1 (i := 1) (.slice (some ⟨w.heap.size + 1, 0, none⟩) 1 cap) (cs' := #[.int .i64 room, .slice (some ⟨w.heap.size + 1, 0, none⟩) 1 cap, .slice none 0 0, .slice none 0 0, .bool false, .int .i64 0, .bool false]) rfl
  have c1' : w1.cell? ⟨x, 1, none⟩ = some (.slice none 0 0) := by simp [World.cell?, hx1, newR]
  have f1' : w1.frozen? ⟨x, 1, none⟩ = false := Lib.frozen_of_heap hx1 1
  have c12 : w1.cell? ⟨x, 2, none⟩ = some (.slice none 0 0) := by simp [World.cell?, hx1, newR]
  have HRUN1 := Aside0.mk hrun1
  obtain ⟨w2, hw2⟩ : ∃ W, W = w1.setCell ⟨x, 1, none⟩ (.slice (some ⟨w.heap.size + 1, 0, none⟩) 1 cap) := ⟨_, rfl⟩
  have hg2 : w2.heap[w.heap.size + 1]? = some (.cells (#[.slice none 0 0, .int .i64 0] ++ cs) 87 (0, 0)) := by rw [hw2]; exact (Below.heap_setCell _ _ _ _ (by show w.heap.size + 1 ≠ x; omega)).trans hg1
  have hb2 : Kp (fun k => k = x ∨ w.heap.size ≤ k) w w2 := by rw [hw2]; exact (Kp.of_below hb1).setCell (p := ⟨x, 1, none⟩) (.inl rfl) _
  rw [← hw2] at hx2
  have c22 : w2.cell? ⟨x, 2, none⟩ = some (.slice none 0 0) := by simp [World.cell?, hx2]
  have HW2 := Aside0.mk hw2
  have HX2 := Aside0.mk hx2
  have HG2 := Aside0.mk hg2
  have HB2 := Aside0.mk hb2
  have HS := Aside0.mk hs
  have HXS := Aside0.mk (And.intro hxs hl)
  clear hrun1 hb1 hg1 hx1 hw2 hg2 hb2 hx2 hs hl
  have c1 : w.cell? ⟨x, 1, none⟩ = some (.slice none 0 0) := by simp [World.cell?, h, newR]
  have c2 : w.cell? ⟨x, 2, none⟩ = some (.slice none 0 0) := by simp [World.cell?, h, newR]
  have c3 : w.cell? ⟨x, 3, none⟩ = some (.slice none 0 0) := by simp [World.cell?, h, newR]
  have c4 : w.cell? ⟨x, 4, none⟩ = some (.bool false) := by simp [World.cell?, h, newR]
  have c5 : w.cell? ⟨x, 5, none⟩ = some (.int .i64 0) := by simp [World.cell?, h, newR]
  have c6 : w.cell? ⟨x, 6, none⟩ = some (.bool false) := by simp [World.cell?, h, newR]
  have f3 : w.frozen? ⟨x, 3, none⟩ = false := Lib.frozen_of_heap h 3
  have f4 : w.frozen? ⟨x, 4, none⟩ = false := Lib.frozen_of_heap h 4
  have f5 : w.frozen? ⟨x, 5, none⟩ = false := Lib.frozen_of_heap h 5
  have f6 : w.frozen? ⟨x, 6, none⟩ = false := Lib.frozen_of_heap h 6
  clear h
  clear c3 c4 c5 c6 f3 f4 f5 f6
  clear hxs
  go_enter Try.func51, Try.ntmps51
  go_wp2_with (first | (go_at_call 45; refine (rfind_e _ _).mono ?_; rintro _ w9 ⟨rfl, hww⟩; subst w9) | (at_builtin; refine wpList_append_run rfl _ _ 45 rfl _ _ _ _ rfl rfl HRUN1.out ?_))
  change Calls _ _ _ (w1.setCell ⟨x, 1, none⟩ (.slice (some ⟨w.heap.size + 1, 0, none⟩) 1 cap)) _
  rw [← HW2.out]
  refine (rlink_e nm w2).mono ?_
  rintro _ w3 ⟨⟨LA, ln, lc, rfl⟩, hb3⟩
  have hx3 := (hb3.block x (Array.getElem?_eq_some_iff.1 HX2.out).1).trans HX2.out
  have hg3 := (hb3.block _ (Array.getElem?_eq_some_iff.1 HG2.out).1).trans HG2.out
  have c32 : w3.cell? ⟨x, 2, none⟩ = some (.slice none 0 0) := by simp [World.cell?, hx3]
  have f32 : w3.frozen? ⟨x, 2, none⟩ = false := Lib.frozen_of_heap hx3 2
  have hx4 := heap_put hx3 (i := 2) (.slice LA ln lc) (cs' := #[.int .i64 room, .slice (some ⟨w.heap.size + 1, 0, none⟩) 1 cap, .slice LA ln lc, .slice none 0 0, .bool false, .int .i64 0, .bool false]) rfl
  have hg4 := (Below.heap_setCell w3 ⟨x, 2, none⟩ (.slice LA ln lc) (w.heap.size + 1) (by have := HXS.out.1; show w.heap.size + 1 ≠ x; omega)).trans hg3
  have hb4 : Kp (fun k => k = x ∨ w.heap.size ≤ k) w (w3.setCell ⟨x, 2, none⟩ (.slice LA ln lc)) := (HB2.out.trans (Kp.of_below hb3)).setCell (p := ⟨x, 2, none⟩) (.inl rfl) _
  clear c1 c2 c1' f1' c12 c22 hb3 hx3 hg3
  go_wp2_with fail
  change Code.wp _ _ _ _ (w3.setCell ⟨x, 2, none⟩ (.slice LA ln lc))
  generalize w3.setCell ⟨x, 2, none⟩ (.slice LA ln lc) = w4 at *
  clear c32 f32
  have hz0 : (#[Value.slice none 0 0, Value.int .i64 0] ++ cs)[0]? = some (.slice none 0 0) := by
    rw [Array.getElem?_append_left (by decide)]; rfl
  obtain ⟨v5, w5, hrun5, hrow5, hgr5⟩ := append_row (w := w4.drew) (ok := fun k => x ≤ k) (.inl ⟨rfl, rfl⟩) (HS.out w4.drew (hb4.trans (Kp.of_below (below_drew (Below.refl _ _))))) (by simpa using HXS.out.2)
  obtain ⟨A5, q5, hv5, -⟩ := hrow5.slice
  subst hv5
  generalize ([] ++ xs).length = n5 at *
  have hb5 : Kp (fun k => k = x ∨ w.heap.size ≤ k) w w5 := (hb4.trans (Kp.of_below (below_drew (Below.refl _ _)))).trans (Kp.of_grown hgr5 (fun k e => by cases e))
  have hg5 := (hgr5.block _ (Array.getElem?_eq_some_iff.1 hg4).1 (fun e => by cases e)).trans hg4
  have hx5 := (hgr5.block _ (Array.getElem?_eq_some_iff.1 hx4).1 (fun e => by cases e)).trans hx4
  have c41 : w4.cell? ⟨x, 1, none⟩ = some (.slice (some ⟨w.heap.size + 1, 0, none⟩) 1 cap) := by simp [World.cell?, hx4]
  have c4g : w4.cell? ⟨w.heap.size + 1, 0, none⟩ = some (.slice none 0 0) := by simp only [World.cell?, hg4]; exact hz0
  have c51 : w5.cell? ⟨x, 1, none⟩ = some (.slice (some ⟨w.heap.size + 1, 0, none⟩) 1 cap) := by simp [World.cell?, hx5]
  have c5g : w5.cell? ⟨w.heap.size + 1, 0, none⟩ = some (.slice none 0 0) := by simp only [World.cell?, hg5]; exact hz0
  have f5g : w5.frozen? ⟨w.heap.size + 1, 0, none⟩ = false := Lib.frozen_of_heap hg5 0
  have HB5 := Aside0.mk (hb5.setCell (p := ⟨w.heap.size + 1, 0, none⟩) (.inr (by show w.heap.size ≤ w.heap.size + 1; omega)) (.slice A5 n5 q5))
  have HRUN5 := Aside0.mk hrun5
  clear hb4 hg4 hx4 hrow5 hgr5 hb5 hg5 hx5 hrun5 hz0
  go_region_law (refine step_append_run rfl _ _ 29 rfl _ _ _ _ rfl rfl HRUN5.out ?_)
  all_goals
    go_wp2_with fail
    go_end0
    exact ⟨rfl, HB5.out⟩
set_option maxHeartbeats 16000000 in
theorem rwrite_e (x : Nat) (room : Int) (nm : ByteArray) (BA : Option Addr) (bc : Nat) (xs : List UInt8) (w : World) (h : RAt w x room) (hs : ∀ W, Kp (fun k => k = x ∨ w.heap.size ≤ k) w W → SrcAt W (.slice BA xs.length bc) xs) (hl : xs.length ≤ 140737488355328) :
    Calls Try.prog 34 #[fptr x, .string nm, .slice BA xs.length bc] w fun e w' => (∃ r, e = .returned (.int .i64 r)) ∧ Kp (fun k => k = x ∨ w.heap.size ≤ k) w w' := by
  have hm := rmay_e x room w h
  have HF := Aside0.mk (rfree_e x room w h)
  have HL := Aside0.mk (rlay_e x room nm BA bc xs w h hs hl)
  generalize xs.length = n at *
  clear h hs hl
  by_cases h0 : nm.size = 0
  · go_enter Try.func34, Try.ntmps34
    go_wp2_with (go_at_call 50; refine hm.mono ?_; rintro _ w9 ⟨rfl, hww⟩; subst w9)
    go_ret
    exact ⟨⟨_, rfl⟩, Kp.refl _ _⟩
  · by_cases h1 : room < (n : Int)
    · go_enter Try.func34, Try.ntmps34
      go_wp2_with (first | (go_at_call 50; refine hm.mono ?_; rintro _ w9 ⟨rfl, hww⟩; subst w9) | (go_at_call 20; refine HF.out.mono ?_; rintro _ w9 ⟨rfl, hww⟩; subst w9))
      go_ret
      exact ⟨⟨_, rfl⟩, Kp.refl _ _⟩
    · go_enter Try.func34, Try.ntmps34
      go_wp2_with (first | (go_at_call 50; refine hm.mono ?_; rintro _ w9 ⟨rfl, hww⟩; subst w9) | (go_at_call 20; refine HF.out.mono ?_; rintro _ w9 ⟨rfl, hww⟩; subst w9))
      refine HL.out.mono ?_
      rintro _ w8 ⟨rfl, hb⟩
      have HB := Aside0.mk hb
      clear hb
      go_wp2_with fail
      go_ret
      exact ⟨⟨_, rfl⟩, HB.out⟩

end Go.Proofs.Ytgpinkgfgkolfaa.PD
