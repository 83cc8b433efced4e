/- The document's disk, new and empty. -/
import Derived.Test.YtgpinkgfgkolfaaName
namespace Go.Proofs.Ytgpinkgfgkolfaa.PD
open Go.RowKit Go.Proofs.YtgpinkgfgkolfaaW.PrintWords Go.Proofs.YtgpinkgfgkolfaaW.PrintLast Go.Proofs.YtgpinkgfgkolfaaW.PrintMore
set_option linter.unusedVariables false
set_option linter.unusedSimpArgs false
set_option maxHeartbeats 4000000
set_option maxRecDepth 100000

open Go.Proofs
/-- The document's disk, new. -/
def newR (room : Int) : Array Value := #[.int .i64 room, .slice none 0 0, .slice none 0 0, .slice none 0 0, .bool false, .int .i64 0, .bool false]
abbrev RAt (w : World) (x : Nat) (room : Int) : Prop := w.heap[x]? = some (.cells (newR room) 48 (0, 0))

set_option maxHeartbeats 4000000 in
theorem rmay_e (x : Nat) (room : Int) (w : World) (h : RAt w x room) : Calls Try.prog 50 #[fptr x] w fun e w' => e = .returned (.tuple #[.bool true, .bool false]) ∧ w' = w := by
  have c1 : w.cell? ⟨x, 1, none⟩ = some (.slice none 0 0) := by simp [World.cell?, h, newR]
  have c2 : w.cell? ⟨x, 2, none⟩ = some (.slice none 0 0) := by simp [World.cell?, h, newR]
  have c3 : w.cell? ⟨x, 3, none⟩ = some (.slice none 0 0) := by simp [World.cell?, h, newR]
  have c4 : w.cell? ⟨x, 4, none⟩ = some (.bool false) := by simp [World.cell?, h, newR]
  have c5 : w.cell? ⟨x, 5, none⟩ = some (.int .i64 0) := by simp [World.cell?, h, newR]
  have c6 : w.cell? ⟨x, 6, none⟩ = some (.bool false) := by simp [World.cell?, h, newR]
  have f3 : w.frozen? ⟨x, 3, none⟩ = false := Lib.frozen_of_heap h 3
  have f4 : w.frozen? ⟨x, 4, none⟩ = false := Lib.frozen_of_heap h 4
  have f5 : w.frozen? ⟨x, 5, none⟩ = false := Lib.frozen_of_heap h 5
  have f6 : w.frozen? ⟨x, 6, none⟩ = false := Lib.frozen_of_heap h 6
  clear h
  go_enter Try.func50, Try.ntmps50
  go_wp2_with fail
  go_ret2
  exact ⟨rfl, rfl⟩
set_option maxHeartbeats 4000000 in
theorem rfind_e (nm : ByteArray) (w : World) : Calls Try.prog 45 #[.slice none 0 0, .string nm] w fun e w' => e = .returned (.int .i64 (-1)) ∧ w' = w := by
  go_enter Try.func45, Try.ntmps45
  go_wp2_with fail
  go_loopw [9] (fun i wr => i = .int .i64 0 ∧ wr = w) (fun i _ => 0)
  case atStart => exact ⟨rfl, rfl⟩
  case round =>
    obtain ⟨rfl, rfl⟩ := hrel
    go_wp2_with fail
    go_ret
    exact ⟨rfl, rfl⟩

set_option maxHeartbeats 4000000 in
theorem rsync_e (x : Nat) (room : Int) (nm : ByteArray) (w : World) (h : RAt w x room) : Calls Try.prog 37 #[fptr x, .string nm] w fun e w' => (∃ r, e = .returned (.int .i64 r)) ∧ w' = w := by
  have hm := rmay_e x room w h
  have c1 : w.cell? ⟨x, 1, none⟩ = some (.slice none 0 0) := by simp [World.cell?, h, newR]
  have c2 : w.cell? ⟨x, 2, none⟩ = some (.slice none 0 0) := by simp [World.cell?, h, newR]
  have c3 : w.cell? ⟨x, 3, none⟩ = some (.slice none 0 0) := by simp [World.cell?, h, newR]
  have c4 : w.cell? ⟨x, 4, none⟩ = some (.bool false) := by simp [World.cell?, h, newR]
  have c5 : w.cell? ⟨x, 5, none⟩ = some (.int .i64 0) := by simp [World.cell?, h, newR]
  have c6 : w.cell? ⟨x, 6, none⟩ = some (.bool false) := by simp [World.cell?, h, newR]
  have f3 : w.frozen? ⟨x, 3, none⟩ = false := Lib.frozen_of_heap h 3
  have f4 : w.frozen? ⟨x, 4, none⟩ = false := Lib.frozen_of_heap h 4
  have f5 : w.frozen? ⟨x, 5, none⟩ = false := Lib.frozen_of_heap h 5
  have f6 : w.frozen? ⟨x, 6, none⟩ = false := Lib.frozen_of_heap h 6
  clear h
  go_enter Try.func37, Try.ntmps37
  go_wp2_with (first | (go_at_call 50; refine hm.mono ?_; rintro _ _ ⟨rfl, rfl⟩) | (go_at_call 45; refine (rfind_e _ _).mono ?_; rintro _ _ ⟨rfl, rfl⟩))
  go_ret
  exact ⟨⟨_, rfl⟩, rfl⟩

set_option maxHeartbeats 4000000 in
theorem rrem_e (x : Nat) (room : Int) (nm : ByteArray) (w : World) (h : RAt w x room) : Calls Try.prog 39 #[fptr x, .string nm] w fun e w' => (∃ r, e = .returned (.int .i64 r)) ∧ w' = w := by
  have hm := rmay_e x room w h
  have c1 : w.cell? ⟨x, 1, none⟩ = some (.slice none 0 0) := by simp [World.cell?, h, newR]
  have c2 : w.cell? ⟨x, 2, none⟩ = some (.slice none 0 0) := by simp [World.cell?, h, newR]
  have c3 : w.cell? ⟨x, 3, none⟩ = some (.slice none 0 0) := by simp [World.cell?, h, newR]
  have c4 : w.cell? ⟨x, 4, none⟩ = some (.bool false) := by simp [World.cell?, h, newR]
  have c5 : w.cell? ⟨x, 5, none⟩ = some (.int .i64 0) := by simp [World.cell?, h, newR]
  have c6 : w.cell? ⟨x, 6, none⟩ = some (.bool false) := by simp [World.cell?, h, newR]
  have f3 : w.frozen? ⟨x, 3, none⟩ = false := Lib.frozen_of_heap h 3
  have f4 : w.frozen? ⟨x, 4, none⟩ = false := Lib.frozen_of_heap h 4
  have f5 : w.frozen? ⟨x, 5, none⟩ = false := Lib.frozen_of_heap h 5
  have f6 : w.frozen? ⟨x, 6, none⟩ = false := Lib.frozen_of_heap h 6
  clear h
  go_enter Try.func39, Try.ntmps39
  go_wp2_with (first | (go_at_call 50; refine hm.mono ?_; rintro _ _ ⟨rfl, rfl⟩) | (go_at_call 45; refine (rfind_e _ _).mono ?_; rintro _ _ ⟨rfl, rfl⟩))
  go_ret
  exact ⟨⟨_, rfl⟩, rfl⟩

set_option maxHeartbeats 4000000 in
theorem rren_e (x : Nat) (room : Int) (nm tn : ByteArray) (w : World) (h : RAt w x room) : Calls Try.prog 38 #[fptr x, .string nm, .string tn] w fun e w' => (∃ r, e = .returned (.int .i64 r)) ∧ w' = w := by
  have hm := rmay_e x room w h
  have c1 : w.cell? ⟨x, 1, none⟩ = some (.slice none 0 0) := by simp [World.cell?, h, newR]
  have c2 : w.cell? ⟨x, 2, none⟩ = some (.slice none 0 0) := by simp [World.cell?, h, newR]
  have c3 : w.cell? ⟨x, 3, none⟩ = some (.slice none 0 0) := by simp [World.cell?, h, newR]
  have c4 : w.cell? ⟨x, 4, none⟩ = some (.bool false) := by simp [World.cell?, h, newR]
  have c5 : w.cell? ⟨x, 5, none⟩ = some (.int .i64 0) := by simp [World.cell?, h, newR]
  have c6 : w.cell? ⟨x, 6, none⟩ = some (.bool false) := by simp [World.cell?, h, newR]
  have f3 : w.frozen? ⟨x, 3, none⟩ = false := Lib.frozen_of_heap h 3
  have f4 : w.frozen? ⟨x, 4, none⟩ = false := Lib.frozen_of_heap h 4
  have f5 : w.frozen? ⟨x, 5, none⟩ = false := Lib.frozen_of_heap h 5
  have f6 : w.frozen? ⟨x, 6, none⟩ = false := Lib.frozen_of_heap h 6
  clear h
  go_enter Try.func38, Try.ntmps38
  go_wp2_with (first | (go_at_call 50; refine hm.mono ?_; rintro _ _ ⟨rfl, rfl⟩) | (go_at_call 45; refine (rfind_e _ _).mono ?_; rintro _ _ ⟨rfl, rfl⟩))
  go_ret
  exact ⟨⟨_, rfl⟩, rfl⟩

set_option maxHeartbeats 4000000 in
theorem rcut_e (x : Nat) (room : Int) (nm : ByteArray) (n : Int) (w : World) (h : RAt w x room) : Calls Try.prog 36 #[fptr x, .string nm, .int .i64 n] w fun e w' => (∃ r, e = .returned (.int .i64 r)) ∧ w' = w := by
  have hm := rmay_e x room w h
  have c1 : w.cell? ⟨x, 1, none⟩ = some (.slice none 0 0) := by simp [World.cell?, h, newR]
  have c2 : w.cell? ⟨x, 2, none⟩ = some (.slice none 0 0) := by simp [World.cell?, h, newR]
  have c3 : w.cell? ⟨x, 3, none⟩ = some (.slice none 0 0) := by simp [World.cell?, h, newR]
  have c4 : w.cell? ⟨x, 4, none⟩ = some (.bool false) := by simp [World.cell?, h, newR]
  have c5 : w.cell? ⟨x, 5, none⟩ = some (.int .i64 0) := by simp [World.cell?, h, newR]
  have c6 : w.cell? ⟨x, 6, none⟩ = some (.bool false) := by simp [World.cell?, h, newR]
  have f3 : w.frozen? ⟨x, 3, none⟩ = false := Lib.frozen_of_heap h 3
  have f4 : w.frozen? ⟨x, 4, none⟩ = false := Lib.frozen_of_heap h 4
  have f5 : w.frozen? ⟨x, 5, none⟩ = false := Lib.frozen_of_heap h 5
  have f6 : w.frozen? ⟨x, 6, none⟩ = false := Lib.frozen_of_heap h 6
  clear h
  go_enter Try.func36, Try.ntmps36
  go_wp2_with (first | (go_at_call 50; refine hm.mono ?_; rintro _ _ ⟨rfl, rfl⟩) | (go_at_call 45; refine (rfind_e _ _).mono ?_; rintro _ _ ⟨rfl, rfl⟩))
  go_ret
  exact ⟨⟨_, rfl⟩, rfl⟩

set_option maxHeartbeats 4000000 in
theorem rfail_e (x : Nat) (room : Int) (n : Int) (w : World) (h : RAt w x room) : Calls Try.prog 42 #[fptr x, .int .i64 n] w fun e w' => (e = .returned (.tuple #[])) ∧ Kp (fun k => k = x ∨ w.heap.size ≤ k) w w' := by
  have hm := rmay_e x room w h
  have hxs := (Array.getElem?_eq_some_iff.1 h).1
  have c1 : w.cell? ⟨x, 1, none⟩ = some (.slice none 0 0) := by simp [World.cell?, h, newR]
  have c2 : w.cell? ⟨x, 2, none⟩ = some (.slice none 0 0) := by simp [World.cell?, h, newR]
  have c3 : w.cell? ⟨x, 3, none⟩ = some (.slice none 0 0) := by simp [World.cell?, h, newR]
  have c4 : w.cell? ⟨x, 4, none⟩ = some (.bool false) := by simp [World.cell?, h, newR]
  have c5 : w.cell? ⟨x, 5, none⟩ = some (.int .i64 0) := by simp [World.cell?, h, newR]
  have c6 : w.cell? ⟨x, 6, none⟩ = some (.bool false) := by simp [World.cell?, h, newR]
  have f3 : w.frozen? ⟨x, 3, none⟩ = false := Lib.frozen_of_heap h 3
  have f4 : w.frozen? ⟨x, 4, none⟩ = false := Lib.frozen_of_heap h 4
  have f5 : w.frozen? ⟨x, 5, none⟩ = false := Lib.frozen_of_heap h 5
  have f6 : w.frozen? ⟨x, 6, none⟩ = false := Lib.frozen_of_heap h 6
  clear h
  go_enter Try.func42, Try.ntmps42
  go_wp2_with (first | (go_at_call 50; refine hm.mono ?_; rintro _ _ ⟨rfl, rfl⟩) | (go_at_call 45; refine (rfind_e _ _).mono ?_; rintro _ _ ⟨rfl, rfl⟩))
  go_end0
  refine ⟨rfl, ?_⟩
  repeat (first | exact Kp.refl _ _ | refine Kp.setCell ?_ (.inl rfl) _ | refine Kp.trans ?_ (Kp.of_below (below_alloc (Below.refl _ _) _)))

set_option maxHeartbeats 4000000 in
theorem rflush_e (x : Nat) (room : Int)  (w : World) (h : RAt w x room) : Calls Try.prog 40 #[fptr x] w fun e w' => (∃ r, e = .returned (.int .i64 r)) ∧ Kp (fun k => k = x ∨ w.heap.size ≤ k) w w' := by
  have hm := rmay_e x room w h
  have hxs := (Array.getElem?_eq_some_iff.1 h).1
  have c1 : w.cell? ⟨x, 1, none⟩ = some (.slice none 0 0) := by simp [World.cell?, h, newR]
  have c2 : w.cell? ⟨x, 2, none⟩ = some (.slice none 0 0) := by simp [World.cell?, h, newR]
  have c3 : w.cell? ⟨x, 3, none⟩ = some (.slice none 0 0) := by simp [World.cell?, h, newR]
  have c4 : w.cell? ⟨x, 4, none⟩ = some (.bool false) := by simp [World.cell?, h, newR]
  have c5 : w.cell? ⟨x, 5, none⟩ = some (.int .i64 0) := by simp [World.cell?, h, newR]
  have c6 : w.cell? ⟨x, 6, none⟩ = some (.bool false) := by simp [World.cell?, h, newR]
  have f3 : w.frozen? ⟨x, 3, none⟩ = false := Lib.frozen_of_heap h 3
  have f4 : w.frozen? ⟨x, 4, none⟩ = false := Lib.frozen_of_heap h 4
  have f5 : w.frozen? ⟨x, 5, none⟩ = false := Lib.frozen_of_heap h 5
  have f6 : w.frozen? ⟨x, 6, none⟩ = false := Lib.frozen_of_heap h 6
  clear h
  go_enter Try.func40, Try.ntmps40
  go_wp2_with (first | (go_at_call 50; refine hm.mono ?_; rintro _ _ ⟨rfl, rfl⟩) | (go_at_call 45; refine (rfind_e _ _).mono ?_; rintro _ _ ⟨rfl, rfl⟩))
  go_ret
  refine ⟨⟨_, rfl⟩, ?_⟩
  repeat (first | exact Kp.refl _ _ | refine Kp.setCell ?_ (.inl rfl) _ | refine Kp.trans ?_ (Kp.of_below (below_alloc (Below.refl _ _) _)))

set_option maxHeartbeats 4000000 in
theorem rcrash_e (x : Nat) (room : Int) (n : Int) (w : World) (h : RAt w x room) : Calls Try.prog 41 #[fptr x, .int .i64 n] w fun e w' => (e = .returned (.tuple #[])) ∧ Kp (fun k => k = x ∨ w.heap.size ≤ k) w w' := by
  have hxs := (Array.getElem?_eq_some_iff.1 h).1
  have f2 : w.frozen? ⟨x, 2, none⟩ = false := Lib.frozen_of_heap h 2
  have c1 : w.cell? ⟨x, 1, none⟩ = some (.slice none 0 0) := by simp [World.cell?, h, newR]
  have c2 : w.cell? ⟨x, 2, none⟩ = some (.slice none 0 0) := by simp [World.cell?, h, newR]
  have c3 : w.cell? ⟨x, 3, none⟩ = some (.slice none 0 0) := by simp [World.cell?, h, newR]
  have c4 : w.cell? ⟨x, 4, none⟩ = some (.bool false) := by simp [World.cell?, h, newR]
  have c5 : w.cell? ⟨x, 5, none⟩ = some (.int .i64 0) := by simp [World.cell?, h, newR]
  have c6 : w.cell? ⟨x, 6, none⟩ = some (.bool false) := by simp [World.cell?, h, newR]
  have f3 : w.frozen? ⟨x, 3, none⟩ = false := Lib.frozen_of_heap h 3
  have f4 : w.frozen? ⟨x, 4, none⟩ = false := Lib.frozen_of_heap h 4
  have f5 : w.frozen? ⟨x, 5, none⟩ = false := Lib.frozen_of_heap h 5
  have f6 : w.frozen? ⟨x, 6, none⟩ = false := Lib.frozen_of_heap h 6
  clear h
  go_enter Try.func41, Try.ntmps41
  go_wp2_with fail
  go_loopw [11] (fun i wr => i = .int .i64 0 ∧ wr = w) (fun i _ => 0)
  case atStart => exact ⟨rfl, rfl⟩
  case round =>
    obtain ⟨rfl, rfl⟩ := hrel
    go_wp2_with fail
    go_end0
    refine ⟨rfl, ?_⟩
    repeat (first | exact Kp.refl _ _ | refine Kp.setCell ?_ (.inl rfl) _ | refine Kp.trans ?_ (Kp.of_below (below_alloc (Below.refl _ _) _)))

end Go.Proofs.Ytgpinkgfgkolfaa.PD
