/- The document's Write at a new, empty disk. -/
import Derived.Test.YtgpinkgfgkolfaaRefE
namespace Go.Proofs.Ytgpinkgfgkolfaa.PD
open Go.RowKit Go.Proofs.YtgpinkgfgkolfaaW.PrintWords Go.Proofs.YtgpinkgfgkolfaaW.PrintLast Go.Proofs.YtgpinkgfgkolfaaW.PrintMore
set_option linter.unusedVariables false
set_option linter.unusedSimpArgs false
set_option maxHeartbeats 4000000
set_option maxRecDepth 100000

open Go.Proofs
set_option maxHeartbeats 4000000 in
theorem rfree_e (x : Nat) (room : Int) (w : World) (h : RAt w x room) : Calls Try.prog 20 #[fptr x] w fun e w' => e = .returned (.int .i64 room) ∧ w' = w := by
  have c0 : w.cell? ⟨x, 0, none⟩ = some (.int .i64 room) := by simp [World.cell?, h, newR]
  have c1 : w.cell? ⟨x, 1, none⟩ = some (.slice none 0 0) := by simp [World.cell?, h, newR]
  have c2 : w.cell? ⟨x, 2, none⟩ = some (.slice none 0 0) := by simp [World.cell?, h, newR]
  have c3 : w.cell? ⟨x, 3, none⟩ = some (.slice none 0 0) := by simp [World.cell?, h, newR]
  have c4 : w.cell? ⟨x, 4, none⟩ = some (.bool false) := by simp [World.cell?, h, newR]
  have c5 : w.cell? ⟨x, 5, none⟩ = some (.int .i64 0) := by simp [World.cell?, h, newR]
  have c6 : w.cell? ⟨x, 6, none⟩ = some (.bool false) := by simp [World.cell?, h, newR]
  have f3 : w.frozen? ⟨x, 3, none⟩ = false := Lib.frozen_of_heap h 3
  have f4 : w.frozen? ⟨x, 4, none⟩ = false := Lib.frozen_of_heap h 4
  have f5 : w.frozen? ⟨x, 5, none⟩ = false := Lib.frozen_of_heap h 5
  have f6 : w.frozen? ⟨x, 6, none⟩ = false := Lib.frozen_of_heap h 6
  clear h
  go_enter Try.func20, Try.ntmps20
  go_wp2_with fail
  go_loopw [3, 20] (fun n i wr => n = .int .i64 room ∧ i = .int .i64 0 ∧ wr = w) (fun n i _ => 0)
  case atStart => exact ⟨rfl, rfl, rfl⟩
  case round =>
    obtain ⟨rfl, rfl, rfl⟩ := hrel
    go_wp2_with fail
    go_ret
    exact ⟨rfl, rfl⟩
theorem info53 : (Try.prog.info? 53).map (fun i => (i.zero, i.size)) = some (some (.agg #[.string ⟨#[]⟩, .int .i64 0]), 2) := by kernel_rfl
theorem info53b : (Try.prog.info? 53).map (fun i => (i.zero, i.size, i.bytes)) = some (some (.agg #[.string ⟨#[]⟩, .int .i64 0]), 2, 24) := by kernel_rfl
theorem app_link (nm : ByteArray) (w : World) (ty : TypeId) : ∃ A n c w', (Builtin.append_ #[46, 46] 46 #[.slice none 0 0, .slice (some ⟨w.heap.size, 0, none⟩) 1 1]).run Try.prog (w.alloc (.cells #[.string nm, .int .i64 0] 53)) = .ok (.slice A n c) w' ∧ Below w.heap.size w w' := by
  obtain ⟨i0, hi, hz0, hz1, hz2⟩ := info_parts info53b
  have hh : (w.alloc (.cells #[.string nm, .int .i64 0] 53)).heap[w.heap.size]? = some (.cells #[.string nm, .int .i64 0] 53 (0, 0)) := heap_alloc_new w _
  have hr := run_append_nil (P := Try.prog) (w := w.alloc (.cells #[.string nm, .int .i64 0] 53)) 46 46 53 i0 _ Try.underlying46 hi hz0 ⟨w.heap.size, 0, none⟩ 1 1 [.string nm, .int .i64 0] (by rw [hz1]; rfl) (fun j u hu => by
    have ha : (⟨w.heap.size, 0, none⟩ : Addr).add j = ⟨w.heap.size, j, none⟩ := by unfold Addr.add; split <;> simp_all
    rw [ha]
    have hu' : (#[Value.string nm, .int .i64 0] : Array Value)[j]? = some u := by rw [← hu]; simp
    simp only [World.cell?, hh]
    exact hu') (by decide) (by decide) (by rw [hz2]; decide)
  have b1 : Below w.heap.size w (w.alloc (.cells #[.string nm, .int .i64 0] 53)) := below_alloc (Below.refl _ _) _
  exact ⟨_, _, _, _, hr, ((below_drew b1).alloc (by simp) _)⟩
set_option maxHeartbeats 4000000 in
theorem rlink_e (nm : ByteArray) (w : World) : Calls Try.prog 53 #[.slice none 0 0, .string nm, .int .i64 0] w fun e w' => (∃ A n c, e = .returned (.slice A n c)) ∧ Below w.heap.size w w' := by
  obtain ⟨A, n, c, w1, hrun, hb⟩ := app_link nm w 0
  have HRUN := Aside0.mk hrun
  have HB := Aside0.mk hb
  clear hrun hb
  go_enter Try.func53, Try.ntmps53
  go_wp2_with fail
  go_loopw [7, 8, 15] (fun a b i wr => a = .slice none 0 0 ∧ b = .bool false ∧ i = .int .i64 0 ∧ wr = w) (fun a b i _ => 0)
  case atStart => exact ⟨rfl, rfl, rfl, rfl⟩
  case round =>
    obtain ⟨rfl, rfl, rfl, rfl⟩ := hrel
    go_wp2_with (at_builtin; refine wpList_append_run rfl _ _ 46 rfl _ _ _ _ rfl rfl HRUN.out ?_)
    go_ret
    exact ⟨⟨A, n, c, rfl⟩, HB.out⟩

end Go.Proofs.Ytgpinkgfgkolfaa.PD
