import Derived.Test.YtppjhekjcoogoaaFirst
import Derived.Lib.SlBytesConst
namespace Go.Proofs.Ytppjhekjcoogoaa.PCrc
open Go.RowKit Go.Proofs.YtppjhekjcoogoaaW.PrintWords Go.Proofs.YtppjhekjcoogoaaW.PrintLast Go.Proofs.YtppjhekjcoogoaaW.PrintMore
set_option linter.unusedVariables false
set_option linter.unusedSimpArgs false
/-- A block of bytes reads as its bytes. -/
theorem C_bytes {w : World} {g : Nat} {xs : List Int} {cs : Array Value} {t : TypeId} {fr : Nat × Nat} (h : w.heap[g]? = some (.cells cs t fr)) (hc : cs = (xs.map (Value.int .u8)).toArray) (hn : xs.length ≤ 9223372036854775807) :
    Kd.C (Kd.int .u8) w (some ⟨g, 0, none⟩) xs.length xs := by
  refine ⟨rfl, hn, fun _ => ⟨_, rfl, fun j p hj => ⟨[.int .u8 p], rfl, rfl, fun i u hu => ?_⟩⟩⟩
  have hi : i = 0 := by
    rcases i with _ | i
    · rfl
    · simp at hu
  subst hi
  have hp : u = .int .u8 p := by simpa using hu.symm
  subst hp
  rw [add_plain, cell_of_row _ _ _ _ _ _ h, hc]
  show (List.map (Value.int IntKind.u8) xs).toArray[j * 1 + 0]? = _
  simp [hj]
/-- A block of one slice reads as that slice. -/
theorem C_one {w : World} {g : Nat} {xs : List Int} {A : Option Addr} {c : Nat} {t : TypeId} {fr : Nat × Nat} (h : w.heap[g]? = some (.cells #[.slice A xs.length c] t fr)) (hx : Kd.C (Kd.int .u8) w A xs.length xs) (hc : xs.length ≤ c) :
    Kd.C (Kd.slice 5 (Kd.int .u8)) w (some ⟨g, 0, none⟩) [xs].length [xs] := by
  refine ⟨rfl, by simp, fun _ => ⟨_, rfl, fun j p hj => ?_⟩⟩
  have hj0 : j = 0 ∧ p = xs := by
    rcases j with _ | j
    · exact ⟨rfl, by simpa using hj.symm⟩
    · simp at hj
  obtain ⟨rfl, rfl⟩ := hj0
  refine ⟨[.slice A p.length c], rfl, ⟨A, c, rfl, hc, hx⟩, fun i u hu => ?_⟩
  have hi : i = 0 := by
    rcases i with _ | i
    · rfl
    · simp at hu
  subst hi
  rw [add_plain, cell_of_row _ _ _ _ _ _ h]
  simpa using hu
theorem first_calls (w : World) : Calls Try.prog 7 #[] w fun e w' => e = .returned (.bool true) ∧ Below w.heap.size w w' := by
  have kc := fun (w : World) (C : Array Value) (n c : Nat) => Lib.run_convert_bytes_const (P := Try.prog) w 22 5 C n c Try.underlying22 Try.underlying5
  go_enter Try.func7, Try.ntmps7
  go_wp2_with fail
  obtain ⟨w1, hw1⟩ : ∃ w1, ((w.alloc (.cells #[.int .u8 49, .int .u8 50, .int .u8 51, .int .u8 52, .int .u8 53, .int .u8 54, .int .u8 55, .int .u8 56, .int .u8 57] 5 (9, 10))).alloc (.cells #[.slice (some ⟨w.heap.size, 0, none⟩) 9 9] 22)) = w1 := ⟨_, rfl⟩
  have hb : Aside0 (Below w.heap.size w w1) := ⟨by rw [← hw1]; exact ((Below.refl _ _).alloc (Nat.le_refl _) _).alloc (by simp) _⟩
  have h0 : w1.heap[w.heap.size]? = some (.cells #[.int .u8 49, .int .u8 50, .int .u8 51, .int .u8 52, .int .u8 53, .int .u8 54, .int .u8 55, .int .u8 56, .int .u8 57] 5 (9, 10)) := by rw [← hw1]; exact heap_alloc2_old _ _ _
  have h1 : w1.heap[w.heap.size + 1]? = some (.cells #[.slice (some ⟨w.heap.size, 0, none⟩) 9 9] 22 (0, 0)) := by rw [← hw1]; exact heap_alloc2_new _ _ _
  have hC := C_one (xs := [49, 50, 51, 52, 53, 54, 55, 56, 57]) h1 (C_bytes h0 rfl (by decide)) (by decide)
  rw [hw1]
  refine (crc_Sum.calls _ 1 _ 3421780262 w1 hC (by decide) (by decide +kernel)).mono ?_
  clear hC h0 h1 hw1
  rintro e w2 ⟨rfl, hb2⟩
  have HB2 := Aside0.mk hb2
  clear hb2
  go_wp2_with fail
  refine (crc_Sum.calls none 0 [] 0 w2 (Kd.C_nil _ _) (by decide) (by decide +kernel)).mono ?_
  rintro e w3 ⟨rfl, hb3⟩
  have HB3 := Aside0.mk hb3
  clear hb3
  go_wp2
  go_ret
  exact ⟨rfl, (hb.out.trans (HB2.out.mono hb.out.size)).trans (HB3.out.mono (Nat.le_trans hb.out.size HB2.out.size))⟩
def calepinlaw16_first.f : Option Bool := some true
theorem calepinlaw16_first.calls (r : Bool) (w : World) (h : calepinlaw16_first.f  = some r) :
    Calls Try.prog 7 #[] w fun e w' => e = .returned (.bool r) ∧ Below w.heap.size w w' := by
  obtain rfl := Option.some.inj h
  exact first_calls w
end Go.Proofs.Ytppjhekjcoogoaa.PCrc
