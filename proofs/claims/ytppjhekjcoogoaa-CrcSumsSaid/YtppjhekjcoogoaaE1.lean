/- The statement CrcEnds: the walk, call by call. -/
import Derived.Test.YtppjhekjcoogoaaF1
namespace Go.Proofs.Ytppjhekjcoogoaa.PCrc
open Go.RowKit Go.Proofs.YtppjhekjcoogoaaW.PrintWords Go.Proofs.YtppjhekjcoogoaaW.PrintLast Go.Proofs.YtppjhekjcoogoaaW.PrintMore
open Go.Proofs.Ytppjhekjcoogoaa.PSum (okB ns ns_lt)
open CrcMath
attribute [local go_sem] max2_int min2_int max_two min_two max_three min_three max_four min_four
set_option linter.unusedVariables false
set_option linter.unusedSimpArgs false
/-- A block of slices reads as those slices. -/
theorem C_rows {w : World} {g : Nat} {t : TypeId} {fr : Nat × Nat} {cs : Array Value} (ps : List (Option Addr × List Int × Nat)) (h : w.heap[g]? = some (.cells cs t fr)) (hcs : cs = (ps.map fun p => Value.slice p.1 p.2.1.length p.2.2).toArray)
    (hn : ps.length ≤ 9223372036854775807) (hp : ∀ p ∈ ps, Kd.C (Kd.int .u8) w p.1 p.2.1.length p.2.1 ∧ p.2.1.length ≤ p.2.2) :
    Kd.C (Kd.slice 5 (Kd.int .u8)) w (some ⟨g, 0, none⟩) (ps.map (·.2.1)).length (ps.map (·.2.1)) := by
  refine ⟨rfl, by simpa using hn, fun _ => ⟨_, rfl, fun j p hj => ?_⟩⟩
  obtain ⟨q, hq, rfl⟩ : ∃ q, ps[j]? = some q ∧ q.2.1 = p := by simpa using hj
  have hm := hp q (List.mem_of_getElem? hq)
  refine ⟨[.slice q.1 q.2.1.length q.2.2], rfl, ⟨q.1, q.2.2, rfl, hm.2, hm.1⟩, fun i u hu => ?_⟩
  have hi : i = 0 := by
    rcases i with _ | i
    · rfl
    · simp at hu
  subst hi
  have hu' : u = .slice q.1 q.2.1.length q.2.2 := by simpa using hu.symm
  subst hu'
  rw [add_plain, cell_of_row _ _ _ _ _ _ h, hcs]
  show (List.map _ ps).toArray[j * 1 + 0]? = _
  simp [hq]
/-- The sum of one row, in a world that has just got the list of rows. -/
theorem sum_one (W : World) (A : Option Addr) (m c : Nat) (xs : List Int) (hl : xs.length = m) (hC : Kd.C (Kd.int .u8) W A m xs) (hc : m ≤ c) (hok : okB xs) :
    Calls Try.prog 9 #[.slice (some ⟨W.heap.size, 0, none⟩) 1 1] (W.alloc (.cells #[.slice A m c] 22)) fun e w' => e = .returned (.int .u32 ((crcN (ns xs) : Nat) : Int)) ∧ Below W.heap.size W w' := by
  subst hl
  have hb : Below W.heap.size W (W.alloc (.cells #[.slice A xs.length c] 22)) := (Below.refl _ _).alloc (Nat.le_refl _) _
  have h := crc_Sum.calls (some ⟨W.heap.size, 0, none⟩) 1 [xs] ((crcN (ns xs) : Nat) : Int) (W.alloc (.cells #[.slice A xs.length c] 22)) (C_one (heap_alloc_new _ _) (Kd.C_below hC hb) hc) (by simp)
    (by unfold crc_Sum.f; rw [if_pos (by intro p hp; rw [List.mem_singleton.1 hp]; exact hok)]; simp)
  exact h.mono fun e w' ⟨he, hb2⟩ => ⟨he, hb.trans (hb2.mono (by simp))⟩
theorem info5 : (Try.prog.info? 5).map (fun i => (i.zero, i.size, i.bytes)) = some (some (.int .u8 0), 1, 1) := by kernel_rfl
theorem below_over {w w1 w2 : World} (h : Below w.heap.size w w1) (k : Below w1.heap.size w1 w2) : Below w.heap.size w w2 := h.trans (k.mono h.size)
theorem four_ok (s : Nat) : okB [(s : Int) % 256, (s : Int) / 256 % 256, (s : Int) / 65536 % 256, (s : Int) / 16777216 % 256] := by
  intro x hx
  simp only [List.mem_cons, List.not_mem_nil, or_false] at hx
  rcases hx with rfl | rfl | rfl | rfl <;> omega
theorem four_ns (s : Nat) : ns [(s : Int) % 256, (s : Int) / 256 % 256, (s : Int) / 65536 % 256, (s : Int) / 16777216 % 256] = [s % 256, s / 256 % 256, s / 65536 % 256, s / 16777216 % 256] := by
  have e0 : ((s : Int) % 256).toNat = s % 256 := by omega
  have e1 : ((s : Int) / 256 % 256).toNat = s / 256 % 256 := by omega
  have e2 : ((s : Int) / 65536 % 256).toNat = s / 65536 % 256 := by omega
  have e3 : ((s : Int) / 16777216 % 256).toNat = s / 16777216 % 256 := by omega
  show [((s : Int) % 256).toNat, ((s : Int) / 256 % 256).toNat, ((s : Int) / 65536 % 256).toNat, ((s : Int) / 16777216 % 256).toNat] = _
  rw [e0, e1, e2, e3]
/-- The sum of a row with its sum behind. -/
theorem sum_four (W : World) (o : Obj) (A : Option Addr) (m c : Nat) (xs : List Int) (hl : xs.length = m) (hC : Kd.C (Kd.int .u8) W A m xs) (hc : m ≤ c) (hok : okB xs) :
    Calls Try.prog 9 #[.slice (some ⟨W.heap.size + 1 + 1, 0, none⟩) 2 2] (((W.alloc o).alloc (.cells #[.int .u8 (((crcN (ns xs) : Nat) : Int) % 256), .int .u8 (((crcN (ns xs) : Nat) : Int) / 256 % 256), .int .u8 (((crcN (ns xs) : Nat) : Int) / 65536 % 256), .int .u8 (((crcN (ns xs) : Nat) : Int) / 16777216 % 256)] 5)).alloc (.cells #[.slice A m c, .slice (some ⟨W.heap.size + 1, 0, none⟩) 4 4] 22))
      fun e w' => e = .returned (.int .u32 558161692) ∧ Below W.heap.size W w' ∧ w'.heap[W.heap.size]? = some o := by
  subst hl
  obtain ⟨w3, hw3⟩ : ∃ w3, ((W.alloc o).alloc (.cells #[.int .u8 (((crcN (ns xs) : Nat) : Int) % 256), .int .u8 (((crcN (ns xs) : Nat) : Int) / 256 % 256), .int .u8 (((crcN (ns xs) : Nat) : Int) / 65536 % 256), .int .u8 (((crcN (ns xs) : Nat) : Int) / 16777216 % 256)] 5)).alloc (.cells #[.slice A xs.length c, .slice (some ⟨W.heap.size + 1, 0, none⟩) 4 4] 22) = w3 := ⟨_, rfl⟩
  have hb : Below W.heap.size W w3 := by rw [← hw3]; exact (((Below.refl _ _).alloc (Nat.le_refl _) _).alloc (by simp) _).alloc (by simp; omega) _
  have h2 : w3.heap[W.heap.size + 1 + 1]? = some (.cells #[.slice A xs.length c, .slice (some ⟨W.heap.size + 1, 0, none⟩) 4 4] 22 (0, 0)) := by
    rw [← hw3]; have := heap_alloc_new ((W.alloc o).alloc (.cells #[.int .u8 (((crcN (ns xs) : Nat) : Int) % 256), .int .u8 (((crcN (ns xs) : Nat) : Int) / 256 % 256), .int .u8 (((crcN (ns xs) : Nat) : Int) / 65536 % 256), .int .u8 (((crcN (ns xs) : Nat) : Int) / 16777216 % 256)] 5)) (.cells #[.slice A xs.length c, .slice (some ⟨W.heap.size + 1, 0, none⟩) 4 4] 22)
    simpa using this
  have h1 : w3.heap[W.heap.size + 1]? = some (.cells #[.int .u8 (((crcN (ns xs) : Nat) : Int) % 256), .int .u8 (((crcN (ns xs) : Nat) : Int) / 256 % 256), .int .u8 (((crcN (ns xs) : Nat) : Int) / 65536 % 256), .int .u8 (((crcN (ns xs) : Nat) : Int) / 16777216 % 256)] 5 (0, 0)) := by
    rw [← hw3, heap_alloc_old _ _ (by simp)]; exact heap_alloc2_new _ _ _
  have h0 : w3.heap[W.heap.size]? = some o := by
    rw [← hw3, heap_alloc_old _ _ (by simp; omega)]; exact heap_alloc2_old _ _ _
  have hsz : W.heap.size < w3.heap.size := (Array.getElem?_eq_some_iff.1 h0).1
  rw [hw3]
  have h := crc_Sum.calls (some ⟨W.heap.size + 1 + 1, 0, none⟩) 2 [xs, [((crcN (ns xs) : Nat) : Int) % 256, ((crcN (ns xs) : Nat) : Int) / 256 % 256, ((crcN (ns xs) : Nat) : Int) / 65536 % 256, ((crcN (ns xs) : Nat) : Int) / 16777216 % 256]] 558161692 w3
    (C_rows [(A, xs, c), (some ⟨W.heap.size + 1, 0, none⟩, [((crcN (ns xs) : Nat) : Int) % 256, ((crcN (ns xs) : Nat) : Int) / 256 % 256, ((crcN (ns xs) : Nat) : Int) / 65536 % 256, ((crcN (ns xs) : Nat) : Int) / 16777216 % 256], 4)] h2 rfl (by simp) (by
      intro p hp
      simp only [List.mem_cons, List.not_mem_nil, or_false] at hp
      rcases hp with rfl | rfl
      · exact ⟨Kd.C_below hC hb, hc⟩
      · exact ⟨C_bytes h1 rfl (by simp), by simp⟩)) (by simp) (by
      unfold crc_Sum.f
      rw [if_pos (by
        intro p hp
        simp only [List.mem_cons, List.not_mem_nil, or_false] at hp
        rcases hp with rfl | rfl
        · exact hok
        · exact four_ok _)]
      have e : ns [xs, [((crcN (ns xs) : Nat) : Int) % 256, ((crcN (ns xs) : Nat) : Int) / 256 % 256, ((crcN (ns xs) : Nat) : Int) / 65536 % 256, ((crcN (ns xs) : Nat) : Int) / 16777216 % 256]].flatten = ns xs ++ [crcN (ns xs) % 256, crcN (ns xs) / 256 % 256, crcN (ns xs) / 65536 % 256, crcN (ns xs) / 16777216 % 256] := by
        rw [← four_ns, ← ns_append]; simp
      rw [e, crc_behind _ (ns_lt hok)]
      rfl)
  exact h.mono fun e w' ⟨he, hb2⟩ => ⟨he, hb.trans (hb2.mono hb.size), (hb2.block _ hsz).trans h0⟩
theorem zeros_ne : ∀ z, z < 21 → 1 ≤ z → crcN (ns (List.replicate z 0)) ≠ 0 := by decide +kernel
theorem made_zeros (z : Nat) : madeCells #[.int .u8 0] z = ((List.replicate z (0 : Int)).map (Value.int .u8)).toArray := by
  apply Array.ext_getElem?
  intro i
  unfold madeCells
  by_cases h : i < z
  · simp [h, Nat.mod_one]
  · simp [h]
set_option maxHeartbeats 2000000 in
theorem ends_calls (A : Option Addr) (c : Nat) (l : List Int) (n : Int) (w : World) (hC : Kd.C (Kd.int .u8) w A l.length l) (hc : l.length ≤ c) (hok : okB l) (hn : -9223372036854775808 ≤ n ∧ n ≤ 9223372036854775807) :
    Calls Try.prog 6 #[.slice A l.length c, .int .i64 n] w fun e w' => e = .returned (.bool true) ∧ Below w.heap.size w w' := by
  have HC := Aside0.mk hC
  have hmax : l.length ≤ 9223372036854775807 := HC.out.2.1
  clear hC
  obtain ⟨z, hZ, hz1, hz2⟩ : ∃ z : Nat, wrap64 (1 + wrap64 ((IntKind.u64.wrap n).tmod 20)) = (z : Int) ∧ 1 ≤ z ∧ z ≤ 20 := by
    have e0 : IntKind.u64.wrap n = n % 18446744073709551616 := IntKind.wrap_u64 n
    have e1 : (IntKind.u64.wrap n).tmod 20 = (n % 18446744073709551616) % 20 := by rw [e0, Int.tmod_eq_emod_of_nonneg (by omega)]
    refine ⟨(1 + (n % 18446744073709551616) % 20).toNat, ?_, by omega, by omega⟩
    rw [e1]
    unfold wrap64
    omega
  obtain ⟨i0, hi, hz, hs, hby⟩ := info_parts info5
  have hmk : ∀ u : World, (Instr.makeSlice 22 (.int .i64 (z : Int)) (.int .i64 (z : Int))).run Try.prog u = .ok (.slice (some ⟨u.heap.size, 0, none⟩) z z) (u.alloc (.cells (madeCells #[.int .u8 0] z) 5)) := fun u => by
    have h := run_make (P := Try.prog) (w := u) 22 5 i0 (.int .u8 0) Try.underlying22 hi hz .i64 .i64 (z : Int) (z : Int) (by omega) (Int.le_refl _) (by rw [hby]; omega) (by omega)
    simpa [hs, Value.cells] using h
  clear hi hz hs hby
  have hok' := Aside0.mk hok
  clear hok
  by_cases h3 : 3000 < (l.length : Int)
  · obtain ⟨xs, hxs, hxl, hxC, hxok⟩ : ∃ xs : List Int, Aside0 (xs = l.take 3000) ∧ Aside0 (xs.length = 3000) ∧ Aside0 (Kd.C (Kd.int .u8) w A 3000 xs) ∧ Aside0 (okB xs) := by
      have hl : (l.take 3000).length = 3000 := by rw [List.length_take]; omega
      have h := Kd.C_take HC.out (show 3000 ≤ l.length by omega)
      rw [hl] at h
      exact ⟨_, ⟨rfl⟩, ⟨hl⟩, ⟨h⟩, ⟨fun x hx => hok'.out x (List.mem_of_mem_take hx)⟩⟩
    go_enter Try.func6, Try.ntmps6
    go_wp2_with (go_at_call 7; refine (first_calls _).mono ?_; rintro e w1 ⟨rfl, hb1⟩)
    refine (sum_one _ _ _ _ xs hxl.out (Kd.C_below hxC.out hb1) (by omega) hxok.out).mono ?_
    rintro e w2 ⟨rfl, hb2⟩
    go_wp2_with fail
    refine (sum_four _ _ _ _ _ xs hxl.out (Kd.C_below (Kd.C_below hxC.out hb1) hb2) (by omega) hxok.out).mono ?_
    rintro e w3 ⟨rfl, hb3, _⟩
    have HB := Aside0.mk (below_over (below_over hb1 hb2) hb3)
    clear hb1 hb2 hb3
    go_wp2
    go_ret
    exact ⟨rfl, HB.out⟩
  · have hC1 := HC.out
    by_cases h0 : 0 < l.length
    · go_enter Try.func6, Try.ntmps6
      go_wp2_with (go_at_call 7; refine (first_calls _).mono ?_; rintro e w1 ⟨rfl, hb1⟩)
      refine (sum_one _ _ _ _ l rfl (Kd.C_below HC.out hb1) (by omega) hok'.out).mono ?_
      rintro e w2 ⟨rfl, hb2⟩
      go_wp2_with fail
      refine (sum_four _ _ _ _ _ l rfl (Kd.C_below (Kd.C_below HC.out hb1) hb2) (by omega) hok'.out).mono ?_
      rintro e w3 ⟨rfl, hb3, _⟩
      have HB := Aside0.mk (below_over (below_over hb1 hb2) hb3)
      clear hb1 hb2 hb3
      go_wp2
      go_ret
      exact ⟨rfl, HB.out⟩
    · go_enter Try.func6, Try.ntmps6
      go_wp2_with (go_at_call 7; refine (first_calls _).mono ?_; rintro e w1 ⟨rfl, hb1⟩)
      refine (sum_one _ _ _ _ l rfl (Kd.C_below HC.out hb1) (by omega) hok'.out).mono ?_
      rintro e w2 ⟨rfl, hb2⟩
      go_wp2_with fail
      refine (sum_four _ _ _ _ _ l rfl (Kd.C_below (Kd.C_below HC.out hb1) hb2) (by omega) hok'.out).mono ?_
      rintro e w3 ⟨rfl, hb3, hzz⟩
      have HZ := Aside0.mk hzz
      have HB := Aside0.mk (below_over (below_over hb1 hb2) hb3)
      have hlt : Aside0 (w2.heap.size < w3.heap.size) := ⟨(Array.getElem?_eq_some_iff.1 hzz).1⟩
      clear hb1 hb2 hb3 hzz
      go_wp2_with fail
      have hzC : Kd.C (Kd.int .u8) w3 (some ⟨w2.heap.size, 0, none⟩) z (List.replicate z 0) := by
        have h := C_bytes (xs := List.replicate z 0) HZ.out (made_zeros z) (by simp; omega)
        simpa using h
      refine (sum_one _ _ _ _ (List.replicate z 0) (by simp) hzC (Nat.le_refl _) (by intro x hx; have := List.eq_of_mem_replicate hx; omega)).mono ?_
      rintro e w4 ⟨rfl, hb4⟩
      have HB4 := Aside0.mk (below_over HB.out hb4)
      clear hb4 hzC
      have hne : ((((crcN (ns (List.replicate z 0)) : Nat) : Int)) != 0) = true := by
        have := zeros_ne z (by omega) hz1
        rw [bne_iff_ne]; omega
      go_wp2
      go_ret
      exact ⟨rfl, HB4.out⟩
end Go.Proofs.Ytppjhekjcoogoaa.PCrc
