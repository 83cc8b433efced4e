/- made: a log of at most four entries of one term. -/
import Derived.Test.YtigjfnleinhahaaTw
import Derived.Test.YtigjfnleinhahaaPLogx0
namespace Go.Proofs.Ytigjfnleinhahaa.PLog
open Go.RowKit Go.Proofs.YtigjfnleinhahaaW.PrintWords Go.Proofs.YtigjfnleinhahaaW.PrintLast Go.Proofs.YtigjfnleinhahaaW.PrintMore
open Go.Proofs.Ytigjfnleinhahaa.Reg
set_option linter.unusedVariables false
set_option linter.unusedSimpArgs false
set_option maxHeartbeats 4000000
set_option maxRecDepth 100000
/-- One entry of nothing but a term, just laid. -/
theorem C_one (W : World) (t : Int) : Kd.C k60 (W.alloc (.cells #[.int .i64 t, .int .i64 0, .int .i64 0, .string ByteArray.empty, .string ByteArray.empty, .string ByteArray.empty, .string ByteArray.empty, .string ByteArray.empty, .string ByteArray.empty, .slice none 0 0, .int .i64 0, .int .i64 0, .int .i64 0, .slice none 0 0] 60)) (some ⟨W.heap.size, 0, none⟩) 1 [en t] := by
  refine ⟨rfl, by decide, fun _ => ⟨_, rfl, fun j p hj => ?_⟩⟩
  have hj0 : j = 0 := by
    rcases j with _ | j
    · rfl
    · simp at hj
  subst hj0
  simp at hj
  subst hj
  refine ⟨_, rfl, k60_mk _ (en t) (A9 := none) (c9 := 0) (Nat.le_refl _) (Kd.C_nil _ _) (A13 := none) (c13 := 0) (Nat.le_refl _) (Kd.C_nil _ _), fun i u hi => ?_⟩
  have hb := heap_alloc_new W (.cells #[.int .i64 t, .int .i64 0, .int .i64 0, .string ByteArray.empty, .string ByteArray.empty, .string ByteArray.empty, .string ByteArray.empty, .string ByteArray.empty, .string ByteArray.empty, .slice none 0 0, .int .i64 0, .int .i64 0, .int .i64 0, .slice none 0 0] 60)
  rw [show (⟨W.heap.size, 0, none⟩ : Addr).add (0 * k60.sz + i) = ⟨W.heap.size, i, none⟩ by simp [Addr.add, eq_comm], cell_of_row _ _ _ _ _ _ hb]
  exact (List.getElem?_toArray ..).trans hi
theorem made_calls (w : World) (x y : Int) (hx : -9223372036854775808 ≤ x ∧ x ≤ 9223372036854775807) (hy : -9223372036854775808 ≤ y ∧ y ≤ 9223372036854775807) :
    Calls Try.prog 8 #[.agg #[.int .i64 x, .int .i64 y]] w fun e w' => ∃ g n, e = .returned (.pointer (some ⟨g, 0, none⟩)) ∧ n ≤ 4 ∧ Log w' (fun k => w.heap.size ≤ k ∧ k < w'.heap.size) g 0 0 (List.replicate n (en (1 + (y % 18446744073709551616 % 4)))) ∧ Below w.heap.size w w' := by
  have HX := Aside0.mk hx
  have HY := Aside0.mk hy
  clear hx hy
  go_enter Try.func8, Try.ntmps8
  go_wp2_with fail
  refine (new_calls _ 0 0).mono ?_
  rintro _ w1 ⟨g, rfl, hg, hL1, hB1⟩
  have hsz : (w.alloc (Obj.cells #[Value.int IntKind.i64 x, Value.int IntKind.i64 y] 22)).heap.size = w.heap.size + 1 := by show (w.heap.push _).size = _; rw [Array.size_push]
  have hnew := heap_alloc_new w (Obj.cells #[Value.int IntKind.i64 x, Value.int IntKind.i64 y] 22)
  have HW := Aside0.mk (below_alloc (Below.refl w.heap.size w) (Obj.cells #[Value.int IntKind.i64 x, Value.int IntKind.i64 y] 22))
  generalize w.alloc (Obj.cells #[Value.int IntKind.i64 x, Value.int IntKind.i64 y] 22) = w0 at *
  have hc0 : w1.cell? ⟨w.heap.size, 0, none⟩ = some (.int .i64 x) := by
    rw [hB1.cell (by simp [hsz])]; simp [World.cell?, hnew]
  have HC1 := Aside0.mk (show w0.cell? ⟨w.heap.size, 1, none⟩ = some (.int .i64 y) by simp [World.cell?, hnew])
  have H1 := Aside0.mk hL1
  have HB1 := Aside0.mk hB1
  have HSZ := Aside0.mk hsz
  clear hL1 hB1 hg hnew hsz
  go_wp2_with fail
  clear hc0
  obtain ⟨n, hn, hn4⟩ : ∃ n : Nat, wrap64 ((IntKind.u64.wrap x).tmod 5) = (n : Int) ∧ n ≤ 4 := by
    have h0 : 0 ≤ IntKind.u64.wrap x := by rw [show IntKind.u64.wrap x = x % 18446744073709551616 by simp [IntKind.wrap, IntKind.signed, IntKind.bits]]; omega
    have h1 : (IntKind.u64.wrap x).tmod 5 = (IntKind.u64.wrap x) % 5 := Int.tmod_eq_emod_of_nonneg h0
    refine ⟨((IntKind.u64.wrap x) % 5).toNat, ?_, by omega⟩
    rw [h1]
    unfold wrap64; omega
  have hu : IntKind.u64.wrap y = y % 18446744073709551616 := by simp [IntKind.wrap, IntKind.signed, IntKind.bits]
  have ht : wrap64 (1 + wrap64 ((IntKind.u64.wrap y).tmod 4)) = 1 + (y % 18446744073709551616 % 4) := by
    rw [hu, Int.tmod_eq_emod_of_nonneg (by omega)]
    unfold wrap64; omega
  generalize hte : 1 + (y % 18446744073709551616 % 4) = t at ht
  have HT := Aside0.mk hte
  clear hte
  simp only [hn]
  have HN := Aside0.mk hn4
  clear hn hu hn4
  go_loopw [10] (fun v10 wr => ∃ (i : Nat), v10 = .int .i64 (i : Int) ∧ Aside0 (i ≤ n) ∧ Aside0 (Log wr (fun k => w0.heap.size ≤ k) g 0 0 (List.replicate i (en t))) ∧ Aside0 (Below w0.heap.size w0 wr)) (fun v10 _ => n - (intOf v10).toNat)
  case atStart => exact ⟨0, rfl, Aside0.mk (Nat.zero_le _), H1, HB1⟩
  case round =>
    obtain ⟨i, rfl, HI, HL, HB⟩ := hrel
    by_cases hin : i < n
    · have d1 : decide ((i : Int) < (n : Int)) = true := decide_eq_true (by omega)
      have HIN := Aside0.mk hin
      have hc1 : wr.cell? ⟨w.heap.size, 1, none⟩ = some (.int .i64 y) := by
        rw [HB.out.cell (by have := HSZ.out; simp; omega)]; exact HC1.out
      go_wp2_with fail
      clear hin
      simp only [ht]
      refine (append_ens (ts := [t]) (HL.out.below (below_alloc (Below.refl _ _) _)) (by decide) _ 1 (C_one wr t) (by simp) (by have := HIN.out; have := HN.out; simp; omega) (by have := HIN.out; have := HN.out; simp; omega)).mono ?_
      rintro _ w2 ⟨rfl, hl, hk, hb⟩
      have H2 := Aside0.mk (show Log w2 (fun k => w0.heap.size ≤ k) g 0 0 (List.replicate (i + 1) (en t)) from by
        have h := hl.mono (ok' := fun k => w0.heap.size ≤ k) (fun k hk' => by
          rcases hk' with h1 | h1
          · exact h1
          · exact Nat.le_trans (Nat.le_trans HB.out.size (below_alloc (Below.refl wr.heap.size wr) _).size) h1)
        rw [List.replicate_succ']
        exact h)
      have HB2 := Aside0.mk (below_kept (below_alloc HB.out _) hk hb (fun k hk' => hk'))
      clear hl hk hb
      have hwi : wrap64 ((i : Int) + 1) = ((i + 1 : Nat) : Int) := by have := HIN.out; have := HN.out; unfold wrap64; omega
      go_wp2_with fail
      go_roundw
      case rel => exact ⟨i + 1, by rw [hwi], Aside0.mk (by have := HIN.out; omega), H2, HB2⟩
      case measure => have := HIN.out; rw [hwi]; simp [intOf]; omega
    · have d1 : decide ((i : Int) < (n : Int)) = false := decide_eq_false (by omega)
      have FIN := Aside0.mk (show Below w.heap.size w wr from HW.out.trans (HB.out.mono (by have := HSZ.out; omega)))
      go_wp2_with fail
      go_ret
      rw [HT.out]
      exact ⟨g, i, rfl, by have := HI.out; have := HN.out; omega, (Log.bound HL.out).mono (fun k hk => ⟨by have := HSZ.out; omega, hk.2⟩), FIN.out⟩
end Go.Proofs.Ytigjfnleinhahaa.PLog
