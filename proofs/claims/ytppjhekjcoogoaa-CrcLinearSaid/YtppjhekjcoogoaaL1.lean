/- The statement CrcLinear: the walk. -/
import Derived.Test.YtppjhekjcoogoaaL0
import Derived.RegionTactic
import Derived.BigRegion
namespace Go.Proofs.Ytppjhekjcoogoaa.PCrc
open Go.RowKit Go.Proofs.YtppjhekjcoogoaaW.PrintWords Go.Proofs.YtppjhekjcoogoaaW.PrintLast Go.Proofs.YtppjhekjcoogoaaW.PrintMore
open Go.Proofs.Ytppjhekjcoogoaa.PSum (okB ns ns_lt)
open CrcMath Reg
set_option linter.unusedVariables false
set_option linter.unusedSimpArgs false
/-- The row that is made: a block of its own. -/
def Blk (w : World) (g : Nat) (ds : List Int) : Prop := w.heap[g]? = some (.cells ((ds.map (Value.int .u8)).toArray) 5 (0, 0))
theorem three (la lb lc ds : List Int) (n : Nat) (na : n ≤ la.length) (nb : n ≤ lb.length) (nc : n ≤ lc.length) (oa : okB la) (ob : okB lb) (oc : okB lc) (hl : ds.length = n)
    (h : ∀ i : Nat, i < n → ds[i]? = some (Go.bits .xor .u8 (Go.bits .xor .u8 (rd la i) (rd lb i)) (rd lc i))) :
    okB ds ∧ crcN (ns ds) = crcN (ns (la.take n)) ^^^ crcN (ns (lb.take n)) ^^^ crcN (ns (lc.take n)) := by
  have key : ∀ i : Nat, (hi : i < n) → ∃ x y z : Nat, x < 256 ∧ y < 256 ∧ z < 256 ∧ la[i]? = some (x : Int) ∧ lb[i]? = some (y : Int) ∧ lc[i]? = some (z : Int) ∧ ds[i]? = some ((x ^^^ y ^^^ z : Nat) : Int) := by
    intro i hi
    have ia : i < la.length := by omega
    have ib : i < lb.length := by omega
    have ic : i < lc.length := by omega
    have ha := oa _ (List.getElem_mem ia)
    have hb := ob _ (List.getElem_mem ib)
    have hc := oc _ (List.getElem_mem ic)
    obtain ⟨x, hx⟩ := Int.eq_ofNat_of_zero_le ha.1
    obtain ⟨y, hy⟩ := Int.eq_ofNat_of_zero_le hb.1
    obtain ⟨z, hz⟩ := Int.eq_ofNat_of_zero_le hc.1
    have ea : rd la i = (x : Int) := by rw [← hx]; simp [rd, List.getD, List.getElem?_eq_getElem ia]
    have eb : rd lb i = (y : Int) := by rw [← hy]; simp [rd, List.getD, List.getElem?_eq_getElem ib]
    have ec : rd lc i = (z : Int) := by rw [← hz]; simp [rd, List.getD, List.getElem?_eq_getElem ic]
    refine ⟨x, y, z, by omega, by omega, by omega, by rw [List.getElem?_eq_getElem ia, hx], by rw [List.getElem?_eq_getElem ib, hy], by rw [List.getElem?_eq_getElem ic, hz], ?_⟩
    rw [h i hi, ea, eb, ec, u8_xor_nat x y (by omega) (by omega), u8_xor_nat _ z (Nat.xor_lt_two_pow (n := 8) (by omega) (by omega)) (by omega)]
  constructor
  · intro x hx
    obtain ⟨i, hi, rfl⟩ := List.getElem_of_mem hx
    obtain ⟨a, b, c, ha, hb, hc, _, _, _, hd⟩ := key i (by omega)
    rw [List.getElem?_eq_getElem hi] at hd
    injection hd with hd
    have : a ^^^ b ^^^ c < 2 ^ 8 := Nat.xor_lt_two_pow (Nat.xor_lt_two_pow (by omega) (by omega)) (by omega)
    rw [hd]
    omega
  · have e : ns ds = List.zipWith (· ^^^ ·) (List.zipWith (· ^^^ ·) (ns (la.take n)) (ns (lb.take n))) (ns (lc.take n)) := by
      apply List.ext_getElem?
      intro i
      by_cases hi : i < n
      · obtain ⟨a, b, c, _, _, _, ea, eb, ec, ed⟩ := key i hi
        simp [ns, List.getElem?_zipWith, List.getElem?_map, List.getElem?_take, hi, ea, eb, ec, ed]
      · simp [ns, List.getElem?_zipWith, List.getElem?_take, hi, List.getElem?_eq_none (show ds.length ≤ i by omega)]
    rw [e]
    exact crcN_three _ _ _ (by simp [ns]; omega) (by simp [ns]; omega)
set_option maxHeartbeats 4000000 in
set_option maxRecDepth 100000 in
theorem linear_calls (A B C : Option Addr) (ca cb cc : Nat) (la lb lc : List Int) (n : Nat) (w : World) (hA : Kd.C (Kd.int .u8) w A la.length la) (hB : Kd.C (Kd.int .u8) w B lb.length lb) (hC : Kd.C (Kd.int .u8) w C lc.length lc)
    (ha : la.length ≤ ca) (hb : lb.length ≤ cb) (hc : lc.length ≤ cc) (oa : okB la) (ob : okB lb) (oc : okB lc)
    (hn : mn (mn (mn (la.length : Int) (lb.length : Int)) (lc.length : Int)) 2000 = (n : Int)) :
    Calls Try.prog 5 #[.slice A la.length ca, .slice B lb.length cb, .slice C lc.length cc] w fun e w' => e = .returned (.bool true) ∧ Below w.heap.size w w' := by
  have hmin : ∀ W : World, (Builtin.min_ #[3, 3, 3, 3] 3 #[.int .i64 (la.length : Int), .int .i64 (lb.length : Int), .int .i64 (lc.length : Int), .int .i64 2000]).run Try.prog W = .ok (.int .i64 (n : Int)) W := by
    intro W
    rw [min_four, ← hn]
    simp [min2_int, mn]
  have hn3 : n ≤ la.length ∧ n ≤ lb.length ∧ n ≤ lc.length ∧ n ≤ 2000 := by
    unfold mn at hn
    split at hn <;> split at hn <;> split at hn <;> omega
  obtain ⟨na, nb, nc, n2⟩ := hn3
  obtain ⟨i0, hi, hz, hs, hby⟩ := info_parts info5
  have hmk : ∀ u : World, (Instr.makeSlice 22 (.int .i64 (n : Int)) (.int .i64 (n : Int))).run Try.prog u = .ok (.slice (some ⟨u.heap.size, 0, none⟩) n n) (u.alloc (.cells (madeCells #[.int .u8 0] n) 5)) := fun u => by
    have h := run_make (P := Try.prog) (w := u) 22 5 i0 (.int .u8 0) Try.underlying22 hi hz .i64 .i64 (n : Int) (n : Int) (by omega) (Int.le_refl _) (by rw [hby]; omega) (by omega)
    simpa [hs, Value.cells] using h
  clear hi hz hs hby
  have HA := Aside0.mk hA
  have HB := Aside0.mk hB
  have HC := Aside0.mk hC
  have HN := Aside0.mk hn
  have OA := Aside0.mk oa
  have OB := Aside0.mk ob
  have OC := Aside0.mk oc
  clear hA hB hC hn oa ob oc
  go_enter Try.func5, Try.ntmps5
  go_wp2_with (go_at_call 7; refine (first_calls _).mono ?_; rintro e w1 ⟨rfl, hb1⟩)
  have h0 : Blk (w1.alloc (.cells (madeCells #[.int .u8 0] n) 5)) w1.heap.size (List.replicate n 0) := by
    unfold Blk
    rw [← made_zeros]
    exact heap_alloc_new _ _
  have h1 : Below w1.heap.size w1 (w1.alloc (.cells (madeCells #[.int .u8 0] n) 5)) := (Below.refl _ _).alloc (Nat.le_refl _) _
  have H0 := Aside0.mk h0
  have H1 := Aside0.mk h1
  have HB1 := Aside0.mk hb1
  clear h0 h1 hb1
  go_loopw [23] (fun i wr => ∃ (j : Nat) (ds : List Int), j ≤ n ∧ i = .int .i64 j ∧ Aside0 (Blk wr w1.heap.size ds) ∧ Aside0 (ds.length = n ∧ ∀ i, i < j → ds[i]? = some (Go.bits .xor .u8 (Go.bits .xor .u8 (rd la i) (rd lb i)) (rd lc i))) ∧ Aside0 (Below w1.heap.size w1 wr)) (fun i _ => n - (intOf i).toNat)
  case atStart => exact ⟨0, _, by omega, rfl, H0, ⟨by simp, fun i hi => by omega⟩, H1⟩
  case round =>
    obtain ⟨j, ds, hj, rfl, HD, HM, HW⟩ := hrel
    by_cases hlt : j < n
    · obtain ⟨pa, ea, xa⟩ := Kd.at_int (Kd.C_below (Kd.C_below HA.out HB1.out) HW.out) (j : Int) (by omega) (by omega)
      obtain ⟨pb, eb, xb⟩ := Kd.at_int (Kd.C_below (Kd.C_below HB.out HB1.out) HW.out) (j : Int) (by omega) (by omega)
      obtain ⟨pc, ec, xc⟩ := Kd.at_int (Kd.C_below (Kd.C_below HC.out HB1.out) HW.out) (j : Int) (by omega) (by omega)
      cases ea
      cases eb
      cases ec
      rw [Int.toNat_natCast] at xa xb xc
      obtain ⟨old, hc⟩ : ∃ old, wr.cell? ⟨w1.heap.size, j, none⟩ = some (.int .u8 old) := by
        have hjl : j < ds.length := by rw [HM.out.1]; exact hlt
        exact ⟨ds[j], by rw [cell_of_row _ _ _ _ _ _ HD.out]; simp [hjl]⟩
      have hf : wr.frozen? ⟨w1.heap.size, j, none⟩ = false := frozen_of_row _ _ _ _ _ HD.out
      have jb : (j : Int) < (lb.length : Int) := by omega
      have ja : (j : Int) < (la.length : Int) := by omega
      have jc : (j : Int) < (lc.length : Int) := by omega
      go_wp2
      go_region
      go_wp2
      go_roundw
      case rel =>
        refine ⟨j + 1, ds.set j (Go.bits .xor .u8 (Go.bits .xor .u8 (rd la j) (rd lb j)) (rd lc j)), by omega, by go_num, ⟨?_⟩, ⟨by rw [List.length_set]; exact HM.out.1, fun i hi => ?_⟩, ⟨(HW.out.setCell (p := ⟨w1.heap.size, j, none⟩) (Nat.le_refl _) _).drew⟩⟩
        · unfold Blk
          have h := heap_setCell_same wr w1.heap.size j ((ds.map (Value.int .u8)).toArray) 5 (.int .u8 (Go.bits .xor .u8 (Go.bits .xor .u8 (rd la j) (rd lb j)) (rd lc j))) HD.out
          rw [List.map_set, heap_drew]
          simpa using h
        · have hjl : j < ds.length := by rw [HM.out.1]; exact hlt
          rw [List.getElem?_set]
          by_cases e : j = i
          · subst e; simp [hjl]
          · rw [if_neg e]; exact HM.out.2 i (by omega)
      case measure => simp [intOf]; omega
    · have hjn : j = n := by omega
      obtain ⟨od, hx⟩ := three la lb lc ds n na nb nc OA.out OB.out OC.out HM.out.1 (fun i hi => HM.out.2 i (by omega))
      have OD := Aside0.mk od
      have HX := Aside0.mk hx
      have lA : (la.take n).length = n := by rw [List.length_take]; omega
      have lB : (lb.take n).length = n := by rw [List.length_take]; omega
      have lC : (lc.take n).length = n := by rw [List.length_take]; omega
      have cA := Kd.C_take (Kd.C_below (Kd.C_below HA.out HB1.out) HW.out) na
      have cB := Kd.C_take (Kd.C_below (Kd.C_below HB.out HB1.out) HW.out) nb
      have cC := Kd.C_take (Kd.C_below (Kd.C_below HC.out HB1.out) HW.out) nc
      have cD := C_bytes (xs := ds) HD.out rfl (by rw [HM.out.1]; omega)
      rw [lA] at cA
      rw [lB] at cB
      rw [lC] at cC
      rw [HM.out.1] at cD
      have LA := Aside0.mk lA
      have LB := Aside0.mk lB
      have LC := Aside0.mk lC
      have CA := Aside0.mk cA
      have CB := Aside0.mk cB
      have CC := Aside0.mk cC
      have CD := Aside0.mk cD
      have oA : Aside0 (okB (la.take n)) := ⟨fun x hx => OA.out x (List.mem_of_mem_take hx)⟩
      have oB : Aside0 (okB (lb.take n)) := ⟨fun x hx => OB.out x (List.mem_of_mem_take hx)⟩
      have oC : Aside0 (okB (lc.take n)) := ⟨fun x hx => OC.out x (List.mem_of_mem_take hx)⟩
      have LT : Aside0 (crcN (ns (la.take n)) < 4294967296 ∧ crcN (ns (lb.take n)) < 4294967296 ∧ crcN (ns (lc.take n)) < 4294967296) := ⟨crcN_lt _ (ns_lt oA.out), crcN_lt _ (ns_lt oB.out), crcN_lt _ (ns_lt oC.out)⟩
      have HSB := Aside0.mk (below_over HB1.out HW.out)
      clear od hx lA lB lC cA cB cC cD hjn
      go_wp2
      refine region10 (by kernel_rfl) A B C w1.heap.size n la.length lb.length lc.length ca cb cc (crcN (ns ds)) (crcN (ns (la.take n))) (crcN (ns (lb.take n))) (crcN (ns (lc.take n))) (la.take n) (lb.take n) (lc.take n) ds (by omega) (by omega) (by omega) ⟨HM.out.1, rfl⟩ ⟨LA.out, rfl⟩ ⟨LB.out, rfl⟩ ⟨LC.out, rfl⟩ OD oA oB oC HX LT _ _ CA CB CC CD rfl rfl rfl rfl rfl rfl ?_
      intro a w3 hAg h6 hb3
      have HF := Aside0.mk (below_over HSB.out hb3)
      have had := hAg.defers
      have h6' : a.tmps[6]?.getD undef = .bool true := h6
      clear hb3 hAg h6
      go_wp2
      refine bodyPost_ret (v := .bool true) ?_ had ⟨rfl, HF.out⟩
      rw [results_tmp rfl]
      rw [Array.getD_eq_getD_getElem?, h6']
end Go.Proofs.Ytppjhekjcoogoaa.PCrc
