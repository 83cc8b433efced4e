/- The statement CrcBursts: the walk, call by call. -/
import Derived.Test.YtppjhekjcoogoaaE1
namespace Go.Proofs.Ytppjhekjcoogoaa.PCrc
open Go.RowKit Go.Proofs.YtppjhekjcoogoaaW.PrintWords Go.Proofs.YtppjhekjcoogoaaW.PrintLast Go.Proofs.YtppjhekjcoogoaaW.PrintMore
open Go.Proofs.Ytppjhekjcoogoaa.PSum (okB ns ns_lt)
open CrcMath
attribute [local go_sem] max2_int min2_int max_two min_two max_three min_three max_four min_four
set_option linter.unusedVariables false
set_option linter.unusedSimpArgs false
theorem World.size_alloc_le (w : World) (o : Obj) : w.heap.size ≤ (w.alloc o).heap.size := by simp
/-- A new empty row of bytes. -/
theorem R_empty (W : World) (base : Nat) (hb : base ≤ W.heap.size) : Kd.R (Kd.int .u8) 5 (W.alloc (.cells #[] 5)) base (fun _ => True) (.slice (some ⟨W.heap.size, 0, none⟩) 0 0) [] :=
  ⟨fun _ _ => trivial, [], World.ownsRow_lit (base := base) (e := 5) (size := 1) W #[] 0 hb (by simp [maxLen]) (by simp), Reps.none _ _⟩
theorem R_some {W : World} {base : Nat} {v : Value} {xs : List Int} (h : Kd.R (Kd.int .u8) 5 W base (fun _ => True) v xs) (hp : 0 < xs.length) : ∃ g cap, v = .slice (some ⟨g, 0, none⟩) xs.length cap ∧ base ≤ g ∧ g < W.heap.size := by
  obtain ⟨A, cap, rfl⟩ := Kd.R_slice h
  obtain ⟨_, inner, ho, _⟩ := h
  rcases ho.2 with ⟨h0, h1⟩ | ⟨g, cap', cur, he, hb, hh, _⟩
  · omega
  · injection he with e1 e2 e3
    exact ⟨g, cap, by rw [e1], hb, (Array.getElem?_eq_some_iff.1 hh).1⟩
theorem own_ge {g n c : Nat} {w : World} {o : Obj} (h : (Value.slice (some ⟨g, 0, none⟩) n c).ownBlock = (Value.slice (some ⟨w.heap.size, 0, none⟩) 0 0).ownBlock ∨ ∃ b, (Value.slice (some ⟨g, 0, none⟩) n c).ownBlock = some b ∧ (w.alloc o).heap.size ≤ b) : w.heap.size ≤ g := by
  rcases h with h | ⟨b, h, hb⟩
  · have h9 : some g = some w.heap.size := h
    injection h9 with h9
    omega
  · have h9 : some g = some b := h
    injection h9 with h9
    have := World.size_alloc_le w o
    omega
theorem place (at_ : Int) (n : Nat) (h4 : ¬ n < 4) (hn : n ≤ 3000) : ∃ k : Nat, wrap64 ((IntKind.u64.wrap at_).tmod (IntKind.u64.wrap (wrap64 (wrap64 (8 * (n : Int)) - 31)))) = (k : Int) ∧ k + 32 ≤ 8 * n ∧ ¬ (IntKind.u64.wrap (wrap64 (wrap64 (8 * (n : Int)) - 31)) = 0) := by
  have e : IntKind.u64.wrap (wrap64 (wrap64 (8 * (n : Int)) - 31)) = 8 * (n : Int) - 31 := by
    rw [IntKind.wrap_u64]; unfold wrap64; omega
  rw [e, IntKind.wrap_u64, Int.tmod_eq_emod_of_nonneg (by omega)]
  have h1 : 0 ≤ (at_ % 18446744073709551616) % (8 * (n : Int) - 31) := Int.emod_nonneg _ (by omega)
  have h2 : (at_ % 18446744073709551616) % (8 * (n : Int) - 31) < 8 * (n : Int) - 31 := Int.emod_lt_of_pos _ (by omega)
  generalize (at_ % 18446744073709551616) % (8 * (n : Int) - 31) = q at *
  refine ⟨q.toNat, ?_, by omega, by omega⟩
  unfold wrap64; omega
theorem bit_at (t : Int) (j : Nat) (ht : 0 ≤ t ∧ t < 4294967296) : Go.bits .and .u32 (t / 2 ^ j) 1 = (((t.toNat / 2 ^ j) % 2 : Nat) : Int) := by
  obtain ⟨T, rfl⟩ := Int.eq_ofNat_of_zero_le ht.1
  have h2 : T / 2 ^ j < 4294967296 := Nat.lt_of_le_of_lt (Nat.div_le_self _ _) (by omega)
  have e : ((T : Int) / 2 ^ j) = ((T / 2 ^ j : Nat) : Int) := by simp
  have h := u32_and_nat (T / 2 ^ j) 1 h2 (by omega)
  rw [Nat.and_one_is_mod] at h
  rw [e, Int.toNat_natCast]
  exact h
theorem spot (k j : Nat) (h : k + j < 100000) : ∃ q m : Nat, wrap64 ((wrap64 ((k : Int) + (j : Int))).tdiv 8) = (q : Int) ∧ (wrap64 ((k : Int) + (j : Int))).tmod 8 = (m : Int) ∧ k + j = 8 * q + m ∧ m < 8 := by
  have e : wrap64 ((k : Int) + (j : Int)) = ((k + j : Nat) : Int) := by unfold wrap64; omega
  refine ⟨(k + j) / 8, (k + j) % 8, ?_, ?_, by omega, by omega⟩
  · rw [e, Int.tdiv_eq_ediv_of_nonneg (by omega)]; unfold wrap64; omega
  · rw [e, Int.tmod_eq_emod_of_nonneg (by omega)]; omega
theorem mod_bit (T j k : Nat) (h : (T / 2 ^ j) % 2 = 1) : (T % 2 ^ (j + 1)) <<< k = ((T % 2 ^ j) <<< k) ^^^ (1 <<< (k + j)) := by
  have hb : T.testBit j = true := by rw [Nat.testBit_eq_decide_div_mod_eq]; simpa using h
  apply Nat.eq_of_testBit_eq
  intro i
  rw [Nat.testBit_xor, Nat.testBit_shiftLeft, Nat.testBit_shiftLeft, Nat.testBit_mod_two_pow, Nat.testBit_mod_two_pow, Nat.one_shiftLeft, Nat.testBit_two_pow]
  by_cases hi : i ≥ k
  · by_cases he : i - k = j
    · have e1 : k + j = i := by omega
      simp [hi, he, hb, e1]
    · have e1 : ¬ k + j = i := by omega
      by_cases hl : i - k < j
      · have e2 : i - k < j + 1 := by omega
        simp [hi, hl, e2, e1]
      · have e2 : ¬ i - k < j + 1 := by omega
        simp [hl, e2, e1]
  · have e1 : ¬ k + j = i := by omega
    simp [hi, e1]
theorem mod_no (T j k : Nat) (h : ¬ (T / 2 ^ j) % 2 = 1) : (T % 2 ^ (j + 1)) <<< k = ((T % 2 ^ j) <<< k) := by
  have hb : T.testBit j = false := by rw [Nat.testBit_eq_decide_div_mod_eq]; simpa using h
  apply Nat.eq_of_testBit_eq
  intro i
  rw [Nat.testBit_shiftLeft, Nat.testBit_shiftLeft, Nat.testBit_mod_two_pow, Nat.testBit_mod_two_pow]
  by_cases he : i - k = j
  · rw [he]; simp [hb]
  · by_cases hl : i - k < j
    · have e2 : i - k < j + 1 := by omega
      simp [hl, e2]
    · have e2 : ¬ i - k < j + 1 := by omega
      simp [hl, e2]
theorem turned (xs ys : List Int) (T j k q m : Nat) (hok : okB ys) (hl : ys.length = xs.length) (hw : whole (ns ys) = whole (ns xs) ^^^ ((T % 2 ^ j) <<< k)) (hq : q < xs.length) (hqm : k + j = 8 * q + m) (hm : m < 8) (hb : (T / 2 ^ j) % 2 = 1) :
    okB (ys.set q (Go.bits .xor .u8 (rdOf 0 ys (q : Int)) (2 ^ m % 256))) ∧ (ys.set q (Go.bits .xor .u8 (rdOf 0 ys (q : Int)) (2 ^ m % 256))).length = xs.length ∧
      whole (ns (ys.set q (Go.bits .xor .u8 (rdOf 0 ys (q : Int)) (2 ^ m % 256)))) = whole (ns xs) ^^^ ((T % 2 ^ (j + 1)) <<< k) := by
  have hq' : q < ys.length := by omega
  have hr : rdOf 0 ys (q : Int) = ys[q] := by simp [rdOf, List.getD, List.getElem?_eq_getElem hq']
  have hy := hok _ (List.getElem_mem hq')
  obtain ⟨Y, hY⟩ := Int.eq_ofNat_of_zero_le hy.1
  have hp : 2 ^ m < 256 := by
    have : 2 ^ m ≤ 2 ^ 7 := Nat.pow_le_pow_right (by decide) (by omega)
    omega
  have hp2 : ((2 : Int) ^ m % 256) = ((2 ^ m : Nat) : Int) := by
    have : ((2 : Int) ^ m) = ((2 ^ m : Nat) : Int) := by simp
    rw [this]; exact Int.emod_eq_of_lt (Int.natCast_nonneg _) (Int.ofNat_lt.mpr hp)
  have hx : Go.bits .xor .u8 (rdOf 0 ys (q : Int)) (2 ^ m % 256) = ((Y ^^^ 2 ^ m : Nat) : Int) := by
    rw [hr, hY, hp2, u8_xor_nat Y (2 ^ m) (by omega) hp]
  have hlt : Y ^^^ 2 ^ m < 2 ^ 8 := Nat.xor_lt_two_pow (by omega) (by omega)
  rw [hx]
  refine ⟨?_, by rw [List.length_set]; exact hl, ?_⟩
  · intro x hxm
    rcases List.mem_or_eq_of_mem_set hxm with h | rfl
    · exact hok x h
    · omega
  · have hn : ns (ys.set q ((Y ^^^ 2 ^ m : Nat) : Int)) = (ns ys).set q ((ns ys)[q]'(by simpa [ns] using hq') ^^^ 2 ^ m) := by
      simp [ns, List.map_set, hY]
    rw [hn, whole_set, hw, mod_bit T j k hb, Nat.xor_assoc, hqm]
    congr 2
    rw [Nat.add_comm (8 * q) m, Nat.shiftLeft_add, Nat.one_shiftLeft]
theorem unlike (xs ys : List Int) (T k : Nat) (hl : ys.length = xs.length) (hw : whole (ns ys) = whole (ns xs) ^^^ ((T % 2 ^ 32) <<< k)) (hk : k + 32 ≤ 8 * xs.length) (hT : T < 4294967296) (h0 : T ≠ 0) :
    ((((crcN (ns xs) : Nat) : Int)) != ((crcN (ns ys) : Nat) : Int)) = true := by
  rw [Nat.mod_eq_of_lt (show T < 2 ^ 32 from hT)] at hw
  have h := burst (ns xs) (ns ys) (4294967295 ^^^ 0) k T (by simp [ns, hl]) (by simp [ns]; omega) hT h0 hw
  rw [bne_iff_ne]
  intro e
  apply h
  have e2 : crcN (ns xs) = crcN (ns ys) := Int.ofNat.inj e
  unfold crcN moreN at e2
  have e3 := congrArg (4294967295 ^^^ ·) e2
  simp only [inv2] at e3
  exact e3.symm
set_option maxHeartbeats 4000000 in
set_option maxRecDepth 100000 in
theorem bursts_calls (A : Option Addr) (c : Nat) (l : List Int) (at_ t : Int) (w : World) (hC : Kd.C (Kd.int .u8) w A l.length l) (hc : l.length ≤ c) (hok : okB l) (hn : -9223372036854775808 ≤ at_ ∧ at_ ≤ 9223372036854775807) (ht : 0 ≤ t ∧ t < 4294967296) :
    Calls Try.prog 4 #[.slice A l.length c, .int .i64 at_, .int .u32 t] w fun e w' => e = .returned (.bool true) ∧ Below w.heap.size w w' := by
  have HC := Aside0.mk hC
  have hmax : l.length ≤ 9223372036854775807 := HC.out.2.1
  clear hC
  have hok' := Aside0.mk hok
  clear hok
  by_cases h3 : 3000 < (l.length : Int)
  · obtain ⟨xs, hxl, hxC, hxok⟩ : ∃ xs : List Int, Aside0 (xs.length = 3000) ∧ Aside0 (Kd.C (Kd.int .u8) w A 3000 xs) ∧ Aside0 (okB xs) := by
      have hl : (l.take 3000).length = 3000 := by rw [List.length_take]; omega
      have h := Kd.C_take HC.out (show 3000 ≤ l.length by omega)
      rw [hl] at h
      exact ⟨_, ⟨hl⟩, ⟨h⟩, ⟨fun x hx => hok'.out x (List.mem_of_mem_take hx)⟩⟩
    have hx4 : ¬ xs.length < 4 := by have := hxl.out; omega
    by_cases ht0 : t = 0
    · subst ht0
      go_enter Try.func4, Try.ntmps4
      go_wp2_with (first | (go_at_call 7; refine (first_calls _).mono ?_; rintro e w1 ⟨rfl, hb1⟩) | (at_builtin; (refine Kd.R_append_row (enc := Value.int .u8) (d := (0 : Int)) (h1 := fun _ => rfl) (w0 := w) w.heap.size rfl (.tmp 13) (.tmp 18) 22 5 (.int .u8 0) 1 rfl Try.underlying22 info5 rfl (by decide) _ [] xs A 3000 c (fun _ => True) rfl rfl (fun _ _ => trivial) (R_empty w1 w.heap.size hb1.size) ?aC ?aB ?aS ?aL ?_; (case aC => exact Kd.C_alloc (Kd.C_below hxC.out hb1) _); (case aB => exact below_alloc hb1 _); (case aS => exact Nat.le_trans hb1.size (World.size_alloc_le _ _)); (case aL => simp only [List.length_nil]; omega); intro v1 w2 hR hB hg hat; clear hg hat; rw [List.nil_append] at hR; obtain ⟨Ax, cx, rfl⟩ := Kd.R_slice hR; have HR1 := Aside0.mk hR; have HB1 := Aside0.mk hB; clear hR hB)))
      go_ret
      exact ⟨rfl, HB1.out⟩
    · have ht1 : (t == 0) = false := beq_eq_false_iff_ne.mpr ht0
      obtain ⟨k, hK, hk32, hne⟩ := place at_ xs.length hx4 (by have := hxl.out; omega)
      go_enter Try.func4, Try.ntmps4
      go_wp2_with (first | (go_at_call 7; refine (first_calls _).mono ?_; rintro e w1 ⟨rfl, hb1⟩) | (at_builtin; (refine Kd.R_append_row (enc := Value.int .u8) (d := (0 : Int)) (h1 := fun _ => rfl) (w0 := w) w.heap.size rfl (.tmp 13) (.tmp 18) 22 5 (.int .u8 0) 1 rfl Try.underlying22 info5 rfl (by decide) _ [] xs A 3000 c (fun _ => True) rfl rfl (fun _ _ => trivial) (R_empty w1 w.heap.size hb1.size) ?aC ?aB ?aS ?aL ?_; (case aC => exact Kd.C_alloc (Kd.C_below hxC.out hb1) _); (case aB => exact below_alloc hb1 _); (case aS => exact Nat.le_trans hb1.size (World.size_alloc_le _ _)); (case aL => simp only [List.length_nil]; omega); intro v1 w2 hR hB hg hat; clear hg hat; rw [List.nil_append] at hR; obtain ⟨Ax, cx, rfl⟩ := Kd.R_slice hR; have HR1 := Aside0.mk hR; have HB1 := Aside0.mk hB; clear hR hB)) | (at_builtin; (refine Kd.R_append_row (enc := Value.int .u8) (d := (0 : Int)) (h1 := fun _ => rfl) (w0 := w) w.heap.size rfl (.tmp 27) (.tmp 28) 22 5 (.int .u8 0) 1 rfl Try.underlying22 info5 rfl (by decide) _ [] xs Ax xs.length cx (fun _ => True) rfl rfl (fun _ _ => trivial) (R_empty w2 w.heap.size HB1.out.size) ?aC ?aB ?aS ?aL ?_; (case aC => exact Kd.C_alloc (Kd.R_reads' HR1.out).2.2 _); (case aB => exact below_alloc HB1.out _); (case aS => exact Nat.le_trans HB1.out.size (World.size_alloc_le _ _)); (case aL => have := hxl.out; simp only [List.length_nil]; omega); intro v2 w3 hR hB hg hat; rw [List.nil_append] at hR; obtain ⟨g, cy, rfl, hg1, hg2⟩ := R_some hR (by omega); have HR2 := Aside0.mk hR; have HB2 := Aside0.mk hB; have HG1 := Aside0.mk hg; have HG2 := Aside0.mk hat; clear hR hB hg hat)))
      have hq : Below w2.heap.size w2 w3 := Below.grown ((Below.refl _ _).alloc (Nat.le_refl _) (.cells #[] 5)) HG1.out (World.size_alloc_le _ _) (fun k hk => by have h9 : some w2.heap.size = some k := hk; injection h9 with h9; omega)
      have hgg : w2.heap.size ≤ g := own_ge HG2.out
      have HQ := Aside0.mk hq
      clear HG1 HG2 hq
      go_loopw [10] (fun i wr => ∃ (j : Nat) (ys : List Int), j ≤ 32 ∧ i = .int .i64 j ∧ Aside0 (Kd.R (Kd.int .u8) 5 wr w.heap.size (fun _ => True) (.slice (some ⟨g, 0, none⟩) xs.length cy) ys) ∧ Aside0 (okB ys ∧ ys.length = xs.length ∧ whole (ns ys) = whole (ns xs) ^^^ ((t.toNat % 2 ^ j) <<< k)) ∧ Aside0 (Below w2.heap.size w2 wr)) (fun i _ => 32 - (intOf i).toNat)
      case atStart => exact ⟨0, xs, by omega, rfl, HR2, ⟨hxok.out, rfl, by simp [Nat.mod_one]⟩, HQ⟩
      case round =>
        obtain ⟨j, ys, hj, rfl, HY, HM, HW⟩ := hrel
        by_cases hj32 : j < 32
        · obtain ⟨q, m, hq, hm, hqm, hm8⟩ := spot k j (by have := hxl.out; omega)
          have hq2 : q < xs.length := by omega
          have hyl : ys.length = xs.length := HM.out.2.1
          obtain ⟨hcell, hfro⟩ := Kd.R_celln (0 : Int) HY.out (q : Int) (by omega) (by omega)
          rw [Int.toNat_natCast] at hcell hfro
          have hbit := bit_at t j ht
          clear hyl
          by_cases hb : (t.toNat / 2 ^ j) % 2 = 1
          · have hb1 : (Go.bits .and .u32 (t / 2 ^ j) 1 == 1) = true := by rw [hbit, beq_iff_eq]; omega
            have HBIT := Aside0.mk hb
            clear hbit hb
            have HP := Aside0.mk (Kd.R_putn HY.out (q : Int) (Go.bits .xor .u8 (rdOf 0 ys (q : Int)) (2 ^ m % 256)))
            have HT := Aside0.mk (turned xs ys t.toNat j k q m HM.out.1 HM.out.2.1 HM.out.2.2 hq2 hqm hm8 HBIT.out)
            have HJ : Aside0 (m < 8) := ⟨hm8⟩
            go_wp2
            go_roundw
            case rel => exact ⟨j + 1, _, by omega, by go_num, ⟨by have h := HP.out; rw [Int.toNat_natCast] at h; exact h⟩, HT, ⟨HW.out.setCell (by exact hgg) _⟩⟩
            case measure => simp [intOf]; omega
          · have hb1 : (Go.bits .and .u32 (t / 2 ^ j) 1 == 1) = false := by rw [hbit, beq_eq_false_iff_ne]; omega
            have HBIT := Aside0.mk hb
            clear hbit hb
            go_wp2
            go_roundw
            case rel => exact ⟨j + 1, ys, by omega, by go_num, HY, ⟨HM.out.1, HM.out.2.1, by rw [mod_no _ _ _ HBIT.out]; exact HM.out.2.2⟩, HW⟩
            case measure => simp [intOf]; omega
        · have hj2 : j = 32 := by omega
          subst hj2
          have hxC2 := Aside0.mk (Kd.C_below (Kd.R_reads' HR1.out).2.2 HW.out)
          have hyC := Aside0.mk (Kd.R_reads' HY.out)
          have hxl2 := (Kd.R_reads' HR1.out).2.1
          have hsz := Aside0.mk (below_over HB1.out HW.out)
          have HU := Aside0.mk (unlike xs ys t.toNat k HM.out.2.1 HM.out.2.2 hk32 (by omega) (by omega))
          clear HR1 HR2 HB2
          go_wp2_with fail
          refine (sum_one _ _ _ _ xs rfl hxC2.out hxl2 hxok.out).mono ?_
          rintro e w4 ⟨rfl, hb4⟩
          have HB4 := Aside0.mk hb4
          clear hb4
          go_wp2_with fail
          refine (sum_one _ _ _ _ ys HM.out.2.1 (by have h := Kd.C_below hyC.out.2.2 HB4.out; rw [HM.out.2.1] at h; exact h) (by have h1 := hyC.out.1; have h2 := hyC.out.2.1; omega) HM.out.1).mono ?_
          rintro e w5 ⟨rfl, hb5⟩
          have HB5 := Aside0.mk (below_over (below_over hsz.out HB4.out) hb5)
          clear hb5
          have hne2 := HU.out
          go_wp2
          go_ret
          exact ⟨rfl, HB5.out⟩
  · obtain ⟨xs, hxl, hxC, hxok⟩ : ∃ xs : List Int, Aside0 (xs.length = l.length) ∧ Aside0 (Kd.C (Kd.int .u8) w A l.length xs) ∧ Aside0 (okB xs) := ⟨l, ⟨rfl⟩, HC, hok'⟩
    by_cases hx4 : xs.length < 4
    · go_enter Try.func4, Try.ntmps4
      go_wp2_with (first | (go_at_call 7; refine (first_calls _).mono ?_; rintro e w1 ⟨rfl, hb1⟩) | (at_builtin; (refine Kd.R_append_row (enc := Value.int .u8) (d := (0 : Int)) (h1 := fun _ => rfl) (w0 := w) w.heap.size rfl (.tmp 13) (.tmp 18) 22 5 (.int .u8 0) 1 rfl Try.underlying22 info5 rfl (by decide) _ [] xs A l.length c (fun _ => True) rfl rfl (fun _ _ => trivial) (R_empty w1 w.heap.size hb1.size) ?aC ?aB ?aS ?aL ?_; (case aC => exact Kd.C_alloc (Kd.C_below hxC.out hb1) _); (case aB => exact below_alloc hb1 _); (case aS => exact Nat.le_trans hb1.size (World.size_alloc_le _ _)); (case aL => simp only [List.length_nil]; omega); intro v1 w2 hR hB hg hat; clear hg hat; rw [List.nil_append] at hR; obtain ⟨Ax, cx, rfl⟩ := Kd.R_slice hR; have HR1 := Aside0.mk hR; have HB1 := Aside0.mk hB; clear hR hB)))
      go_ret
      exact ⟨rfl, HB1.out⟩
    · skip
      by_cases ht0 : t = 0
      · subst ht0
        go_enter Try.func4, Try.ntmps4
        go_wp2_with (first | (go_at_call 7; refine (first_calls _).mono ?_; rintro e w1 ⟨rfl, hb1⟩) | (at_builtin; (refine Kd.R_append_row (enc := Value.int .u8) (d := (0 : Int)) (h1 := fun _ => rfl) (w0 := w) w.heap.size rfl (.tmp 13) (.tmp 18) 22 5 (.int .u8 0) 1 rfl Try.underlying22 info5 rfl (by decide) _ [] xs A l.length c (fun _ => True) rfl rfl (fun _ _ => trivial) (R_empty w1 w.heap.size hb1.size) ?aC ?aB ?aS ?aL ?_; (case aC => exact Kd.C_alloc (Kd.C_below hxC.out hb1) _); (case aB => exact below_alloc hb1 _); (case aS => exact Nat.le_trans hb1.size (World.size_alloc_le _ _)); (case aL => simp only [List.length_nil]; omega); intro v1 w2 hR hB hg hat; clear hg hat; rw [List.nil_append] at hR; obtain ⟨Ax, cx, rfl⟩ := Kd.R_slice hR; have HR1 := Aside0.mk hR; have HB1 := Aside0.mk hB; clear hR hB)))
        go_ret
        exact ⟨rfl, HB1.out⟩
      · have ht1 : (t == 0) = false := beq_eq_false_iff_ne.mpr ht0
        obtain ⟨k, hK, hk32, hne⟩ := place at_ xs.length hx4 (by have := hxl.out; omega)
        go_enter Try.func4, Try.ntmps4
        go_wp2_with (first | (go_at_call 7; refine (first_calls _).mono ?_; rintro e w1 ⟨rfl, hb1⟩) | (at_builtin; (refine Kd.R_append_row (enc := Value.int .u8) (d := (0 : Int)) (h1 := fun _ => rfl) (w0 := w) w.heap.size rfl (.tmp 13) (.tmp 18) 22 5 (.int .u8 0) 1 rfl Try.underlying22 info5 rfl (by decide) _ [] xs A l.length c (fun _ => True) rfl rfl (fun _ _ => trivial) (R_empty w1 w.heap.size hb1.size) ?aC ?aB ?aS ?aL ?_; (case aC => exact Kd.C_alloc (Kd.C_below hxC.out hb1) _); (case aB => exact below_alloc hb1 _); (case aS => exact Nat.le_trans hb1.size (World.size_alloc_le _ _)); (case aL => simp only [List.length_nil]; omega); intro v1 w2 hR hB hg hat; clear hg hat; rw [List.nil_append] at hR; obtain ⟨Ax, cx, rfl⟩ := Kd.R_slice hR; have HR1 := Aside0.mk hR; have HB1 := Aside0.mk hB; clear hR hB)) | (at_builtin; (refine Kd.R_append_row (enc := Value.int .u8) (d := (0 : Int)) (h1 := fun _ => rfl) (w0 := w) w.heap.size rfl (.tmp 27) (.tmp 28) 22 5 (.int .u8 0) 1 rfl Try.underlying22 info5 rfl (by decide) _ [] xs Ax xs.length cx (fun _ => True) rfl rfl (fun _ _ => trivial) (R_empty w2 w.heap.size HB1.out.size) ?aC ?aB ?aS ?aL ?_; (case aC => exact Kd.C_alloc (Kd.R_reads' HR1.out).2.2 _); (case aB => exact below_alloc HB1.out _); (case aS => exact Nat.le_trans HB1.out.size (World.size_alloc_le _ _)); (case aL => have := hxl.out; simp only [List.length_nil]; omega); intro v2 w3 hR hB hg hat; rw [List.nil_append] at hR; obtain ⟨g, cy, rfl, hg1, hg2⟩ := R_some hR (by omega); have HR2 := Aside0.mk hR; have HB2 := Aside0.mk hB; have HG1 := Aside0.mk hg; have HG2 := Aside0.mk hat; clear hR hB hg hat)))
        have hq : Below w2.heap.size w2 w3 := Below.grown ((Below.refl _ _).alloc (Nat.le_refl _) (.cells #[] 5)) HG1.out (World.size_alloc_le _ _) (fun k hk => by have h9 : some w2.heap.size = some k := hk; injection h9 with h9; omega)
        have hgg : w2.heap.size ≤ g := own_ge HG2.out
        have HQ := Aside0.mk hq
        clear HG1 HG2 hq
        go_loopw [10] (fun i wr => ∃ (j : Nat) (ys : List Int), j ≤ 32 ∧ i = .int .i64 j ∧ Aside0 (Kd.R (Kd.int .u8) 5 wr w.heap.size (fun _ => True) (.slice (some ⟨g, 0, none⟩) xs.length cy) ys) ∧ Aside0 (okB ys ∧ ys.length = xs.length ∧ whole (ns ys) = whole (ns xs) ^^^ ((t.toNat % 2 ^ j) <<< k)) ∧ Aside0 (Below w2.heap.size w2 wr)) (fun i _ => 32 - (intOf i).toNat)
        case atStart => exact ⟨0, xs, by omega, rfl, HR2, ⟨hxok.out, rfl, by simp [Nat.mod_one]⟩, HQ⟩
        case round =>
          obtain ⟨j, ys, hj, rfl, HY, HM, HW⟩ := hrel
          by_cases hj32 : j < 32
          · obtain ⟨q, m, hq, hm, hqm, hm8⟩ := spot k j (by have := hxl.out; omega)
            have hq2 : q < xs.length := by omega
            have hyl : ys.length = xs.length := HM.out.2.1
            obtain ⟨hcell, hfro⟩ := Kd.R_celln (0 : Int) HY.out (q : Int) (by omega) (by omega)
            rw [Int.toNat_natCast] at hcell hfro
            have hbit := bit_at t j ht
            clear hyl
            by_cases hb : (t.toNat / 2 ^ j) % 2 = 1
            · have hb1 : (Go.bits .and .u32 (t / 2 ^ j) 1 == 1) = true := by rw [hbit, beq_iff_eq]; omega
              have HBIT := Aside0.mk hb
              clear hbit hb
              have HP := Aside0.mk (Kd.R_putn HY.out (q : Int) (Go.bits .xor .u8 (rdOf 0 ys (q : Int)) (2 ^ m % 256)))
              have HT := Aside0.mk (turned xs ys t.toNat j k q m HM.out.1 HM.out.2.1 HM.out.2.2 hq2 hqm hm8 HBIT.out)
              have HJ : Aside0 (m < 8) := ⟨hm8⟩
              go_wp2
              go_roundw
              case rel => exact ⟨j + 1, _, by omega, by go_num, ⟨by have h := HP.out; rw [Int.toNat_natCast] at h; exact h⟩, HT, ⟨HW.out.setCell (by exact hgg) _⟩⟩
              case measure => simp [intOf]; omega
            · have hb1 : (Go.bits .and .u32 (t / 2 ^ j) 1 == 1) = false := by rw [hbit, beq_eq_false_iff_ne]; omega
              have HBIT := Aside0.mk hb
              clear hbit hb
              go_wp2
              go_roundw
              case rel => exact ⟨j + 1, ys, by omega, by go_num, HY, ⟨HM.out.1, HM.out.2.1, by rw [mod_no _ _ _ HBIT.out]; exact HM.out.2.2⟩, HW⟩
              case measure => simp [intOf]; omega
          · have hj2 : j = 32 := by omega
            subst hj2
            have hxC2 := Aside0.mk (Kd.C_below (Kd.R_reads' HR1.out).2.2 HW.out)
            have hyC := Aside0.mk (Kd.R_reads' HY.out)
            have hxl2 := (Kd.R_reads' HR1.out).2.1
            have hsz := Aside0.mk (below_over HB1.out HW.out)
            have HU := Aside0.mk (unlike xs ys t.toNat k HM.out.2.1 HM.out.2.2 hk32 (by omega) (by omega))
            clear HR1 HR2 HB2
            go_wp2_with fail
            refine (sum_one _ _ _ _ xs rfl hxC2.out hxl2 hxok.out).mono ?_
            rintro e w4 ⟨rfl, hb4⟩
            have HB4 := Aside0.mk hb4
            clear hb4
            go_wp2_with fail
            refine (sum_one _ _ _ _ ys HM.out.2.1 (by have h := Kd.C_below hyC.out.2.2 HB4.out; rw [HM.out.2.1] at h; exact h) (by have h1 := hyC.out.1; have h2 := hyC.out.2.1; omega) HM.out.1).mono ?_
            rintro e w5 ⟨rfl, hb5⟩
            have HB5 := Aside0.mk (below_over (below_over hsz.out HB4.out) hb5)
            clear hb5
            have hne2 := HU.out
            go_wp2
            go_ret
            exact ⟨rfl, HB5.out⟩
end Go.Proofs.Ytppjhekjcoogoaa.PCrc
