/- The contract of crc.More, by hand: the table of nibbles is an array, which the print does not take. -/
import Derived.Test.YtppjhekjcoogoaaProg
import Derived.Laws.BitsAllLaws
import Derived.Test.YtppjhekjcoogoaaMath
import Derived.Below
import Derived.Deep.Draws
import Derived.Deep.AppendLies
import Derived.Maps.AppendAt
import Derived.OwnWalk
import Derived.Laws.BytesArg
import Derived.Laws.MakeOwn
import Derived.Laws.OwnMore
import Derived.Deep.OwnRows
import Derived.Tactics
import Derived.Lib.ConvBytes
import Derived.Laws.Slices
import Derived.WalkKit
import Derived.KernelRfl
import Derived.RowKit3
import Derived.Deep.LoopGhost
import Derived.Deep.QuietTactic
import Derived.BigQuiet
import Derived.WideLaws
import Derived.Deep.DeepCutAuto
import Derived.Deep.CutBlock
import Derived.Deep.RegionHeld3
import Derived.Laws.Rows
import Derived.Lib.AppendStr
import Derived.ArgAppend
import Derived.Laws.IdiomCopy
import Derived.OrdersHeld
import Derived.Laws.BitsLemmas
import Derived.RowKit
import Derived.Test.YtppjhekjcoogoaaWWords
import Derived.Test.YtppjhekjcoogoaaWLast
import Derived.Test.YtppjhekjcoogoaaWTab
import Derived.Test.YtppjhekjcoogoaaWFour
import Derived.Test.YtppjhekjcoogoaaWQPut
import Derived.Test.YtppjhekjcoogoaaWApart
import Derived.Test.YtppjhekjcoogoaaWArr
import Derived.Test.YtppjhekjcoogoaaWZeros
import Derived.Test.YtppjhekjcoogoaaWFoot
import Derived.Test.YtppjhekjcoogoaaWKept
import Derived.Test.YtppjhekjcoogoaaWShare
import Derived.Test.YtppjhekjcoogoaaWN
import Derived.Test.YtppjhekjcoogoaaWFootNe
import Derived.Test.YtppjhekjcoogoaaWAt
import Derived.Test.YtppjhekjcoogoaaWEqStruct
import Derived.Test.YtppjhekjcoogoaaWRepsOne
import Derived.Test.YtppjhekjcoogoaaWInv
import Derived.Test.YtppjhekjcoogoaaWInvWords
import Derived.Test.YtppjhekjcoogoaaWGuard
import Derived.Test.YtppjhekjcoogoaaWNEv
import Derived.Test.YtppjhekjcoogoaaWMore
namespace Go.Proofs.Ytppjhekjcoogoaa.PSum
open Go.RowKit Go.Proofs.YtppjhekjcoogoaaW.PrintWords Go.Proofs.YtppjhekjcoogoaaW.PrintLast Go.Proofs.YtppjhekjcoogoaaW.PrintMore
set_option linter.unusedVariables false
set_option linter.unusedSimpArgs false

def nb : Nat → Int → Int
  | 0, x => x
  | k + 1, x => if (Go.bits .and .u32 (nb k x) 1) = 1 then Go.bits .xor .u32 (nb k x / 2) 3988292384 else nb k x / 2

theorem nibble_calls (x : Int) (w : World) : Calls Try.prog 12 #[.int .u32 x] w fun e w' => e = .returned (.int .u32 (nb 4 x)) ∧ w = w' := by
  go_enter Try.func12, Try.ntmps12
  go_wp2
  go_loop [0, 3] (fun v i => ∃ k : Nat, k ≤ 4 ∧ i = .int .i64 k ∧ v = .int .u32 (nb k x)) (fun _ i => 4 - (intOf i).toNat)
  case atStart => exact ⟨0, by omega, rfl, rfl⟩
  case round =>
    obtain ⟨k, hk, rfl, rfl⟩ := hrel
    by_cases hlt : k < 4
    · by_cases hb : (Go.bits .and .u32 (nb k x) 1) = 1
      · have e : Hid (nb (k + 1) x = Go.bits .xor .u32 (nb k x / 2) 3988292384) := by simp only [Hid, nb, if_pos hb]
        have hb1 : ((Go.bits .and .u32 (nb k x) 1) == 1) = true := beq_iff_eq.mpr hb
        clear hb
        go_wp2
        go_round
        case rel => exact ⟨k + 1, by omega, by go_num, by rw [e.out]⟩
        case measure => simp [intOf]; omega
      · have e : Hid (nb (k + 1) x = nb k x / 2) := by simp only [Hid, nb, if_neg hb]
        have hb1 : ((Go.bits .and .u32 (nb k x) 1) == 1) = false := beq_eq_false_iff_ne.mpr hb
        clear hb
        go_wp2
        go_round
        case rel => exact ⟨k + 1, by omega, by go_num, by rw [e.out]⟩
        case measure => simp [intOf]; omega
    · have e : k = 4 := by omega
      subst e
      go_wp2
      go_ret
      exact ⟨rfl, rfl⟩

/-- The cells of the table, so many of them filled. -/
def tabA (k : Nat) : Array Value := Array.ofFn fun j : Fin 16 => if j.val < k then .int .u32 (nb 4 (j.val : Int)) else .int .u32 0
theorem tabA_size (k : Nat) : (tabA k).size = 16 := by simp [tabA]
theorem tabA_get (k j : Nat) (h : j < 16) : (tabA k)[j]? = some (if j < k then .int .u32 (nb 4 (j : Int)) else .int .u32 0) := by
  simp [tabA, Array.getElem?_ofFn, h]
theorem tabA_set (k : Nat) (h : k < 16) : (tabA k).setIfInBounds k (.int .u32 (nb 4 (k : Int))) = tabA (k + 1) := by
  apply Array.ext_getElem?
  intro j
  rw [Array.getElem?_setIfInBounds]
  by_cases hj : j < 16
  · rw [tabA_get _ _ hj, tabA_get _ _ hj]
    by_cases e : k = j
    · subst e; simp [tabA_size, h]
    · rw [if_neg e]
      by_cases e2 : j < k
      · rw [if_pos e2, if_pos (by omega)]
      · rw [if_neg e2, if_neg (by omega)]
  · have h1 : (tabA k)[j]? = none := by rw [Array.getElem?_eq_none]; rw [tabA_size]; omega
    have h2 : (tabA (k + 1))[j]? = none := by rw [Array.getElem?_eq_none]; rw [tabA_size]; omega
    rw [h1, h2, if_neg (by omega)]
theorem tabA_one (k : Nat) : (tabA k).all (·.oneCell') = true := by
  rw [Array.all_eq_true_iff_forall_mem]
  intro v hv
  obtain ⟨j, hj, rfl⟩ := Array.mem_iff_getElem.1 hv
  simp only [tabA, Array.getElem_ofFn]
  split <;> rfl
theorem tabA_zero : tabA 0 = #[.int .u32 0, .int .u32 0, .int .u32 0, .int .u32 0, .int .u32 0, .int .u32 0, .int .u32 0, .int .u32 0, .int .u32 0, .int .u32 0, .int .u32 0, .int .u32 0, .int .u32 0, .int .u32 0, .int .u32 0, .int .u32 0] := rfl

set_option maxHeartbeats 1000000 in
theorem table_calls (w : World) : Calls Try.prog 11 #[] w fun e w' => e = .returned (.agg (tabA 16)) ∧ Below w.heap.size w w' := by
  go_enter Try.func11, Try.ntmps11
  go_wp2
  go_loopw [3] (fun i wr => ∃ k : Nat, k ≤ 16 ∧ i = .int .i64 k ∧ Hid (wr.heap[w.heap.size + 1]? = some (.cells (tabA k) 33 (0, 0))) ∧ Hid (∃ z, z.size = 16 ∧ wr.heap[w.heap.size]? = some (.cells z 33 (0, 0))) ∧ Below w.heap.size w wr) (fun i _ => 16 - (intOf i).toNat)
  case atStart => exact ⟨0, by omega, rfl, by show _ = _; rw [tabA_zero]; exact heap_alloc2_new _ _ _, ⟨_, rfl, heap_alloc2_old _ _ _⟩, ((Below.refl _ _).alloc (Nat.le_refl _) _).alloc (by simp) _⟩
  case round =>
    obtain ⟨k, hk, rfl, hT, hZ, hB⟩ := hrel
    have hsz : w.heap.size + 1 < wr.heap.size := by have := hT.out; exact (Array.getElem?_eq_some_iff.1 this).1
    by_cases hlt : k < 16
    · have hc : wr.cell? ⟨w.heap.size + 1, k, none⟩ = some (.int .u32 0) := by
        rw [cell_of_row _ _ _ _ _ _ hT.out, tabA_get _ _ hlt, if_neg (by omega)]
      have hf : wr.frozen? ⟨w.heap.size + 1, k, none⟩ = false := frozen_of_row _ _ _ _ _ hT.out
      go_wp2_with (go_at_call 12; refine (nibble_calls _ _).mono ?_; rintro e w' ⟨rfl, rfl⟩)
      go_roundw
      case rel =>
        obtain ⟨z, hz, hz2⟩ := hZ.out
        refine ⟨k + 1, by omega, by go_num, ?_, ⟨z, hz, ?_⟩, hB.setCell (by simp) _⟩
        · have := heap_setCell_same wr (w.heap.size + 1) k (tabA k) 33 (.int .u32 (nb 4 (k : Int))) hT.out
          rw [tabA_set k hlt] at this
          exact this
        · rw [heap_setCell_other _ _ _ _ (by simp)]; exact hz2
      case measure => simp [intOf]; omega
    · have e : k = 16 := by omega
      subst e
      obtain ⟨z, hz, hz2⟩ := hZ.out
      have hi : (Try.prog.info? 33).map (·.size) = some (tabA 16).size := by rw [tabA_size]; kernel_rfl
      have hone : (tabA 16).all (·.oneCell') = true := tabA_one 16
      have hzz : z.size = (tabA 16).size := by rw [hz, tabA_size]
      have HZ := Aside0.mk hzz
      clear hz hzz
      go_wp2_with (first | (refine wpList_load_row rfl 33 _ rfl (w.heap.size + 1) rfl 33 (tabA 16) (0, 0) _ hT.out Try.underlying33 rfl hi ?_) | (refine wpList_store_row rfl 33 _ _ rfl w.heap.size (tabA 16) rfl rfl 33 z hz2 hi HZ.out hone ?_))
      refine bodyPost_ret (results_cell_row rfl _ _ w.heap.size 33 (tabA 16) (0, 0) _ rfl (setRow_heap _ _ _ _ _ _ hz2) Try.underlying33 rfl hi) rfl ⟨rfl, ?_⟩
      exact ⟨hB.os, hB.tape, hB.output, by rw [size_setRow]; exact hB.size, fun i hi => by rw [setRow_other _ _ _ _ (by omega)]; exact hB.block i hi⟩

/-- One byte into the register. -/
def tb (i : Int) : Int := nb 4 i
def inB (r x : Int) : Int :=
  let r1 := Go.bits .xor .u32 r (x % 4294967296)
  let r2 := Go.bits .xor .u32 (r1 / 16) (tb (Go.bits .and .u32 r1 15))
  Go.bits .xor .u32 (r2 / 16) (tb (Go.bits .and .u32 r2 15))
def regI (r : Int) (xs : List Int) : Int := xs.foldl inB r
def more_any (a0 : Int) (l0 : List Int) : Option Int := some (Go.bits .xor .u32 4294967295 (regI (Go.bits .xor .u32 4294967295 a0) l0))

theorem and15 (a : Int) : 0 ≤ Go.bits .and .u32 a 15 ∧ Go.bits .and .u32 a 15 < 16 := by
  have e : Go.bits .and .u32 a 15 = IntKind.u32.wrap ((BitVec.ofInt 32 a &&& BitVec.ofInt 32 15).toNat : Int) := rfl
  rw [e, BitVec.toNat_and, IntKind.wrap_u32]
  have h : (BitVec.ofInt 32 a).toNat &&& (BitVec.ofInt 32 15).toNat ≤ (BitVec.ofInt 32 15).toNat := Nat.and_le_right
  have h2 : (BitVec.ofInt 32 15).toNat = 15 := by decide
  rw [h2] at h ⊢
  omega
theorem tab_cell {w : World} {B : Nat} (h : w.heap[B]? = some (.cells (tabA 16) 33 (0, 0))) (i : Int) (h0 : 0 ≤ i) (h1 : i < 16) : w.cell? ⟨B, i.toNat, none⟩ = some (.int .u32 (tb i)) := by
  rw [cell_of_row _ _ _ _ _ _ h, tabA_get _ _ (by omega), if_pos (by omega), Int.toNat_of_nonneg h0]
  rfl

set_option maxHeartbeats 1000000 in
theorem more_calls (a0 : Int) (A0 : Option Addr) (c0 : Nat) (l0 : List Int) (r : Int) (w : World) (hr0 : Kd.C (Kd.int .u8) w A0 l0.length l0) (hc0 : l0.length ≤ c0) (h : more_any a0 l0 = some r) :
    Calls Try.prog 10 #[.int .u32 a0, .slice A0 l0.length c0] w fun e w' => e = .returned (.int .u32 r) ∧ Below w.heap.size w w' := by
  have HR0 := Aside0.mk hr0
  have HC0 := Aside0.mk hc0
  clear hr0 hc0
  have H' := Aside0.mk h
  clear h
  have hi : (Try.prog.info? 33).map (·.size) = some (tabA 16).size := by rw [tabA_size]; kernel_rfl
  have hone := tabA_one 16
  have hsg : IntKind.u32.signed = false := rfl
  have hmx : IntKind.u32.max = 4294967295 := rfl
  go_enter Try.func10, Try.ntmps10
  go_wp2_with (first | (go_at_call 11; refine (table_calls _).mono ?_; rintro e w1 ⟨rfl, hb1⟩) | (refine wpList_store_row rfl 33 _ _ rfl _ (tabA 16) rfl rfl 33 _ (heap_alloc_new _ _) hi (by rw [tabA_size]; rfl) hone ?_))
  obtain ⟨w2, hw2⟩ : ∃ w2, (w1.alloc (.cells #[.int .u32 0, .int .u32 0, .int .u32 0, .int .u32 0, .int .u32 0, .int .u32 0, .int .u32 0, .int .u32 0, .int .u32 0, .int .u32 0, .int .u32 0, .int .u32 0, .int .u32 0, .int .u32 0, .int .u32 0, .int .u32 0] 33)).setRow w1.heap.size (tabA 16) = w2 := ⟨_, rfl⟩
  have hT : w2.heap[w1.heap.size]? = some (.cells (tabA 16) 33 (0, 0)) := by rw [← hw2]; exact setRow_heap _ _ _ _ _ _ (heap_alloc_new _ _)
  have hB : Below w.heap.size w w2 := by
    rw [← hw2]
    have h2 := hb1.alloc hb1.size (.cells #[.int .u32 0, .int .u32 0, .int .u32 0, .int .u32 0, .int .u32 0, .int .u32 0, .int .u32 0, .int .u32 0, .int .u32 0, .int .u32 0, .int .u32 0, .int .u32 0, .int .u32 0, .int .u32 0, .int .u32 0, .int .u32 0] 33)
    have := hb1.size
    exact ⟨h2.os, h2.tape, h2.output, by rw [size_setRow]; exact h2.size, fun i hi => by rw [setRow_other _ _ _ _ (by omega)]; exact h2.block i hi⟩
  rw [hw2]
  have HT := Aside0.mk hT
  clear hT hw2 hi hone hb1
  have HB := Aside0.mk hB
  have hmax : l0.length ≤ 9223372036854775807 := HR0.out.2.1
  have HR := Aside0.mk (Kd.C_below HR0.out hB)
  clear hB
  go_loopw [6, 14] (fun v i wr => ∃ k : Nat, k ≤ l0.length ∧ i = .int .i64 k ∧ v = .int .u32 (regI (Go.bits .xor .u32 4294967295 a0) (l0.take k)) ∧ Drawn0 w2 wr) (fun _ i _ => l0.length - (intOf i).toNat)
  case atStart => exact ⟨0, by omega, rfl, rfl, Drawn0.refl _⟩
  case round =>
    obtain ⟨k, hk, rfl, rfl, ⟨m, rfl⟩⟩ := hrel
    by_cases hlt : k < l0.length
    · obtain ⟨ad, e, hx⟩ := Kd.at_int HR.out (k : Int) (by omega) (by omega)
      cases e
      obtain ⟨v, hv⟩ : ∃ v, regI (Go.bits .xor .u32 4294967295 a0) (l0.take k) = v := ⟨_, rfl⟩
      obtain ⟨x, hxx⟩ : ∃ x, rd l0 (k : Int) = x := ⟨_, rfl⟩
      have hnext : regI (Go.bits .xor .u32 4294967295 a0) (l0.take (k + 1)) = inB v x := by
        rw [← hv, ← hxx]
        unfold regI
        rw [List.take_succ_eq_append_getElem hlt, List.foldl_append]
        simp only [List.foldl_cons, List.foldl_nil]
        congr 1
        simp [rd, List.getD, List.getElem?_eq_getElem hlt]
      have HN := Aside0.mk hnext
      have HV := Aside0.mk hv
      rw [hv]
      rw [hxx, Int.toNat_natCast] at hx
      clear hnext hv hxx
      have a1 := and15 (Go.bits .xor .u32 v (x % 4294967296))
      have t1 := tab_cell HT.out _ a1.1 a1.2
      obtain ⟨a10, a11⟩ := a1
      have a2 := and15 (Go.bits .xor .u32 ((Go.bits .xor .u32 v (x % 4294967296)) / 16) (tb (Go.bits .and .u32 (Go.bits .xor .u32 v (x % 4294967296)) 15)))
      have t2 := tab_cell HT.out _ a2.1 a2.2
      obtain ⟨a20, a21⟩ := a2
      go_wp2
      go_roundw
      case rel => exact ⟨k + 1, by omega, by go_num, by rw [HN.out]; rfl, by repeat (first | exact Drawn0.refl _ | apply Drawn0.step)⟩
      case measure => simp [intOf]; omega
    · have e : k = l0.length := by omega
      have hfin : Go.bits .xor .u32 4294967295 (regI (Go.bits .xor .u32 4294967295 a0) (l0.take k)) = r := by
        have h := H'.out
        rw [e, List.take_length]
        exact Option.some.inj h
      have HF := Aside0.mk hfin
      clear hfin e H'
      go_wp2
      go_ret
      exact ⟨congrArg (fun z => Ending.returned (Value.int IntKind.u32 z)) HF.out, pw_below_drewN HB.out _⟩

open CrcMath
theorem nb_nat (X : Nat) (h : X < 2 ^ 32) : ∀ k, nb k (X : Int) = ((Sn k X : Nat) : Int) := by
  have key : ∀ k, nb k (X : Int) = ((Nat.repeat S k X : Nat) : Int) ∧ Nat.repeat S k X < 2 ^ 32 := by
    intro k
    induction k with
    | zero => exact ⟨rfl, h⟩
    | succ k ih =>
      obtain ⟨ih, hl⟩ := ih
      refine ⟨?_, S_lt _ hl⟩
      simp only [nb, ih, Nat.repeat]
      generalize Nat.repeat S k X = Y at *
      have e := u32_and_nat Y 1 (by omega) (by omega)
      have e1 : Go.bits .and .u32 (Y : Int) 1 = ((Y % 2 : Nat) : Int) := by
        have := e
        rw [Nat.and_one_is_mod] at this
        exact this
      have hd : ((Y : Int) / 2) = ((Y / 2 : Nat) : Int) := by omega
      have ht : Y.testBit 0 = decide (Y % 2 = 1) := Nat.testBit_zero Y
      rw [e1]
      by_cases hb : Y % 2 = 1
      · rw [if_pos (by omega), hd]
        have e2 := u32_xor_nat (Y / 2) 3988292384 (by omega) (by omega)
        rw [show ((3988292384 : Nat) : Int) = 3988292384 from rfl] at e2
        rw [e2]
        unfold S
        rw [ht, decide_eq_true hb, Nat.shiftRight_eq_div_pow]
        rfl
      · rw [if_neg (by omega), hd]
        unfold S
        rw [ht, decide_eq_false hb, Nat.shiftRight_eq_div_pow]
        simp
  have rep : ∀ k Y, Nat.repeat S (k + 1) Y = Nat.repeat S k (S Y) := by
    intro k
    induction k with
    | zero => intro Y; rfl
    | succ k ih => intro Y; show S (Nat.repeat S (k + 1) Y) = S (Nat.repeat S k (S Y)); rw [ih]
  have same : ∀ k Y, Nat.repeat S k Y = Sn k Y := by
    intro k
    induction k with
    | zero => intro Y; rfl
    | succ k ih => intro Y; rw [rep, ih]; rfl
  intro k
  rw [(key k).1, same]
theorem half_nat (R : Nat) (h : R < 2 ^ 32) : Go.bits .xor .u32 ((R : Int) / 16) (tb (Go.bits .and .u32 (R : Int) 15)) = ((Sn 4 R : Nat) : Int) := by
  have e := u32_and_nat R 15 (by omega) (by omega)
  rw [show ((15 : Nat) : Int) = 15 from rfl] at e
  have hl : R &&& 15 < 2 ^ 32 := Nat.lt_of_le_of_lt Nat.and_le_right (by decide)
  rw [e]
  unfold tb
  rw [nb_nat _ hl, show ((R : Int) / 16) = ((R / 16 : Nat) : Int) by omega, u32_xor_nat _ _ (by omega) (Sn_lt _ _ hl), ← Sn4]
theorem inB_nat (R X : Nat) (hR : R < 2 ^ 32) (hX : X < 256) : inB (R : Int) (X : Int) = ((byteIn R X : Nat) : Int) := by
  have hx : R ^^^ X < 2 ^ 32 := Nat.xor_lt_two_pow hR (by omega)
  unfold inB
  simp only []
  rw [show ((X : Int) % 4294967296) = (X : Int) by omega, u32_xor_nat R X (by omega) (by omega), half_nat _ hx, half_nat _ (Sn_lt _ _ hx)]
  unfold byteIn
  rw [← Sn_add]
theorem regI_nat (xs : List Int) (h : ∀ x ∈ xs, 0 ≤ x ∧ x < 256) : ∀ R : Nat, R < 2 ^ 32 → regI (R : Int) xs = ((reg R (xs.map Int.toNat) : Nat) : Int) := by
  induction xs with
  | nil => intro R _; rfl
  | cons x xs ih =>
    intro R hR
    have hx := h x (by simp)
    obtain ⟨X, rfl⟩ := Int.eq_ofNat_of_zero_le hx.1
    show regI (inB (R : Int) (X : Int)) xs = _
    rw [inB_nat R X hR (by omega)]
    have hb : byteIn R X < 2 ^ 32 := Sn_lt _ _ (Nat.xor_lt_two_pow hR (by omega))
    rw [ih (fun y hy => h y (by simp [hy])) _ hb]
    rfl
/-- Bytes. -/
def okB (xs : List Int) : Prop := ∀ x ∈ xs, 0 ≤ x ∧ x < 256
instance (xs : List Int) : Decidable (okB xs) := inferInstanceAs (Decidable (∀ x ∈ xs, 0 ≤ x ∧ x < 256))
def ns (xs : List Int) : List Nat := xs.map Int.toNat
theorem ns_lt {xs : List Int} (h : okB xs) : ∀ x ∈ ns xs, x < 256 := by
  intro x hx
  obtain ⟨y, hy, rfl⟩ := List.mem_map.1 hx
  have := h y hy; omega
def crc_More.f (a0 : Int) (l0 : List Int) : Option (Int) := if (0 ≤ a0 ∧ a0 < 4294967296) ∧ okB l0 then some ((moreN a0.toNat (ns l0) : Nat) : Int) else none
theorem crc_More.calls (a0 : Int) (A0 : Option Addr) (c0 : Nat) (l0 : List Int) (r : Int) (w : World) (hr0 : Kd.C (Kd.int .u8) w A0 l0.length l0) (hc0 : l0.length ≤ c0) (h : crc_More.f a0 l0 = some r) :
    Calls Try.prog 10 #[.int .u32 a0, .slice A0 l0.length c0] w fun e w' => e = .returned (.int .u32 r) ∧ Below w.heap.size w w' := by
  refine more_calls a0 A0 c0 l0 r w hr0 hc0 ?_
  unfold crc_More.f at h
  by_cases hk : (0 ≤ a0 ∧ a0 < 4294967296) ∧ okB l0
  · rw [if_pos hk] at h
    rw [← h]
    obtain ⟨a, rfl⟩ := Int.eq_ofNat_of_zero_le hk.1.1
    have ha : a < 2 ^ 32 := by omega
    unfold more_any moreN
    have e1 := u32_xor_nat 4294967295 a (by omega) (by omega)
    rw [show ((4294967295 : Nat) : Int) = 4294967295 from rfl] at e1
    have hx : 4294967295 ^^^ a < 2 ^ 32 := Nat.xor_lt_two_pow (by decide) ha
    have hr : reg (4294967295 ^^^ a) (ns l0) < 2 ^ 32 := reg_lt _ (ns_lt hk.2) _ hx
    rw [e1, regI_nat l0 hk.2 _ hx]
    have e2 := u32_xor_nat 4294967295 (reg (4294967295 ^^^ a) (ns l0)) (by omega) (by omega)
    rw [show ((4294967295 : Nat) : Int) = 4294967295 from rfl] at e2
    exact congrArg some e2
  · rw [if_neg hk] at h
    cases h
end Go.Proofs.Ytppjhekjcoogoaa.PSum
