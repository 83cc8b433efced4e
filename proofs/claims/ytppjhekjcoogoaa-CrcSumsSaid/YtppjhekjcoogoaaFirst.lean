/- What the sums come to, for bytes: the contracts of crc.Sum and of the reference's Sum in closed form; the first line of the statements. -/
import Derived.Test.YtppjhekjcoogoaaPSumx1
namespace Go.Proofs.Ytppjhekjcoogoaa.PCrc
open Go.RowKit Go.Proofs.YtppjhekjcoogoaaW.PrintWords Go.Proofs.YtppjhekjcoogoaaW.PrintLast Go.Proofs.YtppjhekjcoogoaaW.PrintMore
open Go.Proofs.Ytppjhekjcoogoaa.PSum (okB ns ns_lt)
open CrcMath
set_option linter.unusedVariables false
set_option linter.unusedSimpArgs false
def okP (l : List (List Int)) : Prop := ∀ p ∈ l, okB p
instance (l : List (List Int)) : Decidable (okP l) := inferInstanceAs (Decidable (∀ p ∈ l, okB p))
theorem wrap_next {j n : Nat} (h : j < n) (hn : n ≤ 9223372036854775807) : wrap64 ((j : Int) + 1) = ((j + 1 : Nat) : Int) := by
  unfold wrap64; omega
theorem ns_append (a b : List Int) : ns (a ++ b) = ns a ++ ns b := by simp [ns]
theorem rd_get {α : Type} (xs : List (List Int)) (j : Nat) (h : j < xs.length) : PSum.rd_L1 xs (j : Int) = xs[j] := by
  simp [PSum.rd_L1, List.getD, List.getElem?_eq_getElem h]
theorem sum_loop (l : List (List Int)) (hok : okP l) (hn : l.length ≤ 9223372036854775807) (d : Nat) : ∀ (j s : Nat), j ≤ l.length → l.length - j = d → s < 2 ^ 32 →
    PSum.crc_Sum.l0 (d + 1) (s : Int) l (l.length : Int) (j : Int) = some ((moreN s (ns (l.drop j).flatten) : Nat) : Int) := by
  induction d with
  | zero =>
    intro j s h0 h1 hs
    rw [PSum.crc_Sum.l0]
    rw [if_neg (by omega), List.drop_of_length_le (by omega)]
    simp [ns, moreN_nil]
  | succ d ih =>
    intro j s h0 h1 hs
    have hlt : j < l.length := by omega
    have hj : okB l[j] := hok _ (List.getElem_mem hlt)
    have hm := moreN_lt s (ns l[j]) hs (ns_lt hj)
    rw [PSum.crc_Sum.l0]
    rw [if_pos (by omega), if_pos (by omega), if_pos (by omega), rd_get (α := Int) l j hlt]
    have hf : PSum.crc_More.f (s : Int) l[j] = some ((moreN s (ns l[j]) : Nat) : Int) := by
      unfold PSum.crc_More.f
      rw [if_pos ⟨by omega, hj⟩]; rfl
    rw [hf, Option.bind_some, wrap_next hlt hn, ih (j + 1) _ (by omega) (by omega) hm]
    rw [List.drop_eq_getElem_cons hlt, List.flatten_cons, ns_append, moreN_append]
def crc_Sum.f (l0 : List (List Int)) : Option (Int) := if okP l0 then some ((crcN (ns l0.flatten) : Nat) : Int) else none
theorem crc_Sum.calls (A0 : Option Addr) (c0 : Nat) (l0 : List (List Int)) (r : Int) (w : World) (hr0 : Kd.C (Kd.slice 5 (Kd.int .u8)) w A0 l0.length l0) (hc0 : l0.length ≤ c0) (h : crc_Sum.f l0 = some r) :
    Calls Try.prog 9 #[.slice A0 l0.length c0] w fun e w' => e = .returned (.int .u32 r) ∧ Below w.heap.size w w' := by
  refine PSum.crc_Sum.calls (l0.length + 1) A0 c0 l0 r w hr0 hc0 ?_
  unfold crc_Sum.f at h
  by_cases hk : okP l0
  · rw [if_pos hk] at h
    rw [← h]
    exact sum_loop l0 hk hr0.2.1 l0.length 0 0 (by omega) (by omega) (by decide)
  · rw [if_neg hk] at h
    cases h

theorem wrapu64 (i : Nat) (h : i < 9) : IntKind.u64.wrap (i : Int) = (i : Int) := by rw [IntKind.wrap_u64]; omega
theorem bits_loop (X : Nat) (hX : X < 256) (x8 : List Int) (x9 x10 : Int) (d : Nat) : ∀ (i r k : Nat), i ≤ 8 → 8 - i = d → r < 2 ^ 32 →
    PSum.calepinref16_Sum.l1 (k + (d + 1)) (r : Int) (X : Int) (i : Int) x8 x9 x10 = PSum.calepinref16_Sum.l0 k ((Sn d (r ^^^ (X >>> i)) : Nat) : Int) x8 x9 (wrap64 (x10 + 1)) := by
  induction d with
  | zero =>
    intro i r k h0 h1 hr
    have e : i = 8 := by omega
    subst e
    rw [show k + (0 + 1) = k + 1 from rfl]
    rw [PSum.calepinref16_Sum.l1]
    rw [if_neg (by omega)]
    have e2 : X >>> 8 = 0 := by rw [Nat.shiftRight_eq_div_pow]; omega
    rw [e2, Nat.xor_zero]
    rfl
  | succ d ih =>
    intro i r k h0 h1 hr
    have hx : X >>> i < 256 := by rw [Nat.shiftRight_eq_div_pow]; exact Nat.lt_of_le_of_lt (Nat.div_le_self _ _) hX
    have hsh : shr .u8 (X : Int) (i : Int) = ((X >>> i : Nat) : Int) := by
      unfold shr
      rw [Int.toNat_natCast, Nat.min_eq_left (show i ≤ IntKind.u8.bits by show i ≤ 8; omega), Nat.shiftRight_eq_div_pow]
      simp
    have hi1 : i + 1 ≤ 8 := by omega
    have hi2 : 8 - (i + 1) = d := by omega
    have hr2 : r / 2 < 2 ^ 32 := by omega
    have hr3 : r / 2 < 4294967296 := by omega
    have hp : (3988292384 : Nat) < 2 ^ 32 := by decide
    have hp3 : (3988292384 : Nat) < 4294967296 := by decide
    have hw : wrap64 ((i : Int) + 1) = ((i + 1 : Nat) : Int) := by unfold wrap64; omega
    have hd : ((r : Int) / 2) = ((r / 2 : Nat) : Int) := by omega
    have hnx : X >>> (i + 1) = (X >>> i) >>> 1 := Nat.shiftRight_add X i 1
    have ih' := ih (i + 1)
    rw [hnx] at ih'
    rw [show k + (d + 1 + 1) = (k + (d + 1)) + 1 by omega]
    rw [PSum.calepinref16_Sum.l1]
    rw [if_pos (by omega), wrapu64 i (by omega), if_pos (by omega), hsh]
    clear hsh hnx ih
    generalize X >>> i = Y at *
    rw [show ((Y : Int) % 4294967296) = (Y : Int) by omega]
    rw [u32_xor_nat r Y (by omega) (by omega)]
    have hlt : r ^^^ Y < 2 ^ 32 := Nat.xor_lt_two_pow hr (by omega)
    have hS : S (r ^^^ Y) = (if (r ^^^ Y) % 2 = 1 then (r / 2) ^^^ 3988292384 else r / 2) ^^^ (Y >>> 1) := by
      unfold S
      rw [Nat.shiftRight_xor_distrib, Nat.testBit_zero, Nat.shiftRight_eq_div_pow r 1]
      by_cases hb : (r ^^^ Y) % 2 = 1
      · rw [decide_eq_true hb, if_pos hb]; simp only [if_true]
        rw [Nat.xor_assoc, Nat.xor_comm (Y >>> 1), ← Nat.xor_assoc]
      · rw [decide_eq_false hb, if_neg hb]; simp
    have e1 : Go.bits .and .u32 ((r ^^^ Y : Nat) : Int) 1 = (((r ^^^ Y) % 2 : Nat) : Int) := by
      have := u32_and_nat (r ^^^ Y) 1 (by omega) (by omega)
      rw [Nat.and_one_is_mod] at this
      exact this
    have e9 : Sn (d + 1) (r ^^^ Y) = Sn d (S (r ^^^ Y)) := rfl
    rw [e1, e9, hS]
    generalize (r ^^^ Y) % 2 = B at *
    rw [hw, hd]
    have hl2 : r / 2 ^^^ 3988292384 < 2 ^ 32 := Nat.xor_lt_two_pow hr2 hp
    by_cases hb : B = 1
    · have hb' : ((B : Nat) : Int) = 1 := by rw [hb]; rfl
      have e2 := u32_xor_nat (r / 2) 3988292384 hr3 hp3
      rw [show ((3988292384 : Nat) : Int) = 3988292384 from rfl] at e2
      rw [if_pos hb', if_pos hb, e2]
      exact ih' _ k hi1 hi2 hl2
    · have hb' : ¬ ((B : Nat) : Int) = 1 := fun h => hb (Int.ofNat.inj h)
      rw [if_neg hb', if_neg hb]
      exact ih' _ k hi1 hi2 hr2
theorem ref_loop (l : List Int) (hok : okB l) (hn : l.length ≤ 9223372036854775807) (d : Nat) : ∀ (j r : Nat), j ≤ l.length → l.length - j = d → r < 2 ^ 32 →
    PSum.calepinref16_Sum.l0 (10 * d + 1) (r : Int) l (l.length : Int) (j : Int) = some ((4294967295 ^^^ reg r (ns (l.drop j)) : Nat) : Int) := by
  induction d with
  | zero =>
    intro j r h0 h1 hr
    rw [PSum.calepinref16_Sum.l0]
    rw [if_neg (by omega), List.drop_of_length_le (by omega)]
    have e := u32_xor_nat r 4294967295 (by omega) (by omega)
    rw [show ((4294967295 : Nat) : Int) = 4294967295 from rfl] at e
    rw [e, Nat.xor_comm]
    rfl
  | succ d ih =>
    intro j r h0 h1 hr
    have hlt : j < l.length := by omega
    have hj := hok _ (List.getElem_mem hlt)
    obtain ⟨X, hX⟩ := Int.eq_ofNat_of_zero_le hj.1
    rw [show 10 * (d + 1) + 1 = (10 * d + 10) + 1 by omega]
    rw [PSum.calepinref16_Sum.l0]
    rw [if_pos (by omega), if_pos (by omega), if_pos (by omega)]
    have e : rd l (j : Int) = (X : Int) := by rw [← hX]; simp [rd, List.getD, List.getElem?_eq_getElem hlt]
    rw [e, show 10 * d + 10 = (10 * d + 1) + (8 + 1) by omega]
    have hb := bits_loop X (by omega) l (l.length : Int) (j : Int) 8 0 r (10 * d + 1) (by omega) (by omega) hr
    rw [show ((0 : Nat) : Int) = 0 from rfl] at hb
    rw [hb, wrap_next hlt hn, Nat.shiftRight_zero]
    rw [ih (j + 1) _ (by omega) (by omega) (Sn_lt _ _ (Nat.xor_lt_two_pow hr (by omega)))]
    rw [List.drop_eq_getElem_cons hlt]
    have e3 : ns (l[j] :: l.drop (j + 1)) = X :: ns (l.drop (j + 1)) := by simp [ns, hX]
    rw [e3]
    rfl
def calepinref16_Sum.f (l0 : List Int) : Option (Int) := if okB l0 then some ((crcN (ns l0) : Nat) : Int) else none
theorem calepinref16_Sum.calls (A0 : Option Addr) (c0 : Nat) (l0 : List Int) (r : Int) (w : World) (hr0 : Kd.C (Kd.int .u8) w A0 l0.length l0) (hc0 : l0.length ≤ c0) (h : calepinref16_Sum.f l0 = some r) :
    Calls Try.prog 8 #[.slice A0 l0.length c0] w fun e w' => e = .returned (.int .u32 r) ∧ Drawn0 w w' := by
  refine PSum.calepinref16_Sum.calls (10 * l0.length + 1) A0 c0 l0 r w hr0 hc0 ?_
  unfold calepinref16_Sum.f at h
  by_cases hk : okB l0
  · rw [if_pos hk] at h
    rw [← h]
    have := ref_loop l0 hk hr0.2.1 l0.length 0 4294967295 (by omega) (by omega) (by decide)
    exact this
  · rw [if_neg hk] at h
    cases h
def crc_More.f := PSum.crc_More.f
theorem crc_More.calls (a0 : Int) (A0 : Option Addr) (c0 : Nat) (l0 : List Int) (r : Int) (w : World) (hr0 : Kd.C (Kd.int .u8) w A0 l0.length l0) (hc0 : l0.length ≤ c0) (h : crc_More.f a0 l0 = some r) :
    Calls Try.prog 10 #[.int .u32 a0, .slice A0 l0.length c0] w fun e w' => e = .returned (.int .u32 r) ∧ Below w.heap.size w w' := PSum.crc_More.calls a0 A0 c0 l0 r w hr0 hc0 h
end Go.Proofs.Ytppjhekjcoogoaa.PCrc
