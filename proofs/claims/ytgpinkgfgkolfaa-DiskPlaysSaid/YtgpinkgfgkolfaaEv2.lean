/- Two files: what the calls say. -/
import Derived.Test.YtgpinkgfgkolfaaFst
namespace Go.Proofs.Ytgpinkgfgkolfaa.PD
open Go.RowKit Go.Proofs.YtgpinkgfgkolfaaW.PrintWords Go.Proofs.YtgpinkgfgkolfaaW.PrintLast Go.Proofs.YtgpinkgfgkolfaaW.PrintMore
set_option linter.unusedVariables false
set_option linter.unusedSimpArgs false
set_option maxHeartbeats 4000000
set_option maxRecDepth 100000

open Go.Proofs
theorem u64_tmod (z : Int) (k : Nat) (hk : 0 < k) : ∃ m : Nat, m < k ∧ (IntKind.u64.wrap z).tmod (k : Int) = (m : Int) := by
  have h0 : 0 ≤ IntKind.u64.wrap z := by
    show 0 ≤ z % 18446744073709551616
    omega
  obtain ⟨u, hu⟩ : ∃ u : Nat, IntKind.u64.wrap z = (u : Int) := ⟨(IntKind.u64.wrap z).toNat, by omega⟩
  rw [hu]
  refine ⟨u % k, Nat.mod_lt _ hk, ?_⟩
  rw [Int.tmod_eq_emod_of_nonneg (by omega)]
  exact (Int.natCast_emod u k).symm
theorem wrap_nat (n : Nat) (h : n ≤ 1000000) : wrap64 (n : Int) = (n : Int) := by unfold wrap64; omega
theorem wrap_succ (m n : Nat) (hn : n = m + 1) (h : m ≤ 1000000) : wrap64 (1 + (m : Int)) = (n : Int) := by unfold wrap64; omega
theorem wrap_succ' (m n : Nat) (hn : n = m + 1) (h : m ≤ 1000000) : wrap64 ((m : Int) + 1) = (n : Int) := by unfold wrap64; omega
theorem wrap_diff (n x k : Nat) (hk : k = n - x) (hx : x ≤ n) (h : n ≤ 1000000) : wrap64 ((n : Int) - (x : Int)) = (k : Int) := by unfold wrap64; omega
theorem wrap_sum (n x k : Nat) (hk : k = n - x) (hx : x ≤ n) (h : n ≤ 1000000) : wrap64 ((k : Int) + (x : Int)) = (n : Int) := by unfold wrap64; omega
theorem wrap_diff2 (n x y nx z : Nat) (h1 : nx = n - x) (hx : x ≤ n) (hy : y ≤ nx) (hz : z = nx - y) (h : n ≤ 1000000) : wrap64 ((n : Int) - (x : Int) - (y : Int)) = (z : Int) := by unfold wrap64; omega
theorem wrap_sum2 (n x y nx z k : Nat) (h1 : nx = n - x) (hx : x ≤ n) (hy : y ≤ nx) (hz : z = nx - y) (hk : k = n - y) (h : n ≤ 1000000) : wrap64 ((z : Int) + (x : Int)) = (k : Int) := by unfold wrap64; omega
theorem u64_nat (n : Nat) (h : n < 1000000) : IntKind.u64.wrap (n : Int) = (n : Int) := by
  show (n : Int) % 18446744073709551616 = _
  omega
/-- Two files, under the names f and g. -/
def twoA (room : Int) (q : Nat) (x : List UInt8 × Nat) (p : Nat) (y : List UInt8 × Nat) (dir safe : Dir) : Ab := ⟨room, dir, safe, upd (upd base0 q x) p y, false, 0, false⟩
theorem two_q {room : Int} {q p : Nat} {x y : List UInt8 × Nat} {dir safe : Dir} (h : q ≠ p) : (twoA room q x p y dir safe).fs q = x := by
  show upd (upd base0 q x) p y q = x
  rw [upd_other _ _ _ _ h, upd_same]
theorem two_p {room : Int} {q p : Nat} {x y : List UInt8 × Nat} {dir safe : Dir} : (twoA room q x p y dir safe).fs p = y := upd_same _ _ _
theorem write_g (room : Int) (q : Nat) (x : List UInt8 × Nat) (ys : List UInt8) (p : Nat) (hr : wrap64 (room - (x.1.length : Int)) = room - (x.1.length : Int)) (hl : (ys.length : Int) ≤ room - (x.1.length : Int)) :
    writeL (oneA room q x []) [103] ys p = (0, twoA room q x p (ys, 0) [([102], q), ([103], p)] []) := by
  unfold writeL
  rw [may_calm _ rfl, free_one _ _ _ _ (by simp), hr, if_neg (by simp), if_neg (by decide), if_neg (by omega)]
  rfl
theorem flush_calm (A : Ab) (h : A.fl = false) : flushL A = (0, { A with safe := A.dir }) := by
  unfold flushL
  rw [may_calm _ h, if_neg (by simp)]
theorem rem_f (A : Ab) (nm : Nm) (q : Nat) (h : A.fl = false) (hf : findL A.dir nm = some q) : remL A nm = (0, { A with dir := delL A.dir nm }) := by
  unfold remL callL
  rw [may_calm _ h, if_neg (by simp), hf]; rfl
theorem free_two (room : Int) (q p : Nat) (x y : List UInt8 × Nat) (safe : Dir) (h : q ≠ p) (hs : ∀ z ∈ safe, z.2 = q ∨ z.2 = p) :
    freeL (twoA room q x p y [([102], q), ([103], p)] safe) = room - (x.1.length : Int) - (y.1.length : Int) := by
  rw [freeL_in _ (fun z hz => by
    rcases hs z hz with e | e
    · exact ⟨[102], by rw [e]; rfl⟩
    · exact ⟨[103], by rw [e]; rfl⟩)]
  show room - (lenF _ q + (lenF _ p + 0)) = _
  unfold lenF
  rw [two_q h, two_p]; omega
theorem free_left (room : Int) (q p : Nat) (x y : List UInt8 × Nat) (h : q ≠ p) : freeL (twoA room q x p y [([103], p)] [([102], q), ([103], p)]) = room - (x.1.length : Int) - (y.1.length : Int) := by
  unfold freeL
  have h1 : lenS (twoA room q x p y [([103], p)] [([102], q), ([103], p)]) q = (x.1.length : Int) := by
    rw [lenS_out]
    · unfold lenF; rw [two_q h]
    · rintro ⟨k, hk⟩
      have := findL_mem hk
      simp [twoA] at this
      exact h this.2
  have h2 : lenS (twoA room q x p y [([103], p)] [([102], q), ([103], p)]) p = 0 := lenS_in ⟨[103], rfl⟩
  show room - (lenF _ p + 0) - (lenS _ q + (lenS _ p + 0)) = _
  rw [h1, h2]
  unfold lenF
  rw [two_p]; omega
theorem free_last (room : Int) (q p : Nat) (x y : List UInt8 × Nat) : freeL (twoA room q x p y [([103], p)] [([103], p)]) = room - (y.1.length : Int) := by
  rw [freeL_in _ (fun z hz => by
    have hz' : z ∈ [(([103] : Nm), p)] := hz
    rcases List.mem_singleton.1 hz' with rfl
    exact ⟨[103], rfl⟩)]
  show room - (lenF _ p + 0) = _
  unfold lenF
  rw [two_p]; omega
/-- No name is left, but a safe one. -/
def noneA (room : Int) (q : Nat) (x : List UInt8 × Nat) (safe : Dir) : Ab := ⟨room, [], safe, upd base0 q x, false, 0, false⟩
theorem free_none (room : Int) (q : Nat) (x : List UInt8 × Nat) : freeL (noneA room q x [([102], q)]) = room - (x.1.length : Int) := by
  unfold freeL
  have h1 : lenS (noneA room q x [([102], q)]) q = (x.1.length : Int) := by
    rw [lenS_out]
    · unfold lenF noneA; simp only; rw [upd_same]
    · rintro ⟨k, hk⟩; cases hk
  show room - 0 - (lenS _ q + 0) = _
  rw [h1]; omega
theorem free_all (room : Int) (q : Nat) (x : List UInt8 × Nat) : freeL (noneA room q x []) = room := by
  rw [freeL_in _ (fun z hz => by cases hz)]
  show room - 0 = _; omega
theorem DAt.lt {B d : Nat} {A : Ab} {w : World} (h : DAt B w d A) {f : Nat} (hf : In A f) : f < w.heap.size := by
  obtain ⟨bd, bs, tg, h⟩ := h
  exact (h.2.2.2.2.2.2.2 f hf).lt

end Go.Proofs.Ytgpinkgfgkolfaa.PD
