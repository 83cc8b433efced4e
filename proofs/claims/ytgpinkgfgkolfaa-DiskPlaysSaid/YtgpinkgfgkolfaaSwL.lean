/- DiskSwaps plainly. -/
import Derived.Test.YtgpinkgfgkolfaaFine
namespace Go.Proofs.Ytgpinkgfgkolfaa.PD
open Go.RowKit Go.Proofs.YtgpinkgfgkolfaaW.PrintWords Go.Proofs.YtgpinkgfgkolfaaW.PrintLast Go.Proofs.YtgpinkgfgkolfaaW.PrintMore
set_option linter.unusedVariables false
set_option linter.unusedSimpArgs false
set_option maxHeartbeats 4000000
set_option maxRecDepth 100000

open Go.Proofs
theorem may_go (A : Ab) (h : A.fl = true) (hl : A.left > 0) : mayL A = (true, false, { A with left := A.left - 1 }) := by
  unfold mayL
  rw [if_neg (by rw [h]; decide), if_pos hl]
theorem may_no (A : Ab) (h : A.fl = true) (hl : A.left = 0) : mayL A = (false, !A.torn, { A with torn := true }) := by
  unfold mayL
  rw [if_neg (by rw [h]; decide), if_neg (by omega)]
abbrev nmN : Nm := [110, 101, 119]
/-- The old file is safe; k calls are left. -/
structure Old (q : Nat) (x : List UInt8) (k : Nat) (A : Ab) : Prop where
  fl : A.fl = true
  left : A.left = (k : Int)
  safe : A.safe = [([102], q)]
  fs : A.fs q = (x, x.length)
theorem Old.may {q : Nat} {x : List UInt8} {k : Nat} {A : Ab} (h : Old q x k A) : Old q x (k - 1) (mayL A).2.2 := by
  cases k with
  | zero => rw [may_no A h.fl (by rw [h.left]; rfl)]; exact ⟨h.fl, h.left, h.safe, h.fs⟩
  | succ k =>
    rw [may_go A h.fl (by rw [h.left]; omega)]
    exact ⟨h.fl, by show A.left - 1 = _; rw [h.left]; omega, h.safe, h.fs⟩
theorem Old.call {q : Nat} {x : List UInt8} {k : Nat} {A : Ab} (h : Old q x k A) (nm : Nm) (R : Nat → Ab → Int × Ab) (hR : ∀ f B, findL A.dir nm = some f → Old q x (k - 1) B → Old q x (k - 1) (R f B).2) : Old q x (k - 1) (callL A nm R).2 := by
  unfold callL
  split
  · exact h.may
  · split
    · exact h.may
    · exact hR _ _ (by assumption) h.may
theorem Old.sync {q : Nat} {x : List UInt8} {k : Nat} {A : Ab} (h : Old q x k A) (hn : ∀ f, findL A.dir nmN = some f → f ≠ q) : Old q x (k - 1) (syncL A nmN).2 :=
  h.call nmN syncR fun f B hf hB => ⟨hB.fl, hB.left, hB.safe, by
    show upd B.fs f _ q = _
    rw [upd_other _ _ _ _ (fun e => hn f hf e.symm)]; exact hB.fs⟩
theorem Old.ren {q : Nat} {x : List UInt8} {k : Nat} {A : Ab} (h : Old q x k A) (nm tn : Nm) : Old q x (k - 1) (renL A nm tn).2 :=
  h.call nm (renR nm tn) fun f B hf hB => by
    unfold renR
    split
    · exact hB
    · exact ⟨hB.fl, hB.left, hB.safe, hB.fs⟩
theorem Old.flush {q : Nat} {x : List UInt8} {A : Ab} (h : Old q x 0 A) : Old q x 0 (flushL A).2 := by
  unfold flushL
  rw [may_no A h.fl h.left, if_pos rfl]
  exact ⟨h.fl, h.left, h.safe, h.fs⟩
theorem crash_read (A : Ab) (q : Nat) (x : List UInt8) (keep : Int) (h1 : A.safe = [([102], q)]) (h2 : A.fs q = (x, x.length)) : readL (crashL A keep) [102] = some x := by
  have hf : findL A.safe [102] = some q := by rw [h1]; rfl
  have hn : crashN keep (x, x.length) = x.length := by
    have := crashN_le keep (x, x.length) (Nat.le_refl _)
    simp only at this
    omega
  unfold readL
  rw [show (crashL A keep).dir = A.safe from rfl, hf]
  show some (crashFs A keep (fun _ => true) q).1 = _
  rw [crashFs_pos _ _ _ _ ⟨[102], hf, rfl⟩, h2]
  unfold crashF
  simp only
  rw [hn, List.take_length]
abbrev sA0 (q : Nat) (x : List UInt8) (n : Int) : Ab := failL (oneA 1000 q (x, x.length) [([102], q)]) n
theorem free_sA0 (q : Nat) (x : List UInt8) (n : Int) : freeL (sA0 q x n) = 1000 - (x.length : Int) := by
  refine (freeL_same (A := oneA 1000 q (x, x.length) [([102], q)]) (A' := sA0 q x n) rfl rfl rfl rfl).trans ?_
  rw [free_one _ _ _ _ (by simp)]
theorem lay_sA0 (A : Ab) (q p : Nat) (b : List UInt8) (h : A.dir = [([102], q)]) : layL A nmN b p = { A with dir := [([102], q), (nmN, p)], fs := upd A.fs p (b, 0) } := by
  unfold layL
  rw [h]
  rfl
theorem swaps_old (q p : Nat) (x y : List UInt8) (n : Nat) (keep : Int) (hp : q ≠ p) (hn : n ≤ 3) :
    readL (crashL (flushL (renL (syncL (writeL (sA0 q x n) nmN y p).2 nmN).2 nmN [102]).2).2 keep) [102] = some x := by
  have h0 : Old q x n (sA0 q x n) := ⟨rfl, rfl, rfl, upd_same _ _ _⟩
  have hm := h0.may
  have hmd : (mayL (sA0 q x n)).2.2.dir = [([102], q)] := (mayL_same _).1
  have hL : ∀ b, Old q x (n - 1) (layL (mayL (sA0 q x n)).2.2 nmN b p) ∧ ∀ f, findL (layL (mayL (sA0 q x n)).2.2 nmN b p).dir nmN = some f → f ≠ q := fun b => by
    rw [lay_sA0 _ q p b hmd]
    refine ⟨⟨hm.fl, hm.left, hm.safe, ?_⟩, fun f hf => ?_⟩
    · show upd _ p _ q = _
      rw [upd_other _ _ _ _ hp]; exact hm.fs
    · have : some p = some f := hf
      injection this with e
      omega
  have hN : Old q x (n - 1) (mayL (sA0 q x n)).2.2 ∧ ∀ f, findL (mayL (sA0 q x n)).2.2.dir nmN = some f → f ≠ q := ⟨hm, fun f hf => by rw [hmd] at hf; cases hf⟩
  have h1 : Old q x (n - 1) (writeL (sA0 q x n) nmN y p).2 ∧ ∀ f, findL (writeL (sA0 q x n) nmN y p).2.dir nmN = some f → f ≠ q := by
    unfold writeL
    split
    · dsimp only
      split
      · exact hL _
      · exact hN
    · split
      · exact hN
      · split
        · exact hN
        · exact hL y
  have h2 := ((h1.1.sync h1.2).ren nmN [102])
  have h3 : Old q x 0 (renL (syncL (writeL (sA0 q x n) nmN y p).2 nmN).2 nmN [102]).2 := by
    have : n - 1 - 1 - 1 = 0 := by omega
    rw [this] at h2; exact h2
  exact crash_read _ q x keep h3.flush.safe h3.flush.fs
theorem swaps_new (q p : Nat) (x y : List UInt8) (n : Nat) (keep : Int) (hx : x.length ≤ 300) (hy : y.length ≤ 300) (hn : 4 ≤ n) :
    readL (crashL (flushL (renL (syncL (writeL (sA0 q x n) nmN y p).2 nmN).2 nmN [102]).2).2 keep) [102] = some y := by
  obtain ⟨m, rfl⟩ : ∃ m, n = m + 4 := ⟨n - 4, by omega⟩
  have hw : wrap64 (freeL (sA0 q x (m + 4 : Nat))) = 1000 - (x.length : Int) := by rw [free_sA0, wrap_ok _ (by omega) (by omega)]
  have e1 : (writeL (sA0 q x (m + 4 : Nat)) nmN y p).2 = ⟨1000, [([102], q), (nmN, p)], [([102], q)], upd (upd base0 q (x, x.length)) p (y, 0), true, ((m + 4 : Nat) : Int) - 1, false⟩ := by
    unfold writeL
    rw [may_go _ rfl (by show ((m + 4 : Nat) : Int) > 0; omega), if_neg (fun h => by cases h), if_neg (by decide), hw, if_neg (by omega)]
    dsimp only
    rw [lay_sA0 _ q p y rfl]
    rfl
  rw [e1]
  have e2 : (syncL ⟨1000, [([102], q), (nmN, p)], [([102], q)], upd (upd base0 q (x, x.length)) p (y, 0), true, ((m + 4 : Nat) : Int) - 1, false⟩ nmN).2 = ⟨1000, [([102], q), (nmN, p)], [([102], q)], upd (upd base0 q (x, x.length)) p (y, y.length), true, ((m + 4 : Nat) : Int) - 1 - 1, false⟩ := by
    unfold syncL callL
    rw [may_go _ rfl (by show ((m + 4 : Nat) : Int) - 1 > 0; omega), if_neg (fun h => by cases h)]
    show (syncR p _).2 = _
    unfold syncR
    simp only [upd_same, upd_upd]
  rw [e2]
  have e3 : (renL ⟨1000, [([102], q), (nmN, p)], [([102], q)], upd (upd base0 q (x, x.length)) p (y, y.length), true, ((m + 4 : Nat) : Int) - 1 - 1, false⟩ nmN [102]).2 = ⟨1000, [([102], p)], [([102], q)], upd (upd base0 q (x, x.length)) p (y, y.length), true, ((m + 4 : Nat) : Int) - 1 - 1 - 1, false⟩ := by
    unfold renL callL
    rw [may_go _ rfl (by show ((m + 4 : Nat) : Int) - 1 - 1 > 0; omega), if_neg (fun h => by cases h)]
    rfl
  rw [e3]
  have e4 : (flushL ⟨1000, [([102], p)], [([102], q)], upd (upd base0 q (x, x.length)) p (y, y.length), true, ((m + 4 : Nat) : Int) - 1 - 1 - 1, false⟩).2 = ⟨1000, [([102], p)], [([102], p)], upd (upd base0 q (x, x.length)) p (y, y.length), true, ((m + 4 : Nat) : Int) - 1 - 1 - 1 - 1, false⟩ := by
    unfold flushL
    rw [may_go _ rfl (by show ((m + 4 : Nat) : Int) - 1 - 1 - 1 > 0; omega), if_neg (fun h => by cases h)]
  rw [e4]
  exact crash_read _ p y keep rfl (upd_same _ _ _)

end Go.Proofs.Ytgpinkgfgkolfaa.PD
