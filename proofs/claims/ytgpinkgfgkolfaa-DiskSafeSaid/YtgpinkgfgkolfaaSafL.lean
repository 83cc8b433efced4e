/- DiskSafe plainly. -/
import Derived.Test.YtgpinkgfgkolfaaRefL
namespace Go.Proofs.Ytgpinkgfgkolfaa.PD
open Go.RowKit Go.Proofs.YtgpinkgfgkolfaaW.PrintWords Go.Proofs.YtgpinkgfgkolfaaW.PrintLast Go.Proofs.YtgpinkgfgkolfaaW.PrintMore
set_option linter.unusedVariables false
set_option linter.unusedSimpArgs false
set_option maxHeartbeats 4000000
set_option maxRecDepth 100000

open Go.Proofs
abbrev nmS : Nm := [115, 97, 102, 101]
theorem find_ins (x : Nm × Nat) (n : Nm) (h : x.1 ≠ n) : ∀ l : Dir, findL (insL x l) n = findL l n
  | [] => by
    unfold insL findL
    rw [List.find?_cons_of_neg (by simpa using h)]
  | y :: r => by
    unfold insL
    split
    · unfold findL
      rw [List.find?_cons_of_neg (by simpa using h)]
    · have ih := find_ins x n h r
      unfold findL at ih ⊢
      rw [List.find?_cons, List.find?_cons]
      split
      · rfl
      · exact ih
theorem find_del (k n : Nm) (h : n ≠ k) (l : Dir) : findL (delL l k) n = findL l n := by
  unfold findL delL
  rw [List.find?_filter]
  congr 2
  funext x
  by_cases hx : x.1 = n
  · have : (x.1 == k) = false := by rw [hx]; exact beq_eq_false_iff_ne.2 h
    rw [this]
    cases (x.1 == n) <;> simp
  · have : (x.1 == n) = false := beq_eq_false_iff_ne.2 hx
    simp [this]
theorem find_put (k n : Nm) (b : Nat) (h : n ≠ k) (l : Dir) : findL (putL l k b) n = findL l n := by
  unfold putL
  rw [find_ins _ _ (fun e => h e.symm), find_del _ _ h]
/-- The safe file is there, whole, under its name alone. -/
structure Inv (q : Nat) (x : List UInt8) (A : Ab) : Prop where
  d : findL A.dir nmS = some q
  s : findL A.safe nmS = some q
  ud : ∀ n f, (n, f) ∈ A.dir → n ≠ nmS → f ≠ q
  us : ∀ n f, (n, f) ∈ A.safe → n ≠ nmS → f ≠ q
  fs : A.fs q = (x, x.length)
variable {q : Nat} {x : List UInt8} {A : Ab}
theorem Inv.may (h : Inv q x A) : Inv q x (mayL A).2.2 := by
  obtain ⟨s1, s2, s3, s4⟩ := mayL_same A
  exact ⟨by rw [s1]; exact h.d, by rw [s2]; exact h.s, by rw [s1]; exact h.ud, by rw [s2]; exact h.us, by rw [s3]; exact h.fs⟩
theorem Inv.other (h : Inv q x A) (f : Nat) (y : List UInt8 × Nat) (hf : f ≠ q) : Inv q x { A with fs := upd A.fs f y } :=
  ⟨h.d, h.s, h.ud, h.us, by show upd A.fs f y q = _; rw [upd_other _ _ _ _ (fun e => hf e.symm)]; exact h.fs⟩
theorem Inv.file (h : Inv q x A) {nm : Nm} {f : Nat} (hn : nm ≠ nmS) (hf : findL A.dir nm = some f) : f ≠ q := h.ud nm f (findL_mem hf) hn
theorem Inv.put (h : Inv q x A) {nm : Nm} {f : Nat} (hn : nm ≠ nmS) (hf : f ≠ q) : Inv q x { A with dir := putL A.dir nm f } :=
  ⟨by show findL (putL A.dir nm f) nmS = _; rw [find_put _ _ _ (fun e => hn e.symm)]; exact h.d, h.s, fun n g hg hng => by
    rcases put_mem hg with e | e
    · cases e; exact hf
    · exact h.ud n g e hng, h.us, h.fs⟩
theorem Inv.del (h : Inv q x A) {nm : Nm} (hn : nm ≠ nmS) : Inv q x { A with dir := delL A.dir nm } :=
  ⟨by show findL (delL A.dir nm) nmS = _; rw [find_del _ _ (fun e => hn e.symm)]; exact h.d, h.s, fun n g hg hng => h.ud n g (del_mem hg) hng, h.us, h.fs⟩
theorem Inv.lay (h : Inv q x A) {nm : Nm} (hn : nm ≠ nmS) (b : List UInt8) {fN : Nat} (hN : fN ≠ q) : Inv q x (layL A nm b fN) := by
  unfold layL
  split
  · rename_i f hf
    exact h.other f _ (h.file hn hf)
  · exact (h.put hn hN).other fN (b, 0) hN
theorem Inv.write (h : Inv q x A) {nm : Nm} (hn : nm ≠ nmS) (b : List UInt8) {fN : Nat} (hN : fN ≠ q) : Inv q x (writeL A nm b fN).2 := by
  unfold writeL
  split
  · dsimp only
    split
    · exact h.may.lay hn _ hN
    · exact h.may
  · split
    · exact h.may
    · split
      · exact h.may
      · exact h.may.lay hn b hN
theorem Inv.call (h : Inv q x A) {nm : Nm} (hn : nm ≠ nmS) (R : Nat → Ab → Int × Ab) (hR : ∀ f B, f ≠ q → Inv q x B → Inv q x (R f B).2) : Inv q x (callL A nm R).2 := by
  unfold callL
  split
  · exact h.may
  · split
    · exact h.may
    · rename_i f hf
      exact hR f _ (h.file hn hf) h.may
theorem Inv.sync (h : Inv q x A) {nm : Nm} (hn : nm ≠ nmS) : Inv q x (syncL A nm).2 := h.call hn syncR fun f B hf hB => hB.other f _ hf
theorem Inv.cut (h : Inv q x A) {nm : Nm} (hn : nm ≠ nmS) (n : Int) : Inv q x (cutL A nm n).2 := h.call hn (cutR n) fun f B hf hB => by
  unfold cutR
  split
  · exact hB
  · exact hB.other f _ hf
theorem Inv.rem (h : Inv q x A) {nm : Nm} (hn : nm ≠ nmS) : Inv q x (remL A nm).2 := h.call hn (remR nm) fun f B hf hB => hB.del hn
theorem Inv.ren (h : Inv q x A) {nm tn : Nm} (hn : nm ≠ nmS) (ht : tn ≠ nmS) : Inv q x (renL A nm tn).2 := h.call hn (renR nm tn) fun f B hf hB => by
  unfold renR
  split
  · exact hB
  · exact (hB.del hn).put ht hf
theorem Inv.flush (h : Inv q x A) : Inv q x (flushL A).2 := by
  unfold flushL
  split
  · exact h.may
  · exact ⟨h.may.d, h.may.d, h.may.ud, h.may.ud, h.may.fs⟩
theorem Inv.fail (h : Inv q x A) (n : Int) : Inv q x (failL A n) := ⟨h.d, h.s, h.ud, h.us, h.fs⟩
theorem Inv.crash (h : Inv q x A) (keep : Int) : Inv q x (crashL A keep) :=
  ⟨h.s, h.s, h.us, h.us, by
    show crashFs A keep (fun _ => true) q = _
    rw [crashFs_pos _ _ _ _ ⟨nmS, h.s, rfl⟩, h.fs]
    have hn : crashN keep (x, x.length) = x.length := by
      have := crashN_le keep (x, x.length) (Nat.le_refl _)
      simp only at this
      omega
    unfold crashF
    simp only
    rw [hn, List.take_length]⟩
theorem Inv.read (h : Inv q x A) : readL A nmS = some x := by
  unfold readL
  rw [h.d]
  show some (A.fs q).1 = _
  rw [h.fs]
theorem nmB_ne (k : Nat) : (nmB k).data.toList ≠ nmS := by
  unfold nmB; split <;> decide

end Go.Proofs.Ytgpinkgfgkolfaa.PD
