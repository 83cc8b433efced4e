/- The program's disk and the document's, side by side. -/
import Derived.Test.YtgpinkgfgkolfaaNam
import Derived.Test.YtgpinkgfgkolfaaRgC
import Derived.Test.YtgpinkgfgkolfaaName
import Derived.Test.YtgpinkgfgkolfaaRem
import Derived.Test.YtgpinkgfgkolfaaFine
namespace Go.Proofs.Ytgpinkgfgkolfaa.PD
open Go.RowKit Go.Proofs.YtgpinkgfgkolfaaW.PrintWords Go.Proofs.YtgpinkgfgkolfaaW.PrintLast Go.Proofs.YtgpinkgfgkolfaaW.PrintMore
set_option linter.unusedVariables false
set_option linter.unusedSimpArgs false
set_option maxHeartbeats 4000000
set_option maxRecDepth 100000

open Go.Proofs
abbrev opV (kd ni ti n : Int) (BA : Option Addr) (l c : Nat) : Value := .agg #[.int .i64 kd, .int .i64 ni, .int .i64 ti, .int .i64 n, .slice BA l c]
abbrev opC (kd ni ti n : Int) (BA : Option Addr) (l c : Nat) : Array Value := #[.int .i64 kd, .int .i64 ni, .int .i64 ti, .int .i64 n, .slice BA l c]
theorem nmB_max (k : Nat) : (nmB k).size ≤ maxLen := Nat.le_trans (nmB_size k) (by decide)
abbrev nmNo : Nm := [110, 111]
/-- Directories in order, without the name that no script writes. -/
structure Sn (A : Ab) : Prop where
  sd : SortD A.dir
  ss : SortD A.safe
  nd : ∀ n f, (n, f) ∈ A.dir → n ≠ nmNo
  ns : ∀ n f, (n, f) ∈ A.safe → n ≠ nmNo
variable {A : Ab}
theorem Sn.may (h : Sn A) : Sn (mayL A).2.2 := by
  obtain ⟨s1, s2, s3, s4⟩ := mayL_same A
  exact ⟨by rw [s1]; exact h.sd, by rw [s2]; exact h.ss, by rw [s1]; exact h.nd, by rw [s2]; exact h.ns⟩
theorem Sn.putD (h : Sn A) {nm : Nm} (hn : nm ≠ nmNo) (b : Nat) : Sn { A with dir := putL A.dir nm b } :=
  ⟨h.sd.put nm b, h.ss, fun n f hm => by
    rcases put_mem_iff hm with ⟨e, _⟩ | e
    · rw [e]; exact hn
    · exact h.nd n f e, h.ns⟩
theorem Sn.delD (h : Sn A) (nm : Nm) : Sn { A with dir := delL A.dir nm } := ⟨h.sd.del nm, h.ss, fun n f hm => h.nd n f (mem_del.1 hm).1, h.ns⟩
theorem Sn.lay (h : Sn A) {nm : Nm} (hn : nm ≠ nmNo) (b : List UInt8) (fN : Nat) : Sn (layL A nm b fN) := by
  unfold layL
  split
  · exact ⟨h.sd, h.ss, h.nd, h.ns⟩
  · have := h.putD hn fN
    exact ⟨this.sd, this.ss, this.nd, this.ns⟩
theorem Sn.write (h : Sn A) {nm : Nm} (hn : nm ≠ nmNo) (b : List UInt8) (fN : Nat) : Sn (writeL A nm b fN).2 := by
  unfold writeL
  split
  · dsimp only
    split
    · exact h.may.lay hn _ fN
    · exact h.may
  · split
    · exact h.may
    · split
      · exact h.may
      · exact h.may.lay hn b fN
theorem Sn.call (h : Sn A) (nm : Nm) (F : Nat → Ab → Int × Ab) (hF : ∀ f B, Sn B → Sn (F f B).2) : Sn (callL A nm F).2 := by
  unfold callL
  split
  · exact h.may
  · split
    · exact h.may
    · exact hF _ _ h.may
theorem Sn.sync (h : Sn A) (nm : Nm) : Sn (syncL A nm).2 := h.call nm syncR fun f B hB => ⟨hB.sd, hB.ss, hB.nd, hB.ns⟩
theorem Sn.cut (h : Sn A) (nm : Nm) (n : Int) : Sn (cutL A nm n).2 := h.call nm (cutR n) fun f B hB => by
  unfold cutR
  split
  · exact hB
  · exact ⟨hB.sd, hB.ss, hB.nd, hB.ns⟩
theorem Sn.rem (h : Sn A) (nm : Nm) : Sn (remL A nm).2 := h.call nm (remR nm) fun f B hB => hB.delD nm
theorem Sn.ren (h : Sn A) (nm : Nm) {tn : Nm} (ht : tn ≠ nmNo) : Sn (renL A nm tn).2 := h.call nm (renR nm tn) fun f B hB => by
  unfold renR
  split
  · exact hB
  · exact (hB.delD nm).putD ht f
theorem Sn.flush (h : Sn A) : Sn (flushL A).2 := by
  unfold flushL
  split
  · exact h.may
  · exact ⟨h.may.sd, h.may.sd, h.may.nd, h.may.nd⟩
theorem Sn.fail (h : Sn A) (n : Int) : Sn (failL A n) := ⟨h.sd, h.ss, h.nd, h.ns⟩
theorem Sn.crash (h : Sn A) (keep : Int) : Sn (crashL A keep) := ⟨h.ss, h.ss, h.ns, h.ns⟩
theorem sn_new (room : Int) : Sn (newL room) := ⟨List.Pairwise.nil, List.Pairwise.nil, fun n f h => absurd h (List.not_mem_nil), fun n f h => absurd h (List.not_mem_nil)⟩
theorem nmB_no (k : Nat) : (nmB k).data.toList ≠ nmNo := by
  unfold nmB; split <;> decide
theorem Sn.no (h : Sn A) : readL A nmNo = none := by
  unfold readL
  cases hf : findL A.dir nmNo with
  | none => rfl
  | some f => exact absurd rfl (h.nd _ _ (findL_mem hf))
/-- Both disks say the same. -/
structure PS (k L : Nat) (A : Ab) (R : Rb) : Prop where
  rel : ∃ φ, Rel A R φ
  fa : Fine k L A
  fr : RFine k L R
  sn : Sn A
/-- Both lie in blocks of their own. -/
def Twin (B : Nat) (w : World) (d x : Nat) (A : Ab) (R : Rb) : Prop :=
  ∃ ok1 ok2 : Nat → Prop, (∀ k, ok1 k → B ≤ k ∧ k < w.heap.size ∧ ¬ ok2 k) ∧ (∀ k, ok2 k → B ≤ k ∧ k < w.heap.size) ∧ DiskAt w ok1 d A ∧ RDisk w ok2 x R
theorem Twin.keep {B d x : Nat} {R : Rb} {w w' : World} (h : Twin B w d x A R) (hs : w.heap.size ≤ w'.heap.size) (hk : ∀ k, k < w.heap.size → B ≤ k → w'.heap[k]? = w.heap[k]?) : Twin B w' d x A R := by
  obtain ⟨ok1, ok2, h1, h2, h3, h4⟩ := h
  exact ⟨ok1, ok2, fun k hk => ⟨(h1 k hk).1, Nat.lt_of_lt_of_le (h1 k hk).2.1 hs, (h1 k hk).2.2⟩, fun k hk => ⟨(h2 k hk).1, Nat.lt_of_lt_of_le (h2 k hk).2 hs⟩, h3.keep fun k hl ho => hk k hl (h1 k ho).1, h4.keep fun k hl ho => hk k hl (h2 k ho).1⟩
theorem Twin.below {B d x : Nat} {R : Rb} {w w' : World} (h : Twin B w d x A R) (hb : Below w.heap.size w w') : Twin B w' d x A R := h.keep hb.size fun k hk _ => hb.block k hk
def TQ (B x d k L l : Nat) (w w' : World) : Prop := (∃ A' R', PS (k + 1) (L + l) A' R' ∧ Twin B w' d x A' R') ∧ Below B w w'
theorem two_fin {B x d k L l : Nat} {ok1 ok2 : Nat → Prop} {A' : Ab} {R' : Rb} {w w2 w3 w4 : World} (h : (∀ k, ok1 k → B ≤ k ∧ k < w.heap.size ∧ ¬ ok2 k) ∧ ∀ k, ok2 k → B ≤ k ∧ k < w.heap.size) (hB : B ≤ w.heap.size) (hb : Below B w w2) (hs : w.heap.size ≤ w2.heap.size)
    (hk3 : Kp (fun k => ok1 k ∨ w2.heap.size ≤ k) w2 w3) (hD3 : DiskAt w3 (fun k => ok1 k ∨ w2.heap.size ≤ k) d A') (hk4 : Kp (fun k => ok2 k ∨ w3.heap.size ≤ k) w3 w4) (hR4 : RDisk w4 (fun k => ok2 k ∨ w3.heap.size ≤ k) x R') (hP : PS (k + 1) (L + l) A' R') : TQ B x d k L l w w4 := by
  have s3 := hk3.size
  have s4 := hk4.size
  refine ⟨⟨A', R', hP, fun k => (ok1 k ∨ w2.heap.size ≤ k) ∧ k < w3.heap.size, fun k => (ok2 k ∨ w3.heap.size ≤ k) ∧ k < w4.heap.size, fun k hk => ⟨?_, by have := hk.2; omega, fun e => ?_⟩, fun k hk => ⟨?_, hk.2⟩, hD3.bound.keep fun k hl hk => hk4.block k hl (fun e => ?_), hR4.bound⟩, ?_⟩
  · rcases hk.1 with e | e
    · exact (h.1 k e).1
    · omega
  · rcases e.1 with e | e
    · rcases hk.1 with e' | e'
      · exact (h.1 k e').2.2 e
      · have := (h.2 k e).2; omega
    · have := hk.2; omega
  · rcases hk.1 with e | e
    · exact (h.2 k e).1
    · omega
  · rcases e with e | e
    · rcases hk.1 with e' | e'
      · exact (h.1 k e').2.2 e
      · have := (h.2 k e).2; omega
    · have := hk.2; omega
  · refine (hb.trans (hk3.below (by omega) (fun k hk => ?_))).trans (hk4.below (by omega) (fun k hk => ?_))
    · rcases hk with e | e
      · exact (h.1 k e).1
      · omega
    · rcases hk with e | e
      · exact (h.2 k e).1
      · omega
theorem two_ref {B x : Nat} {ok1 ok2 : Nat → Prop} {R : Rb} {w w2 w3 : World} (h : (∀ k, ok1 k → B ≤ k ∧ k < w.heap.size ∧ ¬ ok2 k) ∧ ∀ k, ok2 k → B ≤ k ∧ k < w.heap.size) (hs : w.heap.size ≤ w2.heap.size) (hR : RDisk w2 ok2 x R) (hk3 : Kp (fun k => ok1 k ∨ w2.heap.size ≤ k) w2 w3) : RDisk w3 (fun k => ok2 k ∨ w3.heap.size ≤ k) x R :=
  (hR.keep fun k hl ho => hk3.block k hl (fun e => by
    rcases e with e | e
    · exact (h.1 k e).2.2 ho
    · omega)).mono fun k _ ho => .inl ho
/-- A file's block is a block. -/
theorem fresh_file {w : World} {ok : Nat → Prop} {d : Nat} {R : Rb} {φ : Nat → Nat} (h : DiskAt w ok d A) (hr : Rel A R φ) {fN : Nat} (hf : w.heap.size ≤ fN) : ∀ i, usedR R i = true → φ i ≠ fN := fun i hi => by
  obtain ⟨bd, bs, tg, h⟩ := h
  have hin : In A (φ i) := by
    rcases used_or.1 hi with ⟨n, hn⟩ | ⟨n, hn⟩
    · exact .inl ⟨n, by rw [hr.dir]; exact List.mem_map.2 ⟨_, hn, rfl⟩⟩
    · exact .inr ⟨n, by rw [hr.safe]; exact List.mem_map.2 ⟨_, hn, rfl⟩⟩
  have := (h.2.2.2.2.2.2.2 _ hin).lt
  omega
variable {k L : Nat} {R : Rb}
theorem PS.sync (h : PS k L A R) (nm : Nm) (l : Nat) : (syncL A nm).1 = (rsyncL R nm).1 ∧ PS (k + 1) (L + l) (syncL A nm).2 (rsyncL R nm).2 := by
  obtain ⟨φ, hr⟩ := h.rel
  exact ⟨(hr.sync nm).1, ⟨φ, (hr.sync nm).2⟩, (h.fa.sync nm).mono (Nat.le_succ _) (Nat.le_add_right _ _), (h.fr.sync nm).mono (Nat.le_succ _) (Nat.le_add_right _ _), h.sn.sync nm⟩
theorem PS.cut (h : PS k L A R) (nm : Nm) (n : Int) (l : Nat) : (cutL A nm n).1 = (rcutL R nm n).1 ∧ PS (k + 1) (L + l) (cutL A nm n).2 (rcutL R nm n).2 := by
  obtain ⟨φ, hr⟩ := h.rel
  exact ⟨(hr.cut nm n).1, ⟨φ, (hr.cut nm n).2⟩, (h.fa.cut nm n).mono (Nat.le_succ _) (Nat.le_add_right _ _), (h.fr.cut nm n).mono (Nat.le_succ _) (Nat.le_add_right _ _), h.sn.cut nm n⟩
theorem PS.rem (h : PS k L A R) (nm : Nm) (l : Nat) : (remL A nm).1 = (rremL R nm).1 ∧ PS (k + 1) (L + l) (remL A nm).2 (rremL R nm).2 := by
  obtain ⟨φ, hr⟩ := h.rel
  exact ⟨(hr.rem nm).1, ⟨φ, (hr.rem nm).2⟩, (h.fa.rem nm).mono (Nat.le_succ _) (Nat.le_add_right _ _), (h.fr.rem nm).mono (Nat.le_succ _) (Nat.le_add_right _ _), h.sn.rem nm⟩
theorem PS.ren (h : PS k L A R) (nm : Nm) {tn : Nm} (ht : tn ≠ nmNo) (l : Nat) : (renL A nm tn).1 = (rrenL R nm tn).1 ∧ PS (k + 1) (L + l) (renL A nm tn).2 (rrenL R nm tn).2 := by
  obtain ⟨φ, hr⟩ := h.rel
  exact ⟨(hr.ren nm tn).1, ⟨φ, (hr.ren nm tn).2⟩, (h.fa.ren nm tn).mono (Nat.le_refl _) (Nat.le_add_right _ _), (h.fr.ren nm tn).mono (Nat.le_refl _) (Nat.le_add_right _ _), h.sn.ren nm ht⟩
theorem PS.flush (h : PS k L A R) (l : Nat) : (flushL A).1 = (rflushL R).1 ∧ PS (k + 1) (L + l) (flushL A).2 (rflushL R).2 := by
  obtain ⟨φ, hr⟩ := h.rel
  exact ⟨hr.flush.1, ⟨φ, hr.flush.2⟩, h.fa.flush.mono (Nat.le_succ _) (Nat.le_add_right _ _), h.fr.flush.mono (Nat.le_succ _) (Nat.le_add_right _ _), h.sn.flush⟩
theorem PS.fail (h : PS k L A R) (n : Int) (hn : -9223372036854775808 ≤ n ∧ n ≤ 9223372036854775807) (l : Nat) : PS (k + 1) (L + l) (failL A n) (rfailL R n) := by
  obtain ⟨φ, hr⟩ := h.rel
  exact ⟨⟨φ, hr.fail n⟩, (h.fa.fail n hn).mono (Nat.le_succ _) (Nat.le_add_right _ _), (h.fr.fail n hn).mono (Nat.le_succ _) (Nat.le_add_right _ _), h.sn.fail n⟩
theorem PS.crash (h : PS k L A R) (n : Int) (l : Nat) : PS (k + 1) (L + l) (crashL A n) (rcrashL R n) := by
  obtain ⟨φ, hr⟩ := h.rel
  exact ⟨⟨φ, hr.crash n fun f => (h.fa.len f).1⟩, (h.fa.crash n).mono (Nat.le_succ _) (Nat.le_add_right _ _), (h.fr.crash n).mono (Nat.le_succ _) (Nat.le_add_right _ _), h.sn.crash n⟩
theorem PS.write (h : PS k L A R) {w : World} {ok : Nat → Prop} {d : Nat} (hD : DiskAt w ok d A) {nm : Nm} (hn : nm ≠ nmNo) (b : List UInt8) {l : Nat} (hl : l = b.length) (fN : Nat) (hf : w.heap.size ≤ fN) : (writeL A nm b fN).1 = (rwriteL R nm b).1 ∧ PS (k + 1) (L + l) (writeL A nm b fN).2 (rwriteL R nm b).2 := by
  obtain ⟨φ, hr⟩ := h.rel
  obtain ⟨h1, h2⟩ := hr.write nm b fN (fresh_file hD hr hf)
  exact ⟨h1, h2, by rw [hl]; exact h.fa.write nm b fN, by rw [hl]; exact h.fr.write nm b, h.sn.write hn b fN⟩
theorem PS.same (h : PS k L A R) (l : Nat) : PS (k + 1) (L + l) A R := ⟨h.rel, h.fa.mono (Nat.le_succ _) (Nat.le_add_right _ _), h.fr.mono (Nat.le_succ _) (Nat.le_add_right _ _), h.sn⟩

end Go.Proofs.Ytgpinkgfgkolfaa.PD
