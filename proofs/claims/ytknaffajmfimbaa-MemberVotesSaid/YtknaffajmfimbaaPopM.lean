/- (*greatest).Pop, walked. -/
import Derived.Test.YtknaffajmfimbaaInit
namespace Go.Proofs.Ytknaffajmfimbaa.PHe
open Go.RowKit Go.Proofs.YtknaffajmfimbaaW.PrintWords Go.Proofs.YtknaffajmfimbaaW.PrintLast Go.Proofs.YtknaffajmfimbaaW.PrintMore
open Go.Proofs Go.Proofs.Ytknaffajmfimbaa
set_option linter.unusedVariables false
set_option linter.unusedSimpArgs false
set_option maxHeartbeats 4000000
set_option maxRecDepth 100000

theorem St.set {b gb cap base : Nat} {l : List Int} {W : World} (h : St b gb cap base l W) (m : Nat) (hm : m ≤ l.length) : St b gb cap base (l.take m) (W.setCell ⟨b, 0, none⟩ (.slice (some ⟨gb, 0, none⟩) m cap)) := by
  have hl : (l.take m).length = m := by rw [List.length_take]; omega
  refine ⟨by rw [hl]; exact h.1.set _, ?_, h.2.2⟩
  rw [hl]
  have h1 := Kd.R_take h.2.1 hm
  have hg := grownBy_setCell' W b (.slice (some ⟨gb, 0, none⟩) m cap)
  refine Kd.R_of_own (h1 := fun _ => rfl) ?_ (fun k hk => by simp [Value.ownBlock] at hk; exact hk.symm)
  have ho := Kd.own_of_R h1
  refine ⟨ho.1, ?_⟩
  rcases ho.2 with ⟨hv, _⟩ | ⟨g, cap', cur, hv, hb, hh, hr⟩
  · cases hv
  · refine .inr ⟨g, cap', cur, hv, hb, ?_, hr⟩
    have hgg : g = gb := by injection hv with hv; injection hv with hv; injection hv with hv; exact hv.symm
    exact (hg.block g (Array.getElem?_eq_some_iff.1 hh).1 (fun e => by injection e with e; exact h.2.2 (by rw [← e, hgg]))).trans hh
set_option maxHeartbeats 8000000 in
theorem popm_calls {b gb cap : Nat} {l : List Int} {w0 w : World} (hs : St b gb cap w0.heap.size l w) (hB : Below w0.heap.size w0 w) (hb0 : w0.heap.size ≤ b) (hl : l.length ≤ 1000000) (hp : 0 < l.length) :
    Calls Try.prog 77 #[.pointer (some ⟨b, 0, none⟩)] w fun e w' => e = .returned (.iface 3 (.int .i64 (at_ l (l.length - 1)))) ∧ St b gb cap w0.heap.size (l.take (l.length - 1)) w' ∧ Below w0.heap.size w0 w' := by
  have HS := Aside0.mk hs
  have HB := Aside0.mk hB
  have HN := Aside0.mk (And.intro hl (And.intro hp hb0))
  have hc := hs.1.cell
  have hf := hs.1.frozen
  have w1 : wrap64 ((l.length : Int) - 1) = ((l.length - 1 : Nat) : Int) := by unfold wrap64; omega
  obtain ⟨ad, had, c0⟩ := Kd.at_int hs.reads.1 ((l.length - 1 : Nat) : Int) (by omega) (by omega)
  injection had with had
  subst had
  rw [Int.toNat_natCast, rd_at] at c0
  have ead : (⟨gb, 0, none⟩ : Addr).add (l.length - 1) = ⟨gb, l.length - 1, none⟩ := by simp only [Addr.add]; split <;> simp_all
  rw [ead] at c0
  generalize hm : l.length - 1 = m at *
  have hmn : m < l.length := by omega
  have hmc : m ≤ cap := by have := hs.reads.2; omega
  have HST := Aside0.mk (hs.set m (by omega))
  clear hs hB hl hp hb0 ead hm
  generalize l.length = n at *
  go_enter Try.func77, Try.ntmps77
  go_wp2_with fail
  go_ret
  have hg := grownBy_setCell' w b (.slice (some ⟨gb, 0, none⟩) m cap)
  exact ⟨rfl, HST.out, HB.out.trans ⟨hg.os, hg.tape, hg.output, hg.size, fun k hk => by
    rcases Nat.lt_or_ge k w.heap.size with h | h
    · exact hg.block k h (fun e => by injection e with e; have := HN.out.2.2; omega)
    · rw [Array.getElem?_eq_none (by have := HB.out.size; omega), Array.getElem?_eq_none (by have := HB.out.size; omega)]⟩⟩

end Go.Proofs.Ytknaffajmfimbaa.PHe
