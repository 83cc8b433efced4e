/- strings.Join, under the print's names. -/
import Derived.Test.YtdjdbmopckhcdaaPutF
import Derived.Laws.LoneSync
namespace Go.Proofs.Ytdjdbmopckhcdaa.PV
open Go.RowKit Go.Proofs.YtdjdbmopckhcdaaW.PrintWords Go.Proofs.YtdjdbmopckhcdaaW.PrintLast Go.Proofs.YtdjdbmopckhcdaaW.PrintMore
open Go.Proofs Go.Proofs.Ytdjdbmopckhcdaa
set_option linter.unusedVariables false
set_option linter.unusedSimpArgs false
set_option maxHeartbeats 4000000
set_option maxRecDepth 100000

def joinB (l : List ByteArray) (sep : ByteArray) : ByteArray := ⟨(Lib.join (l.map (·.data.toList)) sep.data.toList).toArray⟩
def strings_Join.f (l0 : List ByteArray) (a1 : ByteArray) : Option ByteArray := if l0.length ≤ 1073741824 ∧ (joinB l0 a1).size ≤ 1073741824 then some (joinB l0 a1) else none
theorem strings_Join.calls (A0 : Option Addr) (c0 : Nat) (l0 : List ByteArray) (a1 : ByteArray) (r : ByteArray) (w : World) (hr0 : Kd.C Kd.string w A0 l0.length l0) (hc0 : l0.length ≤ c0) (h : strings_Join.f l0 a1 = some r) :
    Calls Try.prog 29 #[.slice A0 l0.length c0, .string a1] w fun e w' => e = .returned (.string r) ∧ Below w.heap.size w w' := by
  unfold strings_Join.f at h
  by_cases hsz : l0.length ≤ 1073741824 ∧ (joinB l0 a1).size ≤ 1073741824
  · rw [if_pos hsz] at h
    injection h with h
    subst h
    cases l0 with
    | nil => exact (Try.strings_Join_none A0 c0 a1 w).mono fun e w' ⟨h1, h2⟩ => ⟨h1, h2 ▸ Below.refl _ _⟩
    | cons x l =>
      have hrd := Kd.reads_of_C (enc := Value.string) (d := (⟨#[]⟩ : ByteArray)) (h1 := fun _ => rfl) hr0
      obtain ⟨ad, rfl, hc⟩ := hrd.2.2 (by simp)
      have h0 := hc 0 (by simp)
      obtain ⟨e, n, hs, ho, hsp⟩ := World.shape?_of_cell? h0
      obtain ⟨bk, o, sp⟩ := ad
      have e0 : (⟨bk, o, sp⟩ : Addr).add 0 = ⟨bk, o, sp⟩ := by simp [Addr.add]
      rw [e0] at hsp h0
      have hsp' : sp = none := hsp
      subst hsp'
      have hlt : bk < w.heap.size := cell_lt h0
      refine Try.strings_Join bk o c0 (x :: l) a1 w (fun j y hj => ?_) hlt (by have := hsz.1; omega) hc0 (by have h2 : ((Lib.join ((x :: l).map (·.data.toList)) a1.data.toList).toArray).size ≤ 1073741824 := hsz.2; rw [List.size_toArray] at h2; omega)
      have hjl : j < (x :: l).length := (List.getElem?_eq_some_iff.1 hj).1
      have h1 := hc j hjl
      have hadd : (⟨bk, o, none⟩ : Addr).add j = ⟨bk, o + j, none⟩ := by unfold Addr.add; split <;> simp_all
      rw [hadd] at h1
      rw [h1, List.getD_eq_getElem?_getD, hj]
      rfl
  · rw [if_neg hsz] at h; cases h

end Go.Proofs.Ytdjdbmopckhcdaa.PV
