/- heap.Pop, walked. -/
import Derived.Test.YtknaffajmfimbaaPopM
namespace Go.Proofs.Ytknaffajmfimbaa.PHe
open Go.RowKit Go.Proofs.YtknaffajmfimbaaW.PrintWords Go.Proofs.YtknaffajmfimbaaW.PrintLast Go.Proofs.YtknaffajmfimbaaW.PrintMore
open Go.Proofs Go.Proofs.Ytknaffajmfimbaa
set_option linter.unusedVariables false
set_option linter.unusedSimpArgs false
set_option maxHeartbeats 4000000
set_option maxRecDepth 100000

set_option maxHeartbeats 8000000 in
theorem pop_calls {b gb cap : Nat} {l : List Int} {w0 w : World} (hs : St b gb cap w0.heap.size l w) (hB : Below w0.heap.size w0 w) (hb0 : w0.heap.size ≤ b) (hl : l.length ≤ 1000000) (hp : 0 < l.length) :
    Calls Try.prog 31 #[.iface 45 (.pointer (some ⟨b, 0, none⟩))] w fun e w' => e = .returned (.iface 3 (.int .i64 (pop_ l).2)) ∧ St b gb cap w0.heap.size (pop_ l).1 w' ∧ Below w0.heap.size w0 w' := by
  have HS := Aside0.mk hs
  have HB := Aside0.mk hB
  have HN := Aside0.mk (And.intro hl (And.intro hp hb0))
  have HL := Aside0.mk (len_calls hs)
  have hm := meth_len w b l.length cap (some ⟨gb, 0, none⟩) hs.1.cell
  have e75 := ef75
  have e77 := ef77
  have e78 := ef78
  obtain ⟨m, hmm⟩ : ∃ m, m = l.length - 1 := ⟨_, rfl⟩
  have w1 : wrap64 ((l.length : Int) - 1) = (m : Int) := by unfold wrap64; omega
  have HM := Aside0.mk hmm
  clear hs hB hl hp hb0 hmm
  go_enter Try.func31, Try.ntmps31
  go_wp2_with fail
  refine HL.out.mono ?_
  rintro _ wa ⟨rfl, hb⟩
  have HS1 := Aside0.mk (HS.out.below hb)
  have HB1 := Aside0.mk (HB.out.trans (hb.mono HB.out.size))
  clear hb hm HL
  have hm := meth_swap wa b l.length cap (some ⟨gb, 0, none⟩) HS1.out.1.cell
  have HSW := Aside0.mk (swap_calls HS1.out HB1.out 0 m (by have := HN.out; omega) (by have := HN.out; have := HM.out; omega))
  go_wp2_with fail
  refine HSW.out.mono ?_
  rintro _ wb ⟨rfl, hs2, hb2⟩
  have hl2 : (swap_ l 0 m).length = l.length := swap_length _ _ _
  have HDC := Aside0.mk (down_calls hs2 hb2 0 m (by rw [hl2]; have := HM.out; omega) (by rw [hl2]; exact HN.out.1) l.length (by have := HM.out; omega) (by decide))
  have HL2 := Aside0.mk hl2
  clear hs2 hb2 hl2 hm HSW
  go_wp2_with fail
  refine HDC.out.mono ?_
  rintro _ wc ⟨⟨t, rfl⟩, hs3, hb3, hl3⟩
  have hlr : (down_ l.length (swap_ l 0 m) 0 m).length = l.length := hl3.trans HL2.out
  have HP := Aside0.mk (popm_calls hs3 hb3 HN.out.2.2 (by rw [hlr]; exact HN.out.1) (by rw [hlr]; exact HN.out.2.1))
  have HLR := Aside0.mk hlr
  have hm := meth_pop wc b
  clear hs3 hb3 hl3 hlr HDC
  go_wp2_with fail
  refine HP.out.mono ?_
  rintro _ wd ⟨rfl, hs4, hb4⟩
  have HS4 := Aside0.mk hs4
  have HB4 := Aside0.mk hb4
  clear hs4 hb4 hm HP
  go_wp2_with fail
  go_ret
  have e : pop_ l = ((down_ l.length (swap_ l 0 m) 0 m).take (l.length - 1), at_ (down_ l.length (swap_ l 0 m) 0 m) (l.length - 1)) := by rw [HM.out]; rfl
  have h4 := HS4.out
  rw [HLR.out] at h4
  rw [e]
  exact ⟨by rw [HLR.out]; rfl, h4, HB4.out⟩

end Go.Proofs.Ytknaffajmfimbaa.PHe
