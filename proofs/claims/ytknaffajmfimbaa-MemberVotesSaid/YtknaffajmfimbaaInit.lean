/- heap.Init, walked. -/
import Derived.Test.YtknaffajmfimbaaDown
namespace Go.Proofs.Ytknaffajmfimbaa.PHe
open Go.RowKit Go.Proofs.YtknaffajmfimbaaW.PrintWords Go.Proofs.YtknaffajmfimbaaW.PrintLast Go.Proofs.YtknaffajmfimbaaW.PrintMore
open Go.Proofs Go.Proofs.Ytknaffajmfimbaa
set_option linter.unusedVariables false
set_option linter.unusedSimpArgs false
set_option maxHeartbeats 4000000
set_option maxRecDepth 100000

theorem len_calls {b gb cap base : Nat} {l : List Int} {W : World} (h : St b gb cap base l W) :
    Calls Try.prog 75 #[.slice (some ⟨gb, 0, none⟩) l.length cap] W fun e w' => e = .returned (.int .i64 (l.length : Int)) ∧ Below W.heap.size W w' :=
  (PG.member_greatest_Len.calls (some ⟨gb, 0, none⟩) cap l (l.length : Int) W h.reads.1 h.reads.2 rfl).mono fun _ _ h => ⟨h.1, Drawn0.below h.2⟩
set_option maxHeartbeats 8000000 in
theorem init_calls {b gb cap : Nat} {l : List Int} {w0 w : World} (hs : St b gb cap w0.heap.size l w) (hB : Below w0.heap.size w0 w) (hl : l.length ≤ 1000000) :
    Calls Try.prog 30 #[.iface 45 (.pointer (some ⟨b, 0, none⟩))] w fun e w' => e = .returned (.tuple #[]) ∧ St b gb cap w0.heap.size (init_ (l.length / 2) l) w' ∧ Below w0.heap.size w0 w' := by
  have HS := Aside0.mk hs
  have HB := Aside0.mk hB
  have HN := Aside0.mk hl
  have HL := Aside0.mk (len_calls hs)
  have hm := meth_len w b l.length cap (some ⟨gb, 0, none⟩) hs.1.cell
  have e75 := ef75
  clear hs hB hl
  go_enter Try.func30, Try.ntmps30
  go_wp2_with fail
  refine HL.out.mono ?_
  rintro _ w1' ⟨rfl, hb⟩
  have HS1 := Aside0.mk (HS.out.below hb)
  have HB1 := Aside0.mk (HB.out.trans (hb.mono HB.out.size))
  clear hb hm HL
  go_wp2_with fail
  go_loopw [3] (fun v3 wr => ∃ (i : Nat) (cur : List Int), v3 = .int .i64 ((i : Int) - 1) ∧ Aside0 (init_ i cur = init_ (l.length / 2) l ∧ cur.length = l.length ∧ i ≤ l.length / 2) ∧ Aside0 (St b gb cap w0.heap.size cur wr) ∧ Aside0 (Below w0.heap.size w0 wr)) (fun v3 _ => (intOf v3 + 1).toNat)
  case atStart => exact ⟨l.length / 2, l, by first | (congr 1; done) | (congr 1; have := HN.out; unfold wrap64; omega), Aside0.mk ⟨rfl, rfl, Nat.le_refl _⟩, HS1, HB1⟩
  case round =>
    obtain ⟨i, cur, rfl, HD, HSr, HBr⟩ := hrel
    cases i with
    | zero =>
      have HE := Aside0.mk (show init_ (l.length / 2) l = cur from HD.out.1.symm)
      have e0 : ((0 : Nat) : Int) - 1 = -1 := rfl
      rw [e0]
      go_wp2_with fail
      rw [HE.out]
      go_end0
      exact ⟨rfl, HSr.out, HBr.out⟩
    | succ i =>
      have e0 : ((i + 1 : Nat) : Int) - 1 = (i : Int) := by omega
      rw [e0]
      have hd : init_ (i + 1) cur = init_ i (down_ cur.length cur i cur.length) := rfl
      have HDD := Aside0.mk hd
      have hdc := down_calls HSr.out HBr.out i cur.length (Nat.le_refl _) (by have := HD.out.2.1; have := HN.out; omega) cur.length (by omega) (by have := HD.out.2.2; have := HN.out; omega)
      rw [HD.out.2.1] at hdc
      have HDC := Aside0.mk hdc
      have w3 : wrap64 ((i : Int) - 1) = (i : Int) - 1 := by have := HD.out.2.2; have := HN.out; unfold wrap64; omega
      clear hd hdc
      go_wp2_with fail
      refine HDC.out.mono ?_
      rintro _ w4 ⟨⟨t, rfl⟩, hs4, hb4, hl4⟩
      have HS4 := Aside0.mk hs4
      have HB4 := Aside0.mk hb4
      have HL4 := Aside0.mk hl4
      clear hs4 hb4 hl4 HDC
      go_wp2_with fail
      go_roundw
      case rel => exact ⟨i, _, by rw [w3], Aside0.mk ⟨by rw [← HD.out.1, HDD.out, HD.out.2.1], by first | exact HL4.out | exact HL4.out.trans HD.out.2.1, by have := HD.out.2.2; omega⟩, HS4, HB4⟩
      case measure => rw [w3]; simp [intOf]

end Go.Proofs.Ytknaffajmfimbaa.PHe
