/- heap.down, walked. -/
import Derived.Test.YtknaffajmfimbaaHeap
import Derived.Test.YtknaffajmfimbaaInv
import Derived.Test.YtknaffajmfimbaaPGx1
import Derived.RangeFuncBox
namespace Go.Proofs.Ytknaffajmfimbaa.PHe
open Go.RowKit Go.Proofs.YtknaffajmfimbaaW.PrintWords Go.Proofs.YtknaffajmfimbaaW.PrintLast Go.Proofs.YtknaffajmfimbaaW.PrintMore
open Go.Proofs Go.Proofs.Ytknaffajmfimbaa
set_option linter.unusedVariables false
set_option linter.unusedSimpArgs false
set_option maxHeartbeats 4000000
set_option maxRecDepth 100000

/-- A heap's box and its row. -/
def St (b gb cap base : Nat) (l : List Int) (W : World) : Prop := Boxed W b 22 (.slice (some ⟨gb, 0, none⟩) l.length cap) ∧ Kd.R (Kd.int .i64) 3 W base (fun k => k = gb) (.slice (some ⟨gb, 0, none⟩) l.length cap) l ∧ b ≠ gb
theorem R_only {gb cap base : Nat} {l : List Int} {W : World} {ok : Nat → Prop} (h : Kd.R (Kd.int .i64) 3 W base ok (.slice (some ⟨gb, 0, none⟩) l.length cap) l) : Kd.R (Kd.int .i64) 3 W base (fun k => k = gb) (.slice (some ⟨gb, 0, none⟩) l.length cap) l :=
  Kd.R_of_own (h1 := fun _ => rfl) (Kd.own_of_R h) (fun k hk => by simp [Value.ownBlock] at hk; exact hk.symm)
theorem St.reads {b gb cap base : Nat} {l : List Int} {W : World} (h : St b gb cap base l W) : Kd.C (Kd.int .i64) W (some ⟨gb, 0, none⟩) l.length l ∧ l.length ≤ cap := ⟨(Kd.R_reads' h.2.1).2.2, (Kd.R_reads' h.2.1).2.1⟩
theorem St.below {b gb cap base : Nat} {l : List Int} {W W' : World} (h : St b gb cap base l W) (hb : Below W.heap.size W W') : St b gb cap base l W' :=
  ⟨(hb.block b h.1.lt).trans h.1, Kd.R_below h.2.1 hb, h.2.2⟩
theorem rd_at (l : List Int) (i : Nat) : rd l (i : Int) = at_ l i := by
  unfold rd at_
  simp [List.getD_eq_getElem?_getD]
theorem less_calls {b gb cap base : Nat} {l : List Int} {W : World} (h : St b gb cap base l W) (i j : Nat) (hi : i < l.length) (hj : j < l.length) :
    Calls Try.prog 76 #[.slice (some ⟨gb, 0, none⟩) l.length cap, .int .i64 (i : Int), .int .i64 (j : Int)] W fun e w' => e = .returned (.bool (decide (at_ l i > at_ l j))) ∧ Below W.heap.size W w' :=
  (PG.member_greatest_Less.calls (some ⟨gb, 0, none⟩) cap l (i : Int) (j : Int) _ W h.reads.1 h.reads.2 (by
    unfold PG.member_greatest_Less.f
    rw [if_pos (by omega), if_pos (by omega), if_pos (by omega), if_pos (by omega), rd_at, rd_at])).mono fun _ _ h => ⟨h.1, Drawn0.below h.2⟩
theorem swap_calls {b gb cap : Nat} {l : List Int} {w0 W : World} (h : St b gb cap w0.heap.size l W) (hB : Below w0.heap.size w0 W) (i j : Nat) (hi : i < l.length) (hj : j < l.length) :
    Calls Try.prog 78 #[.slice (some ⟨gb, 0, none⟩) l.length cap, .int .i64 (i : Int), .int .i64 (j : Int)] W fun e w' => e = .returned (.tuple #[]) ∧ St b gb cap w0.heap.size (swap_ l i j) w' ∧ Below w0.heap.size w0 w' :=
  (PG.member_greatest_Swap.calls (fun k => k = gb) _ l (i : Int) (j : Int) (swap_ l i j) w0 W hB h.2.1 (by
    unfold PG.member_greatest_Swap.f
    rw [if_pos (by omega), if_pos (by omega), if_pos (by omega), if_pos (by omega), rd_at, rd_at, Int.toNat_natCast, Int.toNat_natCast]; rfl)).mono fun e w' ⟨h1, h2, h3, h4⟩ => by
    have hl : (swap_ l i j).length = l.length := swap_length l i j
    refine ⟨h1, ⟨?_, ?_, h.2.2⟩, h3⟩
    · rw [hl]; exact (h4.2 b h.1.lt h.2.2).trans h.1
    · rw [← hl] at h2; exact R_only h2
set_option maxHeartbeats 16000000 in
theorem down_calls {b gb cap : Nat} {l : List Int} {w0 w : World} (hs : St b gb cap w0.heap.size l w) (hB : Below w0.heap.size w0 w) (i0 n : Nat) (hn : n ≤ l.length) (hl : l.length ≤ 1000000) (F : Nat) (hF : n ≤ F + i0) (hi0 : i0 ≤ 1000000) :
    Calls Try.prog 37 #[.iface 45 (.pointer (some ⟨b, 0, none⟩)), .int .i64 (i0 : Int), .int .i64 (n : Int)] w fun e w' => (∃ t, e = .returned (.bool t)) ∧ St b gb cap w0.heap.size (down_ F l i0 n) w' ∧ Below w0.heap.size w0 w' ∧ (down_ F l i0 n).length = l.length := by
  have HS := Aside0.mk hs
  have HB := Aside0.mk hB
  have HN := Aside0.mk (And.intro hn (And.intro hl (And.intro hF hi0)))
  clear hs hB hn hl hF hi0
  go_enter Try.func37, Try.ntmps37
  go_wp2_with fail
  go_loopw [7, 8, 9, 10] (fun v7 _ _ _ wr => ∃ (i f : Nat) (cur : List Int), v7 = .int .i64 (i : Int) ∧ Aside0 (down_ f cur i n = down_ F l i0 n ∧ n ≤ f + i ∧ cur.length = l.length ∧ i ≤ 1000000) ∧ Aside0 (St b gb cap w0.heap.size cur wr) ∧ Aside0 (Below w0.heap.size w0 wr)) (fun v7 _ _ _ _ => n - (intOf v7).toNat)
  case atStart => exact ⟨i0, F, l, rfl, Aside0.mk ⟨rfl, HN.out.2.2.1, rfl, HN.out.2.2.2⟩, HS, HB⟩
  case round =>
    obtain ⟨i, f, cur, rfl, HD, HS1, HB1⟩ := hrel
    have hlen := HD.out.2.2.1
    have hib := HD.out.2.2.2
    have hbig := HN.out
    obtain ⟨j1, hj1⟩ : ∃ j1, j1 = 2 * i + 1 := ⟨_, rfl⟩
    obtain ⟨j2, hj2⟩ : ∃ j2, j2 = 2 * i + 2 := ⟨_, rfl⟩
    have w1 : wrap64 (2 * (i : Int)) = 2 * (i : Int) := by unfold wrap64; omega
    have w2 : wrap64 (2 * (i : Int) + 1) = (j1 : Int) := by unfold wrap64; omega
    have w3 : wrap64 ((j1 : Int) + 1) = (j2 : Int) := by unfold wrap64; omega
    by_cases c1 : 2 * i + 1 < n
    · have d1 : decide (n ≤ j1) = false := decide_eq_false (by omega)
      have d2 : decide ((j1 : Int) < 0) = false := decide_eq_false (by omega)
      have HC1 := Aside0.mk c1
      have HLC := Aside0.mk hlen
      obtain ⟨f, rfl⟩ : ∃ g, f = g + 1 := ⟨f - 1, by have := HD.out.2.1; omega⟩
      have hdn : down_ (f + 1) cur i n = if at_ cur (if 2 * i + 2 < n ∧ at_ cur j2 > at_ cur j1 then j2 else j1) > at_ cur i then down_ f (swap_ cur i (if 2 * i + 2 < n ∧ at_ cur j2 > at_ cur j1 then j2 else j1)) (if 2 * i + 2 < n ∧ at_ cur j2 > at_ cur j1 then j2 else j1) n else cur := by
        conv => lhs; unfold down_
        rw [if_pos c1, hj1, hj2]
      have HDN := Aside0.mk hdn
      have hcA := HS1.out.1.cell
      have hI1 := meth_less wr b cur.length cap (some ⟨gb, 0, none⟩) hcA
      have e76 := ef76
      have e78 := ef78
      have HJJ := Aside0.mk (And.intro hj1 hj2)
      clear hdn hbig hlen c1 hj1 hj2 hib
      by_cases c2 : j2 < n
      · have d3 : decide (j2 < n) = true := decide_eq_true (by omega)
        have HL1 := Aside0.mk (less_calls HS1.out j2 j1 (by have := HLC.out; have := HN.out; omega) (by have := HLC.out; have := HN.out; have := HJJ.out; omega))
        have HC2 := Aside0.mk c2
        clear c2 hcA
        cases hq1 : decide (at_ cur j2 > at_ cur j1) with
        | false =>
          rw [hq1] at HL1
          have HJ := Aside0.mk (show (if 2 * i + 2 < n ∧ at_ cur j2 > at_ cur j1 then j2 else j1) = j1 by
            have h := of_decide_eq_false hq1
            rw [if_neg (fun e => h e.2)])
          have HCJ := Aside0.mk (show j1 < n by have := HC1.out; have := HC2.out; have := HJJ.out; omega)
          clear hq1
          go_wp2_with fail
          refine HL1.out.mono ?_
          rintro _ w4 ⟨rfl, hb⟩
          have HS4 := Aside0.mk (HS1.out.below hb)
          have HB4 := Aside0.mk (HB1.out.trans (hb.mono HB1.out.size))
          clear hb hI1 HL1
          have hJl : j1 < cur.length := by have := HLC.out; have := HN.out; have := HJJ.out; have := HC1.out; have := HCJ.out; omega
          have hil : i < cur.length := by have := HLC.out; have := HN.out; have := HC1.out; omega
          have HJL := Aside0.mk (And.intro hJl hil)
          have HL2 := Aside0.mk (less_calls HS4.out j1 i hJl hil)
          have hI2 := meth_less w4 b cur.length cap (some ⟨gb, 0, none⟩) HS4.out.1.cell
          clear hJl hil
          cases hq : decide (at_ cur j1 > at_ cur i) with
          | false =>
            rw [hq] at HL2
            have HE := Aside0.mk (show down_ F l i0 n = cur from HD.out.1.symm.trans (HDN.out.trans (by rw [HJ.out, if_neg (of_decide_eq_false hq)])))
            clear hq
            go_wp2_with fail
            refine HL2.out.mono ?_
            rintro _ w5 ⟨rfl, hb⟩
            have HS5 := Aside0.mk (HS4.out.below hb)
            have HB5 := Aside0.mk (HB4.out.trans (hb.mono HB4.out.size))
            clear hb hI2 HL2
            go_wp2_with fail
            first | go_ret2 | go_ret
            rw [HE.out]
            exact ⟨⟨_, rfl⟩, HS5.out, HB5.out, HD.out.2.2.1⟩
          | true =>
            rw [hq] at HL2
            have HE := Aside0.mk (show down_ f (swap_ cur i j1) j1 n = down_ F l i0 n from (HD.out.1.symm.trans (HDN.out.trans (by rw [HJ.out, if_pos (of_decide_eq_true hq)]))).symm)
            clear hq
            go_wp2_with fail
            refine HL2.out.mono ?_
            rintro _ w5 ⟨rfl, hb⟩
            have HS5 := Aside0.mk (HS4.out.below hb)
            have HB5 := Aside0.mk (HB4.out.trans (hb.mono HB4.out.size))
            have hI3 := meth_swap w5 b cur.length cap (some ⟨gb, 0, none⟩) HS5.out.1.cell
            have HSW := Aside0.mk (swap_calls HS5.out HB5.out i j1 HJL.out.2 HJL.out.1)
            clear hb hI2 HL2
            go_wp2_with fail
            refine HSW.out.mono ?_
            rintro _ w6 ⟨rfl, hs6, hb6⟩
            have HS6 := Aside0.mk hs6
            have HB6 := Aside0.mk hb6
            clear hs6 hb6 hI3 HSW
            go_wp2_with fail
            go_roundw
            case rel => exact ⟨j1, f, swap_ cur i j1, rfl, Aside0.mk ⟨HE.out, by have := HD.out.2.1; have := HJJ.out; omega, by rw [swap_length]; exact HLC.out, by have := HJL.out.1; have := HLC.out; have := HN.out; omega⟩, HS6, HB6⟩
            case measure => have := HJJ.out; have := HC1.out; have := HCJ.out; simp [intOf]; omega
        | true =>
          rw [hq1] at HL1
          have HJ := Aside0.mk (show (if 2 * i + 2 < n ∧ at_ cur j2 > at_ cur j1 then j2 else j1) = j2 by
            have h := of_decide_eq_true hq1
            rw [if_pos ⟨by have := HJJ.out; have := HC2.out; omega, h⟩])
          have HCJ := Aside0.mk (show j2 < n by have := HC1.out; have := HC2.out; have := HJJ.out; omega)
          clear hq1
          go_wp2_with fail
          refine HL1.out.mono ?_
          rintro _ w4 ⟨rfl, hb⟩
          have HS4 := Aside0.mk (HS1.out.below hb)
          have HB4 := Aside0.mk (HB1.out.trans (hb.mono HB1.out.size))
          clear hb hI1 HL1
          have hJl : j2 < cur.length := by have := HLC.out; have := HN.out; have := HJJ.out; have := HC1.out; have := HCJ.out; omega
          have hil : i < cur.length := by have := HLC.out; have := HN.out; have := HC1.out; omega
          have HJL := Aside0.mk (And.intro hJl hil)
          have HL2 := Aside0.mk (less_calls HS4.out j2 i hJl hil)
          have hI2 := meth_less w4 b cur.length cap (some ⟨gb, 0, none⟩) HS4.out.1.cell
          clear hJl hil
          cases hq : decide (at_ cur j2 > at_ cur i) with
          | false =>
            rw [hq] at HL2
            have HE := Aside0.mk (show down_ F l i0 n = cur from HD.out.1.symm.trans (HDN.out.trans (by rw [HJ.out, if_neg (of_decide_eq_false hq)])))
            clear hq
            go_wp2_with fail
            refine HL2.out.mono ?_
            rintro _ w5 ⟨rfl, hb⟩
            have HS5 := Aside0.mk (HS4.out.below hb)
            have HB5 := Aside0.mk (HB4.out.trans (hb.mono HB4.out.size))
            clear hb hI2 HL2
            go_wp2_with fail
            first | go_ret2 | go_ret
            rw [HE.out]
            exact ⟨⟨_, rfl⟩, HS5.out, HB5.out, HD.out.2.2.1⟩
          | true =>
            rw [hq] at HL2
            have HE := Aside0.mk (show down_ f (swap_ cur i j2) j2 n = down_ F l i0 n from (HD.out.1.symm.trans (HDN.out.trans (by rw [HJ.out, if_pos (of_decide_eq_true hq)]))).symm)
            clear hq
            go_wp2_with fail
            refine HL2.out.mono ?_
            rintro _ w5 ⟨rfl, hb⟩
            have HS5 := Aside0.mk (HS4.out.below hb)
            have HB5 := Aside0.mk (HB4.out.trans (hb.mono HB4.out.size))
            have hI3 := meth_swap w5 b cur.length cap (some ⟨gb, 0, none⟩) HS5.out.1.cell
            have HSW := Aside0.mk (swap_calls HS5.out HB5.out i j2 HJL.out.2 HJL.out.1)
            clear hb hI2 HL2
            go_wp2_with fail
            refine HSW.out.mono ?_
            rintro _ w6 ⟨rfl, hs6, hb6⟩
            have HS6 := Aside0.mk hs6
            have HB6 := Aside0.mk hb6
            clear hs6 hb6 hI3 HSW
            go_wp2_with fail
            go_roundw
            case rel => exact ⟨j2, f, swap_ cur i j2, rfl, Aside0.mk ⟨HE.out, by have := HD.out.2.1; have := HJJ.out; omega, by rw [swap_length]; exact HLC.out, by have := HJL.out.1; have := HLC.out; have := HN.out; omega⟩, HS6, HB6⟩
            case measure => have := HJJ.out; have := HC1.out; have := HCJ.out; simp [intOf]; omega
      · have d3 : decide (j2 < n) = false := decide_eq_false (by omega)
        have HJ := Aside0.mk (show (if 2 * i + 2 < n ∧ at_ cur j2 > at_ cur j1 then j2 else j1) = j1 by rw [if_neg (by have := HJJ.out; omega)])
        have HCJ := Aside0.mk (show j1 < n by have := HC1.out; have := HJJ.out; omega)
        clear c2 hcA hI1
        have hJl : j1 < cur.length := by have := HLC.out; have := HN.out; have := HJJ.out; have := HC1.out; have := HCJ.out; omega
        have hil : i < cur.length := by have := HLC.out; have := HN.out; have := HC1.out; omega
        have HJL := Aside0.mk (And.intro hJl hil)
        have HL2 := Aside0.mk (less_calls HS1.out j1 i hJl hil)
        have hI2 := meth_less wr b cur.length cap (some ⟨gb, 0, none⟩) HS1.out.1.cell
        clear hJl hil
        cases hq : decide (at_ cur j1 > at_ cur i) with
        | false =>
          rw [hq] at HL2
          have HE := Aside0.mk (show down_ F l i0 n = cur from HD.out.1.symm.trans (HDN.out.trans (by rw [HJ.out, if_neg (of_decide_eq_false hq)])))
          clear hq
          go_wp2_with fail
          refine HL2.out.mono ?_
          rintro _ w5 ⟨rfl, hb⟩
          have HS5 := Aside0.mk (HS1.out.below hb)
          have HB5 := Aside0.mk (HB1.out.trans (hb.mono HB1.out.size))
          clear hb hI2 HL2
          go_wp2_with fail
          first | go_ret2 | go_ret
          rw [HE.out]
          exact ⟨⟨_, rfl⟩, HS5.out, HB5.out, HD.out.2.2.1⟩
        | true =>
          rw [hq] at HL2
          have HE := Aside0.mk (show down_ f (swap_ cur i j1) j1 n = down_ F l i0 n from (HD.out.1.symm.trans (HDN.out.trans (by rw [HJ.out, if_pos (of_decide_eq_true hq)]))).symm)
          clear hq
          go_wp2_with fail
          refine HL2.out.mono ?_
          rintro _ w5 ⟨rfl, hb⟩
          have HS5 := Aside0.mk (HS1.out.below hb)
          have HB5 := Aside0.mk (HB1.out.trans (hb.mono HB1.out.size))
          have hI3 := meth_swap w5 b cur.length cap (some ⟨gb, 0, none⟩) HS5.out.1.cell
          have HSW := Aside0.mk (swap_calls HS5.out HB5.out i j1 HJL.out.2 HJL.out.1)
          clear hb hI2 HL2
          go_wp2_with fail
          refine HSW.out.mono ?_
          rintro _ w6 ⟨rfl, hs6, hb6⟩
          have HS6 := Aside0.mk hs6
          have HB6 := Aside0.mk hb6
          clear hs6 hb6 hI3 HSW
          go_wp2_with fail
          go_roundw
          case rel => exact ⟨j1, f, swap_ cur i j1, rfl, Aside0.mk ⟨HE.out, by have := HD.out.2.1; have := HJJ.out; omega, by rw [swap_length]; exact HLC.out, by have := HJL.out.1; have := HLC.out; have := HN.out; omega⟩, HS6, HB6⟩
          case measure => have := HJJ.out; have := HC1.out; have := HCJ.out; simp [intOf]; omega
    · have d1 : decide (n ≤ j1) = true := decide_eq_true (by omega)
      have he : down_ f cur i n = cur := by
        cases f with
        | zero => rfl
        | succ f => unfold down_; rw [if_neg c1]
      have HE := Aside0.mk (show down_ F l i0 n = cur from HD.out.1.symm.trans he)
      clear he c1 hbig hlen hib hj1 hj2
      go_wp2_with fail
      first | go_ret2 | go_ret
      rw [HE.out]
      exact ⟨⟨_, rfl⟩, HS1.out, HB1.out, HD.out.2.2.1⟩

end Go.Proofs.Ytknaffajmfimbaa.PHe
