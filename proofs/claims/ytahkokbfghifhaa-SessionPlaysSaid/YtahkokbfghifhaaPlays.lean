/- SessionPlays: the walk. -/
import Derived.Test.YtahkokbfghifhaaPlR
import Derived.Test.YtahkokbfghifhaaFirst
import Derived.Test.YtahkokbfghifhaaProg
import Derived.Below
import Derived.Deep.Draws
import Derived.Deep.AppendLies
import Derived.Maps.AppendAt
import Derived.OwnWalk
import Derived.Laws.BytesArg
import Derived.Laws.MakeOwn
import Derived.Laws.OwnMore
import Derived.Deep.OwnRows
import Derived.Tactics
import Derived.Lib.ConvBytes
import Derived.Laws.Slices
import Derived.WalkKit
import Derived.KernelRfl
import Derived.RowKit3
import Derived.Deep.LoopGhost
import Derived.Deep.QuietTactic
import Derived.BigQuiet
import Derived.WideLaws
import Derived.Deep.DeepCutAuto
import Derived.Deep.CutBlock
import Derived.Deep.RegionHeld3
import Derived.Laws.Rows
import Derived.Lib.AppendStr
import Derived.ArgAppend
import Derived.Laws.IdiomCopy
import Derived.OrdersHeld
import Derived.Laws.BitsLemmas
import Derived.RowKit
import Derived.Test.YtahkokbfghifhaaWWords
import Derived.Test.YtahkokbfghifhaaWLast
import Derived.Test.YtahkokbfghifhaaWTab
import Derived.Test.YtahkokbfghifhaaWFour
import Derived.Test.YtahkokbfghifhaaWQPut
import Derived.Test.YtahkokbfghifhaaWApart
import Derived.Test.YtahkokbfghifhaaWArr
import Derived.Test.YtahkokbfghifhaaWZeros
import Derived.Test.YtahkokbfghifhaaWFoot
import Derived.Test.YtahkokbfghifhaaWKept
import Derived.Test.YtahkokbfghifhaaWShare
import Derived.Test.YtahkokbfghifhaaWN
import Derived.Test.YtahkokbfghifhaaWFootNe
import Derived.Test.YtahkokbfghifhaaWAt
import Derived.Test.YtahkokbfghifhaaWEqStruct
import Derived.Test.YtahkokbfghifhaaWRepsOne
import Derived.Test.YtahkokbfghifhaaWInv
import Derived.Test.YtahkokbfghifhaaWInvWords
import Derived.Test.YtahkokbfghifhaaWGuard
import Derived.Test.YtahkokbfghifhaaWNEv
import Derived.Test.YtahkokbfghifhaaWMore
namespace Go.Proofs.Ytahkokbfghifhaa.PS
open Go.RowKit Go.Proofs.YtahkokbfghifhaaW.PrintWords Go.Proofs.YtahkokbfghifhaaW.PrintLast Go.Proofs.YtahkokbfghifhaaW.PrintMore
set_option linter.unusedVariables false
set_option linter.unusedSimpArgs false
set_option maxHeartbeats 4000000
set_option maxRecDepth 100000

open Go.Proofs.Ytahkokbfghifhaa.Reg
/-- Both tables, with the same rows, in blocks of the call's own. -/
def St2 (w W : World) (g1 g2 : Nat) (es : List S55) : Prop := ∃ ok1 ok2, TblS W ok1 g1 es ∧ TblX W ok2 g2 es ∧ (∀ k, ok1 k → w.heap.size ≤ k ∧ k < W.heap.size ∧ ¬ ok2 k) ∧ (∀ k, ok2 k → w.heap.size ≤ k ∧ k < W.heap.size) ∧ Good es ∧ Below w.heap.size w W
theorem St2.keep {w W W2 : World} {g1 g2 : Nat} {es : List S55} (h : St2 w W g1 g2 es) (hk : Kept W W2 (fun q => W.heap.size ≤ q)) (hb : Below 0 W W2) : St2 w W2 g1 g2 es := by
  obtain ⟨ok1, ok2, t1, t2, d1, d2, gd, hB⟩ := h
  refine ⟨ok1, ok2, t1.kept hk (fun k h => by have := (d1 k h).2.1; omega), t2.kept hk (fun k h => by have := (d2 k h).2; omega), fun k h => ⟨(d1 k h).1, Nat.lt_of_lt_of_le (d1 k h).2.1 hk.1, (d1 k h).2.2⟩, fun k h => ⟨(d2 k h).1, Nat.lt_of_lt_of_le (d2 k h).2 hk.1⟩, gd, ?_⟩
  exact hB.trans ⟨hb.os, hb.tape, hb.output, hb.size, fun k hlt => hk.2 k (Nat.lt_of_lt_of_le hlt hB.size) (fun h => by have := hB.size; omega)⟩
theorem St2.below {w W W2 : World} {g1 g2 : Nat} {es : List S55} (h : St2 w W g1 g2 es) (hb : Below W.heap.size W W2) : St2 w W2 g1 g2 es :=
  h.keep (Kept.below (Kept.refl _ _) hb) (hb.mono (Nat.zero_le _))
/-- What a region leaves in which both tables were called. -/
theorem St2.both {w W W2 : World} {ok1 ok2 : Nat → Prop} {g1 g2 N : Nat} {es' : List S55} (d1 : ∀ k, ok1 k → w.heap.size ≤ k ∧ k < W.heap.size ∧ ¬ ok2 k) (d2 : ∀ k, ok2 k → w.heap.size ≤ k ∧ k < W.heap.size) (hB : Below w.heap.size w W) (n1 : W.heap.size ≤ N) (n2 : N ≤ W2.heap.size) (t1 : TblS W2 (fun k => (ok1 k ∨ W.heap.size ≤ k) ∧ k < N) g1 es') (t2 : TblX W2 (fun k => ok2 k ∨ N ≤ k) g2 es') (hk : Kept W W2 (fun k => ok1 k ∨ ok2 k)) (hb : Below 0 W W2) (gd : Good es') : St2 w W2 g1 g2 es' := by
  refine ⟨_, _, t1, t2.bound, fun k h => ⟨?_, by omega, fun h2 => ?_⟩, fun k h => ⟨?_, h.2⟩, gd, ?_⟩
  · rcases h.1 with h | h
    · exact (d1 k h).1
    · have := hB.size; omega
  · rcases h.1 with h | h
    · rcases h2.1 with h3 | h3
      · exact (d1 k h).2.2 h3
      · have := (d1 k h).2.1; omega
    · rcases h2.1 with h3 | h3
      · have := (d2 k h3).2; omega
      · omega
  · rcases h.1 with h | h
    · exact (d2 k h).1
    · have := hB.size; omega
  · exact hB.trans ⟨hb.os, hb.tape, hb.output, hb.size, fun k hlt => hk.2 k (Nat.lt_of_lt_of_le hlt hB.size) (fun h => by
      rcases h with h | h
      · have := (d1 k h).1; omega
      · have := (d2 k h).1; omega)⟩
theorem St2.both' {w W W2 : World} {ok1 ok2 : Nat → Prop} {g1 g2 N : Nat} {es' : List S55} (d1 : ∀ k, ok1 k → w.heap.size ≤ k ∧ k < W.heap.size ∧ ¬ ok2 k) (d2 : ∀ k, ok2 k → w.heap.size ≤ k ∧ k < W.heap.size) (hB : Below w.heap.size w W) (n1 : W.heap.size ≤ N) (n2 : N ≤ W2.heap.size) (t1 : TblS W2 (fun k => (ok1 k ∨ W.heap.size ≤ k) ∧ k < N) g1 es') (t2 : TblX W2 (fun k => ok2 k ∨ N ≤ k) g2 es') (hk : Below w.heap.size w W2) (gd : Good es') : St2 w W2 g1 g2 es' := by
  refine ⟨_, _, t1, t2.bound, fun k h => ⟨?_, by omega, fun h2 => ?_⟩, fun k h => ⟨?_, h.2⟩, gd, hk⟩
  · rcases h.1 with h | h
    · exact (d1 k h).1
    · have := hB.size; omega
  · rcases h.1 with h | h
    · rcases h2.1 with h3 | h3
      · exact (d1 k h).2.2 h3
      · have := (d1 k h).2.1; omega
    · rcases h2.1 with h3 | h3
      · have := (d2 k h3).2; omega
      · omega
  · rcases h.1 with h | h
    · exact (d2 k h).1
    · have := hB.size; omega
theorem St2.made (w W : World) (h : Below w.heap.size w W) : St2 w ((W.alloc (.cells #[.slice none 0 0] 36)).alloc (.cells #[.slice none 0 0] 49)) W.heap.size (W.heap.size + 1) [] := by
  have s1 : (W.alloc (.cells #[.slice none 0 0] 36)).heap.size = W.heap.size + 1 := by show (W.heap.push _).size = _; rw [Array.size_push]
  have s2 : ((W.alloc (.cells #[.slice none 0 0] 36)).alloc (.cells #[.slice none 0 0] 49)).heap.size = W.heap.size + 1 + 1 := by show ((W.alloc (.cells #[.slice none 0 0] 36)).heap.push _).size = _; rw [Array.size_push, s1]
  have k1 := heap_alloc_new W (.cells #[.slice none 0 0] 36)
  have k2 := heap_alloc_new (W.alloc (.cells #[.slice none 0 0] 36)) (.cells #[.slice none 0 0] 49)
  have b2 := below_alloc (Below.refl (W.alloc (.cells #[.slice none 0 0] 36)).heap.size (W.alloc (.cells #[.slice none 0 0] 36))) (.cells #[.slice none 0 0] 49)
  rw [s1] at k2
  refine ⟨(fun k => k = W.heap.size), (fun k => k = W.heap.size + 1), ⟨rfl, _, (b2.block _ (by rw [s1]; omega)).trans k1, Kd.R_nil _ _ _ _ _⟩, ⟨rfl, _, k2, Kd.R_nil _ _ _ _ _⟩, fun k hk => ⟨by have := h.size; omega, by rw [s2]; omega, by omega⟩, fun k hk => ⟨by have := h.size; omega, by rw [s2]; omega⟩, Good.nil, below_alloc (below_alloc h _) _⟩

theorem plays_law (A : Option Addr) (ca : Nat) (ts : List S51) (w : World) (hA : Kd.C k51 w A ts.length ts) :
    Calls Try.prog 6 #[.slice A ts.length ca] w fun e w' => e = .returned (.bool true) ∧ Below w.heap.size w w' := by
  have HA := Aside0.mk hA
  have HN := Aside0.mk (Kd.C_max hA)
  clear hA
  go_enter Try.func6, Try.ntmps6
  go_wp2_with fail
  refine (first_calls w).mono ?_
  rintro _ w1 ⟨rfl, hb⟩
  have hst := St2.made w w1 hb
  obtain ⟨w2, hw2⟩ : ∃ w2, w2 = (w1.alloc (.cells #[.slice none 0 0] 36)).alloc (.cells #[.slice none 0 0] 49) := ⟨_, rfl⟩
  obtain ⟨g1, hg1⟩ : ∃ g1, g1 = w1.heap.size := ⟨_, rfl⟩
  obtain ⟨g2, hg2⟩ : ∃ g2, g2 = w1.heap.size + 1 := ⟨_, rfl⟩
  have H2 := Aside0.mk (show St2 w w2 g1 g2 [] by rw [hw2, hg1, hg2]; exact hst)
  have HW := Aside0.mk hw2
  have HG1 := Aside0.mk hg1
  have HG2 := Aside0.mk hg2
  clear hst hw2 hg1 hg2 hb
  go_wp2_with fail
  rw [← HW.out, ← HG2.out, ← HG1.out]
  clear HW HG1 HG2
  generalize hL : ts.length = n at *
  have HLN := Aside0.mk hL
  clear hL
  go_loopw [22] (fun v22 wr => ∃ (i : Nat) (es : List S55), v22 = .int .i64 (i : Int) ∧ Aside0 (i ≤ n) ∧ Aside0 (St2 w wr g1 g2 es)) (fun v22 _ => n - (intOf v22).toNat)
  case atStart => exact ⟨0, [], rfl, Aside0.mk (Nat.zero_le _), H2⟩
  case round =>
    obtain ⟨i, es, rfl, HI, HT⟩ := hrel
    by_cases hin : i < n
    · have d1 : decide ((i : Int) < (n : Int)) = true := decide_eq_true (by omega)
      have hBW : Below w.heap.size w wr := by
        obtain ⟨ok1, ok2, t1, t2, d1, d2, gd, hB⟩ := HT.out
        exact hB
      have hC2 := Kd.C_below HA.out hBW
      obtain ⟨ad, rfl, c0, c1, c2, c3, c4⟩ := at_T51 hC2 (i : Int) (by omega) (by omega)
      rw [Int.toNat_natCast] at c0 c1 c2 c3 c4
      generalize rd_T51 ts (i : Int) = y at c0 c1 c2 c3 c4
      have hin2 : (i : Int) < (n : Int) := by omega
      have hi0 : (0 : Int) ≤ (i : Int) := by omega
      have HIN := Aside0.mk hin
      have hwi : wrap64 ((i : Int) + 1) = ((i + 1 : Nat) : Int) := by have := HN.out; unfold wrap64; omega
      have hbx := below_alloc (Below.refl wr.heap.size wr) (Obj.cells #[.int .i64 y.f0, .int .i64 y.f1, .int .i64 y.f2, .int .i64 y.f3, .string y.f4] 51)
      have hnew := heap_alloc_new wr (Obj.cells #[.int .i64 y.f0, .int .i64 y.f1, .int .i64 y.f2, .int .i64 y.f3, .string y.f4] 51)
      have HX := Aside0.mk (HT.out.below hbx)
      have HFIN := Aside0.mk (show Below w.heap.size w (wr.alloc (Obj.cells #[.int .i64 y.f0, .int .i64 y.f1, .int .i64 y.f2, .int .i64 y.f3, .string y.f4] 51)) from below_over hBW hbx)
      have hszb : wr.heap.size < (wr.alloc (Obj.cells #[.int .i64 y.f0, .int .i64 y.f1, .int .i64 y.f2, .int .i64 y.f3, .string y.f4] 51)).heap.size := by show _ < (wr.heap.push _).size; rw [Array.size_push]; omega
      have HBOX := Aside0.mk (And.intro hnew hszb)
      obtain ⟨ok1, ok2, t1, t2, dd1, dd2, gd, hB⟩ := HT.out
      have HD := Aside0.mk (And.intro dd1 (And.intro dd2 gd))
      have HT1 := Aside0.mk (And.intro (t1.below hbx) (t2.below hbx))
      have HSZ := Aside0.mk hbx.size
      clear hC2 hBW hbx hnew hszb t1 t2 dd1 dd2 gd hB
      by_cases h80 : (80 : Int) ≤ (i : Int)
      · have d2 : decide ((i : Int) ≥ 80) = true := decide_eq_true h80
        clear h80
        go_wp2_with fail
        go_ret
        exact ⟨rfl, HFIN.out⟩
      · have d2 : decide ((i : Int) ≥ 80) = false := decide_eq_false h80
        clear h80
        by_cases q0 : (IntKind.u64.wrap y.f0).tmod 4 = 0
        · have e0 : ((IntKind.u64.wrap y.f0).tmod 4 == 0) = true := by simpa using q0
          clear q0
          go_wp2_with fail
          refine regionQ (by kernel_rfl) (wr.alloc (Obj.cells #[.int .i64 y.f0, .int .i64 y.f1, .int .i64 y.f2, .int .i64 y.f3, .string y.f4] 51)) ok1 ok2 g1 g2 wr.heap.size es y _ (wr.alloc (Obj.cells #[.int .i64 y.f0, .int .i64 y.f1, .int .i64 y.f2, .int .i64 y.f3, .string y.f4] 51)) ?_ rfl rfl rfl rfl ?_
          · intro c
            have hd := HD.out
            match c with
            | 0 => exact ⟨HBOX.out.1, HBOX.out.2, fun h => by have := (hd.1 _ h).2.1; omega, fun h => by have := (hd.2.1 _ h).2; omega⟩
            | 1 => exact ⟨HT1.out.1, Below.refl _ _, fun k h => ⟨Nat.lt_of_lt_of_le (hd.1 k h).2.1 HSZ.out, (hd.1 k h).2.2⟩, fun k h => Nat.lt_of_lt_of_le (hd.2.1 k h).2 HSZ.out, hd.2.2⟩
            | 2 => exact ⟨HT1.out.2, fun k h => ⟨Nat.lt_of_lt_of_le (hd.1 k h).2.1 HSZ.out, (hd.1 k h).2.2⟩, fun k h => Nat.lt_of_lt_of_le (hd.2.1 k h).2 HSZ.out, hd.2.2⟩
            | c + 3 => exact True.intro
          · intro a2 w5 hAg h6 h7 hb0
            have h6' : (fun (v : Value) (w : World) => v = .bool (openLS es y.f3).1 ∧ ∃ N, (wr.alloc (Obj.cells #[.int .i64 y.f0, .int .i64 y.f1, .int .i64 y.f2, .int .i64 y.f3, .string y.f4] 51)).heap.size ≤ N ∧ N ≤ w.heap.size ∧ TblS w (fun k => (ok1 k ∨ (wr.alloc (Obj.cells #[.int .i64 y.f0, .int .i64 y.f1, .int .i64 y.f2, .int .i64 y.f3, .string y.f4] 51)).heap.size ≤ k) ∧ k < N) g1 (openLS es y.f3).2 ∧ TblX w (fun k => ok2 k ∨ N ≤ k) g2 (openLS es y.f3).2 ∧ Kept (wr.alloc (Obj.cells #[.int .i64 y.f0, .int .i64 y.f1, .int .i64 y.f2, .int .i64 y.f3, .string y.f4] 51)) w (fun k => ok1 k ∨ ok2 k) ∧ Below 0 (wr.alloc (Obj.cells #[.int .i64 y.f0, .int .i64 y.f1, .int .i64 y.f2, .int .i64 y.f3, .string y.f4] 51)) w ∧ Good (openLS es y.f3).2) (slotO dstQ a2 6) w5 := h6
            obtain ⟨hv, NN, m1, m2, u1, u2, u3, u4, u5⟩ := h6'
            have hd := HD.out
            have H9 := Aside0.mk (show St2 w w5 g1 g2 (openLS es y.f3).2 from St2.both (fun k h => ⟨(hd.1 k h).1, Nat.lt_of_lt_of_le (hd.1 k h).2.1 HSZ.out, (hd.1 k h).2.2⟩) (fun k h => ⟨(hd.2.1 k h).1, Nat.lt_of_lt_of_le (hd.2.1 k h).2 HSZ.out⟩) HFIN.out m1 m2 u1 u2 u3 u4 u5)
            have h7' : slotO dstQ a2 7 = .bool false := h7
            clear h6 h7 hb0 hv NN m1 m2 u1 u2 u3 u4 u5 hd
            rw [hAg.frame hinQ]
            clear hAg
            simp only [List.range_succ, List.range_zero, List.nil_append, List.cons_append, foldO, dstQ, List.getD_cons_zero, List.getD_cons_succ, Act.put]
            generalize slotO dstQ a2 0 = y0
            generalize slotO dstQ a2 1 = y1
            generalize slotO dstQ a2 2 = y2
            generalize slotO dstQ a2 3 = y3
            generalize slotO dstQ a2 4 = y4
            generalize slotO dstQ a2 5 = y5
            generalize slotO dstQ a2 6 = y6
            generalize slotO dstQ a2 7 = y7 at *
            clear a2
            subst h7'
            go_simp
            generalize (openLS es y.f3).2 = es9 at *
            -- the rows are the same
            have HRW := Aside0.mk (show Calls Try.prog 14 #[.pointer (some ⟨g1, 0, none⟩)] w5 (fun e w' => ∃ v, e = .returned v ∧ Kd.R k55 55 w' (w5).heap.size (fun _ => True) v es9 ∧ Below (w5).heap.size (w5) w') from by
              obtain ⟨ok1, ok2, t1, t2, d1, d2, gd, hB⟩ := H9.out
              exact rows_callsS t1 gd.len)
            go_wp2_with fail
            refine HRW.out.mono ?_
            clear HRW
            rintro _ wu ⟨v, rfl, hR, hbu⟩
            have HU := Aside0.mk (H9.out.below hbu)
            have HBU := Aside0.mk hbu
            have HRU := Aside0.mk hR
            obtain ⟨A3, c3, rfl⟩ := Kd.R_slice hR
            obtain ⟨A4, c4, cg4, HSM⟩ : ∃ A4 c4, wu.cell? ⟨g2, 0, none⟩ = some (.slice A4 (es9).length c4) ∧ Aside0 (Calls Try.prog 21 #[.slice A3 (es9).length c3, .slice A4 (es9).length c4] wu (fun e w' => e = .returned (.bool true) ∧ Drawn0 wu w')) := by
              obtain ⟨ok1, ok2, t1, t2, d1, d2, gd, hB⟩ := HU.out
              obtain ⟨A4, c4, cg, hc4, hC4⟩ := t2.cells
              exact ⟨A4, c4, cg, Aside0.mk (calepinref13_Same.calls 9 A3 c3 (es9) A4 c4 (es9) true wu (Kd.R_reads' hR).2.2 (Kd.R_reads' hR).2.1 hC4 hc4 (same_self _ gd.len))⟩
            clear hR hbu
            go_wp2_with fail
            refine HSM.out.mono ?_
            clear HSM
            rintro _ wv ⟨rfl, hd⟩
            have hdb := hd.below
            have RV := Aside0.mk (Kd.R_below HRU.out hdb)
            have KV := Aside0.mk (show Kept (w5) wv (fun q => (w5).heap.size ≤ q) from Kept.below (Kept.refl _ _) (HBU.out.trans (hdb.mono HBU.out.size)))
            have BV := Aside0.mk (show Below 0 (w5) wv from (HBU.out.trans (hdb.mono HBU.out.size)).mono (Nat.zero_le _))
            have HLE := Aside0.mk (show (es9).length ≤ 8 from by obtain ⟨ok1, ok2, t1, t2, d1, d2, gd, hB⟩ := H9.out; exact gd.len)
            clear hd hdb cg4
            generalize hm : (es9).length = m at *
            have HM := Aside0.mk hm
            clear hm
            go_wp2_with fail
            go_loopw [142] (fun v142 wq3 => ∃ (k : Nat) (cur : List S55), v142 = .int .i64 (k : Int) ∧ Aside0 (k ≤ m) ∧ Aside0 (Kd.R k55 55 wq3 (w5).heap.size (fun _ => True) (.slice A3 m c3) cur) ∧ Aside0 (Kept (w5) wq3 (fun q => (w5).heap.size ≤ q)) ∧ Aside0 (Below 0 (w5) wq3)) (fun v142 _ => m - (intOf v142).toNat)
            case atStart => exact ⟨0, _, rfl, Aside0.mk (Nat.zero_le _), RV, KV, BV⟩
            case round =>
              obtain ⟨k, cur, rfl, HK, RR, KK, BB⟩ := hrel
              by_cases hkm : k < m
              · have e1 : decide ((k : Int) < (m : Int)) = true := decide_eq_true (by omega)
                have hk2 : (k : Int) < (m : Int) := by omega
                have hk0 : (0 : Int) ≤ (k : Int) := by omega
                obtain ⟨lb, hlb⟩ : ∃ lb, A3 = some ⟨lb, 0, none⟩ := by
                  obtain ⟨lb, cap, hv, _⟩ := Kd.R_form RR.out (by have := (Kd.R_reads' RR.out).1; omega)
                  injection hv with hv _ _
                  exact ⟨lb, hv⟩
                subst hlb
                have HLB := Aside0.mk (Kd.R_base RR.out lb rfl)
                have HKM := Aside0.mk hkm
                have hwk : wrap64 ((k : Int) + 1) = ((k + 1 : Nat) : Int) := by have := HLE.out; unfold wrap64; omega
                clear hkm
                go_wp2_with (first
                  | (refine gate_ (.store 55 (.tmp 148) (.tmp 147)) rfl ?_
                     refine R_store_list k55 (w5).heap.size rfl rfl 55 (.tmp 148) (.tmp 147) rfl 55 (g := lb) (n := m) (cap := c3) (o' := k * 4) (k : Int) cur ⟨0, 0, 0, ⟨#[]⟩⟩ (.agg #[.int .i64 0, .int .i64 0, .int .i64 0, .string ⟨#[]⟩]) [.int .i64 0, .int .i64 0, .int .i64 0, .string ⟨#[]⟩] (fun _ => True) (fun _ => False) rfl (by rw [Int.toNat_natCast]; rfl) rfl rfl (by rfl) (by intro q hq; simp at hq; rcases hq with rfl | rfl | rfl | rfl <;> rfl) RR.out hk0 hk2 rfl z55 (k55_mkM _ _ _ ⟨0, 0, 0, ⟨#[]⟩⟩) (fun _ h => h.elim) ?_
                     intro w9 hR9 hg9)
                  | fail)
                have R9 := Aside0.mk hR9
                have K9 := Aside0.mk (show Kept (w5) w9 (fun q => (w5).heap.size ≤ q) from ⟨Nat.le_trans KK.out.1 hg9.size, fun q hq hn => (hg9.block q (Nat.lt_of_lt_of_le hq KK.out.1) (fun he => by injection he with he; have := HLB.out; omega)).trans (KK.out.2 q hq hn)⟩)
                have B9 := Aside0.mk (BB.out.trans (show Below 0 _ w9 from ⟨hg9.os, hg9.tape, hg9.output, hg9.size, fun q hq => absurd hq (Nat.not_lt_zero _)⟩))
                clear hR9 hg9
                go_roundw
                case rel => exact ⟨k + 1, _, by first | rw [hwk] | rfl, Aside0.mk HKM.out, R9, K9, B9⟩
                case measure => have := HKM.out; first | (rw [hwk]; simp [intOf]; omega) | (simp [intOf]; omega)
              · have e1 : decide ((k : Int) < (m : Int)) = false := decide_eq_false (by omega)
                have hk2 : ¬ (k : Int) < (m : Int) := by omega
                have H10 := Aside0.mk (H9.out.keep KK.out BB.out)
                clear hkm
                go_wp2_with fail
                go_roundw
                case rel => exact ⟨i + 1, _, by first | rw [hwi] | rfl, Aside0.mk HIN.out, H10⟩
                case measure => have := HIN.out; first | (rw [hwi]; simp [intOf]; omega) | (simp [intOf]; omega)

        · have e0 : ((IntKind.u64.wrap y.f0).tmod 4 == 0) = false := by simpa using q0
          clear q0
          by_cases q1 : (IntKind.u64.wrap y.f0).tmod 4 = 1
          · have e1 : ((IntKind.u64.wrap y.f0).tmod 4 == 1) = true := by simpa using q1
            have hask := ask_callsS HT1.out.1 y.f1 y.f2
            have HASK := Aside0.mk hask
            have HRA := Aside0.mk (fun W (hW : Below (wr.alloc (Obj.cells #[.int .i64 y.f0, .int .i64 y.f1, .int .i64 y.f2, .int .i64 y.f3, .string y.f4] 51)).heap.size (wr.alloc (Obj.cells #[.int .i64 y.f0, .int .i64 y.f1, .int .i64 y.f2, .int .i64 y.f3, .string y.f4] 51)) W) => rask_calls (HT1.out.2.below hW) y.f1 y.f2)
            generalize askS es y.f1 y.f2 = q at HASK HRA
            obtain ⟨qa, qb⟩ := q
            simp only [] at HASK HRA
            clear q1 hask
            go_wp2_with fail
            refine HASK.out.mono ?_
            clear HASK
            rintro _ w5 ⟨rfl, hb5⟩
            have HBX9 := Aside0.mk ((hb5.block _ HBOX.out.2).trans HBOX.out.1)
            have HR5 := Aside0.mk (HRA.out w5 hb5)
            have HS5 := Aside0.mk (HX.out.below hb5)
            have p1 : w5.cell? ⟨wr.heap.size, 1, none⟩ = some (.int .i64 y.f1) := by have h := HBX9.out; simp [World.cell?, h]
            have p2 : w5.cell? ⟨wr.heap.size, 2, none⟩ = some (.int .i64 y.f2) := by have h := HBX9.out; simp [World.cell?, h]
            have p3 : w5.cell? ⟨wr.heap.size, 3, none⟩ = some (.int .i64 y.f3) := by have h := HBX9.out; simp [World.cell?, h]
            have p4 : w5.cell? ⟨wr.heap.size, 4, none⟩ = some (.string y.f4) := by have h := HBX9.out; simp [World.cell?, h]
            clear hb5 HRA
            go_wp2_with fail
            refine HR5.out.mono ?_
            clear HR5
            rintro _ w6 ⟨rfl, hb6⟩
            have H9 := Aside0.mk (HS5.out.below hb6)
            clear hb6 p1 p2 p3 p4
            -- the rows are the same
            have HRW := Aside0.mk (show Calls Try.prog 14 #[.pointer (some ⟨g1, 0, none⟩)] w6 (fun e w' => ∃ v, e = .returned v ∧ Kd.R k55 55 w' (w6).heap.size (fun _ => True) v es ∧ Below (w6).heap.size (w6) w') from by
              obtain ⟨ok1, ok2, t1, t2, d1, d2, gd, hB⟩ := H9.out
              exact rows_callsS t1 gd.len)
            go_wp2_with fail
            refine HRW.out.mono ?_
            clear HRW
            rintro _ wu ⟨v, rfl, hR, hbu⟩
            have HU := Aside0.mk (H9.out.below hbu)
            have HBU := Aside0.mk hbu
            have HRU := Aside0.mk hR
            obtain ⟨A3, c3, rfl⟩ := Kd.R_slice hR
            obtain ⟨A4, c4, cg4, HSM⟩ : ∃ A4 c4, wu.cell? ⟨g2, 0, none⟩ = some (.slice A4 (es).length c4) ∧ Aside0 (Calls Try.prog 21 #[.slice A3 (es).length c3, .slice A4 (es).length c4] wu (fun e w' => e = .returned (.bool true) ∧ Drawn0 wu w')) := by
              obtain ⟨ok1, ok2, t1, t2, d1, d2, gd, hB⟩ := HU.out
              obtain ⟨A4, c4, cg, hc4, hC4⟩ := t2.cells
              exact ⟨A4, c4, cg, Aside0.mk (calepinref13_Same.calls 9 A3 c3 (es) A4 c4 (es) true wu (Kd.R_reads' hR).2.2 (Kd.R_reads' hR).2.1 hC4 hc4 (same_self _ gd.len))⟩
            clear hR hbu
            go_wp2_with fail
            refine HSM.out.mono ?_
            clear HSM
            rintro _ wv ⟨rfl, hd⟩
            have hdb := hd.below
            have RV := Aside0.mk (Kd.R_below HRU.out hdb)
            have KV := Aside0.mk (show Kept (w6) wv (fun q => (w6).heap.size ≤ q) from Kept.below (Kept.refl _ _) (HBU.out.trans (hdb.mono HBU.out.size)))
            have BV := Aside0.mk (show Below 0 (w6) wv from (HBU.out.trans (hdb.mono HBU.out.size)).mono (Nat.zero_le _))
            have HLE := Aside0.mk (show (es).length ≤ 8 from by obtain ⟨ok1, ok2, t1, t2, d1, d2, gd, hB⟩ := H9.out; exact gd.len)
            clear hd hdb cg4
            generalize hm : (es).length = m at *
            have HM := Aside0.mk hm
            clear hm
            go_wp2_with fail
            go_loopw [142] (fun v142 wq3 => ∃ (k : Nat) (cur : List S55), v142 = .int .i64 (k : Int) ∧ Aside0 (k ≤ m) ∧ Aside0 (Kd.R k55 55 wq3 (w6).heap.size (fun _ => True) (.slice A3 m c3) cur) ∧ Aside0 (Kept (w6) wq3 (fun q => (w6).heap.size ≤ q)) ∧ Aside0 (Below 0 (w6) wq3)) (fun v142 _ => m - (intOf v142).toNat)
            case atStart => exact ⟨0, _, rfl, Aside0.mk (Nat.zero_le _), RV, KV, BV⟩
            case round =>
              obtain ⟨k, cur, rfl, HK, RR, KK, BB⟩ := hrel
              by_cases hkm : k < m
              · have e1 : decide ((k : Int) < (m : Int)) = true := decide_eq_true (by omega)
                have hk2 : (k : Int) < (m : Int) := by omega
                have hk0 : (0 : Int) ≤ (k : Int) := by omega
                obtain ⟨lb, hlb⟩ : ∃ lb, A3 = some ⟨lb, 0, none⟩ := by
                  obtain ⟨lb, cap, hv, _⟩ := Kd.R_form RR.out (by have := (Kd.R_reads' RR.out).1; omega)
                  injection hv with hv _ _
                  exact ⟨lb, hv⟩
                subst hlb
                have HLB := Aside0.mk (Kd.R_base RR.out lb rfl)
                have HKM := Aside0.mk hkm
                have hwk : wrap64 ((k : Int) + 1) = ((k + 1 : Nat) : Int) := by have := HLE.out; unfold wrap64; omega
                clear hkm
                go_wp2_with (first
                  | (refine gate_ (.store 55 (.tmp 148) (.tmp 147)) rfl ?_
                     refine R_store_list k55 (w6).heap.size rfl rfl 55 (.tmp 148) (.tmp 147) rfl 55 (g := lb) (n := m) (cap := c3) (o' := k * 4) (k : Int) cur ⟨0, 0, 0, ⟨#[]⟩⟩ (.agg #[.int .i64 0, .int .i64 0, .int .i64 0, .string ⟨#[]⟩]) [.int .i64 0, .int .i64 0, .int .i64 0, .string ⟨#[]⟩] (fun _ => True) (fun _ => False) rfl (by rw [Int.toNat_natCast]; rfl) rfl rfl (by rfl) (by intro q hq; simp at hq; rcases hq with rfl | rfl | rfl | rfl <;> rfl) RR.out hk0 hk2 rfl z55 (k55_mkM _ _ _ ⟨0, 0, 0, ⟨#[]⟩⟩) (fun _ h => h.elim) ?_
                     intro w9 hR9 hg9)
                  | fail)
                have R9 := Aside0.mk hR9
                have K9 := Aside0.mk (show Kept (w6) w9 (fun q => (w6).heap.size ≤ q) from ⟨Nat.le_trans KK.out.1 hg9.size, fun q hq hn => (hg9.block q (Nat.lt_of_lt_of_le hq KK.out.1) (fun he => by injection he with he; have := HLB.out; omega)).trans (KK.out.2 q hq hn)⟩)
                have B9 := Aside0.mk (BB.out.trans (show Below 0 _ w9 from ⟨hg9.os, hg9.tape, hg9.output, hg9.size, fun q hq => absurd hq (Nat.not_lt_zero _)⟩))
                clear hR9 hg9
                go_roundw
                case rel => exact ⟨k + 1, _, by first | rw [hwk] | rfl, Aside0.mk HKM.out, R9, K9, B9⟩
                case measure => have := HKM.out; first | (rw [hwk]; simp [intOf]; omega) | (simp [intOf]; omega)
              · have e1 : decide ((k : Int) < (m : Int)) = false := decide_eq_false (by omega)
                have hk2 : ¬ (k : Int) < (m : Int) := by omega
                have H10 := Aside0.mk (H9.out.keep KK.out BB.out)
                clear hkm
                go_wp2_with fail
                go_roundw
                case rel => exact ⟨i + 1, _, by first | rw [hwi] | rfl, Aside0.mk HIN.out, H10⟩
                case measure => have := HIN.out; first | (rw [hwi]; simp [intOf]; omega) | (simp [intOf]; omega)

          · have e1 : ((IntKind.u64.wrap y.f0).tmod 4 == 1) = false := by simpa using q1
            clear q1
            by_cases q2 : (IntKind.u64.wrap y.f0).tmod 4 = 2
            · have e2 : ((IntKind.u64.wrap y.f0).tmod 4 == 2) = true := by simpa using q2
              clear q2
              go_wp2_with fail
              refine regionZ (by kernel_rfl) (wr.alloc (Obj.cells #[.int .i64 y.f0, .int .i64 y.f1, .int .i64 y.f2, .int .i64 y.f3, .string y.f4] 51)) ok1 ok2 g1 g2 wr.heap.size es y _ (wr.alloc (Obj.cells #[.int .i64 y.f0, .int .i64 y.f1, .int .i64 y.f2, .int .i64 y.f3, .string y.f4] 51)) ?_ rfl rfl rfl rfl ?_
              · intro c
                have hd := HD.out
                match c with
                | 0 => exact ⟨HBOX.out.1, HBOX.out.2, fun h => by have := (hd.1 _ h).2.1; omega, fun h => by have := (hd.2.1 _ h).2; omega⟩
                | 1 => exact ⟨HT1.out.1, Below.refl _ _, fun k h => ⟨Nat.lt_of_lt_of_le (hd.1 k h).2.1 HSZ.out, (hd.1 k h).2.2⟩, fun k h => Nat.lt_of_lt_of_le (hd.2.1 k h).2 HSZ.out, hd.2.2⟩
                | 2 => exact ⟨HT1.out.2, fun k h => ⟨Nat.lt_of_lt_of_le (hd.1 k h).2.1 HSZ.out, (hd.1 k h).2.2⟩, fun k h => Nat.lt_of_lt_of_le (hd.2.1 k h).2 HSZ.out, hd.2.2⟩
                | c + 3 => exact True.intro
              · intro a2 w5 hAg h6 h7 hb0
                have h6' : (fun (v : Value) (w : World) => v = .bool (doneS es y.f1 y.f2 y.f3 y.f4).1 ∧ ∃ N, (wr.alloc (Obj.cells #[.int .i64 y.f0, .int .i64 y.f1, .int .i64 y.f2, .int .i64 y.f3, .string y.f4] 51)).heap.size ≤ N ∧ N ≤ w.heap.size ∧ TblS w (fun k => (ok1 k ∨ (wr.alloc (Obj.cells #[.int .i64 y.f0, .int .i64 y.f1, .int .i64 y.f2, .int .i64 y.f3, .string y.f4] 51)).heap.size ≤ k) ∧ k < N) g1 (doneS es y.f1 y.f2 y.f3 y.f4).2 ∧ TblX w (fun k => ok2 k ∨ N ≤ k) g2 (doneS es y.f1 y.f2 y.f3 y.f4).2 ∧ Kept (wr.alloc (Obj.cells #[.int .i64 y.f0, .int .i64 y.f1, .int .i64 y.f2, .int .i64 y.f3, .string y.f4] 51)) w (fun k => ok1 k ∨ ok2 k) ∧ Below 0 (wr.alloc (Obj.cells #[.int .i64 y.f0, .int .i64 y.f1, .int .i64 y.f2, .int .i64 y.f3, .string y.f4] 51)) w ∧ Good (doneS es y.f1 y.f2 y.f3 y.f4).2) (slotO dstZ a2 18) w5 := h6
                obtain ⟨hv, NN, m1, m2, u1, u2, u3, u4, u5⟩ := h6'
                have hd := HD.out
                have H9 := Aside0.mk (show St2 w w5 g1 g2 (doneS es y.f1 y.f2 y.f3 y.f4).2 from St2.both (fun k h => ⟨(hd.1 k h).1, Nat.lt_of_lt_of_le (hd.1 k h).2.1 HSZ.out, (hd.1 k h).2.2⟩) (fun k h => ⟨(hd.2.1 k h).1, Nat.lt_of_lt_of_le (hd.2.1 k h).2 HSZ.out⟩) HFIN.out m1 m2 u1 u2 u3 u4 u5)
                have h7' : slotO dstZ a2 19 = .bool false := h7
                clear h6 h7 hb0 hv NN m1 m2 u1 u2 u3 u4 u5 hd
                rw [hAg.frame hinZ]
                clear hAg
                simp only [List.range_succ, List.range_zero, List.nil_append, List.cons_append, foldO, dstZ, List.getD_cons_zero, List.getD_cons_succ, Act.put]
                generalize slotO dstZ a2 0 = y0
                generalize slotO dstZ a2 1 = y1
                generalize slotO dstZ a2 2 = y2
                generalize slotO dstZ a2 3 = y3
                generalize slotO dstZ a2 4 = y4
                generalize slotO dstZ a2 5 = y5
                generalize slotO dstZ a2 6 = y6
                generalize slotO dstZ a2 7 = y7
                generalize slotO dstZ a2 8 = y8
                generalize slotO dstZ a2 9 = y9
                generalize slotO dstZ a2 10 = y10
                generalize slotO dstZ a2 11 = y11
                generalize slotO dstZ a2 12 = y12
                generalize slotO dstZ a2 13 = y13
                generalize slotO dstZ a2 14 = y14
                generalize slotO dstZ a2 15 = y15
                generalize slotO dstZ a2 16 = y16
                generalize slotO dstZ a2 17 = y17
                generalize slotO dstZ a2 18 = y18
                generalize slotO dstZ a2 19 = y19 at *
                clear a2
                subst h7'
                go_simp
                generalize (doneS es y.f1 y.f2 y.f3 y.f4).2 = es9 at *
                -- the rows are the same
                have HRW := Aside0.mk (show Calls Try.prog 14 #[.pointer (some ⟨g1, 0, none⟩)] w5 (fun e w' => ∃ v, e = .returned v ∧ Kd.R k55 55 w' (w5).heap.size (fun _ => True) v es9 ∧ Below (w5).heap.size (w5) w') from by
                  obtain ⟨ok1, ok2, t1, t2, d1, d2, gd, hB⟩ := H9.out
                  exact rows_callsS t1 gd.len)
                go_wp2_with fail
                refine HRW.out.mono ?_
                clear HRW
                rintro _ wu ⟨v, rfl, hR, hbu⟩
                have HU := Aside0.mk (H9.out.below hbu)
                have HBU := Aside0.mk hbu
                have HRU := Aside0.mk hR
                obtain ⟨A3, c3, rfl⟩ := Kd.R_slice hR
                obtain ⟨A4, c4, cg4, HSM⟩ : ∃ A4 c4, wu.cell? ⟨g2, 0, none⟩ = some (.slice A4 (es9).length c4) ∧ Aside0 (Calls Try.prog 21 #[.slice A3 (es9).length c3, .slice A4 (es9).length c4] wu (fun e w' => e = .returned (.bool true) ∧ Drawn0 wu w')) := by
                  obtain ⟨ok1, ok2, t1, t2, d1, d2, gd, hB⟩ := HU.out
                  obtain ⟨A4, c4, cg, hc4, hC4⟩ := t2.cells
                  exact ⟨A4, c4, cg, Aside0.mk (calepinref13_Same.calls 9 A3 c3 (es9) A4 c4 (es9) true wu (Kd.R_reads' hR).2.2 (Kd.R_reads' hR).2.1 hC4 hc4 (same_self _ gd.len))⟩
                clear hR hbu
                go_wp2_with fail
                refine HSM.out.mono ?_
                clear HSM
                rintro _ wv ⟨rfl, hd⟩
                have hdb := hd.below
                have RV := Aside0.mk (Kd.R_below HRU.out hdb)
                have KV := Aside0.mk (show Kept (w5) wv (fun q => (w5).heap.size ≤ q) from Kept.below (Kept.refl _ _) (HBU.out.trans (hdb.mono HBU.out.size)))
                have BV := Aside0.mk (show Below 0 (w5) wv from (HBU.out.trans (hdb.mono HBU.out.size)).mono (Nat.zero_le _))
                have HLE := Aside0.mk (show (es9).length ≤ 8 from by obtain ⟨ok1, ok2, t1, t2, d1, d2, gd, hB⟩ := H9.out; exact gd.len)
                clear hd hdb cg4
                generalize hm : (es9).length = m at *
                have HM := Aside0.mk hm
                clear hm
                go_wp2_with fail
                go_loopw [142] (fun v142 wq3 => ∃ (k : Nat) (cur : List S55), v142 = .int .i64 (k : Int) ∧ Aside0 (k ≤ m) ∧ Aside0 (Kd.R k55 55 wq3 (w5).heap.size (fun _ => True) (.slice A3 m c3) cur) ∧ Aside0 (Kept (w5) wq3 (fun q => (w5).heap.size ≤ q)) ∧ Aside0 (Below 0 (w5) wq3)) (fun v142 _ => m - (intOf v142).toNat)
                case atStart => exact ⟨0, _, rfl, Aside0.mk (Nat.zero_le _), RV, KV, BV⟩
                case round =>
                  obtain ⟨k, cur, rfl, HK, RR, KK, BB⟩ := hrel
                  by_cases hkm : k < m
                  · have e1 : decide ((k : Int) < (m : Int)) = true := decide_eq_true (by omega)
                    have hk2 : (k : Int) < (m : Int) := by omega
                    have hk0 : (0 : Int) ≤ (k : Int) := by omega
                    obtain ⟨lb, hlb⟩ : ∃ lb, A3 = some ⟨lb, 0, none⟩ := by
                      obtain ⟨lb, cap, hv, _⟩ := Kd.R_form RR.out (by have := (Kd.R_reads' RR.out).1; omega)
                      injection hv with hv _ _
                      exact ⟨lb, hv⟩
                    subst hlb
                    have HLB := Aside0.mk (Kd.R_base RR.out lb rfl)
                    have HKM := Aside0.mk hkm
                    have hwk : wrap64 ((k : Int) + 1) = ((k + 1 : Nat) : Int) := by have := HLE.out; unfold wrap64; omega
                    clear hkm
                    go_wp2_with (first
                      | (refine gate_ (.store 55 (.tmp 148) (.tmp 147)) rfl ?_
                         refine R_store_list k55 (w5).heap.size rfl rfl 55 (.tmp 148) (.tmp 147) rfl 55 (g := lb) (n := m) (cap := c3) (o' := k * 4) (k : Int) cur ⟨0, 0, 0, ⟨#[]⟩⟩ (.agg #[.int .i64 0, .int .i64 0, .int .i64 0, .string ⟨#[]⟩]) [.int .i64 0, .int .i64 0, .int .i64 0, .string ⟨#[]⟩] (fun _ => True) (fun _ => False) rfl (by rw [Int.toNat_natCast]; rfl) rfl rfl (by rfl) (by intro q hq; simp at hq; rcases hq with rfl | rfl | rfl | rfl <;> rfl) RR.out hk0 hk2 rfl z55 (k55_mkM _ _ _ ⟨0, 0, 0, ⟨#[]⟩⟩) (fun _ h => h.elim) ?_
                         intro w9 hR9 hg9)
                      | fail)
                    have R9 := Aside0.mk hR9
                    have K9 := Aside0.mk (show Kept (w5) w9 (fun q => (w5).heap.size ≤ q) from ⟨Nat.le_trans KK.out.1 hg9.size, fun q hq hn => (hg9.block q (Nat.lt_of_lt_of_le hq KK.out.1) (fun he => by injection he with he; have := HLB.out; omega)).trans (KK.out.2 q hq hn)⟩)
                    have B9 := Aside0.mk (BB.out.trans (show Below 0 _ w9 from ⟨hg9.os, hg9.tape, hg9.output, hg9.size, fun q hq => absurd hq (Nat.not_lt_zero _)⟩))
                    clear hR9 hg9
                    go_roundw
                    case rel => exact ⟨k + 1, _, by first | rw [hwk] | rfl, Aside0.mk HKM.out, R9, K9, B9⟩
                    case measure => have := HKM.out; first | (rw [hwk]; simp [intOf]; omega) | (simp [intOf]; omega)
                  · have e1 : decide ((k : Int) < (m : Int)) = false := decide_eq_false (by omega)
                    have hk2 : ¬ (k : Int) < (m : Int) := by omega
                    have H10 := Aside0.mk (H9.out.keep KK.out BB.out)
                    clear hkm
                    go_wp2_with fail
                    go_roundw
                    case rel => exact ⟨i + 1, _, by first | rw [hwi] | rfl, Aside0.mk HIN.out, H10⟩
                    case measure => have := HIN.out; first | (rw [hwi]; simp [intOf]; omega) | (simp [intOf]; omega)

            · have e2 : ((IntKind.u64.wrap y.f0).tmod 4 == 2) = false := by simpa using q2
              clear q2
              have HRW0 := Aside0.mk (rows_callsS HT1.out.1 HD.out.2.2.len)
              obtain ⟨wA, hwA⟩ : ∃ wA, wA = wr.alloc (Obj.cells #[.int .i64 y.f0, .int .i64 y.f1, .int .i64 y.f2, .int .i64 y.f3, .string y.f4] 51) := ⟨_, rfl⟩
              rw [← hwA] at HX HFIN HBOX HT1 HSZ HRW0
              have HWA := Aside0.mk hwA
              clear hwA
              go_wp2_with fail
              rw [← HWA.out]
              refine HRW0.out.mono ?_
              clear HRW0
              rintro _ wu ⟨v, rfl, hR, hbu⟩
              have HBX9 := Aside0.mk ((hbu.block _ HBOX.out.2).trans HBOX.out.1)
              have p1 : wu.cell? ⟨wr.heap.size, 1, none⟩ = some (.int .i64 y.f1) := by have h := HBX9.out; simp [World.cell?, h]
              have p2 : wu.cell? ⟨wr.heap.size, 2, none⟩ = some (.int .i64 y.f2) := by have h := HBX9.out; simp [World.cell?, h]
              have p3 : wu.cell? ⟨wr.heap.size, 3, none⟩ = some (.int .i64 y.f3) := by have h := HBX9.out; simp [World.cell?, h]
              have p4 : wu.cell? ⟨wr.heap.size, 4, none⟩ = some (.string y.f4) := by have h := HBX9.out; simp [World.cell?, h]
              have RU := Aside0.mk hR
              have KU := Aside0.mk (show Kept wA wu (fun q => wA.heap.size ≤ q) from Kept.below (Kept.refl _ _) hbu)
              have BU := Aside0.mk (hbu.mono (Nat.zero_le _))
              obtain ⟨A5, c5, rfl⟩ := Kd.R_slice hR
              have hm8 := HD.out.2.2.len
              clear hR hbu
              generalize hm : es.length = m at *
              have HM := Aside0.mk hm
              have HM8 := Aside0.mk hm8
              clear hm hm8
              rcases Nat.eq_zero_or_pos m with hz | hz
              · have z1 : decide ((m : Int) > 0) = false := decide_eq_false (by omega)
                have z2 : decide (0 < m) = false := decide_eq_false (by omega)
                obtain ⟨ws, hws⟩ : ∃ ws, ws = wu := ⟨_, rfl⟩
                obtain ⟨l9, hl9⟩ : ∃ l9, l9 = es := ⟨_, rfl⟩
                rw [← hws] at RU KU BU p1 p2 p3 p4 ⊢
                have RS := Aside0.mk (show Kd.R k55 55 ws wA.heap.size (fun _ => True) (.slice A5 m c5) l9 by rw [hl9]; exact RU.out)
                have KS := KU
                have BS := BU
                have HL9 := Aside0.mk (show l9.length = m by rw [hl9]; exact HM.out)
                clear hz hws hl9 p1 p2 p3 p4
                -- both are set
                obtain ⟨NA, hNA⟩ : ∃ NA, NA = wA.heap.size := ⟨_, rfl⟩
                obtain ⟨NS, hNS⟩ : ∃ NS, NS = ws.heap.size := ⟨_, rfl⟩
                have hd := HD.out
                have t1s : TblS ws ok1 g1 es := HT1.out.1.kept KS.out (fun k h => by have := (hd.1 k h).2.1; have := HSZ.out; omega)
                have t2s : TblX ws ok2 g2 es := HT1.out.2.kept KS.out (fun k h => by have := (hd.2.1 k h).2; have := HSZ.out; omega)
                have hAN : A5 = none → l9.length = 0 ∧ c5 = 0 := by
                  intro hA
                  obtain ⟨_, inner, ho, _⟩ := RS.out
                  rcases ho.2 with ⟨hv, hn⟩ | ⟨g', cap', cur, hv, _⟩
                  · injection hv with _ h2 h3
                    have := HL9.out
                    exact ⟨by omega, h3⟩
                  · injection hv with h1 _ _
                    rw [hA] at h1; cases h1
                have hset := set_calls t1s A5 c5 l9 (Kd.R_reads' RS.out).2.2 hAN
                rw [HL9.out] at hset
                have HSET := Aside0.mk hset
                have T2S := Aside0.mk t2s
                have HAN := Aside0.mk hAN
                have RSB := Aside0.mk (Kd.R_mono (Kd.R_bound RS.out) (ok' := fun q => NA ≤ q ∧ q < NS) (fun q hq => ⟨by rw [hNA]; exact hq.2.1, by rw [hNS]; exact hq.2.2.1⟩))
                have HNA := Aside0.mk (And.intro hNA hNS)
                have HNN := Aside0.mk (show NA ≤ NS by rw [hNA, hNS]; exact KS.out.1)
                have DD := Aside0.mk (show (∀ k, ok1 k → w.heap.size ≤ k ∧ k < NA ∧ ¬ ok2 k) ∧ (∀ k, ok2 k → w.heap.size ≤ k ∧ k < NA) from ⟨fun k h => ⟨(hd.1 k h).1, by have := (hd.1 k h).2.1; have := HSZ.out; omega, (hd.1 k h).2.2⟩, fun k h => ⟨(hd.2.1 k h).1, by have := (hd.2.1 k h).2; have := HSZ.out; omega⟩⟩)
                have GD := Aside0.mk hd.2.2
                have HBS := Aside0.mk (show Below w.heap.size w ws from HFIN.out.trans ⟨BS.out.os, BS.out.tape, BS.out.output, BS.out.size, fun q hq => KS.out.2 q (Nat.lt_of_lt_of_le hq HFIN.out.size) (fun h => by have := HFIN.out.size; omega)⟩)
                clear hd t1s t2s hAN hset hNA hNS
                go_wp2_with fail
                refine HSET.out.mono ?_
                clear HSET
                rintro _ wa ⟨rfl, hTa, hKa, hBa⟩
                have hws : NS = ws.heap.size := HNA.out.2
                have t2a : TblX wa ok2 g2 es := T2S.out.kept hKa (fun k h h1 => (DD.out.1 k h1).2.2 h)
                have RA := Aside0.mk (Kd.R_kept (Kd.R_lower RSB.out (Nat.zero_le _)) hKa (fun q hq h1 => by have := (DD.out.1 q h1).2.1; omega))
                have hrset := rset_calls t2a A5 c5 l9 (Kd.R_reads' RA.out).2.2 HAN.out
                rw [HL9.out] at hrset
                have HRSET := Aside0.mk hrset
                have TA := Aside0.mk (TblS.bound hTa)
                have KA := Aside0.mk hKa
                have BA := Aside0.mk hBa
                obtain ⟨NB, hNB⟩ : ∃ NB, NB = wa.heap.size := ⟨_, rfl⟩
                have HNB := Aside0.mk hNB
                clear hTa hKa hBa t2a hrset hws hNB
                go_wp2_with fail
                refine HRSET.out.mono ?_
                clear HRSET
                rintro _ wb ⟨rfl, hTb, hKb, hBb⟩
                have hws : NS = ws.heap.size := HNA.out.2
                have hwa : NB = wa.heap.size := HNB.out
                have TB1 := Aside0.mk (show TblS wb (fun k => (ok1 k ∨ NS ≤ k) ∧ k < NB) g1 (if setOK l9 = true then l9 else es) from (TA.out.mono (ok' := fun k => (ok1 k ∨ NS ≤ k) ∧ k < NB) (fun k hk => ⟨by rw [hws]; exact hk.1, by rw [hwa]; exact hk.2⟩)).kept hKb (fun k hk h2 => by
                  rcases hk.1 with h | h
                  · exact (DD.out.1 k h).2.2 h2
                  · have := (DD.out.2 k h2).2; have := HNN.out; omega))
                have TB2 := Aside0.mk (show TblX wb (fun k => ok2 k ∨ NB ≤ k) g2 (if setOK l9 = true then l9 else es) from hTb.mono (fun k hk => by rw [hwa]; exact hk))
                have RB := Aside0.mk (Kd.R_kept RA.out hKb (fun q hq h2 => by have := (DD.out.2 q h2).2; omega))
                have HBB := Aside0.mk (show Below w.heap.size w wb from HBS.out.trans (show Below w.heap.size ws wb from ⟨hBb.os.trans BA.out.os, hBb.tape.trans BA.out.tape, hBb.output.trans BA.out.output, Nat.le_trans KA.out.1 hKb.1, fun q hq => (hKb.2 q (Nat.lt_of_lt_of_le (Nat.lt_of_lt_of_le hq HBS.out.size) KA.out.1) (fun h => by have := (DD.out.2 q h).1; omega)).trans (KA.out.2 q (Nat.lt_of_lt_of_le hq HBS.out.size) (fun h => by have := (DD.out.1 q h).1; omega))⟩))
                have SZB := Aside0.mk (show NS ≤ NB ∧ NB ≤ wb.heap.size by rw [hws, hwa]; exact ⟨KA.out.1, hKb.1⟩)
                have GD9 := Aside0.mk (show Good (if setOK l9 = true then l9 else es) by
                  by_cases h : setOK l9 = true
                  · rw [if_pos h]; exact Good.set_ h
                  · rw [if_neg h]; exact GD.out)
                clear hTb hKb hBb hws hwa
                generalize (if setOK l9 = true then l9 else es) = es9 at *
                generalize setOK l9 = sk at *
                have VB := Aside0.mk (Below.refl wb.heap.size wb)
                have KB0 := Aside0.mk (Kept.refl wb (fun q => NA ≤ q ∧ q < NS))
                have BB0 := Aside0.mk (Below.refl 0 wb)
                go_wp2_with fail
                go_loopw [65] (fun v65 wq => ∃ (k : Nat) (cur : List S55), v65 = .int .i64 (k : Int) ∧ Aside0 (k ≤ m) ∧ Aside0 (Kd.R k55 55 wq 0 (fun q => NA ≤ q ∧ q < NS) (.slice A5 m c5) cur) ∧ Aside0 (Kept wb wq (fun q => NA ≤ q ∧ q < NS)) ∧ Aside0 (Below 0 wb wq)) (fun v65 _ => m - (intOf v65).toNat)
                case atStart => exact ⟨0, _, rfl, Aside0.mk (Nat.zero_le _), RB, KB0, BB0⟩
                case round =>
                  rename World => wq
                  obtain ⟨k, cur, rfl, HK, RR, KK, BB⟩ := hrel
                  by_cases hkm : k < m
                  · have e1' : decide ((k : Int) < (m : Int)) = true := decide_eq_true (by omega)
                    have hk2 : (k : Int) < (m : Int) := by omega
                    have hk0 : (0 : Int) ≤ (k : Int) := by omega
                    obtain ⟨lb, hlb⟩ : ∃ lb, A5 = some ⟨lb, 0, none⟩ := by
                      obtain ⟨lb, cap, hv, _⟩ := Kd.R_form RR.out (by have := (Kd.R_reads' RR.out).1; omega)
                      injection hv with hv _ _
                      exact ⟨lb, hv⟩
                    subst hlb
                    have HLB := Aside0.mk (show NA ≤ lb ∧ lb < NS from RR.out.1 lb rfl)
                    have HKM := Aside0.mk hkm
                    have hwk : wrap64 ((k : Int) + 1) = ((k + 1 : Nat) : Int) := by have := HM8.out; unfold wrap64; omega
                    clear hkm
                    go_wp2_with (first
                      | (refine gate_ (.store 3 (.tmp 71) (.const (.int .i64 99))) rfl ?_
                         refine R_field rfl rfl 3 (.tmp 71) (.const (.int .i64 99)) rfl (g := lb) (n := m) (cap := c5) k 0 cur (rd_T55 cur (k : Int)) ⟨99, (rd_T55 cur (k : Int)).f1, (rd_T55 cur (k : Int)).f2, (rd_T55 cur (k : Int)).f3⟩ (.int .i64 99) _ rfl rfl rfl (by rfl) rfl (by decide) RR.out HKM.out rfl rfl ?_
                         intro w9 hR9 hg9)
                      | fail)
                    have R9 := Aside0.mk hR9
                    have K9 := Aside0.mk (Kept.of_grown hg9 KK.out (fun q hq => by injection hq with hq; subst hq; exact .inl HLB.out))
                    have B9 := Aside0.mk (BB.out.trans (show Below 0 wq w9 from ⟨hg9.os, hg9.tape, hg9.output, hg9.size, fun q hq => absurd hq (Nat.not_lt_zero _)⟩))
                    clear hR9 hg9
                    go_roundw
                    case rel => exact ⟨k + 1, _, by first | rw [hwk] | rfl, Aside0.mk HKM.out, R9, K9, B9⟩
                    case measure => have := HKM.out; first | (rw [hwk]; simp [intOf]; omega) | (simp [intOf]; omega)
                  · have e1' : decide ((k : Int) < (m : Int)) = false := decide_eq_false (by omega)
                    have hk2 : ¬ (k : Int) < (m : Int) := by omega
                    have H9 := Aside0.mk (show St2 w wq g1 g2 es9 from St2.both' (W := ws) (N := NB) (ok1 := ok1) (ok2 := ok2) (fun k h => ⟨(DD.out.1 k h).1, by have := (DD.out.1 k h).2.1; have := HNN.out; have := HNA.out.2; omega, (DD.out.1 k h).2.2⟩) (fun k h => ⟨(DD.out.2 k h).1, by have := (DD.out.2 k h).2; have := HNN.out; have := HNA.out.2; omega⟩) HBS.out (by have := SZB.out; have := HNA.out.2; omega) (Nat.le_trans SZB.out.2 KK.out.1)
                      ((TB1.out.kept KK.out (fun k hk hq => by
                        rcases hk.1 with h | h
                        · have := (DD.out.1 k h).2.1; omega
                        · omega)).mono (fun k hk => ⟨by rw [← HNA.out.2]; exact hk.1, hk.2⟩))
                      (TB2.out.kept KK.out (fun k hk hq => by
                        rcases hk with h | h
                        · have := (DD.out.2 k h).2; omega
                        · have := SZB.out; omega))
                      (HBB.out.trans (show Below w.heap.size wb wq from ⟨BB.out.os, BB.out.tape, BB.out.output, BB.out.size, fun q hq => KK.out.2 q (Nat.lt_of_lt_of_le hq HBB.out.size) (fun h => by have := HFIN.out.size; have := HNA.out.1; omega)⟩)) GD9.out)
                    clear hkm
                    -- the rows are the same
                    have HRW := Aside0.mk (show Calls Try.prog 14 #[.pointer (some ⟨g1, 0, none⟩)] wq (fun e w' => ∃ v, e = .returned v ∧ Kd.R k55 55 w' (wq).heap.size (fun _ => True) v es9 ∧ Below (wq).heap.size (wq) w') from by
                      obtain ⟨ok1, ok2, t1, t2, d1, d2, gd, hB⟩ := H9.out
                      exact rows_callsS t1 gd.len)
                    go_wp2_with fail
                    refine HRW.out.mono ?_
                    clear HRW
                    rintro _ wu ⟨v, rfl, hR, hbu⟩
                    have HU := Aside0.mk (H9.out.below hbu)
                    have HBU := Aside0.mk hbu
                    have HRU := Aside0.mk hR
                    obtain ⟨A3, c3, rfl⟩ := Kd.R_slice hR
                    obtain ⟨A4, c4, cg4, HSM⟩ : ∃ A4 c4, wu.cell? ⟨g2, 0, none⟩ = some (.slice A4 (es9).length c4) ∧ Aside0 (Calls Try.prog 21 #[.slice A3 (es9).length c3, .slice A4 (es9).length c4] wu (fun e w' => e = .returned (.bool true) ∧ Drawn0 wu w')) := by
                      obtain ⟨ok1, ok2, t1, t2, d1, d2, gd, hB⟩ := HU.out
                      obtain ⟨A4, c4, cg, hc4, hC4⟩ := t2.cells
                      exact ⟨A4, c4, cg, Aside0.mk (calepinref13_Same.calls 9 A3 c3 (es9) A4 c4 (es9) true wu (Kd.R_reads' hR).2.2 (Kd.R_reads' hR).2.1 hC4 hc4 (same_self _ gd.len))⟩
                    clear hR hbu
                    go_wp2_with fail
                    refine HSM.out.mono ?_
                    clear HSM
                    rintro _ wv ⟨rfl, hd⟩
                    have hdb := hd.below
                    have RV := Aside0.mk (Kd.R_below HRU.out hdb)
                    have KV := Aside0.mk (show Kept (wq) wv (fun q => (wq).heap.size ≤ q) from Kept.below (Kept.refl _ _) (HBU.out.trans (hdb.mono HBU.out.size)))
                    have BV := Aside0.mk (show Below 0 (wq) wv from (HBU.out.trans (hdb.mono HBU.out.size)).mono (Nat.zero_le _))
                    have HLE := Aside0.mk (show (es9).length ≤ 8 from by obtain ⟨ok1, ok2, t1, t2, d1, d2, gd, hB⟩ := H9.out; exact gd.len)
                    clear hd hdb cg4
                    generalize hm : (es9).length = m at *
                    have HM := Aside0.mk hm
                    clear hm
                    go_wp2_with fail
                    go_loopw [142] (fun v142 wq3 => ∃ (k : Nat) (cur : List S55), v142 = .int .i64 (k : Int) ∧ Aside0 (k ≤ m) ∧ Aside0 (Kd.R k55 55 wq3 (wq).heap.size (fun _ => True) (.slice A3 m c3) cur) ∧ Aside0 (Kept (wq) wq3 (fun q => (wq).heap.size ≤ q)) ∧ Aside0 (Below 0 (wq) wq3)) (fun v142 _ => m - (intOf v142).toNat)
                    case atStart => exact ⟨0, _, rfl, Aside0.mk (Nat.zero_le _), RV, KV, BV⟩
                    case round =>
                      obtain ⟨k, cur, rfl, HK, RR, KK, BB⟩ := hrel
                      by_cases hkm : k < m
                      · have e1 : decide ((k : Int) < (m : Int)) = true := decide_eq_true (by omega)
                        have hk2 : (k : Int) < (m : Int) := by omega
                        have hk0 : (0 : Int) ≤ (k : Int) := by omega
                        obtain ⟨lb, hlb⟩ : ∃ lb, A3 = some ⟨lb, 0, none⟩ := by
                          obtain ⟨lb, cap, hv, _⟩ := Kd.R_form RR.out (by have := (Kd.R_reads' RR.out).1; omega)
                          injection hv with hv _ _
                          exact ⟨lb, hv⟩
                        subst hlb
                        have HLB := Aside0.mk (Kd.R_base RR.out lb rfl)
                        have HKM := Aside0.mk hkm
                        have hwk : wrap64 ((k : Int) + 1) = ((k + 1 : Nat) : Int) := by have := HLE.out; unfold wrap64; omega
                        clear hkm
                        go_wp2_with (first
                          | (refine gate_ (.store 55 (.tmp 148) (.tmp 147)) rfl ?_
                             refine R_store_list k55 (wq).heap.size rfl rfl 55 (.tmp 148) (.tmp 147) rfl 55 (g := lb) (n := m) (cap := c3) (o' := k * 4) (k : Int) cur ⟨0, 0, 0, ⟨#[]⟩⟩ (.agg #[.int .i64 0, .int .i64 0, .int .i64 0, .string ⟨#[]⟩]) [.int .i64 0, .int .i64 0, .int .i64 0, .string ⟨#[]⟩] (fun _ => True) (fun _ => False) rfl (by rw [Int.toNat_natCast]; rfl) rfl rfl (by rfl) (by intro q hq; simp at hq; rcases hq with rfl | rfl | rfl | rfl <;> rfl) RR.out hk0 hk2 rfl z55 (k55_mkM _ _ _ ⟨0, 0, 0, ⟨#[]⟩⟩) (fun _ h => h.elim) ?_
                             intro w9 hR9 hg9)
                          | fail)
                        have R9 := Aside0.mk hR9
                        have K9 := Aside0.mk (show Kept (wq) w9 (fun q => (wq).heap.size ≤ q) from ⟨Nat.le_trans KK.out.1 hg9.size, fun q hq hn => (hg9.block q (Nat.lt_of_lt_of_le hq KK.out.1) (fun he => by injection he with he; have := HLB.out; omega)).trans (KK.out.2 q hq hn)⟩)
                        have B9 := Aside0.mk (BB.out.trans (show Below 0 _ w9 from ⟨hg9.os, hg9.tape, hg9.output, hg9.size, fun q hq => absurd hq (Nat.not_lt_zero _)⟩))
                        clear hR9 hg9
                        go_roundw
                        case rel => exact ⟨k + 1, _, by first | rw [hwk] | rfl, Aside0.mk HKM.out, R9, K9, B9⟩
                        case measure => have := HKM.out; first | (rw [hwk]; simp [intOf]; omega) | (simp [intOf]; omega)
                      · have e1 : decide ((k : Int) < (m : Int)) = false := decide_eq_false (by omega)
                        have hk2 : ¬ (k : Int) < (m : Int) := by omega
                        have H10 := Aside0.mk (H9.out.keep KK.out BB.out)
                        clear hkm
                        go_wp2_with fail
                        go_roundw
                        case rel => exact ⟨i + 1, _, by first | rw [hwi] | rfl, Aside0.mk HIN.out, H10⟩
                        case measure => have := HIN.out; first | (rw [hwi]; simp [intOf]; omega) | (simp [intOf]; omega)

              · have z1 : decide ((m : Int) > 0) = true := decide_eq_true (by omega)
                have z2 : decide (0 < m) = true := decide_eq_true (by omega)
                obtain ⟨lb, hlb⟩ : ∃ lb, A5 = some ⟨lb, 0, none⟩ := by
                  obtain ⟨lb, cap, hv, _⟩ := Kd.R_form RU.out (by rw [HM.out]; exact hz)
                  injection hv with hv _ _
                  exact ⟨lb, hv⟩
                subst hlb
                have hum : IntKind.u64.wrap (m : Int) = (m : Int) := by have := HM8.out; simp [IntKind.wrap, IntKind.signed, IntKind.bits]; omega
                obtain ⟨kk, hkk, hkm⟩ : ∃ kk : Nat, wrap64 ((IntKind.u64.wrap y.f1).tmod (m : Int)) = (kk : Int) ∧ kk < m := by
                  have h0 : 0 ≤ IntKind.u64.wrap y.f1 := by rw [show IntKind.u64.wrap y.f1 = y.f1 % 18446744073709551616 by simp [IntKind.wrap, IntKind.signed, IntKind.bits]]; omega
                  have h1 : (IntKind.u64.wrap y.f1).tmod (m : Int) = (IntKind.u64.wrap y.f1) % (m : Int) := Int.tmod_eq_emod_of_nonneg h0
                  have h2 : 0 ≤ (IntKind.u64.wrap y.f1) % (m : Int) := Int.emod_nonneg _ (by omega)
                  have h3 : (IntKind.u64.wrap y.f1) % (m : Int) < (m : Int) := Int.emod_lt_of_pos _ (by omega)
                  refine ⟨((IntKind.u64.wrap y.f1) % (m : Int)).toNat, ?_, by omega⟩
                  rw [h1]
                  have := HM8.out
                  unfold wrap64; omega
                have hm0 : ((m : Int) == 0) = false := by rw [beq_eq_false_iff_ne]; omega
                have hm1 : ¬ m = 0 := by omega
                have kk0 : (0 : Int) ≤ (kk : Int) := by omega
                have kk1 : (kk : Int) < (m : Int) := by omega
                have HKK := Aside0.mk hkm
                clear hz hkm
                go_wp2_with (first
                  | (refine gate_ (.store 55 (.tmp 56) (.tmp 55)) rfl ?_
                     refine R_store_list k55 wA.heap.size rfl rfl 55 (.tmp 56) (.tmp 55) rfl 55 (g := lb) (n := m) (cap := c5) (o' := kk * 4) (kk : Int) es ⟨y.f1, y.f2, y.f3, y.f4⟩ (.agg #[.int .i64 y.f1, .int .i64 y.f2, .int .i64 y.f3, .string y.f4]) [.int .i64 y.f1, .int .i64 y.f2, .int .i64 y.f3, .string y.f4] (fun _ => True) (fun _ => False) rfl (by rw [Int.toNat_natCast]; rfl) rfl rfl (by rfl) (by intro q hq; simp at hq; rcases hq with rfl | rfl | rfl | rfl <;> rfl) RU.out kk0 kk1 rfl z55 (k55_mkM _ _ _ ⟨y.f1, y.f2, y.f3, y.f4⟩) (fun _ h => h.elim) ?_
                     intro ws hRs hgs
                     have RS := Aside0.mk hRs
                     have HLBB := Aside0.mk (Kd.R_base RU.out lb rfl)
                     have KS := Aside0.mk (show Kept wA ws (fun q => wA.heap.size ≤ q) from ⟨Nat.le_trans KU.out.1 hgs.size, fun q hq hn => (hgs.block q (Nat.lt_of_lt_of_le hq KU.out.1) (fun he => by injection he with he; have := HLBB.out; omega)).trans (KU.out.2 q hq hn)⟩)
                     have BS := Aside0.mk (BU.out.trans (show Below 0 wu ws from ⟨hgs.os, hgs.tape, hgs.output, hgs.size, fun q hq => absurd hq (Nat.not_lt_zero _)⟩))
                     obtain ⟨l9, hl9⟩ : ∃ l9, l9 = es.set (kk : Int).toNat ⟨y.f1, y.f2, y.f3, y.f4⟩ := ⟨_, rfl⟩
                     rw [← hl9] at RS
                     have HL9 := Aside0.mk (show l9.length = m by rw [hl9, List.length_set]; exact HM.out)
                     clear hRs hgs hl9 p1 p2 p3 p4)
                  | fail)
                clear RU HKK kk0 kk1 hkk hm0 hm1 hum KU BU
                generalize (some ⟨lb, 0, none⟩ : Option Addr) = A5 at RS ⊢
                -- both are set
                obtain ⟨NA, hNA⟩ : ∃ NA, NA = wA.heap.size := ⟨_, rfl⟩
                obtain ⟨NS, hNS⟩ : ∃ NS, NS = ws.heap.size := ⟨_, rfl⟩
                have hd := HD.out
                have t1s : TblS ws ok1 g1 es := HT1.out.1.kept KS.out (fun k h => by have := (hd.1 k h).2.1; have := HSZ.out; omega)
                have t2s : TblX ws ok2 g2 es := HT1.out.2.kept KS.out (fun k h => by have := (hd.2.1 k h).2; have := HSZ.out; omega)
                have hAN : A5 = none → l9.length = 0 ∧ c5 = 0 := by
                  intro hA
                  obtain ⟨_, inner, ho, _⟩ := RS.out
                  rcases ho.2 with ⟨hv, hn⟩ | ⟨g', cap', cur, hv, _⟩
                  · injection hv with _ h2 h3
                    have := HL9.out
                    exact ⟨by omega, h3⟩
                  · injection hv with h1 _ _
                    rw [hA] at h1; cases h1
                have hset := set_calls t1s A5 c5 l9 (Kd.R_reads' RS.out).2.2 hAN
                rw [HL9.out] at hset
                have HSET := Aside0.mk hset
                have T2S := Aside0.mk t2s
                have HAN := Aside0.mk hAN
                have RSB := Aside0.mk (Kd.R_mono (Kd.R_bound RS.out) (ok' := fun q => NA ≤ q ∧ q < NS) (fun q hq => ⟨by rw [hNA]; exact hq.2.1, by rw [hNS]; exact hq.2.2.1⟩))
                have HNA := Aside0.mk (And.intro hNA hNS)
                have HNN := Aside0.mk (show NA ≤ NS by rw [hNA, hNS]; exact KS.out.1)
                have DD := Aside0.mk (show (∀ k, ok1 k → w.heap.size ≤ k ∧ k < NA ∧ ¬ ok2 k) ∧ (∀ k, ok2 k → w.heap.size ≤ k ∧ k < NA) from ⟨fun k h => ⟨(hd.1 k h).1, by have := (hd.1 k h).2.1; have := HSZ.out; omega, (hd.1 k h).2.2⟩, fun k h => ⟨(hd.2.1 k h).1, by have := (hd.2.1 k h).2; have := HSZ.out; omega⟩⟩)
                have GD := Aside0.mk hd.2.2
                have HBS := Aside0.mk (show Below w.heap.size w ws from HFIN.out.trans ⟨BS.out.os, BS.out.tape, BS.out.output, BS.out.size, fun q hq => KS.out.2 q (Nat.lt_of_lt_of_le hq HFIN.out.size) (fun h => by have := HFIN.out.size; omega)⟩)
                clear hd t1s t2s hAN hset hNA hNS
                go_wp2_with fail
                refine HSET.out.mono ?_
                clear HSET
                rintro _ wa ⟨rfl, hTa, hKa, hBa⟩
                have hws : NS = ws.heap.size := HNA.out.2
                have t2a : TblX wa ok2 g2 es := T2S.out.kept hKa (fun k h h1 => (DD.out.1 k h1).2.2 h)
                have RA := Aside0.mk (Kd.R_kept (Kd.R_lower RSB.out (Nat.zero_le _)) hKa (fun q hq h1 => by have := (DD.out.1 q h1).2.1; omega))
                have hrset := rset_calls t2a A5 c5 l9 (Kd.R_reads' RA.out).2.2 HAN.out
                rw [HL9.out] at hrset
                have HRSET := Aside0.mk hrset
                have TA := Aside0.mk (TblS.bound hTa)
                have KA := Aside0.mk hKa
                have BA := Aside0.mk hBa
                obtain ⟨NB, hNB⟩ : ∃ NB, NB = wa.heap.size := ⟨_, rfl⟩
                have HNB := Aside0.mk hNB
                clear hTa hKa hBa t2a hrset hws hNB
                go_wp2_with fail
                refine HRSET.out.mono ?_
                clear HRSET
                rintro _ wb ⟨rfl, hTb, hKb, hBb⟩
                have hws : NS = ws.heap.size := HNA.out.2
                have hwa : NB = wa.heap.size := HNB.out
                have TB1 := Aside0.mk (show TblS wb (fun k => (ok1 k ∨ NS ≤ k) ∧ k < NB) g1 (if setOK l9 = true then l9 else es) from (TA.out.mono (ok' := fun k => (ok1 k ∨ NS ≤ k) ∧ k < NB) (fun k hk => ⟨by rw [hws]; exact hk.1, by rw [hwa]; exact hk.2⟩)).kept hKb (fun k hk h2 => by
                  rcases hk.1 with h | h
                  · exact (DD.out.1 k h).2.2 h2
                  · have := (DD.out.2 k h2).2; have := HNN.out; omega))
                have TB2 := Aside0.mk (show TblX wb (fun k => ok2 k ∨ NB ≤ k) g2 (if setOK l9 = true then l9 else es) from hTb.mono (fun k hk => by rw [hwa]; exact hk))
                have RB := Aside0.mk (Kd.R_kept RA.out hKb (fun q hq h2 => by have := (DD.out.2 q h2).2; omega))
                have HBB := Aside0.mk (show Below w.heap.size w wb from HBS.out.trans (show Below w.heap.size ws wb from ⟨hBb.os.trans BA.out.os, hBb.tape.trans BA.out.tape, hBb.output.trans BA.out.output, Nat.le_trans KA.out.1 hKb.1, fun q hq => (hKb.2 q (Nat.lt_of_lt_of_le (Nat.lt_of_lt_of_le hq HBS.out.size) KA.out.1) (fun h => by have := (DD.out.2 q h).1; omega)).trans (KA.out.2 q (Nat.lt_of_lt_of_le hq HBS.out.size) (fun h => by have := (DD.out.1 q h).1; omega))⟩))
                have SZB := Aside0.mk (show NS ≤ NB ∧ NB ≤ wb.heap.size by rw [hws, hwa]; exact ⟨KA.out.1, hKb.1⟩)
                have GD9 := Aside0.mk (show Good (if setOK l9 = true then l9 else es) by
                  by_cases h : setOK l9 = true
                  · rw [if_pos h]; exact Good.set_ h
                  · rw [if_neg h]; exact GD.out)
                clear hTb hKb hBb hws hwa
                generalize (if setOK l9 = true then l9 else es) = es9 at *
                generalize setOK l9 = sk at *
                have VB := Aside0.mk (Below.refl wb.heap.size wb)
                have KB0 := Aside0.mk (Kept.refl wb (fun q => NA ≤ q ∧ q < NS))
                have BB0 := Aside0.mk (Below.refl 0 wb)
                go_wp2_with fail
                go_loopw [65] (fun v65 wq => ∃ (k : Nat) (cur : List S55), v65 = .int .i64 (k : Int) ∧ Aside0 (k ≤ m) ∧ Aside0 (Kd.R k55 55 wq 0 (fun q => NA ≤ q ∧ q < NS) (.slice A5 m c5) cur) ∧ Aside0 (Kept wb wq (fun q => NA ≤ q ∧ q < NS)) ∧ Aside0 (Below 0 wb wq)) (fun v65 _ => m - (intOf v65).toNat)
                case atStart => exact ⟨0, _, rfl, Aside0.mk (Nat.zero_le _), RB, KB0, BB0⟩
                case round =>
                  rename World => wq
                  obtain ⟨k, cur, rfl, HK, RR, KK, BB⟩ := hrel
                  by_cases hkm : k < m
                  · have e1' : decide ((k : Int) < (m : Int)) = true := decide_eq_true (by omega)
                    have hk2 : (k : Int) < (m : Int) := by omega
                    have hk0 : (0 : Int) ≤ (k : Int) := by omega
                    obtain ⟨lb, hlb⟩ : ∃ lb, A5 = some ⟨lb, 0, none⟩ := by
                      obtain ⟨lb, cap, hv, _⟩ := Kd.R_form RR.out (by have := (Kd.R_reads' RR.out).1; omega)
                      injection hv with hv _ _
                      exact ⟨lb, hv⟩
                    subst hlb
                    have HLB := Aside0.mk (show NA ≤ lb ∧ lb < NS from RR.out.1 lb rfl)
                    have HKM := Aside0.mk hkm
                    have hwk : wrap64 ((k : Int) + 1) = ((k + 1 : Nat) : Int) := by have := HM8.out; unfold wrap64; omega
                    clear hkm
                    go_wp2_with (first
                      | (refine gate_ (.store 3 (.tmp 71) (.const (.int .i64 99))) rfl ?_
                         refine R_field rfl rfl 3 (.tmp 71) (.const (.int .i64 99)) rfl (g := lb) (n := m) (cap := c5) k 0 cur (rd_T55 cur (k : Int)) ⟨99, (rd_T55 cur (k : Int)).f1, (rd_T55 cur (k : Int)).f2, (rd_T55 cur (k : Int)).f3⟩ (.int .i64 99) _ rfl rfl rfl (by rfl) rfl (by decide) RR.out HKM.out rfl rfl ?_
                         intro w9 hR9 hg9)
                      | fail)
                    have R9 := Aside0.mk hR9
                    have K9 := Aside0.mk (Kept.of_grown hg9 KK.out (fun q hq => by injection hq with hq; subst hq; exact .inl HLB.out))
                    have B9 := Aside0.mk (BB.out.trans (show Below 0 wq w9 from ⟨hg9.os, hg9.tape, hg9.output, hg9.size, fun q hq => absurd hq (Nat.not_lt_zero _)⟩))
                    clear hR9 hg9
                    go_roundw
                    case rel => exact ⟨k + 1, _, by first | rw [hwk] | rfl, Aside0.mk HKM.out, R9, K9, B9⟩
                    case measure => have := HKM.out; first | (rw [hwk]; simp [intOf]; omega) | (simp [intOf]; omega)
                  · have e1' : decide ((k : Int) < (m : Int)) = false := decide_eq_false (by omega)
                    have hk2 : ¬ (k : Int) < (m : Int) := by omega
                    have H9 := Aside0.mk (show St2 w wq g1 g2 es9 from St2.both' (W := ws) (N := NB) (ok1 := ok1) (ok2 := ok2) (fun k h => ⟨(DD.out.1 k h).1, by have := (DD.out.1 k h).2.1; have := HNN.out; have := HNA.out.2; omega, (DD.out.1 k h).2.2⟩) (fun k h => ⟨(DD.out.2 k h).1, by have := (DD.out.2 k h).2; have := HNN.out; have := HNA.out.2; omega⟩) HBS.out (by have := SZB.out; have := HNA.out.2; omega) (Nat.le_trans SZB.out.2 KK.out.1)
                      ((TB1.out.kept KK.out (fun k hk hq => by
                        rcases hk.1 with h | h
                        · have := (DD.out.1 k h).2.1; omega
                        · omega)).mono (fun k hk => ⟨by rw [← HNA.out.2]; exact hk.1, hk.2⟩))
                      (TB2.out.kept KK.out (fun k hk hq => by
                        rcases hk with h | h
                        · have := (DD.out.2 k h).2; omega
                        · have := SZB.out; omega))
                      (HBB.out.trans (show Below w.heap.size wb wq from ⟨BB.out.os, BB.out.tape, BB.out.output, BB.out.size, fun q hq => KK.out.2 q (Nat.lt_of_lt_of_le hq HBB.out.size) (fun h => by have := HFIN.out.size; have := HNA.out.1; omega)⟩)) GD9.out)
                    clear hkm
                    -- the rows are the same
                    have HRW := Aside0.mk (show Calls Try.prog 14 #[.pointer (some ⟨g1, 0, none⟩)] wq (fun e w' => ∃ v, e = .returned v ∧ Kd.R k55 55 w' (wq).heap.size (fun _ => True) v es9 ∧ Below (wq).heap.size (wq) w') from by
                      obtain ⟨ok1, ok2, t1, t2, d1, d2, gd, hB⟩ := H9.out
                      exact rows_callsS t1 gd.len)
                    go_wp2_with fail
                    refine HRW.out.mono ?_
                    clear HRW
                    rintro _ wu ⟨v, rfl, hR, hbu⟩
                    have HU := Aside0.mk (H9.out.below hbu)
                    have HBU := Aside0.mk hbu
                    have HRU := Aside0.mk hR
                    obtain ⟨A3, c3, rfl⟩ := Kd.R_slice hR
                    obtain ⟨A4, c4, cg4, HSM⟩ : ∃ A4 c4, wu.cell? ⟨g2, 0, none⟩ = some (.slice A4 (es9).length c4) ∧ Aside0 (Calls Try.prog 21 #[.slice A3 (es9).length c3, .slice A4 (es9).length c4] wu (fun e w' => e = .returned (.bool true) ∧ Drawn0 wu w')) := by
                      obtain ⟨ok1, ok2, t1, t2, d1, d2, gd, hB⟩ := HU.out
                      obtain ⟨A4, c4, cg, hc4, hC4⟩ := t2.cells
                      exact ⟨A4, c4, cg, Aside0.mk (calepinref13_Same.calls 9 A3 c3 (es9) A4 c4 (es9) true wu (Kd.R_reads' hR).2.2 (Kd.R_reads' hR).2.1 hC4 hc4 (same_self _ gd.len))⟩
                    clear hR hbu
                    go_wp2_with fail
                    refine HSM.out.mono ?_
                    clear HSM
                    rintro _ wv ⟨rfl, hd⟩
                    have hdb := hd.below
                    have RV := Aside0.mk (Kd.R_below HRU.out hdb)
                    have KV := Aside0.mk (show Kept (wq) wv (fun q => (wq).heap.size ≤ q) from Kept.below (Kept.refl _ _) (HBU.out.trans (hdb.mono HBU.out.size)))
                    have BV := Aside0.mk (show Below 0 (wq) wv from (HBU.out.trans (hdb.mono HBU.out.size)).mono (Nat.zero_le _))
                    have HLE := Aside0.mk (show (es9).length ≤ 8 from by obtain ⟨ok1, ok2, t1, t2, d1, d2, gd, hB⟩ := H9.out; exact gd.len)
                    clear hd hdb cg4
                    generalize hm : (es9).length = m at *
                    have HM := Aside0.mk hm
                    clear hm
                    go_wp2_with fail
                    go_loopw [142] (fun v142 wq3 => ∃ (k : Nat) (cur : List S55), v142 = .int .i64 (k : Int) ∧ Aside0 (k ≤ m) ∧ Aside0 (Kd.R k55 55 wq3 (wq).heap.size (fun _ => True) (.slice A3 m c3) cur) ∧ Aside0 (Kept (wq) wq3 (fun q => (wq).heap.size ≤ q)) ∧ Aside0 (Below 0 (wq) wq3)) (fun v142 _ => m - (intOf v142).toNat)
                    case atStart => exact ⟨0, _, rfl, Aside0.mk (Nat.zero_le _), RV, KV, BV⟩
                    case round =>
                      obtain ⟨k, cur, rfl, HK, RR, KK, BB⟩ := hrel
                      by_cases hkm : k < m
                      · have e1 : decide ((k : Int) < (m : Int)) = true := decide_eq_true (by omega)
                        have hk2 : (k : Int) < (m : Int) := by omega
                        have hk0 : (0 : Int) ≤ (k : Int) := by omega
                        obtain ⟨lb, hlb⟩ : ∃ lb, A3 = some ⟨lb, 0, none⟩ := by
                          obtain ⟨lb, cap, hv, _⟩ := Kd.R_form RR.out (by have := (Kd.R_reads' RR.out).1; omega)
                          injection hv with hv _ _
                          exact ⟨lb, hv⟩
                        subst hlb
                        have HLB := Aside0.mk (Kd.R_base RR.out lb rfl)
                        have HKM := Aside0.mk hkm
                        have hwk : wrap64 ((k : Int) + 1) = ((k + 1 : Nat) : Int) := by have := HLE.out; unfold wrap64; omega
                        clear hkm
                        go_wp2_with (first
                          | (refine gate_ (.store 55 (.tmp 148) (.tmp 147)) rfl ?_
                             refine R_store_list k55 (wq).heap.size rfl rfl 55 (.tmp 148) (.tmp 147) rfl 55 (g := lb) (n := m) (cap := c3) (o' := k * 4) (k : Int) cur ⟨0, 0, 0, ⟨#[]⟩⟩ (.agg #[.int .i64 0, .int .i64 0, .int .i64 0, .string ⟨#[]⟩]) [.int .i64 0, .int .i64 0, .int .i64 0, .string ⟨#[]⟩] (fun _ => True) (fun _ => False) rfl (by rw [Int.toNat_natCast]; rfl) rfl rfl (by rfl) (by intro q hq; simp at hq; rcases hq with rfl | rfl | rfl | rfl <;> rfl) RR.out hk0 hk2 rfl z55 (k55_mkM _ _ _ ⟨0, 0, 0, ⟨#[]⟩⟩) (fun _ h => h.elim) ?_
                             intro w9 hR9 hg9)
                          | fail)
                        have R9 := Aside0.mk hR9
                        have K9 := Aside0.mk (show Kept (wq) w9 (fun q => (wq).heap.size ≤ q) from ⟨Nat.le_trans KK.out.1 hg9.size, fun q hq hn => (hg9.block q (Nat.lt_of_lt_of_le hq KK.out.1) (fun he => by injection he with he; have := HLB.out; omega)).trans (KK.out.2 q hq hn)⟩)
                        have B9 := Aside0.mk (BB.out.trans (show Below 0 _ w9 from ⟨hg9.os, hg9.tape, hg9.output, hg9.size, fun q hq => absurd hq (Nat.not_lt_zero _)⟩))
                        clear hR9 hg9
                        go_roundw
                        case rel => exact ⟨k + 1, _, by first | rw [hwk] | rfl, Aside0.mk HKM.out, R9, K9, B9⟩
                        case measure => have := HKM.out; first | (rw [hwk]; simp [intOf]; omega) | (simp [intOf]; omega)
                      · have e1 : decide ((k : Int) < (m : Int)) = false := decide_eq_false (by omega)
                        have hk2 : ¬ (k : Int) < (m : Int) := by omega
                        have H10 := Aside0.mk (H9.out.keep KK.out BB.out)
                        clear hkm
                        go_wp2_with fail
                        go_roundw
                        case rel => exact ⟨i + 1, _, by first | rw [hwi] | rfl, Aside0.mk HIN.out, H10⟩
                        case measure => have := HIN.out; first | (rw [hwi]; simp [intOf]; omega) | (simp [intOf]; omega)
    · have d1 : decide ((i : Int) < (n : Int)) = false := decide_eq_false (by omega)
      have hin2 : ¬ (i : Int) < (n : Int) := by omega
      have hBW : Below w.heap.size w wr := by
        obtain ⟨ok1, ok2, t1, t2, d1, d2, gd, hB⟩ := HT.out
        exact hB
      have HFIN := Aside0.mk hBW
      clear hBW
      go_wp2_with fail
      go_ret
      exact ⟨rfl, HFIN.out⟩

end Go.Proofs.Ytahkokbfghifhaa.PS
