/- SessionRoom: the walk. -/
import Derived.Test.YtahkokbfghifhaaRoomL
import Derived.Test.YtahkokbfghifhaaFirst
import Derived.Test.YtahkokbfghifhaaProg
import Derived.Below
import Derived.Deep.Draws
import Derived.Deep.AppendLies
import Derived.Maps.AppendAt
import Derived.OwnWalk
import Derived.Laws.BytesArg
import Derived.Laws.MakeOwn
import Derived.Laws.OwnMore
import Derived.Deep.OwnRows
import Derived.Tactics
import Derived.Lib.ConvBytes
import Derived.Laws.Slices
import Derived.WalkKit
import Derived.KernelRfl
import Derived.RowKit3
import Derived.Deep.LoopGhost
import Derived.Deep.QuietTactic
import Derived.BigQuiet
import Derived.WideLaws
import Derived.Deep.DeepCutAuto
import Derived.Deep.CutBlock
import Derived.Deep.RegionHeld3
import Derived.Laws.Rows
import Derived.Lib.AppendStr
import Derived.ArgAppend
import Derived.Laws.IdiomCopy
import Derived.OrdersHeld
import Derived.Laws.BitsLemmas
import Derived.RowKit
import Derived.Test.YtahkokbfghifhaaWWords
import Derived.Test.YtahkokbfghifhaaWLast
import Derived.Test.YtahkokbfghifhaaWTab
import Derived.Test.YtahkokbfghifhaaWFour
import Derived.Test.YtahkokbfghifhaaWQPut
import Derived.Test.YtahkokbfghifhaaWApart
import Derived.Test.YtahkokbfghifhaaWArr
import Derived.Test.YtahkokbfghifhaaWZeros
import Derived.Test.YtahkokbfghifhaaWFoot
import Derived.Test.YtahkokbfghifhaaWKept
import Derived.Test.YtahkokbfghifhaaWShare
import Derived.Test.YtahkokbfghifhaaWN
import Derived.Test.YtahkokbfghifhaaWFootNe
import Derived.Test.YtahkokbfghifhaaWAt
import Derived.Test.YtahkokbfghifhaaWEqStruct
import Derived.Test.YtahkokbfghifhaaWRepsOne
import Derived.Test.YtahkokbfghifhaaWInv
import Derived.Test.YtahkokbfghifhaaWInvWords
import Derived.Test.YtahkokbfghifhaaWGuard
import Derived.Test.YtahkokbfghifhaaWNEv
import Derived.Test.YtahkokbfghifhaaWMore
namespace Go.Proofs.Ytahkokbfghifhaa.PS
open Go.RowKit Go.Proofs.YtahkokbfghifhaaW.PrintWords Go.Proofs.YtahkokbfghifhaaW.PrintLast Go.Proofs.YtahkokbfghifhaaW.PrintMore
set_option linter.unusedVariables false
set_option linter.unusedSimpArgs false
set_option maxHeartbeats 4000000
set_option maxRecDepth 100000

theorem array_set {w : World} {b : Nat} {l : List Int} {t : TypeId} (h : w.heap[b]? = some (.cells (l.map (Value.int .i64)).toArray t (0, 0))) (k : Nat) (x : Int) : (w.setCell ⟨b, k, none⟩ (.int .i64 x)).heap[b]? = some (.cells ((l.set k x).map (Value.int .i64)).toArray t (0, 0)) := by
  simp only [World.setCell, Array.getElem?_modify, if_true, h]
  simp [List.map_set]
theorem array_cell {w : World} {b : Nat} {l : List Int} {t : TypeId} (h : w.heap[b]? = some (.cells (l.map (Value.int .i64)).toArray t (0, 0))) (k : Nat) (hk : k < l.length) : w.cell? ⟨b, k, none⟩ = some (.int .i64 (l.getD k 0)) := by
  simp [World.cell?, h, hk]
theorem array_frozen {w : World} {b : Nat} {l : List Int} {t : TypeId} (h : w.heap[b]? = some (.cells (l.map (Value.int .i64)).toArray t (0, 0))) (k : Nat) : w.frozen? ⟨b, k, none⟩ = false := by
  simp [World.frozen?, h]
theorem room_law (A : Option Addr) (ca : Nat) (ts : List Int) (w : World) (hA : Kd.C (Kd.int .i64) w A ts.length ts) (hwf : ∀ n ∈ ts, (Lit.int .i64 n).wf = true) :
    Calls Try.prog 4 #[.slice A ts.length ca] w fun e w' => e = .returned (.bool true) ∧ Below w.heap.size w w' := by
  have HA := Aside0.mk hA
  have HN := Aside0.mk (Kd.C_max hA)
  clear hA hwf
  go_enter Try.func4, Try.ntmps4
  go_wp2_with fail
  refine (first_calls w).mono ?_
  rintro _ w1 ⟨rfl, hb⟩
  have hst := StS.made w w1 hb
  obtain ⟨w2, hw2⟩ : ∃ w2, w2 = w1.alloc (Obj.cells #[Value.slice none 0 0] 36) := ⟨_, rfl⟩
  obtain ⟨g, hg⟩ : ∃ g, g = w1.heap.size := ⟨_, rfl⟩
  have H2 := Aside0.mk (show StS w w2 g (firsts 0) by rw [hw2, hg]; exact hst)
  have HW := Aside0.mk hw2
  have HG := Aside0.mk hg
  clear hst hw2 hg hb
  go_wp2_with fail
  rw [← HW.out, ← HG.out]
  clear HW HG
  generalize hL : ts.length = n at *
  have HLN := Aside0.mk hL
  clear hL
  -- eight are opened
  go_loopw [4, 16] (fun v4 v16 wr => ∃ (i : Nat), v4 = .int .i64 (i : Int) ∧ v16 = .int .i64 (i : Int) ∧ Aside0 (i ≤ 8) ∧ Aside0 (StS w wr g (firsts i))) (fun _ v16 _ => 8 - (intOf v16).toNat)
  case atStart => exact ⟨0, rfl, rfl, Aside0.mk (by decide), H2⟩
  case round =>
    obtain ⟨i, rfl, rfl, HI, HT⟩ := hrel
    by_cases hi : i < 8
    · have d1 : decide ((i : Int) < 8) = true := decide_eq_true (by omega)
      have hwi : wrap64 ((i : Int) + 1) = ((i + 1 : Nat) : Int) := by unfold wrap64; omega
      have hop := open_callsS HT.out.1 ((i : Int) + 1) (by simp [firsts]; omega)
      rw [firsts_open i hi, show ((i : Int) + 1) = ((i + 1 : Nat) : Int) from rfl] at hop
      have HOP := Aside0.mk hop
      have HII := Aside0.mk hi
      clear hop hi
      go_wp2_with fail
      refine HOP.out.mono ?_
      rintro _ w5 ⟨rfl, hl, hk, hb⟩
      have H5 := Aside0.mk (HT.out.next hl hk hb)
      clear hl hk hb HT HOP
      go_wp2_with fail
      go_roundw
      case rel => exact ⟨i + 1, by first | rfl | rw [hwi], by first | rw [hwi] | rfl, Aside0.mk HII.out, H5⟩
      case measure => have := HII.out; first | (rw [hwi]; simp [intOf]; omega) | (simp [intOf]; omega)
    · have d1 : decide ((i : Int) < 8) = false := decide_eq_false (by omega)
      have hi8 : i = 8 := by have := HI.out; omega
      subst hi8
      go_wp2_with fail
      obtain ⟨lb, hlb⟩ : ∃ lb, lb = wr.heap.size := ⟨_, rfl⟩
      have hnew := heap_alloc_new wr (Obj.cells (([0, 1, 2, 3, 4, 5, 6, 7, 8] : List Int).map (Value.int .i64)).toArray 37)
      have hbb := below_alloc (Below.refl wr.heap.size wr) (Obj.cells (([0, 1, 2, 3, 4, 5, 6, 7, 8] : List Int).map (Value.int .i64)).toArray 37)
      have T3 := Aside0.mk (show TblS (wr.alloc (Obj.cells (([0, 1, 2, 3, 4, 5, 6, 7, 8] : List Int).map (Value.int .i64)).toArray 37)) (fun k => w.heap.size ≤ k ∧ k ≠ lb) g (firsts 8) from ((TblS.bound HT.out.1).mono (fun k hk => ⟨hk.1, by have := hk.2; omega⟩)).below hbb)
      have B3 := Aside0.mk (below_over HT.out.2 hbb)
      rw [← hlb] at hnew
      have L3 := Aside0.mk hnew
      have R3 := Aside0.mk firsts_R8
      have HLB := Aside0.mk (show w.heap.size ≤ lb from hlb ▸ HT.out.2.size)
      rw [← hlb]
      clear hnew hbb HT HI hlb d1 hi
      rw [show (((8 : Nat) : Int)) = 8 from rfl]
      rw [show (Obj.cells #[Value.int .i64 0, .int .i64 1, .int .i64 2, .int .i64 3, .int .i64 4, .int .i64 5, .int .i64 6, .int .i64 7, .int .i64 8] 37) = Obj.cells (([0, 1, 2, 3, 4, 5, 6, 7, 8] : List Int).map (Value.int .i64)).toArray 37 from rfl]
      generalize wr.alloc (Obj.cells (([0, 1, 2, 3, 4, 5, 6, 7, 8] : List Int).map (Value.int .i64)).toArray 37) = w3 at *
      -- the uses
      go_loopw [4, 26] (fun v4 v26 wr => ∃ (i now : Nat) (es : List S55) (la : List Int), v4 = .int .i64 (now : Int) ∧ v26 = .int .i64 (i : Int) ∧ Aside0 (i ≤ n ∧ 8 ≤ now ∧ now ≤ 8 + i ∧ now ≤ 48) ∧ Aside0 (TblS wr (fun k => w.heap.size ≤ k ∧ k ≠ lb) g es) ∧ Aside0 (R8 es la now) ∧ Aside0 (wr.heap[lb]? = some (.cells (la.map (Value.int .i64)).toArray 37 (0, 0))) ∧ Aside0 (Below w.heap.size w wr)) (fun _ v26 _ => n - (intOf v26).toNat)
      case atStart => exact ⟨0, 8, _, _, rfl, rfl, Aside0.mk ⟨Nat.zero_le _, by decide, by decide, by decide⟩, T3, R3, L3, B3⟩
      case round =>
        obtain ⟨i, now, es, la, rfl, rfl, HI, HT, HR, HA9, HB⟩ := hrel
        by_cases hin : i < n
        · have d1 : decide ((i : Int) < (n : Int)) = true := decide_eq_true (by omega)
          have hC2 := Kd.C_below HA.out HB.out
          obtain ⟨ad, rfl, hcell⟩ := Kd.at_int hC2 (i : Int) (by omega) (by omega)
          rw [Int.toNat_natCast] at hcell
          generalize rd ts (i : Int) = x at hcell
          have hin2 : (i : Int) < (n : Int) := by omega
          have hi0 : (0 : Int) ≤ (i : Int) := by omega
          have HIN := Aside0.mk hin
          have hwi : wrap64 ((i : Int) + 1) = ((i + 1 : Nat) : Int) := by have := HN.out; unfold wrap64; omega
          clear hC2
          by_cases h40 : i < 40
          · have d2 : decide ((i : Int) < 40) = true := decide_eq_true (by omega)
            have h40' : (i : Int) < 40 := by omega
            have hwn : wrap64 ((now : Int) + 1) = ((now + 1 : Nat) : Int) := by have := HI.out; unfold wrap64; omega
            obtain ⟨k, hk, hk1, hk8⟩ : ∃ k : Nat, wrap64 (1 + wrap64 ((IntKind.u64.wrap x).tmod 8)) = (k : Int) ∧ 1 ≤ k ∧ k ≤ 8 := by
              have h0 : 0 ≤ IntKind.u64.wrap x := by rw [show IntKind.u64.wrap x = x % 18446744073709551616 by simp [IntKind.wrap, IntKind.signed, IntKind.bits]]; omega
              have h1 : (IntKind.u64.wrap x).tmod 8 = (IntKind.u64.wrap x) % 8 := Int.tmod_eq_emod_of_nonneg h0
              refine ⟨(1 + (IntKind.u64.wrap x) % 8).toNat, ?_, by omega, by omega⟩
              rw [h1]
              unfold wrap64; omega
            obtain ⟨hd1, hd2⟩ := HR.out.done k hk1 hk8
            have hdn := done_callsS HT.out k ((now : Int) + 1) ((now : Int) + 1) ByteArray.empty
            rw [hd1, show ((now : Int) + 1) = ((now + 1 : Nat) : Int) from rfl] at hdn
            rw [show ((now : Int) + 1) = ((now + 1 : Nat) : Int) from rfl] at hd2
            have HR2 := Aside0.mk hd2
            have HDN := Aside0.mk hdn
            have HK := Aside0.mk (And.intro hk1 hk8)
            have HLL := Aside0.mk HR.out.lla
            clear hd1 hd2 hdn hk1 hk8 h40
            go_wp2_with fail
            refine HDN.out.mono ?_
            clear HDN
            rintro _ w6 ⟨rfl, hl, hkk, hb⟩
            have T6 := Aside0.mk (show TblS w6 (fun k => w.heap.size ≤ k ∧ k ≠ lb) g (es.set (k - 1) ⟨k, ((now + 1 : Nat) : Int), ((now + 1 : Nat) : Int), ByteArray.empty⟩) from hl.mono (fun q hq => by
              rcases hq with h | h
              · exact h
              · have h9 : lb < wr.heap.size := (Array.getElem?_eq_some_iff.1 HA9.out).1
                have := HB.out.size; omega))
            have A6 := Aside0.mk ((hkk.2 lb (Array.getElem?_eq_some_iff.1 HA9.out).1 (fun h => h.2 rfl)).trans HA9.out)
            have B6 := Aside0.mk (below_kept HB.out hkk hb (fun q hq => hq.1))
            have hc9 := array_cell A6.out k (by rw [HLL.out]; have := HK.out; omega)
            have hf9 := array_frozen A6.out k
            have hk0 : (0 : Int) ≤ (k : Int) := by omega
            have hk9 : (k : Int) < 9 := by have := HK.out; omega
            clear hl hkk hb HT HA9 HB
            go_wp2_with fail
            have T7 := Aside0.mk (T6.out.step (w' := w6.setCell ⟨lb, k, none⟩ (.int .i64 ((now + 1 : Nat) : Int))) (fun q hq _ => Below.heap_setCell w6 ⟨lb, k, none⟩ _ q (by show q ≠ lb; exact hq.2)))
            have A7 := Aside0.mk (array_set A6.out k ((now + 1 : Nat) : Int))
            have B7 := Aside0.mk (Below.setCell B6.out (p := ⟨lb, k, none⟩) HLB.out (.int .i64 ((now + 1 : Nat) : Int)))
            go_roundw
            case rel => exact ⟨i + 1, now + 1, _, _, rfl, by first | rw [hwi] | rfl, Aside0.mk (by have := HI.out; have := HIN.out; omega), T7, HR2, A7, B7⟩
            case measure => have := HIN.out; first | (rw [hwi]; simp [intOf]; omega) | (simp [intOf]; omega)
          · have d2 : decide ((i : Int) < 40) = false := decide_eq_false (by omega)
            have h40' : ¬ (i : Int) < 40 := by omega
            clear h40
            go_wp2_with fail
            go_roundw
            case rel => exact ⟨i + 1, now, es, la, rfl, by first | rw [hwi] | rfl, Aside0.mk (by have := HI.out; have := HIN.out; omega), HT, HR, HA9, HB⟩
            case measure => have := HIN.out; first | (rw [hwi]; simp [intOf]; omega) | (simp [intOf]; omega)
        · have d1 : decide ((i : Int) < (n : Int)) = false := decide_eq_false (by omega)
          have hin2 : ¬ (i : Int) < (n : Int) := by omega
          have hwn : wrap64 ((now : Int) + 1) = (now : Int) + 1 := by have := HI.out; unfold wrap64; omega
          have hop := open_callsS HT.out ((now : Int) + 1) (by rw [HR.out.len]; exact Nat.le_refl _)
          rw [HR.out.opened (by have := HI.out; omega)] at hop
          have HOP := Aside0.mk hop
          clear hop
          go_wp2_with fail
          refine HOP.out.mono ?_
          clear HOP
          rintro _ w5 ⟨rfl, hl, hkk, hb⟩
          have T5 := Aside0.mk (show TblS w5 (fun k => w.heap.size ≤ k ∧ k ≠ lb) g (after es ((now : Int) + 1)) from hl.mono (fun q hq => by
            rcases hq with h | h
            · exact h
            · have h9 : lb < wr.heap.size := (Array.getElem?_eq_some_iff.1 HA9.out).1
              have := HB.out.size; omega))
          have A5 := Aside0.mk ((hkk.2 lb (Array.getElem?_eq_some_iff.1 HA9.out).1 (fun h => h.2 rfl)).trans HA9.out)
          have B5 := Aside0.mk (below_kept HB.out hkk hb (fun q hq => hq.1))
          have HLL := Aside0.mk HR.out.lla
          have V5 := Aside0.mk (Below.refl w5.heap.size w5)
          clear hl hkk hb HT HA9 HB
          go_wp2_with fail
          -- which was used the longest ago
          go_loopw [9, 10] (fun v9 v10 wq => ∃ (le k : Nat), v9 = .int .i64 (le : Int) ∧ v10 = .int .i64 (k : Int) ∧ Aside0 (1 ≤ le ∧ le < k ∧ k ≤ 9 ∧ (∀ j, 1 ≤ j → j < k → la.getD le 0 ≤ la.getD j 0) ∧ (∀ j, 1 ≤ j → j < le → la.getD le 0 < la.getD j 0)) ∧ Aside0 (Below w5.heap.size w5 wq)) (fun _ v10 _ => 9 - (intOf v10).toNat)
          case atStart =>
            have h9 : ∀ j, 1 ≤ j → j < 2 → la.getD 1 0 ≤ la.getD j 0 := fun j h1 h2 => by
              have : j = 1 := by omega
              subst this
              exact Int.le_refl _
            exact ⟨1, 2, rfl, rfl, Aside0.mk ⟨Nat.le_refl _, by decide, by decide, h9, fun j h1 h2 => by omega⟩, V5⟩
          case round =>
            obtain ⟨le, k, rfl, rfl, HK, HB⟩ := hrel
            by_cases hk : k < 9
            · have d2 : decide ((k : Int) < 9) = true := decide_eq_true (by omega)
              have hk9 : (k : Int) < 9 := by omega
              have hk0 : (0 : Int) ≤ (k : Int) := by omega
              have hl9 : (le : Int) < 9 := by have := HK.out.2.1; omega
              have hl0 : (0 : Int) ≤ (le : Int) := by omega
              have hA := (HB.out.block lb (Array.getElem?_eq_some_iff.1 A5.out).1).trans A5.out
              have c1 := array_cell hA k (by rw [HLL.out]; omega)
              have c2 := array_cell hA le (by rw [HLL.out]; have := HK.out; omega)
              have hwk : wrap64 ((k : Int) + 1) = ((k + 1 : Nat) : Int) := by unfold wrap64; omega
              have HKK := Aside0.mk hk
              generalize hx : la.getD k 0 = x at c1
              generalize hy : la.getD le 0 = y at c2
              have HX := Aside0.mk (And.intro hx hy)
              clear hA hx hy
              by_cases hxy : x < y
              · have d3 : decide (x < y) = true := decide_eq_true hxy
                have HXY := Aside0.mk hxy
                clear hk
                go_wp2_with fail
                go_quiet (fail)
                go_wp2_with fail
                go_roundw
                case rel => exact ⟨k, k + 1, rfl, by first | rfl | rw [hwk], Aside0.mk ⟨by have := HK.out; omega, by omega, by have := HKK.out; omega, fun j h1 h2 => by
                  have hx := HX.out.1; have hy := HX.out.2; have := HXY.out
                  rw [hx]
                  by_cases e : j = k
                  · subst e; rw [hx]; exact Int.le_refl _
                  · have := HK.out.2.2.2.1 j h1 (by omega); rw [hy] at this; omega, fun j h1 h2 => by
                  have hx := HX.out.1; have hy := HX.out.2; have := HXY.out
                  have := HK.out.2.2.2.1 j h1 h2; rw [hy] at this; rw [hx]; omega⟩, Aside0.mk (pw_below_drewN HB.out _)⟩
                case measure => have := HKK.out; first | (rw [hwk]; simp [intOf]; omega) | (simp [intOf]; omega)
              · have d3 : decide (x < y) = false := decide_eq_false hxy
                have HXY := Aside0.mk hxy
                clear hk
                go_wp2_with fail
                go_quiet (fail)
                go_wp2_with fail
                go_roundw
                case rel => exact ⟨le, k + 1, rfl, by first | rfl | rw [hwk], Aside0.mk ⟨HK.out.1, by have := HK.out; omega, by have := HKK.out; omega, fun j h1 h2 => by
                  have hx := HX.out.1; have hy := HX.out.2; have := HXY.out
                  by_cases e : j = k
                  · subst e; rw [hx, hy]; omega
                  · exact HK.out.2.2.2.1 j h1 (by omega), HK.out.2.2.2.2⟩, Aside0.mk (pw_below_drewN HB.out _)⟩
                case measure => have := HKK.out; first | (rw [hwk]; simp [intOf]; omega) | (simp [intOf]; omega)
            · have d2 : decide ((k : Int) < 9) = false := decide_eq_false (by omega)
              have hk9 : ¬ (k : Int) < 9 := by omega
              have hke : k = 9 := by have := HK.out; omega
              subst hke
              have hle := HR.out.least le HK.out.1 (by have := HK.out; omega) (fun j h1 h2 => HK.out.2.2.2.1 j h1 (by omega)) HK.out.2.2.2.2
              have HLE := Aside0.mk hle
              have hlen := HR.out.after_len ((now : Int) + 1)
              have hask := fun j h1 h2 => HR.out.ask (by have := HI.out; omega) j h1 h2 1099511627776
              rw [hle] at hask
              have HASK := Aside0.mk hask
              have HLEN := Aside0.mk hlen
              generalize after es ((now : Int) + 1) = es' at *
              clear hle hlen hask hk
              go_wp2_with fail
              go_loopw [11] (fun v11 wq2 => ∃ (j : Nat), v11 = .int .i64 (j : Int) ∧ Aside0 (1 ≤ j ∧ j ≤ 9) ∧ Aside0 (Below w5.heap.size w5 wq2)) (fun v11 _ => 9 - (intOf v11).toNat)
              case atStart => exact ⟨1, rfl, Aside0.mk (by decide), HB⟩
              case round =>
                obtain ⟨j, rfl, HJ, HB2⟩ := hrel
                by_cases hj : j < 9
                · have d4 : decide ((j : Int) < 9) = true := decide_eq_true (by omega)
                  have hj9 : (j : Int) < 9 := by omega
                  have hwj : wrap64 ((j : Int) + 1) = ((j + 1 : Nat) : Int) := by unfold wrap64; omega
                  have hc := ask_callsS (T5.out.below HB2.out) (j : Int) 1099511627776
                  have hv := HASK.out j HJ.out.1 (by omega)
                  generalize askS es' (j : Int) 1099511627776 = q at hc hv
                  obtain ⟨q1, q2⟩ := q
                  simp only [] at hc hv
                  have HC := Aside0.mk hc
                  have HJJ := Aside0.mk hj
                  clear hc hj
                  by_cases hjl : (j : Int) = (le : Int)
                  · rw [decide_eq_true hjl] at hv
                    have hjl2 : j = le := by omega
                    clear hjl
                    subst hjl2
                    go_wp2_with fail
                    refine HC.out.mono ?_
                    rintro _ w7 ⟨rfl, hb⟩
                    have B7 := Aside0.mk (HB2.out.trans (hb.mono HB2.out.size))
                    clear hb
                    go_wp2_with fail
                    go_roundw
                    case rel => exact ⟨j + 1, by first | rw [hwj] | rfl, Aside0.mk (by have := HJ.out; have := HJJ.out; omega), B7⟩
                    case measure => have := HJJ.out; first | (rw [hwj]; simp [intOf]; omega) | (simp [intOf]; omega)
                  · have e1 : ((j : Int) == (le : Int)) = false := by simpa using hjl
                    rw [decide_eq_false hjl] at hv
                    clear hjl
                    go_wp2_with fail
                    refine HC.out.mono ?_
                    rintro _ w7 ⟨rfl, hb⟩
                    have B7 := Aside0.mk (HB2.out.trans (hb.mono HB2.out.size))
                    clear hb
                    go_wp2_with fail
                    go_roundw
                    case rel => exact ⟨j + 1, by first | rw [hwj] | rfl, Aside0.mk (by have := HJ.out; have := HJJ.out; omega), B7⟩
                    case measure => have := HJJ.out; first | (rw [hwj]; simp [intOf]; omega) | (simp [intOf]; omega)
                · have d4 : decide ((j : Int) < 9) = false := decide_eq_false (by omega)
                  have hj9 : ¬ (j : Int) < 9 := by omega
                  have hr := rows_callsS (T5.out.below HB2.out) (by have := HLEN.out; omega)
                  have HRW := Aside0.mk hr
                  have FIN := Aside0.mk (below_over B5.out HB2.out)
                  have e8 : ((es'.length : Int) == 8) = true := by rw [HLEN.out]; rfl
                  clear hr hj
                  go_wp2_with fail
                  refine HRW.out.mono ?_
                  rintro _ w7 ⟨v, rfl, hR, hb⟩
                  obtain ⟨A2, c2, rfl, -, -⟩ := Kd.R_reads hR
                  have FIN2 := Aside0.mk (below_over FIN.out hb)
                  clear hR hb
                  go_wp2_with fail
                  go_ret
                  exact ⟨rfl, FIN2.out⟩

end Go.Proofs.Ytahkokbfghifhaa.PS
