/- The document's table: Open. -/
import Derived.Test.YtahkokbfghifhaaRDone
import Derived.Test.YtahkokbfghifhaaRoomL
import Derived.Test.YtahkokbfghifhaaProg
import Derived.Below
import Derived.Deep.Draws
import Derived.Deep.AppendLies
import Derived.Maps.AppendAt
import Derived.OwnWalk
import Derived.Laws.BytesArg
import Derived.Laws.MakeOwn
import Derived.Laws.OwnMore
import Derived.Deep.OwnRows
import Derived.Tactics
import Derived.Lib.ConvBytes
import Derived.Laws.Slices
import Derived.WalkKit
import Derived.KernelRfl
import Derived.RowKit3
import Derived.Deep.LoopGhost
import Derived.Deep.QuietTactic
import Derived.BigQuiet
import Derived.WideLaws
import Derived.Deep.DeepCutAuto
import Derived.Deep.CutBlock
import Derived.Deep.RegionHeld3
import Derived.Laws.Rows
import Derived.Lib.AppendStr
import Derived.ArgAppend
import Derived.Laws.IdiomCopy
import Derived.OrdersHeld
import Derived.Laws.BitsLemmas
import Derived.RowKit
import Derived.Test.YtahkokbfghifhaaWWords
import Derived.Test.YtahkokbfghifhaaWLast
import Derived.Test.YtahkokbfghifhaaWTab
import Derived.Test.YtahkokbfghifhaaWFour
import Derived.Test.YtahkokbfghifhaaWQPut
import Derived.Test.YtahkokbfghifhaaWApart
import Derived.Test.YtahkokbfghifhaaWArr
import Derived.Test.YtahkokbfghifhaaWZeros
import Derived.Test.YtahkokbfghifhaaWFoot
import Derived.Test.YtahkokbfghifhaaWKept
import Derived.Test.YtahkokbfghifhaaWShare
import Derived.Test.YtahkokbfghifhaaWN
import Derived.Test.YtahkokbfghifhaaWFootNe
import Derived.Test.YtahkokbfghifhaaWAt
import Derived.Test.YtahkokbfghifhaaWEqStruct
import Derived.Test.YtahkokbfghifhaaWRepsOne
import Derived.Test.YtahkokbfghifhaaWInv
import Derived.Test.YtahkokbfghifhaaWInvWords
import Derived.Test.YtahkokbfghifhaaWGuard
import Derived.Test.YtahkokbfghifhaaWNEv
import Derived.Test.YtahkokbfghifhaaWMore
namespace Go.Proofs.Ytahkokbfghifhaa.PS
open Go.RowKit Go.Proofs.YtahkokbfghifhaaW.PrintWords Go.Proofs.YtahkokbfghifhaaW.PrintLast Go.Proofs.YtahkokbfghifhaaW.PrintMore
set_option linter.unusedVariables false
set_option linter.unusedSimpArgs false
set_option maxHeartbeats 4000000
set_option maxRecDepth 100000

open Go.Proofs.Ytahkokbfghifhaa.Reg
/-- The first of the least among the first i rows. -/
def Arg (es : List S55) (i : Nat) (le : Int) : Prop := (i = 0 ∧ le = -1) ∨ ∃ k : Nat, le = (k : Int) ∧ k < i ∧ (∀ j, j < i → (rd_T55 es (k : Int)).f2 ≤ (rd_T55 es (j : Int)).f2) ∧ (∀ j, j < k → (rd_T55 es (k : Int)).f2 < (rd_T55 es (j : Int)).f2)
def keepL (es : List S55) (le : Int) (i : Nat) : List S55 := if es.length < 8 then es.take i else (es.take i).eraseIdx le.toNat
theorem keep_step (es : List S55) (k : Nat) (i : Nat) (hi : i < es.length) (hk : (k : Int) = (i : Int) → ¬ es.length < 8 → False) : keepL es (k : Int) (i + 1) = keepL es (k : Int) i ++ [rd_T55 es (i : Int)] := by
  have ht : es.take (i + 1) = es.take i ++ [rd_T55 es (i : Int)] := by
    rw [List.take_succ_eq_append_getElem hi]; simp [rd_T55, hi]
  unfold keepL
  by_cases h8 : es.length < 8
  · rw [if_pos h8, if_pos h8, ht]
  · rw [if_neg h8, if_neg h8, ht, Int.toNat_natCast]
    have hl : (es.take i).length = i := by rw [List.length_take]; omega
    by_cases e : k < i
    · rw [List.eraseIdx_append_of_lt_length (by omega)]
    · have : i < k := by
        rcases Nat.lt_or_ge i k with h | h
        · exact h
        · exact (hk (by omega) h8).elim
      rw [List.eraseIdx_of_length_le (by simp [hl]; omega), List.eraseIdx_of_length_le (by omega)]
theorem keep_skip (es : List S55) (k : Nat) (i : Nat) (hi : i < es.length) (hk : k = i) (h8 : ¬ es.length < 8) : keepL es (k : Int) (i + 1) = keepL es (k : Int) i := by
  have ht : es.take (i + 1) = es.take i ++ [rd_T55 es (i : Int)] := by
    rw [List.take_succ_eq_append_getElem hi]; simp [rd_T55, hi]
  have hl : (es.take i).length = i := by rw [List.length_take]; omega
  unfold keepL
  subst hk
  rw [if_neg h8, if_neg h8, ht, Int.toNat_natCast, List.eraseIdx_append_of_length_le (by omega), hl, Nat.sub_self, List.eraseIdx_of_length_le (l := es.take k) (by omega)]
  simp
def ROpenQ (w : World) (ok : Nat → Prop) (g : Nat) (es : List S55) (now : Int) (e : Ending) (w' : World) : Prop := ∃ r es', e = .returned (.bool r) ∧ r = !openNoS es now ∧ ((r = false ∧ es' = es) ∨ (r = true ∧ ∃ le, Arg es es.length le ∧ es' = keepL es le es.length ++ [⟨now, 0, now, ByteArray.empty⟩])) ∧ TblX w' (fun k => ok k ∨ w.heap.size ≤ k) g es' ∧ Kept w w' ok ∧ Below 0 w w'
/-- The document's Open, refused. -/
theorem ropen_calls {w : World} {ok : Nat → Prop} {g : Nat} {es : List S55} (h : TblX w ok g es) (now : Int) (hl : es.length ≤ 8) :
    Calls Try.prog 16 #[.pointer (some ⟨g, 0, none⟩), .int .i64 now] w fun e w' => ROpenQ w ok g es now e w' := by
  have HT := Aside0.mk h
  obtain ⟨A, c, cg, hc, hC⟩ := h.cells
  have HC := Aside0.mk hC
  have HN := Aside0.mk hl
  have HNO := Aside0.mk (show (∃ j : Nat, j < es.length ∧ ((rd_T55 es (j : Int)).f2 ≥ now ∨ (rd_T55 es (j : Int)).f0 ≥ now)) → openNoS es now = true from fun ⟨j, hj, hq⟩ => by
    unfold openNoS
    rw [Bool.or_eq_true]
    refine .inr (List.any_eq_true.2 ⟨_, List.getElem_mem hj, ?_⟩)
    rw [rd_getS es j hj] at hq
    exact decide_eq_true (by omega))
  have HYES := Aside0.mk (show ¬ now < 1 → (∀ j : Nat, j < es.length → (rd_T55 es (j : Int)).f2 < now ∧ (rd_T55 es (j : Int)).f0 < now) → openNoS es now = false from fun h1 h2 => by
    unfold openNoS
    rw [Bool.or_eq_false_iff]
    refine ⟨decide_eq_false h1, ?_⟩
    rw [List.any_eq_false]
    intro x hx
    obtain ⟨j, hj, rfl⟩ := List.getElem_of_mem hx
    have := h2 j hj
    rw [rd_getS es j hj] at this
    simp; omega)
  have HLT := Aside0.mk (show now < 1 → openNoS es now = true from fun h1 => by unfold openNoS; rw [decide_eq_true h1]; rfl)
  by_cases h1 : now < 1
  · have d0 : decide (now < 1) = true := decide_eq_true h1
    have hno := HLT.out h1
    have HO := Aside0.mk hno
    clear h hC hc hl h1 hno
    go_enter Try.func16, Try.ntmps16
    go_wp2_with fail
    go_ret
    unfold ROpenQ
    exact ⟨false, es, rfl, by rw [HO.out]; rfl, .inl ⟨rfl, rfl⟩, HT.out.mono (fun k hk => .inl hk), Kept.refl _ _, Below.refl _ _⟩
  · have d0 : decide (now < 1) = false := decide_eq_false h1
    have H1 := Aside0.mk h1
    clear h hC hc hl h1
    generalize hL : es.length = n at *
    have HL := Aside0.mk hL
    clear hL
    go_enter Try.func16, Try.ntmps16
    go_wp2_with fail
    have V0 := Aside0.mk (Below.refl w.heap.size w)
    go_loopw [5, 18] (fun v5 v18 wr => ∃ (i : Nat) (le : Int), v5 = .int .i64 le ∧ v18 = .int .i64 (i : Int) ∧ Aside0 (i ≤ n) ∧ Aside0 (Arg es i le) ∧ Aside0 (∀ j : Nat, j < i → (rd_T55 es (j : Int)).f2 < now ∧ (rd_T55 es (j : Int)).f0 < now) ∧ Aside0 (Below w.heap.size w wr)) (fun _ v18 _ => n - (intOf v18).toNat)
    case atStart => exact ⟨0, -1, rfl, rfl, Aside0.mk (Nat.zero_le _), Aside0.mk (.inl ⟨rfl, rfl⟩), Aside0.mk (fun j hj => absurd hj (Nat.not_lt_zero _)), V0⟩
    case round =>
      obtain ⟨i, le, rfl, rfl, HI, HG, HJ, HB⟩ := hrel
      by_cases hin : i < n
      · have d1 : decide ((i : Int) < (n : Int)) = true := decide_eq_true (by omega)
        have hC2 := Kd.C_below HC.out HB.out
        obtain ⟨ad, rfl, c0, c1, c2, c3⟩ := at_T55 hC2 (i : Int) (by omega) (by omega)
        rw [Int.toNat_natCast] at c0 c1 c2 c3
        generalize hy : rd_T55 es (i : Int) = y at c0 c1 c2 c3
        have HY := Aside0.mk hy
        have hin2 : (i : Int) < (n : Int) := by omega
        have hi0 : (0 : Int) ≤ (i : Int) := by omega
        have hbx := below_alloc (Below.refl wr.heap.size wr) (Obj.cells #[.int .i64 y.f0, .int .i64 y.f1, .int .i64 y.f2, .string y.f3] 55)
        have HBA := Aside0.mk (below_over HB.out hbx)
        have HIN := Aside0.mk hin
        have hwi : wrap64 ((i : Int) + 1) = ((i + 1 : Nat) : Int) := by have := HN.out; unfold wrap64; omega
        have hgw : wr.cell? ⟨g, 0, none⟩ = some (.slice (some ad) n c) := (HB.out.cell (C_cell_ltI cg)).trans cg
        have cgx : (wr.alloc (Obj.cells #[.int .i64 y.f0, .int .i64 y.f1, .int .i64 y.f2, .string y.f3] 55)).cell? ⟨g, 0, none⟩ = some (.slice (some ad) n c) := (hbx.cell (C_cell_ltI hgw)).trans hgw
        clear hy
        by_cases hu : y.f2 ≥ now
        · have d2 : decide (y.f2 ≥ now) = true := decide_eq_true hu
          have hno := HNO.out ⟨i, hin, .inl (by rw [HY.out]; exact hu)⟩
          have HO := Aside0.mk hno
          clear hC2 hu hno hbx hin
          go_wp2_with fail
          go_ret
          unfold ROpenQ
          exact ⟨false, es, rfl, by rw [HO.out]; rfl, .inl ⟨rfl, rfl⟩, (HT.out.below HBA.out).mono (fun k hk => .inl hk), Kept.below (Kept.refl _ _) HBA.out, HBA.out.mono (Nat.zero_le _)⟩
        · have d2 : decide (y.f2 ≥ now) = false := decide_eq_false hu
          by_cases hd : y.f0 ≥ now
          · have d3 : decide (y.f0 ≥ now) = true := decide_eq_true hd
            have hno := HNO.out ⟨i, hin, .inr (by rw [HY.out]; exact hd)⟩
            have HO := Aside0.mk hno
            clear hC2 hu hd hno hbx hin
            go_wp2_with fail
            go_ret
            unfold ROpenQ
            exact ⟨false, es, rfl, by rw [HO.out]; rfl, .inl ⟨rfl, rfl⟩, (HT.out.below HBA.out).mono (fun k hk => .inl hk), Kept.below (Kept.refl _ _) HBA.out, HBA.out.mono (Nat.zero_le _)⟩
          · have d3 : decide (y.f0 ≥ now) = false := decide_eq_false hd
            have HJ2 := Aside0.mk (show ∀ j : Nat, j < i + 1 → (rd_T55 es (j : Int)).f2 < now ∧ (rd_T55 es (j : Int)).f0 < now from fun j hj => by
              by_cases e : j = i
              · subst e; rw [HY.out]; exact ⟨by omega, by omega⟩
              · exact HJ.out j (by omega))
            rcases HG.out with ⟨hi, hle⟩ | ⟨k, hle, hki, hmin, hfst⟩
            · have d4 : decide (le < 0) = true := decide_eq_true (by omega)
              have HG2 := Aside0.mk (show Arg es (i + 1) (i : Int) from .inr ⟨i, rfl, by omega, fun j hj => by
                have : j = i := by omega
                subst this; exact Int.le_refl _, fun j hj => by omega⟩)
              clear hC2 hu hd hbx hin hi hle
              go_wp2_with fail
              go_quiet (fail)
              go_wp2_with fail
              go_roundw
              case rel => exact ⟨i + 1, (i : Int), rfl, by first | rw [hwi] | rfl, Aside0.mk HIN.out, HG2, HJ2, Aside0.mk (pw_below_drewN HBA.out _)⟩
              case measure => have := HIN.out; first | (rw [hwi]; simp [intOf]; omega) | (simp [intOf]; omega)
            · subst hle
              have d4 : decide ((k : Int) < 0) = false := decide_eq_false (by omega)
              have hk0 : (0 : Int) ≤ (k : Int) := by omega
              have hkn : (k : Int) < (n : Int) := by omega
              obtain ⟨ad3, had, p0, p1, p2, p3⟩ := at_T55 (Kd.C_below hC2 hbx) (k : Int) hk0 hkn
              injection had with had
              subst had
              rw [Int.toNat_natCast] at p0 p1 p2 p3
              generalize hz : rd_T55 es (k : Int) = z at p0 p1 p2 p3 hmin hfst
              have HZ := Aside0.mk hz
              have HMF := Aside0.mk (And.intro hki (And.intro hmin hfst))
              by_cases hyz : y.f2 < z.f2
              · have d5 : decide (y.f2 < z.f2) = true := decide_eq_true hyz
                have HG2 := Aside0.mk (show Arg es (i + 1) (i : Int) from .inr ⟨i, rfl, by omega, fun j hj => by
                  rw [HY.out]
                  by_cases e : j = i
                  · subst e; rw [HY.out]; exact Int.le_refl _
                  · have := hmin j (by omega); omega, fun j hj => by rw [HY.out]; have := hmin j hj; omega⟩)
                clear hC2 hu hd hbx hin hki hmin hfst hz hyz p0 p1 p3
                go_wp2_with fail
                go_quiet (fail)
                go_wp2_with fail
                go_roundw
                case rel => exact ⟨i + 1, (i : Int), rfl, by first | rw [hwi] | rfl, Aside0.mk HIN.out, HG2, HJ2, Aside0.mk (pw_below_drewN HBA.out _)⟩
                case measure => have := HIN.out; first | (rw [hwi]; simp [intOf]; omega) | (simp [intOf]; omega)
              · have d5 : decide (y.f2 < z.f2) = false := decide_eq_false hyz
                have HG2 := Aside0.mk (show Arg es (i + 1) (k : Int) from .inr ⟨k, rfl, by omega, fun j hj => by
                  rw [HZ.out]
                  by_cases e : j = i
                  · subst e; rw [HY.out]; omega
                  · exact hmin j (by omega), fun j hj => by rw [HZ.out]; exact hfst j hj⟩)
                clear hC2 hu hd hbx hin hki hmin hfst hz hyz p0 p1 p3
                go_wp2_with fail
                go_quiet (fail)
                go_wp2_with fail
                go_roundw
                case rel => exact ⟨i + 1, (k : Int), rfl, by first | rw [hwi] | rfl, Aside0.mk HIN.out, HG2, HJ2, Aside0.mk (pw_below_drewN HBA.out _)⟩
                case measure => have := HIN.out; first | (rw [hwi]; simp [intOf]; omega) | (simp [intOf]; omega)
      · have d1 : decide ((i : Int) < (n : Int)) = false := decide_eq_false (by omega)
        have hin2 : ¬ (i : Int) < (n : Int) := by omega
        have hie : i = n := by have := HI.out; omega
        have HO := Aside0.mk (HYES.out (by have := H1.out; omega) (fun j hj => HJ.out j (by omega)))
        have HLE := Aside0.mk (show Arg es n le from hie ▸ HG.out)
        have cg2 : wr.cell? ⟨g, 0, none⟩ = some (.slice A n c) := (HB.out.cell (C_cell_ltI cg)).trans cg
        have R0 := Aside0.mk (show Kd.R k55 55 wr 0 (fun k => w.heap.size ≤ k) (.slice none 0 0) (keepL es le 0) from by
          have : keepL es le 0 = [] := by unfold keepL; split <;> simp
          rw [this]; exact Kd.R_nil _ _ _ _ _)
        have HWLE := Aside0.mk (show n = 0 ∨ ∃ k : Nat, le = (k : Int) ∧ k < n from by
          rcases HLE.out with ⟨h1, _⟩ | ⟨k, h1, h2, _⟩
          · exact .inl h1
          · exact .inr ⟨k, h1, h2⟩)
        clear hie hin
        go_wp2_with fail
        go_loopw [8, 55] (fun v8 v55 wq => ∃ (k : Nat), v55 = .int .i64 (k : Int) ∧ Aside0 (k ≤ n) ∧ Aside0 (Kd.R k55 55 wq 0 (fun k => w.heap.size ≤ k) v8 (keepL es le k)) ∧ Aside0 (Below w.heap.size w wq)) (fun _ v55 _ => n - (intOf v55).toNat)
        case atStart => exact ⟨0, rfl, Aside0.mk (Nat.zero_le _), R0, HB⟩
        case round =>
          obtain ⟨k, rfl, HK, RR, HB6⟩ := hrel
          have cg6 : wr.cell? ⟨g, 0, none⟩ = some (.slice A n c) := (HB6.out.cell (C_cell_ltI cg)).trans cg
          by_cases hkn : k < n
          · have d1 : decide ((k : Int) < (n : Int)) = true := decide_eq_true (by omega)
            obtain ⟨q, hq, hqn⟩ : ∃ q : Nat, le = (q : Int) ∧ q < n := by
              rcases HWLE.out with h | h
              · omega
              · exact h
            subst hq
            have hC2 := Kd.C_below HC.out HB6.out
            obtain ⟨ad, rfl, c0, c1, c2, c3⟩ := at_T55 hC2 (k : Int) (by omega) (by omega)
            rw [Int.toNat_natCast] at c0 c1 c2 c3
            have hel : k < es.length := by rw [HL.out]; exact hkn
            have hks := keep_step es q k hel
            have hkk := keep_skip es q k hel
            generalize rd_T55 es (k : Int) = y at c0 c1 c2 c3 hks
            have HKS := Aside0.mk hks
            have HKK := Aside0.mk hkk
            have hk2 : (k : Int) < (n : Int) := by omega
            have hk0 : (0 : Int) ≤ (k : Int) := by omega
            have hbx := below_alloc (Below.refl wr.heap.size wr) (Obj.cells #[.int .i64 y.f0, .int .i64 y.f1, .int .i64 y.f2, .string y.f3] 55)
            have HSZ := Aside0.mk (show (wr.alloc (Obj.cells #[.int .i64 y.f0, .int .i64 y.f1, .int .i64 y.f2, .string y.f3] 55)).heap.size = wr.heap.size + 1 by show (wr.heap.push _).size = _; rw [Array.size_push])
            have HBX := Aside0.mk hbx
            have HBA := Aside0.mk (below_over HB6.out hbx)
            have cgx : (wr.alloc (Obj.cells #[.int .i64 y.f0, .int .i64 y.f1, .int .i64 y.f2, .string y.f3] 55)).cell? ⟨g, 0, none⟩ = some (.slice (some ad) n c) := (hbx.cell (C_cell_ltI cg6)).trans cg6
            have HKN := Aside0.mk hkn
            have hwk : wrap64 ((k : Int) + 1) = ((k + 1 : Nat) : Int) := by have := HN.out; unfold wrap64; omega
            have hlen : (keepL es (q : Int) k).length ≤ 8 := by
              unfold keepL
              split
              · rw [List.length_take]; have := HN.out; omega
              · rw [List.length_eraseIdx, List.length_take]; have := HN.out; split <;> omega
            have HLEN := Aside0.mk hlen
            obtain ⟨A8, c8, rfl⟩ := Kd.R_slice RR.out
            clear hC2 hks hkk hel hbx hlen hkn
            by_cases hn8 : n < 8
            · have d2 : decide ((n : Int) < 8) = true := decide_eq_true (by omega)
              have HS := Aside0.mk (HKS.out (fun _ h => by rw [HL.out] at h; exact h hn8))
              clear hn8
              go_wp2_with (first
                | (at_builtin
                   refine Kd.R_append k55 (w0 := w) 0 rfl (.tmp 71) (.tmp 73) 34 55 _ 40 rfl Try.underlying34 info55 rfl (by decide) (by decide) _ _ y (cs55 y) (fun k => w.heap.size ≤ k) (fun _ => False) rfl (by rw [HSZ.out]; rfl) (k55_mkM _ _ _ _) (fun k hk => hk.elim) (fun k hk => Nat.le_trans HBA.out.size hk) (Kd.R_below RR.out HBX.out) (HBA.out.mono (Nat.zero_le _)) (Nat.zero_le _) (by have := HLEN.out; omega) ?_
                   intro v1 w9 hR9 hB9 hg9 hat9)
                | fail)
              have R9 := Aside0.mk (show Kd.R k55 55 w9 0 (fun k => w.heap.size ≤ k) v1 (keepL es (q : Int) (k + 1)) by rw [HS.out]; exact hR9)
              have B9 := Aside0.mk (HBA.out.trans ⟨hg9.os, hg9.tape, hg9.output, hg9.size, fun m hm => hg9.block m (Nat.lt_of_lt_of_le hm HBA.out.size) (fun he => by have : w.heap.size ≤ m := RR.out.1 m he.symm; omega)⟩)
              clear hR9 hB9 hg9 hat9
              go_roundw
              case rel => exact ⟨k + 1, by first | rw [hwk] | rfl, Aside0.mk HKN.out, R9, B9⟩
              case measure => have := HKN.out; first | (rw [hwk]; simp [intOf]; omega) | (simp [intOf]; omega)
            · have d2 : decide ((n : Int) < 8) = false := decide_eq_false (by omega)
              by_cases hkq : q = k
              · have HS := Aside0.mk (HKK.out hkq (by rw [HL.out]; exact hn8))
                have d3 : ((k : Int) != (q : Int)) = false := by simp; omega
                have d4 : (k != q) = false := by simp; omega
                have R9 := Aside0.mk (show Kd.R k55 55 (wr.alloc (Obj.cells #[.int .i64 y.f0, .int .i64 y.f1, .int .i64 y.f2, .string y.f3] 55)) 0 (fun k => w.heap.size ≤ k) (.slice A8 (keepL es (q : Int) k).length c8) (keepL es (q : Int) (k + 1)) by rw [HS.out]; exact Kd.R_below RR.out HBX.out)
                clear hn8 hkq
                go_wp2_with fail
                go_roundw
                case rel => exact ⟨k + 1, by first | rw [hwk] | rfl, Aside0.mk HKN.out, R9, HBA⟩
                case measure => have := HKN.out; first | (rw [hwk]; simp [intOf]; omega) | (simp [intOf]; omega)
              · have HS := Aside0.mk (HKS.out (fun h _ => hkq (by omega)))
                have d3 : ((k : Int) != (q : Int)) = true := by simp; omega
                have d4 : (k != q) = true := by simp; omega
                clear hn8 hkq
                go_wp2_with (first
                  | (at_builtin
                     refine Kd.R_append k55 (w0 := w) 0 rfl (.tmp 71) (.tmp 73) 34 55 _ 40 rfl Try.underlying34 info55 rfl (by decide) (by decide) _ _ y (cs55 y) (fun k => w.heap.size ≤ k) (fun _ => False) rfl (by rw [HSZ.out]; rfl) (k55_mkM _ _ _ _) (fun k hk => hk.elim) (fun k hk => Nat.le_trans HBA.out.size hk) (Kd.R_below RR.out HBX.out) (HBA.out.mono (Nat.zero_le _)) (Nat.zero_le _) (by have := HLEN.out; omega) ?_
                     intro v1 w9 hR9 hB9 hg9 hat9)
                  | fail)
                have R9 := Aside0.mk (show Kd.R k55 55 w9 0 (fun k => w.heap.size ≤ k) v1 (keepL es (q : Int) (k + 1)) by rw [HS.out]; exact hR9)
                have B9 := Aside0.mk (HBA.out.trans ⟨hg9.os, hg9.tape, hg9.output, hg9.size, fun m hm => hg9.block m (Nat.lt_of_lt_of_le hm HBA.out.size) (fun he => by have : w.heap.size ≤ m := RR.out.1 m he.symm; omega)⟩)
                clear hR9 hB9 hg9 hat9
                go_roundw
                case rel => exact ⟨k + 1, by first | rw [hwk] | rfl, Aside0.mk HKN.out, R9, B9⟩
                case measure => have := HKN.out; first | (rw [hwk]; simp [intOf]; omega) | (simp [intOf]; omega)
          · have d1 : decide ((k : Int) < (n : Int)) = false := decide_eq_false (by omega)
            have hk2 : ¬ (k : Int) < (n : Int) := by omega
            have hke : k = n := by have := HK.out; omega
            have hlen : (keepL es le k).length ≤ 8 := by
              unfold keepL
              split
              · rw [List.length_take]; have := HN.out; omega
              · rw [List.length_eraseIdx, List.length_take]; have := HN.out; split <;> omega
            have HLEN := Aside0.mk hlen
            obtain ⟨A8, c8, rfl⟩ := Kd.R_slice RR.out
            have HKE := Aside0.mk hke
            clear hlen hkn hke
            go_wp2_with (first
              | (at_builtin
                 refine Kd.R_append k55 (w0 := w) 0 rfl (.tmp 77) (.tmp 81) 34 55 _ 40 rfl Try.underlying34 info55 rfl (by decide) (by decide) _ _ ⟨now, 0, now, ByteArray.empty⟩ (cs55 ⟨now, 0, now, ByteArray.empty⟩) (fun k => w.heap.size ≤ k) (fun _ => False) rfl rfl (k55_mkM _ _ _ _) (fun k hk => hk.elim) (fun k hk => Nat.le_trans HB6.out.size hk) RR.out (HB6.out.mono (Nat.zero_le _)) (Nat.zero_le _) (by have := HLEN.out; omega) ?_
                 intro v1 w3 hR hb3 hg1 hat1
                 have hb9 : Below w.heap.size w w3 := HB6.out.trans ⟨hg1.os, hg1.tape, hg1.output, hg1.size, fun m hm => hg1.block m (Nat.lt_of_lt_of_le hm HB6.out.size) (fun he => by have : w.heap.size ≤ m := RR.out.1 m he.symm; omega)⟩
                 obtain ⟨hg, v0, hh, hR0⟩ := HT.out.below hb9
                 have hlt : g < w.heap.size := HT.out.lt
                 obtain ⟨A3, c3, rfl⟩ := Kd.R_slice hR
                 rw [show (keepL es le k ++ [(⟨now, 0, now, ByteArray.empty⟩ : S55)]).length = (keepL es le k).length + 1 by simp] at hR
                 have hcell : w3.cell? ⟨g, 0, none⟩ = some v0 := by simp [World.cell?, hh]
                 have hfz : w3.frozen? ⟨g, 0, none⟩ = false := by simp [World.frozen?, hh]
                 have HH3 := Aside0.mk (set_field0 hh (.slice A3 ((keepL es le k).length + 1) c3))
                 have HR3 := Aside0.mk (Kd.R_far (p := ⟨g, 0, none⟩) hR (fun k hk => by show k ≠ g; omega) (.slice A3 ((keepL es le k).length + 1) c3))
                 have HK3 := Aside0.mk (Kept.setCell (p := ⟨g, 0, none⟩) (Kept.below (Kept.refl w ok) hb9) (.inl hg) (.slice A3 ((keepL es le k).length + 1) c3))
                 have HB3 := Aside0.mk (Below.setCell (p := ⟨g, 0, none⟩) (hb9.mono (Nat.zero_le _)) (Nat.zero_le _) (.slice A3 ((keepL es le k).length + 1) c3))
                 have HG9 := Aside0.mk (And.intro hg hlt)
                 clear hR hb3 hb9 hg hh hR0 hlt hg1 hat1)
              | fail)
            go_ret
            unfold ROpenQ
            refine ⟨true, _, rfl, by rw [HO.out]; rfl, .inr ⟨rfl, le, by rw [HL.out]; exact HLE.out, rfl⟩, ⟨.inl HG9.out.1, _, HH3.out, ?_⟩, HK3.out, HB3.out⟩
            · rw [HL.out, ← HKE.out]
              exact Kd.R_mono HR3.out (fun k hk => ⟨.inr hk, by have := HG9.out.2; omega⟩)

end Go.Proofs.Ytahkokbfghifhaa.PS
