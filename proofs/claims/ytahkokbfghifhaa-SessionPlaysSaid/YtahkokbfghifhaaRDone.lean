/- The document's table: Done. -/
import Derived.Test.YtahkokbfghifhaaRSet
import Derived.Test.YtahkokbfghifhaaProg
import Derived.Below
import Derived.Deep.Draws
import Derived.Deep.AppendLies
import Derived.Maps.AppendAt
import Derived.OwnWalk
import Derived.Laws.BytesArg
import Derived.Laws.MakeOwn
import Derived.Laws.OwnMore
import Derived.Deep.OwnRows
import Derived.Tactics
import Derived.Lib.ConvBytes
import Derived.Laws.Slices
import Derived.WalkKit
import Derived.KernelRfl
import Derived.RowKit3
import Derived.Deep.LoopGhost
import Derived.Deep.QuietTactic
import Derived.BigQuiet
import Derived.WideLaws
import Derived.Deep.DeepCutAuto
import Derived.Deep.CutBlock
import Derived.Deep.RegionHeld3
import Derived.Laws.Rows
import Derived.Lib.AppendStr
import Derived.ArgAppend
import Derived.Laws.IdiomCopy
import Derived.OrdersHeld
import Derived.Laws.BitsLemmas
import Derived.RowKit
import Derived.Test.YtahkokbfghifhaaWWords
import Derived.Test.YtahkokbfghifhaaWLast
import Derived.Test.YtahkokbfghifhaaWTab
import Derived.Test.YtahkokbfghifhaaWFour
import Derived.Test.YtahkokbfghifhaaWQPut
import Derived.Test.YtahkokbfghifhaaWApart
import Derived.Test.YtahkokbfghifhaaWArr
import Derived.Test.YtahkokbfghifhaaWZeros
import Derived.Test.YtahkokbfghifhaaWFoot
import Derived.Test.YtahkokbfghifhaaWKept
import Derived.Test.YtahkokbfghifhaaWShare
import Derived.Test.YtahkokbfghifhaaWN
import Derived.Test.YtahkokbfghifhaaWFootNe
import Derived.Test.YtahkokbfghifhaaWAt
import Derived.Test.YtahkokbfghifhaaWEqStruct
import Derived.Test.YtahkokbfghifhaaWRepsOne
import Derived.Test.YtahkokbfghifhaaWInv
import Derived.Test.YtahkokbfghifhaaWInvWords
import Derived.Test.YtahkokbfghifhaaWGuard
import Derived.Test.YtahkokbfghifhaaWNEv
import Derived.Test.YtahkokbfghifhaaWMore
namespace Go.Proofs.Ytahkokbfghifhaa.PS
open Go.RowKit Go.Proofs.YtahkokbfghifhaaW.PrintWords Go.Proofs.YtahkokbfghifhaaW.PrintLast Go.Proofs.YtahkokbfghifhaaW.PrintMore
set_option linter.unusedVariables false
set_option linter.unusedSimpArgs false
set_option maxHeartbeats 4000000
set_option maxRecDepth 100000

open Go.Proofs.Ytahkokbfghifhaa.Reg
/-- One field of one row is written. -/
theorem R_field {P : Program} {ops : Array Oper} {rest : List Oper} {o : Oper} {a : Act} {Q : Exit → Act → World → Prop} {W : World} (hN : o.dst = none) (hgd : o.guard = none) (t : TypeId) (p x : Operand) (ho : o.op = .store t p x) {g n cap : Nat} (i j : Nat) (xs : List S55) (y y' : S55) (u : Value) (ok : Nat → Prop)
    (haddr : a.eval p = .pointer (some ⟨g, i * 4 + j, none⟩)) (hx : a.eval x = u) (hu : u.cells.toList = [u]) (ht : (P.info? t).map (·.size) = some 1) (h1 : u.oneCell' = true) (hj : j < 4)
    (HO : Kd.R k55 55 W 0 ok (.slice (some ⟨g, 0, none⟩) n cap) xs) (hi : i < n) (hy : rd_T55 xs (i : Int) = y) (hset : (cs55 y).take j ++ [u] ++ (cs55 y).drop (j + 1) = cs55 y')
    (h : ∀ w1, Kd.R k55 55 w1 0 ok (.slice (some ⟨g, 0, none⟩) n cap) (xs.set i y') → W.grownBy w1 (some g) → wpList P ops Q rest a w1) : wpList P ops Q (o :: rest) a W := by
  obtain ⟨c, hcl, hM, hcc, _⟩ := Kd.R_elem HO z55 (i : Int) (by omega) (by omega)
  have e : xs.getD (i : Int).toNat z55 = y := hy
  rw [e] at hM
  obtain rfl : c = cs55 y := k55_openM hM
  refine Kd.R_store k55 (w0 := W) 0 hN hgd t p x ho 55 (g := g) (n := n) (cap := cap) (o' := i * 4 + j) (i : Int) j xs y' u [u] (cs55 y) ok (fun _ => False) haddr (by rw [Int.toNat_natCast]; rfl) hx hu ht (by intro q hq; simp at hq; subst hq; exact h1) HO (by omega) (by omega) hcl hcc (by show j + 1 ≤ 4; omega) ?_ (fun _ h => h.elim) (Below.refl _ _) (fun w1 h1 _ h2 => h w1 (by rw [Int.toNat_natCast] at h1; exact h1) h2)
  rw [show j + [u].length = j + 1 from rfl, hset]
  exact k55_mkM _ _ _ _
def upd (id seq now : Int) (x : ByteArray) (r : S55) : S55 := if r.f0 = id then ⟨r.f0, seq, now, x⟩ else r
def rdone (es : List S55) (id seq now : Int) (x : ByteArray) : Bool × List S55 :=
  if (askS es id seq).1 = 1 ∧ es.any (fun r => decide (r.f2 > now)) = false then (true, es.map (upd id seq now x)) else (false, es)
theorem upd_step (es : List S55) (id seq now : Int) (x : ByteArray) (i : Nat) (hi : i < es.length) : ((es.take i).map (upd id seq now x) ++ es.drop i).set i (upd id seq now x (rd_T55 es (i : Int))) = (es.take (i + 1)).map (upd id seq now x) ++ es.drop (i + 1) := by
  have hl : ((es.take i).map (upd id seq now x)).length = i := by rw [List.length_map, List.length_take]; omega
  rw [List.set_append_right _ _ (by omega), hl, Nat.sub_self, drop_rd es i hi, List.set_cons_zero, List.take_succ_eq_append_getElem hi, List.map_append, List.append_assoc]
  congr 1
  simp [rd_T55, hi]
theorem upd_rd (es : List S55) (id seq now : Int) (x : ByteArray) (i : Nat) (hi : i < es.length) : rd_T55 ((es.take i).map (upd id seq now x) ++ es.drop i) (i : Int) = rd_T55 es (i : Int) := by
  have hl : ((es.take i).map (upd id seq now x)).length = i := by rw [List.length_map, List.length_take]; omega
  unfold rd_T55
  rw [Int.toNat_natCast, List.getD_eq_getElem?_getD, List.getD_eq_getElem?_getD, List.getElem?_append_right (by omega), hl, Nat.sub_self, List.getElem?_drop, Nat.add_zero]

theorem set_rd (xs : List S55) (i : Nat) (y : S55) (h : i < xs.length) : rd_T55 (xs.set i y) (i : Int) = y := by
  unfold rd_T55
  rw [Int.toNat_natCast, List.getD_eq_getElem?_getD, List.getElem?_set_self h]; rfl
theorem set_same (xs : List S55) (i : Nat) (h : i < xs.length) : xs.set i (rd_T55 xs (i : Int)) = xs := by
  have : rd_T55 xs (i : Int) = xs[i] := by simp [rd_T55, h]
  rw [this, List.set_getElem_self]
theorem rdone_calls {w : World} {ok : Nat → Prop} {g : Nat} {es : List S55} (h : TblX w ok g es) (id seq now : Int) (x : ByteArray) :
    Calls Try.prog 18 #[.pointer (some ⟨g, 0, none⟩), .int .i64 id, .int .i64 seq, .int .i64 now, .string x] w fun e w' => e = .returned (.bool (rdone es id seq now x).1) ∧ TblX w' (fun k => ok k ∨ w.heap.size ≤ k) g (rdone es id seq now x).2 ∧ Kept w w' ok ∧ Below 0 w w' := by
  have HT := Aside0.mk h
  have HASK := Aside0.mk (rask_calls h id seq)
  have hne := ask_freshS es id seq
  have hlt0 := idx_ltS (fun r => decide (r.f0 = id)) es
  unfold rdone
  generalize askS es id seq = q at *
  obtain ⟨v, s⟩ := q
  simp only [] at *
  by_cases hv : v = 1
  · subst hv
    have hpos : 0 < es.length := by have := hlt0 (hne rfl); have := hne rfl; omega
    obtain ⟨hg, v0, hh, hR⟩ := h
    obtain ⟨gb, cap, rfl, -, -, -⟩ := Kd.R_form hR hpos
    have HG := Aside0.mk (And.intro hg (show (ok gb ∧ gb ≠ g) from hR.1 gb rfl))
    have HH := Aside0.mk hh
    have HR := Aside0.mk hR
    have HN := Aside0.mk (Kd.C_max (Kd.R_reads' hR).2.2)
    have HPOS := Aside0.mk hpos
    generalize hres : (if (1 : Int) = 1 ∧ es.any (fun r => decide (r.f2 > now)) = false then (true, es.map (upd id seq now x)) else (false, es)) = res
    have HRES := Aside0.mk hres
    clear hne hlt0 hg hh hR hpos hres
    generalize hL : es.length = n at *
    have HL := Aside0.mk hL
    clear hL
    go_enter Try.func18, Try.ntmps18
    go_wp2_with fail
    refine HASK.out.mono ?_
    clear HASK
    rintro _ w1 ⟨rfl, hb⟩
    have cg : w1.cell? ⟨g, 0, none⟩ = some (.slice (some ⟨gb, 0, none⟩) n cap) := by
      have := (hb.block g (Array.getElem?_eq_some_iff.1 HH.out).1).trans HH.out
      simp [World.cell?, this]
    have HB1 := Aside0.mk hb
    clear hb
    go_wp2_with fail
    clear cg
    -- is it late?
    go_loopw [30] (fun v30 wr => ∃ (i : Nat), v30 = .int .i64 (i : Int) ∧ Aside0 (i ≤ n) ∧ Aside0 ((es.take i).any (fun r => decide (r.f2 > now)) = false) ∧ Aside0 (Below w.heap.size w wr)) (fun v30 _ => n - (intOf v30).toNat)
    case atStart => exact ⟨0, rfl, Aside0.mk (Nat.zero_le _), Aside0.mk rfl, HB1⟩
    case round =>
      obtain ⟨i, rfl, HI, HJ, HB⟩ := hrel
      by_cases hin : i < n
      · have d1 : decide ((i : Int) < (n : Int)) = true := decide_eq_true (by omega)
        have hC2 := Kd.C_below (Kd.R_reads' HR.out).2.2 HB.out
        obtain ⟨ad, had, c0, c1, c2, c3⟩ := at_T55 hC2 (i : Int) (by omega) (by have := HL.out; omega)
        injection had with had
        subst had
        rw [Int.toNat_natCast] at c0 c1 c2 c3
        have ead : (⟨gb, 0, none⟩ : Addr).add (i * 4) = ⟨gb, i * 4, none⟩ := by simp only [Addr.add]; split <;> simp_all
        rw [ead] at c0 c1 c2 c3
        simp only [] at c1 c2 c3
        have htk : es.take (i + 1) = es.take i ++ [rd_T55 es (i : Int)] := by
          have h8 : i < es.length := by rw [HL.out]; exact hin
          rw [List.take_succ_eq_append_getElem h8]; simp [rd_T55, h8]
        have hmem : rd_T55 es (i : Int) ∈ es := by
          have h8 : i < es.length := by rw [HL.out]; exact hin
          simp [rd_T55, h8]
        generalize rd_T55 es (i : Int) = y at c0 c1 c2 c3 htk hmem
        have HTK := Aside0.mk htk
        have HMEM := Aside0.mk hmem
        have hin2 : (i : Int) < (n : Int) := by omega
        have hi0 : (0 : Int) ≤ (i : Int) := by omega
        have HBA := Aside0.mk (below_over HB.out (below_alloc (Below.refl wr.heap.size wr) (Obj.cells (cs55 y).toArray 55)))
        have HIN := Aside0.mk hin
        have hwi : wrap64 ((i : Int) + 1) = ((i + 1 : Nat) : Int) := by have := HN.out; unfold wrap64; omega
        clear hC2 ead htk hmem
        by_cases hu : y.f2 > now
        · have d2 : decide (y.f2 > now) = true := decide_eq_true hu
          have hany : es.any (fun r => decide (r.f2 > now)) = true := by rw [List.any_eq_true]; exact ⟨y, HMEM.out, d2⟩
          have hq : res = (false, es) := by rw [← HRES.out, hany]; rfl
          subst hq
          clear hu hany
          go_wp2_with fail
          go_ret
          exact ⟨rfl, (HT.out.below HBA.out).mono (fun k hk => .inl hk), Kept.below (Kept.refl _ _) HBA.out, HBA.out.mono (Nat.zero_le _)⟩
        · have d2 : decide (y.f2 > now) = false := decide_eq_false hu
          have HJ2 := Aside0.mk (show (es.take (i + 1)).any (fun r => decide (r.f2 > now)) = false by rw [HTK.out, List.any_append, HJ.out]; simp; omega)
          clear hu
          go_wp2_with fail
          go_roundw
          case rel => exact ⟨i + 1, by first | rw [hwi] | rfl, Aside0.mk HIN.out, HJ2, HBA⟩
          case measure => have := HIN.out; first | (rw [hwi]; simp [intOf]; omega) | (simp [intOf]; omega)
      · have d1 : decide ((i : Int) < (n : Int)) = false := decide_eq_false (by omega)
        have hin2 : ¬ (i : Int) < (n : Int) := by omega
        have hq : res = (true, es.map (upd id seq now x)) := by
          have hj := HJ.out
          rw [List.take_of_length_le (by rw [HL.out]; omega)] at hj
          rw [← HRES.out, if_pos ⟨by first | rfl | trivial, hj⟩]
        subst hq
        have cg : wr.cell? ⟨g, 0, none⟩ = some (.slice (some ⟨gb, 0, none⟩) n cap) := by
          have := (HB.out.block g (Array.getElem?_eq_some_iff.1 HH.out).1).trans HH.out
          simp [World.cell?, this]
        have R5 := Aside0.mk (show Kd.R k55 55 wr 0 (fun k => ok k ∧ k ≠ g) (.slice (some ⟨gb, 0, none⟩) n cap) ((es.take 0).map (upd id seq now x) ++ es.drop 0) from by simpa using Kd.R_below HR.out HB.out)
        have H5 := Aside0.mk ((HB.out.block g (Array.getElem?_eq_some_iff.1 HH.out).1).trans HH.out)
        have K5 := Aside0.mk (Kept.below (Kept.refl w ok) HB.out)
        have B5 := Aside0.mk (HB.out.mono (Nat.zero_le _))
        go_wp2_with fail
        clear cg
        go_loopw [44] (fun v44 wq => ∃ (k : Nat), v44 = .int .i64 (k : Int) ∧ Aside0 (k ≤ n) ∧ Aside0 (Kd.R k55 55 wq 0 (fun k => ok k ∧ k ≠ g) (.slice (some ⟨gb, 0, none⟩) n cap) ((es.take k).map (upd id seq now x) ++ es.drop k)) ∧ Aside0 (wq.heap[g]? = some (.cells #[.slice (some ⟨gb, 0, none⟩) n cap] 49 (0, 0))) ∧ Aside0 (Kept w wq ok) ∧ Aside0 (Below 0 w wq)) (fun v44 _ => n - (intOf v44).toNat)
        case atStart => exact ⟨0, rfl, Aside0.mk (Nat.zero_le _), R5, H5, K5, B5⟩
        case round =>
          obtain ⟨k, rfl, HK, RR, H6, K6, B6⟩ := hrel
          have cg : wr.cell? ⟨g, 0, none⟩ = some (.slice (some ⟨gb, 0, none⟩) n cap) := by simp [World.cell?, H6.out]
          by_cases hkn : k < n
          · have hk2 : (k : Int) < (n : Int) := by omega
            have hk0 : (0 : Int) ≤ (k : Int) := by omega
            have hel : k < es.length := by rw [HL.out]; exact hkn
            obtain ⟨ad, had, c0, -, -, -⟩ := at_T55 (Kd.R_reads' RR.out).2.2 (k : Int) hk0 (by have := (Kd.R_reads' RR.out).1; omega)
            injection had with had
            subst had
            rw [Int.toNat_natCast] at c0
            have ead : (⟨gb, 0, none⟩ : Addr).add (k * 4) = ⟨gb, k * 4, none⟩ := by simp only [Addr.add]; split <;> simp_all
            rw [ead, upd_rd es id seq now x k hel] at c0
            have hst := upd_step es id seq now x k hel
            have hrd := upd_rd es id seq now x k hel
            have HKN := Aside0.mk hkn
            have hwk : wrap64 ((k : Int) + 1) = ((k + 1 : Nat) : Int) := by have := HN.out; unfold wrap64; omega
            generalize rd_T55 es (k : Int) = y at c0 hst hrd
            have HST := Aside0.mk hst
            have HRD := Aside0.mk hrd
            clear hst hrd hel ead
            by_cases he : y.f0 = id
            · have d2 : (y.f0 == id) = true := by simpa using he
              have hup : upd id seq now x y = ⟨y.f0, seq, now, x⟩ := by unfold upd; rw [if_pos he]
              have HUP := Aside0.mk hup
              clear he hup hkn
              go_wp2_with (first
                | (refine gate_ (.store 3 (.tmp 64) (.tmp 62)) rfl ?_
                   refine R_field rfl rfl 3 (.tmp 64) (.tmp 62) rfl (g := gb) (n := n) (cap := cap) k 1 _ y ⟨y.f0, seq, y.f2, y.f3⟩ (.int .i64 seq) _ rfl rfl rfl (by rfl) rfl (by decide) RR.out HKN.out HRD.out rfl ?_
                   intro w7 hR7 hg7
                   have R7 := Aside0.mk hR7
                   have G7 := Aside0.mk hg7
                   have cg7 : w7.cell? ⟨g, 0, none⟩ = some (.slice (some ⟨gb, 0, none⟩) n cap) := by
                     have := (hg7.block g (Array.getElem?_eq_some_iff.1 H6.out).1 (fun he => HG.out.2.2 (by injection he with he; exact he.symm))).trans H6.out
                     simp [World.cell?, this]
                   clear hR7 hg7 cg)
                | (refine gate_ (.store 3 (.tmp 72) (.tmp 70)) rfl ?_
                   refine R_field rfl rfl 3 (.tmp 72) (.tmp 70) rfl (g := gb) (n := n) (cap := cap) k 2 _ ⟨y.f0, seq, y.f2, y.f3⟩ ⟨y.f0, seq, now, y.f3⟩ (.int .i64 now) _ rfl rfl rfl (by rfl) rfl (by decide) R7.out HKN.out (set_rd _ k _ (by have := (Kd.R_reads' RR.out).1; have := HKN.out; omega)) rfl ?_
                   intro w8 hR8 hg8
                   have R8 := Aside0.mk hR8
                   have G8 := Aside0.mk hg8
                   have cg8 : w8.cell? ⟨g, 0, none⟩ = some (.slice (some ⟨gb, 0, none⟩) n cap) := by
                     have h7 := (G7.out.block g (Array.getElem?_eq_some_iff.1 H6.out).1 (fun he => HG.out.2.2 (by injection he with he; exact he.symm))).trans H6.out
                     have := (hg8.block g (Array.getElem?_eq_some_iff.1 h7).1 (fun he => HG.out.2.2 (by injection he with he; exact he.symm))).trans h7
                     simp [World.cell?, this]
                   clear hR8 hg8 cg7)
                | (refine gate_ (.store 9 (.tmp 80) (.tmp 78)) rfl ?_
                   refine R_field rfl rfl 9 (.tmp 80) (.tmp 78) rfl (g := gb) (n := n) (cap := cap) k 3 _ ⟨y.f0, seq, now, y.f3⟩ ⟨y.f0, seq, now, x⟩ (.string x) _ rfl rfl rfl (by rfl) rfl (by decide) R8.out HKN.out (set_rd _ k _ (by have := (Kd.R_reads' RR.out).1; have := HKN.out; rw [List.length_set]; omega)) rfl ?_
                   intro w9 hR9 hg9
                   have R9 := Aside0.mk hR9
                   have G9 := Aside0.mk hg9
                   clear hR9 hg9 cg8)
                | fail)
              have RF := Aside0.mk (show Kd.R k55 55 w9 0 (fun k => ok k ∧ k ≠ g) (.slice (some ⟨gb, 0, none⟩) n cap) ((es.take (k + 1)).map (upd id seq now x) ++ es.drop (k + 1)) by
                have h := R9.out
                rw [List.set_set, List.set_set, ← HUP.out, HST.out] at h
                exact h)
              have G79 := show wr.grownBy w9 (some gb) from ⟨G9.out.os.trans (G8.out.os.trans G7.out.os), G9.out.tape.trans (G8.out.tape.trans G7.out.tape), G9.out.output.trans (G8.out.output.trans G7.out.output), Nat.le_trans G7.out.size (Nat.le_trans G8.out.size G9.out.size), fun q hq hn => (G9.out.block q (Nat.lt_of_lt_of_le hq (Nat.le_trans G7.out.size G8.out.size)) hn).trans ((G8.out.block q (Nat.lt_of_lt_of_le hq G7.out.size) hn).trans (G7.out.block q hq hn))⟩
              have H9 := Aside0.mk ((G79.block g (Array.getElem?_eq_some_iff.1 H6.out).1 (fun he => HG.out.2.2 (by injection he with he; exact he.symm))).trans H6.out)
              have K9 := Aside0.mk (Kept.of_grown G79 K6.out (fun q hq => by injection hq with hq; subst hq; exact .inl HG.out.2.1))
              have B9 := Aside0.mk (B6.out.trans (show Below 0 wr w9 from ⟨G79.os, G79.tape, G79.output, G79.size, fun q hq => absurd hq (Nat.not_lt_zero _)⟩))
              clear G79
              go_roundw
              case rel => exact ⟨k + 1, by first | rw [hwk] | rfl, Aside0.mk HKN.out, RF, H9, K9, B9⟩
              case measure => have := HKN.out; first | (rw [hwk]; simp [intOf]; omega) | (simp [intOf]; omega)
            · have d2 : (y.f0 == id) = false := by simpa using he
              have hup : upd id seq now x y = y := by unfold upd; rw [if_neg he]
              have HR2 := Aside0.mk (show Kd.R k55 55 wr 0 (fun k => ok k ∧ k ≠ g) (.slice (some ⟨gb, 0, none⟩) n cap) ((es.take (k + 1)).map (upd id seq now x) ++ es.drop (k + 1)) by
                rw [← HST.out, hup, ← HRD.out, set_same _ k (by have := (Kd.R_reads' RR.out).1; have := HKN.out; omega)]; exact RR.out)
              clear he hup hkn
              go_wp2_with fail
              go_roundw
              case rel => exact ⟨k + 1, by first | rw [hwk] | rfl, Aside0.mk HKN.out, HR2, H6, K6, B6⟩
              case measure => have := HKN.out; first | (rw [hwk]; simp [intOf]; omega) | (simp [intOf]; omega)
          · have hk2 : ¬ (k : Int) < (n : Int) := by omega
            have hke : k = n := by have := HK.out; omega
            have HFIN := Aside0.mk (show Kd.R k55 55 wr 0 (fun k => ok k ∧ k ≠ g) (.slice (some ⟨gb, 0, none⟩) n cap) (es.map (upd id seq now x)) by
              have h := RR.out
              rw [List.take_of_length_le (by rw [HL.out]; omega), List.drop_eq_nil_of_le (by rw [HL.out]; omega), List.append_nil] at h
              exact h)
            go_wp2_with fail
            go_ret
            exact ⟨rfl, ⟨.inl HG.out.1, _, H6.out, Kd.R_mono HFIN.out (fun k hk => ⟨.inl hk.1, hk.2⟩)⟩, K6.out, B6.out⟩
  · rw [if_neg (fun h => hv h.1)]
    have d1 : (v != 1) = true := by simpa using hv
    clear hv hne hlt0 h
    go_enter Try.func18, Try.ntmps18
    go_wp2_with fail
    refine HASK.out.mono ?_
    rintro _ w1 ⟨rfl, hb⟩
    have HB := Aside0.mk hb
    clear hb
    go_wp2_with fail
    go_ret
    exact ⟨rfl, (HT.out.below HB.out).mono (fun k hk => .inl hk), Kept.below (Kept.refl _ _) HB.out, HB.out.mono (Nat.zero_le _)⟩

end Go.Proofs.Ytahkokbfghifhaa.PS
