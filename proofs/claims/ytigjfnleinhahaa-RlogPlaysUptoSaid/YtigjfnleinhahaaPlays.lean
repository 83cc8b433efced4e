/- RlogPlays: the walk. -/
import Derived.Test.YtigjfnleinhahaaPlayA

import Derived.StillTailTactics
import Derived.WalkSpells
namespace Go.Proofs.Ytigjfnleinhahaa.PLog
open Go.RowKit Go.Proofs.YtigjfnleinhahaaW.PrintWords Go.Proofs.YtigjfnleinhahaaW.PrintLast Go.Proofs.YtigjfnleinhahaaW.PrintMore
open Go.Proofs.Ytigjfnleinhahaa.Reg
set_option linter.unusedVariables false
set_option linter.unusedSimpArgs false
set_option maxHeartbeats 4000000
set_option maxRecDepth 100000

theorem World.cell?_lt {w : World} {ad : Addr} {v : Value} (h : w.cell? ad = some v) : ad.block < w.heap.size := by
  simp only [World.cell?] at h
  split at h
  · rename_i hh
    exact (Array.getElem?_eq_some_iff.1 hh).1
  · cases h
theorem St2.made {w w1 w2 : World} {g1 : Nat} {b0 b1 : Int} (hb : Below w.heap.size w w1) (hl : Log w2 (fun k => w1.heap.size ≤ k) g1 (max b0 0) (max b1 0) []) (h2 : Below w1.heap.size w1 w2) (hb0 : b0 ≤ 1152921504606846976) : St2 w (w2.alloc (.cells #[.int .i64 (max b0 0), .int .i64 (max b1 0), .slice none 0 0] 47)) g1 w2.heap.size 0 := by
  have hbx := below_alloc (Below.refl w2.heap.size w2) (.cells #[.int .i64 (max b0 0), .int .i64 (max b1 0), .slice none 0 0] 47)
  have hs : (w2.alloc (.cells #[.int .i64 (max b0 0), .int .i64 (max b1 0), .slice none 0 0] 47)).heap.size = w2.heap.size + 1 := by show (w2.heap.push _).size = _; rw [Array.size_push]
  have s1 := hb.size
  have s2 := h2.size
  refine ⟨fun k => w1.heap.size ≤ k ∧ k < w2.heap.size, fun k => k = w2.heap.size, max b0 0, max b1 0, [], ⟨hl.bound.below hbx, ⟨rfl, _, heap_alloc_new _ _, Kd.R_nil _ _ _ _ _⟩, fun k hk => ⟨by omega, by omega, by omega⟩, fun k hk => ⟨by omega, by omega⟩, ⟨by omega, by omega, by simp, fun x h => by simp at h, fun x h => by simp at h⟩, (hb.trans (h2.mono s1)).trans (hbx.mono (by omega))⟩⟩

theorem Mid.up {w W : World} {g1 g2 b : Nat} {ok1 ok2 okO : Nat → Prop} {a t : Int} {es1 es2 : List S60} {y : S49} {Ae : Option Addr} {ce : Nat} {vO : Value} {m1 m2 : Nat} (h : Mid w W g1 g2 b ok1 ok2 okO a t es1 es2 y Ae ce vO m1 m2) : Mid w W g1 g2 b ok1 ok2 okO a t es1 es2 y Ae ce vO (m1 + 1) (m2 + 1) :=
  ⟨h.l1, h.l2, h.d1, h.d2, h.n1.up, h.n2.up, h.be, h.box, h.bl, h.own, h.od, h.eC, h.ec⟩

set_option maxHeartbeats 16000000 in
theorem plays_walk (b0 b1 : Int) (A : Option Addr) (c : Nat) (acts : List S49) (w : World) (hC : Kd.C k49 w A acts.length acts) (hok : ∀ y ∈ acts, okAct y) :
    Calls Try.prog 6 #[.agg #[.int .i64 b0, .int .i64 b1], .slice A acts.length c] w fun e w' => e = .returned (.bool true) ∧ Below w.heap.size w w' := by
  have HC := Aside0.mk hC
  have HOK := Aside0.mk hok
  have HN := Aside0.mk (Kd.C_max hC)
  clear hC hok
  generalize hL : acts.length = n at *
  have HLN := Aside0.mk hL
  clear hL
  have hmx : ∀ (x : Int) (W : World), (Builtin.max_ #[3, 3] 3 #[.int .i64 x, .int .i64 0]).run Try.prog W = .ok (.int .i64 (max x 0)) W := fun x W => by
    have e : (if (0 : Int) > x then (0 : Int) else x) = max x 0 := by split <;> omega
    rw [max_two, max2_int, e]
    rfl
  go_enter Try.func6, Try.ntmps6
  go_wp2_with (first
    | ((with_reducible refine gate_dst (N := 2) rfl ?_)
       refine box_event ?hg (N := 2) ?hd (cs := #[.int .i64 b0, .int .i64 b1]) (t := 22) ?hr ?_
       (case hd => rfl)
       (case hg => rfl)
       (case hr => first | (go_simp; done) | (go_simp; rfl))
       intro gb hgb wb hbox hb
       have HBX := Aside0.mk hbox
       have HBB := Aside0.mk hb
       clear hbox hb hgb)
    | fail)
  refine (first_calls wb).mono ?_
  rintro _ w1 ⟨rfl, hb1⟩
  have hx1 : w1.heap[gb]? = some (.cells #[.int .i64 b0, .int .i64 b1] 22 (0, 0)) := (hb1.block gb (Array.getElem?_eq_some_iff.1 HBX.out).1).trans HBX.out
  have HB1 := Aside0.mk (show Below w.heap.size w w1 from HBB.out.trans (hb1.mono HBB.out.size))
  have HX1 := Aside0.mk hx1
  have q0 : w1.cell? ⟨gb, 0, none⟩ = some (.int .i64 b0) := (blk_cell hx1 0).trans rfl
  have q1 : w1.cell? ⟨gb, 1, none⟩ = some (.int .i64 b1) := (blk_cell hx1 1).trans rfl
  clear hb1 hx1
  by_cases hbig : (1152921504606846976 : Int) < b0
  · have d1 : decide (b0 > 1152921504606846976) = true := decide_eq_true hbig
    have d1' : decide (1152921504606846976 < b0) = true := decide_eq_true hbig
    go_wp2_with fail
    go_ret
    exact ⟨rfl, HB1.out⟩
  · have d1' : decide (1152921504606846976 < b0) = false := decide_eq_false hbig
    have HBG := Aside0.mk hbig
    go_wp2_with fail
    refine (new_calls w1 b0 b1).mono ?_
    rintro _ w2 ⟨g1, rfl, hg1, hl1, hb2⟩
    have hx2 : w2.heap[gb]? = some (.cells #[.int .i64 b0, .int .i64 b1] 22 (0, 0)) := (hb2.block gb (Array.getElem?_eq_some_iff.1 HX1.out).1).trans HX1.out
    have p0 : w2.cell? ⟨gb, 0, none⟩ = some (.int .i64 b0) := (blk_cell hx2 0).trans rfl
    have p1 : w2.cell? ⟨gb, 1, none⟩ = some (.int .i64 b1) := (blk_cell hx2 1).trans rfl
    have HS0 := Aside0.mk (St2.made HB1.out hl1 hb2 (by have := HBG.out; omega))
    clear hg1 hl1 hb2 hx2 q0 q1
    obtain ⟨w3, hw3⟩ : ∃ w3, w3 = w2.alloc (.cells #[.int .i64 (max b0 0), .int .i64 (max b1 0), .slice none 0 0] 47) := ⟨_, rfl⟩
    obtain ⟨g2, hg2⟩ : ∃ g2, g2 = w2.heap.size := ⟨_, rfl⟩
    have HS1 := Aside0.mk (show St2 w w3 g1 g2 0 from by rw [hw3, hg2]; exact HS0.out)
    have HW3 := Aside0.mk hw3
    have HG2 := Aside0.mk hg2
    clear hw3 hg2 HS0
    go_wp2_with fail
    rw [← HW3.out, ← HG2.out]
    clear HW3 HG2
    go_loopw [35] (fun v35 wr => ∃ (i : Nat), v35 = .int .i64 (i : Int) ∧ Aside0 (i ≤ n) ∧ Aside0 (i ≤ 40) ∧ Aside0 (St2 w wr g1 g2 i)) (fun v35 _ => n - (intOf v35).toNat)
    case atStart => exact ⟨0, rfl, Aside0.mk (Nat.zero_le _), Aside0.mk (Nat.zero_le _), HS1⟩
    case round =>
      obtain ⟨i, rfl, HI, HI40, HT⟩ := hrel
      have HBW : Aside0 (Below w.heap.size w wr) := Aside0.mk (by
        obtain ⟨_, _, _, _, _, h⟩ := HT.out
        exact h.be)
      by_cases hin : i < n
      · have d1 : decide ((i : Int) < (n : Int)) = true := decide_eq_true (by omega)
        obtain ⟨ad, Ae, ce, rfl, c0, c1, c2, c3, c4, hce, hCe⟩ := at_T49 (Kd.C_below HC.out HBW.out) (i : Int) (by omega) (by omega)
        rw [Int.toNat_natCast] at c0 c1 c2 c3 c4
        have hCe0 : Kd.C k60 w Ae (rd_T49 acts (i : Int)).f4.length (rd_T49 acts (i : Int)).f4 := by
          obtain ⟨ad', Ae', ce', e', q0, q1, q2, q3, q4, qce, qCe⟩ := at_T49 HC.out (i : Int) (by omega) (by omega)
          rw [Int.toNat_natCast] at q4
          injection e' with e'
          subst e'
          have q5 := cell_below HBW.out (World.cell?_lt q4) q4
          rw [c4] at q5
          injection q5 with q5
          injection q5 with q5 _ _
          rw [q5]
          exact qCe
        have hokY : okAct (rd_T49 acts (i : Int)) := HOK.out _ (by simp [rd_T49]; rw [List.getElem?_eq_getElem (by have := HLN.out; omega)]; exact List.getElem_mem _)
        have HCE := Aside0.mk (And.intro hCe0 (And.intro hce hokY))
        clear hCe hCe0 hce hokY
        generalize rd_T49 acts (i : Int) = y at c0 c1 c2 c3 c4 HCE
        have hin2 : (i : Int) < (n : Int) := by omega
        have hi0 : (0 : Int) ≤ (i : Int) := by omega
        have HIN := Aside0.mk hin
        have hwi : wrap64 ((i : Int) + 1) = ((i + 1 : Nat) : Int) := by have := HN.out; unfold wrap64; omega
        have HFIN := Aside0.mk (show Below w.heap.size w (wr.alloc (Obj.cells #[.int .i64 y.f0, .int .i64 y.f1, .int .i64 y.f2, .int .i64 y.f3, .slice Ae y.f4.length ce] 49)) from HBW.out.trans ((below_alloc (Below.refl _ _) _).mono HBW.out.size))
        by_cases h40 : (40 : Int) ≤ (i : Int)
        · have d2 : decide ((i : Int) ≥ 40) = true := decide_eq_true h40
          clear h40
          go_wp2_with fail
          go_ret
          exact ⟨rfl, HFIN.out⟩
        · have d2 : decide ((i : Int) ≥ 40) = false := decide_eq_false h40
          have HI4 := Aside0.mk (show i + 1 ≤ 40 by omega)
          clear h40
          by_cases h100 : (100 : Int) < (y.f4.length : Int)
          · have d3 : decide ((y.f4.length : Int) > 100) = true := decide_eq_true h100
            have d3' : decide (100 < y.f4.length) = true := decide_eq_true (by omega)
            clear h100
            go_wp2_with fail
            go_ret
            exact ⟨rfl, HFIN.out⟩
          · have d3 : decide ((y.f4.length : Int) > 100) = false := decide_eq_false h100
            have d3' : decide (100 < y.f4.length) = false := decide_eq_false (by omega)
            have H100 := Aside0.mk (show y.f4.length ≤ 100 by omega)
            clear h100
            by_cases hat : (1152921504606846976 : Int) < y.f1
            · have d4 : decide (y.f1 > 1152921504606846976) = true := decide_eq_true hat
              have d4' : decide (1152921504606846976 < y.f1) = true := decide_eq_true hat
              go_wp2_with fail
              go_ret
              exact ⟨rfl, HFIN.out⟩
            · have d4 : decide (y.f1 > 1152921504606846976) = false := decide_eq_false hat
              have d4' : decide (1152921504606846976 < y.f1) = false := decide_eq_false hat
              have HAT := Aside0.mk (show y.f1 ≤ 1152921504606846976 by omega)
              clear hat
              go_wp2_with fail
              refine (deep_calls (wr.alloc (Obj.cells #[.int .i64 y.f0, .int .i64 y.f1, .int .i64 y.f2, .int .i64 y.f3, .slice Ae y.f4.length ce] 49)) Ae ce y.f4 (Kd.C_below HCE.out.1 HFIN.out) HCE.out.2.1 HCE.out.2.2.2.1 (by have := H100.out; omega)).mono ?_
              rintro _ w4 ⟨vO, rfl, hR, hB4⟩
              obtain ⟨Ao, co, rfl⟩ := Kd.R_slice hR
              obtain ⟨ok1, ok2, a, t, es, hTw⟩ := HT.out
              obtain ⟨b, hbe⟩ : ∃ b, b = wr.heap.size := ⟨_, rfl⟩
              have HM := Aside0.mk (Mid.start hTw HCE.out.1 HCE.out.2.1 rfl hbe hR hB4)
              rw [← hbe]
              obtain ⟨okO, hokO⟩ : ∃ okO : Nat → Prop, okO = (fun k => (wr.alloc (Obj.cells #[.int .i64 y.f0, .int .i64 y.f1, .int .i64 y.f2, .int .i64 y.f3, .slice Ae y.f4.length ce] 49)).heap.size ≤ k ∧ k < w4.heap.size) := ⟨_, rfl⟩
              rw [← hokO] at HM
              clear hR hB4 hTw hbe hokO HFIN c0 c1 c2 c3 c4
              have p0 : w4.cell? ⟨b, 0, none⟩ = some (.int .i64 y.f0) := (blk_cell HM.out.box 0).trans rfl
              have p1 : w4.cell? ⟨b, 1, none⟩ = some (.int .i64 y.f1) := (blk_cell HM.out.box 1).trans rfl
              have p2 : w4.cell? ⟨b, 2, none⟩ = some (.int .i64 y.f2) := (blk_cell HM.out.box 2).trans rfl
              have p3 : w4.cell? ⟨b, 3, none⟩ = some (.int .i64 y.f3) := (blk_cell HM.out.box 3).trans rfl
              have p4 : w4.cell? ⟨b, 4, none⟩ = some (.slice Ae y.f4.length ce) := (blk_cell HM.out.box 4).trans rfl
              by_cases q0 : (IntKind.u64.wrap y.f0).tmod 4 = 0
              · have e0 : ((IntKind.u64.wrap y.f0).tmod 4 == 0) = true := by simpa using q0
                clear q0

                go_wp2_with fail
                refine regionA9 (by kernel_rfl) w4 ok1 ok2 g1 g2 b a t es y Ae ce Ao co okO _ w4 ?hI1 rfl rfl rfl rfl rfl ?_
                case hI1 => rintro (_ | _ | _ | _) <;> first | exact ⟨HM.out.box, HM.out.dis (by have := HI4.out; omega) HCE.out.2.2 H100.out HAT.out⟩ | exact ⟨HM.out.l1, HM.out.own, Below.refl _ _, HM.out.dis (by have := HI4.out; omega) HCE.out.2.2 H100.out HAT.out⟩ | exact ⟨HM.out.l2, HM.out.dis (by have := HI4.out; omega) HCE.out.2.2 H100.out HAT.out⟩ | exact True.intro
                intro a2 w5 hA h2 h9 hI2
                have e9 : slotO dstA9 a2 9 = .bool false := h9
                have h2' : slotO dstA9 a2 2 = .int .i64 (a + (es.length : Int) + (y.f4.length : Int)) ∧ Log w5 (fun k => ok1 k ∨ w4.heap.size ≤ k) g1 a t (es ++ y.f4) ∧ Kept w4 w5 ok1 ∧ Below 0 w4 w5 := h2
                have HM5 := Aside0.mk (HM.out.step1 h2'.2.1 h2'.2.2.1 h2'.2.2.2 (HM.out.n1.app HCE.out.2.2 H100.out))
                clear h2 h9 h2' hI2
                rw [hA.frame hinA9]
                clear hA
                simp only [List.range_succ, List.range_zero, List.nil_append, List.cons_append, foldO, dstA9, List.getD_cons_zero, List.getD_cons_succ, Act.put]
                rw [e9]
                clear e9
                generalize slotO dstA9 a2 0 = q0
                generalize slotO dstA9 a2 1 = q1
                generalize slotO dstA9 a2 2 = q2
                generalize slotO dstA9 a2 3 = q3
                generalize slotO dstA9 a2 4 = q4
                generalize slotO dstA9 a2 5 = q5
                generalize slotO dstA9 a2 6 = q6
                generalize slotO dstA9 a2 7 = q7
                generalize slotO dstA9 a2 8 = q8
                clear a2
                go_simp
                obtain ⟨okn, hokn⟩ : ∃ okn : Nat → Prop, okn = (fun k => (ok1 k ∨ w4.heap.size ≤ k) ∧ k < w5.heap.size) := ⟨_, rfl⟩
                rw [← hokn] at HM5
                clear hokn p0 p1 p2 p3 p4
                obtain ⟨A0, c0, hv0⟩ : ∃ A0 c0, w5.heap[g2]? = some (.cells #[.int .i64 a, .int .i64 t, .slice A0 es.length c0] 47 (0, 0)) ∧ Kd.R k60 60 w5 0 (fun k => ok2 k ∧ k ≠ g2) (.slice A0 es.length c0) es ∧ ok2 g2 := by
                  obtain ⟨hg, v0, hh, hR⟩ := HM5.out.l2
                  obtain ⟨A0, c0, rfl⟩ := Kd.R_slice hR
                  exact ⟨A0, c0, hh, hR, hg⟩
                have HV0 := Aside0.mk hv0
                clear hv0
                go_wp2_with fail
                have HD5 := Aside0.mk (HM5.out.dis (by have := HI4.out; omega) HCE.out.2.2 H100.out HAT.out)
                refine regionD9 (by kernel_rfl) w5 okn ok2 g1 g2 b a t es y Ae ce A0 c0 _ w5 ?hI2 rfl rfl rfl ?_
                case hI2 => rintro (_ | _ | _) <;> first | exact ⟨HM5.out.box, Kd.C_below HM5.out.eC HM5.out.be, HM5.out.ec, Below.refl _ _, HD5.out⟩ | exact ⟨HV0.out.2.2, HV0.out.1, HV0.out.2.1, Below.refl _ _, HD5.out⟩ | exact True.intro
                intro a2 wt hA h11
                have h11' : LogX wt (fun k => ok2 k ∨ w5.heap.size ≤ k) g2 a t (es ++ y.f4) ∧ Kept w5 wt ok2 ∧ Below 0 w5 wt := h11
                have H9 := Aside0.mk (HM5.out.step2 h11'.1 h11'.2.1 h11'.2.2 (HM5.out.n2.app HCE.out.2.2 H100.out))
                clear h11 h11'
                rw [hA.frame hinD9]
                clear hA
                simp only [List.range_succ, List.range_zero, List.nil_append, List.cons_append, foldO, dstD9, List.getD_cons_zero, List.getD_cons_succ, Act.put]
                generalize slotO dstD9 a2 0 = s0
                generalize slotO dstD9 a2 1 = s1
                generalize slotO dstD9 a2 2 = s2
                generalize slotO dstD9 a2 3 = s3
                generalize slotO dstD9 a2 4 = s4
                generalize slotO dstD9 a2 5 = s5
                generalize slotO dstD9 a2 6 = s6
                generalize slotO dstD9 a2 7 = s7
                generalize slotO dstD9 a2 8 = s8
                generalize slotO dstD9 a2 9 = s9
                generalize slotO dstD9 a2 10 = s10
                generalize slotO dstD9 a2 11 = s11
                clear a2
                go_simp

                have p1' : wt.cell? ⟨b, 1, none⟩ = some (.int .i64 y.f1) := (blk_cell H9.out.box 1).trans rfl
                have p2' : wt.cell? ⟨b, 2, none⟩ = some (.int .i64 y.f2) := (blk_cell H9.out.box 2).trans rfl
                have p4' : wt.cell? ⟨b, 4, none⟩ = some (.slice Ae y.f4.length ce) := (blk_cell H9.out.box 4).trans rfl
                go_wp2_with fail
                refine (same_calls wt Ao Ae co ce y.f4 (Kd.R_reads' H9.out.own).2.2 (Kd.R_reads' H9.out.own).2.1 (Kd.C_below H9.out.eC H9.out.be) H9.out.ec HCE.out.2.2.2.2).mono ?_
                rintro _ wu ⟨rfl, hbu⟩
                have HU := Aside0.mk (H9.out.below hbu)
                clear hbu p1' p2' p4'
                go_wp2_with fail
                refine (spoil_calls HU.out.own (by have := H100.out; omega)).mono ?_
                rintro _ wv ⟨rfl, hKv, hBv⟩
                have HV := Aside0.mk (HU.out.spoilt hKv hBv)
                clear hKv hBv
                go_wp2_with fail
                obtain ⟨o1, o2, a9, t9, es9, HV⟩ : ∃ o1 o2 a9 t9 es9, Aside0 (Two w wv g1 g2 o1 o2 a9 t9 es9 (i + 1) ∧ wv.heap[b]? = some (Obj.cells #[.int .i64 y.f0, .int .i64 y.f1, .int .i64 y.f2, .int .i64 y.f3, .slice Ae y.f4.length ce] 49) ∧ b < wv.heap.size) := ⟨_, _, _, _, _, HV⟩
                refine regionN9 (by kernel_rfl) wv o1 o2 g1 g2 b a9 t9 es9 y Ae ce (i + 1) HV.out.1.nm HI4.out _ wv ?hI3 rfl rfl rfl rfl ?_
                case hI3 => rintro (_ | _) <;> first | exact ⟨HV.out.2.1, HV.out.1.l1, HV.out.1.l2, Below.refl _ _⟩ | exact True.intro
                intro a2 w9 hA h20 hI9
                have e20 : slotO dstN9 a2 20 = .bool false := h20
                have HT9 := Aside0.mk (show St2 w w9 g1 g2 (i + 1) from (HV.out.1.below hI9.2.2.2).st)
                clear h20 hI9
                rw [hA.frame hinN9]
                clear hA
                simp only [List.range_succ, List.range_zero, List.nil_append, List.cons_append, foldO, dstN9, List.getD_cons_zero, List.getD_cons_succ, Act.put]
                rw [e20]
                clear e20
                generalize slotO dstN9 a2 0 = r0
                generalize slotO dstN9 a2 1 = r1
                generalize slotO dstN9 a2 2 = r2
                generalize slotO dstN9 a2 3 = r3
                generalize slotO dstN9 a2 4 = r4
                generalize slotO dstN9 a2 5 = r5
                generalize slotO dstN9 a2 6 = r6
                generalize slotO dstN9 a2 7 = r7
                generalize slotO dstN9 a2 8 = r8
                generalize slotO dstN9 a2 9 = r9
                generalize slotO dstN9 a2 10 = r10
                generalize slotO dstN9 a2 11 = r11
                generalize slotO dstN9 a2 12 = r12
                generalize slotO dstN9 a2 13 = r13
                generalize slotO dstN9 a2 14 = r14
                generalize slotO dstN9 a2 15 = r15
                generalize slotO dstN9 a2 16 = r16
                generalize slotO dstN9 a2 17 = r17
                generalize slotO dstN9 a2 18 = r18
                generalize slotO dstN9 a2 19 = r19
                clear a2
                go_simp
                go_wp2_with fail
                go_roundw
                case rel => exact ⟨i + 1, by first | rw [hwi] | rfl, Aside0.mk HIN.out, HI4, HT9⟩
                case measure => have := HIN.out; first | (rw [hwi]; simp [intOf]; omega) | (simp [intOf]; omega)
              · have e0 : ((IntKind.u64.wrap y.f0).tmod 4 == 0) = false := by simpa using q0
                clear q0
                by_cases q1 : (IntKind.u64.wrap y.f0).tmod 4 = 1
                · have e1 : ((IntKind.u64.wrap y.f0).tmod 4 == 1) = true := by simpa using q1
                  clear q1

                  go_wp2_with fail
                  have hmc := merge_calls HM.out.l1 HM.out.n1.lo y.f1 y.f2 Ao co y.f4 (Kd.R_reads' HM.out.own).2.2 (Kd.R_reads' HM.out.own).2.1 HCE.out.2.2.2.1 (by have := H100.out; have := HM.out.n1.len; have := HI4.out; omega) (by have := HM.out.n1.hi; have := HM.out.n1.len; have := HI4.out; omega)
                  rw [← mergeXL_is a t es y.f1 y.f2 y.f4 HM.out.n1.lo] at hmc
                  have HMC := Aside0.mk hmc
                  have HNM := Aside0.mk (HM.out.n1.merge (t := t) HCE.out.2.2 H100.out)
                  clear hmc
                  refine HMC.out.mono ?_
                  clear HMC
                  rintro _ w5 ⟨rfl, hl, hk, hb⟩
                  have HM5 := Aside0.mk (HM.out.step1 hl hk hb HNM.out)
                  clear hl hk hb p0 p1 p2 p3 p4
                  obtain ⟨okn, hokn⟩ : ∃ okn : Nat → Prop, okn = (fun k => (ok1 k ∨ w4.heap.size ≤ k) ∧ k < w5.heap.size) := ⟨_, rfl⟩
                  rw [← hokn] at HM5
                  clear hokn
                  generalize hML : mergeXL a t es y.f1 y.f2 y.f4 = ML at HM5 HNM ⊢
                  obtain ⟨mi, mb, ml⟩ := ML
                  have HML := Aside0.mk hML
                  clear hML
                  have HD5 := Aside0.mk (HM5.out.dis (by have := HI4.out; omega) HCE.out.2.2 H100.out HAT.out)
                  go_wp2_with fail
                  refine regionM9 (by kernel_rfl) w5 okn ok2 g1 g2 b a t es y Ae ce _ w5 ?hI4 rfl rfl rfl ?_
                  case hI4 => rintro (_ | _ | _) <;> first | exact ⟨HM5.out.box, Kd.C_below HM5.out.eC HM5.out.be, HM5.out.ec, Below.refl _ _, HD5.out⟩ | exact ⟨by obtain ⟨hg, _⟩ := HM5.out.l2; exact hg, HM5.out.l2, Below.refl _ _, HD5.out⟩ | exact True.intro
                  intro a2 wt hA h8 h12 h13
                  have h8' : slotO dstM9 a2 8 = .tuple #[.int .i64 (mergeXL a t es y.f1 y.f2 y.f4).1, .bool (mergeXL a t es y.f1 y.f2 y.f4).2.1] ∧ LogX wt (fun k => ok2 k ∨ w5.heap.size ≤ k) g2 a t (mergeXL a t es y.f1 y.f2 y.f4).2.2 ∧ Kept w5 wt ok2 ∧ Below 0 w5 wt := h8
                  have e12 : slotO dstM9 a2 12 = .int .i64 (mergeXL a t es y.f1 y.f2 y.f4).1 := h12
                  have e13 : slotO dstM9 a2 13 = .bool (mergeXL a t es y.f1 y.f2 y.f4).2.1 := h13
                  rw [HML.out] at h8' e12 e13
                  have H9 := Aside0.mk (HM5.out.step2 h8'.2.1 h8'.2.2.1 h8'.2.2.2 HNM.out)
                  clear h8 h8' h12 h13
                  simp only [] at e12 e13
                  rw [hA.frame hinM9]
                  clear hA
                  simp only [List.range_succ, List.range_zero, List.nil_append, List.cons_append, foldO, dstM9, List.getD_cons_zero, List.getD_cons_succ, Act.put]
                  rw [e12, e13]
                  clear e12 e13
                  generalize slotO dstM9 a2 0 = s0
                  generalize slotO dstM9 a2 1 = s1
                  generalize slotO dstM9 a2 2 = s2
                  generalize slotO dstM9 a2 3 = s3
                  generalize slotO dstM9 a2 4 = s4
                  generalize slotO dstM9 a2 5 = s5
                  generalize slotO dstM9 a2 6 = s6
                  generalize slotO dstM9 a2 7 = s7
                  generalize slotO dstM9 a2 8 = s8
                  generalize slotO dstM9 a2 9 = s9
                  generalize slotO dstM9 a2 10 = s10
                  generalize slotO dstM9 a2 11 = s11
                  clear a2
                  go_simp
                  have hbb : (mb != mb) = false := by simp

                  have p1' : wt.cell? ⟨b, 1, none⟩ = some (.int .i64 y.f1) := (blk_cell H9.out.box 1).trans rfl
                  have p2' : wt.cell? ⟨b, 2, none⟩ = some (.int .i64 y.f2) := (blk_cell H9.out.box 2).trans rfl
                  have p4' : wt.cell? ⟨b, 4, none⟩ = some (.slice Ae y.f4.length ce) := (blk_cell H9.out.box 4).trans rfl
                  go_wp2_with fail
                  refine (same_calls wt Ao Ae co ce y.f4 (Kd.R_reads' H9.out.own).2.2 (Kd.R_reads' H9.out.own).2.1 (Kd.C_below H9.out.eC H9.out.be) H9.out.ec HCE.out.2.2.2.2).mono ?_
                  rintro _ wu ⟨rfl, hbu⟩
                  have HU := Aside0.mk (H9.out.below hbu)
                  clear hbu p1' p2' p4'
                  go_wp2_with fail
                  refine (spoil_calls HU.out.own (by have := H100.out; omega)).mono ?_
                  rintro _ wv ⟨rfl, hKv, hBv⟩
                  have HV := Aside0.mk (HU.out.spoilt hKv hBv)
                  clear hKv hBv
                  go_wp2_with fail
                  obtain ⟨o1, o2, a9, t9, es9, HV⟩ : ∃ o1 o2 a9 t9 es9, Aside0 (Two w wv g1 g2 o1 o2 a9 t9 es9 (i + 1) ∧ wv.heap[b]? = some (Obj.cells #[.int .i64 y.f0, .int .i64 y.f1, .int .i64 y.f2, .int .i64 y.f3, .slice Ae y.f4.length ce] 49) ∧ b < wv.heap.size) := ⟨_, _, _, _, _, HV⟩
                  refine regionN9 (by kernel_rfl) wv o1 o2 g1 g2 b a9 t9 es9 y Ae ce (i + 1) HV.out.1.nm HI4.out _ wv ?hI5 rfl rfl rfl rfl ?_
                  case hI5 => rintro (_ | _) <;> first | exact ⟨HV.out.2.1, HV.out.1.l1, HV.out.1.l2, Below.refl _ _⟩ | exact True.intro
                  intro a2 w9 hA h20 hI9
                  have e20 : slotO dstN9 a2 20 = .bool false := h20
                  have HT9 := Aside0.mk (show St2 w w9 g1 g2 (i + 1) from (HV.out.1.below hI9.2.2.2).st)
                  clear h20 hI9
                  rw [hA.frame hinN9]
                  clear hA
                  simp only [List.range_succ, List.range_zero, List.nil_append, List.cons_append, foldO, dstN9, List.getD_cons_zero, List.getD_cons_succ, Act.put]
                  rw [e20]
                  clear e20
                  generalize slotO dstN9 a2 0 = r0
                  generalize slotO dstN9 a2 1 = r1
                  generalize slotO dstN9 a2 2 = r2
                  generalize slotO dstN9 a2 3 = r3
                  generalize slotO dstN9 a2 4 = r4
                  generalize slotO dstN9 a2 5 = r5
                  generalize slotO dstN9 a2 6 = r6
                  generalize slotO dstN9 a2 7 = r7
                  generalize slotO dstN9 a2 8 = r8
                  generalize slotO dstN9 a2 9 = r9
                  generalize slotO dstN9 a2 10 = r10
                  generalize slotO dstN9 a2 11 = r11
                  generalize slotO dstN9 a2 12 = r12
                  generalize slotO dstN9 a2 13 = r13
                  generalize slotO dstN9 a2 14 = r14
                  generalize slotO dstN9 a2 15 = r15
                  generalize slotO dstN9 a2 16 = r16
                  generalize slotO dstN9 a2 17 = r17
                  generalize slotO dstN9 a2 18 = r18
                  generalize slotO dstN9 a2 19 = r19
                  clear a2
                  go_simp
                  go_wp2_with fail
                  go_roundw
                  case rel => exact ⟨i + 1, by first | rw [hwi] | rfl, Aside0.mk HIN.out, HI4, HT9⟩
                  case measure => have := HIN.out; first | (rw [hwi]; simp [intOf]; omega) | (simp [intOf]; omega)
                · have e1 : ((IntKind.u64.wrap y.f0).tmod 4 == 1) = false := by simpa using q1
                  clear q1
                  by_cases q2 : (IntKind.u64.wrap y.f0).tmod 4 = 2
                  · have e2 : ((IntKind.u64.wrap y.f0).tmod 4 == 2) = true := by simpa using q2
                    clear q2

                    go_wp2_with fail
                    have HDM := Aside0.mk (HM.out.dis (by have := HI4.out; omega) HCE.out.2.2 H100.out HAT.out)
                    refine regionC9 (by kernel_rfl) w4 ok1 ok2 g1 g2 b a t es y Ae ce _ w4 ?hI6 rfl rfl rfl rfl ?_
                    case hI6 => rintro (_ | _ | _ | _) <;> first | exact ⟨HM.out.box, HDM.out⟩ | exact ⟨HM.out.l1, Below.refl _ _, HDM.out⟩ | exact ⟨HM.out.l2, HDM.out⟩ | exact True.intro
                    intro a2 wt hA h11 h12 hI2
                    have e12 : slotO dstC9 a2 12 = .bool false := h12
                    have h11' : slotO dstC9 a2 11 = .bool (compactL a t es y.f1 y.f2).1 ∧ ∃ N, w4.heap.size ≤ N ∧ N ≤ wt.heap.size ∧ Log wt (fun k => (ok1 k ∨ w4.heap.size ≤ k) ∧ k < N) g1 (compactL a t es y.f1 y.f2).2.1 (compactL a t es y.f1 y.f2).2.2.1 (compactL a t es y.f1 y.f2).2.2.2 ∧ LogX wt (fun k => ok2 k ∨ N ≤ k) g2 (compactL a t es y.f1 y.f2).2.1 (compactL a t es y.f1 y.f2).2.2.1 (compactL a t es y.f1 y.f2).2.2.2 ∧ Kept w4 wt (fun k => ok1 k ∨ ok2 k) ∧ Below 0 w4 wt := h11
                    obtain ⟨hv11, NN, u1, u2, u3, u4, u5, u6⟩ := h11'
                    have H9 := Aside0.mk (HM.out.both u1 u2 u3 u4 u5 u6 (HM.out.n1.compact (t := t) y.f1 y.f2 HAT.out))
                    clear h11 h12 hv11 u1 u2 u3 u4 u5 u6 hI2 p0 p1 p2 p3 p4
                    rw [hA.frame hinC9]
                    clear hA
                    simp only [List.range_succ, List.range_zero, List.nil_append, List.cons_append, foldO, dstC9, List.getD_cons_zero, List.getD_cons_succ, Act.put]
                    rw [e12]
                    clear e12
                    generalize slotO dstC9 a2 0 = s0
                    generalize slotO dstC9 a2 1 = s1
                    generalize slotO dstC9 a2 2 = s2
                    generalize slotO dstC9 a2 3 = s3
                    generalize slotO dstC9 a2 4 = s4
                    generalize slotO dstC9 a2 5 = s5
                    generalize slotO dstC9 a2 6 = s6
                    generalize slotO dstC9 a2 7 = s7
                    generalize slotO dstC9 a2 8 = s8
                    generalize slotO dstC9 a2 9 = s9
                    generalize slotO dstC9 a2 10 = s10
                    generalize slotO dstC9 a2 11 = s11
                    clear a2
                    go_simp

                    have p1' : wt.cell? ⟨b, 1, none⟩ = some (.int .i64 y.f1) := (blk_cell H9.out.box 1).trans rfl
                    have p2' : wt.cell? ⟨b, 2, none⟩ = some (.int .i64 y.f2) := (blk_cell H9.out.box 2).trans rfl
                    have p4' : wt.cell? ⟨b, 4, none⟩ = some (.slice Ae y.f4.length ce) := (blk_cell H9.out.box 4).trans rfl
                    go_wp2_with fail
                    refine (same_calls wt Ao Ae co ce y.f4 (Kd.R_reads' H9.out.own).2.2 (Kd.R_reads' H9.out.own).2.1 (Kd.C_below H9.out.eC H9.out.be) H9.out.ec HCE.out.2.2.2.2).mono ?_
                    rintro _ wu ⟨rfl, hbu⟩
                    have HU := Aside0.mk (H9.out.below hbu)
                    clear hbu p1' p2' p4'
                    go_wp2_with fail
                    refine (spoil_calls HU.out.own (by have := H100.out; omega)).mono ?_
                    rintro _ wv ⟨rfl, hKv, hBv⟩
                    have HV := Aside0.mk (HU.out.spoilt hKv hBv)
                    clear hKv hBv
                    go_wp2_with fail
                    obtain ⟨o1, o2, a9, t9, es9, HV⟩ : ∃ o1 o2 a9 t9 es9, Aside0 (Two w wv g1 g2 o1 o2 a9 t9 es9 (i + 1) ∧ wv.heap[b]? = some (Obj.cells #[.int .i64 y.f0, .int .i64 y.f1, .int .i64 y.f2, .int .i64 y.f3, .slice Ae y.f4.length ce] 49) ∧ b < wv.heap.size) := ⟨_, _, _, _, _, HV⟩
                    refine regionN9 (by kernel_rfl) wv o1 o2 g1 g2 b a9 t9 es9 y Ae ce (i + 1) HV.out.1.nm HI4.out _ wv ?hI7 rfl rfl rfl rfl ?_
                    case hI7 => rintro (_ | _) <;> first | exact ⟨HV.out.2.1, HV.out.1.l1, HV.out.1.l2, Below.refl _ _⟩ | exact True.intro
                    intro a2 w9 hA h20 hI9
                    have e20 : slotO dstN9 a2 20 = .bool false := h20
                    have HT9 := Aside0.mk (show St2 w w9 g1 g2 (i + 1) from (HV.out.1.below hI9.2.2.2).st)
                    clear h20 hI9
                    rw [hA.frame hinN9]
                    clear hA
                    simp only [List.range_succ, List.range_zero, List.nil_append, List.cons_append, foldO, dstN9, List.getD_cons_zero, List.getD_cons_succ, Act.put]
                    rw [e20]
                    clear e20
                    generalize slotO dstN9 a2 0 = r0
                    generalize slotO dstN9 a2 1 = r1
                    generalize slotO dstN9 a2 2 = r2
                    generalize slotO dstN9 a2 3 = r3
                    generalize slotO dstN9 a2 4 = r4
                    generalize slotO dstN9 a2 5 = r5
                    generalize slotO dstN9 a2 6 = r6
                    generalize slotO dstN9 a2 7 = r7
                    generalize slotO dstN9 a2 8 = r8
                    generalize slotO dstN9 a2 9 = r9
                    generalize slotO dstN9 a2 10 = r10
                    generalize slotO dstN9 a2 11 = r11
                    generalize slotO dstN9 a2 12 = r12
                    generalize slotO dstN9 a2 13 = r13
                    generalize slotO dstN9 a2 14 = r14
                    generalize slotO dstN9 a2 15 = r15
                    generalize slotO dstN9 a2 16 = r16
                    generalize slotO dstN9 a2 17 = r17
                    generalize slotO dstN9 a2 18 = r18
                    generalize slotO dstN9 a2 19 = r19
                    clear a2
                    go_simp
                    go_wp2_with fail
                    go_roundw
                    case rel => exact ⟨i + 1, by first | rw [hwi] | rfl, Aside0.mk HIN.out, HI4, HT9⟩
                    case measure => have := HIN.out; first | (rw [hwi]; simp [intOf]; omega) | (simp [intOf]; omega)
                  · have e2 : ((IntKind.u64.wrap y.f0).tmod 4 == 2) = false := by simpa using q2
                    clear q2
                    by_cases hA0 : a < y.f1
                    · by_cases hB0 : y.f1 ≤ a + (es.length : Int)
                      · by_cases hC0 : 0 < y.f3
                        · have HFR := Aside0.mk (fun W (hW : Below w4.heap.size w4 W) => from_calls (HM.out.l1.below hW) HM.out.n1.lo (by have := HM.out.n1.hi; have := HM.out.n1.len; have := HI4.out; omega) y.f1 y.f3 HCE.out.2.2.1 (by have := HM.out.n1.len; have := HI4.out; omega) HM.out.n1.oe)
                          have K21 := Aside0.mk (fun n => last_x (HM.out.l2.drewN n) (by have := HM.out.n1.lo; omega) (by have := HM.out.n1.hi; have := HM.out.n1.len; have := HI4.out; omega))
                          have c20 : w4.cell? ⟨g2, 0, none⟩ = some (.int .i64 a) := by obtain ⟨_, _, q, _⟩ := HM.out.l2.cells; exact q
                          have f1 : decide (a < y.f1) = true := decide_eq_true hA0
                          have f2 : decide (y.f1 ≤ a + (es.length : Int)) = true := decide_eq_true hB0
                          have f3 : decide (0 < y.f3) = true := decide_eq_true hC0
                          go_wp2_with fail
                          go_quiet ((go_at_call 21; exact Calls.quiet_of (K21.out _)))
                          go_wp2_with fail
                          clear K21
                          obtain ⟨q, hq⟩ : ∃ q : Nat, y.f1 - a - 1 = (q : Int) := ⟨(y.f1 - a - 1).toNat, by omega⟩
                          have hql : q < es.length := by omega
                          obtain ⟨N, hN⟩ : ∃ N : Nat, y.f3 = (N : Int) := ⟨y.f3.toNat, by omega⟩
                          obtain ⟨nw, hnw⟩ : ∃ nw : Nat, nw = min (es.length - q) N := ⟨_, rfl⟩
                          obtain ⟨wx, hwx⟩ : ∃ wx, wx = w4.drewN nq := ⟨_, rfl⟩
                          rw [← hwx]
                          have HWX := Aside0.mk (show Below w4.heap.size w4 wx from by rw [hwx]; exact pw_below_drewN (Below.refl _ _) nq)
                          clear hwx
                          have hMx := HM.out.below HWX.out
                          obtain ⟨A0, c0, x0', x1, x2', hc0, hr0⟩ := HM.out.l2.cells
                          have hg2w : g2 < w4.heap.size := by obtain ⟨hg, _⟩ := HM.out.l2; exact (HM.out.d2 g2 hg).2
                          have x0 : wx.cell? ⟨g2, 0, none⟩ = some (.int .i64 a) := cell_below HWX.out hg2w x0'
                          have x2 : wx.cell? ⟨g2, 2, none⟩ = some (.slice A0 es.length c0) := cell_below HWX.out hg2w x2'
                          clear x0' x2' hg2w
                          obtain ⟨ad0, rfl, -⟩ := hr0.2.2 (by omega)
                          have z1 : wx.cell? ⟨b, 1, none⟩ = some (.int .i64 y.f1) := (blk_cell hMx.box 1).trans rfl
                          have z3 : wx.cell? ⟨b, 3, none⟩ = some (.int .i64 y.f3) := (blk_cell hMx.box 3).trans rfl
                          have hk1 : IntKind.i64.wrap (y.f1 - a) = (q : Int) + 1 := by rw [i64_w]; have := HAT.out; have := HM.out.n1.lo; unfold wrap64; omega
                          have hk2 : IntKind.i64.wrap ((q : Int) + 1 - 1) = (q : Int) := by rw [i64_w]; have := HM.out.n1.len; have := HI4.out; unfold wrap64; omega
                          have hk3 : IntKind.i64.wrap (q : Int) = (q : Int) := by rw [i64_w]; have := HM.out.n1.len; have := HI4.out; unfold wrap64; omega
                          obtain ⟨i60, hi60, hz60, hs60, -⟩ := info_parts info60
                          have hcA := cut_from (P := Try.prog) 35 60 .i64 Try.underlying35 hi60 14 hs60 (some ad0) es.length c0 (q : Int) (by omega) (by omega)
                          rw [Int.toNat_natCast, if_neg (by omega)] at hcA
                          have hmn : ∀ W, (Builtin.min_ #[3, 3] 3 #[.int .i64 ((es.length - q : Nat) : Int), .int .i64 (N : Int)]).run Try.prog W = .ok (.int .i64 (nw : Int)) W := fun W => by
                            have e : (if (N : Int) < ((es.length - q : Nat) : Int) then (N : Int) else ((es.length - q : Nat) : Int)) = (nw : Int) := by split <;> omega
                            rw [min_two, min2_int, e]
                            rfl
                          have hcB := cut_to (P := Try.prog) 35 60 .i64 Try.underlying35 hi60 (some (ad0.add (q * 14))) (es.length - q) (c0 - q) (nw : Int) (by omega) (by omega) (by omega)
                          rw [Int.toNat_natCast] at hcB
                          obtain ⟨dl, hdl⟩ : ∃ dl, dl = es.length - q := ⟨_, rfl⟩
                          have hD := Kd.C_drop hr0 (Nat.le_of_lt hql) hc0
                          rw [if_neg (by omega)] at hD
                          have hT := Kd.C_take hD (m := nw) (by rw [List.length_drop]; omega)
                          have hfl : fromL a es y.f1 y.f3 = (es.drop q).take nw := by
                            unfold fromL
                            rw [if_neg (by omega), if_neg (by omega), if_neg (by omega)]
                            have e1 : (y.f1 - a - 1).toNat = q := by omega
                            have e2 : y.f3.toNat = N := by omega
                            rw [e1, e2, hnw]
                            have hdl : (es.drop q).length = es.length - q := List.length_drop
                            by_cases h : es.length - q ≤ N
                            · rw [Nat.min_eq_left h, List.take_of_length_le (by omega), List.take_of_length_le (by omega)]
                            · rw [Nat.min_eq_right (by omega)]
                          have hlw : ((es.drop q).take nw).length = nw := by rw [List.length_take, List.length_drop]; omega
                          rw [hN] at hfl HFR
                          have HWL := Aside0.mk (show fromL a es y.f1 (N : Int) = (es.drop q).take nw ∧ ((es.drop q).take nw).length = nw ∧ Kd.C k60 w4 (some (ad0.add (q * 14))) ((es.drop q).take nw).length ((es.drop q).take nw) ∧ nw ≤ c0 - q ∧ (∀ x ∈ (es.drop q).take nw, okS x) from ⟨hfl, hlw, hT, by omega, fun x hx => HM.out.n2.os x (List.mem_of_mem_drop (List.mem_of_mem_take hx))⟩)
                          rw [hN] at z3
                          have HQL := Aside0.mk (And.intro hql hN)
                          rw [← hdl] at hcA hmn hcB
                          have HDL := Aside0.mk hdl
                          clear hr0 hD hT hfl hlw hi60 hz60 hs60 hc0 hMx hql hnw hN hq x1 hdl p0 p1 p2 p3 p4 c20 f1 f2 f3
                          go_wp2_with fail
                          go_quiet (fail)
                          go_wp2_with fail
                          have HWN := Aside0.mk (show Below w4.heap.size w4 (wx.drewN nq) from pw_below_drewN HWX.out _)

                          refine (HFR.out (wx.drewN nq) HWN.out).mono ?_
                          rw [HWL.out.1]
                          rintro _ wf ⟨vf, rfl, hRf, hBf⟩
                          obtain ⟨Af, cf, rfl⟩ := Kd.R_slice hRf
                          rw [HWL.out.2.1] at hRf ⊢
                          have HRF := Aside0.mk hRf
                          have HBF := Aside0.mk (show Below w4.heap.size w4 wf from HWN.out.trans (hBf.mono HWN.out.size))
                          clear hRf hBf HFR
                          go_wp2_with fail
                          have hsm := same_calls wf Af (some (ad0.add (q * 14))) cf (c0 - q) ((es.drop q).take nw) (Kd.R_reads' HRF.out).2.2 (by rw [HWL.out.2.1]; exact (Kd.R_reads' HRF.out).2.1) (by have := Kd.C_below HWL.out.2.2.1 HBF.out; exact this) (by rw [HWL.out.2.1]; exact HWL.out.2.2.2.1) HWL.out.2.2.2.2
                          rw [HWL.out.2.1] at hsm
                          refine hsm.mono ?_
                          clear hsm
                          rintro _ wt ⟨rfl, hBt⟩
                          have H9 := Aside0.mk (show Mid w wt g1 g2 b ok1 ok2 okO a t es es y Ae ce (.slice Ao y.f4.length co) (i + 1) (i + 1) from (HM.out.below (HBF.out.trans (hBt.mono HBF.out.size))).up)
                          clear hBt

                          have p1' : wt.cell? ⟨b, 1, none⟩ = some (.int .i64 y.f1) := (blk_cell H9.out.box 1).trans rfl
                          have p2' : wt.cell? ⟨b, 2, none⟩ = some (.int .i64 y.f2) := (blk_cell H9.out.box 2).trans rfl
                          have p4' : wt.cell? ⟨b, 4, none⟩ = some (.slice Ae y.f4.length ce) := (blk_cell H9.out.box 4).trans rfl
                          go_wp2_with fail
                          refine (same_calls wt Ao Ae co ce y.f4 (Kd.R_reads' H9.out.own).2.2 (Kd.R_reads' H9.out.own).2.1 (Kd.C_below H9.out.eC H9.out.be) H9.out.ec HCE.out.2.2.2.2).mono ?_
                          rintro _ wu ⟨rfl, hbu⟩
                          have HU := Aside0.mk (H9.out.below hbu)
                          clear hbu p1' p2' p4'
                          go_wp2_with fail
                          refine (spoil_calls HU.out.own (by have := H100.out; omega)).mono ?_
                          rintro _ wv ⟨rfl, hKv, hBv⟩
                          have HV := Aside0.mk (HU.out.spoilt hKv hBv)
                          clear hKv hBv
                          go_wp2_with fail
                          obtain ⟨o1, o2, a9, t9, es9, HV⟩ : ∃ o1 o2 a9 t9 es9, Aside0 (Two w wv g1 g2 o1 o2 a9 t9 es9 (i + 1) ∧ wv.heap[b]? = some (Obj.cells #[.int .i64 y.f0, .int .i64 y.f1, .int .i64 y.f2, .int .i64 y.f3, .slice Ae y.f4.length ce] 49) ∧ b < wv.heap.size) := ⟨_, _, _, _, _, HV⟩
                          refine regionN9 (by kernel_rfl) wv o1 o2 g1 g2 b a9 t9 es9 y Ae ce (i + 1) HV.out.1.nm HI4.out _ wv ?hI8 rfl rfl rfl rfl ?_
                          case hI8 => rintro (_ | _) <;> first | exact ⟨HV.out.2.1, HV.out.1.l1, HV.out.1.l2, Below.refl _ _⟩ | exact True.intro
                          intro a2 w9 hA h20 hI9
                          have e20 : slotO dstN9 a2 20 = .bool false := h20
                          have HT9 := Aside0.mk (show St2 w w9 g1 g2 (i + 1) from (HV.out.1.below hI9.2.2.2).st)
                          clear h20 hI9
                          rw [hA.frame hinN9]
                          clear hA
                          simp only [List.range_succ, List.range_zero, List.nil_append, List.cons_append, foldO, dstN9, List.getD_cons_zero, List.getD_cons_succ, Act.put]
                          rw [e20]
                          clear e20
                          generalize slotO dstN9 a2 0 = r0
                          generalize slotO dstN9 a2 1 = r1
                          generalize slotO dstN9 a2 2 = r2
                          generalize slotO dstN9 a2 3 = r3
                          generalize slotO dstN9 a2 4 = r4
                          generalize slotO dstN9 a2 5 = r5
                          generalize slotO dstN9 a2 6 = r6
                          generalize slotO dstN9 a2 7 = r7
                          generalize slotO dstN9 a2 8 = r8
                          generalize slotO dstN9 a2 9 = r9
                          generalize slotO dstN9 a2 10 = r10
                          generalize slotO dstN9 a2 11 = r11
                          generalize slotO dstN9 a2 12 = r12
                          generalize slotO dstN9 a2 13 = r13
                          generalize slotO dstN9 a2 14 = r14
                          generalize slotO dstN9 a2 15 = r15
                          generalize slotO dstN9 a2 16 = r16
                          generalize slotO dstN9 a2 17 = r17
                          generalize slotO dstN9 a2 18 = r18
                          generalize slotO dstN9 a2 19 = r19
                          clear a2
                          go_simp
                          go_wp2_with fail
                          go_roundw
                          case rel => exact ⟨i + 1, by first | rw [hwi] | rfl, Aside0.mk HIN.out, HI4, HT9⟩
                          case measure => have := HIN.out; first | (rw [hwi]; simp [intOf]; omega) | (simp [intOf]; omega)
                        · have HFR := Aside0.mk (fun W (hW : Below w4.heap.size w4 W) => from_calls (HM.out.l1.below hW) HM.out.n1.lo (by have := HM.out.n1.hi; have := HM.out.n1.len; have := HI4.out; omega) y.f1 y.f3 HCE.out.2.2.1 (by have := HM.out.n1.len; have := HI4.out; omega) HM.out.n1.oe)
                          have K21 := Aside0.mk (fun n => last_x (HM.out.l2.drewN n) (by have := HM.out.n1.lo; omega) (by have := HM.out.n1.hi; have := HM.out.n1.len; have := HI4.out; omega))
                          have c20 : w4.cell? ⟨g2, 0, none⟩ = some (.int .i64 a) := by obtain ⟨_, _, q, _⟩ := HM.out.l2.cells; exact q
                          have f1 : decide (a < y.f1) = true := decide_eq_true hA0
                          have f2 : decide (y.f1 ≤ a + (es.length : Int)) = true := decide_eq_true hB0
                          have f3 : decide (0 < y.f3) = false := decide_eq_false hC0
                          go_wp2_with fail
                          go_quiet ((go_at_call 21; exact Calls.quiet_of (K21.out _)))
                          go_wp2_with fail
                          clear K21
                          have HWL := Aside0.mk (show fromL a es y.f1 y.f3 = [] ∧ ([] : List S60).length = 0 ∧ Kd.C k60 w4 none ([] : List S60).length [] ∧ 0 ≤ 0 ∧ (∀ x ∈ ([] : List S60), okS x) from ⟨by unfold fromL; rw [if_neg (by omega), if_neg (by omega), if_pos (by omega)], rfl, Kd.C_nil _ _, Nat.le_refl _, fun x h => by simp at h⟩)
                          have HWN := Aside0.mk (pw_below_drewN (Below.refl w4.heap.size w4) nq)

                          refine (HFR.out (w4.drewN nq) HWN.out).mono ?_
                          rw [HWL.out.1]
                          rintro _ wf ⟨vf, rfl, hRf, hBf⟩
                          obtain ⟨Af, cf, rfl⟩ := Kd.R_slice hRf
                          change Kd.R k60 60 wf _ _ (.slice Af 0 cf) [] at hRf
                          simp only [List.length_nil]
                          have HRF := Aside0.mk hRf
                          have HBF := Aside0.mk (show Below w4.heap.size w4 wf from HWN.out.trans (hBf.mono HWN.out.size))
                          clear hRf hBf HFR
                          go_wp2_with fail
                          have hsm := same_calls wf Af none cf 0 [] (Kd.R_reads' HRF.out).2.2 (Nat.zero_le _) (by have := Kd.C_below HWL.out.2.2.1 HBF.out; exact this) (Nat.le_refl _) HWL.out.2.2.2.2
                          simp only [List.length_nil] at hsm
                          refine hsm.mono ?_
                          clear hsm
                          rintro _ wt ⟨rfl, hBt⟩
                          have H9 := Aside0.mk (show Mid w wt g1 g2 b ok1 ok2 okO a t es es y Ae ce (.slice Ao y.f4.length co) (i + 1) (i + 1) from (HM.out.below (HBF.out.trans (hBt.mono HBF.out.size))).up)
                          clear hBt

                          have p1' : wt.cell? ⟨b, 1, none⟩ = some (.int .i64 y.f1) := (blk_cell H9.out.box 1).trans rfl
                          have p2' : wt.cell? ⟨b, 2, none⟩ = some (.int .i64 y.f2) := (blk_cell H9.out.box 2).trans rfl
                          have p4' : wt.cell? ⟨b, 4, none⟩ = some (.slice Ae y.f4.length ce) := (blk_cell H9.out.box 4).trans rfl
                          go_wp2_with fail
                          refine (same_calls wt Ao Ae co ce y.f4 (Kd.R_reads' H9.out.own).2.2 (Kd.R_reads' H9.out.own).2.1 (Kd.C_below H9.out.eC H9.out.be) H9.out.ec HCE.out.2.2.2.2).mono ?_
                          rintro _ wu ⟨rfl, hbu⟩
                          have HU := Aside0.mk (H9.out.below hbu)
                          clear hbu p1' p2' p4'
                          go_wp2_with fail
                          refine (spoil_calls HU.out.own (by have := H100.out; omega)).mono ?_
                          rintro _ wv ⟨rfl, hKv, hBv⟩
                          have HV := Aside0.mk (HU.out.spoilt hKv hBv)
                          clear hKv hBv
                          go_wp2_with fail
                          obtain ⟨o1, o2, a9, t9, es9, HV⟩ : ∃ o1 o2 a9 t9 es9, Aside0 (Two w wv g1 g2 o1 o2 a9 t9 es9 (i + 1) ∧ wv.heap[b]? = some (Obj.cells #[.int .i64 y.f0, .int .i64 y.f1, .int .i64 y.f2, .int .i64 y.f3, .slice Ae y.f4.length ce] 49) ∧ b < wv.heap.size) := ⟨_, _, _, _, _, HV⟩
                          refine regionN9 (by kernel_rfl) wv o1 o2 g1 g2 b a9 t9 es9 y Ae ce (i + 1) HV.out.1.nm HI4.out _ wv ?hI9 rfl rfl rfl rfl ?_
                          case hI9 => rintro (_ | _) <;> first | exact ⟨HV.out.2.1, HV.out.1.l1, HV.out.1.l2, Below.refl _ _⟩ | exact True.intro
                          intro a2 w9 hA h20 hI9
                          have e20 : slotO dstN9 a2 20 = .bool false := h20
                          have HT9 := Aside0.mk (show St2 w w9 g1 g2 (i + 1) from (HV.out.1.below hI9.2.2.2).st)
                          clear h20 hI9
                          rw [hA.frame hinN9]
                          clear hA
                          simp only [List.range_succ, List.range_zero, List.nil_append, List.cons_append, foldO, dstN9, List.getD_cons_zero, List.getD_cons_succ, Act.put]
                          rw [e20]
                          clear e20
                          generalize slotO dstN9 a2 0 = r0
                          generalize slotO dstN9 a2 1 = r1
                          generalize slotO dstN9 a2 2 = r2
                          generalize slotO dstN9 a2 3 = r3
                          generalize slotO dstN9 a2 4 = r4
                          generalize slotO dstN9 a2 5 = r5
                          generalize slotO dstN9 a2 6 = r6
                          generalize slotO dstN9 a2 7 = r7
                          generalize slotO dstN9 a2 8 = r8
                          generalize slotO dstN9 a2 9 = r9
                          generalize slotO dstN9 a2 10 = r10
                          generalize slotO dstN9 a2 11 = r11
                          generalize slotO dstN9 a2 12 = r12
                          generalize slotO dstN9 a2 13 = r13
                          generalize slotO dstN9 a2 14 = r14
                          generalize slotO dstN9 a2 15 = r15
                          generalize slotO dstN9 a2 16 = r16
                          generalize slotO dstN9 a2 17 = r17
                          generalize slotO dstN9 a2 18 = r18
                          generalize slotO dstN9 a2 19 = r19
                          clear a2
                          go_simp
                          go_wp2_with fail
                          go_roundw
                          case rel => exact ⟨i + 1, by first | rw [hwi] | rfl, Aside0.mk HIN.out, HI4, HT9⟩
                          case measure => have := HIN.out; first | (rw [hwi]; simp [intOf]; omega) | (simp [intOf]; omega)
                      · have HFR := Aside0.mk (fun W (hW : Below w4.heap.size w4 W) => from_calls (HM.out.l1.below hW) HM.out.n1.lo (by have := HM.out.n1.hi; have := HM.out.n1.len; have := HI4.out; omega) y.f1 y.f3 HCE.out.2.2.1 (by have := HM.out.n1.len; have := HI4.out; omega) HM.out.n1.oe)
                        have K21 := Aside0.mk (fun n => last_x (HM.out.l2.drewN n) (by have := HM.out.n1.lo; omega) (by have := HM.out.n1.hi; have := HM.out.n1.len; have := HI4.out; omega))
                        have c20 : w4.cell? ⟨g2, 0, none⟩ = some (.int .i64 a) := by obtain ⟨_, _, q, _⟩ := HM.out.l2.cells; exact q
                        have f1 : decide (a < y.f1) = true := decide_eq_true hA0
                        have f2 : decide (y.f1 ≤ a + (es.length : Int)) = false := decide_eq_false hB0
                        go_wp2_with fail
                        go_quiet ((go_at_call 21; exact Calls.quiet_of (K21.out _)))
                        go_wp2_with fail
                        clear K21
                        have HWL := Aside0.mk (show fromL a es y.f1 y.f3 = [] ∧ ([] : List S60).length = 0 ∧ Kd.C k60 w4 none ([] : List S60).length [] ∧ 0 ≤ 0 ∧ (∀ x ∈ ([] : List S60), okS x) from ⟨by unfold fromL; rw [if_neg (by omega), if_pos (by omega)], rfl, Kd.C_nil _ _, Nat.le_refl _, fun x h => by simp at h⟩)
                        have HWN := Aside0.mk (pw_below_drewN (Below.refl w4.heap.size w4) nq)

                        refine (HFR.out (w4.drewN nq) HWN.out).mono ?_
                        rw [HWL.out.1]
                        rintro _ wf ⟨vf, rfl, hRf, hBf⟩
                        obtain ⟨Af, cf, rfl⟩ := Kd.R_slice hRf
                        change Kd.R k60 60 wf _ _ (.slice Af 0 cf) [] at hRf
                        simp only [List.length_nil]
                        have HRF := Aside0.mk hRf
                        have HBF := Aside0.mk (show Below w4.heap.size w4 wf from HWN.out.trans (hBf.mono HWN.out.size))
                        clear hRf hBf HFR
                        go_wp2_with fail
                        have hsm := same_calls wf Af none cf 0 [] (Kd.R_reads' HRF.out).2.2 (Nat.zero_le _) (by have := Kd.C_below HWL.out.2.2.1 HBF.out; exact this) (Nat.le_refl _) HWL.out.2.2.2.2
                        simp only [List.length_nil] at hsm
                        refine hsm.mono ?_
                        clear hsm
                        rintro _ wt ⟨rfl, hBt⟩
                        have H9 := Aside0.mk (show Mid w wt g1 g2 b ok1 ok2 okO a t es es y Ae ce (.slice Ao y.f4.length co) (i + 1) (i + 1) from (HM.out.below (HBF.out.trans (hBt.mono HBF.out.size))).up)
                        clear hBt

                        have p1' : wt.cell? ⟨b, 1, none⟩ = some (.int .i64 y.f1) := (blk_cell H9.out.box 1).trans rfl
                        have p2' : wt.cell? ⟨b, 2, none⟩ = some (.int .i64 y.f2) := (blk_cell H9.out.box 2).trans rfl
                        have p4' : wt.cell? ⟨b, 4, none⟩ = some (.slice Ae y.f4.length ce) := (blk_cell H9.out.box 4).trans rfl
                        go_wp2_with fail
                        refine (same_calls wt Ao Ae co ce y.f4 (Kd.R_reads' H9.out.own).2.2 (Kd.R_reads' H9.out.own).2.1 (Kd.C_below H9.out.eC H9.out.be) H9.out.ec HCE.out.2.2.2.2).mono ?_
                        rintro _ wu ⟨rfl, hbu⟩
                        have HU := Aside0.mk (H9.out.below hbu)
                        clear hbu p1' p2' p4'
                        go_wp2_with fail
                        refine (spoil_calls HU.out.own (by have := H100.out; omega)).mono ?_
                        rintro _ wv ⟨rfl, hKv, hBv⟩
                        have HV := Aside0.mk (HU.out.spoilt hKv hBv)
                        clear hKv hBv
                        go_wp2_with fail
                        obtain ⟨o1, o2, a9, t9, es9, HV⟩ : ∃ o1 o2 a9 t9 es9, Aside0 (Two w wv g1 g2 o1 o2 a9 t9 es9 (i + 1) ∧ wv.heap[b]? = some (Obj.cells #[.int .i64 y.f0, .int .i64 y.f1, .int .i64 y.f2, .int .i64 y.f3, .slice Ae y.f4.length ce] 49) ∧ b < wv.heap.size) := ⟨_, _, _, _, _, HV⟩
                        refine regionN9 (by kernel_rfl) wv o1 o2 g1 g2 b a9 t9 es9 y Ae ce (i + 1) HV.out.1.nm HI4.out _ wv ?hI10 rfl rfl rfl rfl ?_
                        case hI10 => rintro (_ | _) <;> first | exact ⟨HV.out.2.1, HV.out.1.l1, HV.out.1.l2, Below.refl _ _⟩ | exact True.intro
                        intro a2 w9 hA h20 hI9
                        have e20 : slotO dstN9 a2 20 = .bool false := h20
                        have HT9 := Aside0.mk (show St2 w w9 g1 g2 (i + 1) from (HV.out.1.below hI9.2.2.2).st)
                        clear h20 hI9
                        rw [hA.frame hinN9]
                        clear hA
                        simp only [List.range_succ, List.range_zero, List.nil_append, List.cons_append, foldO, dstN9, List.getD_cons_zero, List.getD_cons_succ, Act.put]
                        rw [e20]
                        clear e20
                        generalize slotO dstN9 a2 0 = r0
                        generalize slotO dstN9 a2 1 = r1
                        generalize slotO dstN9 a2 2 = r2
                        generalize slotO dstN9 a2 3 = r3
                        generalize slotO dstN9 a2 4 = r4
                        generalize slotO dstN9 a2 5 = r5
                        generalize slotO dstN9 a2 6 = r6
                        generalize slotO dstN9 a2 7 = r7
                        generalize slotO dstN9 a2 8 = r8
                        generalize slotO dstN9 a2 9 = r9
                        generalize slotO dstN9 a2 10 = r10
                        generalize slotO dstN9 a2 11 = r11
                        generalize slotO dstN9 a2 12 = r12
                        generalize slotO dstN9 a2 13 = r13
                        generalize slotO dstN9 a2 14 = r14
                        generalize slotO dstN9 a2 15 = r15
                        generalize slotO dstN9 a2 16 = r16
                        generalize slotO dstN9 a2 17 = r17
                        generalize slotO dstN9 a2 18 = r18
                        generalize slotO dstN9 a2 19 = r19
                        clear a2
                        go_simp
                        go_wp2_with fail
                        go_roundw
                        case rel => exact ⟨i + 1, by first | rw [hwi] | rfl, Aside0.mk HIN.out, HI4, HT9⟩
                        case measure => have := HIN.out; first | (rw [hwi]; simp [intOf]; omega) | (simp [intOf]; omega)
                    · have HFR := Aside0.mk (fun W (hW : Below w4.heap.size w4 W) => from_calls (HM.out.l1.below hW) HM.out.n1.lo (by have := HM.out.n1.hi; have := HM.out.n1.len; have := HI4.out; omega) y.f1 y.f3 HCE.out.2.2.1 (by have := HM.out.n1.len; have := HI4.out; omega) HM.out.n1.oe)
                      have K21 := Aside0.mk (fun n => last_x (HM.out.l2.drewN n) (by have := HM.out.n1.lo; omega) (by have := HM.out.n1.hi; have := HM.out.n1.len; have := HI4.out; omega))
                      have c20 : w4.cell? ⟨g2, 0, none⟩ = some (.int .i64 a) := by obtain ⟨_, _, q, _⟩ := HM.out.l2.cells; exact q
                      have f1 : decide (a < y.f1) = false := decide_eq_false hA0
                      go_wp2_with fail
                      go_quiet ((go_at_call 21; exact Calls.quiet_of (K21.out _)))
                      go_wp2_with fail
                      clear K21
                      have HWL := Aside0.mk (show fromL a es y.f1 y.f3 = [] ∧ ([] : List S60).length = 0 ∧ Kd.C k60 w4 none ([] : List S60).length [] ∧ 0 ≤ 0 ∧ (∀ x ∈ ([] : List S60), okS x) from ⟨by unfold fromL; rw [if_pos (by omega)], rfl, Kd.C_nil _ _, Nat.le_refl _, fun x h => by simp at h⟩)
                      have HWN := Aside0.mk (pw_below_drewN (Below.refl w4.heap.size w4) nq)

                      refine (HFR.out (w4.drewN nq) HWN.out).mono ?_
                      rw [HWL.out.1]
                      rintro _ wf ⟨vf, rfl, hRf, hBf⟩
                      obtain ⟨Af, cf, rfl⟩ := Kd.R_slice hRf
                      change Kd.R k60 60 wf _ _ (.slice Af 0 cf) [] at hRf
                      simp only [List.length_nil]
                      have HRF := Aside0.mk hRf
                      have HBF := Aside0.mk (show Below w4.heap.size w4 wf from HWN.out.trans (hBf.mono HWN.out.size))
                      clear hRf hBf HFR
                      go_wp2_with fail
                      have hsm := same_calls wf Af none cf 0 [] (Kd.R_reads' HRF.out).2.2 (Nat.zero_le _) (by have := Kd.C_below HWL.out.2.2.1 HBF.out; exact this) (Nat.le_refl _) HWL.out.2.2.2.2
                      simp only [List.length_nil] at hsm
                      refine hsm.mono ?_
                      clear hsm
                      rintro _ wt ⟨rfl, hBt⟩
                      have H9 := Aside0.mk (show Mid w wt g1 g2 b ok1 ok2 okO a t es es y Ae ce (.slice Ao y.f4.length co) (i + 1) (i + 1) from (HM.out.below (HBF.out.trans (hBt.mono HBF.out.size))).up)
                      clear hBt

                      have p1' : wt.cell? ⟨b, 1, none⟩ = some (.int .i64 y.f1) := (blk_cell H9.out.box 1).trans rfl
                      have p2' : wt.cell? ⟨b, 2, none⟩ = some (.int .i64 y.f2) := (blk_cell H9.out.box 2).trans rfl
                      have p4' : wt.cell? ⟨b, 4, none⟩ = some (.slice Ae y.f4.length ce) := (blk_cell H9.out.box 4).trans rfl
                      go_wp2_with fail
                      refine (same_calls wt Ao Ae co ce y.f4 (Kd.R_reads' H9.out.own).2.2 (Kd.R_reads' H9.out.own).2.1 (Kd.C_below H9.out.eC H9.out.be) H9.out.ec HCE.out.2.2.2.2).mono ?_
                      rintro _ wu ⟨rfl, hbu⟩
                      have HU := Aside0.mk (H9.out.below hbu)
                      clear hbu p1' p2' p4'
                      go_wp2_with fail
                      refine (spoil_calls HU.out.own (by have := H100.out; omega)).mono ?_
                      rintro _ wv ⟨rfl, hKv, hBv⟩
                      have HV := Aside0.mk (HU.out.spoilt hKv hBv)
                      clear hKv hBv
                      go_wp2_with fail
                      obtain ⟨o1, o2, a9, t9, es9, HV⟩ : ∃ o1 o2 a9 t9 es9, Aside0 (Two w wv g1 g2 o1 o2 a9 t9 es9 (i + 1) ∧ wv.heap[b]? = some (Obj.cells #[.int .i64 y.f0, .int .i64 y.f1, .int .i64 y.f2, .int .i64 y.f3, .slice Ae y.f4.length ce] 49) ∧ b < wv.heap.size) := ⟨_, _, _, _, _, HV⟩
                      refine regionN9 (by kernel_rfl) wv o1 o2 g1 g2 b a9 t9 es9 y Ae ce (i + 1) HV.out.1.nm HI4.out _ wv ?hI11 rfl rfl rfl rfl ?_
                      case hI11 => rintro (_ | _) <;> first | exact ⟨HV.out.2.1, HV.out.1.l1, HV.out.1.l2, Below.refl _ _⟩ | exact True.intro
                      intro a2 w9 hA h20 hI9
                      have e20 : slotO dstN9 a2 20 = .bool false := h20
                      have HT9 := Aside0.mk (show St2 w w9 g1 g2 (i + 1) from (HV.out.1.below hI9.2.2.2).st)
                      clear h20 hI9
                      rw [hA.frame hinN9]
                      clear hA
                      simp only [List.range_succ, List.range_zero, List.nil_append, List.cons_append, foldO, dstN9, List.getD_cons_zero, List.getD_cons_succ, Act.put]
                      rw [e20]
                      clear e20
                      generalize slotO dstN9 a2 0 = r0
                      generalize slotO dstN9 a2 1 = r1
                      generalize slotO dstN9 a2 2 = r2
                      generalize slotO dstN9 a2 3 = r3
                      generalize slotO dstN9 a2 4 = r4
                      generalize slotO dstN9 a2 5 = r5
                      generalize slotO dstN9 a2 6 = r6
                      generalize slotO dstN9 a2 7 = r7
                      generalize slotO dstN9 a2 8 = r8
                      generalize slotO dstN9 a2 9 = r9
                      generalize slotO dstN9 a2 10 = r10
                      generalize slotO dstN9 a2 11 = r11
                      generalize slotO dstN9 a2 12 = r12
                      generalize slotO dstN9 a2 13 = r13
                      generalize slotO dstN9 a2 14 = r14
                      generalize slotO dstN9 a2 15 = r15
                      generalize slotO dstN9 a2 16 = r16
                      generalize slotO dstN9 a2 17 = r17
                      generalize slotO dstN9 a2 18 = r18
                      generalize slotO dstN9 a2 19 = r19
                      clear a2
                      go_simp
                      go_wp2_with fail
                      go_roundw
                      case rel => exact ⟨i + 1, by first | rw [hwi] | rfl, Aside0.mk HIN.out, HI4, HT9⟩
                      case measure => have := HIN.out; first | (rw [hwi]; simp [intOf]; omega) | (simp [intOf]; omega)
      · have d1 : decide ((i : Int) < (n : Int)) = false := decide_eq_false (by omega)
        have hin2 : ¬ ((i : Int) < (n : Int)) := by omega
        go_wp2_with fail
        go_ret
        exact ⟨rfl, HBW.out⟩

end Go.Proofs.Ytigjfnleinhahaa.PLog
