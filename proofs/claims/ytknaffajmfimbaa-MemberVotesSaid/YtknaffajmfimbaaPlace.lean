/- member.Place, walked. -/
import Derived.Test.YtknaffajmfimbaaPlaceR
namespace Go.Proofs.Ytknaffajmfimbaa.PHe
open Go.RowKit Go.Proofs.YtknaffajmfimbaaW.PrintWords Go.Proofs.YtknaffajmfimbaaW.PrintLast Go.Proofs.YtknaffajmfimbaaW.PrintMore
open Go.Proofs Go.Proofs.Ytknaffajmfimbaa Go.Shelf Go.Proofs.Ytknaffajmfimbaa.Reg
set_option linter.unusedVariables false
set_option linter.unusedSimpArgs false
set_option maxHeartbeats 4000000
set_option maxRecDepth 100000

def atL (a0 a1 a2 a3 a4 a5 a6 : Int) : List Int := [a0, a1, a2, a3, a4, a5, a6]
def inR (x : Int) : Bool := decide (0 ≤ x) && decide (x < 7)
/-- member.Place in plain lists. -/
def placeV (l at_s : List Int) : Int := if l.all inR then (if l.length = 0 then 0 else placeB (l.map (fun x => at_ at_s x.toNat))) else 0
theorem at_cell {W : World} {g : Nat} {a0 a1 a2 a3 a4 a5 a6 : Int} (h : W.heap[g]? = some (.cells #[.int .i64 a0, .int .i64 a1, .int .i64 a2, .int .i64 a3, .int .i64 a4, .int .i64 a5, .int .i64 a6] 34 (0, 0))) (x : Int) (hx : 0 ≤ x) (hx7 : x < 7) : W.cell? ⟨g, x.toNat, none⟩ = some (.int .i64 (at_ (atL a0 a1 a2 a3 a4 a5 a6) x.toNat)) := by
  have hc : x = 0 ∨ x = 1 ∨ x = 2 ∨ x = 3 ∨ x = 4 ∨ x = 5 ∨ x = 6 := by omega
  rcases hc with rfl | rfl | rfl | rfl | rfl | rfl | rfl <;> exact (blk_cell h _).trans rfl
theorem boxed_app {W0 W w1 : World} {base B : Nat} {t e : TypeId} {size : Nat} {v v' : Value} {k m : Nat} {xs ys : List Value} (hv : Boxed W B t v) (hte : t ≠ e) (hrow : W.ownsRow base e size v k xs) (hB : base ≤ B)
    (hown' : w1.ownsRow base e size v' m ys) (hg : W.grownBy w1 v.ownBlock) (hb : Below base W0 w1) :
    Boxed w1 B t v ∧ Boxed (w1.setCell ⟨B, 0, none⟩ v') B t v' ∧ (w1.setCell ⟨B, 0, none⟩ v').ownsRow base e size v' m ys ∧ Below base W0 (w1.setCell ⟨B, 0, none⟩ v') := by
  have hv1 : Boxed w1 B t v := hv.kept hg (hv.not_row hte hrow)
  exact ⟨hv1, hv1.set v', hown'.kept (grownBy_setCell' w1 B v') (.inr (hv1.not_row hte hown').symm), hb.setCell (p := ⟨B, 0, none⟩) hB v'⟩
theorem most_is (l : List Int) (hl : l.length ≤ 1000000) : PA.member_Most.f l = some ((l.length / 2 + 1 : Nat) : Int) := by
  have h1 : wrap64 ((l.length : Int) / 2) = ((l.length / 2 : Nat) : Int) := by unfold wrap64; omega
  have h2 : wrap64 (((l.length / 2 : Nat) : Int) + 1) = ((l.length / 2 + 1 : Nat) : Int) := by unfold wrap64; omega
  unfold PA.member_Most.f
  rw [h1, h2]
theorem run_assert (z : Int) (W : World) : (Instr.typeAssert (.iface 3 (.int .i64 z)) 20 3 false).run Try.prog W = .ok (.int .i64 z) W := by
  have hu := Try.underlying3
  simp [Instr.typeAssert, Sem.run_bind, Sem.run_pure, hu]
theorem down_length : ∀ (f : Nat) (l : List Int) (i n : Nat), (down_ f l i n).length = l.length
  | 0, l, i, n => rfl
  | f + 1, l, i, n => by
    unfold down_
    by_cases c1 : 2 * i + 1 < n
    · rw [if_pos c1]
      generalize (if 2 * i + 2 < n ∧ at_ l (2 * i + 2) > at_ l (2 * i + 1) then 2 * i + 2 else 2 * i + 1) = j
      by_cases c2 : at_ l j > at_ l i
      · rw [if_pos c2, down_length f, swap_length]
      · rw [if_neg c2]
    · rw [if_neg c1]
theorem init_length : ∀ (i : Nat) (l : List Int), (init_ i l).length = l.length
  | 0, l => rfl
  | i + 1, l => by show (init_ i _).length = _; rw [init_length i, down_length]
theorem pop_length (l : List Int) : (pop_ l).1.length = l.length - 1 := by
  show (List.take _ _).length = _
  rw [List.length_take, down_length, swap_length]; omega
set_option maxHeartbeats 8000000 in
theorem place_calls (w : World) (A0 : Option Addr) (c0 : Nat) (l : List Int) (a0 a1 a2 a3 a4 a5 a6 : Int) (hC : Kd.C (Kd.int .i64) w A0 l.length l) (hc : l.length ≤ c0) (hl : l.length ≤ 100) :
    Calls Try.prog 22 #[.slice A0 l.length c0, .agg #[.int .i64 a0, .int .i64 a1, .int .i64 a2, .int .i64 a3, .int .i64 a4, .int .i64 a5, .int .i64 a6]] w fun e w' => e = .returned (.int .i64 (placeV l (atL a0 a1 a2 a3 a4 a5 a6))) ∧ Below w.heap.size w w' := by
  obtain ⟨wa, hwa⟩ : ∃ wa, wa = w.alloc (.cells #[.int .i64 a0, .int .i64 a1, .int .i64 a2, .int .i64 a3, .int .i64 a4, .int .i64 a5, .int .i64 a6] 34) := ⟨_, rfl⟩
  have HBa := Aside0.mk (show Below w.heap.size w wa by rw [hwa]; exact below_alloc (Below.refl w.heap.size w) _)
  have hsz : wa.heap.size = w.heap.size + 1 := by rw [hwa]; simp
  have HSZ := Aside0.mk hsz
  have HG := Aside0.mk (show wa.heap[w.heap.size]? = some (.cells #[.int .i64 a0, .int .i64 a1, .int .i64 a2, .int .i64 a3, .int .i64 a4, .int .i64 a5, .int .i64 a6] 34 (0, 0)) by rw [hwa]; exact heap_alloc_new w _)
  have HC := Aside0.mk hC
  have HL := Aside0.mk (And.intro hc hl)
  obtain ⟨i0, hi, hz0, hz1, hz2⟩ := info_parts info3
  clear hC hc hl hsz
  have hta := run_assert
  go_enter Try.func22, Try.ntmps22
  go_upto_region 2 with fail
  rw [← hwa]
  have HBx0 := Aside0.mk (Boxed.new wa 22 (.slice none 0 0))
  have HB0 := Aside0.mk (below_alloc (Below.refl wa.heap.size wa) (.cells #[.slice none 0 0] 22))
  have HR0 := Aside0.mk (show Kd.R (Kd.int .i64) 3 (wa.alloc (.cells #[.slice none 0 0] 22)) wa.heap.size (fun _ => True) (.slice none 0 0) ((l.take 0).map (fun x => at_ (atL a0 a1 a2 a3 a4 a5 a6) x.toNat)) from Kd.R_of_own (h1 := fun _ => rfl) (World.ownsRow_nil _ _ _ _) (fun _ _ => trivial))
  clear hwa
  generalize wa.alloc (.cells #[.slice none 0 0] 22) = wb at *
  go_wp2_with fail
  go_loopw [7, 12] (fun _ v12 wr => ∃ (k : Nat) (v : Value), v12 = .int .i64 (k : Int) ∧ Aside0 (k ≤ l.length ∧ (l.take k).all inR = true) ∧ Aside0 (Boxed wr wa.heap.size 22 v) ∧ Aside0 (Kd.R (Kd.int .i64) 3 wr wa.heap.size (fun _ => True) v ((l.take k).map (fun x => at_ (atL a0 a1 a2 a3 a4 a5 a6) x.toNat))) ∧ Aside0 (Below wa.heap.size wa wr)) (fun _ v12 _ => l.length - (intOf v12).toNat)
  case atStart => exact ⟨0, _, rfl, Aside0.mk ⟨Nat.zero_le _, rfl⟩, HBx0, HR0, HB0⟩
  case round =>
    clear HBx0 HR0 HB0
    obtain ⟨k, v, rfl, HK, HBx, HR, HB⟩ := hrel
    by_cases c1 : k < l.length
    · have d1 : decide (k < l.length) = true := decide_eq_true c1
      obtain ⟨ad, had, hcell⟩ := Kd.at_int (Kd.C_below HC.out (HBa.out.trans (HB.out.mono HBa.out.size))) (k : Int) (by omega) (by omega)
      cases had
      rw [Int.toNat_natCast] at hcell
      obtain ⟨x, hx⟩ : ∃ x, x = rd l (k : Int) := ⟨_, rfl⟩
      rw [← hx] at hcell
      have HX := Aside0.mk (show l.take (k + 1) = l.take k ++ [x] by
        rw [List.take_succ_eq_append_getElem c1, hx, rd_at]
        unfold at_
        rw [List.getElem?_eq_getElem c1]; rfl)
      have HXM := Aside0.mk (show x ∈ l by rw [hx, rd_at]; exact at_mem c1)
      have HK1 := Aside0.mk c1
      clear hx
      replace c1 := eq_true c1
      cases q0 : decide (x < 0) with
      | true =>
        have HE := Aside0.mk (show placeV l (atL a0 a1 a2 a3 a4 a5 a6) = 0 by
          have h0 := of_decide_eq_true q0
          unfold placeV
          rw [if_neg]
          intro h
          have := List.all_eq_true.1 h x HXM.out
          unfold inR at this
          rw [Bool.and_eq_true] at this
          have := of_decide_eq_true this.1
          omega)
        go_wp2_with fail
        go_ret
        exact ⟨by rw [HE.out]; rfl, HBa.out.trans (HB.out.mono (by have := HSZ.out; omega))⟩
      | false =>
        cases q7 : decide (7 ≤ x) with
        | true =>
          have HE := Aside0.mk (show placeV l (atL a0 a1 a2 a3 a4 a5 a6) = 0 by
            have h0 := of_decide_eq_true q7
            unfold placeV
            rw [if_neg]
            intro h
            have := List.all_eq_true.1 h x HXM.out
            unfold inR at this
            rw [Bool.and_eq_true] at this
            have := of_decide_eq_true this.2
            omega)
          go_wp2_with fail
          go_ret
          exact ⟨by rw [HE.out]; rfl, HBa.out.trans (HB.out.mono (by have := HSZ.out; omega))⟩
        | false =>
          have h0 := of_decide_eq_false q0
          have h7 := of_decide_eq_false q7
          have HIN := Aside0.mk (show inR x = true by unfold inR; rw [decide_eq_true (by omega), decide_eq_true (by omega)]; rfl)
          have hat := (at_cell ((HB.out.block w.heap.size (by have := HSZ.out; omega)).trans HG.out) x (by omega) (by omega))
          obtain ⟨y, hy⟩ : ∃ y, y = at_ (atL a0 a1 a2 a3 a4 a5 a6) x.toNat := ⟨_, rfl⟩
          rw [← hy] at hat
          have HI := Aside0.mk (show ∀ c, IP wa w.heap.size (w.heap.size + 1) v ((l.take k).map (fun x => at_ (atL a0 a1 a2 a3 a4 a5 a6) x.toNat)) x y c wr from fun c => by
            match c with
            | 0 => exact ⟨hat, by omega, by omega⟩
            | 1 => exact ⟨by rw [← HSZ.out]; exact HBx.out, HR.out, HB.out, by have := HSZ.out; omega, by rw [List.length_map, List.length_take]; have := HL.out; omega⟩
            | c + 2 => exact True.intro)
          have HY := Aside0.mk hy
          clear h0 h7 hy hat
          go_upto_region 7 with fail
          refine regionP (by kernel_rfl) wa w.heap.size (w.heap.size + 1) v ((l.take k).map (fun x => at_ (atL a0 a1 a2 a3 a4 a5 a6) x.toNat)) x y _ wr HI.out rfl rfl rfl rfl ?_
          intro aq w2 hA hF
          obtain ⟨v', hx2, hr2, hb2⟩ : ∃ v', Boxed w2 (w.heap.size + 1) 22 v' ∧ Kd.R (Kd.int .i64) 3 w2 wa.heap.size (fun _ => True) v' ((l.take k).map (fun x => at_ (atL a0 a1 a2 a3 a4 a5 a6) x.toNat) ++ [y]) ∧ Below wa.heap.size wa w2 := hF
          have e1 : (l.take k).map (fun x => at_ (atL a0 a1 a2 a3 a4 a5 a6) x.toNat) ++ [y] = (l.take (k + 1)).map (fun x => at_ (atL a0 a1 a2 a3 a4 a5 a6) x.toNat) := by rw [HX.out, List.map_append, HY.out]; rfl
          rw [e1] at hr2
          have HV2 := Aside0.mk hx2
          have HR4 := Aside0.mk hr2
          have HB4 := Aside0.mk hb2
          clear hx2 hr2 hb2 e1
          rw [hA.frame hinP]
          clear hA
          simp only [List.range_succ, List.range_zero, List.nil_append, List.cons_append, foldO, dstP, List.getD_cons_zero, List.getD_cons_succ, Act.put]
          generalize slotO dstP aq 0 = y0
          generalize slotO dstP aq 1 = y1
          generalize slotO dstP aq 2 = y2
          generalize slotO dstP aq 3 = y3
          generalize slotO dstP aq 4 = y4
          generalize slotO dstP aq 5 = y5
          generalize slotO dstP aq 6 = y6
          clear aq
          go_wp2_with fail
          go_roundw
          case rel => exact ⟨k + 1, _, by (congr 1; have := HK1.out; have := HL.out; unfold wrap64; omega), Aside0.mk ⟨HK1.out, by rw [HX.out, List.all_append, HK.out.2]; simp [HIN.out]⟩, by rw [HSZ.out]; exact HV2, HR4, HB4⟩
          case measure =>
            have hw : wrap64 ((k : Int) + 1) = ((k + 1 : Nat) : Int) := by have := HK1.out; have := HL.out; unfold wrap64; omega
            rw [hw]; have := HK1.out; simp [intOf]; omega
    · have d1 : decide (k < l.length) = false := decide_eq_false c1
      have hk : k = l.length := by have := HK.out.1; omega
      subst hk
      rw [List.take_length] at HK HR
      have HALL := Aside0.mk HK.out.2
      have hbc := HBx.out.cell
      rw [HSZ.out] at hbc
      clear HK c1
      by_cases hl0 : l.length = 0
      · have hl1 : l = [] := List.length_eq_zero_iff.1 hl0
        subst hl1
        have HE := Aside0.mk (show placeV [] (atL a0 a1 a2 a3 a4 a5 a6) = 0 from rfl)
        rcases (Kd.own_of_R HR.out).2 with ⟨rfl, _⟩ | ⟨g, cap, cur, rfl, _⟩
        · go_wp2_with fail
          go_ret
          exact ⟨by rw [HE.out]; rfl, HBa.out.trans (HB.out.mono (by have := HSZ.out; omega))⟩
        · go_wp2_with fail
          go_ret
          exact ⟨by rw [HE.out]; rfl, HBa.out.trans (HB.out.mono (by have := HSZ.out; omega))⟩
      · have HL0 := Aside0.mk (show 0 < l.length by omega)
        have HE := Aside0.mk (show placeV l (atL a0 a1 a2 a3 a4 a5 a6) = placeB (l.map (fun x => at_ (atL a0 a1 a2 a3 a4 a5 a6) x.toNat)) by unfold placeV; rw [if_pos HALL.out, if_neg hl0])
        obtain ⟨L, hL⟩ : ∃ L, L = l.map (fun x => at_ (atL a0 a1 a2 a3 a4 a5 a6) x.toNat) := ⟨_, rfl⟩
        have hLl : L.length = l.length := by rw [hL, List.length_map]
        rw [← hL] at HR HE
        have ho := Kd.own_of_R HR.out
        rcases ho.2 with ⟨_, h0⟩ | ⟨g, cap, cur, rfl, _⟩
        · exact absurd h0 (by omega)
        have hne : wa.heap.size ≠ g := fun e => HBx.out.not_row (by decide) ho (by simp [Value.ownBlock, e])
        have HS := Aside0.mk (show St wa.heap.size g cap wa.heap.size L wr from ⟨HBx.out, R_only HR.out, hne⟩)
        have HLL := Aside0.mk hLl
        clear ho hne hL HR HBx hl0 HALL hLl
        have HIC := Aside0.mk (init_calls HS.out HB.out (by rw [HLL.out]; have := HL.out; omega))
        have HIP := Aside0.mk (And.intro (init_length (L.length / 2) L) (show placeB L = (pops_ (L.length / 2 + 1) (init_ (L.length / 2) L) 0).2 from rfl))
        generalize init_ (L.length / 2) L = I at *
        obtain ⟨nn, hnn⟩ : ∃ nn, nn = L.length := ⟨_, rfl⟩
        have HNN := Aside0.mk (show nn = l.length from hnn.trans HLL.out)
        rw [← hnn] at hbc
        have h00 : ((nn : Int) == 0) = false := by have := HL0.out; have := HNN.out; simp; omega
        rw [HSZ.out] at HIC
        clear hnn
        go_wp2_with fail
        refine HIC.out.mono ?_
        rintro _ w4 ⟨rfl, hs4, hb4⟩
        rw [← HSZ.out] at hs4 hb4
        have HS4 := Aside0.mk hs4
        have HB4 := Aside0.mk hb4
        obtain ⟨m, hm⟩ : ∃ m, m = l.length / 2 + 1 := ⟨_, rfl⟩
        have hmc := PA.member_Most.calls A0 c0 l (m : Int) w4 (Kd.C_below HC.out (HBa.out.trans (hb4.mono HBa.out.size))) HL.out.1 (by rw [most_is l (by have := HL.out.2; omega), hm])
        have HMC := Aside0.mk hmc
        have HM := Aside0.mk hm
        clear hs4 hb4 hm hmc h00 hbc HIC HS HB
        go_wp2_with fail
        refine HMC.out.mono ?_
        rintro _ w5 ⟨rfl, hd5⟩
        have hb5 := Drawn0.below hd5
        have HS5 := Aside0.mk (HS4.out.below hb5)
        have HB5 := Aside0.mk (HB4.out.trans (hb5.mono HB4.out.size))
        clear hd5 hb5 HMC HS4 HB4
        go_wp2_with fail
        go_loopw [9, 37] (fun v9 v37 wq => ∃ (j : Nat) (pv : Int) (cur : List Int), v37 = .int .i64 (j : Int) ∧ v9 = .int .i64 pv ∧ Aside0 (j ≤ m ∧ (pops_ (m - j) cur pv).2 = placeB L ∧ cur.length = l.length - j) ∧ Aside0 (St wa.heap.size g cap wa.heap.size cur wq) ∧ Aside0 (Below wa.heap.size wa wq)) (fun _ v37 _ => m - (intOf v37).toNat)
        case atStart => exact ⟨0, 0, I, rfl, rfl, Aside0.mk ⟨Nat.zero_le _, by rw [HM.out, Nat.sub_zero, ← HLL.out]; exact HIP.out.2.symm, by rw [HIP.out.1, HLL.out]; rfl⟩, HS5, HB5⟩
        case round =>
          clear HS5 HB5
          obtain ⟨j, pv, cur, rfl, rfl, HJ, HSq, HBq⟩ := hrel
          by_cases c1 : j < m
          · have d2 : decide (j < m) = true := decide_eq_true c1
            have HJ1 := Aside0.mk c1
            have hpc := pop_calls HSq.out HBq.out (Nat.le_refl _) (by have := HJ.out.2.2; have := HL.out.2; omega) (by have := HJ.out.2.2; have := HM.out; have := HL0.out; omega)
            rw [HSZ.out] at hpc
            have HPC := Aside0.mk hpc
            have hw : wrap64 ((j : Int) + 1) = ((j + 1 : Nat) : Int) := by have := HM.out; have := HL.out.2; unfold wrap64; omega
            clear c1 hpc
            go_wp2_with fail
            refine HPC.out.mono ?_
            rintro _ w6 ⟨rfl, hs6, hb6⟩
            rw [← HSZ.out] at hs6 hb6
            have HS6 := Aside0.mk hs6
            have HB6 := Aside0.mk hb6
            have HP6 := Aside0.mk (show (pops_ (m - (j + 1)) (pop_ cur).1 (pop_ cur).2).2 = placeB L by
              rw [← HJ.out.2.1]
              have : m - j = (m - (j + 1)) + 1 := by have := HJ1.out; omega
              rw [this]; rfl)
            have HPL := Aside0.mk (pop_length cur)
            generalize (pop_ cur).1 = cur' at *
            generalize (pop_ cur).2 = pv' at *
            clear hs6 hb6 HPC
            go_wp2_with fail
            go_roundw
            case rel => exact ⟨j + 1, pv', cur', by rw [hw], rfl, Aside0.mk ⟨HJ1.out, HP6.out, by rw [HPL.out, HJ.out.2.2]; omega⟩, HS6, HB6⟩
            case measure => rw [hw]; have := HJ1.out; simp [intOf]; omega
          · have d2 : decide (j < m) = false := decide_eq_false c1
            have hj : j = m := by have := HJ.out.1; omega
            have HV := Aside0.mk (show pv = placeB L by rw [← HJ.out.2.1, hj, Nat.sub_self]; rfl)
            clear c1 hj
            go_wp2_with fail
            go_ret
            exact ⟨by rw [HE.out, ← HV.out]; rfl, HBa.out.trans (HBq.out.mono (by have := HSZ.out; omega))⟩

end Go.Proofs.Ytknaffajmfimbaa.PHe
