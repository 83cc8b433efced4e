/- Disk.Free walked. -/
import Derived.Test.YtgpinkgfgkolfaaFreeL
namespace Go.Proofs.Ytgpinkgfgkolfaa.PD
open Go.RowKit Go.Proofs.YtgpinkgfgkolfaaW.PrintWords Go.Proofs.YtgpinkgfgkolfaaW.PrintLast Go.Proofs.YtgpinkgfgkolfaaW.PrintMore
set_option linter.unusedVariables false
set_option linter.unusedSimpArgs false
set_option maxHeartbeats 4000000
set_option maxRecDepth 100000

open Go.Proofs Go.Maps
set_option maxHeartbeats 8000000 in
theorem free_calls (ok : Nat → Prop) (d : Nat) (A : Ab) (w : World) (h : DiskAt w ok d A) (hroom : wrap64 A.room = A.room) (hsz : A.dir.length * 8 ≤ 140737488351232) :
    Calls Try.prog 10 #[fptr d] w fun e w' => e = .returned (.int .i64 (wrap64 (freeL A))) ∧ Below w.heap.size w w' := by
  obtain ⟨bd, bs, tg, h⟩ := h
  have c0 : w.cell? ⟨d, 0, none⟩ = some (.int .i64 A.room) := h.cell 0
  have c1 : w.cell? ⟨d, 1, none⟩ = some (.map (some bd)) := h.cell 1
  have HD := Aside0.mk h
  have hown := h.2.2.2.2.2.1
  have HR := Aside0.mk hroom
  have HSZ := Aside0.mk hsz
  clear h hroom hsz
  unfold MapL at hown
  go_enter Try.func10, Try.ntmps10
  go_wp2_with (first
    | (at_range; refine wpList_range_own _ rfl _ 57 rfl 9 63 str_keyed Try.underlying57 _ bd _ _ rfl hown ?_; intro w0 hrg0 hg0 hs0)
    | go_in)
  go_frame
  have HB0 := Aside0.mk (below_grown (Below.refl w.heap.size w) hg0 (fun k e => by cases e) (Nat.le_refl _))
  clear c0 c1 hg0 hs0
  go_loopw [3, 5] (fun v3 _ wr => ∃ (left : Lit → Bool) (cnt : Nat), wr.ranges Try.prog 9 ptrRd bd w.heap.size A.dir.length (dirD A.dir) left cnt ∧ v3 = .int .i64 (wrap64 (A.room - doneS (lenF A) (fun k => !left (.string k)) A.dir)) ∧ Aside0 (Below w.heap.size w wr))
    (fun _ _ wr => wr.rangeLeft bd w.heap.size)
  case atStart => exact ⟨_, _, hrg0, by rw [doneS_none _ _ _ (fun x hx => by simp [has_dir hx]), Int.sub_zero, HR.out], HB0⟩
  case round =>
    clear hrg0 HB0
    obtain ⟨left, cnt, hrg, rfl, HB⟩ := hrel
    go_wp2_with (first
      | (at_next; refine wpList_next_ranges _ rfl _ rfl 9 str_keyed ptrRd encStr ptrV str_inv ptr_inv bd w.heap.size _ _ _ _ rfl hrg ?_ ?_)
      | go_in)
    · intro hc0 hl0
      obtain ⟨wz, hz⟩ : ∃ z, z = wr := ⟨_, rfl⟩
      subst hz
      have hD := HD.out.below HB.out
      have c0 : wz.cell? ⟨d, 0, none⟩ = some (.int .i64 A.room) := hD.cell 0
      have c2 : wz.cell? ⟨d, 2, none⟩ = some (.map (some bs)) := hD.cell 2
      have hown2 := hD.2.2.2.2.2.2.1
      have HBR := Aside0.mk HB.out
      rw [doneS_all _ _ _ (fun x _ => by rw [hl0]; rfl)]
      clear hD HB hrg hl0 hc0
      unfold MapL at hown2
      obtain ⟨R, hR⟩ : ∃ R, R = A.room - sumI (lenF A) A.dir := ⟨_, rfl⟩
      rw [← hR]
      have HRR := Aside0.mk hR
      clear hR
      go_wp2_with (first
        | (at_range; refine wpList_range_own _ rfl _ 57 rfl 9 63 str_keyed Try.underlying57 _ bs _ _ rfl hown2 ?_; intro w2 hrg2 hg2 hs2)
        | go_in)
      go_frame
      have HB2 := Aside0.mk (below_grown HBR.out hg2 (fun k e => by cases e) HBR.out.size)
      have HS2 := Aside0.mk HBR.out.size
      clear c0 c2 hg2 hs2 hown hown2
      go_loopw [3, 6, 7] (fun v3 _ _ wq => ∃ (left : Lit → Bool) (cnt : Nat), wq.ranges Try.prog 9 ptrRd bs wz.heap.size A.safe.length (dirD A.safe) left cnt ∧ v3 = .int .i64 (wrap64 (R - doneS (lenS A) (fun k => !left (.string k)) A.safe)) ∧ Aside0 (Below w.heap.size w wq))
        (fun _ _ _ wq => wq.rangeLeft bs wz.heap.size)
      case atStart => exact ⟨_, _, hrg2, by rw [doneS_none _ _ _ (fun x hx => by simp [has_dir hx]), Int.sub_zero], HB2⟩
      case round =>
        clear hrg2 HB2
        obtain ⟨left, cnt, hrg, rfl, HB⟩ := hrel
        go_wp2_with (first
          | (at_next; refine wpList_next_ranges _ rfl _ rfl 9 str_keyed ptrRd encStr ptrV str_inv ptr_inv bs wz.heap.size _ _ _ _ rfl hrg ?_ ?_)
          | go_in)
        · intro hc0 hl0
          have HFIN := Aside0.mk (show R - doneS (lenS A) (fun k => !left (.string k)) A.safe = freeL A by
            rw [doneS_all _ _ _ (fun x _ => by rw [hl0]; rfl), HRR.out]; rfl)
          rw [HFIN.out]
          clear hrg hl0 hc0
          go_wp2_with fail
          go_ret
          exact ⟨rfl, HB.out⟩
        · intro x c kl yd yp w3 cnt1 hkey hlx hv hat hrg1 hlt hg1 hs1 hen
          obtain rfl := str_key hkey
          have HKS := Aside0.mk (str_size hkey)
          obtain ⟨f, rfl, hfd⟩ := range_key hv hat
          have HB1 := Aside0.mk (below_grown HB.out hg1 (fun k e => by cases e; exact HS2.out) HB.out.size)
          have HQ := Aside0.mk (And.intro hrg1 (And.intro hlt (And.intro hfd (And.intro hlx hrg))))
          have hD := HD.out.below HB1.out
          have c1 : w3.cell? ⟨d, 1, none⟩ = some (.map (some bd)) := hD.cell 1
          have hpv : ptrV (some f) = .pointer (some ⟨f, 0, none⟩) := rfl
          rw [hpv]
          rw [hpv] at hen
          have HD3 := Aside0.mk hD
          clear hkey hlx hv hat hrg1 hlt hg1 hs1 hfd hrg HB hD hpv
          go_wp2_with fail
          refine (values_calls (some bd) w3).mono ?_
          rintro _ w4 ⟨rfl, hw4⟩
          have HC4 := Aside0.mk (collect_calls w3.heap.size bd A.dir HSZ.out w4 (by rw [hw4]; exact (blk_cell (heap_alloc_new w3 _) 0).trans rfl) (by rw [hw4]; simp) (by rw [hw4]; exact HD3.out.2.2.2.2.2.1.keep (Below.heap_alloc _ _ _ HD3.out.2.2.2.2.2.1.lt)))
          have HB4 := Aside0.mk (show Below w3.heap.size w3 w4 by rw [hw4]; exact below_alloc (Below.refl _ _) _)
          clear hw4
          go_wp2_with fail
          refine HC4.out.mono ?_
          rintro _ w5 ⟨v5, rfl, hx5, hb5⟩
          have HB5 := Aside0.mk (HB4.out.trans (hb5.mono HB4.out.size))
          have HX5 := Aside0.mk hx5
          clear hx5 hb5 HC4 HB4
          obtain ⟨xs, hrow, hxl, hmem⟩ := HX5.out
          have HD5 := Aside0.mk (HD3.out.below HB5.out)
          have HCN := Aside0.mk (contains_calls v5 xs f w4.heap.size w5 (by have := HSZ.out; omega) hrow (HD5.out.2.2.2.2.2.2.2 f (.inr ⟨x, findL_mem HQ.out.2.2.1⟩)).isFile (fun g hg => by
            obtain ⟨k, hk⟩ := (hmem g).1 hg
            exact (HD5.out.2.2.2.2.2.2.2 g (.inl ⟨k, findL_mem hk⟩)).isFile))
          have HM := Aside0.mk (hmem f)
          clear hrow hmem HX5
          go_wp2_with fail
          refine HCN.out.mono ?_
          rintro _ w6 ⟨rfl, hw6⟩
          rw [hw6]
          have HBN := Aside0.mk (HB1.out.trans (HB5.out.mono HB1.out.size))
          have hrg5 := HQ.out.1.kept (grown_of_below HB5.out) (by simp) (by simp)
          have HRG := Aside0.mk hrg5
          have HNS := Aside0.mk (HD.out.2.2.2.2.2.2.1.keys)
          clear HCN hw6 hrg5 c1 hen
          by_cases hin : f ∈ xs
          · rw [decide_eq_true hin]
            have HZ := Aside0.mk (show lenS A f = 0 by unfold lenS; exact if_pos (HM.out.1 hin))
            clear hin
            go_wp2_with fail
            go_roundw
            case rel => exact ⟨_, cnt1, HRG.out, by
              rw [doneS_step (lenS A) (fun k => !left (.string k)) (fun k => !(left (.string k) && !(Lit.string k).sameKey (.string x))) x f A.safe HNS.out HQ.out.2.2.1 (by simp [HQ.out.2.2.2.1]) (fun y => by rw [sameKey_str]; cases left (.string y) <;> cases y == x <;> rfl), HZ.out, Int.add_zero], HBN⟩
            case measure => rw [HRG.out.left_eq, HQ.out.2.2.2.2.left_eq]; exact HQ.out.2.1
          · rw [decide_eq_false hin]
            have HZ := Aside0.mk (show lenS A f = ((A.fs f).1.length : Int) by unfold lenS; exact if_neg (fun h => hin (HM.out.2 h)))
            have c2 : w5.cell? ⟨d, 2, none⟩ = some (.map (some bs)) := HD5.out.cell 2
            have hlk := HD5.out.2.2.2.2.2.2.1.lookup ⟨x.toArray⟩ HKS.out
            rw [show (⟨x.toArray⟩ : ByteArray).data.toList = x from rfl, HQ.out.2.2.1, show ptrV (some f) = .pointer (some ⟨f, 0, none⟩) from rfl] at hlk
            obtain ⟨FA, fc, hfc, -, -⟩ := (HD5.out.2.2.2.2.2.2.2 f (.inr ⟨x, findL_mem HQ.out.2.2.1⟩)).cells
            generalize (A.fs f).1.length = m at *
            clear hin
            unfold encStr
            go_wp2_with fail
            go_roundw
            case rel => exact ⟨_, cnt1, HRG.out, by
              rw [wrap_sub, doneS_step (lenS A) (fun k => !left (.string k)) (fun k => !(left (.string k) && !(Lit.string k).sameKey (.string x))) x f A.safe HNS.out HQ.out.2.2.1 (by simp [HQ.out.2.2.2.1]) (fun y => by rw [sameKey_str]; cases left (.string y) <;> cases y == x <;> rfl), HZ.out]
              congr 2; omega, HBN⟩
            case measure => rw [HRG.out.left_eq, HQ.out.2.2.2.2.left_eq]; exact HQ.out.2.1
    · intro x c kl yd yp w1 cnt1 hkey hlx hv hat hrg1 hlt hg1 hs1 hen
      obtain rfl := str_key hkey
      obtain ⟨f, rfl, hfd⟩ := range_key hv hat
      have HB1 := Aside0.mk (below_grown HB.out hg1 (fun k e => by cases e; exact Nat.le_refl _) HB.out.size)
      obtain ⟨FA, fc, hfc, -, -⟩ := ((HD.out.below HB1.out).2.2.2.2.2.2.2 f (.inl ⟨x, findL_mem hfd⟩)).cells
      have HQ := Aside0.mk (And.intro hrg1 (And.intro hlt (And.intro hfd (And.intro hlx hrg))))
      have HLen := Aside0.mk (show lenF A f = ((A.fs f).1.length : Int) from rfl)
      have HN := Aside0.mk (HD.out.2.2.2.2.2.1.keys)
      generalize (A.fs f).1.length = m at *
      have hpv : ptrV (some f) = .pointer (some ⟨f, 0, none⟩) := rfl
      rw [hpv]
      rw [hpv] at hen
      clear hkey hlx hv hat hrg1 hlt hg1 hs1 hfd hrg HB hown hpv
      go_wp2_with fail
      go_roundw
      case rel => exact ⟨_, cnt1, HQ.out.1, by
        rw [wrap_sub, doneS_step (lenF A) (fun k => !left (.string k)) (fun k => !(left (.string k) && !(Lit.string k).sameKey (.string x))) x f A.dir HN.out HQ.out.2.2.1 (by simp [HQ.out.2.2.2.1]) (fun y => by rw [sameKey_str]; cases left (.string y) <;> cases y == x <;> rfl), HLen.out]
        congr 2; omega, HB1⟩
      case measure => rw [HQ.out.1.left_eq, HQ.out.2.2.2.2.left_eq]; exact HQ.out.2.1

end Go.Proofs.Ytgpinkgfgkolfaa.PD
