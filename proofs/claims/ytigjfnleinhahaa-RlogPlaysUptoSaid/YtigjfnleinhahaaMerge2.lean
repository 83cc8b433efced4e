/- A log's Merge: the case of a place ahead of the base. -/
import Derived.Test.YtigjfnleinhahaaMerge
import Derived.Test.YtigjfnleinhahaaPLogx0
namespace Go.Proofs.Ytigjfnleinhahaa.PLog
open Go.RowKit Go.Proofs.YtigjfnleinhahaaW.PrintWords Go.Proofs.YtigjfnleinhahaaW.PrintLast Go.Proofs.YtigjfnleinhahaaW.PrintMore
open Go.Proofs.Ytigjfnleinhahaa.Reg
set_option linter.unusedVariables false
set_option linter.unusedSimpArgs false
set_option maxHeartbeats 4000000 in
set_option maxRecDepth 100000 in
theorem merge_calls_B2 {w : World} {ok : Nat → Prop} {g : Nat} {a t : Int} {es : List S60} (h : Log w ok g a t es) (h0 : 0 ≤ a) (x term : Int) (A1 : Option Addr) (c1 : Nat) (xs : List S60) (hC1 : Kd.C k60 w A1 xs.length xs) (hc1 : xs.length ≤ c1) (hoks1 : ∀ x ∈ xs, okE x)
    (hl1 : (es.length + xs.length) * 192 ≤ 140737488355328) (h1 : a + es.length ≤ 2305843009213693952) (hx0 : 0 ≤ x) (q : Nat) (hq : a - x = q) (hq0 : 0 < q) (hql : q ≤ xs.length) :
    Calls Try.prog 17 #[.pointer (some ⟨g, 0, none⟩), .int .i64 x, .int .i64 term, .slice A1 xs.length c1] w fun e w' => e = .returned (.tuple #[.int .i64 (mergeBody a t es a (xs.drop q)).1, .bool (mergeBody a t es a (xs.drop q)).2.1]) ∧ Log w' (fun k => ok k ∨ w.heap.size ≤ k) g a t (mergeBody a t es a (xs.drop q)).2.2 ∧ Kept w w' ok ∧ Below 0 w w' := by
  obtain ⟨ys, hys⟩ : ∃ ys, ys = xs.drop q := ⟨_, rfl⟩
  rw [← hys]
  obtain ⟨A, hA⟩ : ∃ A : Option Addr, A = if c1 = q then A1 else A1.map (·.add (q * 14)) := ⟨_, rfl⟩
  obtain ⟨c, hcq⟩ : ∃ c, c = c1 - q := ⟨_, rfl⟩
  obtain ⟨p, hp⟩ : ∃ p, p = a := ⟨_, rfl⟩
  have hlen : ys.length = xs.length - q := by rw [hys, List.length_drop]
  have hC : Kd.C k60 w A ys.length ys := by rw [hys, hA]; exact Kd.C_drop hC1 hql hc1
  have hc : ys.length ≤ c := by omega
  have hoks : ∀ x ∈ ys, okE x := fun x hx => hoks1 x (List.mem_of_mem_drop (hys ▸ hx))
  have hl : (es.length + ys.length) * 192 ≤ 140737488355328 := by omega
  have hpa : a ≤ p := by omega
  have hple : p ≤ a + es.length := by omega
  obtain ⟨hg, v0, hh, hR⟩ := id h
  obtain ⟨A0, c0, rfl⟩ := Kd.R_slice hR
  have hc0 : es.length ≤ c0 := (Kd.R_reads' hR).2.1
  have hgl : g < w.heap.size := (Array.getElem?_eq_some_iff.1 hh).1
  have cl0 : w.cell? ⟨g, 0, none⟩ = some (.int .i64 a) := by simp [World.cell?, hh]
  have HIM : Aside0 (∀ (ad : Addr) (i n : Nat) (W : World), A = some ad → i < ys.length → p + (i : Int) = a + n → n ≤ es.length → Below w.heap.size w W → IM w ok g a t p A0 c0 es ad c ys i n W) := Aside0.mk (by
    rintro ad i n W rfl h1' h2' h3' hb
    exact ⟨⟨h2', h3', hc0, h1', hc, h0, by omega, by omega, hl, hgl⟩, hg, (hb.block g hgl).trans hh, Kd.R_mono (Kd.R_below (Kd.R_bound hR) hb) (fun k hk => ⟨⟨hk.1.1, hk.2.2.1⟩, hk.1.2⟩), Kd.C_below hC hb, hoks, Kept.of_below hb ok, hb.mono (Nat.zero_le _)⟩)
  have HL := Aside0.mk h
  have HC := Aside0.mk hC
  have HO := Aside0.mk hoks
  have HN := Aside0.mk (show 0 ≤ a ∧ a ≤ p ∧ p ≤ a + es.length ∧ a + es.length ≤ 2305843009213693952 ∧ (es.length + ys.length) * 192 ≤ 140737488355328 ∧ ys.length ≤ c from ⟨h0, hpa, hple, h1, hl, hc⟩)
  clear hR hh hC hoks hl hg hgl
  have d0 : decide (a ≤ x) = false := decide_eq_false (by omega)
  have d00 : decide (x < 0) = false := decide_eq_false (by omega)
  have hwq : wrap64 (a - x) = (q : Int) := by rw [hq]; unfold wrap64; omega
  have dmin : decide ((xs.length : Int) < (q : Int)) = false := decide_eq_false (by omega)
  have dmin2 : (q : Int) ≤ (xs.length : Int) := by omega
  have hwp : wrap64 (x + (q : Int)) = a := by unfold wrap64; omega
  have hq00 : (0 : Int) ≤ (q : Int) := by omega
  rw [show mergeBody a t es a ys = mergeBody a t es p ys by rw [hp]]
  have HA := Aside0.mk hA
  have HLEN := Aside0.mk (And.intro hlen hcq)
  have HP := Aside0.mk hp
  clear h hys hA hcq hlen hp hC1 hoks1 hl1 hq
  go_enter Try.func17, Try.ntmps17
  go_wp2_with fail
  go_quiet (fail)
  rw [hwp, ← HP.out, ← HA.out, ← HLEN.out.1, ← HLEN.out.2]
  clear hwq dmin dmin2 hq00 hwp hx0 hq0 hql hc1 d0 d00
  go_wp2_with fail
  have HB0 := Aside0.mk (pw_below_drewN (Below.refl w.heap.size w) nq)

  go_loopw [55] (fun v wr => ∃ (i : Nat), v = .int .i64 (i : Int) ∧ Aside0 (i ≤ ys.length) ∧ Aside0 (firstBad a t es p (ys.drop i) i = firstBad a t es p ys 0) ∧ Aside0 (Below w.heap.size w wr)) (fun v _ => ys.length - (intOf v).toNat)
  case atStart => exact ⟨0, rfl, Aside0.mk (Nat.zero_le _), Aside0.mk rfl, HB0⟩
  case round =>
    obtain ⟨i, rfl, HJ, HF, HBW⟩ := hrel
    by_cases hlt : i < ys.length
    · have d1 : decide ((i : Int) < (ys.length : Int)) = true := decide_eq_true (by omega)
      obtain ⟨ad, A9, c9, A13, c13, rfl, hx0, hx1, hx2, hx3, hx4, hx5, hx6, hx7, hx8, hx9, hx10, hx11, hx12, hx13, hrest⟩ := at_T60 (Kd.C_below HC.out HBW.out) (i : Int) (by omega) (by omega)
      clear hrest
      rw [Int.toNat_natCast] at hx0 hx1 hx2 hx3 hx4 hx5 hx6 hx7 hx8 hx9 hx10 hx11 hx12 hx13
      have q0 : (0 : Int) ≤ (i : Int) := by omega
      have q1 : (i : Int) < (ys.length : Int) := by omega
      have hw1 : wrap64 (p + 1) = p + 1 := by have := HN.out; unfold wrap64; omega
      have hw2 : wrap64 (p + 1 + (i : Int)) = p + 1 + i := by have := HN.out; unfold wrap64; omega
      have hw3 : wrap64 ((i : Int) + 1) = ((i + 1 : Nat) : Int) := by have := HN.out; unfold wrap64; omega
      go_wp2_with ((with_reducible refine gate_dst (N := 14) rfl ?_); refine box_event ?hg (N := 14) ?hd (cs := #[.int .i64 0, .int .i64 0, .int .i64 0, .string (⟨#[]⟩ : ByteArray), .string (⟨#[]⟩ : ByteArray), .string (⟨#[]⟩ : ByteArray), .string (⟨#[]⟩ : ByteArray), .string (⟨#[]⟩ : ByteArray), .string (⟨#[]⟩ : ByteArray), .slice none 0 0, .int .i64 0, .int .i64 0, .int .i64 0, .slice none 0 0]) (t := 60) ?hr ?_; (case hd => rfl); (case hg => rfl); (case hr => first | (go_simp; done) | (go_simp; rfl)); intro gb hgb w7 hbox hb; have BK := Aside0.mk hbox; have HB7 := Aside0.mk (below_step HBW.out hb); have GE := Aside0.mk (show w.heap.size ≤ gb by rw [hgb]; exact HBW.out.size); clear hb hbox hgb; have hcz_0 : w7.cell? ⟨gb, 0, none⟩ = some (.int .i64 0) := (blk_cell BK.out 0).trans rfl; have hfz_0 := blk_frozen BK.out 0; have hcz_1 : w7.cell? ⟨gb, 1, none⟩ = some (.int .i64 0) := (blk_cell BK.out 1).trans rfl; have hfz_1 := blk_frozen BK.out 1; have hcz_2 : w7.cell? ⟨gb, 2, none⟩ = some (.int .i64 0) := (blk_cell BK.out 2).trans rfl; have hfz_2 := blk_frozen BK.out 2; have hcz_3 : w7.cell? ⟨gb, 3, none⟩ = some (.string (⟨#[]⟩ : ByteArray)) := (blk_cell BK.out 3).trans rfl; have hfz_3 := blk_frozen BK.out 3; have hcz_4 : w7.cell? ⟨gb, 4, none⟩ = some (.string (⟨#[]⟩ : ByteArray)) := (blk_cell BK.out 4).trans rfl; have hfz_4 := blk_frozen BK.out 4; have hcz_5 : w7.cell? ⟨gb, 5, none⟩ = some (.string (⟨#[]⟩ : ByteArray)) := (blk_cell BK.out 5).trans rfl; have hfz_5 := blk_frozen BK.out 5; have hcz_6 : w7.cell? ⟨gb, 6, none⟩ = some (.string (⟨#[]⟩ : ByteArray)) := (blk_cell BK.out 6).trans rfl; have hfz_6 := blk_frozen BK.out 6; have hcz_7 : w7.cell? ⟨gb, 7, none⟩ = some (.string (⟨#[]⟩ : ByteArray)) := (blk_cell BK.out 7).trans rfl; have hfz_7 := blk_frozen BK.out 7; have hcz_8 : w7.cell? ⟨gb, 8, none⟩ = some (.string (⟨#[]⟩ : ByteArray)) := (blk_cell BK.out 8).trans rfl; have hfz_8 := blk_frozen BK.out 8; have hcz_9 : w7.cell? ⟨gb, 9, none⟩ = some (.slice none 0 0) := (blk_cell BK.out 9).trans rfl; have hfz_9 := blk_frozen BK.out 9; have hcz_10 : w7.cell? ⟨gb, 10, none⟩ = some (.int .i64 0) := (blk_cell BK.out 10).trans rfl; have hfz_10 := blk_frozen BK.out 10; have hcz_11 : w7.cell? ⟨gb, 11, none⟩ = some (.int .i64 0) := (blk_cell BK.out 11).trans rfl; have hfz_11 := blk_frozen BK.out 11; have hcz_12 : w7.cell? ⟨gb, 12, none⟩ = some (.int .i64 0) := (blk_cell BK.out 12).trans rfl; have hfz_12 := blk_frozen BK.out 12; have hcz_13 : w7.cell? ⟨gb, 13, none⟩ = some (.slice none 0 0) := (blk_cell BK.out 13).trans rfl; have hfz_13 := blk_frozen BK.out 13)
      generalize hW : (World.setCell _ (⟨gb, 13, none⟩ : Addr) _) = w8
      have hB8 : Below w.heap.size w w8 := by
        rw [← hW]
        iterate 14 refine below_set ?_ GE.out
        exact HB7.out
      have hc8 : w8.cell? ⟨gb, 0, none⟩ = some (.int .i64 (rd_T60 ys (i : Int)).f0) := by
        rw [← hW, World.cell?_setCell_other, World.cell?_setCell_other, World.cell?_setCell_other, World.cell?_setCell_other, World.cell?_setCell_other, World.cell?_setCell_other, World.cell?_setCell_other, World.cell?_setCell_other, World.cell?_setCell_other, World.cell?_setCell_other, World.cell?_setCell_other, World.cell?_setCell_other, World.cell?_setCell_other, World.cell?_setCell_same _ _ _ hcz_0]
        all_goals simp
      clear hW hcz_0 hcz_1 hcz_2 hcz_3 hcz_4 hcz_5 hcz_6 hcz_7 hcz_8 hcz_9 hcz_10 hcz_11 hcz_12 hcz_13 hfz_0 hfz_1 hfz_2 hfz_3 hfz_4 hfz_5 hfz_6 hfz_7 hfz_8 hfz_9 hfz_10 hfz_11 hfz_12 hfz_13 hx0 hx1 hx2 hx3 hx4 hx5 hx6 hx7 hx8 hx9 hx10 hx11 hx12 hx13
      have HB8 := Aside0.mk hB8
      have hlog := HL.out.below hB8
      clear hB8
      have hrdi : rd_T60 ys (i : Int) = ys[i] := by simp [rd_T60, hlt]
      have hdrop : ys.drop i = ys[i] :: ys.drop (i + 1) := List.drop_eq_getElem_cons hlt
      generalize hT1 : termAt a t es (p + 1 + (i : Int)) = T1
      generalize hY : (rd_T60 ys (i : Int)).f0 = Y at hc8
      have HT1 := Aside0.mk hT1
      have HFB : Aside0 (firstBad a t es p ys 0 = if T1 = (Y, true) then firstBad a t es p (ys.drop (i + 1)) (i + 1) else some i) := Aside0.mk (by
        rw [← HF.out, hdrop]
        simp only [firstBad]
        rw [hT1, ← hY, hrdi])
      have hcall := term_calls hlog h0 (by omega) (p + 1 + (i : Int))
      rw [hT1] at hcall
      have HCALL := Aside0.mk hcall
      clear hcall hlog hT1 hY hrdi hdrop HF
      refine HCALL.out.mono ?_
      clear HCALL
      rintro _ w9 ⟨rfl, m9, rfl⟩
      obtain ⟨T1a, T1b⟩ := T1
      cases T1b with
      | true =>
        by_cases hq : T1a = Y
        · subst hq
          have dq : decide (T1a = T1a) = true := by simp
          have HF2 : Aside0 (firstBad a t es p (ys.drop (i + 1)) (i + 1) = firstBad a t es p ys 0) := Aside0.mk (by rw [HFB.out, if_pos rfl])
          clear HFB
          go_wp2_with fail
          go_roundw
          case rel => exact ⟨i + 1, by rw [hw3], Aside0.mk hlt, HF2, Aside0.mk (pw_below_drewN HB8.out m9)⟩
          case measure => rw [hw3]; simp [intOf]; omega
        · have dq : decide (T1a = Y) = false := decide_eq_false hq
          have HF2 : Aside0 (firstBad a t es p ys 0 = some i) := Aside0.mk (by rw [HFB.out, if_neg (by intro h; cases h; exact hq rfl)])
          clear HFB
          go_wp2_with fail
          have hfb := firstBad_le a t es p (by have := HN.out; omega) h0 ys 0 i (by have := HN.out; omega) HF2.out
          obtain ⟨n, hn⟩ : ∃ n : Nat, p + (i : Int) = a + n := ⟨(p + i - a).toNat, by have := HN.out; omega⟩
          have hIM := HIM.out ad i n _ rfl hlt hn (by omega) (pw_below_drewN HB8.out m9)
          have hmb : mergeBody a t es p ys = (p + 1 + (i : Int), true, es.take n ++ ys.drop i) := by
            unfold mergeBody
            rw [HF2.out]
            have e : (p + (i : Int) - a).toNat = n := by omega
            simp only [e]
          have HMB := Aside0.mk hmb
          clear hmb hfb hn
          refine regionM (by kernel_rfl) w ok g a t p A0 c0 es ad c ys i n _ _ hIM rfl rfl rfl rfl rfl ?_
          intro a2 w2 hA ⟨hlog2, hK2, hB2⟩
          have HL2 := Aside0.mk hlog2
          have HK2 := Aside0.mk hK2
          have HB2 := Aside0.mk hB2
          clear hlog2 hK2 hB2 hIM
          rw [hA.frame hinM]
          clear hA
          simp only [List.range_succ, List.range_zero, List.nil_append, List.cons_append, foldO, dstM, List.getD_cons_zero, List.getD_cons_succ, Act.put]
          generalize slotO dstM a2 0 = z0
          generalize slotO dstM a2 1 = z1
          generalize slotO dstM a2 2 = z2
          generalize slotO dstM a2 3 = z3
          generalize slotO dstM a2 4 = z4
          generalize slotO dstM a2 5 = z5
          generalize slotO dstM a2 6 = z6
          generalize slotO dstM a2 7 = z7
          generalize slotO dstM a2 8 = z8
          generalize slotO dstM a2 9 = z9
          generalize slotO dstM a2 10 = z10
          generalize slotO dstM a2 11 = z11
          generalize slotO dstM a2 12 = z12
          generalize slotO dstM a2 13 = z13
          generalize slotO dstM a2 14 = z14
          generalize slotO dstM a2 15 = z15
          generalize slotO dstM a2 16 = z16
          generalize slotO dstM a2 17 = z17
          generalize slotO dstM a2 18 = z18
          generalize slotO dstM a2 19 = z19
          generalize slotO dstM a2 20 = z20
          generalize slotO dstM a2 21 = z21
          generalize slotO dstM a2 22 = z22
          clear a2
          go_wp2_with fail
          rw [HMB.out]
          go_ret2
          exact ⟨by rw [hw2]; rfl, HL2.out, HK2.out, HB2.out⟩
      | false =>
        have HF2 : Aside0 (firstBad a t es p ys 0 = some i) := Aside0.mk (by rw [HFB.out, if_neg (by intro h; cases h)])
        clear HFB
        go_wp2_with fail
        have hfb := firstBad_le a t es p (by have := HN.out; omega) h0 ys 0 i (by have := HN.out; omega) HF2.out
        obtain ⟨n, hn⟩ : ∃ n : Nat, p + (i : Int) = a + n := ⟨(p + i - a).toNat, by have := HN.out; omega⟩
        have hIM := HIM.out ad i n _ rfl hlt hn (by omega) (pw_below_drewN HB8.out m9)
        have hmb : mergeBody a t es p ys = (p + 1 + (i : Int), true, es.take n ++ ys.drop i) := by
          unfold mergeBody
          rw [HF2.out]
          have e : (p + (i : Int) - a).toNat = n := by omega
          simp only [e]
        have HMB := Aside0.mk hmb
        clear hmb hfb hn
        refine regionM (by kernel_rfl) w ok g a t p A0 c0 es ad c ys i n _ _ hIM rfl rfl rfl rfl rfl ?_
        intro a2 w2 hA ⟨hlog2, hK2, hB2⟩
        have HL2 := Aside0.mk hlog2
        have HK2 := Aside0.mk hK2
        have HB2 := Aside0.mk hB2
        clear hlog2 hK2 hB2 hIM
        rw [hA.frame hinM]
        clear hA
        simp only [List.range_succ, List.range_zero, List.nil_append, List.cons_append, foldO, dstM, List.getD_cons_zero, List.getD_cons_succ, Act.put]
        generalize slotO dstM a2 0 = z0
        generalize slotO dstM a2 1 = z1
        generalize slotO dstM a2 2 = z2
        generalize slotO dstM a2 3 = z3
        generalize slotO dstM a2 4 = z4
        generalize slotO dstM a2 5 = z5
        generalize slotO dstM a2 6 = z6
        generalize slotO dstM a2 7 = z7
        generalize slotO dstM a2 8 = z8
        generalize slotO dstM a2 9 = z9
        generalize slotO dstM a2 10 = z10
        generalize slotO dstM a2 11 = z11
        generalize slotO dstM a2 12 = z12
        generalize slotO dstM a2 13 = z13
        generalize slotO dstM a2 14 = z14
        generalize slotO dstM a2 15 = z15
        generalize slotO dstM a2 16 = z16
        generalize slotO dstM a2 17 = z17
        generalize slotO dstM a2 18 = z18
        generalize slotO dstM a2 19 = z19
        generalize slotO dstM a2 20 = z20
        generalize slotO dstM a2 21 = z21
        generalize slotO dstM a2 22 = z22
        clear a2
        go_wp2_with fail
        rw [HMB.out]
        go_ret2
        exact ⟨by rw [hw2]; rfl, HL2.out, HK2.out, HB2.out⟩
    · have d1 : decide ((i : Int) < (ys.length : Int)) = false := decide_eq_false (by omega)
      have hi : i = ys.length := by have := HJ.out; omega
      have hmb : mergeBody a t es p ys = (a + es.length + 1, true, es) := by
        unfold mergeBody
        rw [← HF.out, List.drop_of_length_le (by omega)]
        rfl
      have HMB := Aside0.mk hmb
      clear hmb
      have hw4 : wrap64 (a + (es.length : Int) + 1) = a + es.length + 1 := by have := HN.out; unfold wrap64; omega
      go_wp2_with fail
      refine (last_calls (HL.out.below HBW.out) (by omega) (by omega)).mono ?_
      rintro _ w9 ⟨rfl, m9, rfl⟩
      go_wp2_with fail
      rw [HMB.out]
      go_ret2
      exact ⟨by rw [← hw4]; rfl, ((HL.out.below HBW.out).drewN m9).mono (fun _ hk => .inl hk), ⟨HBW.out.size, fun k hk _ => HBW.out.block k hk⟩, pw_below_drewN (HBW.out.mono (Nat.zero_le _)) m9⟩

end Go.Proofs.Ytigjfnleinhahaa.PLog
