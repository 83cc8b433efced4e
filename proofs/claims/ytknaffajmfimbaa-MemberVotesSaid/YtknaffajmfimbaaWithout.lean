/- Without a node. -/
import Derived.Test.YtknaffajmfimbaaWith
import Derived.Shelf.Abstract
namespace Go.Proofs.Ytknaffajmfimbaa.PW
open Go.RowKit Go.Proofs.YtknaffajmfimbaaW.PrintWords Go.Proofs.YtknaffajmfimbaaW.PrintLast Go.Proofs.YtknaffajmfimbaaW.PrintMore
open Go.Proofs.Ytknaffajmfimbaa
set_option linter.unusedVariables false
set_option linter.unusedSimpArgs false
set_option maxHeartbeats 4000000
set_option maxRecDepth 100000

theorem set_all {g : Nat} {e : TypeId} {w : World} {cur : Array Value} {o : Nat} {seg : List Value} (hh : w.heap[g]? = some (.cells cur e (0, 0))) (hfit : o + seg.length ≤ cur.size) : w.grownBy (w.setCells g o seg) (some g) := by
  have hs := setCells_same g seg o w
  exact ⟨hs.1, hs.2.1, hs.2.2.1, Nat.le_of_eq hs.2.2.2.symm, fun k _ hk => setCells_far seg o k (fun he => hk (by rw [he]))⟩
/-- What lies behind a row's beginning is written over: the beginning stays. -/
theorem R_tail {α : Type} {d : Kd α} {e n cap i base : Nat} {W : World} {ok : Nat → Prop} {gb : Nat} {xs : List α} (h : d.R e W base ok (.slice (some ⟨gb, 0, none⟩) n cap) xs) (hi : i ≤ n) (seg : List Value) (hl : seg.length = (n - i) * d.sz) :
    d.R e (W.setCells gb (i * d.sz) seg) base ok (.slice (some ⟨gb, 0, none⟩) i cap) (xs.take i) ∧ W.grownBy (W.setCells gb (i * d.sz) seg) (some gb) := by
  have hn : n = xs.length := (Kd.R_reads' h).1
  obtain ⟨h0, inner, ho, hr⟩ := Kd.R_take h (m := i) (by omega)
  have hle : (xs.take i).length = i := by rw [List.length_take]; omega
  have hfull := h
  obtain ⟨_, inner2, ho2, _⟩ := hfull
  rcases ho2.2 with ⟨hv, _⟩ | ⟨g, cap', cur, hv, hb, hh, hnc, hcm, hcs, ht2⟩
  · cases hv
  injection hv with ha _ hc
  injection ha with ha
  injection ha with hg
  subst hg; subst hc
  have hfit : i * d.sz + seg.length ≤ cur.size := by
    rw [hl, hcs, ← Nat.add_mul]
    exact Nat.mul_le_mul_right _ (by omega)
  obtain ⟨cur', h3, h4, h5⟩ := setCells_row seg (i * d.sz) W cur hh hfit
  have hgr := set_all (seg := seg) (o := i * d.sz) hh hfit
  refine ⟨⟨h0, inner, ⟨ho.1, .inr ⟨gb, cap, cur', by rw [hle], hb, h3, by rw [hle]; omega, hcm, by rw [h4]; exact hcs, ?_⟩⟩, ?_⟩, hgr⟩
  · rcases ho.2 with ⟨hv, _⟩ | ⟨g, cap', cur2, hv, hb', hh', _, _, _, ht⟩
    · cases hv
    injection hv with ha _ hc
    injection ha with ha
    injection ha with hg
    subst hg; subst hc
    rw [hh] at hh'
    injection hh' with hh'
    injection hh' with hh'
    subst hh'
    rw [hle] at ht ⊢
    rw [← ht, h5, List.append_assoc, List.take_append_of_le_length (by rw [List.length_take, Array.length_toList, hcs]; exact Nat.le_min.2 ⟨Nat.le_refl _, Nat.mul_le_mul_right _ (by omega)⟩), List.take_take, Nat.min_self]
  · refine hr.imp_ (fun p c hp => ?_)
    refine d.M_move (fun k hk => ?_) hp
    exact setCells_far seg _ k (fun he => hk.2 (by rw [he]; rfl))
/-- clear, at ints. -/
theorem clear_run {W : World} {ok : Nat → Prop} {gb n cap c i base : Nat} {xs : List Int} (h : Kd.R (Kd.int .i64) 3 W base ok (.slice (some ⟨gb, 0, none⟩) n cap) xs) (hi : i < n) (ty : TypeId) :
    ∃ seg, seg.length = n - i ∧ (Builtin.clear_ #[22] ty #[.slice (some ⟨gb, i, none⟩) (n - i) c]).run Try.prog W = .ok (.tuple #[]) (W.setCells gb i seg) := by
  have hz : ∀ w, (zeroValue 3).run Try.prog w = .ok (.int .i64 0) w := fun w => by kernel_rfl
  refine ⟨(Builtin.zeroCells (Value.int .i64 0).cells (n - i)).toList, by simp [Builtin.zeroCells, Value.cells], ?_⟩
  obtain ⟨_, inner2, ho2, _⟩ := h
  rcases ho2.2 with ⟨hv, _⟩ | ⟨g, cap', cur, hv, hb, hh, hnc, hcm, hcs, ht2⟩
  · cases hv
  injection hv with ha hn' hc
  injection ha with ha
  injection ha with hg
  subst hg; subst hc
  have hsz : (Kd.int .i64).sz = 1 := rfl
  rw [hsz] at hcs
  have hst := run_storeCells_cells (P := Try.prog) gb i ((Builtin.zeroCells (Value.int .i64 0).cells (n - i)).toList) 0 W (fun j hj => by rw [cell_of_row W gb _ cur 3 (0, 0) hh]; simp [Builtin.zeroCells, Value.cells] at hj ⊢; omega) (fun j _ => blk_frozen hh _) (by
    intro v hv
    simp only [Builtin.zeroCells, Value.cells, Array.toList_map, List.mem_map] at hv
    obtain ⟨q, _, rfl⟩ := hv
    have hq : q % 1 = 0 := Nat.mod_one _
    show Value.oneCell' ((#[Value.int .i64 0] : Array Value)[q % 1]!) = true
    rw [hq]; rfl)
  simp only [Nat.add_zero] at hst
  obtain ⟨m, hm⟩ : ∃ m, n - i = m + 1 := ⟨n - i - 1, by omega⟩
  rw [hm] at hst ⊢
  simp [Builtin.clear_, run_underlying Try.underlying22, hz, hst]
def idx (p : Int → Bool) (l : List Int) : Int := match l.findIdx? p with | some i => (i : Int) | none => -1
theorem idx_lt (p : Int → Bool) (l : List Int) (h : 0 ≤ idx p l) : (idx p l).toNat < l.length := by
  unfold idx at h ⊢
  cases e : l.findIdx? p with
  | none => rw [e] at h; exact absurd h (by simp)
  | some i =>
    rw [List.findIdx?_eq_some_iff_getElem] at e
    obtain ⟨h1, _⟩ := e
    exact h1
def Pred (f B : Nat) (p : Int → Bool) (base : Nat) (w : World) : Prop := ∀ (W : World) (x : Int), Below base w W → Calls Try.prog f #[.int .i64 x, .pointer (some ⟨B, 0, none⟩)] W fun e w' => e = .returned (.bool (p x)) ∧ Below W.heap.size W w'
theorem without1 (n : Int) (B base : Nat) (w : World) (hB : B < base) (hc : w.cell? ⟨B, 0, none⟩ = some (.int .i64 n)) : Pred 28 B (fun x => decide (x = n)) base w := by
  intro W x hb
  have hcW : W.cell? ⟨B, 0, none⟩ = some (.int .i64 n) := (hb.cell (p := ⟨B, 0, none⟩) hB).trans hc
  clear hb hc hB
  go_enter Try.func28, Try.ntmps28
  go_wp2
  all_goals (go_ret; exact ⟨by first | rfl | (rw [show (decide (x = n)) = (x == n) from rfl]; rfl), Below.refl _ _⟩)
theorem idx_calls (f B base : Nat) (p : Int → Bool) (w : World) (A : Option Addr) (c : Nat) (es : List Int) (hp : Pred f B p base w) (ef : Enters Try.prog f) (hC : Kd.C (Kd.int .i64) w A es.length es) (hbs : base ≤ w.heap.size) :
    Calls Try.prog 35 #[.slice A es.length c, .func (.func f) #[] #[.pointer (some ⟨B, 0, none⟩)]] w fun e w' => e = .returned (.int .i64 (idx p es)) ∧ Below w.heap.size w w' := by
  have HC := Aside0.mk hC
  have HP := Aside0.mk hp
  have HS := Aside0.mk hbs
  have HN := Aside0.mk (Kd.C_max hC)
  have HM := Aside0.mk (show ∀ i, (∀ j, j < i → p (rd es (j : Nat)) = false) → i < es.length → p (rd es (i : Nat)) = true → idx p es = (i : Int) from fun i h1 h2 h3 => by
    have : es.findIdx? p = some i := by
      rw [List.findIdx?_eq_some_iff_getElem]
      refine ⟨h2, ?_, fun j hj => ?_⟩
      · have : rd es (i : Nat) = es[i] := by simp [rd, h2]
        rw [← this]; exact h3
      · have := h1 j hj
        have e : rd es (j : Nat) = es[j]'(by omega) := by simp [rd, show j < es.length by omega]
        rw [← e, this]; simp
    simp [idx, this])
  have HZ := Aside0.mk (show (∀ j, j < es.length → p (rd es (j : Nat)) = false) → idx p es = -1 from fun h => by
    have : es.findIdx? p = none := by
      rw [List.findIdx?_eq_none_iff]
      intro x hx
      obtain ⟨j, hj, rfl⟩ := List.getElem_of_mem hx
      have := h j hj
      have e : rd es (j : Nat) = es[j] := by simp [rd, hj]
      rw [← e]; exact this
    simp [idx, this])
  have ef' : ∀ args w, (callFunc f args).run Try.prog w = .ok (.enter f args) w := ef
  clear hC hp ef hbs
  generalize hL : es.length = n at *
  go_enter Try.func35, Try.ntmps35
  go_wp2
  have V0 := Aside0.mk (Below.refl w.heap.size w)
  go_loopw [5, 8] (fun _ v8 wr => ∃ (i : Nat), v8 = .int .i64 (i : Int) ∧ Aside0 (i ≤ n) ∧ Aside0 (∀ j, j < i → p (rd es (j : Nat)) = false) ∧ Aside0 (Below w.heap.size w wr)) (fun _ v8 _ => n - (intOf v8).toNat)
  case atStart => exact ⟨0, rfl, Aside0.mk (Nat.zero_le _), Aside0.mk (fun j hj => absurd hj (Nat.not_lt_zero _)), V0⟩
  case round =>
    obtain ⟨i, rfl, HI, HJ, HB⟩ := hrel
    by_cases hin : i < n
    · have d1 : decide ((i : Int) < (n : Int)) = true := decide_eq_true (by omega)
      have hC2 := Kd.C_below HC.out HB.out
      obtain ⟨ad, rfl, c0⟩ := Kd.at_int hC2 (i : Int) (by omega) (by omega)
      have hcall := HP.out wr (rd es (i : Int)) (HB.out.mono HS.out)
      have hm := HM.out i HJ.out hin
      rw [Int.toNat_natCast] at c0
      generalize hy : rd es (i : Int) = y at c0 hcall hm
      have HY := Aside0.mk hy
      have HMI := Aside0.mk hm
      clear hy hC2 hm
      have hin2 : (i : Int) < (n : Int) := by omega
      have hi0 : (0 : Int) ≤ (i : Int) := by omega
      cases hq : p y with
      | true =>
        rw [hq] at hcall
        have HCALL := Aside0.mk hcall
        have FIN := Aside0.mk (show ∀ w', Below wr.heap.size wr w' → Below w.heap.size w w' from fun w' hb => HB.out.trans (hb.mono HB.out.size))
        clear hcall
        go_wp2_with fail
        refine HCALL.out.mono ?_
        rintro _ w' ⟨rfl, hb⟩
        have HB2 := Aside0.mk (FIN.out _ hb)
        clear hb FIN
        go_wp2_with fail
        go_ret
        exact ⟨by rw [HMI.out hq]; rfl, HB2.out⟩
      | false =>
        rw [hq] at hcall
        have HCALL := Aside0.mk hcall
        have FIN := Aside0.mk (show ∀ w', Below wr.heap.size wr w' → Below w.heap.size w w' from fun w' hb => HB.out.trans (hb.mono HB.out.size))
        clear hcall
        go_wp2_with fail
        refine HCALL.out.mono ?_
        rintro _ w' ⟨rfl, hb⟩
        have HB2 := Aside0.mk (FIN.out _ hb)
        have HQ := Aside0.mk hq
        clear hb FIN hq
        have hwi : wrap64 ((i : Int) + 1) = ((i + 1 : Nat) : Int) := by have := HN.out; unfold wrap64; omega
        have HIN := Aside0.mk hin
        clear hin hin2 d1
        go_wp2_with fail
        go_roundw
        case rel =>
          exact ⟨i + 1, by rw [hwi], Aside0.mk (by have := HIN.out; omega), Aside0.mk (fun j hj => by
            by_cases e : j = i
            · subst e; rw [HY.out]; exact HQ.out
            · exact HJ.out j (by omega)), HB2⟩
        case measure => have := HIN.out; rw [hwi]; simp [intOf]; omega
    · have d1 : decide ((i : Int) < (n : Int)) = false := decide_eq_false (by omega)
      have hin2 : ¬ (i : Int) < (n : Int) := by omega
      have FIN := Aside0.mk (show idx p es = -1 from HZ.out (fun j hj => HJ.out j (by omega)))
      go_wp2_with fail
      go_ret
      exact ⟨by rw [FIN.out]; rfl, HB.out⟩
theorem del_calls (f B base : Nat) (p : Int → Bool) (w : World) (ok : Nat → Prop) (gb cap : Nat) (es : List Int) (hp : Pred f B p base w) (ef : Enters Try.prog f) (hbs : base ≤ w.heap.size)
    (hR : Kd.R (Kd.int .i64) 3 w base ok (.slice (some ⟨gb, 0, none⟩) es.length cap) es) (h0 : 0 ≤ idx p es) :
    Calls Try.prog 27 #[.slice (some ⟨gb, 0, none⟩) es.length cap, .func (.func f) #[] #[.pointer (some ⟨B, 0, none⟩)]] w fun e w' =>
      e = .returned (.slice (some ⟨gb, 0, none⟩) (es.filter (fun x => !p x)).length cap) ∧ Kd.R (Kd.int .i64) 3 w' base ok (.slice (some ⟨gb, 0, none⟩) (es.filter (fun x => !p x)).length cap) (es.filter (fun x => !p x)) ∧ Below base w w' := by
  have hix := idx_calls f B base p w _ cap es hp ef (Kd.R_reads' hR).2.2 hbs
  obtain ⟨i0, hi0⟩ : ∃ i0 : Nat, idx p es = (i0 : Int) := ⟨(idx p es).toNat, by omega⟩
  have hilt := idx_lt p es h0
  have hbefore : (es.take (i0 + 1)).filter (fun x => !p x) = es.take i0 := by
    unfold idx at hi0
    cases e : es.findIdx? p with
    | none => rw [e] at hi0; exact absurd hi0 (by simp)
    | some q =>
      rw [e] at hi0
      have hq : q = i0 := by have : (q : Int) = (i0 : Int) := hi0; omega
      subst hq
      rw [List.findIdx?_eq_some_iff_getElem] at e
      obtain ⟨h1, h2, h3⟩ := e
      rw [List.take_succ_eq_append_getElem h1, List.filter_append]
      have e1 : (es.take q).filter (fun x => !p x) = es.take q := by
        rw [List.filter_eq_self]
        intro x hx
        obtain ⟨j, hj, rfl⟩ := List.getElem_of_mem hx
        have hjq : j < q := by rw [List.length_take] at hj; omega
        rw [List.getElem_take]
        simpa using h3 j hjq
      rw [e1]
      simp [h2]
  rw [hi0] at hix
  have HIX := Aside0.mk hix
  have HP := Aside0.mk hp
  have HR := Aside0.mk hR
  have HBB := Aside0.mk hbs
  have ef' : ∀ args w, (callFunc f args).run Try.prog w = .ok (.enter f args) w := ef
  have hcap : es.length ≤ cap := (Kd.R_reads' hR).2.1
  have HN := Aside0.mk (And.intro (Kd.C_max (Kd.R_reads' hR).2.2) hcap)
  have hi0n : i0 < es.length := by have := hilt; omega
  have HI0 := Aside0.mk hi0n
  have HBE := Aside0.mk hbefore
  clear hix hp hR hbs ef hilt hi0 h0 hcap hi0n hbefore
  generalize hL : es.length = n at *
  have HL := Aside0.mk hL
  clear hL
  have d0 : ((i0 : Int) == -1) = false := by simp
  have hw0 : wrap64 ((i0 : Int) + 1) = (i0 : Int) + 1 := by have := HN.out; have := HI0.out; unfold wrap64; omega
  go_enter Try.func27, Try.ntmps27
  go_wp2_with fail
  refine HIX.out.mono ?_
  rintro _ w1 ⟨rfl, hb⟩
  have HR1 := Aside0.mk (Kd.R_below HR.out hb)
  have HB1 := Aside0.mk (hb.mono HBB.out)
  clear hb HIX HR
  go_wp2_with fail
  simp only [hw0]
  clear d0 hw0
  go_loopw [5, 6] (fun v5 v6 wr => ∃ (i j : Nat) (cur : List Int), v5 = .int .i64 (i : Int) ∧ v6 = .int .i64 (j : Int) ∧ Aside0 (i < j ∧ j ≤ n ∧ cur.take i = (es.take j).filter (fun x => !p x) ∧ cur.drop j = es.drop j) ∧ Aside0 (Kd.R (Kd.int .i64) 3 wr base ok (.slice (some ⟨gb, 0, none⟩) n cap) cur) ∧ Aside0 (Below base w wr)) (fun _ v6 _ => n - (intOf v6).toNat)
  case atStart => exact ⟨i0, i0 + 1, es, rfl, by rw [Int.natCast_add]; rfl, Aside0.mk ⟨Nat.lt_succ_self _, HI0.out, HBE.out.symm, rfl⟩, HR1, HB1⟩
  case round =>
    obtain ⟨i, j, cur, rfl, rfl, HI, HRR, HBW⟩ := hrel
    by_cases hjn : j < n
    · have d1 : decide ((j : Int) < (n : Int)) = true := decide_eq_true (by omega)
      have hj2 : (j : Int) < (n : Int) := by omega
      have hj0 : (0 : Int) ≤ (j : Int) := by omega
      have hcl : n = cur.length := (Kd.R_reads' HRR.out).1
      have hCC := (Kd.R_reads' HRR.out).2.2
      obtain ⟨ad, had, c0⟩ := Kd.at_int hCC (j : Int) hj0 (by omega)
      injection had with had
      subst had
      rw [Int.toNat_natCast] at c0
      have ead : (⟨gb, 0, none⟩ : Addr).add j = ⟨gb, j, none⟩ := by simp only [Addr.add]; split <;> simp_all
      rw [ead] at c0
      have hdrop : es.drop j = rd cur (j : Int) :: es.drop (j + 1) ∧ cur.drop (j + 1) = es.drop (j + 1) := by
        have h9 : j < cur.length := by omega
        have h8 : j < es.length := by rw [HL.out]; exact hjn
        have h7 := HI.out.2.2.2
        rw [List.drop_eq_getElem_cons h9, List.drop_eq_getElem_cons h8] at h7
        injection h7 with h7a h7b
        refine ⟨?_, h7b⟩
        rw [List.drop_eq_getElem_cons h8, ← h7a]
        simp [rd, h9]
      generalize rd cur (j : Int) = y at c0 hdrop
      have HD := Aside0.mk hdrop
      have HJN := Aside0.mk hjn
      have HCL := Aside0.mk hcl
      have htake : es.take (j + 1) = es.take j ++ [y] := by
        have h8 : j < es.length := by rw [HL.out]; exact hjn
        have h := hdrop.1
        rw [List.drop_eq_getElem_cons h8] at h
        injection h with h _
        rw [List.take_succ_eq_append_getElem h8, h]
      have HTK := Aside0.mk htake
      have HCALL := Aside0.mk (HP.out wr y HBW.out)
      have hwj : wrap64 ((j : Int) + 1) = ((j + 1 : Nat) : Int) := by have := HN.out; unfold wrap64; omega
      have hwi : wrap64 ((i : Int) + 1) = ((i + 1 : Nat) : Int) := by have := HN.out; have := HI.out; unfold wrap64; omega
      clear hCC hdrop htake hcl ead
      go_wp2_with fail
      refine HCALL.out.mono ?_
      rintro _ w3 ⟨rfl, hb3⟩
      have HR3 := Aside0.mk (Kd.R_below HRR.out hb3)
      have HB3 := Aside0.mk (HBW.out.trans (hb3.mono (Nat.le_trans HBB.out HBW.out.size)))
      clear hb3 HRR HBW HCALL c0
      cases hq : p y with
      | true =>
        have HT := Aside0.mk (show cur.take i = (es.take (j + 1)).filter (fun x => !p x) by rw [HTK.out, List.filter_append, ← HI.out.2.2.1]; simp [hq])
        clear hq hjn hj2 d1
        go_wp2_with fail
        go_roundw
        case rel => exact ⟨i, j + 1, cur, rfl, by rw [hwj], Aside0.mk ⟨by have := HI.out.1; omega, HJN.out, HT.out, HD.out.2⟩, HR3, HB3⟩
        case measure => have := HJN.out; rw [hwj]; simp [intOf]; omega
      | false =>
        have hin : i < n := by have := HI.out; omega
        have HT := Aside0.mk (show (cur.set i y).take (i + 1) = (es.take (j + 1)).filter (fun x => !p x) by
          have hic : i < (cur.set i y).length := by rw [List.length_set, ← HCL.out]; exact hin
          rw [HTK.out, List.filter_append, ← HI.out.2.2.1, List.take_succ_eq_append_getElem hic, List.take_set_of_le (Nat.le_refl _)]; simp [hq])
        have HDS := Aside0.mk (show (cur.set i y).drop (j + 1) = es.drop (j + 1) by rw [List.drop_set_of_lt (by have := HI.out.1; omega)]; exact HD.out.2)
        have q0 : (0 : Int) ≤ (i : Int) := by omega
        have q1 : (i : Int) < (n : Int) := by omega
        have HRc := Aside0.mk (show Kd.R (Kd.int .i64) 3 w3 base ok (.slice (some ⟨gb, 0, none⟩) cur.length cap) cur by rw [← HCL.out]; exact HR3.out)
        have c1 : w3.cell? ⟨gb, i, none⟩ = some (.int .i64 (rd cur (i : Int))) := by
          have hCC := (Kd.R_reads' HR3.out).2.2
          obtain ⟨ad, had, c1⟩ := Kd.at_int hCC (i : Int) q0 (by have := HCL.out; omega)
          injection had with had
          subst had
          rw [Int.toNat_natCast] at c1
          have ead : (⟨gb, 0, none⟩ : Addr).add i = ⟨gb, i, none⟩ := by simp only [Addr.add]; split <;> simp_all
          rw [ead] at c1
          exact c1
        have HC1 := Aside0.mk c1
        clear hq hjn hj2 d1 c1
        go_wp2_with (first
          | (refine gate_ (.store 3 (.tmp 33) (.tmp 32)) rfl ?_
             refine Kd.R_store (Kd.int .i64) (w0 := w) base rfl rfl 3 (.tmp 33) (.tmp 32) rfl 3 (g := gb) (n := n) (cap := cap) (o' := i) (i : Int) 0 cur y (.int .i64 y) [.int .i64 y] [.int .i64 (rd cur (i : Int))] ok (fun _ => False) rfl (by rw [Int.toNat_natCast]; show i = i * 1 + 0; omega) rfl rfl (by rfl) (by intro q hq; simp at hq; rcases hq with rfl; rfl) HR3.out q0 q1 rfl (by
               intro j' u hu
               rw [Int.toNat_natCast]
               match j', hu with
               | 0, hu => injection hu with hu; rw [← hu]; show w3.cell? ⟨gb, i * 1 + 0, none⟩ = _; rw [Nat.mul_one, Nat.add_zero]; exact HC1.out
               | j' + 1, hu => cases hu) (by show 0 + 1 ≤ 1; omega) (by rfl) (fun _ h => h.elim) HB3.out ?_
             intro w4 hR4 hB4 hg4)
          | fail)
        rw [Int.toNat_natCast] at hR4
        have HR4 := Aside0.mk hR4
        have HB4 := Aside0.mk hB4
        clear hR4 hg4 hB4
        go_roundw
        case rel => exact ⟨i + 1, j + 1, cur.set i y, by rw [hwi], by rw [hwj], Aside0.mk ⟨by have := HI.out.1; omega, HJN.out, HT.out, HDS.out⟩, HR4, HB4⟩
        case measure => have := HJN.out; rw [hwj]; simp [intOf]; omega
    · have d1 : decide ((j : Int) < (n : Int)) = false := decide_eq_false (by omega)
      have hjn2 : j = n := by have := HI.out; omega
      have hin : i < n := by have := HI.out.1; omega
      have hfe : cur.take i = es.filter (fun x => !p x) := by
        rw [HI.out.2.2.1, List.take_of_length_le (by rw [HL.out]; omega)]
      have hcl : n = cur.length := (Kd.R_reads' HRR.out).1
      have HIL := Aside0.mk (show (es.filter (fun x => !p x)).length = i by rw [← hfe, List.length_take]; omega)
      have HFE := Aside0.mk hfe
      have HTL := Aside0.mk (fun seg hl => R_tail HRR.out (Nat.le_of_lt hin) seg hl)
      obtain ⟨seg, hsl, hrun⟩ := clear_run (c := cap - i) HRR.out hin 0
      have HSL := Aside0.mk hsl
      have HGB := Aside0.mk (show base ≤ gb from Kd.R_base HRR.out gb (by simp [Value.ownBlock]))
      have q0 : (0 : Int) ≤ (i : Int) := by omega
      have q1 : (i : Int) ≤ (n : Int) := by omega
      have q2 : (i : Int) ≤ (cap : Int) := by have := HN.out; omega
      have q3 : ¬ cap = i := by have := HN.out; omega
      have hjn3 : ¬ ((j : Int) < (n : Int)) := by omega
      clear hfe hjn hjn2 hcl hsl
      go_wp2_with fail
      go_ret
      obtain ⟨hRR, hgg⟩ := HTL.out seg (by rw [HSL.out]; show _ = _ * 1; omega)
      have hgg2 : wr.grownBy (wr.setCells gb i seg) (some gb) := by
        have h := hgg
        rw [show i * (Kd.int .i64).sz = i from Nat.mul_one i] at h
        exact h
      rw [show i * (Kd.int .i64).sz = i from Nat.mul_one i] at hRR
      rw [HIL.out, ← HFE.out]
      exact ⟨rfl, hRR, HBW.out.trans ⟨hgg2.os, hgg2.tape, hgg2.output, hgg2.size, fun k hk => by
        rcases Nat.lt_or_ge k wr.heap.size with hlt | hge
        · exact hgg2.block k hlt (fun he => by injection he with he; have := HGB.out; omega)
        · exact setCells_far seg _ k (by intro he; have h1 := HGB.out; omega)⟩⟩
def withoutB (l : List Int) (n : Int) : List Int × Bool := if l.contains n = true then (if rightB (l.filter (fun x => !decide (x = n))) = true then (l.filter (fun x => !decide (x = n)), true) else ([], false)) else ([], false)
end Go.Proofs.Ytknaffajmfimbaa.PW
namespace Go.Proofs.Ytknaffajmfimbaa.PM
open Go.RowKit Go.Proofs.YtknaffajmfimbaaW.PrintWords Go.Proofs.YtknaffajmfimbaaW.PrintLast Go.Proofs.YtknaffajmfimbaaW.PrintMore Go.Proofs.Ytknaffajmfimbaa Go.Proofs.Ytknaffajmfimbaa.PW
def member_Without.f (l : List Int) (n : Int) : Option (List Int × Bool) := if l.length < 17592186043000 then some (withoutB l n) else none
theorem member_Without.calls (A0 : Option Addr) (c0 : Nat) (l0 : List Int) (a1 : Int) (r1 : List Int) (r2 : Bool) (w : World) (hr0 : Kd.C (Kd.int .i64) w A0 l0.length l0) (hc0 : l0.length ≤ c0) (h : member_Without.f l0 a1 = some (r1, r2)) :
    Calls Try.prog 9 #[.slice A0 l0.length c0, .int .i64 a1] w fun e w' => ∃ v0_ : Value, e = .returned (.tuple #[v0_, .bool r2]) ∧ Kd.R (Kd.int .i64) 3 w' w.heap.size (fun _ => True) v0_ r1 ∧ Below w.heap.size w w' := by
  unfold member_Without.f at h
  by_cases hl : l0.length < 17592186043000
  · rw [if_pos hl] at h
    injection h with h
    have HH := Aside0.mk h
    have HL := Aside0.mk (And.intro hl hc0)
    have hb0 := below_alloc (Below.refl w.heap.size w) (Obj.cells #[.int .i64 a1] 3)
    have HC := Aside0.mk (Kd.C_below hr0 hb0)
    have hcB : (w.alloc (.cells #[.int .i64 a1] 3)).cell? ⟨w.heap.size, 0, none⟩ = some (.int .i64 a1) := (blk_cell (heap_alloc_new w _) 0).trans rfl
    have HHas := Aside0.mk (has_calls (w.alloc (.cells #[.int .i64 a1] 3)) A0 c0 l0 a1 HC.out hc0 (by omega))
    have HB0 := Aside0.mk hb0
    have HCB := Aside0.mk hcB
    have HSZ := Aside0.mk (show (w.alloc (.cells #[.int .i64 a1] 3)).heap.size = w.heap.size + 1 by simp)
    clear h hr0 hl hc0 hb0
    cases hq : l0.contains a1 with
    | false =>
      rw [hq] at HHas
      have HQ := Aside0.mk hq
      clear hq
      have he : withoutB l0 a1 = ([], false) := by unfold withoutB; rw [if_neg (by rw [HQ.out]; decide)]
      obtain ⟨rfl, rfl⟩ : r1 = [] ∧ r2 = false := by
        have h := HH.out
        rw [he] at h
        injection h with h1 h2
        exact ⟨h1.symm, h2.symm⟩
      clear he
      generalize l0.length = n at *
      go_enter Try.func9, Try.ntmps9
      go_wp2_with fail
      refine HHas.out.mono ?_
      rintro _ w1 ⟨rfl, hb1⟩
      have HB1 := Aside0.mk (HB0.out.trans (hb1.mono HB0.out.size))
      clear hb1
      go_wp2_with fail
      go_ret2
      exact ⟨_, rfl, Kd.R_nil _ _ _ _ _, HB1.out⟩
    | true =>
      rw [hq] at HHas
      have HQ := Aside0.mk hq
      clear hq
      have he : withoutB l0 a1 = if rightB (l0.filter (fun x => !decide (x = a1))) = true then (l0.filter (fun x => !decide (x = a1)), true) else ([], false) := by unfold withoutB; rw [if_pos HQ.out]
      have HE := Aside0.mk he
      clear he
      have hidx : 0 ≤ idx (fun x => decide (x = a1)) l0 := by
        unfold idx
        cases e : l0.findIdx? (fun x => decide (x = a1)) with
        | some i => simp
        | none =>
          rw [List.findIdx?_eq_none_iff] at e
          have h := e a1 (List.contains_iff_mem.1 HQ.out)
          simp at h
      have HIDX := Aside0.mk hidx
      clear hidx
      generalize hn : l0.length = n at *
      have HN := Aside0.mk hn
      clear hn
      go_enter Try.func9, Try.ntmps9
      go_wp2_with fail
      refine HHas.out.mono ?_
      rintro _ w1 ⟨rfl, hb1⟩
      have HB1 := Aside0.mk hb1
      have hcl := clone_calls w1 A0 c0 l0 (by rw [HN.out]; exact Kd.C_below HC.out hb1) (by rw [HN.out]; exact HL.out.2) (by rw [HN.out]; have := HL.out.1; omega)
      rw [HN.out] at hcl
      have HCL := Aside0.mk hcl
      clear hb1 hcl
      go_wp2_with fail
      refine HCL.out.mono ?_
      clear HCL
      rintro _ w2 ⟨v, rfl, hR2, hb2⟩
      obtain ⟨A2, c2, rfl⟩ := Kd.R_slice hR2
      rw [HN.out] at hR2 ⊢
      have hs1 : w.heap.size + 1 ≤ w1.heap.size := by have := HB1.out.size; have := HSZ.out; omega
      have HB2 := Aside0.mk (show Below (w.heap.size + 1) (w.alloc (.cells #[.int .i64 a1] 3)) w2 from (HB1.out.mono (Nat.le_of_eq HSZ.out.symm)).trans (hb2.mono hs1))
      have hR2 := Kd.R_lower hR2 hs1
      have hA : ∃ gb, A2 = some ⟨gb, 0, none⟩ := by
        have ho := Kd.own_of_R hR2
        rcases ho.2 with ⟨h1, h2⟩ | ⟨g, cap, cur, h1, _⟩
        · have : l0 = [] := List.eq_nil_of_length_eq_zero h2
          have h := HQ.out
          rw [this] at h
          cases h
        · injection h1 with h1
          exact ⟨g, h1⟩
      obtain ⟨gb, rfl⟩ := hA
      have hdel := del_calls 28 w.heap.size (w.heap.size + 1) (fun x => decide (x = a1)) w2 (fun _ => True) gb c2 l0 (without1 a1 w.heap.size (w.heap.size + 1) w2 (Nat.lt_succ_self _) ((HB2.out.cell (p := ⟨w.heap.size, 0, none⟩) (Nat.lt_succ_self _)).trans HCB.out)) (enters_of Try.func28 (by kernel_rfl) rfl) (Nat.le_trans hs1 hb2.size) (by rw [HN.out]; exact hR2) HIDX.out
      rw [HN.out] at hdel
      have HDEL := Aside0.mk hdel
      clear hR2 hb2 hs1 hdel
      go_wp2_with fail
      refine HDEL.out.mono ?_
      clear HDEL
      rintro _ w3 ⟨rfl, hR3, hb3⟩
      have hB3 : Below w.heap.size w w3 := HB0.out.trans ((HB2.out.trans hb3).mono (Nat.le_succ _))
      have hR3 := Kd.R_lower hR3 (Nat.le_succ w.heap.size)
      have HCK := Aside0.mk (checked_calls hR3 hB3 (Nat.le_trans (List.length_filter_le _ _) (by rw [HN.out]; have := HL.out.1; omega)))
      have hr : r2 = rightB (l0.filter (fun x => !decide (x = a1))) ∧ r1 = (if rightB (l0.filter (fun x => !decide (x = a1))) = true then l0.filter (fun x => !decide (x = a1)) else []) := by
        have h := HH.out
        rw [HE.out] at h
        split at h
        · rename_i hc
          injection h with h1 h2
          rw [if_pos hc, hc]
          exact ⟨h2.symm, h1.symm⟩
        · rename_i hc
          injection h with h1 h2
          rw [if_neg hc]
          exact ⟨by rw [← h2]; exact (Bool.eq_false_iff.2 hc).symm, h1.symm⟩
      rw [← hr.2, ← hr.1] at HCK
      clear hr hR3 hb3 hB3
      generalize (l0.filter (fun x => !decide (x = a1))).length = m3 at *
      go_wp2_with fail
      refine HCK.out.mono ?_
      rintro _ w6 ⟨v6, rfl, hR6, hB6⟩
      have HR6 := Aside0.mk (And.intro hR6 hB6)
      obtain ⟨A6, c6, rfl⟩ := Kd.R_slice hR6
      clear hR6 hB6
      generalize r1.length = m at *
      go_wp2_with fail
      go_ret2
      exact ⟨_, rfl, HR6.out⟩
  · rw [if_neg hl] at h
    cases h

end Go.Proofs.Ytknaffajmfimbaa.PM
