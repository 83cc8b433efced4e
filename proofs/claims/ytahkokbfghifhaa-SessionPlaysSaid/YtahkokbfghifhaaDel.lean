/- DeleteFunc over rows. -/
import Derived.Test.YtahkokbfghifhaaMin
import Derived.Test.YtahkokbfghifhaaProg
import Derived.Below
import Derived.Deep.Draws
import Derived.Deep.AppendLies
import Derived.Maps.AppendAt
import Derived.OwnWalk
import Derived.Laws.BytesArg
import Derived.Laws.MakeOwn
import Derived.Laws.OwnMore
import Derived.Deep.OwnRows
import Derived.Tactics
import Derived.Lib.ConvBytes
import Derived.Laws.Slices
import Derived.WalkKit
import Derived.KernelRfl
import Derived.RowKit3
import Derived.Deep.LoopGhost
import Derived.Deep.QuietTactic
import Derived.BigQuiet
import Derived.WideLaws
import Derived.Deep.DeepCutAuto
import Derived.Deep.CutBlock
import Derived.Deep.RegionHeld3
import Derived.Laws.Rows
import Derived.Lib.AppendStr
import Derived.ArgAppend
import Derived.Laws.IdiomCopy
import Derived.OrdersHeld
import Derived.Laws.BitsLemmas
import Derived.RowKit
import Derived.Test.YtahkokbfghifhaaWWords
import Derived.Test.YtahkokbfghifhaaWLast
import Derived.Test.YtahkokbfghifhaaWTab
import Derived.Test.YtahkokbfghifhaaWFour
import Derived.Test.YtahkokbfghifhaaWQPut
import Derived.Test.YtahkokbfghifhaaWApart
import Derived.Test.YtahkokbfghifhaaWArr
import Derived.Test.YtahkokbfghifhaaWZeros
import Derived.Test.YtahkokbfghifhaaWFoot
import Derived.Test.YtahkokbfghifhaaWKept
import Derived.Test.YtahkokbfghifhaaWShare
import Derived.Test.YtahkokbfghifhaaWN
import Derived.Test.YtahkokbfghifhaaWFootNe
import Derived.Test.YtahkokbfghifhaaWAt
import Derived.Test.YtahkokbfghifhaaWEqStruct
import Derived.Test.YtahkokbfghifhaaWRepsOne
import Derived.Test.YtahkokbfghifhaaWInv
import Derived.Test.YtahkokbfghifhaaWInvWords
import Derived.Test.YtahkokbfghifhaaWGuard
import Derived.Test.YtahkokbfghifhaaWNEv
import Derived.Test.YtahkokbfghifhaaWMore
namespace Go.Proofs.Ytahkokbfghifhaa.PS
open Go.RowKit Go.Proofs.YtahkokbfghifhaaW.PrintWords Go.Proofs.YtahkokbfghifhaaW.PrintLast Go.Proofs.YtahkokbfghifhaaW.PrintMore
set_option linter.unusedVariables false
set_option linter.unusedSimpArgs false
set_option maxHeartbeats 4000000
set_option maxRecDepth 100000

theorem set_all {g : Nat} {e : TypeId} {w : World} {cur : Array Value} {o : Nat} {seg : List Value} (hh : w.heap[g]? = some (.cells cur e (0, 0))) (hfit : o + seg.length ≤ cur.size) : w.grownBy (w.setCells g o seg) (some g) := by
  have hs := setCells_same g seg o w
  exact ⟨hs.1, hs.2.1, hs.2.2.1, Nat.le_of_eq hs.2.2.2.symm, fun k _ hk => setCells_far seg o k (fun he => hk (by rw [he]))⟩
/-- What lies behind a row's beginning is written over: the beginning stays. -/
theorem R_tail {α : Type} {d : Kd α} {e n cap i : Nat} {W : World} {ok : Nat → Prop} {gb : Nat} {xs : List α} (h : d.R e W 0 ok (.slice (some ⟨gb, 0, none⟩) n cap) xs) (hi : i ≤ n) (seg : List Value) (hl : seg.length = (n - i) * d.sz) :
    d.R e (W.setCells gb (i * d.sz) seg) 0 ok (.slice (some ⟨gb, 0, none⟩) i cap) (xs.take i) ∧ W.grownBy (W.setCells gb (i * d.sz) seg) (some gb) := by
  have hn : n = xs.length := (Kd.R_reads' h).1
  obtain ⟨h0, inner, ho, hr⟩ := Kd.R_take h (m := i) (by omega)
  have hle : (xs.take i).length = i := by rw [List.length_take]; omega
  have hfull := h
  obtain ⟨_, inner2, ho2, _⟩ := hfull
  rcases ho2.2 with ⟨hv, _⟩ | ⟨g, cap', cur, hv, hb, hh, hnc, hcm, hcs, ht2⟩
  · cases hv
  injection hv with ha _ hc
  injection ha with ha
  injection ha with hg
  subst hg; subst hc
  have hfit : i * d.sz + seg.length ≤ cur.size := by
    rw [hl, hcs, ← Nat.add_mul]
    exact Nat.mul_le_mul_right _ (by omega)
  obtain ⟨cur', h3, h4, h5⟩ := setCells_row seg (i * d.sz) W cur hh hfit
  have hgr := set_all (seg := seg) (o := i * d.sz) hh hfit
  refine ⟨⟨h0, inner, ⟨ho.1, .inr ⟨gb, cap, cur', by rw [hle], hb, h3, by rw [hle]; omega, hcm, by rw [h4]; exact hcs, ?_⟩⟩, ?_⟩, hgr⟩
  · rcases ho.2 with ⟨hv, _⟩ | ⟨g, cap', cur2, hv, hb', hh', _, _, _, ht⟩
    · cases hv
    injection hv with ha _ hc
    injection ha with ha
    injection ha with hg
    subst hg; subst hc
    rw [hh] at hh'
    injection hh' with hh'
    injection hh' with hh'
    subst hh'
    rw [hle] at ht ⊢
    rw [← ht, h5, List.append_assoc, List.take_append_of_le_length (by rw [List.length_take, Array.length_toList, hcs]; exact Nat.le_min.2 ⟨Nat.le_refl _, Nat.mul_le_mul_right _ (by omega)⟩), List.take_take, Nat.min_self]
  · refine hr.imp_ (fun p c hp => ?_)
    refine d.M_move (fun k hk => ?_) hp
    exact setCells_far seg _ k (fun he => hk.2 (by rw [he]; rfl))

theorem R_store_list {α : Type} {P : Program} {ops : Array Oper} {rest : List Oper} {o : Oper} {a : Act} {Q : Exit → Act → World → Prop} (d : Kd α) {W : World} (base : Nat) (hN : o.dst = none) (hgd : o.guard = none) (t : TypeId) (p x : Operand) (ho : o.op = .store t p x) (e : TypeId) {g n cap o' : Nat} (i : Int) (xs : List α) (x' : α) (u : Value) (seg : List Value) (ok okp : Nat → Prop)
    (haddr : a.eval p = .pointer (some ⟨g, o', none⟩)) (hoff : o' = i.toNat * d.sz) (hx : a.eval x = u) (hu : u.cells.toList = seg) (ht : (P.info? t).map (·.size) = some seg.length) (h1 : ∀ q ∈ seg, q.oneCell' = true)
    (HO : d.R e W base ok (.slice (some ⟨g, 0, none⟩) n cap) xs) (h0 : 0 ≤ i) (hi : i < n) (hseg : seg.length = d.sz) (z : α) (hM : d.M W base okp x' seg) (hokp : ∀ k, okp k → ok k ∧ k ≠ g)
    (h : ∀ w1, d.R e w1 base ok (.slice (some ⟨g, 0, none⟩) n cap) (xs.set i.toNat x') → W.grownBy w1 (some g) → wpList P ops Q rest a w1) : wpList P ops Q (o :: rest) a W := by
  refine wpList_plain hgd fun K hK => ?_
  exact R_store_step d base hN t p x ho e i xs x' u seg ok okp haddr hoff hx hu ht h1 HO h0 hi hseg z hM hokp (fun w1 h1 h2 => hK _ _ (h w1 h1 h2))

/-- clear, at rows. -/
theorem clear_runI {W : World} {ok : Nat → Prop} {gb n cap c i : Nat} {xs : List S45} (h : Kd.R k45 45 W 0 ok (.slice (some ⟨gb, 0, none⟩) n cap) xs) (hi : i < n) (ty : TypeId) :
    ∃ seg, seg.length = (n - i) * 4 ∧ (Builtin.clear_ #[24] ty #[.slice (some ⟨gb, i * 4, none⟩) (n - i) c]).run Try.prog W = .ok (.tuple #[]) (W.setCells gb (i * 4) seg) := by
  have hz : ∀ w, (zeroValue 45).run Try.prog w = .ok (.agg #[.int .i64 0, .int .i64 0, .int .i64 0, .int .i64 0]) w := fun w => by kernel_rfl
  refine ⟨(Builtin.zeroCells (Value.agg #[.int .i64 0, .int .i64 0, .int .i64 0, .int .i64 0]).cells (n - i)).toList, by simp [Builtin.zeroCells, Value.cells], ?_⟩
  obtain ⟨_, inner2, ho2, _⟩ := h
  rcases ho2.2 with ⟨hv, _⟩ | ⟨g, cap', cur, hv, hb, hh, hnc, hcm, hcs, ht2⟩
  · cases hv
  injection hv with ha hn' hc
  injection ha with ha
  injection ha with hg
  subst hg; subst hc
  have hsz : k45.sz = 4 := rfl
  rw [hsz] at hcs
  have hst := run_storeCells_cells (P := Try.prog) gb (i * 4) ((Builtin.zeroCells (Value.agg #[.int .i64 0, .int .i64 0, .int .i64 0, .int .i64 0]).cells (n - i)).toList) 0 W (fun j hj => by rw [cell_of_row W gb _ cur 45 (0, 0) hh]; simp [Builtin.zeroCells, Value.cells] at hj ⊢; omega) (fun j _ => blk_frozen hh _) (by
    intro v hv
    simp only [Builtin.zeroCells, Value.cells, Array.toList_map, List.mem_map] at hv
    obtain ⟨q, _, rfl⟩ := hv
    have hq : q % 4 < 4 := Nat.mod_lt _ (by decide)
    show Value.oneCell' ((#[Value.int .i64 0, .int .i64 0, .int .i64 0, .int .i64 0] : Array Value)[q % 4]!) = true
    have : q % 4 = 0 ∨ q % 4 = 1 ∨ q % 4 = 2 ∨ q % 4 = 3 := by omega
    rcases this with h | h | h | h <;> rw [h] <;> rfl)
  simp only [Nat.add_zero] at hst
  obtain ⟨m, hm⟩ : ∃ m, n - i = m + 1 := ⟨n - i - 1, by omega⟩
  rw [hm] at hst ⊢
  simp [Builtin.clear_, run_underlying Try.underlying24, hz, hst]
/-- What a closure over one captured cell or row answers of a row, in whatever world holds what it captured. -/
def PredBI (f B : Nat) (p : S45 → Bool) (w : World) : Prop := ∀ (W : World) (x : S45), w.heap.size ≤ W.heap.size → W.heap[B]? = w.heap[B]? → Calls Try.prog f #[.agg (cs45 x).toArray, .pointer (some ⟨B, 0, none⟩)] W fun e w' => e = .returned (.bool (p x)) ∧ Below W.heap.size W w'
theorem open3I (old : S45) (B : Nat) (w : World) (hB : w.heap[B]? = some (.cells (cs45 old).toArray 45 (0, 0))) : PredBI 29 B (fun x => decide (x.f0 = old.f0)) w := by
  intro W x hsz hk
  have hlt : B < w.heap.size := (Array.getElem?_eq_some_iff.1 hB).1
  have hW := hk.trans hB
  have HB := Aside0.mk (below_alloc (Below.refl W.heap.size W) (Obj.cells (cs45 x).toArray 45))
  have hcA : (W.alloc (Obj.cells #[.int .i64 x.f0, .int .i64 x.f1, .int .i64 x.f2, .int .i64 x.f3] 45)).cell? ⟨B, 0, none⟩ = some (.int .i64 old.f0) := (HB.out.cell (p := ⟨B, 0, none⟩) (Nat.lt_of_lt_of_le hlt hsz)).trans (by simp [World.cell?, hW, cs45])
  clear hsz hk hB hlt hW
  unfold cs45 at *
  go_enter Try.func29, Try.ntmps29
  go_wp2
  all_goals (go_ret; exact ⟨by rw [show (decide (x.f0 = old.f0)) = (x.f0 == old.f0) from rfl]; rfl, HB.out⟩)
theorem del_callsI (f B : Nat) (p : S45 → Bool) (w : World) (ok : Nat → Prop) (gb cap : Nat) (es : List S45) (hp : PredBI f B p w) (ef : Enters Try.prog f) (hB : B < w.heap.size) (hBg : B ≠ gb)
    (hR : Kd.R k45 45 w 0 ok (.slice (some ⟨gb, 0, none⟩) es.length cap) es) (h0 : 0 ≤ idxI p es) :
    Calls Try.prog 28 #[.slice (some ⟨gb, 0, none⟩) es.length cap, .func (.func f) #[] #[.pointer (some ⟨B, 0, none⟩)]] w fun e w' =>
      e = .returned (.slice (some ⟨gb, 0, none⟩) (es.filter (fun x => !p x)).length cap) ∧ Kd.R k45 45 w' 0 ok (.slice (some ⟨gb, 0, none⟩) (es.filter (fun x => !p x)).length cap) (es.filter (fun x => !p x)) ∧ Kept w w' (fun k => k = gb) ∧ Below 0 w w' := by
  have hix := idx_callsI f B p w _ cap es (fun W x hb => hp W x hb.size (hb.block B hB)) ef (Kd.R_reads' hR).2.2
  obtain ⟨i0, hi0⟩ : ∃ i0 : Nat, idxI p es = (i0 : Int) := ⟨(idxI p es).toNat, by omega⟩
  have hilt := idx_ltI p es h0
  have hbefore : (es.take (i0 + 1)).filter (fun x => !p x) = es.take i0 := by
    unfold idxI at hi0
    cases e : es.findIdx? p with
    | none => rw [e] at hi0; exact absurd hi0 (by simp)
    | some q =>
      rw [e] at hi0
      have hq : q = i0 := by have : (q : Int) = (i0 : Int) := hi0; omega
      subst hq
      rw [List.findIdx?_eq_some_iff_getElem] at e
      obtain ⟨h1, h2, h3⟩ := e
      rw [List.take_succ_eq_append_getElem h1, List.filter_append]
      have e1 : (es.take q).filter (fun x => !p x) = es.take q := by
        rw [List.filter_eq_self]
        intro x hx
        obtain ⟨j, hj, rfl⟩ := List.getElem_of_mem hx
        have hjq : j < q := by rw [List.length_take] at hj; omega
        rw [List.getElem_take]
        simpa using h3 j hjq
      rw [e1]
      simp [h2]
  rw [hi0] at hix
  have HIX := Aside0.mk hix
  have HP := Aside0.mk hp
  have HR := Aside0.mk hR
  have HBB := Aside0.mk (And.intro hB hBg)
  have ef' : ∀ args w, (callFunc f args).run Try.prog w = .ok (.enter f args) w := ef
  have hcap : es.length ≤ cap := (Kd.R_reads' hR).2.1
  have HN := Aside0.mk (And.intro (Kd.C_max (Kd.R_reads' hR).2.2) hcap)
  have hi0n : i0 < es.length := by have := hilt.1; omega
  have HI0 := Aside0.mk hi0n
  have HBE := Aside0.mk hbefore
  clear hix hp hR hB hBg ef hilt hi0 h0 hcap hi0n hbefore
  generalize hL : es.length = n at *
  have HL := Aside0.mk hL
  clear hL
  have d0 : ((i0 : Int) == -1) = false := by simp
  have hw0 : wrap64 ((i0 : Int) + 1) = (i0 : Int) + 1 := by have := HN.out; have := HI0.out; unfold wrap64; omega
  go_enter Try.func28, Try.ntmps28
  go_wp2_with fail
  refine HIX.out.mono ?_
  rintro _ w1 ⟨rfl, hb⟩
  have HR1 := Aside0.mk (Kd.R_below HR.out hb)
  have HB1 := Aside0.mk hb
  have HK1 := Aside0.mk (Kept.below (Kept.refl w (fun k => k = gb)) hb)
  have HC1 := Aside0.mk (hb.block B HBB.out.1)
  clear hb HIX HR
  go_wp2_with fail
  simp only [hw0]
  clear d0 hw0
  go_loopw [5, 6] (fun v5 v6 wr => ∃ (i j : Nat) (cur : List S45), v5 = .int .i64 (i : Int) ∧ v6 = .int .i64 (j : Int) ∧ Aside0 (i < j ∧ j ≤ n ∧ cur.take i = (es.take j).filter (fun x => !p x) ∧ cur.drop j = es.drop j) ∧ Aside0 (Kd.R k45 45 wr 0 ok (.slice (some ⟨gb, 0, none⟩) n cap) cur) ∧ Aside0 (Kept w wr (fun k => k = gb)) ∧ Aside0 (Below 0 w wr) ∧ Aside0 (wr.heap[B]? = w.heap[B]?)) (fun _ v6 _ => n - (intOf v6).toNat)
  case atStart => exact ⟨i0, i0 + 1, es, rfl, by rw [Int.natCast_add]; rfl, Aside0.mk ⟨Nat.lt_succ_self _, HI0.out, HBE.out.symm, rfl⟩, HR1, HK1, Aside0.mk (HB1.out.mono (Nat.zero_le _)), HC1⟩
  case round =>
    obtain ⟨i, j, cur, rfl, rfl, HI, HRR, HK, HBW, HC⟩ := hrel
    by_cases hjn : j < n
    · have d1 : decide ((j : Int) < (n : Int)) = true := decide_eq_true (by omega)
      have hj2 : (j : Int) < (n : Int) := by omega
      have hj0 : (0 : Int) ≤ (j : Int) := by omega
      have hcl : n = cur.length := (Kd.R_reads' HRR.out).1
      have hCC := (Kd.R_reads' HRR.out).2.2
      obtain ⟨ad, had, c0, c1, c2, c3⟩ := at_T45 hCC (j : Int) hj0 (by omega)
      injection had with had
      subst had
      rw [Int.toNat_natCast] at c0 c1 c2 c3
      have ead : (⟨gb, 0, none⟩ : Addr).add (j * 4) = ⟨gb, j * 4, none⟩ := by simp only [Addr.add]; split <;> simp_all
      rw [ead] at c0 c1 c2 c3
      simp only [] at c1 c2 c3
      have hdrop : es.drop j = rd_T45 cur (j : Int) :: es.drop (j + 1) ∧ cur.drop (j + 1) = es.drop (j + 1) := by
        have h9 : j < cur.length := by omega
        have h8 : j < es.length := by rw [HL.out]; exact hjn
        have h7 := HI.out.2.2.2
        rw [List.drop_eq_getElem_cons h9, List.drop_eq_getElem_cons h8] at h7
        injection h7 with h7a h7b
        refine ⟨?_, h7b⟩
        rw [List.drop_eq_getElem_cons h8, ← h7a]
        simp [rd_T45, h9]
      generalize rd_T45 cur (j : Int) = y at c0 c1 c2 c3 hdrop
      have HD := Aside0.mk hdrop
      have HJN := Aside0.mk hjn
      have HCL := Aside0.mk hcl
      have htake : es.take (j + 1) = es.take j ++ [y] := by
        have h8 : j < es.length := by rw [HL.out]; exact hjn
        have h := hdrop.1
        rw [List.drop_eq_getElem_cons h8] at h
        injection h with h _
        rw [List.take_succ_eq_append_getElem h8, h]
      have HTK := Aside0.mk htake
      have hbx := below_alloc (Below.refl wr.heap.size wr) (Obj.cells (cs45 y).toArray 45)
      have HBX := Aside0.mk hbx
      have HNX := Aside0.mk (heap_alloc_new wr (Obj.cells (cs45 y).toArray 45))
      have HWR := Aside0.mk (show wr.heap.size < (wr.alloc (Obj.cells (cs45 y).toArray 45)).heap.size by show _ < (wr.heap.push _).size; rw [Array.size_push]; omega)
      have hcall := HP.out (wr.alloc (Obj.cells (cs45 y).toArray 45)) y (Nat.le_trans HBW.out.size hbx.size) ((hbx.block B (Nat.lt_of_lt_of_le HBB.out.1 HBW.out.size)).trans HC.out)
      have HCALL := Aside0.mk hcall
      have hwj : wrap64 ((j : Int) + 1) = ((j + 1 : Nat) : Int) := by have := HN.out; unfold wrap64; omega
      have hwi : wrap64 ((i : Int) + 1) = ((i + 1 : Nat) : Int) := by have := HN.out; have := HI.out; unfold wrap64; omega
      clear hCC hdrop htake hbx hcall hcl ead
      go_wp2_with fail
      refine HCALL.out.mono ?_
      rintro _ w3 ⟨rfl, hb3⟩
      have HR3 := Aside0.mk (Kd.R_below (Kd.R_below HRR.out HBX.out) hb3)
      have hx3 := (hb3.block wr.heap.size HWR.out).trans HNX.out
      have hbb := HBX.out.trans (hb3.mono HBX.out.size)
      have HK3 := Aside0.mk (Kept.below HK.out hbb)
      have HB3 := Aside0.mk (HBW.out.trans (hbb.mono (Nat.zero_le _)))
      have HC3 := Aside0.mk ((hbb.block B (Nat.lt_of_lt_of_le HBB.out.1 HBW.out.size)).trans HC.out)
      have b0 : w3.cell? ⟨wr.heap.size, 0, none⟩ = some (.int .i64 y.f0) := by simp [World.cell?, hx3, cs45]
      have b1 : w3.cell? ⟨wr.heap.size, 1, none⟩ = some (.int .i64 y.f1) := by simp [World.cell?, hx3, cs45]
      have b2 : w3.cell? ⟨wr.heap.size, 2, none⟩ = some (.int .i64 y.f2) := by simp [World.cell?, hx3, cs45]
      have b3 : w3.cell? ⟨wr.heap.size, 3, none⟩ = some (.int .i64 y.f3) := by simp [World.cell?, hx3, cs45]
      clear hb3 hx3 hbb HRR HK HBW HC HCALL c0 c1 c2 c3 HBX HNX HWR
      cases hq : p y with
      | true =>
        have HT := Aside0.mk (show cur.take i = (es.take (j + 1)).filter (fun x => !p x) by rw [HTK.out, List.filter_append, ← HI.out.2.2.1]; simp [hq])
        clear hq hjn hj2 d1 b0 b1 b2 b3
        go_wp2_with fail
        go_roundw
        case rel => exact ⟨i, j + 1, cur, rfl, by rw [hwj], Aside0.mk ⟨by have := HI.out.1; omega, HJN.out, HT.out, HD.out.2⟩, HR3, HK3, HB3, HC3⟩
        case measure => have := HJN.out; rw [hwj]; simp [intOf]; omega
      | false =>
        have hin : i < n := by have := HI.out; omega
        have HT := Aside0.mk (show (cur.set i y).take (i + 1) = (es.take (j + 1)).filter (fun x => !p x) by
          have hic : i < (cur.set i y).length := by rw [List.length_set, ← HCL.out]; exact hin
          rw [HTK.out, List.filter_append, ← HI.out.2.2.1, List.take_succ_eq_append_getElem hic, List.take_set_of_le (Nat.le_refl _)]; simp [hq])
        have HDS := Aside0.mk (show (cur.set i y).drop (j + 1) = es.drop (j + 1) by rw [List.drop_set_of_lt (by have := HI.out.1; omega)]; exact HD.out.2)
        have q0 : (0 : Int) ≤ (i : Int) := by omega
        have q1 : (i : Int) < (n : Int) := by omega
        clear hq hjn hj2 d1
        go_wp2_with (first
          | (refine gate_ (.store 45 (.tmp 33) (.tmp 32)) rfl ?_
             refine R_store_list k45 0 rfl rfl 45 (.tmp 33) (.tmp 32) rfl 45 (g := gb) (n := n) (cap := cap) (o' := i * 4) (i : Int) cur y (.agg #[.int .i64 y.f0, .int .i64 y.f1, .int .i64 y.f2, .int .i64 y.f3]) [.int .i64 y.f0, .int .i64 y.f1, .int .i64 y.f2, .int .i64 y.f3] ok (fun _ => False) rfl (by rw [Int.toNat_natCast]; rfl) rfl rfl (by rfl) (by intro q hq; simp at hq; rcases hq with rfl | rfl | rfl | rfl <;> rfl) HR3.out q0 q1 rfl z45 (k45_mkM w3 0 _ y) (fun _ h => h.elim) ?_
             intro w4 hR4 hg4)
          | fail)
        rw [Int.toNat_natCast] at hR4
        have HR4 := Aside0.mk hR4
        have HK4 := Aside0.mk (show Kept w w4 (fun k => k = gb) from ⟨Nat.le_trans HK3.out.1 hg4.size, fun k hk hn => (hg4.block k (Nat.lt_of_lt_of_le hk HK3.out.1) (fun he => hn (by injection he))).trans (HK3.out.2 k hk hn)⟩)
        have HB4 := Aside0.mk (HB3.out.trans (show Below 0 w3 w4 from ⟨hg4.os, hg4.tape, hg4.output, hg4.size, fun k hk => absurd hk (Nat.not_lt_zero _)⟩))
        have HC4 := Aside0.mk ((hg4.block B (Nat.lt_of_lt_of_le HBB.out.1 HB3.out.size) (fun he => HBB.out.2 (by injection he))).trans HC3.out)
        clear hR4 hg4 b0 b1 b2 b3
        go_roundw
        case rel => exact ⟨i + 1, j + 1, cur.set i y, by rw [hwi], by rw [hwj], Aside0.mk ⟨by have := HI.out.1; omega, HJN.out, HT.out, HDS.out⟩, HR4, HK4, HB4, HC4⟩
        case measure => have := HJN.out; rw [hwj]; simp [intOf]; omega
    · have d1 : decide ((j : Int) < (n : Int)) = false := decide_eq_false (by omega)
      have hjn2 : j = n := by have := HI.out; omega
      have hin : i < n := by have := HI.out.1; omega
      have hfe : cur.take i = es.filter (fun x => !p x) := by
        rw [HI.out.2.2.1, List.take_of_length_le (by rw [HL.out]; omega)]
      have hcl : n = cur.length := (Kd.R_reads' HRR.out).1
      have HIL := Aside0.mk (show (es.filter (fun x => !p x)).length = i by rw [← hfe, List.length_take]; omega)
      have HFE := Aside0.mk hfe
      have HTL := Aside0.mk (fun seg hl => R_tail HRR.out (Nat.le_of_lt hin) seg hl)
      obtain ⟨seg, hsl, hrun⟩ := clear_runI (c := cap - i) HRR.out hin 0
      have HSL := Aside0.mk hsl
      have q0 : (0 : Int) ≤ (i : Int) := by omega
      have q1 : (i : Int) ≤ (n : Int) := by omega
      have q2 : (i : Int) ≤ (cap : Int) := by have := HN.out; omega
      have q3 : ¬ cap = i := by have := HN.out; omega
      have hjn3 : ¬ ((j : Int) < (n : Int)) := by omega
      clear hfe hjn hjn2 hcl hsl
      go_wp2_with fail
      go_ret
      obtain ⟨hRR, hgg⟩ := HTL.out seg HSL.out
      have hgg2 : wr.grownBy (wr.setCells gb (i * 4) seg) (some gb) := hgg
      rw [HIL.out, ← HFE.out]
      exact ⟨rfl, hRR, ⟨Nat.le_trans HK.out.1 hgg2.size, fun k hk hn => (hgg2.block k (Nat.lt_of_lt_of_le hk HK.out.1) (fun he => hn (by injection he))).trans (HK.out.2 k hk hn)⟩, HBW.out.trans (show Below 0 wr _ from ⟨hgg2.os, hgg2.tape, hgg2.output, hgg2.size, fun k hk => absurd hk (Nat.not_lt_zero _)⟩)⟩

/-- clear, at rows. -/
theorem clear_runS {W : World} {ok : Nat → Prop} {gb n cap c i : Nat} {xs : List S55} (h : Kd.R k55 55 W 0 ok (.slice (some ⟨gb, 0, none⟩) n cap) xs) (hi : i < n) (ty : TypeId) :
    ∃ seg, seg.length = (n - i) * 4 ∧ (Builtin.clear_ #[34] ty #[.slice (some ⟨gb, i * 4, none⟩) (n - i) c]).run Try.prog W = .ok (.tuple #[]) (W.setCells gb (i * 4) seg) := by
  have hz : ∀ w, (zeroValue 55).run Try.prog w = .ok (.agg #[.int .i64 0, .int .i64 0, .int .i64 0, .string (⟨#[]⟩ : ByteArray)]) w := fun w => by kernel_rfl
  refine ⟨(Builtin.zeroCells (Value.agg #[.int .i64 0, .int .i64 0, .int .i64 0, .string (⟨#[]⟩ : ByteArray)]).cells (n - i)).toList, by simp [Builtin.zeroCells, Value.cells], ?_⟩
  obtain ⟨_, inner2, ho2, _⟩ := h
  rcases ho2.2 with ⟨hv, _⟩ | ⟨g, cap', cur, hv, hb, hh, hnc, hcm, hcs, ht2⟩
  · cases hv
  injection hv with ha hn' hc
  injection ha with ha
  injection ha with hg
  subst hg; subst hc
  have hsz : k55.sz = 4 := rfl
  rw [hsz] at hcs
  have hst := run_storeCells_cells (P := Try.prog) gb (i * 4) ((Builtin.zeroCells (Value.agg #[.int .i64 0, .int .i64 0, .int .i64 0, .string (⟨#[]⟩ : ByteArray)]).cells (n - i)).toList) 0 W (fun j hj => by rw [cell_of_row W gb _ cur 55 (0, 0) hh]; simp [Builtin.zeroCells, Value.cells] at hj ⊢; omega) (fun j _ => blk_frozen hh _) (by
    intro v hv
    simp only [Builtin.zeroCells, Value.cells, Array.toList_map, List.mem_map] at hv
    obtain ⟨q, _, rfl⟩ := hv
    have hq : q % 4 < 4 := Nat.mod_lt _ (by decide)
    show Value.oneCell' ((#[Value.int .i64 0, .int .i64 0, .int .i64 0, .string (⟨#[]⟩ : ByteArray)] : Array Value)[q % 4]!) = true
    have : q % 4 = 0 ∨ q % 4 = 1 ∨ q % 4 = 2 ∨ q % 4 = 3 := by omega
    rcases this with h | h | h | h <;> rw [h] <;> rfl)
  simp only [Nat.add_zero] at hst
  obtain ⟨m, hm⟩ : ∃ m, n - i = m + 1 := ⟨n - i - 1, by omega⟩
  rw [hm] at hst ⊢
  simp [Builtin.clear_, run_underlying Try.underlying34, hz, hst]
/-- What a closure over one captured cell or row answers of a row, in whatever world holds what it captured. -/
def PredBS (f B : Nat) (p : S55 → Bool) (w : World) : Prop := ∀ (W : World) (x : S55), w.heap.size ≤ W.heap.size → W.heap[B]? = w.heap[B]? → Calls Try.prog f #[.agg (cs55 x).toArray, .pointer (some ⟨B, 0, none⟩)] W fun e w' => e = .returned (.bool (p x)) ∧ Below W.heap.size W w'
theorem open3S (old : S55) (B : Nat) (w : World) (hB : w.heap[B]? = some (.cells (cs55 old).toArray 55 (0, 0))) : PredBS 37 B (fun x => decide (x.f0 = old.f0)) w := by
  intro W x hsz hk
  have hlt : B < w.heap.size := (Array.getElem?_eq_some_iff.1 hB).1
  have hW := hk.trans hB
  have HB := Aside0.mk (below_alloc (Below.refl W.heap.size W) (Obj.cells (cs55 x).toArray 55))
  have hcA : (W.alloc (Obj.cells #[.int .i64 x.f0, .int .i64 x.f1, .int .i64 x.f2, .string x.f3] 55)).cell? ⟨B, 0, none⟩ = some (.int .i64 old.f0) := (HB.out.cell (p := ⟨B, 0, none⟩) (Nat.lt_of_lt_of_le hlt hsz)).trans (by simp [World.cell?, hW, cs55])
  clear hsz hk hB hlt hW
  unfold cs55 at *
  go_enter Try.func37, Try.ntmps37
  go_wp2
  all_goals (go_ret; exact ⟨by rw [show (decide (x.f0 = old.f0)) = (x.f0 == old.f0) from rfl]; rfl, HB.out⟩)
theorem del_callsS (f B : Nat) (p : S55 → Bool) (w : World) (ok : Nat → Prop) (gb cap : Nat) (es : List S55) (hp : PredBS f B p w) (ef : Enters Try.prog f) (hB : B < w.heap.size) (hBg : B ≠ gb)
    (hR : Kd.R k55 55 w 0 ok (.slice (some ⟨gb, 0, none⟩) es.length cap) es) (h0 : 0 ≤ idxS p es) :
    Calls Try.prog 36 #[.slice (some ⟨gb, 0, none⟩) es.length cap, .func (.func f) #[] #[.pointer (some ⟨B, 0, none⟩)]] w fun e w' =>
      e = .returned (.slice (some ⟨gb, 0, none⟩) (es.filter (fun x => !p x)).length cap) ∧ Kd.R k55 55 w' 0 ok (.slice (some ⟨gb, 0, none⟩) (es.filter (fun x => !p x)).length cap) (es.filter (fun x => !p x)) ∧ Kept w w' (fun k => k = gb) ∧ Below 0 w w' := by
  have hix := idx_callsS f B p w _ cap es (fun W x hb => hp W x hb.size (hb.block B hB)) ef (Kd.R_reads' hR).2.2
  obtain ⟨i0, hi0⟩ : ∃ i0 : Nat, idxS p es = (i0 : Int) := ⟨(idxS p es).toNat, by omega⟩
  have hilt := idx_ltS p es h0
  have hbefore : (es.take (i0 + 1)).filter (fun x => !p x) = es.take i0 := by
    unfold idxS at hi0
    cases e : es.findIdx? p with
    | none => rw [e] at hi0; exact absurd hi0 (by simp)
    | some q =>
      rw [e] at hi0
      have hq : q = i0 := by have : (q : Int) = (i0 : Int) := hi0; omega
      subst hq
      rw [List.findIdx?_eq_some_iff_getElem] at e
      obtain ⟨h1, h2, h3⟩ := e
      rw [List.take_succ_eq_append_getElem h1, List.filter_append]
      have e1 : (es.take q).filter (fun x => !p x) = es.take q := by
        rw [List.filter_eq_self]
        intro x hx
        obtain ⟨j, hj, rfl⟩ := List.getElem_of_mem hx
        have hjq : j < q := by rw [List.length_take] at hj; omega
        rw [List.getElem_take]
        simpa using h3 j hjq
      rw [e1]
      simp [h2]
  rw [hi0] at hix
  have HIX := Aside0.mk hix
  have HP := Aside0.mk hp
  have HR := Aside0.mk hR
  have HBB := Aside0.mk (And.intro hB hBg)
  have ef' : ∀ args w, (callFunc f args).run Try.prog w = .ok (.enter f args) w := ef
  have hcap : es.length ≤ cap := (Kd.R_reads' hR).2.1
  have HN := Aside0.mk (And.intro (Kd.C_max (Kd.R_reads' hR).2.2) hcap)
  have hi0n : i0 < es.length := by have := hilt.1; omega
  have HI0 := Aside0.mk hi0n
  have HBE := Aside0.mk hbefore
  clear hix hp hR hB hBg ef hilt hi0 h0 hcap hi0n hbefore
  generalize hL : es.length = n at *
  have HL := Aside0.mk hL
  clear hL
  have d0 : ((i0 : Int) == -1) = false := by simp
  have hw0 : wrap64 ((i0 : Int) + 1) = (i0 : Int) + 1 := by have := HN.out; have := HI0.out; unfold wrap64; omega
  go_enter Try.func36, Try.ntmps36
  go_wp2_with fail
  refine HIX.out.mono ?_
  rintro _ w1 ⟨rfl, hb⟩
  have HR1 := Aside0.mk (Kd.R_below HR.out hb)
  have HB1 := Aside0.mk hb
  have HK1 := Aside0.mk (Kept.below (Kept.refl w (fun k => k = gb)) hb)
  have HC1 := Aside0.mk (hb.block B HBB.out.1)
  clear hb HIX HR
  go_wp2_with fail
  simp only [hw0]
  clear d0 hw0
  go_loopw [5, 6] (fun v5 v6 wr => ∃ (i j : Nat) (cur : List S55), v5 = .int .i64 (i : Int) ∧ v6 = .int .i64 (j : Int) ∧ Aside0 (i < j ∧ j ≤ n ∧ cur.take i = (es.take j).filter (fun x => !p x) ∧ cur.drop j = es.drop j) ∧ Aside0 (Kd.R k55 55 wr 0 ok (.slice (some ⟨gb, 0, none⟩) n cap) cur) ∧ Aside0 (Kept w wr (fun k => k = gb)) ∧ Aside0 (Below 0 w wr) ∧ Aside0 (wr.heap[B]? = w.heap[B]?)) (fun _ v6 _ => n - (intOf v6).toNat)
  case atStart => exact ⟨i0, i0 + 1, es, rfl, by rw [Int.natCast_add]; rfl, Aside0.mk ⟨Nat.lt_succ_self _, HI0.out, HBE.out.symm, rfl⟩, HR1, HK1, Aside0.mk (HB1.out.mono (Nat.zero_le _)), HC1⟩
  case round =>
    obtain ⟨i, j, cur, rfl, rfl, HI, HRR, HK, HBW, HC⟩ := hrel
    by_cases hjn : j < n
    · have d1 : decide ((j : Int) < (n : Int)) = true := decide_eq_true (by omega)
      have hj2 : (j : Int) < (n : Int) := by omega
      have hj0 : (0 : Int) ≤ (j : Int) := by omega
      have hcl : n = cur.length := (Kd.R_reads' HRR.out).1
      have hCC := (Kd.R_reads' HRR.out).2.2
      obtain ⟨ad, had, c0, c1, c2, c3⟩ := at_T55 hCC (j : Int) hj0 (by omega)
      injection had with had
      subst had
      rw [Int.toNat_natCast] at c0 c1 c2 c3
      have ead : (⟨gb, 0, none⟩ : Addr).add (j * 4) = ⟨gb, j * 4, none⟩ := by simp only [Addr.add]; split <;> simp_all
      rw [ead] at c0 c1 c2 c3
      simp only [] at c1 c2 c3
      have hdrop : es.drop j = rd_T55 cur (j : Int) :: es.drop (j + 1) ∧ cur.drop (j + 1) = es.drop (j + 1) := by
        have h9 : j < cur.length := by omega
        have h8 : j < es.length := by rw [HL.out]; exact hjn
        have h7 := HI.out.2.2.2
        rw [List.drop_eq_getElem_cons h9, List.drop_eq_getElem_cons h8] at h7
        injection h7 with h7a h7b
        refine ⟨?_, h7b⟩
        rw [List.drop_eq_getElem_cons h8, ← h7a]
        simp [rd_T55, h9]
      generalize rd_T55 cur (j : Int) = y at c0 c1 c2 c3 hdrop
      have HD := Aside0.mk hdrop
      have HJN := Aside0.mk hjn
      have HCL := Aside0.mk hcl
      have htake : es.take (j + 1) = es.take j ++ [y] := by
        have h8 : j < es.length := by rw [HL.out]; exact hjn
        have h := hdrop.1
        rw [List.drop_eq_getElem_cons h8] at h
        injection h with h _
        rw [List.take_succ_eq_append_getElem h8, h]
      have HTK := Aside0.mk htake
      have hbx := below_alloc (Below.refl wr.heap.size wr) (Obj.cells (cs55 y).toArray 55)
      have HBX := Aside0.mk hbx
      have HNX := Aside0.mk (heap_alloc_new wr (Obj.cells (cs55 y).toArray 55))
      have HWR := Aside0.mk (show wr.heap.size < (wr.alloc (Obj.cells (cs55 y).toArray 55)).heap.size by show _ < (wr.heap.push _).size; rw [Array.size_push]; omega)
      have hcall := HP.out (wr.alloc (Obj.cells (cs55 y).toArray 55)) y (Nat.le_trans HBW.out.size hbx.size) ((hbx.block B (Nat.lt_of_lt_of_le HBB.out.1 HBW.out.size)).trans HC.out)
      have HCALL := Aside0.mk hcall
      have hwj : wrap64 ((j : Int) + 1) = ((j + 1 : Nat) : Int) := by have := HN.out; unfold wrap64; omega
      have hwi : wrap64 ((i : Int) + 1) = ((i + 1 : Nat) : Int) := by have := HN.out; have := HI.out; unfold wrap64; omega
      clear hCC hdrop htake hbx hcall hcl ead
      go_wp2_with fail
      refine HCALL.out.mono ?_
      rintro _ w3 ⟨rfl, hb3⟩
      have HR3 := Aside0.mk (Kd.R_below (Kd.R_below HRR.out HBX.out) hb3)
      have hx3 := (hb3.block wr.heap.size HWR.out).trans HNX.out
      have hbb := HBX.out.trans (hb3.mono HBX.out.size)
      have HK3 := Aside0.mk (Kept.below HK.out hbb)
      have HB3 := Aside0.mk (HBW.out.trans (hbb.mono (Nat.zero_le _)))
      have HC3 := Aside0.mk ((hbb.block B (Nat.lt_of_lt_of_le HBB.out.1 HBW.out.size)).trans HC.out)
      have b0 : w3.cell? ⟨wr.heap.size, 0, none⟩ = some (.int .i64 y.f0) := by simp [World.cell?, hx3, cs55]
      have b1 : w3.cell? ⟨wr.heap.size, 1, none⟩ = some (.int .i64 y.f1) := by simp [World.cell?, hx3, cs55]
      have b2 : w3.cell? ⟨wr.heap.size, 2, none⟩ = some (.int .i64 y.f2) := by simp [World.cell?, hx3, cs55]
      have b3 : w3.cell? ⟨wr.heap.size, 3, none⟩ = some (.string y.f3) := by simp [World.cell?, hx3, cs55]
      clear hb3 hx3 hbb HRR HK HBW HC HCALL c0 c1 c2 c3 HBX HNX HWR
      cases hq : p y with
      | true =>
        have HT := Aside0.mk (show cur.take i = (es.take (j + 1)).filter (fun x => !p x) by rw [HTK.out, List.filter_append, ← HI.out.2.2.1]; simp [hq])
        clear hq hjn hj2 d1 b0 b1 b2 b3
        go_wp2_with fail
        go_roundw
        case rel => exact ⟨i, j + 1, cur, rfl, by rw [hwj], Aside0.mk ⟨by have := HI.out.1; omega, HJN.out, HT.out, HD.out.2⟩, HR3, HK3, HB3, HC3⟩
        case measure => have := HJN.out; rw [hwj]; simp [intOf]; omega
      | false =>
        have hin : i < n := by have := HI.out; omega
        have HT := Aside0.mk (show (cur.set i y).take (i + 1) = (es.take (j + 1)).filter (fun x => !p x) by
          have hic : i < (cur.set i y).length := by rw [List.length_set, ← HCL.out]; exact hin
          rw [HTK.out, List.filter_append, ← HI.out.2.2.1, List.take_succ_eq_append_getElem hic, List.take_set_of_le (Nat.le_refl _)]; simp [hq])
        have HDS := Aside0.mk (show (cur.set i y).drop (j + 1) = es.drop (j + 1) by rw [List.drop_set_of_lt (by have := HI.out.1; omega)]; exact HD.out.2)
        have q0 : (0 : Int) ≤ (i : Int) := by omega
        have q1 : (i : Int) < (n : Int) := by omega
        clear hq hjn hj2 d1
        go_wp2_with (first
          | (refine gate_ (.store 55 (.tmp 33) (.tmp 32)) rfl ?_
             refine R_store_list k55 0 rfl rfl 55 (.tmp 33) (.tmp 32) rfl 55 (g := gb) (n := n) (cap := cap) (o' := i * 4) (i : Int) cur y (.agg #[.int .i64 y.f0, .int .i64 y.f1, .int .i64 y.f2, .string y.f3]) [.int .i64 y.f0, .int .i64 y.f1, .int .i64 y.f2, .string y.f3] ok (fun _ => False) rfl (by rw [Int.toNat_natCast]; rfl) rfl rfl (by rfl) (by intro q hq; simp at hq; rcases hq with rfl | rfl | rfl | rfl <;> rfl) HR3.out q0 q1 rfl z55 (k55_mkM w3 0 _ y) (fun _ h => h.elim) ?_
             intro w4 hR4 hg4)
          | fail)
        rw [Int.toNat_natCast] at hR4
        have HR4 := Aside0.mk hR4
        have HK4 := Aside0.mk (show Kept w w4 (fun k => k = gb) from ⟨Nat.le_trans HK3.out.1 hg4.size, fun k hk hn => (hg4.block k (Nat.lt_of_lt_of_le hk HK3.out.1) (fun he => hn (by injection he))).trans (HK3.out.2 k hk hn)⟩)
        have HB4 := Aside0.mk (HB3.out.trans (show Below 0 w3 w4 from ⟨hg4.os, hg4.tape, hg4.output, hg4.size, fun k hk => absurd hk (Nat.not_lt_zero _)⟩))
        have HC4 := Aside0.mk ((hg4.block B (Nat.lt_of_lt_of_le HBB.out.1 HB3.out.size) (fun he => HBB.out.2 (by injection he))).trans HC3.out)
        clear hR4 hg4 b0 b1 b2 b3
        go_roundw
        case rel => exact ⟨i + 1, j + 1, cur.set i y, by rw [hwi], by rw [hwj], Aside0.mk ⟨by have := HI.out.1; omega, HJN.out, HT.out, HDS.out⟩, HR4, HK4, HB4, HC4⟩
        case measure => have := HJN.out; rw [hwj]; simp [intOf]; omega
    · have d1 : decide ((j : Int) < (n : Int)) = false := decide_eq_false (by omega)
      have hjn2 : j = n := by have := HI.out; omega
      have hin : i < n := by have := HI.out.1; omega
      have hfe : cur.take i = es.filter (fun x => !p x) := by
        rw [HI.out.2.2.1, List.take_of_length_le (by rw [HL.out]; omega)]
      have hcl : n = cur.length := (Kd.R_reads' HRR.out).1
      have HIL := Aside0.mk (show (es.filter (fun x => !p x)).length = i by rw [← hfe, List.length_take]; omega)
      have HFE := Aside0.mk hfe
      have HTL := Aside0.mk (fun seg hl => R_tail HRR.out (Nat.le_of_lt hin) seg hl)
      obtain ⟨seg, hsl, hrun⟩ := clear_runS (c := cap - i) HRR.out hin 0
      have HSL := Aside0.mk hsl
      have q0 : (0 : Int) ≤ (i : Int) := by omega
      have q1 : (i : Int) ≤ (n : Int) := by omega
      have q2 : (i : Int) ≤ (cap : Int) := by have := HN.out; omega
      have q3 : ¬ cap = i := by have := HN.out; omega
      have hjn3 : ¬ ((j : Int) < (n : Int)) := by omega
      clear hfe hjn hjn2 hcl hsl
      go_wp2_with fail
      go_ret
      obtain ⟨hRR, hgg⟩ := HTL.out seg HSL.out
      have hgg2 : wr.grownBy (wr.setCells gb (i * 4) seg) (some gb) := hgg
      rw [HIL.out, ← HFE.out]
      exact ⟨rfl, hRR, ⟨Nat.le_trans HK.out.1 hgg2.size, fun k hk hn => (hgg2.block k (Nat.lt_of_lt_of_le hk HK.out.1) (fun he => hn (by injection he))).trans (HK.out.2 k hk hn)⟩, HBW.out.trans (show Below 0 wr _ from ⟨hgg2.os, hgg2.tape, hgg2.output, hgg2.size, fun k hk => absurd hk (Nat.not_lt_zero _)⟩)⟩

end Go.Proofs.Ytahkokbfghifhaa.PS
