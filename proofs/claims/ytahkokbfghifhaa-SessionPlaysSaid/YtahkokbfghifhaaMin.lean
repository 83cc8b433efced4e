/- MinFunc over rows: the least by when it was used. -/
import Derived.Test.YtahkokbfghifhaaCmp
import Derived.StillTailTactics
import Derived.Handy
import Derived.Test.YtahkokbfghifhaaProg
import Derived.Below
import Derived.Deep.Draws
import Derived.Deep.AppendLies
import Derived.Maps.AppendAt
import Derived.OwnWalk
import Derived.Laws.BytesArg
import Derived.Laws.MakeOwn
import Derived.Laws.OwnMore
import Derived.Deep.OwnRows
import Derived.Tactics
import Derived.Lib.ConvBytes
import Derived.Laws.Slices
import Derived.WalkKit
import Derived.KernelRfl
import Derived.RowKit3
import Derived.Deep.LoopGhost
import Derived.Deep.QuietTactic
import Derived.BigQuiet
import Derived.WideLaws
import Derived.Deep.DeepCutAuto
import Derived.Deep.CutBlock
import Derived.Deep.RegionHeld3
import Derived.Laws.Rows
import Derived.Lib.AppendStr
import Derived.ArgAppend
import Derived.Laws.IdiomCopy
import Derived.OrdersHeld
import Derived.Laws.BitsLemmas
import Derived.RowKit
import Derived.Test.YtahkokbfghifhaaWWords
import Derived.Test.YtahkokbfghifhaaWLast
import Derived.Test.YtahkokbfghifhaaWTab
import Derived.Test.YtahkokbfghifhaaWFour
import Derived.Test.YtahkokbfghifhaaWQPut
import Derived.Test.YtahkokbfghifhaaWApart
import Derived.Test.YtahkokbfghifhaaWArr
import Derived.Test.YtahkokbfghifhaaWZeros
import Derived.Test.YtahkokbfghifhaaWFoot
import Derived.Test.YtahkokbfghifhaaWKept
import Derived.Test.YtahkokbfghifhaaWShare
import Derived.Test.YtahkokbfghifhaaWN
import Derived.Test.YtahkokbfghifhaaWFootNe
import Derived.Test.YtahkokbfghifhaaWAt
import Derived.Test.YtahkokbfghifhaaWEqStruct
import Derived.Test.YtahkokbfghifhaaWRepsOne
import Derived.Test.YtahkokbfghifhaaWInv
import Derived.Test.YtahkokbfghifhaaWInvWords
import Derived.Test.YtahkokbfghifhaaWGuard
import Derived.Test.YtahkokbfghifhaaWNEv
import Derived.Test.YtahkokbfghifhaaWMore
namespace Go.Proofs.Ytahkokbfghifhaa.PS
open Go.RowKit Go.Proofs.YtahkokbfghifhaaW.PrintWords Go.Proofs.YtahkokbfghifhaaW.PrintLast Go.Proofs.YtahkokbfghifhaaW.PrintMore
set_option linter.unusedVariables false
set_option linter.unusedSimpArgs false
set_option maxHeartbeats 4000000
set_option maxRecDepth 100000

theorem results_c1 {P : Program} {fn : Func} {p : Tmp} {ty : TypeId} (h : fn.results = #[.cell p ty]) (tmps : Array Value) (w : World) (g : Nat) (t : TypeId) (cs : Array Value) (fr : Nat × Nat) (d : TypeDesc)
    (hp : tmps.getD p undef = .pointer (some ⟨g, 0, none⟩)) (hg : w.heap[g]? = some (.cells cs t fr))
    (hu : P.underlying ty = some d) (hd : (match d with | .struct _ | .array _ _ => true | _ => false) = true) (hi : (P.info? ty).map (·.size) = some cs.size) :
    (results fn tmps).run P w = .ok (.agg cs) w := by
  have hp' : tmps[p]?.getD undef = .pointer (some ⟨g, 0, none⟩) := by simpa using hp
  simp [results, h, hp', asAddr, run_loadVar_row w g t ty cs fr d hg hu hd hi]
theorem wp_store_box {P : Program} {ops : Array Oper} {rest : List Oper} {o : Oper} {a : Act} {Q : Exit → Act → World → Prop} {W : World} (hN : o.dst = none) (hgd : o.guard = none) (t : TypeId) (p x : Operand) (ho : o.op = .store t p x) {g e : Nat} {cur : Array Value} (cs : List Value)
    (hp : a.eval p = .pointer (some ⟨g, 0, none⟩)) (hx : a.eval x = .agg cs.toArray) (hh : W.heap[g]? = some (.cells cur e (0, 0))) (hsz : cur.size = cs.length) (ht : (P.info? t).map (·.size) = some cs.length) (h1 : ∀ q ∈ cs, q.oneCell' = true)
    (h : ∀ w1, w1.heap[g]? = some (.cells cs.toArray e (0, 0)) → W.grownBy w1 (some g) → wpList P ops Q rest a w1) : wpList P ops Q (o :: rest) a W := by
  refine wpList_plain hgd fun K hK => ?_
  have hrun := run_store_run (P := P) (w := W) (g := g) (o := 0) t (.agg cs.toArray) cs hh (by simp [Value.cells]) ht (by rw [hsz]; omega) h1
  obtain ⟨cur', h3, h4, h5⟩ := setCells_row cs 0 W cur hh (by rw [hsz]; omega)
  have e1 : cur' = cs.toArray := by
    apply Array.toList_inj.1
    rw [h5]
    simp [hsz]
  have hs := setCells_same g cs 0 W
  have hw : W.grownBy (W.setCells g 0 cs) (some g) := ⟨hs.1, hs.2.1, hs.2.2.1, Nat.le_of_eq (by have := hs.2.2.2; exact this.symm), fun k _ hk => setCells_far cs 0 k (fun he => hk (by rw [he]))⟩
  unfold Oper.wp execOp
  simp only [ho, hp, hx, Sem.run_bind, Sem.run_pure, Result.andThen_ok, hrun]
  show K (a.put o.dst undef) _
  rw [hN]
  exact hK a _ (h _ (by rw [h3, e1]) hw)

def ltrI (x m : S45) : Bool := decide (ordv x.f2 x.f0 m.f2 m.f0 < 0)
def minFromI (m : S45) : List S45 → S45
  | [] => m
  | x :: r => minFromI (if ltrI x m then x else m) r
theorem C_cell_ltI {W : World} {p : Addr} {v : Value} (h : W.cell? p = some v) : p.block < W.heap.size := by
  by_cases hlt : p.block < W.heap.size
  · exact hlt
  · exfalso
    have : W.heap[p.block]? = none := Array.getElem?_eq_none (by omega)
    simp [World.cell?, this] at h
theorem min_callsI (w : World) (A : Option Addr) (c : Nat) (es : List S45) (hC : Kd.C k45 w A es.length es) (h0 : 0 < es.length) :
    Calls Try.prog 24 #[.slice A es.length c, .func (.func 25) #[] #[]] w fun e w' => e = .returned (.agg (cs45 (minFromI (rd_T45 es 0) (es.drop 1))).toArray) ∧ Below w.heap.size w w' := by
  have hbz := below_alloc (Below.refl w.heap.size w) (Obj.cells #[.int .i64 0, .int .i64 0, .int .i64 0, .int .i64 0] 45)
  have hzn := heap_alloc_new w (Obj.cells #[.int .i64 0, .int .i64 0, .int .i64 0, .int .i64 0] 45)
  obtain ⟨ad, rfl, c0, c1, c2, c3⟩ := at_T45 (Kd.C_below hC hbz) 0 (by omega) (by omega)
  have e0 : ad.add (Int.toNat 0 * 4) = ad := by simp [Addr.add]
  rw [e0] at c0 c1 c2 c3
  clear e0
  have hlt0 : w.heap.size < (w.alloc (Obj.cells #[.int .i64 0, .int .i64 0, .int .i64 0, .int .i64 0] 45)).heap.size := by show _ < (w.heap.push _).size; rw [Array.size_push]; omega
  obtain ⟨w0, hw0⟩ : ∃ w0, w0 = w.alloc (Obj.cells #[.int .i64 0, .int .i64 0, .int .i64 0, .int .i64 0] 45) := ⟨_, rfl⟩
  have HW0 := Aside0.mk hw0
  rw [← hw0] at hbz hzn hlt0
  have HB0 := Aside0.mk hbz
  have HZ0 := Aside0.mk (And.intro hzn hlt0)
  clear hbz hzn hlt0 hw0
  have HC := Aside0.mk hC
  have HN := Aside0.mk (Kd.C_max hC)
  have H0 := Aside0.mk h0
  generalize hM : minFromI (rd_T45 es 0) (es.drop 1) = M
  generalize hx0 : rd_T45 es 0 = x0 at *
  have HM := Aside0.mk hM
  clear hM hC hx0
  generalize hL : es.length = n at *
  have HL := Aside0.mk hL
  clear hL
  have d0 : decide ((n : Int) < 1) = false := decide_eq_false (by omega)
  have q0 : (0 : Int) < (n : Int) := by omega
  go_enter Try.func24, Try.ntmps24
  have hx1 := heap_alloc_new w0 (Obj.cells (cs45 x0).toArray 45)
  have hbx := below_alloc (Below.refl w0.heap.size w0) (Obj.cells (cs45 x0).toArray 45)
  have hsz0 : w0.heap.size = w.heap.size + 1 := by rw [HW0.out]; show (w.heap.push _).size = _; rw [Array.size_push]
  obtain ⟨b, hb5⟩ : ∃ b, b = w.heap.size + 1 := ⟨_, rfl⟩
  rw [hsz0, ← hb5] at hx1
  have HX1 := Aside0.mk hx1
  have HZ1 := Aside0.mk ((hbx.block _ HZ0.out.2).trans HZ0.out.1)
  have HB1 := Aside0.mk (HB0.out.trans (hbx.mono HB0.out.size))
  have HB5 := Aside0.mk hb5
  have HS1 := Aside0.mk (show b < (w0.alloc (Obj.cells (cs45 x0).toArray 45)).heap.size by show _ < (w0.heap.push _).size; rw [Array.size_push, hsz0]; omega)
  clear hx1 hbx hsz0 hb5 HB0 HZ0
  go_wp2_with fail
  have hwx : (w.alloc (Obj.cells #[.int .i64 0, .int .i64 0, .int .i64 0, .int .i64 0] 45)).alloc (Obj.cells #[.int .i64 x0.f0, .int .i64 x0.f1, .int .i64 x0.f2, .int .i64 x0.f3] 45) = w0.alloc (Obj.cells (cs45 x0).toArray 45) := by rw [HW0.out]; rfl
  rw [hwx]
  clear hwx
  rw [← HB5.out]
  generalize w0.alloc (Obj.cells (cs45 x0).toArray 45) = w1 at *
  clear c0 c1 c2 c3 HW0 d0 q0 h0
  go_loopw [6] (fun v6 wr => ∃ (i : Nat) (m : S45), v6 = .int .i64 (i : Int) ∧ Aside0 (1 ≤ i ∧ i ≤ n) ∧ Aside0 (minFromI m (es.drop i) = M) ∧ Aside0 (wr.heap[b]? = some (.cells (cs45 m).toArray 45 (0, 0))) ∧ Aside0 (wr.heap[w.heap.size]? = some (.cells #[.int .i64 0, .int .i64 0, .int .i64 0, .int .i64 0] 45 (0, 0))) ∧ Aside0 (Below w.heap.size w wr)) (fun v6 _ => n - (intOf v6).toNat)
  case atStart => exact ⟨1, x0, rfl, Aside0.mk ⟨Nat.le_refl _, H0.out⟩, HM, HX1, HZ1, HB1⟩
  case round =>
    obtain ⟨i, m, rfl, HI, HMM, HX, HZ, HB⟩ := hrel
    have hm0 : wr.cell? ⟨b, 0, none⟩ = some (.int .i64 m.f0) := by simp [World.cell?, HX.out, cs45]
    have hm1 : wr.cell? ⟨b, 1, none⟩ = some (.int .i64 m.f1) := by simp [World.cell?, HX.out, cs45]
    have hm2 : wr.cell? ⟨b, 2, none⟩ = some (.int .i64 m.f2) := by simp [World.cell?, HX.out, cs45]
    have hm3 : wr.cell? ⟨b, 3, none⟩ = some (.int .i64 m.f3) := by simp [World.cell?, HX.out, cs45]
    by_cases hin : i < n
    · have d1 : decide ((i : Int) < (n : Int)) = true := decide_eq_true (by omega)
      have hC2 := Kd.C_below HC.out HB.out
      have hi0 : (0 : Int) ≤ (i : Int) := by omega
      have hin2 : (i : Int) < (n : Int) := by omega
      obtain ⟨ad2, had, c0, c1, c2, c3⟩ := at_T45 hC2 (i : Int) hi0 hin2
      injection had with had
      subst had
      rw [Int.toNat_natCast] at c0 c1 c2 c3
      have hdrop : es.drop i = rd_T45 es (i : Int) :: es.drop (i + 1) := by
        have h9 : i < es.length := by rw [HL.out]; exact hin
        rw [List.drop_eq_getElem_cons h9]
        simp [rd_T45, h9]
      generalize rd_T45 es (i : Int) = y at c0 c1 c2 c3 hdrop
      have HD := Aside0.mk hdrop
      have HIN := Aside0.mk hin
      have HCMP := Aside0.mk (cmp_callsI y m)
      have hwi : wrap64 ((i : Int) + 1) = ((i + 1 : Nat) : Int) := by have := HN.out; unfold wrap64; omega
      clear hC2 hdrop
      go_wp2_with fail
      go_still_tail 6, (by kernel_rfl)
      change wpList _ _ _ _ _ wr.drew
      have HBD := Aside0.mk (below_drew (Below.refl wr.heap.size wr))
      generalize wr.drew = wd at *
      go_wp2_with fail
      refine (HCMP.out wd).mono ?_
      rintro _ w3 ⟨rfl, hb3⟩
      have hbb := HBD.out.trans (hb3.mono HBD.out.size)
      have HX3 := Aside0.mk ((hbb.block b (Array.getElem?_eq_some_iff.1 HX.out).1).trans HX.out)
      have HZ3 := Aside0.mk ((hbb.block w.heap.size (Array.getElem?_eq_some_iff.1 HZ.out).1).trans HZ.out)
      have HB3 := Aside0.mk (HB.out.trans (hbb.mono HB.out.size))
      have hC3 := Kd.C_below HC.out HB3.out
      have c0' : w3.cell? (ad.add (i * 4)) = some (.int .i64 y.f0) := (hbb.cell (C_cell_ltI c0)).trans c0
      have c1' : w3.cell? ⟨(ad.add (i * 4)).block, (ad.add (i * 4)).off + 1, none⟩ = some (.int .i64 y.f1) := (hbb.cell (C_cell_ltI c1)).trans c1
      have c2' : w3.cell? ⟨(ad.add (i * 4)).block, (ad.add (i * 4)).off + 2, none⟩ = some (.int .i64 y.f2) := (hbb.cell (C_cell_ltI c2)).trans c2
      have c3' : w3.cell? ⟨(ad.add (i * 4)).block, (ad.add (i * 4)).off + 3, none⟩ = some (.int .i64 y.f3) := (hbb.cell (C_cell_ltI c3)).trans c3
      have hlt : decide (ordv y.f2 y.f0 m.f2 m.f0 < 0) = ltrI y m := rfl
      generalize ordv y.f2 y.f0 m.f2 m.f0 = o at hlt
      clear hb3 hbb hC3 HX HZ HB HBD hm0 hm1 hm2 hm3 c0 c1 c2 c3 HCMP
      cases hq : ltrI y m with
      | true =>
        rw [hq] at hlt
        have HMM2 := Aside0.mk (show minFromI y (es.drop (i + 1)) = M by have h := HMM.out; rw [HD.out] at h; simp only [minFromI, hq, if_true] at h; exact h)
        clear hq
        go_wp2_with (first
          | (refine gate_ (.store 45 (.tmp 5) (.tmp 31)) rfl ?_; refine wp_store_box rfl rfl 45 (.tmp 5) (.tmp 31) rfl (cs45 y) rfl rfl HX3.out rfl (by rfl) (by intro q hq; simp [cs45] at hq; rcases hq with rfl | rfl | rfl | rfl <;> rfl) ?_; intro w4 hh4 hg4)
          | fail)
        have HX4 := Aside0.mk hh4
        have HZ4 := Aside0.mk ((hg4.block w.heap.size (Array.getElem?_eq_some_iff.1 HZ3.out).1 (fun he => by injection he with he; have := HB5.out; omega)).trans HZ3.out)
        have HB4 := Aside0.mk (HB3.out.trans (show Below w.heap.size w3 w4 from ⟨hg4.os, hg4.tape, hg4.output, hg4.size, fun k hk => hg4.block k (Nat.lt_of_lt_of_le hk HB3.out.size) (fun he => by injection he with he; have := HB5.out; omega)⟩))
        clear hh4 hg4 hin hin2 d1
        go_roundw
        case rel => exact ⟨i + 1, y, by rw [hwi], Aside0.mk (by have := HIN.out; omega), HMM2, HX4, HZ4, HB4⟩
        case measure => have := HIN.out; rw [hwi]; simp [intOf]; omega
      | false =>
        rw [hq] at hlt
        have HMM2 := Aside0.mk (show minFromI m (es.drop (i + 1)) = M by have h := HMM.out; rw [HD.out] at h; simp only [minFromI, hq] at h; exact h)
        clear hq hin hin2 d1
        go_wp2_with fail
        go_roundw
        case rel => exact ⟨i + 1, m, by rw [hwi], Aside0.mk (by have := HIN.out; omega), HMM2, HX3, HZ3, HB3⟩
        case measure => have := HIN.out; rw [hwi]; simp [intOf]; omega
    · have d1 : decide ((i : Int) < (n : Int)) = false := decide_eq_false (by omega)
      have hin2 : ¬ (i : Int) < (n : Int) := by omega
      have hmm : m = M := by
        have h := HMM.out
        rw [List.drop_eq_nil_of_le (by rw [HL.out]; omega)] at h
        exact h
      subst hmm
      go_wp2_with (first
        | (refine gate_ (.store 45 (.tmp 4) (.tmp 32)) rfl ?_; refine wp_store_box rfl rfl 45 (.tmp 4) (.tmp 32) rfl (cs45 m) rfl rfl HZ.out rfl (by rfl) (by intro q hq; simp [cs45] at hq; rcases hq with rfl | rfl | rfl | rfl <;> rfl) ?_; intro w2 hh2 hg2)
        | fail)
      have HB2 := Aside0.mk (HB.out.trans (show Below w.heap.size wr w2 from ⟨hg2.os, hg2.tape, hg2.output, hg2.size, fun k hk => hg2.block k (Nat.lt_of_lt_of_le hk HB.out.size) (fun he => by injection he with he; omega)⟩))
      refine bodyPost_ret (results_c1 rfl _ _ w.heap.size 45 _ (0, 0) _ rfl hh2 Try.underlying45 rfl (by kernel_rfl)) rfl ?_
      exact ⟨rfl, HB2.out⟩

def ltrS (x m : S55) : Bool := decide (ordv x.f2 x.f0 m.f2 m.f0 < 0)
def minFromS (m : S55) : List S55 → S55
  | [] => m
  | x :: r => minFromS (if ltrS x m then x else m) r
theorem C_cell_ltS {W : World} {p : Addr} {v : Value} (h : W.cell? p = some v) : p.block < W.heap.size := by
  by_cases hlt : p.block < W.heap.size
  · exact hlt
  · exfalso
    have : W.heap[p.block]? = none := Array.getElem?_eq_none (by omega)
    simp [World.cell?, this] at h
theorem min_callsS (w : World) (A : Option Addr) (c : Nat) (es : List S55) (hC : Kd.C k55 w A es.length es) (h0 : 0 < es.length) :
    Calls Try.prog 34 #[.slice A es.length c, .func (.func 35) #[] #[]] w fun e w' => e = .returned (.agg (cs55 (minFromS (rd_T55 es 0) (es.drop 1))).toArray) ∧ Below w.heap.size w w' := by
  have hbz := below_alloc (Below.refl w.heap.size w) (Obj.cells #[.int .i64 0, .int .i64 0, .int .i64 0, .string (⟨#[]⟩ : ByteArray)] 55)
  have hzn := heap_alloc_new w (Obj.cells #[.int .i64 0, .int .i64 0, .int .i64 0, .string (⟨#[]⟩ : ByteArray)] 55)
  obtain ⟨ad, rfl, c0, c1, c2, c3⟩ := at_T55 (Kd.C_below hC hbz) 0 (by omega) (by omega)
  have e0 : ad.add (Int.toNat 0 * 4) = ad := by simp [Addr.add]
  rw [e0] at c0 c1 c2 c3
  clear e0
  have hlt0 : w.heap.size < (w.alloc (Obj.cells #[.int .i64 0, .int .i64 0, .int .i64 0, .string (⟨#[]⟩ : ByteArray)] 55)).heap.size := by show _ < (w.heap.push _).size; rw [Array.size_push]; omega
  obtain ⟨w0, hw0⟩ : ∃ w0, w0 = w.alloc (Obj.cells #[.int .i64 0, .int .i64 0, .int .i64 0, .string (⟨#[]⟩ : ByteArray)] 55) := ⟨_, rfl⟩
  have HW0 := Aside0.mk hw0
  rw [← hw0] at hbz hzn hlt0
  have HB0 := Aside0.mk hbz
  have HZ0 := Aside0.mk (And.intro hzn hlt0)
  clear hbz hzn hlt0 hw0
  have HC := Aside0.mk hC
  have HN := Aside0.mk (Kd.C_max hC)
  have H0 := Aside0.mk h0
  generalize hM : minFromS (rd_T55 es 0) (es.drop 1) = M
  generalize hx0 : rd_T55 es 0 = x0 at *
  have HM := Aside0.mk hM
  clear hM hC hx0
  generalize hL : es.length = n at *
  have HL := Aside0.mk hL
  clear hL
  have d0 : decide ((n : Int) < 1) = false := decide_eq_false (by omega)
  have q0 : (0 : Int) < (n : Int) := by omega
  go_enter Try.func34, Try.ntmps34
  have hx1 := heap_alloc_new w0 (Obj.cells (cs55 x0).toArray 55)
  have hbx := below_alloc (Below.refl w0.heap.size w0) (Obj.cells (cs55 x0).toArray 55)
  have hsz0 : w0.heap.size = w.heap.size + 1 := by rw [HW0.out]; show (w.heap.push _).size = _; rw [Array.size_push]
  obtain ⟨b, hb5⟩ : ∃ b, b = w.heap.size + 1 := ⟨_, rfl⟩
  rw [hsz0, ← hb5] at hx1
  have HX1 := Aside0.mk hx1
  have HZ1 := Aside0.mk ((hbx.block _ HZ0.out.2).trans HZ0.out.1)
  have HB1 := Aside0.mk (HB0.out.trans (hbx.mono HB0.out.size))
  have HB5 := Aside0.mk hb5
  have HS1 := Aside0.mk (show b < (w0.alloc (Obj.cells (cs55 x0).toArray 55)).heap.size by show _ < (w0.heap.push _).size; rw [Array.size_push, hsz0]; omega)
  clear hx1 hbx hsz0 hb5 HB0 HZ0
  go_wp2_with fail
  have hwx : (w.alloc (Obj.cells #[.int .i64 0, .int .i64 0, .int .i64 0, .string (⟨#[]⟩ : ByteArray)] 55)).alloc (Obj.cells #[.int .i64 x0.f0, .int .i64 x0.f1, .int .i64 x0.f2, .string x0.f3] 55) = w0.alloc (Obj.cells (cs55 x0).toArray 55) := by rw [HW0.out]; rfl
  rw [hwx]
  clear hwx
  rw [← HB5.out]
  generalize w0.alloc (Obj.cells (cs55 x0).toArray 55) = w1 at *
  clear c0 c1 c2 c3 HW0 d0 q0 h0
  go_loopw [6] (fun v6 wr => ∃ (i : Nat) (m : S55), v6 = .int .i64 (i : Int) ∧ Aside0 (1 ≤ i ∧ i ≤ n) ∧ Aside0 (minFromS m (es.drop i) = M) ∧ Aside0 (wr.heap[b]? = some (.cells (cs55 m).toArray 55 (0, 0))) ∧ Aside0 (wr.heap[w.heap.size]? = some (.cells #[.int .i64 0, .int .i64 0, .int .i64 0, .string (⟨#[]⟩ : ByteArray)] 55 (0, 0))) ∧ Aside0 (Below w.heap.size w wr)) (fun v6 _ => n - (intOf v6).toNat)
  case atStart => exact ⟨1, x0, rfl, Aside0.mk ⟨Nat.le_refl _, H0.out⟩, HM, HX1, HZ1, HB1⟩
  case round =>
    obtain ⟨i, m, rfl, HI, HMM, HX, HZ, HB⟩ := hrel
    have hm0 : wr.cell? ⟨b, 0, none⟩ = some (.int .i64 m.f0) := by simp [World.cell?, HX.out, cs55]
    have hm1 : wr.cell? ⟨b, 1, none⟩ = some (.int .i64 m.f1) := by simp [World.cell?, HX.out, cs55]
    have hm2 : wr.cell? ⟨b, 2, none⟩ = some (.int .i64 m.f2) := by simp [World.cell?, HX.out, cs55]
    have hm3 : wr.cell? ⟨b, 3, none⟩ = some (.string m.f3) := by simp [World.cell?, HX.out, cs55]
    by_cases hin : i < n
    · have d1 : decide ((i : Int) < (n : Int)) = true := decide_eq_true (by omega)
      have hC2 := Kd.C_below HC.out HB.out
      have hi0 : (0 : Int) ≤ (i : Int) := by omega
      have hin2 : (i : Int) < (n : Int) := by omega
      obtain ⟨ad2, had, c0, c1, c2, c3⟩ := at_T55 hC2 (i : Int) hi0 hin2
      injection had with had
      subst had
      rw [Int.toNat_natCast] at c0 c1 c2 c3
      have hdrop : es.drop i = rd_T55 es (i : Int) :: es.drop (i + 1) := by
        have h9 : i < es.length := by rw [HL.out]; exact hin
        rw [List.drop_eq_getElem_cons h9]
        simp [rd_T55, h9]
      generalize rd_T55 es (i : Int) = y at c0 c1 c2 c3 hdrop
      have HD := Aside0.mk hdrop
      have HIN := Aside0.mk hin
      have HCMP := Aside0.mk (cmp_callsS y m)
      have hwi : wrap64 ((i : Int) + 1) = ((i + 1 : Nat) : Int) := by have := HN.out; unfold wrap64; omega
      clear hC2 hdrop
      go_wp2_with fail
      go_still_tail 6, (by kernel_rfl)
      change wpList _ _ _ _ _ wr.drew
      have HBD := Aside0.mk (below_drew (Below.refl wr.heap.size wr))
      generalize wr.drew = wd at *
      go_wp2_with fail
      refine (HCMP.out wd).mono ?_
      rintro _ w3 ⟨rfl, hb3⟩
      have hbb := HBD.out.trans (hb3.mono HBD.out.size)
      have HX3 := Aside0.mk ((hbb.block b (Array.getElem?_eq_some_iff.1 HX.out).1).trans HX.out)
      have HZ3 := Aside0.mk ((hbb.block w.heap.size (Array.getElem?_eq_some_iff.1 HZ.out).1).trans HZ.out)
      have HB3 := Aside0.mk (HB.out.trans (hbb.mono HB.out.size))
      have hC3 := Kd.C_below HC.out HB3.out
      have c0' : w3.cell? (ad.add (i * 4)) = some (.int .i64 y.f0) := (hbb.cell (C_cell_ltS c0)).trans c0
      have c1' : w3.cell? ⟨(ad.add (i * 4)).block, (ad.add (i * 4)).off + 1, none⟩ = some (.int .i64 y.f1) := (hbb.cell (C_cell_ltS c1)).trans c1
      have c2' : w3.cell? ⟨(ad.add (i * 4)).block, (ad.add (i * 4)).off + 2, none⟩ = some (.int .i64 y.f2) := (hbb.cell (C_cell_ltS c2)).trans c2
      have c3' : w3.cell? ⟨(ad.add (i * 4)).block, (ad.add (i * 4)).off + 3, none⟩ = some (.string y.f3) := (hbb.cell (C_cell_ltS c3)).trans c3
      have hlt : decide (ordv y.f2 y.f0 m.f2 m.f0 < 0) = ltrS y m := rfl
      generalize ordv y.f2 y.f0 m.f2 m.f0 = o at hlt
      clear hb3 hbb hC3 HX HZ HB HBD hm0 hm1 hm2 hm3 c0 c1 c2 c3 HCMP
      cases hq : ltrS y m with
      | true =>
        rw [hq] at hlt
        have HMM2 := Aside0.mk (show minFromS y (es.drop (i + 1)) = M by have h := HMM.out; rw [HD.out] at h; simp only [minFromS, hq, if_true] at h; exact h)
        clear hq
        go_wp2_with (first
          | (refine gate_ (.store 55 (.tmp 5) (.tmp 31)) rfl ?_; refine wp_store_box rfl rfl 55 (.tmp 5) (.tmp 31) rfl (cs55 y) rfl rfl HX3.out rfl (by rfl) (by intro q hq; simp [cs55] at hq; rcases hq with rfl | rfl | rfl | rfl <;> rfl) ?_; intro w4 hh4 hg4)
          | fail)
        have HX4 := Aside0.mk hh4
        have HZ4 := Aside0.mk ((hg4.block w.heap.size (Array.getElem?_eq_some_iff.1 HZ3.out).1 (fun he => by injection he with he; have := HB5.out; omega)).trans HZ3.out)
        have HB4 := Aside0.mk (HB3.out.trans (show Below w.heap.size w3 w4 from ⟨hg4.os, hg4.tape, hg4.output, hg4.size, fun k hk => hg4.block k (Nat.lt_of_lt_of_le hk HB3.out.size) (fun he => by injection he with he; have := HB5.out; omega)⟩))
        clear hh4 hg4 hin hin2 d1
        go_roundw
        case rel => exact ⟨i + 1, y, by rw [hwi], Aside0.mk (by have := HIN.out; omega), HMM2, HX4, HZ4, HB4⟩
        case measure => have := HIN.out; rw [hwi]; simp [intOf]; omega
      | false =>
        rw [hq] at hlt
        have HMM2 := Aside0.mk (show minFromS m (es.drop (i + 1)) = M by have h := HMM.out; rw [HD.out] at h; simp only [minFromS, hq] at h; exact h)
        clear hq hin hin2 d1
        go_wp2_with fail
        go_roundw
        case rel => exact ⟨i + 1, m, by rw [hwi], Aside0.mk (by have := HIN.out; omega), HMM2, HX3, HZ3, HB3⟩
        case measure => have := HIN.out; rw [hwi]; simp [intOf]; omega
    · have d1 : decide ((i : Int) < (n : Int)) = false := decide_eq_false (by omega)
      have hin2 : ¬ (i : Int) < (n : Int) := by omega
      have hmm : m = M := by
        have h := HMM.out
        rw [List.drop_eq_nil_of_le (by rw [HL.out]; omega)] at h
        exact h
      subst hmm
      go_wp2_with (first
        | (refine gate_ (.store 55 (.tmp 4) (.tmp 32)) rfl ?_; refine wp_store_box rfl rfl 55 (.tmp 4) (.tmp 32) rfl (cs55 m) rfl rfl HZ.out rfl (by rfl) (by intro q hq; simp [cs55] at hq; rcases hq with rfl | rfl | rfl | rfl <;> rfl) ?_; intro w2 hh2 hg2)
        | fail)
      have HB2 := Aside0.mk (HB.out.trans (show Below w.heap.size wr w2 from ⟨hg2.os, hg2.tape, hg2.output, hg2.size, fun k hk => hg2.block k (Nat.lt_of_lt_of_le hk HB.out.size) (fun he => by injection he with he; omega)⟩))
      refine bodyPost_ret (results_c1 rfl _ _ w.heap.size 55 _ (0, 0) _ rfl hh2 Try.underlying55 rfl (by kernel_rfl)) rfl ?_
      exact ⟨rfl, HB2.out⟩

end Go.Proofs.Ytahkokbfghifhaa.PS
