/- Disk.Cut walked. -/
import Derived.Test.YtgpinkgfgkolfaaSw
import Derived.Lib.MinMax
import Derived.Deep.RegionWith
namespace Go.Proofs.Ytgpinkgfgkolfaa.PD
open Go.RowKit Go.Proofs.YtgpinkgfgkolfaaW.PrintWords Go.Proofs.YtgpinkgfgkolfaaW.PrintLast Go.Proofs.YtgpinkgfgkolfaaW.PrintMore
set_option linter.unusedVariables false
set_option linter.unusedSimpArgs false
set_option maxHeartbeats 4000000
set_option maxRecDepth 100000

open Go.Proofs
theorem DiskAt.drew {w : World} {ok : Nat → Prop} {d : Nat} {A : Ab} (h : DiskAt w ok d A) : DiskAt w.drew ok d A := by
  obtain ⟨bd, bs, tg, h⟩ := h
  exact ⟨bd, bs, tg, h.drew⟩
def cutR (n : Int) (f : Nat) (A : Ab) : Int × Ab := if n < 0 ∨ n > ((A.fs f).1.length : Int) then (2, A) else (0, { A with fs := upd A.fs f ((A.fs f).1.take n.toNat, min (A.fs f).2 n.toNat) })

set_option maxHeartbeats 4000000 in
theorem cut1_bad (ok : Nat → Prop) (d : Nat) (A : Ab) (f p1 : Nat) (n : Int) (w : World) (h : DiskAt w ok d A) (hf : In A f) (b1 : Box w p1 (.int .i64 n) 3) (hn : n < 0 ∨ n > ((A.fs f).1.length : Int)) :
    Calls Try.prog 52 #[fptr f, fptr p1] w fun e w' => e = .returned (.int .i64 (cutR n f A).1) ∧ DiskAt w' ok d (cutR n f A).2 ∧ Kp ok w w' := by
  have hD := h
  obtain ⟨bd, bs, tg, h⟩ := h
  obtain ⟨hfo, v, hfh, hrow⟩ := h.2.2.2.2.2.2.2 f hf
  obtain ⟨FA, fc, rfl, hfc⟩ := hrow.slice
  have c0 : w.cell? ⟨f, 0, none⟩ = some (.slice FA (A.fs f).1.length fc) := by simp [World.cell?, hfh]
  have q1 := b1.cell
  have HS := Aside0.mk (show cutR n f A = (2, A) from if_pos hn)
  have HD := Aside0.mk hD
  generalize cutR n f A = RR at *
  clear h hrow hfh hfc hf hfo hD b1
  generalize (A.fs f).1.length = m at *
  rcases hn with hn | hn
  · have e1 : (n < 0) = True := eq_true hn
    go_enter Try.func52, Try.ntmps52
    go_wp2_with fail
    go_region
    all_goals (go_wp2_with fail; go_ret; exact ⟨by rw [HS.out]; rfl, by rw [HS.out]; exact HD.out.drew, Kp.of_below (below_drew (Below.refl _ _))⟩)
  · by_cases h0 : n < 0
    · omega
    · have e1 : (n < 0) = False := eq_false h0
      have e2 : ((m : Int) < n) = True := eq_true hn
      go_enter Try.func52, Try.ntmps52
      go_wp2_with fail
      go_region
      all_goals (go_wp2_with fail; go_ret; exact ⟨by rw [HS.out]; rfl, by rw [HS.out]; exact HD.out.drew, Kp.of_below (below_drew (Below.refl _ _))⟩)

theorem cut_end {w w2 w3 : World} {ok : Nat → Prop} {d bd bs B f k vc s' : Nat} {tg : Nat → Nat} {A : Ab} {u : Value} {s : Int} {VA : Option Addr} {y : List UInt8} (h : DiskB w ok d bd bs tg A) (hf : In A f) (hfresh : ∀ k, w.heap.size ≤ k → ok k) (hfo : ok f)
    (hfh : w.heap[f]? = some (.cells #[u, .int .i64 s] 65 (0, 0))) (hB : w.heap.size ≤ B) (hrow : RowAt w2 (fun k => B ≤ k) (.slice VA k vc) y) (hb : Below w.heap.size w w2) (hw3 : w3 = w2.setCell ⟨f, 0, none⟩ (.slice VA k vc)) :
    DiskB (w3.setCell ⟨f, 1, none⟩ (.int .i64 (s' : Int))).drew ok d bd bs (fun k => if w.heap.size ≤ k then f else tg k) { A with fs := upd A.fs f (y, s') } ∧ Kp ok w (w3.setCell ⟨f, 1, none⟩ (.int .i64 (s' : Int))).drew := by
  have hflt := (Array.getElem?_eq_some_iff.1 hfh).1
  have hfh2 : w2.heap[f]? = some (.cells #[u, .int .i64 s] 65 (0, 0)) := (hb.block f hflt).trans hfh
  have hfh3 : w3.heap[f]? = some (.cells #[.slice VA k vc, .int .i64 s] 65 (0, 0)) := by rw [hw3]; exact heap_put hfh2 (i := 0) (.slice VA k vc) (cs' := #[.slice VA k vc, .int .i64 s]) rfl
  have hfh4 : (w3.setCell ⟨f, 1, none⟩ (.int .i64 (s' : Int))).heap[f]? = some (.cells #[.slice VA k vc, .int .i64 (s' : Int)] 65 (0, 0)) := heap_put hfh3 (i := 1) (.int .i64 (s' : Int)) (cs' := #[.slice VA k vc, .int .i64 (s' : Int)]) rfl
  have hfr : ∀ g, g ≠ f → (w3.setCell ⟨f, 1, none⟩ (.int .i64 (s' : Int))).heap[g]? = w2.heap[g]? := fun g hg => (Below.heap_setCell _ _ _ _ hg).trans (by rw [hw3]; exact Below.heap_setCell _ _ _ _ hg)
  refine ⟨(h.file hf (y, s') (w' := w3.setCell ⟨f, 1, none⟩ (.int .i64 (s' : Int))) (tg' := fun k => if w.heap.size ≤ k then f else tg k) hfh4
    ((hrow.keep (fun g cur hg _ => hfr g (by omega))).mono (fun g cur hg _ => ⟨hfresh g (by omega), by show (if w.heap.size ≤ g then f else tg g) = f; rw [if_pos (by omega)]⟩))
    (fun k hk => by show (if w.heap.size ≤ k then f else tg k) = tg k; rw [if_neg (by omega)])
    (fun k hk hkf _ => (hfr k hkf).trans (hb.block k hk))).drew, ?_⟩
  refine Kp.trans (b := w3.setCell ⟨f, 1, none⟩ (.int .i64 (s' : Int))) ?_ (Kp.of_below (below_drew (Below.refl _ _)))
  rw [hw3]
  exact ((Kp.of_below (ok := ok) hb).setCell (p := ⟨f, 0, none⟩) hfo _).setCell (p := ⟨f, 1, none⟩) hfo _
set_option maxHeartbeats 8000000 in
theorem cut1_good (ok : Nat → Prop) (d : Nat) (A : Ab) (f p1 k : Nat) (w : World) (h : DiskAt w ok d A) (hf : In A f) (hfresh : ∀ k, w.heap.size ≤ k → ok k) (b1 : Box w p1 (.int .i64 (k : Int)) 3) (ho : ¬ ok p1) (hk : k ≤ (A.fs f).1.length) (hlen : (A.fs f).1.length ≤ 140737488355328) :
    Calls Try.prog 52 #[fptr f, fptr p1] w fun e w' => e = .returned (.int .i64 (cutR (k : Int) f A).1) ∧ DiskAt w' ok d (cutR (k : Int) f A).2 ∧ Kp ok w w' := by
  obtain ⟨bd, bs, tg, h⟩ := h
  obtain ⟨hfo, v, hfh, hrow⟩ := h.2.2.2.2.2.2.2 f hf
  have hsrc := hrow.src
  obtain ⟨FA, fc, rfl, hfc⟩ := hrow.slice
  have c0 : w.cell? ⟨f, 0, none⟩ = some (.slice FA (A.fs f).1.length fc) := by simp [World.cell?, hfh]
  have q1 := b1.cell
  have HS := Aside0.mk (show cutR (k : Int) f A = (0, { A with fs := upd A.fs f ((A.fs f).1.take k, min (A.fs f).2 k) }) from by
    unfold cutR
    rw [if_neg (by omega)]; rfl)
  have hlt : ((A.fs f).1.take k).length = k := by rw [List.length_take]; omega
  have htk := hsrc.take k hk
  have HC := Aside0.mk (fun (W : World) (hW : W.heap = w.heap) => bclone_calls (.slice FA k fc) ((A.fs f).1.take k) W (by
    rcases htk with e | ⟨a, c, e1, e2, e3⟩
    · exact .inl e
    · exact .inr ⟨a, c, e1, e2, fun j u hu => by have := e3 j u hu; unfold World.cell? at this ⊢; rw [hW]; exact this⟩) (by omega))
  have HFH := Aside0.mk hfh
  have HD := Aside0.mk h
  have HX := Aside0.mk (And.intro hf (And.intro hfresh (And.intro b1 (And.intro ho hfo))))
  have hkfc : k ≤ fc := by omega
  generalize cutR (k : Int) f A = RR at *
  obtain ⟨bs', hbs⟩ : ∃ b, b = (A.fs f).1.take k := ⟨_, rfl⟩
  obtain ⟨s, hs⟩ : ∃ s, s = (A.fs f).2 := ⟨_, rfl⟩
  obtain ⟨m, hm⟩ : ∃ m, m = (A.fs f).1.length := ⟨_, rfl⟩
  rw [← hbs] at HC HS hlt
  rw [← hs] at HS HFH
  rw [← hm] at HFH c0 hk
  have HLT := Aside0.mk hlt
  have hmin : min (s : Int) (k : Int) = ((min s k : Nat) : Int) := by omega
  have e1 : ((k : Int) < 0) = False := eq_false (by omega)
  have e2 : ((m : Int) < (k : Int)) = False := eq_false (by omega)
  have e3 : (m < k) = False := eq_false (by omega)
  clear h hrow hfh hf hfo b1 hsrc htk hfresh ho hlen hbs hs hm hlt hfc
  go_enter Try.func52, Try.ntmps52
  go_wp2_with fail
  go_region
  all_goals
    go_wp2_with fail
    change Code.wp _ _ _ _ w.drew
    obtain ⟨w1, hw1⟩ : ∃ W, W = w.drew := ⟨_, rfl⟩
    have c0' : w1.cell? ⟨f, 0, none⟩ = some (.slice FA m fc) := by rw [hw1]; exact c0
    have q1' : w1.cell? ⟨p1, 0, none⟩ = some (.int .i64 (k : Int)) := by rw [hw1]; exact q1
    have HW1 := Aside0.mk hw1
    rw [← hw1]
    clear hw1 c0 q1
    have hfz : ∀ w2 : World, Below w.heap.size w w2 → w2.frozen? ⟨f, 0, none⟩ = false ∧ w2.cell? ⟨f, 0, none⟩ = some (.slice FA m fc) := fun w2 hb => by
      have hflt := (Array.getElem?_eq_some_iff.1 HFH.out).1
      have hfh2 : w2.heap[f]? = some (.cells #[.slice FA m fc, .int .i64 (s : Int)] 65 (0, 0)) := (hb.block f hflt).trans HFH.out
      exact ⟨Lib.frozen_of_heap hfh2 0, by simp [World.cell?, hfh2]⟩
    have HFZ := Aside0.mk hfz
    clear hfz
    go_region_with (go_at_call 32; refine (HC.out w1.drew (by rw [HW1.out]; rfl)).mono ?_; rintro _ w2 ⟨v, he, hrow, hb⟩; obtain ⟨VA, vc, hv, -⟩ := hrow.slice; rw [HLT.out] at hv; subst hv; subst he; have hbw : Below w.heap.size w w2 := (show Below w.heap.size w w1.drew from by rw [HW1.out]; exact below_drew (below_drew (Below.refl w.heap.size w))).trans (by rw [show w1.drew.heap.size = w.heap.size by rw [HW1.out]; rfl] at hb; exact hb); obtain ⟨ff2, cf2⟩ := HFZ.out w2 hbw; have HR := Aside0.mk (And.intro hrow hbw); clear hrow hb hbw)
    all_goals
      go_wp2_with fail
      change Code.wp _ _ _ _ (w2.setCell ⟨f, 0, none⟩ (.slice VA k vc))
      clear ff2 cf2 c0' q1'
      obtain ⟨hf, hfresh, b1, ho, hfo⟩ := HX.out
      have hbw := HR.out.2
      have hflt := (Array.getElem?_eq_some_iff.1 HFH.out).1
      have hfh2 : w2.heap[f]? = some (.cells #[.slice FA m fc, .int .i64 (s : Int)] 65 (0, 0)) := (hbw.block f hflt).trans HFH.out
      have b2 : Box w2 p1 (.int .i64 (k : Int)) 3 := (hbw.block _ (Array.getElem?_eq_some_iff.1 b1).1).trans b1
      have hne : p1 ≠ f := fun e => ho (e ▸ hfo)
      have hfh3 := heap_put hfh2 (i := 0) (.slice VA k vc) (cs' := #[.slice VA k vc, .int .i64 (s : Int)]) rfl
      have b3 : (w2.setCell ⟨f, 0, none⟩ (.slice VA k vc)).heap[p1]? = some (.cells #[.int .i64 (k : Int)] 3 (0, 0)) := (Below.heap_setCell _ _ _ _ hne).trans b2
      obtain ⟨w3, hw3⟩ : ∃ W, W = w2.setCell ⟨f, 0, none⟩ (.slice VA k vc) := ⟨_, rfl⟩
      rw [← hw3] at hfh3 b3
      rw [← hw3]
      have q3 : w3.cell? ⟨p1, 0, none⟩ = some (.int .i64 (k : Int)) := by simp [World.cell?, b3]
      have s3 : w3.cell? ⟨f, 1, none⟩ = some (.int .i64 (s : Int)) := by simp [World.cell?, hfh3]
      have f3 : w3.frozen? ⟨f, 1, none⟩ = false := Lib.frozen_of_heap hfh3 1
      have HW3 := Aside0.mk hw3
      clear hbw hflt hfh2 b1 b2 b3 hne hfh3 hf hfresh ho hfo hw3
      go_region
      all_goals
        go_wp2_with fail
        go_ret
        obtain ⟨hf, hfresh, b1, ho, hfo⟩ := HX.out
        have hend := cut_end (s' := min s k) HD.out hf hfresh hfo HFH.out (show w.heap.size ≤ w1.drew.heap.size by rw [HW1.out]; exact Nat.le_refl _) HR.out.1 HR.out.2 HW3.out
        exact ⟨by rw [HS.out]; rfl, by rw [HS.out]; exact ⟨bd, bs, _, hend.1⟩, hend.2⟩
def cutL (A : Ab) (nm : Nm) (n : Int) : Int × Ab := callL A nm (cutR n)

set_option maxHeartbeats 4000000 in
theorem call_cut (ok : Nat → Prop) (d : Nat) (A : Ab) (nm : ByteArray) (p1 : Nat) (R : Nat → Ab → Int × Ab) (w : World) (h : DiskAt w ok d A) (hnm : nm.size ≤ maxLen) (hleft : -9223372036854775808 ≤ A.left ∧ A.left ≤ 9223372036854775807)
    (hdo : ∀ (W : World) (f : Nat), findL A.dir nm.data.toList = some f → DiskAt W ok d (mayL A).2.2 → Kp ok w W → Calls Try.prog 52 #[fptr f, .pointer (some ⟨p1, 0, none⟩)] W fun e w' => e = .returned (.int .i64 (R f (mayL A).2.2).1) ∧ DiskAt w' ok d (R f (mayL A).2.2).2 ∧ Kp ok W w') :
    Calls Try.prog 28 #[fptr d, .string nm, .func (.func 52) #[] #[.pointer (some ⟨p1, 0, none⟩)]] w fun e w' => e = .returned (.int .i64 (callL A nm.data.toList R).1) ∧ DiskAt w' ok d (callL A nm.data.toList R).2 ∧ Kp ok w w' := by
  have HM := Aside0.mk (may_calls ok d A w h hleft)
  obtain ⟨s1, s2, s3, s4⟩ := mayL_same A
  obtain ⟨mb, mf, A1, hma⟩ : ∃ mb mf A1, mayL A = (mb, mf, A1) := ⟨_, _, _, rfl⟩
  rw [hma] at HM s1 hdo
  have s1' : A1.dir = A.dir := s1
  have HW := Aside0.mk (show callL A nm.data.toList R = if mb = false then (171, A1) else match findL A.dir nm.data.toList with | none => (172, A1) | some f => R f A1 by unfold callL; rw [hma]; cases findL A.dir nm.data.toList <;> rfl)
  have HDO := Aside0.mk hdo
  clear h hma s1 s2 s3 s4 hleft hdo
  generalize callL A nm.data.toList R = RR at *
  cases mb with
  | false =>
    rw [if_pos rfl] at HW
    go_enter Try.func28, Try.ntmps28
    go_wp2_with fail
    refine HM.out.mono ?_
    rintro _ w1 ⟨rfl, hD1, hk1⟩
    have HD1 := Aside0.mk hD1
    have HK1 := Aside0.mk hk1
    clear hD1 hk1 HM
    go_wp2_with fail
    go_ret
    exact ⟨by rw [HW.out]; rfl, by rw [HW.out]; exact HD1.out, HK1.out⟩
  | true =>
    rw [if_neg (by decide)] at HW
    cases hf : findL A.dir nm.data.toList with
    | none =>
      rw [hf] at HW
      go_enter Try.func28, Try.ntmps28
      go_wp2_with fail
      refine HM.out.mono ?_
      rintro _ w1 ⟨rfl, hD1, hk1⟩
      have HD1 := Aside0.mk hD1
      have HK1 := Aside0.mk hk1
      obtain ⟨bd, bs, tg, hD⟩ := hD1
      have c1 : w1.cell? ⟨d, 1, none⟩ = some (.map (some bd)) := hD.cell 1
      have hlk := hD.2.2.2.2.2.1.lookup nm hnm
      rw [s1', hf, show ptrV none = .pointer none from rfl] at hlk
      clear hD hk1 HM hf
      go_wp2_with fail
      go_ret
      exact ⟨by rw [HW.out]; rfl, by rw [HW.out]; exact HD1.out, HK1.out⟩
    | some f =>
      rw [hf] at HW
      go_enter Try.func28, Try.ntmps28
      go_wp2_with fail
      refine HM.out.mono ?_
      rintro _ w1 ⟨rfl, hD1, hk1⟩
      have HD1 := Aside0.mk hD1
      have HK1 := Aside0.mk hk1
      have HC := Aside0.mk (HDO.out w1 f hf hD1 hk1)
      obtain ⟨bd, bs, tg, hD⟩ := hD1
      have c1 : w1.cell? ⟨d, 1, none⟩ = some (.map (some bd)) := hD.cell 1
      have hlk := hD.2.2.2.2.2.1.lookup nm hnm
      rw [s1', hf, show ptrV (some f) = .pointer (some ⟨f, 0, none⟩) from rfl] at hlk
      clear hD hk1 HM hf HDO
      go_wp2_with fail
      refine HC.out.mono ?_
      rintro _ w2 ⟨rfl, hD2, hk2⟩
      have HD2 := Aside0.mk hD2
      have HK2 := Aside0.mk (HK1.out.trans hk2)
      clear hD2 hk2 HC
      go_wp2_with fail
      go_ret
      exact ⟨by rw [HW.out]; rfl, by rw [HW.out]; exact HD2.out, HK2.out⟩

theorem cut1_calls (ok : Nat → Prop) (d : Nat) (A : Ab) (f p1 : Nat) (n : Int) (w : World) (h : DiskAt w ok d A) (hf : In A f) (hfresh : ∀ k, w.heap.size ≤ k → ok k) (b1 : Box w p1 (.int .i64 n) 3) (ho : ¬ ok p1) (hlen : (A.fs f).1.length ≤ 140737488355328) :
    Calls Try.prog 52 #[fptr f, fptr p1] w fun e w' => e = .returned (.int .i64 (cutR n f A).1) ∧ DiskAt w' ok d (cutR n f A).2 ∧ Kp ok w w' := by
  by_cases hn : n < 0 ∨ n > ((A.fs f).1.length : Int)
  · exact cut1_bad ok d A f p1 n w h hf b1 hn
  · obtain ⟨k, rfl⟩ : ∃ k : Nat, n = (k : Int) := ⟨n.toNat, by omega⟩
    exact cut1_good ok d A f p1 k w h hf hfresh b1 ho (by omega) hlen
set_option maxHeartbeats 4000000 in
theorem cut_calls (ok : Nat → Prop) (d : Nat) (A : Ab) (nm : ByteArray) (n : Int) (w : World) (h : DiskAt w ok d A) (hfresh : ∀ k, w.heap.size ≤ k → ok k) (hnm : nm.size ≤ maxLen) (hleft : -9223372036854775808 ≤ A.left ∧ A.left ≤ 9223372036854775807)
    (hlen : ∀ f, findL A.dir nm.data.toList = some f → (A.fs f).1.length ≤ 140737488355328) :
    Calls Try.prog 35 #[fptr d, .string nm, .int .i64 n] w fun e w' => e = .returned (.int .i64 (cutL A nm.data.toList n).1) ∧ DiskAt w' ok d (cutL A nm.data.toList n).2 ∧ Kp ok w w' := by
  obtain ⟨w1, hw1⟩ : ∃ W, W = w.alloc (.cells #[.int .i64 n] 3) := ⟨_, rfl⟩
  have s1 : w1.heap.size = w.heap.size + 1 := by rw [hw1]; simp
  have bb1 : Below w.heap.size w w1 := by rw [hw1]; exact below_alloc (Below.refl _ _) _
  have b1 : Box w1 w.heap.size (.int .i64 n) 3 := by unfold Box; rw [hw1]; exact heap_alloc_new w _
  have hD2 : DiskAt w1 (fun k => ok k ∧ k ≠ w.heap.size) d A := (h.mono (fun k hk ho => ⟨ho, by omega⟩)).keep (fun k hk _ => bb1.block k hk)
  have HC := Aside0.mk (call_cut _ d A nm w.heap.size (cutR n) w1 hD2 hnm hleft (fun W f hf hW hk => cut1_calls _ d _ f w.heap.size n W hW (In.may (.inl ⟨_, findL_mem hf⟩)) (fun k hk' => ⟨hfresh k (by have := hk.size; omega), by have := hk.size; omega⟩) (b1.kp hk (fun e => e.2 rfl)) (fun e => e.2 rfl) (by rw [(mayL_same A).2.2.1]; exact hlen f hf)))
  rw [show callL A nm.data.toList (cutR n) = cutL A nm.data.toList n from rfl] at HC
  have HB := Aside0.mk bb1
  have HE := Aside0.mk hw1
  generalize cutL A nm.data.toList n = RR at *
  clear h hfresh hnm hleft hlen hw1 s1 bb1 b1 hD2
  go_enter Try.func35, Try.ntmps35
  go_wp2_with fail
  rw [← HE.out]
  refine HC.out.mono ?_
  rintro _ w3 ⟨rfl, hD3, hk3⟩
  have HD3 := Aside0.mk (hD3.mono (fun k _ ho => ho.1))
  have HK3 := Aside0.mk ((Kp.of_below (ok := ok) HB.out).trans (hk3.mono (fun k ho => ho.1)))
  clear hD3 hk3 HC
  go_wp2_with fail
  go_ret
  exact ⟨rfl, HD3.out, HK3.out⟩
theorem Fine.cut {k L : Nat} {A : Ab} (h : Fine k L A) (nm : Nm) (n : Int) : Fine k L (cutL A nm n).2 :=
  h.call (Nat.le_refl _) nm (cutR n) fun f B hB => by
    unfold cutR
    split
    · exact hB
    · rename_i hn
      refine hB.fs f _ (Nat.le_refl _) ?_
      have h1 := hB.len f
      show min (B.fs f).2 n.toNat ≤ ((B.fs f).1.take n.toNat).length ∧ ((B.fs f).1.take n.toNat).length ≤ L
      rw [List.length_take]; omega

end Go.Proofs.Ytgpinkgfgkolfaa.PD
