/- Disk.lay walked. -/
import Derived.Test.YtgpinkgfgkolfaaLayP
namespace Go.Proofs.Ytgpinkgfgkolfaa.PD
open Go.RowKit Go.Proofs.YtgpinkgfgkolfaaW.PrintWords Go.Proofs.YtgpinkgfgkolfaaW.PrintLast Go.Proofs.YtgpinkgfgkolfaaW.PrintMore
set_option linter.unusedVariables false
set_option linter.unusedSimpArgs false
set_option maxHeartbeats 4000000
set_option maxRecDepth 100000

/-- append, by what it is known to give. -/
theorem wpList_append_run {P : Program} {ops : Array Oper} {rest : List Oper} {o : Oper} {a : Act} {Q : Exit → Act → World → Prop} {w : World} (hg : o.guard = none) (s x : Operand) (t : TypeId)
    (hop : o.op = Op.call { callee := Callee.builtin Builtin.append, args := #[s, x], argTypes := #[t, t] }) (v xv v1 : Value) (w1 : World) (hs : a.eval s = v) (hx : a.eval x = xv) (hrun : (Builtin.append_ #[t, t] o.type #[v, xv]).run P w = .ok v1 w1)
    (hK : wpList P ops Q rest (a.put o.dst v1) w1) : wpList P ops Q (o :: rest) a w := by
  refine wpList_plain hg fun K' hK' => ?_
  unfold Oper.wp
  simp [execOp, hop, resolve, invoke, builtin, hs, hx, hrun, Result.andThen]
  exact hK' _ _ hK
set_option maxHeartbeats 8000000 in
theorem lay_calls (ok : Nat → Prop) (d : Nat) (A : Ab) (nm : ByteArray) (x : Value) (xs : List UInt8) (w : World) (h : DiskAt w ok d A) (hfresh : ∀ k, w.heap.size ≤ k → ok k) (hnm : nm.size ≤ maxLen) (hdl : A.dir.length < maxLen)
    (hs : ∀ W, Kp ok w W → SrcAt W x xs) (hlen : ∀ f, findL A.dir nm.data.toList = some f → (A.fs f).1.length + xs.length ≤ 140737488355328) (hxl : xs.length ≤ 140737488355328) :
    Calls Try.prog 23 #[fptr d, .string nm, x] w fun e w' => e = .returned (.tuple #[]) ∧ (∃ fN, w.heap.size ≤ fN ∧ DiskAt w' ok d (layL A nm.data.toList xs fN)) ∧ Kp ok w w' := by
  obtain ⟨bd, bs, tg, h⟩ := h
  have c1 : w.cell? ⟨d, 1, none⟩ = some (.map (some bd)) := h.cell 1
  have hlk := h.2.2.2.2.2.1.lookup nm hnm
  cases hf : findL A.dir nm.data.toList with
  | some f =>
    rw [hf, show ptrV (some f) = .pointer (some ⟨f, 0, none⟩) from rfl] at hlk
    have hin : In A f := .inl ⟨_, findL_mem hf⟩
    obtain ⟨hfo, v, hfh, hrow⟩ := h.2.2.2.2.2.2.2 f hin
    obtain ⟨v1, w1, hrun, hrow1, hg1⟩ := append_row hrow (hs w (Kp.refl _ _)) (hlen f hf)
    obtain ⟨A1, q1, hv1, -⟩ := hrow1.slice
    obtain ⟨n1, hn1⟩ : ∃ n1, n1 = ((A.fs f).1 ++ xs).length := ⟨_, rfl⟩
    rw [← hn1] at hv1
    subst hv1
    have cf : w.cell? ⟨f, 0, none⟩ = some v := by simp [World.cell?, hfh]
    have hown : ∀ k, v.ownBlock = some k → ok k ∧ tg k = f ∧ ∃ cur, w.heap[k]? = some (.cells cur 5 (0, 0)) := fun k hk => by
      rcases hrow with ⟨rfl, _⟩ | ⟨g, cap, cur, rfl, hgo, hgh, _⟩
      · cases hk
      · cases hk; exact ⟨hgo.1, hgo.2, cur, hgh⟩
    have hfn : v.ownBlock ≠ some f := fun e => by
      obtain ⟨_, _, cur, hc⟩ := hown f e
      rw [hfh] at hc
      simp only [Option.some.injEq, Obj.cells.injEq] at hc
      exact absurd hc.2.1 (by decide)
    have hflt := (Array.getElem?_eq_some_iff.1 hfh).1
    have hfh1 : w1.heap[f]? = some (.cells #[v, .int .i64 ((A.fs f).2 : Int)] 65 (0, 0)) := (hg1.block f hflt (fun e => hfn e.symm)).trans hfh
    have cf1 : w1.cell? ⟨f, 0, none⟩ = some v := by simp [World.cell?, hfh1]
    have ff1 : w1.frozen? ⟨f, 0, none⟩ = false := Lib.frozen_of_heap hfh1 0
    have HH := Aside0.mk (heap_put hfh1 (i := 0) (.slice A1 n1 q1) (cs' := #[.slice A1 n1 q1, .int .i64 ((A.fs f).2 : Int)]) rfl)
    have HKp := Aside0.mk (Kp.setCell (ok := ok) (Kp.of_grown hg1 (fun k e => (hown k e).1)) (p := ⟨f, 0, none⟩) hfo (.slice A1 n1 q1))
    have HB := Aside0.mk (h.file hin ((A.fs f).1 ++ xs, (A.fs f).2) (w' := w1.setCell ⟨f, 0, none⟩ (.slice A1 n1 q1)) (tg' := fun k => if w.heap.size ≤ k then f else tg k) HH.out
      ((hrow1.keep (fun g cur _ hh => Below.heap_setCell _ _ _ _ (fun e => by
          have e' : g = f := e
          rw [e', hfh1] at hh
          simp only [Option.some.injEq, Obj.cells.injEq] at hh
          exact absurd hh.2.1 (by decide)))).mono (fun g cur hg _ => by
        rcases hg with hg | hg
        · exact ⟨hg.1, by show (if w.heap.size ≤ g then f else tg g) = f; split; rfl; exact hg.2⟩
        · exact ⟨hfresh g (by omega), by show (if w.heap.size ≤ g then f else tg g) = f; rw [if_pos (by omega)]⟩))
      (fun k hk => by show (if w.heap.size ≤ k then f else tg k) = tg k; rw [if_neg (by omega)])
      (fun k hk hkf hkt => (Below.heap_setCell _ _ _ _ hkf).trans (hg1.block k hk (fun e => by
        obtain ⟨_, ht, cur, hc⟩ := hown k e.symm
        exact hkt cur hc ht))))
    have HL := Aside0.mk (show layL A nm.data.toList xs w.heap.size = { A with fs := upd A.fs f ((A.fs f).1 ++ xs, (A.fs f).2) } by unfold layL; rw [hf])
    clear h hf hin hfh hrow hrow1 hg1 hown hfn hflt hfh1 hs hlen hfresh hnm hdl hxl hfo hn1
    go_enter Try.func23, Try.ntmps23
    have HRUN := Aside0.mk hrun
    clear hrun
    go_wp2_with (at_builtin; refine wpList_append_run rfl _ _ 29 rfl _ _ _ _ rfl rfl HRUN.out ?_)
    go_end0
    exact ⟨rfl, ⟨w.heap.size, Nat.le_refl _, by rw [HL.out]; exact ⟨bd, bs, _, HB.out⟩⟩, HKp.out⟩
  | none =>
    rw [hf, show ptrV none = .pointer none from rfl] at hlk
    obtain ⟨h1, hfile⟩ := h.extra hfresh
    obtain ⟨wA, hwA⟩ : ∃ W, W = w.alloc (.cells #[.slice none 0 0, .int .i64 0] 65) := ⟨_, rfl⟩
    rw [← hwA] at h1 hfile
    obtain ⟨fN, hfN⟩ : ∃ q, q = w.heap.size := ⟨_, rfl⟩
    rw [← hfN] at h1 hfile
    have hkA : Kp ok w wA := by rw [hwA]; exact Kp.of_below (below_alloc (Below.refl _ _) _)
    obtain ⟨w2, hrun2, hm2, hg2, hs2⟩ := h1.2.2.2.2.2.1.store nm hnm fN hdl
    have hbdo := h1.2.1
    have hD2 := h1.link (w' := w2) (l := putL A.dir nm.data.toList fN) (fun n f hm => by
      rcases put_mem hm with h | h
      · cases h
        exact .inr (by show FileAt wA ok tg fN (upd A.fs fN ([], 0) fN); rw [upd_same]; exact hfile)
      · exact .inl (.inl ⟨n, h⟩)) hm2 (fun k hk hkb => hg2.block k hk (fun e => hkb (Option.some.inj e)))
    have hin : In { A with fs := upd A.fs fN ([], 0), dir := putL A.dir nm.data.toList fN } fN := .inl ⟨_, (ins_mem _ _ _).2 (.inl rfl)⟩
    have hk2 : Kp ok w w2 := hkA.trans (Kp.of_grown hg2 (fun k e => by cases e; exact hbdo))
    have hfile2 := hD2.2.2.2.2.2.2.2 fN hin
    have hfoN := hfile2.1
    have hb2 : w2.heap[fN]? = some (.cells #[.slice none 0 0, .int .i64 0] 65 (0, 0)) := by
      obtain ⟨es, ck, he⟩ := h1.2.2.2.2.2.1.isMap
      have hA : wA.heap[fN]? = some (.cells #[.slice none 0 0, .int .i64 0] 65 (0, 0)) := by rw [hwA, hfN]; exact heap_alloc_new w _
      exact (hg2.block fN (Array.getElem?_eq_some_iff.1 hA).1 (fun e => by have := Option.some.inj e; rw [this, he] at hA; cases hA)).trans hA
    have hrow0 : RowAt w2 (fun k => ok k ∧ (fun k => if w2.heap.size ≤ k then fN else tg k) k = fN) (.slice none 0 0) [] := .inl ⟨rfl, rfl⟩
    obtain ⟨v1, w3, hrun3, hrow3, hg3⟩ := append_row hrow0 (hs w2 hk2) (by simpa using hxl)
    obtain ⟨A1, q1, hv1, -⟩ := hrow3.slice
    rw [List.nil_append] at hv1 hrow3
    obtain ⟨n1, hn1⟩ : ∃ n1, n1 = xs.length := ⟨_, rfl⟩
    rw [← hn1] at hv1
    subst hv1
    have hflt := (Array.getElem?_eq_some_iff.1 hb2).1
    have hb3 : w3.heap[fN]? = some (.cells #[.slice none 0 0, .int .i64 0] 65 (0, 0)) := (hg3.block fN hflt (by simp [Value.ownBlock])).trans hb2
    have cA : wA.cell? ⟨d, 1, none⟩ = some (.map (some bd)) := h1.cell 1
    have c2 : w2.cell? ⟨fN, 0, none⟩ = some (.slice none 0 0) := by simp [World.cell?, hb2]
    have c3 : w3.cell? ⟨fN, 0, none⟩ = some (.slice none 0 0) := by simp [World.cell?, hb3]
    have f3 : w3.frozen? ⟨fN, 0, none⟩ = false := Lib.frozen_of_heap hb3 0
    have HH := Aside0.mk (heap_put hb3 (i := 0) (.slice A1 n1 q1) (cs' := #[.slice A1 n1 q1, .int .i64 0]) rfl)
    have HKp := Aside0.mk (Kp.setCell (ok := ok) (hk2.trans (Kp.of_grown hg3 (fun k e => by cases e))) (p := ⟨fN, 0, none⟩) hfoN (.slice A1 n1 q1))
    have HB := Aside0.mk (hD2.file hin (xs, 0) (w' := w3.setCell ⟨fN, 0, none⟩ (.slice A1 n1 q1)) (tg' := fun k => if w2.heap.size ≤ k then fN else tg k) HH.out
      ((hrow3.keep (fun g cur _ hh => Below.heap_setCell _ _ _ _ (fun e => by
          have e' : g = fN := e
          rw [e', hb3] at hh
          simp only [Option.some.injEq, Obj.cells.injEq] at hh
          exact absurd hh.2.1 (by decide)))).mono (fun g cur hg _ => by
        rcases hg with hg | hg
        · exact hg
        · exact ⟨hfresh g (by have := hk2.size; omega), by show (if w2.heap.size ≤ g then fN else tg g) = fN; rw [if_pos (by omega)]⟩))
      (fun k hk => by show (if w2.heap.size ≤ k then fN else tg k) = tg k; rw [if_neg (by omega)])
      (fun k hk hkf _ => (Below.heap_setCell _ _ _ _ hkf).trans (hg3.block k hk (by simp [Value.ownBlock]))))
    have HL := Aside0.mk (show layL A nm.data.toList xs fN = { A with dir := putL A.dir nm.data.toList fN, fs := upd (upd A.fs fN ([], 0)) fN (xs, 0) } by
      unfold layL
      rw [hf]
      have : upd (upd A.fs fN ([], 0)) fN (xs, 0) = upd A.fs fN (xs, 0) := by
        funext k
        unfold upd
        split <;> rfl
      rw [this])
    have HRUN := Aside0.mk hrun3
    clear h h1 hf hfile hkA hm2 hg2 hs2 hbdo hD2 hin hk2 hfile2 hfoN hb2 hrow0 hrow3 hg3 hflt hb3 hs hlen hfresh hnm hdl hxl hn1 hrun3
    rw [hwA] at hrun2 cA
    subst hfN
    clear hwA
    go_enter Try.func23, Try.ntmps23
    go_wp2_with (at_builtin; refine wpList_append_run rfl _ _ 29 rfl _ _ _ _ rfl rfl HRUN.out ?_)
    go_end0
    exact ⟨rfl, ⟨w.heap.size, Nat.le_refl _, by rw [HL.out]; exact ⟨bd, bs, _, HB.out⟩⟩, HKp.out⟩

end Go.Proofs.Ytgpinkgfgkolfaa.PD
