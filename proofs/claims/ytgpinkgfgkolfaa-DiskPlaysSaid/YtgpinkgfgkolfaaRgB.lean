/- The document's disk: its files are turned. -/
import Derived.Test.YtgpinkgfgkolfaaRgA
import Derived.Deep.RegionLaw
import Derived.Test.YtgpinkgfgkolfaaEv2
namespace Go.Proofs.Ytgpinkgfgkolfaa.PD
open Go.RowKit Go.Proofs.YtgpinkgfgkolfaaW.PrintWords Go.Proofs.YtgpinkgfgkolfaaW.PrintLast Go.Proofs.YtgpinkgfgkolfaaW.PrintMore
set_option linter.unusedVariables false
set_option linter.unusedSimpArgs false
set_option maxHeartbeats 4000000
set_option maxRecDepth 100000

open Go.Proofs
theorem infoF : (Try.prog.info? 87).map (fun i => (i.zero, i.size, i.bytes)) = some (some (.agg #[.slice none 0 0, .int .i64 0]), 2, 32) := by kernel_rfl
def fobj : Obj := .cells #[.slice none 0 0, .int .i64 0] 87
theorem RB.links {w w' : World} {ok : Nat → Prop} {x : Nat} {F D S : Value} {tg : Nat → Nat} {R : Rb} (h : RB w ok x F D S tg R) (hk : ∀ (g : Nat) (cur : Array Value), w.heap[g]? = some (.cells cur 53 (0, 0)) → w'.heap[g]? = w.heap[g]?) : LinksAt w' ok D R.dir ∧ LinksAt w' ok S R.safe :=
  ⟨h.2.2.2.1.keep fun g cur _ hh => hk g cur hh, h.2.2.2.2.keep fun g cur _ hh => hk g cur hh⟩
theorem type_ne {w : World} {g k : Nat} {cur cur' : Array Value} {T T' : TypeId} (hT : T ≠ T') (h : w.heap[g]? = some (.cells cur T (0, 0))) (h' : w.heap[k]? = some (.cells cur' T' (0, 0))) : g ≠ k := fun e => by
  rw [e, h'] at h
  simp only [Option.some.injEq, Obj.cells.injEq] at h
  exact hT h.2.1.symm
theorem own_cells {w : World} {base : Nat} {e : TypeId} {size : Nat} {v : Value} {n : Nat} {xs : List Value} (h : w.ownsRow base e size v n xs) {g : Nat} (hg : v.ownBlock = some g) : ∃ cur, w.heap[g]? = some (.cells cur e (0, 0)) := by
  rcases h.2 with ⟨rfl, _⟩ | ⟨g', cap, cur, rfl, _, hgg, _⟩
  · cases hg
  · have : g' = g := by injection hg
    subst this
    exact ⟨cur, hgg⟩
/-- A new file, as the document appends it. -/
theorem push_file {w : World} {ok : Nat → Prop} {x : Nat} {F D S : Value} {tg : Nat → Nat} {R : Rb} (h : RB w ok x F D S tg R) (hfresh : ∀ k, w.heap.size ≤ k → ok k) (hl : R.files.length ≤ 1000000) :
    ∃ A1 c1 w1, (Builtin.append_ #[45, 45] 45 #[F, .slice (some ⟨w.heap.size, 0, none⟩) 1 1]).run Try.prog (w.alloc fobj) = .ok (.slice A1 (R.files.length + 1) c1) w1 ∧ RB (w1.setCell ⟨x, 1, none⟩ (.slice A1 (R.files.length + 1) c1)) ok x (.slice A1 (R.files.length + 1) c1) D S tg { R with files := R.files ++ [([], 0)] } ∧ Kp ok w (w1.setCell ⟨x, 1, none⟩ (.slice A1 (R.files.length + 1) c1)) ∧
      (∀ i, w1.cell? ⟨x, i, none⟩ = w.cell? ⟨x, i, none⟩) ∧ w1.frozen? ⟨x, 1, none⟩ = false := by
  obtain ⟨i0, hi, hz0, hz1, hz2⟩ := info_parts infoF
  have hx := h.lt
  obtain ⟨h1, h2, ⟨us, f1, f2, f3, f4⟩, h4, h5⟩ := h
  have hb : Below w.heap.size w (w.alloc fobj) := below_alloc (Below.refl _ _) _
  have hnew : (w.alloc fobj).heap[w.heap.size]? = some (.cells #[.slice none 0 0, .int .i64 0] 87 (0, 0)) := heap_alloc_new w _
  have hsrc : ∀ j u, ([Value.slice none 0 0, .int .i64 ((0 : Nat) : Int)] : List Value)[j]? = some u → (w.alloc fobj).cell? ((⟨w.heap.size, 0, none⟩ : Addr).add j) = some u := fun j u hj => by
    have ha : (⟨w.heap.size, 0, none⟩ : Addr).add j = ⟨w.heap.size, j, none⟩ := by unfold Addr.add; split <;> simp_all
    have hj' : (#[Value.slice none 0 0, .int .i64 0] : Array Value)[j]? = some u := by rw [← Array.getElem?_toList]; exact hj
    rw [ha]
    exact (cell_of_row _ w.heap.size j _ _ (0, 0) hnew).trans hj'
  have f2' : (w.alloc fobj).ownsRow 0 87 2 F R.files.length (fcells us R.files) := ownsRow_keep f2 fun g cur _ hh => hb.block g (Array.getElem?_eq_some_iff.1 hh).1
  obtain ⟨v1, w1, hrun, hr, hg, ho⟩ := append_gen Try.underlying45 hi hz0 hz1 hz2 rfl (by decide) f2' (.inr ⟨_, 1, rfl, hsrc⟩) (by rfl) (by intro u hu; simp at hu; rcases hu with rfl | rfl <;> rfl) (by unfold maxLen; omega) (by omega)
  obtain ⟨A1, c1, e1, _⟩ := ownsRow_slice hr
  subst e1
  have hsz : w.heap.size ≤ w1.heap.size := Nat.le_trans hb.size hg.size
  have hk1 : ∀ k, k < w.heap.size → F.ownBlock ≠ some k → w1.heap[k]? = w.heap[k]? := fun k hk hne => (hg.block k (Nat.lt_of_lt_of_le hk hb.size) (fun e => hne e.symm)).trans (hb.block k hk)
  have hxne : F.ownBlock ≠ some x := fun e => by
    obtain ⟨cur, hc⟩ := own_cells f2 e
    exact type_ne (by decide) hc h2 rfl
  have hx1 : w1.heap[x]? = some (.cells (rcellsD R F D S) 48 (0, 0)) := (hk1 x hx hxne).trans h2
  have hk2 : ∀ k, k < w.heap.size → F.ownBlock ≠ some k → k ≠ x → (w1.setCell ⟨x, 1, none⟩ (.slice A1 (R.files.length + 1) c1)).heap[k]? = w.heap[k]? := fun k hk hne hkx => (Below.heap_setCell w1 _ _ k hkx).trans (hk1 k hk hne)
  have hown : ∀ g, (Value.slice A1 (R.files.length + 1) c1).ownBlock = some g → ok g ∧ g ≠ x := fun g hgg => by
    rcases ho with e | e
    · have hF := e.symm.trans hgg
      exact ⟨f3 g hF, fun e' => hxne (by rw [hF, e'])⟩
    · rw [e] at hgg
      injection hgg with hgg
      subst hgg
      exact ⟨hfresh _ hb.size, by have := hb.size; omega⟩
  have hother : ∀ {g : Nat} {cur : Array Value} {T : TypeId}, T ≠ 87 → T ≠ 48 → w.heap[g]? = some (.cells cur T (0, 0)) → (w1.setCell ⟨x, 1, none⟩ (.slice A1 (R.files.length + 1) c1)).heap[g]? = w.heap[g]? := fun {g} {cur} {T} hT hT' hh => hk2 g (Array.getElem?_eq_some_iff.1 hh).1 (fun e => by
    obtain ⟨cur', hc⟩ := own_cells f2 e
    exact type_ne hT hh hc rfl) (type_ne hT' hh h2)
  refine ⟨A1, c1, w1, hrun, ⟨h1, ?_, ⟨us ++ [.slice none 0 0], by simp [f1], ?_, fun g hgg => (hown g hgg).1, fun i u y hu hy => ?_⟩, h4.keep fun g cur _ hh => hother (by decide) (by decide) hh, h5.keep fun g cur _ hh => hother (by decide) (by decide) hh⟩, ?_, fun i => ?_, Lib.frozen_of_heap hx1 1⟩
  · exact heap_put hx1 _ (by rfl)
  · rw [fcells_snoc us R.files f1, List.length_append]
    exact ownsRow_keep hr fun g cur hgg hh => Below.heap_setCell w1 _ _ g (hown g hgg).2
  · by_cases hi : i < R.files.length
    · rw [List.getElem?_append_left (by omega)] at hu
      rw [List.getElem?_append_left hi] at hy
      exact (f4 i u y hu hy).keep fun g cur _ hh => hother (by decide) (by decide) hh
    · have hi2 : i = R.files.length := by
        have := (List.getElem?_eq_some_iff.1 hy).1
        simp at this; omega
      subst hi2
      rw [List.getElem?_append_right (by omega), f1] at hu
      rw [List.getElem?_append_right (Nat.le_refl _)] at hy
      simp at hu hy
      subst hu hy
      exact BR.nil _ _
  · refine Kp.setCell ⟨hg.os.trans hb.os, hg.tape.trans hb.tape, hg.output.trans hb.output, hsz, fun k hk hno => hk1 k hk (fun e => hno (f3 k e))⟩ h1 _
  · simp only [World.cell?]
    rw [hx1, h2]
/-- The links are other ones. -/
theorem RB.dir {w w' : World} {ok : Nat → Prop} {x : Nat} {F D S L : Value} {tg : Nat → Nat} {R : Rb} {l : Dir} (h : RB w ok x F D S tg R) (hb : Below w.heap.size w w') (hL : LinksAt w' (fun k => w.heap.size ≤ k) L l) (hfresh : ∀ k, w.heap.size ≤ k → ok k) :
    RB (w'.setCell ⟨x, 2, none⟩ L) ok x F L S tg { R with dir := l } ∧ Kp ok w (w'.setCell ⟨x, 2, none⟩ L) := by
  have hx := h.lt
  obtain ⟨h1, h2, h3, h4, h5⟩ := h
  have hx1 : w'.heap[x]? = some (.cells (rcellsD R F D S) 48 (0, 0)) := (hb.block x hx).trans h2
  have hother : ∀ {g : Nat} {cur : Array Value} {T : TypeId}, T ≠ 48 → w.heap[g]? = some (.cells cur T (0, 0)) → (w'.setCell ⟨x, 2, none⟩ L).heap[g]? = w.heap[g]? := fun {g} {cur} {T} hT hh => (Below.heap_setCell w' _ _ g (type_ne hT hh h2)).trans (hb.block g (Array.getElem?_eq_some_iff.1 hh).1)
  obtain ⟨us, f1, f2, f3, f4⟩ := h3
  refine ⟨⟨h1, heap_put hx1 _ (by rfl), ⟨us, f1, ownsRow_keep f2 fun g cur _ hh => hother (by decide) hh, f3, fun i u y hu hy => (f4 i u y hu hy).keep fun g cur _ hh => hother (by decide) hh⟩, ?_, h5.keep fun g cur _ hh => hother (by decide) hh⟩, (Kp.of_below hb).setCell h1 _⟩
  exact (hL.keep fun g cur hg hh => Below.heap_setCell w' _ _ g (fun e => by
    have e' : g = x := e
    omega)).mono fun g hg _ => hfresh g hg
/-- Bytes behind a file's. -/
theorem lay_file {w : World} {ok : Nat → Prop} {x : Nat} {FA : Option Addr} {nf fc : Nat} {D S : Value} {tg : Nat → Nat} {R : Rb} (h : RB w ok x (.slice FA nf fc) D S tg R) (hfresh : ∀ k, w.heap.size ≤ k → ok k) {i : Nat} (hi : i < R.files.length) {s : Value} {xs : List UInt8} (hs : SrcAt w s xs) (hl : (fileR R i).1.length + xs.length ≤ 140737488355328) :
    ∃ g U ul uc V vl vc w1, FA = some ⟨g, 0, none⟩ ∧ w.cell? ⟨g, i * 2, none⟩ = some (.slice U ul uc) ∧ (Builtin.append_ #[29, 29] 29 #[.slice U ul uc, s]).run Try.prog w = .ok (.slice V vl vc) w1 ∧ RB (w1.setCell ⟨g, i * 2, none⟩ (.slice V vl vc)) ok x (.slice FA nf fc) D S (fun k => if w.heap.size ≤ k then i else tg k) { R with files := R.files.set i ((fileR R i).1 ++ xs, (fileR R i).2) } ∧ Kp ok w (w1.setCell ⟨g, i * 2, none⟩ (.slice V vl vc)) ∧
      w1.cell? ⟨x, 1, none⟩ = some (.slice FA nf fc) ∧ w1.cell? ⟨g, i * 2, none⟩ = some (.slice U ul uc) ∧ w1.frozen? ⟨g, i * 2, none⟩ = false := by
  have hx := h.lt
  obtain ⟨h1, h2, h3, h4, h5⟩ := h
  have hnf : nf = R.files.length := by
    obtain ⟨A', c', e⟩ := h3.slice
    injection e
  obtain ⟨us, f1, f2, f3, f4⟩ := h3
  obtain ⟨g, cur, hFA, hgh, hgc⟩ := ownsRow_at (by rw [← hnf] at f2; exact f2) (by omega)
  subst hFA
  have hui := List.getElem?_eq_getElem (show i < us.length by omega)
  have hyi := List.getElem?_eq_getElem hi
  obtain ⟨q1, q2⟩ := fcells_at us R.files i _ _ hui hyi
  have hbr := f4 i _ _ hui hyi
  have hfr : R.files[i] = fileR R i := by unfold fileR; rw [List.getD_eq_getElem?_getD, hyi]; rfl
  rw [hfr] at hbr q2 hyi
  generalize us[i] = u at *
  obtain ⟨U, uc, e, _⟩ := hbr.slice
  subst e
  obtain ⟨v, w1, hrun, hbr1, hg1⟩ := hbr.append hs hl
  obtain ⟨V, vc, hvs, _⟩ := hbr1.slice
  obtain ⟨vl, hvl⟩ : ∃ n, n = ((fileR R i).1 ++ xs).length := ⟨_, rfl⟩
  rw [← hvl] at hvs
  have hk1 : ∀ k, k < w.heap.size → (Value.slice U (fileR R i).1.length uc).ownBlock ≠ some k → w1.heap[k]? = w.heap[k]? := fun k hk hne => hg1.block k hk (fun e => hne e.symm)
  have hT : ∀ {k : Nat} {cur : Array Value} {T : TypeId}, T ≠ 5 → w.heap[k]? = some (.cells cur T (0, 0)) → w1.heap[k]? = w.heap[k]? := fun {k} {cur} {T} hT hh => hk1 k (Array.getElem?_eq_some_iff.1 hh).1 (fun e => by
    obtain ⟨cur', hc⟩ := own_cells hbr.1 e
    exact type_ne hT hh hc rfl)
  have hg1' : w1.heap[g]? = some (.cells cur 87 (0, 0)) := (hT (by decide) hgh).trans hgh
  have hx1 : w1.heap[x]? = some (.cells (rcellsD R (.slice (some ⟨g, 0, none⟩) nf fc) D S) 48 (0, 0)) := (hT (by decide) h2).trans h2
  have hgx : x ≠ g := type_ne (by decide) h2 hgh
  have hT2 : ∀ {k : Nat} {cur : Array Value} {T : TypeId}, T ≠ 5 → T ≠ 87 → w.heap[k]? = some (.cells cur T (0, 0)) → (w1.setCell ⟨g, i * 2, none⟩ v).heap[k]? = w.heap[k]? := fun {k} {cur} {T} h h' hh => (Below.heap_setCell w1 _ _ k (type_ne h' hh hgh)).trans (hT h hh)
  have hlt1 : ∀ k, v.ownBlock = some k → k < w1.heap.size := fun k e => (hbr1.1.lt k e).2
  refine ⟨g, U, _, uc, V, vl, vc, w1, rfl, hgc _ _ q1, by rw [← hvs]; exact hrun, ?_⟩
  rw [← hvs]
  refine ⟨ ⟨h1, (hT2 (by decide) (by decide) h2).trans h2, ⟨us.set i v, by simp [f1], ?_, f3, fun j u y hu hy => ?_⟩, h4.keep fun k cur _ hh => hT2 (by decide) (by decide) hh, h5.keep fun k cur _ hh => hT2 (by decide) (by decide) hh⟩, ?_, by simp [World.cell?, hx1, rcellsD], ?_, Lib.frozen_of_heap hg1' _⟩
  · have e0 := fcells_set us R.files i v ((fileR R i).1 ++ xs, (fileR R i).2) (by omega) hi
    have e1 : (fcells us R.files).set (i * 2 + 1) (.int .i64 ((fileR R i).2 : Int)) = fcells us R.files := by
      obtain ⟨hb, he⟩ := List.getElem?_eq_some_iff.1 q2
      rw [← he]; exact List.set_getElem_self hb
    rw [e0, List.set_comm _ _ (by omega), e1, List.length_set, hnf]
    refine ownsRow_set ?_ _ _
    rw [← hnf]
    have : w1.ownsRow 0 87 2 (.slice (some ⟨g, 0, none⟩) nf fc) nf (fcells us R.files) := ownsRow_keep (by rw [hnf] at f2 ⊢; exact f2) fun k cur _ hh => hT (by decide) hh
    exact this
  · by_cases hj : j = i
    · subst hj
      rw [List.getElem?_set_self (by omega)] at hu
      rw [List.getElem?_set_self hi] at hy
      injection hu with hu
      injection hy with hy
      subst hu hy
      refine (hbr1.keep fun k cur hk hh => Below.heap_setCell w1 _ _ k (fun e => ?_)).mono fun k hk _ => ?_
      · have e' : k = g := e
        rw [e', hg1'] at hh
        simp only [Option.some.injEq, Obj.cells.injEq] at hh
        exact absurd hh.2.1 (by decide)
      · rcases hk with ⟨ha, hb⟩ | hk
        · refine ⟨ha, ?_⟩
          show (if w.heap.size ≤ k then j else tg k) = j
          split
          · rfl
          · exact hb
        · refine ⟨hfresh k (by omega), ?_⟩
          show (if w.heap.size ≤ k then j else tg k) = j
          rw [if_pos (by omega)]
    · rw [List.getElem?_set_ne (fun e => hj e.symm)] at hu hy
      have hb := f4 j u y hu hy
      refine ((hb.mono (ok' := fun k => (ok k ∧ tg k = j) ∧ k < w.heap.size) fun k hk hl => ⟨hk, hl⟩).keep fun k cur hk hh => ?_).mono fun k hk _ => ⟨hk.1.1, by
        show (if w.heap.size ≤ k then i else tg k) = j
        rw [if_neg (by omega)]; exact hk.1.2⟩
      refine (Below.heap_setCell w1 _ _ k (fun e => ?_)).trans (hk1 k hk.2 (fun e => hj ?_))
      · have e' : k = g := e
        rw [e', hgh] at hh
        simp only [Option.some.injEq, Obj.cells.injEq] at hh
        exact absurd hh.2.1 (by decide)
      · have := (hbr.2 k e).2
        rw [← this]; exact hk.1.2.symm
  · exact Kp.setCell (Kp.of_grown hg1 (fun k e => (hbr.2 k e).1)) (f3 g rfl) _
  · simp only [World.cell?]
    rw [hg1', ← hgh]
    exact hgc _ _ q1

end Go.Proofs.Ytgpinkgfgkolfaa.PD

namespace Go.Proofs.Ytgpinkgfgkolfaa.PD
open Go.RowKit Go.Proofs.YtgpinkgfgkolfaaW.PrintWords Go.Proofs.YtgpinkgfgkolfaaW.PrintLast Go.Proofs.YtgpinkgfgkolfaaW.PrintMore
set_option linter.unusedVariables false
set_option linter.unusedSimpArgs false
set_option maxHeartbeats 4000000
set_option maxRecDepth 100000

open Go.Proofs
theorem step_append_run {P : Program} {ops : Array Oper} {o : Oper} {a : Act} {w : World} {K : Act → World → Prop} {Q : Exit → Act → World → Prop} (hg : o.guard = none) (s x : Operand) (t : TypeId)
    (hop : o.op = Op.call { callee := Callee.builtin Builtin.append, args := #[s, x], argTypes := #[t, t] }) (v xv v1 : Value) (w1 : World) (hs : a.eval s = v) (hx : a.eval x = xv) (hrun : (Builtin.append_ #[t, t] o.type #[v, xv]).run P w = .ok v1 w1)
    (h : K (a.put o.dst v1) w1) : if Region.wanted o (yielded ops a.tmps) = true then Oper.wp P o a w K Q else K (a.put o.dst undef) w := by
  rw [if_pos (by unfold Region.wanted; rw [hg])]
  unfold Oper.wp
  simp [execOp, hop, resolve, invoke, builtin, hs, hx, hrun, Result.andThen]
  exact h
theorem RB.below {w w' : World} {ok : Nat → Prop} {x : Nat} {F D S : Value} {tg : Nat → Nat} {R : Rb} (h : RB w ok x F D S tg R) (hb : Below w.heap.size w w') : RB w' ok x F D S tg R :=
  ⟨h.1, (hb.block x h.lt).trans h.2.1, h.2.2.1.below hb, h.2.2.2.1.below hb, h.2.2.2.2.below hb⟩
theorem SrcAt.kp {w w' : World} {ok : Nat → Prop} {s : Value} {xs : List UInt8} (hs : ∀ W, Kp ok w W → SrcAt W s xs) (hk : Kp ok w w') : ∀ W, Kp ok w' W → SrcAt W s xs := fun W hW => hs W (hk.trans hW)
/-- What the last statement of lay needs, and leaves. -/
theorem lay_facts {w : World} {ok : Nat → Prop} {x : Nat} {FA : Option Addr} {nf fc : Nat} {D S : Value} {tg : Nat → Nat} {R : Rb} (h : RB w ok x (.slice FA nf fc) D S tg R) (hfresh : ∀ k, w.heap.size ≤ k → ok k) {i : Nat} (hi : i < R.files.length) {s : Value} {xs : List UInt8} (hs : SrcAt w s xs) (hl : (fileR R i).1.length + xs.length ≤ 140737488355328) :
    ∃ g U ul uc V vl vc w1, FA = some ⟨g, 0, none⟩ ∧ w.drew.cell? ⟨g, i * 2, none⟩ = some (.slice U ul uc) ∧ w.drew.cell? ⟨x, 1, none⟩ = some (.slice FA nf fc) ∧ Aside0 ((Builtin.append_ #[29, 29] 29 #[.slice U ul uc, s]).run Try.prog w.drew = .ok (.slice V vl vc) w1) ∧ Aside0 (RDisk (w1.setCell ⟨g, i * 2, none⟩ (.slice V vl vc)) ok x { R with files := R.files.set i ((fileR R i).1 ++ xs, (fileR R i).2) } ∧ Kp ok w (w1.setCell ⟨g, i * 2, none⟩ (.slice V vl vc))) ∧
      w1.cell? ⟨x, 1, none⟩ = some (.slice FA nf fc) ∧ w1.cell? ⟨g, i * 2, none⟩ = some (.slice U ul uc) ∧ w1.frozen? ⟨g, i * 2, none⟩ = false := by
  have hb := below_drew (Below.refl w.heap.size w)
  obtain ⟨g, U, ul, uc, V, vl, vc, w1, q1, q2, q3, q4, q5, q6, q7, q8⟩ := lay_file (h.below hb) (fun k hk => hfresh k hk) hi (hs.below hb) hl
  exact ⟨g, U, ul, uc, V, vl, vc, w1, q1, q2, (h.below hb).cell 1, Aside0.mk q3, Aside0.mk ⟨⟨_, _, _, _, q4⟩, (Kp.of_below hb).trans q5⟩, q6, q7, q8⟩
set_option maxHeartbeats 16000000 in
theorem rlay_calls (ok : Nat → Prop) (x : Nat) (R : Rb) (nm : ByteArray) (BA : Option Addr) (bc : Nat) (xs : List UInt8) (w : World) (h : RDisk w ok x R) (hfresh : ∀ k, w.heap.size ≤ k → ok k) (hs : ∀ W, Kp ok w W → SrcAt W (.slice BA xs.length bc) xs)
    (hlen : ∀ i, (fileR R i).1.length + xs.length ≤ 140737488355328) (hl : R.files.length ≤ 1000000 ∧ R.dir.length ≤ 1000000) (hin : ∀ i, findL R.dir nm.data.toList = some i → i < R.files.length) :
    Calls Try.prog 51 #[fptr x, .string nm, .slice BA xs.length bc] w fun e w' => e = .returned (.tuple #[]) ∧ RDisk w' ok x (rlayL R nm.data.toList xs) ∧ Kp ok w w' := by
  obtain ⟨F, D, S, tg, h⟩ := h
  obtain ⟨FA, fc, hF⟩ := h.2.2.1.slice
  obtain ⟨DA, dc, hD⟩ := h.2.2.2.1.slice
  subst hF hD
  obtain ⟨nf, hnf⟩ : ∃ n, n = R.files.length := ⟨_, rfl⟩
  obtain ⟨nd, hnd⟩ : ∃ n, n = R.dir.length := ⟨_, rfl⟩
  rw [← hnf, ← hnd] at h
  obtain ⟨nx, hnx⟩ : ∃ n, n = xs.length := ⟨_, rfl⟩
  rw [← hnx] at hs ⊢
  have HNX := Aside0.mk hnx
  have HN := Aside0.mk (And.intro hnf (And.intro hnd hl))
  have HFR := Aside0.mk hfresh
  have HS := Aside0.mk hs
  have HLE := Aside0.mk hlen
  have hfind := rfind_calls ok DA dc nd R.dir nm w h.2.2.2.1
  have c2 : w.cell? ⟨x, 2, none⟩ = some (.slice DA nd dc) := h.cell 2
  have H := Aside0.mk h
  have HIN := Aside0.mk hin
  clear h hfresh hs hlen hl hin hnf hnd hnx
  cases hf : findL R.dir nm.data.toList with
  | some i =>
    have hai : atI R.dir nm.data.toList = (i : Int) := by unfold atI; rw [hf]
    rw [hai] at hfind
    have hil := HIN.out i hf
    have HRL := Aside0.mk (show rlayL R nm.data.toList xs = { R with files := R.files.set i ((fileR R i).1 ++ xs, (fileR R i).2) } by unfold rlayL; rw [hf])
    clear hf hai
    have hi0 : (0 : Int) ≤ (i : Int) := by omega
    have hi1 : (i : Int) < (nf : Int) := by have := HN.out; omega
    have hi2 : decide ((i : Int) < 0) = false := decide_eq_false (by omega)
    have HIL := Aside0.mk hil
    clear hil
    go_enter Try.func51, Try.ntmps51
    go_wp2_with fail
    refine hfind.mono ?_
    rintro _ w0 ⟨rfl, hb0⟩
    have HB0 := Aside0.mk hb0
    obtain ⟨g, U, ul, uc, V, vl, vc, w1, rfl, k1, k2, HRUN, HE, k3, k4, k5⟩ := lay_facts (H.out.below hb0) (fun k hk => HFR.out k (Nat.le_trans hb0.size hk)) HIL.out (HS.out w0 (Kp.of_below hb0)) (HLE.out i)
    clear hb0 hfind c2
    go_wp2_with fail
    go_region_law (refine step_append_run rfl _ _ 29 rfl _ _ _ _ rfl rfl HRUN.out ?_)
    all_goals
      go_wp2_with fail
      go_end0
      exact ⟨rfl, by rw [HRL.out]; exact HE.out.1, (Kp.of_below HB0.out).trans HE.out.2⟩
  | none =>
    have hai : atI R.dir nm.data.toList = -1 := by unfold atI; rw [hf]
    rw [hai] at hfind
    have HRL := Aside0.mk (show rlayL R nm.data.toList xs = { R with files := R.files ++ [(xs, 0)], dir := linkG nm.data.toList R.files.length false R.dir } by unfold rlayL; rw [hf])
    clear hf hai
    go_enter Try.func51, Try.ntmps51
    go_wp2_with fail
    refine hfind.mono ?_
    rintro _ w0 ⟨rfl, hb0⟩
    clear hfind c2
    have HB0 := Aside0.mk hb0
    have h0 := H.out.below hb0
    have c1 : w0.cell? ⟨x, 1, none⟩ = some (.slice FA nf fc) := h0.cell 1
    obtain ⟨A1, c1', w1, hrun, hRB1, hkp1, hcells, hfz⟩ := push_file h0 (fun k hk => HFR.out k (Nat.le_trans hb0.size hk)) (by have := HN.out; omega)
    rw [← HN.out.1] at hrun hRB1 hkp1
    obtain ⟨n1, hn1⟩ : ∃ k, k = nf + 1 := ⟨_, rfl⟩
    rw [← hn1] at hrun hRB1 hkp1
    have HN1 := Aside0.mk hn1
    clear hn1
    have HRUN := Aside0.mk hrun
    have c3 : w1.cell? ⟨x, 1, none⟩ = some (.slice FA nf fc) := (hcells 1).trans c1
    obtain ⟨w2, hw2⟩ : ∃ W, W = w1.setCell ⟨x, 1, none⟩ (.slice A1 n1 c1') := ⟨_, rfl⟩
    have HW2 := Aside0.mk hw2.symm
    have c4 : (w1.setCell ⟨x, 1, none⟩ (.slice A1 n1 c1')).cell? ⟨x, 2, none⟩ = some (.slice DA nd dc) := hRB1.cell 2
    rw [← hw2] at hRB1 hkp1
    have HRB1 := Aside0.mk hRB1
    have HKP1 := Aside0.mk ((Kp.of_below hb0).trans hkp1)
    clear hb0 h0 hrun hRB1 hkp1 hcells hw2
    unfold fobj at HRUN
    go_wp2_with (at_builtin; refine wpList_append_run rfl _ _ 45 rfl _ _ _ _ rfl rfl HRUN.out ?_)
    rw [HW2.out]
    refine (rlink_calls ok DA dc nd R.dir nm (nf : Int) w2 HRB1.out.2.2.2.1 (by have := HN.out; omega) (by omega)).mono ?_
    rintro _ w3 ⟨L, rfl, hL, hb3⟩
    obtain ⟨LA, lc, hLs⟩ := hL.slice
    subst hLs
    obtain ⟨hRB3, hkp3⟩ := HRB1.out.dir hb3 hL (fun k hk => HFR.out k (Nat.le_trans HKP1.out.size hk))
    have hx3 := (hb3.block x HRB1.out.lt).trans HRB1.out.2.1
    have c5 : w3.cell? ⟨x, 2, none⟩ = some (.slice DA nd dc) := by simp [World.cell?, hx3, rcellsD]
    have f5 : w3.frozen? ⟨x, 2, none⟩ = false := Lib.frozen_of_heap hx3 2
    obtain ⟨ln, hln⟩ : ∃ n, n = (lnk nm.data.toList (nf : Int) R.dir).length := ⟨_, rfl⟩
    rw [← hln] at hRB3 hkp3 ⊢
    obtain ⟨w4, hw4⟩ : ∃ W, W = w3.setCell ⟨x, 2, none⟩ (.slice LA ln lc) := ⟨_, rfl⟩
    have HW4 := Aside0.mk hw4.symm
    rw [← hw4] at hRB3 hkp3
    have HKP4 := Aside0.mk (HKP1.out.trans hkp3)
    have hsz : nf < (R.files ++ [(([] : List UInt8), 0)]).length := by rw [List.length_append]; simp only [List.length_cons, List.length_nil]; have := HN.out; omega
    have hfile : fileR { R with files := R.files ++ [([], 0)], dir := lnk nm.data.toList (nf : Int) R.dir } nf = ([], 0) := by
      unfold fileR
      show (R.files ++ [([], 0)]).getD nf ([], 0) = _
      rw [List.getD_eq_getElem?_getD, List.getElem?_append_right (by have := HN.out; omega), HN.out.1, Nat.sub_self]; rfl
    obtain ⟨g, U, ul, uc, V, vl, vc, w5, hA1, k1, k2, HRUN5, HE, k3, k4, k5⟩ := lay_facts hRB3 (fun k hk => HFR.out k (Nat.le_trans HKP4.out.size hk)) hsz (HS.out w4 HKP4.out) (by rw [hfile]; show 0 + xs.length ≤ _; have := HLE.out 0; omega)
    rw [hfile] at HE
    have HEQ := Aside0.mk (show ({ R with files := (R.files ++ [([], 0)]).set nf (([] : List UInt8) ++ xs, 0), dir := lnk nm.data.toList (nf : Int) R.dir } : Rb) = rlayL R nm.data.toList xs by
      rw [HRL.out, List.nil_append]
      congr 1
      · rw [HN.out.1, List.set_append_right _ _ (Nat.le_refl _), Nat.sub_self]; rfl
      · rw [lnk_put, link_is, HN.out.1])
    subst hA1
    have hi0 : (0 : Int) ≤ (nf : Int) := by omega
    have hi1 : (nf : Int) < (n1 : Int) := by have := HN1.out; omega
    clear hL hb3 hRB3 hkp3 hx3 hsz hfile hw4 hln c1 c3 c4 hfz
    go_wp2_with fail
    change Code.wp _ _ _ _ (w3.setCell ⟨x, 2, none⟩ (.slice LA ln lc))
    rw [HW4.out]
    go_wp2_with fail
    go_region_law (refine step_append_run rfl _ _ 29 rfl _ _ _ _ rfl rfl HRUN5.out ?_)
    all_goals
      go_wp2_with fail
      go_end0
      exact ⟨rfl, by rw [← HEQ.out]; exact HE.out.1, HKP4.out.trans HE.out.2⟩

end Go.Proofs.Ytgpinkgfgkolfaa.PD

namespace Go.Proofs.Ytgpinkgfgkolfaa.PD
open Go.RowKit Go.Proofs.YtgpinkgfgkolfaaW.PrintWords Go.Proofs.YtgpinkgfgkolfaaW.PrintLast Go.Proofs.YtgpinkgfgkolfaaW.PrintMore
set_option linter.unusedVariables false
set_option linter.unusedSimpArgs false
set_option maxHeartbeats 4000000
set_option maxRecDepth 100000

open Go.Proofs
structure RFine (k L : Nat) (R : Rb) : Prop where
  room : wrap64 R.room = R.room
  files : R.files.length ≤ k
  dir : R.dir.length ≤ k
  safe : R.safe.length ≤ k
  len : ∀ i, (fileR R i).2 ≤ (fileR R i).1.length ∧ (fileR R i).1.length ≤ L
  left : -9223372036854775808 ≤ R.left ∧ R.left ≤ 9223372036854775807
  lt : ∀ i, usedR R i = true → i < R.files.length
theorem RFine.mono {k L k' L' : Nat} {R : Rb} (h : RFine k L R) (hk : k ≤ k') (hL : L ≤ L') : RFine k' L' R :=
  ⟨h.room, Nat.le_trans h.files hk, Nat.le_trans h.dir hk, Nat.le_trans h.safe hk, fun f => ⟨(h.len f).1, Nat.le_trans (h.len f).2 hL⟩, h.left, h.lt⟩
theorem RFine.may {k L : Nat} {R : Rb} (h : RFine k L R) : RFine k L (rmayL R).2.2 := by
  unfold rmayL
  split
  · exact h
  · split
    · exact ⟨h.room, h.files, h.dir, h.safe, h.len, by show _ ≤ R.left - 1 ∧ R.left - 1 ≤ _; have := h.left; omega, h.lt⟩
    · exact ⟨h.room, h.files, h.dir, h.safe, h.len, h.left, h.lt⟩
theorem RFine.find {k L : Nat} {R : Rb} (h : RFine k L R) {nm : Nm} {i : Nat} (hf : findL R.dir nm = some i) : i < R.files.length := h.lt i (used_or.2 (.inl ⟨nm, find_mem_r hf⟩))
theorem file_set (R : Rb) (i : Nat) (x : List UInt8 × Nat) (j : Nat) : fileR { R with files := R.files.set i x } j = if j = i ∧ i < R.files.length then x else fileR R j := by
  unfold fileR
  show (R.files.set i x).getD j ([], 0) = _
  rw [List.getD_eq_getElem?_getD, List.getElem?_set]
  by_cases hj : j = i
  · subst hj
    by_cases hl : j < R.files.length
    · rw [if_pos rfl, if_pos hl, if_pos ⟨rfl, hl⟩]; rfl
    · rw [if_pos rfl, if_neg hl, if_neg (fun e => hl e.2), List.getD_eq_getElem?_getD, List.getElem?_eq_none (by omega)]
  · rw [if_neg (fun e => hj e.symm), if_neg (fun e => hj e.1), List.getD_eq_getElem?_getD]
theorem RFine.set {k L L' : Nat} {R : Rb} (h : RFine k L R) (i : Nat) (x : List UInt8 × Nat) (hL : L ≤ L') (hx : x.2 ≤ x.1.length ∧ x.1.length ≤ L') : RFine k L' { R with files := R.files.set i x } :=
  ⟨h.room, by show (R.files.set i x).length ≤ k; rw [List.length_set]; exact h.files, h.dir, h.safe, fun j => by
    rw [file_set]
    split
    · exact hx
    · exact ⟨(h.len j).1, Nat.le_trans (h.len j).2 hL⟩, h.left, fun j hj => by show j < (R.files.set i x).length; rw [List.length_set]; exact h.lt j hj⟩
theorem RFine.lay {k L : Nat} {R : Rb} (h : RFine k L R) (nm : Nm) (b : List UInt8) : RFine (k + 1) (L + b.length) (rlayL R nm b) := by
  unfold rlayL
  split
  · rename_i i _
    refine (h.set i _ (Nat.le_add_right _ _) ?_).mono (Nat.le_succ _) (Nat.le_refl _)
    have := h.len i
    show (fileR R i).2 ≤ ((fileR R i).1 ++ b).length ∧ ((fileR R i).1 ++ b).length ≤ _
    rw [List.length_append]; omega
  · refine ⟨h.room, ?_, ?_, Nat.le_trans h.safe (Nat.le_succ _), fun j => ?_, h.left, fun j hj => ?_⟩
    · show (R.files ++ [(b, 0)]).length ≤ _
      rw [List.length_append]
      exact Nat.succ_le_succ h.files
    · show (linkG nm R.files.length false R.dir).length ≤ _
      rw [link_is]
      exact Nat.le_trans (put_len _ _ _) (Nat.succ_le_succ h.dir)
    · unfold fileR
      show ((R.files ++ [(b, 0)]).getD j ([], 0)).2 ≤ ((R.files ++ [(b, 0)]).getD j ([], 0)).1.length ∧ ((R.files ++ [(b, 0)]).getD j ([], 0)).1.length ≤ _
      rw [List.getD_eq_getElem?_getD]
      by_cases hj : j < R.files.length
      · rw [List.getElem?_append_left hj]
        have := h.len j
        unfold fileR at this
        rw [List.getD_eq_getElem?_getD] at this
        exact ⟨this.1, Nat.le_trans this.2 (Nat.le_add_right _ _)⟩
      · rw [List.getElem?_append_right (by omega)]
        cases hj2 : j - R.files.length with
        | zero => exact ⟨Nat.zero_le _, Nat.le_add_left _ _⟩
        | succ m => exact ⟨Nat.le_refl _, Nat.zero_le _⟩
    · show j < (R.files ++ [(b, 0)]).length
      rw [List.length_append]
      rcases used_or.1 hj with ⟨n, hn⟩ | ⟨n, hn⟩
      · have hn' : (n, j) ∈ linkG nm R.files.length false R.dir := hn
        rw [link_is] at hn'
        rcases put_mem_iff hn' with ⟨_, e⟩ | e
        · rw [e]; simp
        · have := h.lt j (used_or.2 (.inl ⟨n, e⟩)); omega
      · have := h.lt j (used_or.2 (.inr ⟨n, hn⟩)); omega
theorem RFine.write {k L : Nat} {R : Rb} (h : RFine k L R) (nm : Nm) (b : List UInt8) : RFine (k + 1) (L + b.length) (rwriteL R nm b).2 := by
  have hm : RFine (k + 1) (L + b.length) (rmayL R).2.2 := h.may.mono (Nat.le_succ _) (Nat.le_add_right _ _)
  unfold rwriteL
  split
  · dsimp only
    split
    · exact (h.may.lay nm _).mono (Nat.le_refl _) (by rw [List.length_take]; omega)
    · exact hm
  · split
    · exact hm
    · split
      · exact hm
      · exact h.may.lay nm b
theorem RFine.call {k L k' : Nat} {R : Rb} (h : RFine k L R) (hk : k ≤ k') (nm : Nm) (F : Nat → Rb → Int × Rb) (hF : ∀ f Q, (nm, f) ∈ Q.dir → RFine k L Q → RFine k' L (F f Q).2) : RFine k' L (rcallL R nm F).2 := by
  have hm : RFine k' L (rmayL R).2.2 := h.may.mono hk (Nat.le_refl _)
  unfold rcallL
  split
  · exact hm
  · cases hf : findL R.dir nm with
    | none => exact hm
    | some i => exact hF i _ (by rw [(rmay_same R).1]; exact find_mem_r hf) h.may
theorem RFine.sync {k L : Nat} {R : Rb} (h : RFine k L R) (nm : Nm) : RFine k L (rsyncL R nm).2 :=
  h.call (Nat.le_refl _) nm rsyncR fun f Q _ hQ => hQ.set f _ (Nat.le_refl _) ⟨Nat.le_refl _, (hQ.len f).2⟩
theorem RFine.cut {k L : Nat} {R : Rb} (h : RFine k L R) (nm : Nm) (n : Int) : RFine k L (rcutL R nm n).2 :=
  h.call (Nat.le_refl _) nm (rcutR n) fun f Q _ hQ => by
    unfold rcutR
    split
    · exact hQ
    · refine hQ.set f _ (Nat.le_refl _) ?_
      have := hQ.len f
      show min (fileR Q f).2 n.toNat ≤ ((fileR Q f).1.take n.toNat).length ∧ _
      rw [List.length_take]; omega
theorem RFine.del {k L : Nat} {R : Rb} (h : RFine k L R) (nm : Nm) : RFine k L { R with dir := delL R.dir nm } :=
  ⟨h.room, h.files, Nat.le_trans (del_len _ _) h.dir, h.safe, h.len, h.left, fun i hi => h.lt i (by
    rcases used_or.1 hi with ⟨n, hn⟩ | ⟨n, hn⟩
    · exact used_or.2 (.inl ⟨n, (mem_del.1 hn).1⟩)
    · exact used_or.2 (.inr ⟨n, hn⟩))⟩
theorem RFine.rem {k L : Nat} {R : Rb} (h : RFine k L R) (nm : Nm) : RFine k L (rremL R nm).2 := h.call (Nat.le_refl _) nm _ fun f Q _ hQ => hQ.del nm
theorem RFine.ren {k L : Nat} {R : Rb} (h : RFine k L R) (nm tn : Nm) : RFine (k + 1) L (rrenL R nm tn).2 :=
  h.call (Nat.le_succ _) nm _ fun f Q hm hQ => by
    split
    · exact hQ.mono (Nat.le_succ _) (Nat.le_refl _)
    · rw [link_is]
      refine ⟨hQ.room, Nat.le_trans hQ.files (Nat.le_succ _), Nat.le_trans (put_len _ _ _) (Nat.succ_le_succ (Nat.le_trans (del_len _ _) hQ.dir)), Nat.le_trans hQ.safe (Nat.le_succ _), hQ.len, hQ.left, fun i hi => ?_⟩
      rcases used_or.1 hi with ⟨n, hn⟩ | ⟨n, hn⟩
      · rcases put_mem_iff hn with ⟨_, e⟩ | e
        · rw [e]; exact hQ.lt f (used_or.2 (.inl ⟨nm, hm⟩))
        · exact hQ.lt i (used_or.2 (.inl ⟨n, (mem_del.1 e).1⟩))
      · exact hQ.lt i (used_or.2 (.inr ⟨n, hn⟩))
theorem RFine.flush {k L : Nat} {R : Rb} (h : RFine k L R) : RFine k L (rflushL R).2 := by
  unfold rflushL
  split
  · exact h.may
  · exact ⟨h.may.room, h.may.files, h.may.dir, h.may.dir, h.may.len, h.may.left, fun i hi => h.may.lt i (by
      rcases used_or.1 hi with ⟨n, hn⟩ | ⟨n, hn⟩ <;> exact used_or.2 (.inl ⟨n, hn⟩))⟩
theorem RFine.fail {k L : Nat} {R : Rb} (h : RFine k L R) (n : Int) (hn : -9223372036854775808 ≤ n ∧ n ≤ 9223372036854775807) : RFine k L (rfailL R n) := ⟨h.room, h.files, h.dir, h.safe, h.len, hn, h.lt⟩
theorem crash_file (R : Rb) (keep : Int) (i : Nat) : fileR (rcrashL R keep) i = if i < R.files.length then rcrashF keep (fileR R i) else ([], 0) := by
  unfold fileR rcrashL
  show (R.files.map _).getD i ([], 0) = _
  rw [List.getD_eq_getElem?_getD, List.getElem?_map, List.getD_eq_getElem?_getD]
  by_cases hi : i < R.files.length
  · rw [if_pos hi, List.getElem?_eq_getElem hi]; rfl
  · rw [if_neg hi, List.getElem?_eq_none (by omega)]; rfl
theorem RFine.crash {k L : Nat} {R : Rb} (h : RFine k L R) (keep : Int) : RFine k L (rcrashL R keep) :=
  ⟨h.room, by show (R.files.map _).length ≤ k; rw [List.length_map]; exact h.files, h.safe, h.safe, fun i => by
    rw [crash_file]
    split
    · have := h.len i
      rw [crash_same keep _ this.1]
      have h2 := crashN_le keep _ this.1
      show crashN keep _ ≤ ((fileR R i).1.take _).length ∧ ((fileR R i).1.take _).length ≤ L
      rw [List.length_take]; omega
    · exact ⟨Nat.le_refl _, Nat.zero_le _⟩, h.left, fun i hi => by
    show i < (R.files.map _).length
    rw [List.length_map]
    exact h.lt i (by rcases used_or.1 hi with ⟨n, hn⟩ | ⟨n, hn⟩ <;> exact used_or.2 (.inr ⟨n, hn⟩))⟩
theorem rfine_new (room : Int) (h : wrap64 room = room) : RFine 0 0 ⟨room, [], [], [], false, 0, false⟩ :=
  ⟨h, Nat.le_refl _, Nat.le_refl _, Nat.le_refl _, fun f => ⟨Nat.le_refl _, Nat.le_refl _⟩, calm_left, fun i hi => by simp [usedR, usedD] at hi⟩

end Go.Proofs.Ytgpinkgfgkolfaa.PD

namespace Go.Proofs.Ytgpinkgfgkolfaa.PD
open Go.RowKit Go.Proofs.YtgpinkgfgkolfaaW.PrintWords Go.Proofs.YtgpinkgfgkolfaaW.PrintLast Go.Proofs.YtgpinkgfgkolfaaW.PrintMore
set_option linter.unusedVariables false
set_option linter.unusedSimpArgs false
set_option maxHeartbeats 4000000
set_option maxRecDepth 100000

open Go.Proofs
theorem rfree_same {R R' : Rb} (h1 : R'.dir = R.dir) (h2 : R'.safe = R.safe) (h3 : R'.files = R.files) (h4 : R'.room = R.room) : rfreeL R' = rfreeL R := by
  cases R; cases R'
  subst h1 h2 h3 h4
  rfl
set_option maxHeartbeats 16000000 in
theorem rwrite_calls (ok : Nat → Prop) (d : Nat) (R : Rb) (nm : ByteArray) (x : Value) (xs : List UInt8) {k L : Nat} (w : World) (h : RDisk w ok d R) (hfresh : ∀ k, w.heap.size ≤ k → ok k) (hF : RFine k L R) (hk : k ≤ 1000000) (hL : L + xs.length ≤ 140737488355328) (hnm : nm.size ≤ maxLen)
    (hs : ∀ W, Kp ok w W → SrcAt W x xs) :
    Calls Try.prog 34 #[fptr d, .string nm, x] w fun e w' => e = .returned (.int .i64 (rwriteL R nm.data.toList xs).1) ∧ RDisk w' ok d (rwriteL R nm.data.toList xs).2 ∧ Kp ok w w' := by
  have HM := Aside0.mk (rmay_calls ok d R w h hF.left)
  obtain ⟨s1, s2, s3, s4⟩ := rmay_same R
  have hF1 := hF.may
  obtain ⟨mb, mf, A1, hma⟩ : ∃ mb mf A1, rmayL R = (mb, mf, A1) := ⟨_, _, _, rfl⟩
  rw [hma] at HM s1 s2 s3 s4 hF1
  have hF1' : RFine k L A1 := hF1
  have hfr : rfreeL A1 = rfreeL R := rfree_same s1 s2 s3 s4
  have HFR := Aside0.mk (fun W hW => rfree_calls ok d A1 W hW hF1'.room (by have h1 := hF1'.files; have h2 := hF1'.dir; have h3 := hF1'.safe; exact ⟨by omega, by omega, by omega⟩))
  rw [hfr] at HFR
  obtain ⟨Ax, cx, rfl, hcx⟩ := (hs w (Kp.refl _ _)).slice
  have hll : A1.files.length ≤ 1000000 ∧ A1.dir.length ≤ 1000000 := by have h1 := hF1'.files; have h2 := hF1'.dir; exact ⟨by omega, by omega⟩
  have HLY := Aside0.mk (fun (W : World) (hW : RDisk W ok d A1) (hk : Kp ok w W) => rlay_calls ok d A1 nm Ax cx xs W hW (fun k hk' => hfresh k (by have := hk.size; omega)) (fun W' hW' => hs W' (hk.trans hW')) (fun i => by have := (hF1'.len i).2; omega) hll (fun i hi => hF1'.find hi))
  have hth : (xs.take (xs.length / 2)).length = xs.length / 2 := by rw [List.length_take]; omega
  have HLT := Aside0.mk (fun (W : World) (hW : RDisk W ok d A1) (hk : Kp ok w W) => rlay_calls ok d A1 nm Ax cx (xs.take (xs.length / 2)) W hW (fun k hk' => hfresh k (by have := hk.size; omega))
    (fun W' hW' => by rw [hth]; exact (hs W' (hk.trans hW')).take _ (Nat.div_le_self _ _)) (fun i => by have := (hF1'.len i).2; rw [hth]; omega) hll (fun i hi => hF1'.find hi))
  rw [hth] at HLT
  obtain ⟨WR, hWR⟩ : ∃ WR, WR = rwriteL R nm.data.toList xs := ⟨_, rfl⟩
  rw [← hWR]
  have HW := Aside0.mk (show WR = if mb = false then
    (171, if mf = true ∧ nm.data.toList ≠ [] ∧ 1 < xs.length ∧ (xs.length : Int) ≤ wrap64 (rfreeL R) then rlayL A1 nm.data.toList (xs.take (xs.length / 2)) else A1)
  else if nm.data.toList = [] then (2, A1) else if (xs.length : Int) > wrap64 (rfreeL R) then (170, A1) else (0, rlayL A1 nm.data.toList xs) by rw [hWR]; unfold rwriteL; rw [hma])
  have het : nm.size = nm.data.toList.length := by rw [Array.length_toList]; rfl
  have HCX := Aside0.mk hcx
  have HN := Aside0.mk (show xs.length ≤ 140737488355328 by omega)
  clear hWR s1 s2 s3 s4 hma hfr h hfresh hs hF hF1 hF1' hll hth hcx hL hk
  generalize wrap64 (rfreeL R) = fr at *
  obtain ⟨n, hn⟩ : ∃ n, n = xs.length := ⟨_, rfl⟩
  rw [← hn] at HLY HLT HW HCX HN
  rw [← hn]
  clear hn
  by_cases hnm0 : nm.data.toList = []
  · have e0 : nm.size = 0 := by rw [het, hnm0]; rfl
    cases mb with
    | false =>
      simp only [hnm0, ne_eq, not_true_eq_false, false_and, and_false, if_false, if_true] at HW
      clear HFR HLY HLT het hnm
      cases mf
      all_goals
        go_enter Try.func34, Try.ntmps34
        go_wp2_with fail
        refine HM.out.mono ?_
        rintro _ w1 ⟨rfl, hD1, hk1⟩
        have HD1 := Aside0.mk hD1
        have HK1 := Aside0.mk hk1
        clear hD1 hk1 HM
        go_wp2_with fail
        go_ret
        exact ⟨by rw [HW.out]; rfl, by rw [HW.out]; exact HD1.out, HK1.out⟩
    | true =>
      simp only [hnm0, Bool.true_eq_false, if_false, if_true] at HW
      clear HFR HLY HLT het hnm
      cases mf
      all_goals
        go_enter Try.func34, Try.ntmps34
        go_wp2_with fail
        refine HM.out.mono ?_
        rintro _ w1 ⟨rfl, hD1, hk1⟩
        have HD1 := Aside0.mk hD1
        have HK1 := Aside0.mk hk1
        clear hD1 hk1 HM
        go_wp2_with fail
        go_ret
        exact ⟨by rw [HW.out]; rfl, by rw [HW.out]; exact HD1.out, HK1.out⟩
  · have e0 : ¬ nm.size = 0 := by
      rw [het]
      cases h : nm.data.toList with
      | nil => exact absurd h hnm0
      | cons => simp
    have e1 : 0 < nm.size := by omega
    have e2 : decide ((0 : Int) < (nm.size : Int)) = true := decide_eq_true (by omega)
    have e3 : decide (0 < nm.size) = true := decide_eq_true e1
    cases mb with
    | false =>
      cases mf with
      | false =>
        simp only [Bool.false_eq_true, false_and, if_false, if_true] at HW
        clear HFR HLY HLT het hnm0 hnm
        go_enter Try.func34, Try.ntmps34
        go_wp2_with fail
        refine HM.out.mono ?_
        rintro _ w1 ⟨rfl, hD1, hk1⟩
        have HD1 := Aside0.mk hD1
        have HK1 := Aside0.mk hk1
        clear hD1 hk1 HM
        go_wp2_with fail
        go_ret
        exact ⟨by rw [HW.out]; rfl, by rw [HW.out]; exact HD1.out, HK1.out⟩
      | true =>
        by_cases h1 : 1 < n
        · have q1 : decide (1 < n) = true := decide_eq_true h1
          have q2 : decide ((1 : Int) < (n : Int)) = true := decide_eq_true (by omega)
          by_cases h2 : (n : Int) ≤ fr
          · have q3 : decide ((n : Int) ≤ fr) = true := decide_eq_true h2
            simp only [true_and, if_true, hnm0, ne_eq, not_false_eq_true, h1, h2, and_self] at HW
            obtain ⟨k, hk⟩ : ∃ k, k = n / 2 := ⟨_, rfl⟩
            have v1 : (n : Int) / 2 = (k : Int) := by omega
            have v0 : Int.tdiv (n : Int) 2 = (k : Int) := by rw [Int.tdiv_eq_ediv_of_nonneg (by omega)]; exact v1
            have v4 : wrap64 (k : Int) = (k : Int) := by have := HN.out; unfold wrap64; omega
            have v2 : (k ≤ cx) = True := eq_true (by have := HCX.out; omega)
            have v3 : ((k : Int) ≤ (cx : Int)) = True := eq_true (by have := HCX.out; omega)
            rw [← hk] at HLT HW
            clear HLY het hnm0 h1 h2 hk hnm
            go_enter Try.func34, Try.ntmps34
            go_wp2_with fail
            refine HM.out.mono ?_
            rintro _ w1 ⟨rfl, hD1, hk1⟩
            have HD1 := Aside0.mk hD1
            have HK1 := Aside0.mk hk1
            clear hD1 hk1 HM
            go_wp2_with fail
            refine (HFR.out _ HD1.out).mono ?_
            rintro _ w2 ⟨rfl, hb2⟩
            have HD2 := Aside0.mk (HD1.out.below hb2)
            have HK2 := Aside0.mk (HK1.out.trans (Kp.of_below hb2))
            clear hb2 HFR
            go_wp2_with fail
            refine (HLT.out _ HD2.out HK2.out).mono ?_
            rintro _ w3 ⟨rfl, hD3, hk3⟩
            have HD3 := Aside0.mk hD3
            have HK3 := Aside0.mk (HK2.out.trans hk3)
            clear hD3 hk3 HLT
            go_wp2_with fail
            go_ret
            exact ⟨by rw [HW.out]; rfl, by rw [HW.out]; exact HD3.out, HK3.out⟩
          · have q3 : decide ((n : Int) ≤ fr) = false := decide_eq_false h2
            simp only [true_and, if_true, h2, and_false, if_false] at HW
            clear HLY HLT het hnm0 h1 h2 hnm
            go_enter Try.func34, Try.ntmps34
            go_wp2_with fail
            refine HM.out.mono ?_
            rintro _ w1 ⟨rfl, hD1, hk1⟩
            have HD1 := Aside0.mk hD1
            have HK1 := Aside0.mk hk1
            clear hD1 hk1 HM
            go_wp2_with fail
            refine (HFR.out _ HD1.out).mono ?_
            rintro _ w2 ⟨rfl, hb2⟩
            have HD2 := Aside0.mk (HD1.out.below hb2)
            have HK2 := Aside0.mk (HK1.out.trans (Kp.of_below hb2))
            clear hb2 HFR
            go_wp2_with fail
            go_ret
            exact ⟨by rw [HW.out]; rfl, by rw [HW.out]; exact HD2.out, HK2.out⟩
        · have q1 : decide (1 < n) = false := decide_eq_false h1
          have q2 : decide ((1 : Int) < (n : Int)) = false := decide_eq_false (by omega)
          simp only [true_and, if_true, h1, and_false, false_and, if_false] at HW
          clear HFR HLY HLT het hnm0 h1 hnm
          go_enter Try.func34, Try.ntmps34
          go_wp2_with fail
          refine HM.out.mono ?_
          rintro _ w1 ⟨rfl, hD1, hk1⟩
          have HD1 := Aside0.mk hD1
          have HK1 := Aside0.mk hk1
          clear hD1 hk1 HM
          go_wp2_with fail
          go_ret
          exact ⟨by rw [HW.out]; rfl, by rw [HW.out]; exact HD1.out, HK1.out⟩
    | true =>
      simp only [Bool.true_eq_false, if_false, hnm0] at HW
      by_cases h2 : (n : Int) > fr
      · have q3 : decide (fr < (n : Int)) = true := decide_eq_true h2
        simp only [h2, if_true] at HW
        clear HLY HLT het hnm0 h2 hnm
        cases mf
        all_goals
          go_enter Try.func34, Try.ntmps34
          go_wp2_with fail
          refine HM.out.mono ?_
          rintro _ w1 ⟨rfl, hD1, hk1⟩
          have HD1 := Aside0.mk hD1
          have HK1 := Aside0.mk hk1
          clear hD1 hk1 HM
          go_wp2_with fail
          refine (HFR.out _ HD1.out).mono ?_
          rintro _ w2 ⟨rfl, hb2⟩
          have HD2 := Aside0.mk (HD1.out.below hb2)
          have HK2 := Aside0.mk (HK1.out.trans (Kp.of_below hb2))
          clear hb2 HFR
          go_wp2_with fail
          go_ret
          exact ⟨by rw [HW.out]; rfl, by rw [HW.out]; exact HD2.out, HK2.out⟩
      · have q3 : decide (fr < (n : Int)) = false := decide_eq_false h2
        simp only [h2, if_false] at HW
        clear HLT het hnm0 h2 hnm
        cases mf
        all_goals
          go_enter Try.func34, Try.ntmps34
          go_wp2_with fail
          refine HM.out.mono ?_
          rintro _ w1 ⟨rfl, hD1, hk1⟩
          have HD1 := Aside0.mk hD1
          have HK1 := Aside0.mk hk1
          clear hD1 hk1 HM
          go_wp2_with fail
          refine (HFR.out _ HD1.out).mono ?_
          rintro _ w2 ⟨rfl, hb2⟩
          have HD2 := Aside0.mk (HD1.out.below hb2)
          have HK2 := Aside0.mk (HK1.out.trans (Kp.of_below hb2))
          clear hb2 HFR
          go_wp2_with fail
          refine (HLY.out _ HD2.out HK2.out).mono ?_
          rintro _ w3 ⟨rfl, hD3, hk3⟩
          have HD3 := Aside0.mk hD3
          have HK3 := Aside0.mk (HK2.out.trans hk3)
          clear hD3 hk3 HLY
          go_wp2_with fail
          go_ret
          exact ⟨by rw [HW.out]; rfl, by rw [HW.out]; exact HD3.out, HK3.out⟩

end Go.Proofs.Ytgpinkgfgkolfaa.PD

namespace Go.Proofs.Ytgpinkgfgkolfaa.PD
open Go.RowKit Go.Proofs.YtgpinkgfgkolfaaW.PrintWords Go.Proofs.YtgpinkgfgkolfaaW.PrintLast Go.Proofs.YtgpinkgfgkolfaaW.PrintMore
set_option linter.unusedVariables false
set_option linter.unusedSimpArgs false
set_option maxHeartbeats 4000000
set_option maxRecDepth 100000

open Go.Proofs
/-- The cells of a file. -/
theorem RB.file {w : World} {ok : Nat → Prop} {x : Nat} {FA : Option Addr} {nf fc : Nat} {D S : Value} {tg : Nat → Nat} {R : Rb} (h : RB w ok x (.slice FA nf fc) D S tg R) {i : Nat} (hi : i < R.files.length) :
    ∃ g U ul uc, FA = some ⟨g, 0, none⟩ ∧ ok g ∧ nf = R.files.length ∧ ul = (fileR R i).1.length ∧ ul ≤ uc ∧ w.cell? ⟨g, i * 2, none⟩ = some (.slice U ul uc) ∧ w.cell? ⟨g, i * 2 + 1, none⟩ = some (.int .i64 ((fileR R i).2 : Int)) ∧ (∃ cur, w.heap[g]? = some (.cells cur 87 (0, 0))) ∧ BR w (fun k => ok k ∧ tg k = i) (.slice U ul uc) (fileR R i).1 := by
  obtain ⟨h1, h2, h3, h4, h5⟩ := h
  have hnf : nf = R.files.length := by
    obtain ⟨A', c', e⟩ := h3.slice
    injection e
  have hg : ∀ g, (Value.slice FA nf fc).ownBlock = some g → ok g := by obtain ⟨us, _, _, f3, _⟩ := h3; exact f3
  obtain ⟨us, f1, f2, f3, f4⟩ := h3
  obtain ⟨g, cur, hFA, hgh, hgc⟩ := ownsRow_at (by rw [← hnf] at f2; exact f2) (by omega)
  subst hFA
  have hui := List.getElem?_eq_getElem (show i < us.length by omega)
  have hyi := List.getElem?_eq_getElem hi
  obtain ⟨q1, q2⟩ := fcells_at us R.files i _ _ hui hyi
  have hbr := f4 i _ _ hui hyi
  have hfr : R.files[i] = fileR R i := by unfold fileR; rw [List.getD_eq_getElem?_getD, hyi]; rfl
  rw [hfr] at hbr q2
  generalize us[i] = u at *
  obtain ⟨U, uc, e, hle⟩ := hbr.slice
  subst e
  exact ⟨g, U, _, uc, rfl, hg g rfl, hnf, rfl, hle, hgc _ _ q1, hgc _ _ q2, ⟨cur, hgh⟩, hbr⟩
/-- A file has other bytes, in a block of its own. -/
theorem RB.bytes {w w' : World} {ok : Nat → Prop} {x g nf fc : Nat} {D S v : Value} {tg : Nat → Nat} {R : Rb} (h : RB w ok x (.slice (some ⟨g, 0, none⟩) nf fc) D S tg R) (hb : Below w.heap.size w w') {i : Nat} (hi : i < R.files.length) {bs : List UInt8} (hv : BR w' (fun k => (ok k ∧ tg k = i ∧ k < w.heap.size) ∨ w.heap.size ≤ k) v bs) (hfresh : ∀ k, w.heap.size ≤ k → ok k) :
    RB (w'.setCell ⟨g, i * 2, none⟩ v) ok x (.slice (some ⟨g, 0, none⟩) nf fc) D S (fun k => if w.heap.size ≤ k then i else tg k) { R with files := R.files.set i (bs, (fileR R i).2) } ∧ Kp ok w (w'.setCell ⟨g, i * 2, none⟩ v) := by
  obtain ⟨g', _, _, _, e, hgo, hnf, _, _, _, q2', ⟨cur, hgh⟩, _⟩ := h.file hi
  injection e with e
  injection e with e _ _
  subst e
  have hk := hb
  obtain ⟨h1, h2, ⟨us, f1, f2, f3, f4⟩, h4, h5⟩ := h
  have hlt : ∀ {k : Nat} {o : Obj}, w.heap[k]? = some o → k < w.heap.size := fun e => (Array.getElem?_eq_some_iff.1 e).1
  have hother : ∀ {k : Nat} {cur' : Array Value} {T : TypeId}, T ≠ 87 → w.heap[k]? = some (.cells cur' T (0, 0)) → (w'.setCell ⟨g, i * 2, none⟩ v).heap[k]? = w.heap[k]? := fun {k} {cur'} {T} hT hh => (Below.heap_setCell w' _ _ k (type_ne hT hh hgh)).trans (hb.block k (hlt hh))
  have hg' : w'.heap[g]? = some (.cells cur 87 (0, 0)) := (hb.block g (hlt hgh)).trans hgh
  have hyi := List.getElem?_eq_getElem hi
  have hui := List.getElem?_eq_getElem (show i < us.length by omega)
  have hfr : R.files[i] = fileR R i := by unfold fileR; rw [List.getD_eq_getElem?_getD, hyi]; rfl
  obtain ⟨q1, q2⟩ := fcells_at us R.files i _ _ hui hyi
  rw [hfr] at q2
  refine ⟨⟨h1, (hother (by decide) h2).trans h2, ⟨us.set i v, by simp [f1], ?_, f3, fun j u y hu hy => ?_⟩, h4.keep fun k cur' _ hh => hother (by decide) hh, h5.keep fun k cur' _ hh => hother (by decide) hh⟩, (Kp.of_below hb).setCell hgo _⟩
  · have e0 := fcells_set us R.files i v (bs, (fileR R i).2) (by omega) hi
    have e1 : (fcells us R.files).set (i * 2 + 1) (.int .i64 ((fileR R i).2 : Int)) = fcells us R.files := by
      obtain ⟨hb, he⟩ := List.getElem?_eq_some_iff.1 q2
      rw [← he]; exact List.set_getElem_self hb
    rw [e0, List.set_comm _ _ (by omega), e1, List.length_set, hnf]
    refine ownsRow_set ?_ _ _
    have : w'.ownsRow 0 87 2 (.slice (some ⟨g, 0, none⟩) nf fc) R.files.length (fcells us R.files) := ownsRow_keep f2 fun k cur' _ hh => hb.block k (hlt hh)
    rw [hnf] at this
    exact this
  · by_cases hj : j = i
    · subst hj
      rw [List.getElem?_set_self (by omega)] at hu
      rw [List.getElem?_set_self hi] at hy
      injection hu with hu
      injection hy with hy
      subst hu hy
      refine (hv.keep fun k cur' hk hh => Below.heap_setCell w' _ _ k (fun e => ?_)).mono fun k hk _ => ?_
      · have e' : k = g := e
        rw [e', hg'] at hh
        simp only [Option.some.injEq, Obj.cells.injEq] at hh
        exact absurd hh.2.1 (by decide)
      · rcases hk with ⟨a, b, c⟩ | hk
        · refine ⟨a, ?_⟩
          show (if w.heap.size ≤ k then j else tg k) = j
          rw [if_neg (by omega)]; exact b
        · refine ⟨hfresh k hk, ?_⟩
          show (if w.heap.size ≤ k then j else tg k) = j
          rw [if_pos hk]
    · rw [List.getElem?_set_ne (fun e => hj e.symm)] at hu hy
      have hbb := f4 j u y hu hy
      exact ((hbb.mono (ok' := fun k => (ok k ∧ tg k = j) ∧ k < w.heap.size) fun k hk hl => ⟨hk, hl⟩).keep fun k cur' hk hh => hother (by decide) hh).mono fun k hk _ => ⟨hk.1.1, by
        show (if w.heap.size ≤ k then i else tg k) = j
        rw [if_neg (by omega)]; exact hk.1.2⟩
/-- A file is safe up to another place. -/
theorem RB.upto {w : World} {ok : Nat → Prop} {x g nf fc : Nat} {D S : Value} {tg : Nat → Nat} {R : Rb} (h : RB w ok x (.slice (some ⟨g, 0, none⟩) nf fc) D S tg R) {i : Nat} (hi : i < R.files.length) (n : Nat) :
    RB (w.setCell ⟨g, i * 2 + 1, none⟩ (.int .i64 (n : Int))) ok x (.slice (some ⟨g, 0, none⟩) nf fc) D S tg { R with files := R.files.set i ((fileR R i).1, n) } ∧ Kp ok w (w.setCell ⟨g, i * 2 + 1, none⟩ (.int .i64 (n : Int))) := by
  obtain ⟨g', _, _, _, e, hgo, hnf, _, _, _, q2', ⟨cur, hgh⟩, _⟩ := h.file hi
  injection e with e
  injection e with e _ _
  subst e
  obtain ⟨h1, h2, ⟨us, f1, f2, f3, f4⟩, h4, h5⟩ := h
  have hother : ∀ {k : Nat} {cur' : Array Value} {T : TypeId}, T ≠ 87 → w.heap[k]? = some (.cells cur' T (0, 0)) → (w.setCell ⟨g, i * 2 + 1, none⟩ (.int .i64 (n : Int))).heap[k]? = w.heap[k]? := fun {k} {cur'} {T} hT hh => Below.heap_setCell w _ _ k (type_ne hT hh hgh)
  have hyi := List.getElem?_eq_getElem hi
  have hui := List.getElem?_eq_getElem (show i < us.length by omega)
  have hfr : R.files[i] = fileR R i := by unfold fileR; rw [List.getD_eq_getElem?_getD, hyi]; rfl
  obtain ⟨q1, q2⟩ := fcells_at us R.files i _ _ hui hyi
  refine ⟨⟨h1, (hother (by decide) h2).trans h2, ⟨us, by simp [f1], ?_, f3, fun j u y hu hy => ?_⟩, h4.keep fun k cur' _ hh => hother (by decide) hh, h5.keep fun k cur' _ hh => hother (by decide) hh⟩, (Kp.refl _ _).setCell hgo _⟩
  · have e0 := fcells_set us R.files i us[i] ((fileR R i).1, n) (by omega) hi
    have e1 : (fcells us R.files).set (i * 2) us[i] = fcells us R.files := by
      obtain ⟨hb, he⟩ := List.getElem?_eq_some_iff.1 q1
      conv => lhs; rw [← he]
      exact List.set_getElem_self hb
    rw [show us.set i us[i] = us from List.set_getElem_self _, e1] at e0
    rw [e0, List.length_set, hnf]
    refine ownsRow_set ?_ _ _
    rw [hnf] at f2
    exact f2
  · by_cases hj : j = i
    · subst hj
      rw [List.getElem?_set_self hi] at hy
      injection hy with hy
      subst hy
      have := f4 j u _ hu hyi
      rw [hfr] at this
      exact this.keep fun k cur' hk hh => hother (by decide) hh
    · rw [List.getElem?_set_ne (fun e => hj e.symm)] at hy
      exact (f4 j u y hu hy).keep fun k cur' hk hh => hother (by decide) hh
/-- append([]Link{}, links...). -/
theorem own_links {w : World} {ok : Nat → Prop} {A : Option Addr} {n c : Nat} {l : Dir} (h : LinksAt w ok (.slice A n c) l) (hl : l.length ≤ 1000000) :
    ∃ A1 c1 w1, (Builtin.append_ #[46, 46] 46 #[.slice (some ⟨w.heap.size, 0, none⟩) 0 0, .slice A n c]).run Try.prog (w.alloc (.cells #[] 53)) = .ok (.slice A1 n c1) w1 ∧ LinksAt w1 (fun k => w.heap.size ≤ k) (.slice A1 n c1) l ∧ Below w.heap.size w w1 := by
  obtain ⟨i0, hi, hz0, hz1, hz2⟩ := info_parts infoL
  have hn : n = l.length := by
    obtain ⟨A', c', e⟩ := h.slice
    injection e
  subst hn
  have hb : Below w.heap.size w (w.alloc (.cells #[] 53)) := below_alloc (Below.refl _ _) _
  have hnew : (w.alloc (.cells #[] 53)).ownsRow 0 53 2 (.slice (some ⟨w.heap.size, 0, none⟩) 0 0) 0 [] := World.ownsRow_made w #[] 0 (Nat.zero_le _) (Nat.zero_le _) rfl
  have h' := h.below hb
  have hsrc : ((Value.slice A l.length c) = .slice none 0 0 ∧ l.length = 0) ∨ ∃ a c', (Value.slice A l.length c) = .slice (some a) l.length c' ∧ ∀ j u, (lcells l)[j]? = some u → (w.alloc (.cells #[] 53)).cell? (a.add j) = some u := by
    by_cases h0 : l.length = 0
    · cases A with
      | none =>
        rcases h.1.2 with ⟨e, _⟩ | ⟨g, cap, cur, e, _⟩
        · exact .inl ⟨e, h0⟩
        · cases e
      | some a => exact .inr ⟨a, c, rfl, fun j u hj => by
          have := (List.getElem?_eq_some_iff.1 hj).1
          rw [lcells_len, h0] at this; omega⟩
    · obtain ⟨g, cur, rfl, _, hc⟩ := ownsRow_at h'.1 (by omega)
      refine .inr ⟨_, c, rfl, fun j u hj => ?_⟩
      have ha : (⟨g, 0, none⟩ : Addr).add j = ⟨g, j, none⟩ := by unfold Addr.add; split <;> simp_all
      rw [ha]
      exact hc j u hj
  obtain ⟨v1, w1, hrun, hr, hg, ho⟩ := append_gen Try.underlying46 hi hz0 hz1 hz2 rfl (by decide) hnew hsrc (lcells_len l) (lcells_one l) (by unfold maxLen; omega) (by omega)
  rw [Nat.zero_add] at hr
  rw [List.nil_append] at hr
  obtain ⟨A1, c1, e, _⟩ := ownsRow_slice hr
  subst e
  have hsz : (w.alloc (.cells #[] 53)).heap.size = w.heap.size + 1 := by simp
  refine ⟨A1, c1, w1, hrun, ⟨hr, fun g hgg => ?_⟩, ⟨hg.os.trans hb.os, hg.tape.trans hb.tape, hg.output.trans hb.output, Nat.le_trans hb.size hg.size, fun k hk => (hg.block k (Nat.lt_of_lt_of_le hk hb.size) (fun e => ?_)).trans (hb.block k hk)⟩⟩
  · rcases ho with e | e
    · rw [e] at hgg
      injection hgg with hgg
      show w.heap.size ≤ g
      rw [← hgg]; exact Nat.le_refl _
    · rw [e] at hgg
      injection hgg with hgg
      show w.heap.size ≤ g
      rw [← hgg, hsz]; omega
  · have e' : some k = some w.heap.size := e
    injection e' with e'
    omega
/-- The safe links are other ones. -/
theorem RB.safe {w w' : World} {ok : Nat → Prop} {x : Nat} {F D S L : Value} {tg : Nat → Nat} {R : Rb} {l : Dir} (h : RB w ok x F D S tg R) (hb : Below w.heap.size w w') (hL : LinksAt w' (fun k => w.heap.size ≤ k) L l) (hfresh : ∀ k, w.heap.size ≤ k → ok k) :
    RB (w'.setCell ⟨x, 3, none⟩ L) ok x F D L tg { R with safe := l } ∧ Kp ok w (w'.setCell ⟨x, 3, none⟩ L) := by
  have hx := h.lt
  obtain ⟨h1, h2, h3, h4, h5⟩ := h
  have hx1 : w'.heap[x]? = some (.cells (rcellsD R F D S) 48 (0, 0)) := (hb.block x hx).trans h2
  have hother : ∀ {g : Nat} {cur : Array Value} {T : TypeId}, T ≠ 48 → w.heap[g]? = some (.cells cur T (0, 0)) → (w'.setCell ⟨x, 3, none⟩ L).heap[g]? = w.heap[g]? := fun {g} {cur} {T} hT hh => (Below.heap_setCell w' _ _ g (type_ne hT hh h2)).trans (hb.block g (Array.getElem?_eq_some_iff.1 hh).1)
  obtain ⟨us, f1, f2, f3, f4⟩ := h3
  refine ⟨⟨h1, heap_put hx1 _ (by rfl), ⟨us, f1, ownsRow_keep f2 fun g cur _ hh => hother (by decide) hh, f3, fun i u y hu hy => (f4 i u y hu hy).keep fun g cur _ hh => hother (by decide) hh⟩, h4.keep fun g cur _ hh => hother (by decide) hh, ?_⟩, (Kp.of_below hb).setCell h1 _⟩
  exact (hL.keep fun g cur hg hh => Below.heap_setCell w' _ _ g (fun e => by
    have e' : g = x := e
    omega)).mono fun g hg _ => hfresh g hg

end Go.Proofs.Ytgpinkgfgkolfaa.PD
