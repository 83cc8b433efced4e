/- Disk.Crash walked. -/
import Derived.Test.YtgpinkgfgkolfaaFlush
import Derived.Test.YtgpinkgfgkolfaaRead
import Derived.Lib.BufferWrite
namespace Go.Proofs.Ytgpinkgfgkolfaa.PD
open Go.RowKit Go.Proofs.YtgpinkgfgkolfaaW.PrintWords Go.Proofs.YtgpinkgfgkolfaaW.PrintLast Go.Proofs.YtgpinkgfgkolfaaW.PrintMore
set_option linter.unusedVariables false
set_option linter.unusedSimpArgs false
set_option maxHeartbeats 4000000
set_option maxRecDepth 100000

open Go.Proofs Go.Maps
/-- How many bytes are left. -/
def crashN (keep : Int) (x : List UInt8 × Nat) : Nat := if keep > 0 then x.2 + (min keep ((x.1.length : Int) - (x.2 : Int))).toNat else x.2
def crashF (keep : Int) (x : List UInt8 × Nat) : List UInt8 × Nat := (x.1.take (crashN keep x), crashN keep x)
theorem crashN_le (keep : Int) (x : List UInt8 × Nat) (h : x.2 ≤ x.1.length) : x.2 ≤ crashN keep x ∧ crashN keep x ≤ x.1.length := by
  unfold crashN
  split <;> omega
theorem crash_again (keep : Int) (x : List UInt8 × Nat) (h : x.2 ≤ x.1.length) : crashF keep (crashF keep x) = crashF keep x := by
  have h1 := crashN_le keep x h
  have h2 : crashN keep (crashF keep x) = crashN keep x := by
    have hl : (crashF keep x).1.length = crashN keep x := by show (x.1.take _).length = _; rw [List.length_take]; omega
    have hs : (crashF keep x).2 = crashN keep x := rfl
    conv => lhs; unfold crashN
    rw [hl, hs]
    split <;> omega
  show ((crashF keep x).1.take (crashN keep (crashF keep x)), crashN keep (crashF keep x)) = _
  rw [h2]
  show ((x.1.take _).take _, _) = (x.1.take _, _)
  rw [List.take_take, Nat.min_self]
open Classical in
noncomputable def crashFs (A : Ab) (keep : Int) (p : Nm → Bool) (f : Nat) : List UInt8 × Nat := if ∃ k, findL A.safe k = some f ∧ p k = true then crashF keep (A.fs f) else A.fs f
theorem crashFs_pos (A : Ab) (keep : Int) (p : Nm → Bool) (f : Nat) (h : ∃ k, findL A.safe k = some f ∧ p k = true) : crashFs A keep p f = crashF keep (A.fs f) := if_pos h
theorem crashFs_neg (A : Ab) (keep : Int) (p : Nm → Bool) (f : Nat) (h : ¬ ∃ k, findL A.safe k = some f ∧ p k = true) : crashFs A keep p f = A.fs f := if_neg h
noncomputable def crashP (A : Ab) (keep : Int) (p : Nm → Bool) : Ab := { A with fs := crashFs A keep p }
noncomputable def crashL (A : Ab) (keep : Int) : Ab := { crashP A keep (fun _ => true) with dir := A.safe, fl := false, torn := false }
theorem crashP_none (A : Ab) (keep : Int) (p : Nm → Bool) (h : ∀ k f, findL A.safe k = some f → p k = false) : crashP A keep p = A := by
  unfold crashP
  have : crashFs A keep p = A.fs := by
    funext f
    refine crashFs_neg A keep p f ?_
    rintro ⟨k, h1, h2⟩
    rw [h k f h1] at h2; cases h2
  rw [this]
theorem crashP_step (A : Ab) (keep : Int) (p q : Nm → Bool) (x : Nm) (f : Nat) (hf : findL A.safe x = some f) (hq : ∀ y, q y = (p y || y == x)) (hle : (A.fs f).2 ≤ (A.fs f).1.length) :
    { crashP A keep p with fs := upd (crashP A keep p).fs f (crashF keep ((crashP A keep p).fs f)) } = crashP A keep q := by
  have : upd (crashFs A keep p) f (crashF keep (crashFs A keep p f)) = crashFs A keep q := by
    funext g
    by_cases hg : g = f
    · rw [hg, upd_same, crashFs_pos A keep q f ⟨x, hf, by rw [hq, show (x == x) = true from beq_iff_eq.2 rfl, Bool.or_true]⟩]
      by_cases hp : ∃ k, findL A.safe k = some f ∧ p k = true
      · rw [crashFs_pos A keep p f hp]; exact crash_again keep _ hle
      · rw [crashFs_neg A keep p f hp]
    · rw [upd_other _ _ _ _ hg]
      by_cases hp : ∃ k, findL A.safe k = some g ∧ p k = true
      · rw [crashFs_pos A keep p g hp]
        obtain ⟨k, h1, h2⟩ := hp
        rw [crashFs_pos A keep q g ⟨k, h1, by rw [hq, h2]; rfl⟩]
      · rw [crashFs_neg A keep p g hp, crashFs_neg A keep q g]
        rintro ⟨k, h1, h2⟩
        rw [hq] at h2
        by_cases hk : k = x
        · rw [hk, hf] at h1; exact hg (Option.some.inj h1).symm
        · rw [show (k == x) = false from beq_eq_false_iff_ne.2 hk, Bool.or_false] at h2
          exact hp ⟨k, h1, h2⟩
  show ({ A with fs := upd (crashFs A keep p) f (crashF keep (crashFs A keep p f)) } : Ab) = _
  rw [this]; rfl
theorem crashFs_lens (A : Ab) (keep : Int) (p : Nm → Bool) (f : Nat) (hle : (A.fs f).2 ≤ (A.fs f).1.length) : (crashFs A keep p f).2 ≤ (crashFs A keep p f).1.length ∧ (crashFs A keep p f).1.length ≤ (A.fs f).1.length := by
  have h1 := crashN_le keep _ hle
  by_cases hp : ∃ k, findL A.safe k = some f ∧ p k = true
  · rw [crashFs_pos A keep p f hp]
    show crashN keep _ ≤ ((A.fs f).1.take _).length ∧ ((A.fs f).1.take _).length ≤ _
    rw [List.length_take]; omega
  · rw [crashFs_neg A keep p f hp]
    exact ⟨hle, Nat.le_refl _⟩
/-- The directory is another one. -/
theorem DiskB.redir {w w' : World} {ok : Nat → Prop} {d bd bs bd' : Nat} {tg : Nat → Nat} {A : Ab} (h : DiskB w ok d bd bs tg A) (hb : Below w.heap.size w w') (ho : ok bd') (hne : w.heap.size ≤ bd') (hm : MapL w' bd' A.safe) :
    DiskB (w'.setCell ⟨d, 1, none⟩ (.map (some bd'))) ok d bd' bs tg { A with dir := A.safe } := by
  have hdl := h.lt
  have hb1 := h.below hb
  have hn := hb1.ne
  obtain ⟨h1, h2, h3, h4, h5, h6, h7, h8⟩ := hb1
  have hin : ∀ f, In { A with dir := A.safe } f → In A f := fun f hf => by
    rcases hf with h | h
    · exact .inr h
    · exact .inr h
  have hfd := fun f hf => (h.below hb).fne (f := f) hf
  have hml := h.2.2.2.2.2.2.1.lt
  refine ⟨h1, ho, h3, by omega, heap_put h5 (i := 1) _ rfl, hm.keep (Below.heap_setCell _ _ _ _ (by show bd' ≠ d; omega)), h7.keep (Below.heap_setCell _ _ _ _ hn.2), fun f hf => ?_⟩
  refine (h8 f (hin f hf)).keep (Below.heap_setCell _ _ _ _ (hfd f (hin f hf))) (fun q cur _ _ hq => Below.heap_setCell _ _ _ _ (fun e => ?_))
  have e' : q = d := e
  rw [e', h5] at hq
  simp only [Option.some.injEq, Obj.cells.injEq] at hq
  exact absurd hq.2.1 (by decide)
theorem RowAt.cut {w : World} {ok : Nat → Prop} {A : Option Addr} {c : Nat} {bs : List UInt8} (h : RowAt w ok (.slice A bs.length c) bs) (n : Nat) (hn : n ≤ bs.length) : RowAt w ok (.slice A n n) (bs.take n) := by
  have hl : (bs.take n).length = n := by rw [List.length_take]; omega
  rcases h with ⟨h1, h2⟩ | ⟨g, cap, cur, h1, h2, h3, h4, h5, h6, h7, h8⟩
  · subst h2
    injection h1 with e1 e2 e3
    simp only [List.length_nil] at hn
    obtain rfl : n = 0 := by omega
    left
    exact ⟨by rw [e1], by simp⟩
  · injection h1 with e1 e2 e3
    right
    refine ⟨g, n, cur, by rw [e1, hl], h2, h3, by rw [hl]; exact Nat.le_refl _, by omega, .inr hl.symm, by rw [hl]; omega, ?_⟩
    rw [hl]
    have h9 : cur.toList.take n = (cur.toList.take bs.length).take n := by rw [List.take_take]; congr 1; omega
    rw [h9, h8]
    unfold bcells
    rw [List.map_take]
/-- A block that is neither cells nor a map is turned. -/
theorem DiskB.but {w w' : World} {ok : Nat → Prop} {d bd bs : Nat} {tg : Nat → Nat} {A : Ab} (h : DiskB w ok d bd bs tg A) {r : Nat} (hr1 : ∀ cs t fz, w.heap[r]? ≠ some (.cells cs t fz)) (hr2 : ∀ es ck, w.heap[r]? ≠ some (.map es ck))
    (hk : ∀ k, k < w.heap.size → k ≠ r → w'.heap[k]? = w.heap[k]?) : DiskB w' ok d bd bs tg A := by
  have hl := h.lt
  obtain ⟨h1, h2, h3, h4, h5, h6, h7, h8⟩ := h
  have nm : ∀ {b : Nat} {l : Dir}, MapL w b l → w'.heap[b]? = w.heap[b]? := fun {b l} hm => by
    obtain ⟨es, ck, he⟩ := hm.isMap
    exact hk b hm.lt (fun e => hr2 es ck (e ▸ he))
  have nc : ∀ {b : Nat} {cs : Array Value} {t : TypeId} {fz : Nat × Nat}, w.heap[b]? = some (.cells cs t fz) → w'.heap[b]? = w.heap[b]? := fun {b cs t fz} hc => hk b (Array.getElem?_eq_some_iff.1 hc).1 (fun e => hr1 cs t fz (e ▸ hc))
  refine ⟨h1, h2, h3, h4, (nc h5).trans h5, h6.keep (nm h6), h7.keep (nm h7), fun f hf => ?_⟩
  have h9 := h8 f hf
  obtain ⟨g1, v, g2, g3⟩ := h9
  exact ⟨g1, v, (nc g2).trans g2, g3.keep (fun g cur _ hg => nc hg)⟩
attribute [local go_sem] min2_int min_two
set_option maxHeartbeats 8000000 in
theorem crash_calls (ok : Nat → Prop) (d : Nat) (A : Ab) (keep : Int) (w : World) (h : DiskAt w ok d A) (hfresh : ∀ k, w.heap.size ≤ k → ok k) (hle : ∀ f, In A f → (A.fs f).2 ≤ (A.fs f).1.length ∧ (A.fs f).1.length ≤ 140737488355328) :
    Calls Try.prog 16 #[fptr d, .int .i64 keep] w fun e w' => e = .returned (.tuple #[]) ∧ DiskAt w' ok d (crashL A keep) ∧ Kp ok w w' := by
  obtain ⟨bd, bs, tg, h⟩ := h
  have c2 : w.cell? ⟨d, 2, none⟩ = some (.map (some bs)) := h.cell 2
  have HD := Aside0.mk h
  have hown := h.2.2.2.2.2.2.1
  have HF := Aside0.mk hfresh
  have HLE := Aside0.mk hle
  clear h hfresh hle
  unfold MapL at hown
  go_enter Try.func16, Try.ntmps16
  go_wp2_with (first
    | (at_range; refine wpList_range_own _ rfl _ 57 rfl 9 63 str_keyed Try.underlying57 _ bs _ _ rfl hown ?_; intro w0 hrg0 hg0 hs0)
    | go_in)
  go_frame
  have HB0 := below_grown (Below.refl w.heap.size w) hg0 (fun k e => by cases e) (Nat.le_refl _)
  have HD0 := Aside0.mk (HD.out.below HB0)
  have HK0 := Aside0.mk (Kp.of_below (ok := ok) HB0)
  clear c2 hg0 hs0 HB0 hown
  go_loopw [5, 6] (fun _ _ wr => ∃ (left : Lit → Bool) (cnt : Nat), wr.ranges Try.prog 9 ptrRd bs w.heap.size A.safe.length (dirD A.safe) left cnt ∧ Aside0 (DiskB wr ok d bd bs tg (crashP A keep (fun k => !left (.string k)))) ∧ Aside0 (Kp ok w wr) ∧ Aside0 (w.heap.size < wr.heap.size))
    (fun _ _ wr => wr.rangeLeft bs w.heap.size)
  case atStart => exact ⟨_, _, hrg0, ⟨by rw [crashP_none A keep _ (fun k f hf => by simp [has_dir (findL_mem hf)])]; exact HD0.out⟩, HK0, ⟨hrg0.lt⟩⟩
  case round =>
    clear hrg0 HD0 HK0
    obtain ⟨left, cnt, hrg, HD1, HK1, HS1⟩ := hrel
    go_wp2_with (first
      | (at_next; refine wpList_next_ranges _ rfl _ rfl 9 str_keyed ptrRd encStr ptrV str_inv ptr_inv bs w.heap.size _ _ _ _ rfl hrg ?_ ?_)
      | go_in)
    · intro hc0 hl0
      have hD := HD1.out
      rw [show (fun k => !left (Lit.string k)) = (fun _ => true) by funext k; rw [hl0]; rfl] at hD
      have c2 : wr.cell? ⟨d, 2, none⟩ = some (.map (some bs)) := hD.cell 2
      have HC := Aside0.mk (mclone_calls bs A.safe wr hD.2.2.2.2.2.2.1)
      have HDD := Aside0.mk hD
      clear hD hrg hl0 hc0
      go_wp2_with fail
      refine HC.out.mono ?_
      rintro _ w2 ⟨rfl, hm2, hb2⟩
      have hD2 := HDD.out.below hb2
      have c1 : w2.cell? ⟨d, 1, none⟩ = some (.map (some bd)) := hD2.cell 1
      have f1 := hD2.free 1
      have hD3 := HDD.out.redir hb2 (HF.out wr.heap.size (by have := HS1.out; omega)) (Nat.le_refl _) hm2
      have c3 := hD3.cell 3
      have c5 := hD3.cell 5
      have f3 := hD3.free 3
      have h1 := heap_put hD3.2.2.2.2.1 (i := 3) (.bool false) (cs' := cellsD { crashP A keep (fun _ => true) with dir := A.safe, fl := false } wr.heap.size bs) rfl
      have h2 := heap_put h1 (i := 5) (.bool false) (cs' := cellsD (crashL A keep) wr.heap.size bs) rfl
      have HD4 := Aside0.mk (hD3.turn (A' := crashL A keep) rfl rfl rfl h2 (fun k _ hk => (Below.heap_setCell _ _ _ _ hk).trans (Below.heap_setCell _ _ _ _ hk)))
      have HK4 := Aside0.mk (Kp.setCell (ok := ok) (Kp.setCell (Kp.setCell (HK1.out.trans (Kp.of_below hb2)) (p := ⟨d, 1, none⟩) HDD.out.1 (.map (some wr.heap.size))) (p := ⟨d, 3, none⟩) HDD.out.1 (.bool false)) (p := ⟨d, 5, none⟩) HDD.out.1 (.bool false))
      have d5 := Lib.frozen_of_heap h1 5
      have e5 : ((w2.setCell ⟨d, 1, none⟩ (.map (some wr.heap.size))).setCell ⟨d, 3, none⟩ (.bool false)).cell? ⟨d, 5, none⟩ = some (.bool A.torn) := by simp [World.cell?, h1, cellsD, crashP]
      have c3' : (w2.setCell ⟨d, 1, none⟩ (.map (some wr.heap.size))).cell? ⟨d, 3, none⟩ = some (.bool A.fl) := c3
      clear hD2 hD3 hm2 hb2 h1 h2 c2 c3 c5 HC
      go_wp2_with fail
      go_end0
      exact ⟨rfl, ⟨wr.heap.size, bs, tg, HD4.out⟩, HK4.out⟩
    · intro x c kl yd yp w1 cnt1 hkey hlx hv hat hrg1 hlt hg1 hs1 hen
      obtain rfl := str_key hkey
      obtain ⟨f, rfl, hfd⟩ := range_key hv hat
      have hits : (∀ cs t fz, wr.heap[w.heap.size]? ≠ some (.cells cs t fz)) ∧ ∀ es ck, wr.heap[w.heap.size]? ≠ some (.map es ck) := by
        obtain ⟨_, _, _, _, _, _, _, _, _, hit, _⟩ := hrg
        constructor
        · intro cs t fz e; rw [hit] at e; cases e
        · intro es ck e; rw [hit] at e; cases e
      have hD1 := HD1.out.but hits.1 hits.2 (w' := w1) (fun k hk hne => hg1.block k hk (fun e => hne (Option.some.inj e)))
      have hfi : In (crashP A keep (fun k => !left (Lit.string k))) f := .inr ⟨x, findL_mem hfd⟩
      have hfA : In A f := .inr ⟨x, findL_mem hfd⟩
      have hlA := HLE.out f hfA
      have hys := crashFs_lens A keep (fun k => !left (Lit.string k)) f hlA.1
      have hstep := crashP_step A keep (fun k => !left (Lit.string k)) (fun k => !(left (.string k) && !(Lit.string k).sameKey (.string x))) x f hfd (fun y => by rw [sameKey_str]; cases left (.string y) <;> cases y == x <;> rfl) hlA.1
      have HQ := Aside0.mk (And.intro hlt (And.intro hs1 (And.intro hfd hrg)))
      obtain ⟨y, hy⟩ : ∃ y, y = (crashP A keep (fun k => !left (Lit.string k))).fs f := ⟨_, rfl⟩
      have hys' : y.2 ≤ y.1.length ∧ y.1.length ≤ (A.fs f).1.length := by rw [hy]; exact hys
      rw [← hy] at hstep
      obtain ⟨hfo, v, hfh, hrow⟩ := hD1.2.2.2.2.2.2.2 f hfi
      rw [← hy] at hfh hrow
      have hN := crashN_le keep y hys'.1
      obtain ⟨FA, fc, rfl, hfc⟩ := hrow.slice
      have hcut := hrow.cut (crashN keep y) hN.2
      have c0 : w1.cell? ⟨f, 0, none⟩ = some (.slice FA y.1.length fc) := by simp [World.cell?, hfh]
      have c1 : w1.cell? ⟨f, 1, none⟩ = some (.int .i64 (y.2 : Int)) := by simp [World.cell?, hfh]
      have f0 := Lib.frozen_of_heap hfh 0
      obtain ⟨N, hNN⟩ : ∃ N, N = crashN keep y := ⟨_, rfl⟩
      rw [← hNN] at hN hcut
      have h1 := heap_put hfh (i := 0) (.slice FA N N) (cs' := #[.slice FA N N, .int .i64 (y.2 : Int)]) rfl
      have h2 := heap_put h1 (i := 1) (.int .i64 (N : Int)) (cs' := #[.slice FA N N, .int .i64 (N : Int)]) rfl
      have f1 := Lib.frozen_of_heap h1 1
      have e1 : (w1.setCell ⟨f, 0, none⟩ (.slice FA N N)).cell? ⟨f, 1, none⟩ = some (.int .i64 (y.2 : Int)) := by simp [World.cell?, h1]
      have hDF := hD1.file hfi (y.1.take N, N) (w' := (w1.setCell ⟨f, 0, none⟩ (.slice FA N N)).setCell ⟨f, 1, none⟩ (.int .i64 (N : Int))) (tg' := tg) h2
        (hcut.keep (fun g cur _ hh => (Below.heap_setCell _ _ _ _ (fun e => by
          have e' : g = f := e
          rw [e', hfh] at hh
          simp only [Option.some.injEq, Obj.cells.injEq] at hh
          exact absurd hh.2.1 (by decide))).trans (Below.heap_setCell _ _ _ _ (fun e => by
          have e' : g = f := e
          rw [e', hfh] at hh
          simp only [Option.some.injEq, Obj.cells.injEq] at hh
          exact absurd hh.2.1 (by decide))))) (fun _ _ => rfl)
        (fun k hk hkf _ => (Below.heap_setCell _ _ _ _ hkf).trans (Below.heap_setCell _ _ _ _ hkf))
      have hcf : crashF keep y = (y.1.take N, N) := by rw [hNN]; rfl
      rw [hcf] at hstep
      rw [hstep] at hDF
      have HDF := Aside0.mk hDF
      have HKF := Aside0.mk (Kp.setCell (ok := ok) (Kp.setCell (HK1.out.trans (Kp.of_grown hg1 (fun k e => by cases e; exact HF.out _ (Nat.le_refl _)))) (p := ⟨f, 0, none⟩) hfo (.slice FA N N)) (p := ⟨f, 1, none⟩) hfo (.int .i64 (N : Int)))
      obtain ⟨es, ck, hes⟩ := hD1.2.2.2.2.2.2.1.isMap
      have hfne : some bs ≠ some f := fun e => by
        have e' := Option.some.inj e
        rw [← e', hes] at hfh; cases hfh
      have hfr : some w.heap.size ≠ some f := fun e => by
        have e' := Option.some.inj e
        obtain ⟨_, _, _, _, _, _, _, _, _, hit, _⟩ := hrg1
        rw [← e', hit] at hfh; cases hfh
      have HRG := Aside0.mk ((hrg1.kept (Lib.grownBy_setCell w1 f 0 (.slice FA N N)) hfne hfr).kept (Lib.grownBy_setCell _ f 1 (.int .i64 (N : Int))) hfne hfr)
      have HSF := Aside0.mk (show w.heap.size < ((w1.setCell ⟨f, 0, none⟩ (.slice FA N N)).setCell ⟨f, 1, none⟩ (.int .i64 (N : Int))).heap.size from HRG.out.lt)
      have hpv : ptrV (some f) = .pointer (some ⟨f, 0, none⟩) := rfl
      rw [hpv]
      rw [hpv] at hen
      unfold crashN at hNN
      obtain ⟨m, hm⟩ : ∃ m, m = y.1.length := ⟨_, rfl⟩
      obtain ⟨sl, hsl⟩ : ∃ sl, sl = y.2 := ⟨_, rfl⟩
      rw [← hm] at hNN hys' hN hfc c0
      rw [← hsl] at hNN hys' hN c1 e1
      have hmb : m ≤ 140737488355328 := by omega
      clear hm hsl hD1 hfi hfA hlA hys hstep hy hfh hrow hcut h1 h2 hDF hcf hes hfne hfr hits hfo hkey hlx hv hat hrg1 hlt hg1 hs1 hfd hrg hpv
      have q1 : (N ≤ fc) = True := eq_true (by omega)
      have q2 : ((N : Int) ≤ (fc : Int)) = True := eq_true (by omega)
      by_cases hk0 : keep > 0
      · rw [if_pos hk0] at hNN
        have k1 : decide (0 < keep) = true := decide_eq_true hk0
        have w1' : wrap64 ((m : Int) - (sl : Int)) = (m : Int) - (sl : Int) := by unfold wrap64; omega
        by_cases hk2 : (m : Int) - (sl : Int) < keep
        · have t1 : ((m : Int) - (sl : Int) < keep) = True := eq_true hk2
          have t2 : decide ((m : Int) - (sl : Int) < keep) = true := decide_eq_true hk2
          have v1 : wrap64 ((sl : Int) + ((m : Int) - (sl : Int))) = (N : Int) := by unfold wrap64; omega
          have v2 : (sl : Int) + ((m : Int) - (sl : Int)) = (N : Int) := by omega
          have v3 : wrap64 (N : Int) = (N : Int) := by unfold wrap64; omega
          clear hNN hk0 hk2 hN hys' hmb hfc

          go_wp2_with fail
          go_roundw
          case rel => exact ⟨_, cnt1, HRG.out, HDF, HKF, HSF⟩
          case measure => rw [HRG.out.left_eq, HQ.out.2.2.2.left_eq]; exact HQ.out.1

        · have t1 : ((m : Int) - (sl : Int) < keep) = False := eq_false hk2
          have t2 : decide ((m : Int) - (sl : Int) < keep) = false := decide_eq_false hk2
          have v1 : wrap64 ((sl : Int) + keep) = (N : Int) := by unfold wrap64; omega
          have v2 : (sl : Int) + keep = (N : Int) := by omega
          have v3 : wrap64 (N : Int) = (N : Int) := by unfold wrap64; omega
          clear hNN hk0 hk2 hN hys' hmb hfc

          go_wp2_with fail
          go_roundw
          case rel => exact ⟨_, cnt1, HRG.out, HDF, HKF, HSF⟩
          case measure => rw [HRG.out.left_eq, HQ.out.2.2.2.left_eq]; exact HQ.out.1

      · rw [if_neg hk0] at hNN
        have k1 : decide (0 < keep) = false := decide_eq_false hk0
        subst hNN
        clear hk0 hN hys' hmb hfc

        go_wp2_with fail
        go_roundw
        case rel => exact ⟨_, cnt1, HRG.out, HDF, HKF, HSF⟩
        case measure => rw [HRG.out.left_eq, HQ.out.2.2.2.left_eq]; exact HQ.out.1

end Go.Proofs.Ytgpinkgfgkolfaa.PD
