/- slices.Clone of bytes, Disk.Read walked. -/
import Derived.Test.YtgpinkgfgkolfaaWrite
import Derived.Lib.SliceRun
namespace Go.Proofs.Ytgpinkgfgkolfaa.PD
open Go.RowKit Go.Proofs.YtgpinkgfgkolfaaW.PrintWords Go.Proofs.YtgpinkgfgkolfaaW.PrintLast Go.Proofs.YtgpinkgfgkolfaaW.PrintMore
set_option linter.unusedVariables false
set_option linter.unusedSimpArgs false
set_option maxHeartbeats 4000000
set_option maxRecDepth 100000

open Go.Proofs
theorem RowAt.src {w : World} {ok : Nat → Prop} {v : Value} {bs : List UInt8} (h : RowAt w ok v bs) : SrcAt w v bs := by
  rcases h with h | ⟨g, cap, cur, h1, _, hh, hc, _, _, _, htake⟩
  · exact .inl h
  · refine .inr ⟨_, cap, h1, hc, fun j u hu => ?_⟩
    have ha : (⟨g, 0, none⟩ : Addr).add j = ⟨g, j, none⟩ := by unfold Addr.add; split <;> simp_all
    have hjl : j < bs.length := by have := (List.getElem?_eq_some_iff.1 hu).1; rwa [bcells_len] at this
    rw [ha]
    rw [← htake] at hu
    rw [List.getElem?_take, if_pos hjl, Array.getElem?_toList] at hu
    simp [World.cell?, hh, hu]
theorem SrcAt.below {w w' : World} {x : Value} {xs : List UInt8} (h : SrcAt w x xs) (hb : Below w.heap.size w w') : SrcAt w' x xs := by
  rcases h with h | ⟨a, c, h1, h2, h3⟩
  · exact .inl h
  · refine .inr ⟨a, c, h1, h2, fun j u hu => ?_⟩
    have h4 := h3 j u hu
    have lt : ∀ {p : Addr} {v : Value}, w.cell? p = some v → p.block < w.heap.size := fun {p v} hc => by
      obtain ⟨b, o, s⟩ := p
      simp only [World.cell?] at hc
      cases hh : w.heap[b]? with
      | none => rw [hh] at hc; cases hc
      | some x => exact (Array.getElem?_eq_some_iff.1 hh).1
    have hlt := lt h4
    rw [hb.cell hlt]; exact h4
set_option maxHeartbeats 4000000 in
theorem bclone_calls (x : Value) (xs : List UInt8) (w : World) (h : SrcAt w x xs) (hl : xs.length ≤ 140737488355328) :
    Calls Try.prog 32 #[x] w fun e w' => ∃ v, e = .returned v ∧ RowAt w' (fun k => w.heap.size ≤ k) v xs ∧ Below w.heap.size w w' := by
  have hq := fun (W : World) (A : Option Addr) (n c : Nat) => Lib.run_eql_slice_nil (P := Try.prog) W 29 5 A n c 0 0 Try.underlying29
  rcases h with ⟨rfl, rfl⟩ | ⟨a, c, rfl, hc, hcell⟩
  · go_enter Try.func32, Try.ntmps32
    go_wp2_with fail
    go_ret
    exact ⟨_, rfl, .inl ⟨rfl, rfl⟩, Below.refl _ _⟩
  · obtain ⟨w1, hw1⟩ : ∃ W, W = w.alloc (.cells #[] 5) := ⟨_, rfl⟩
    have hb1 : Below w.heap.size w w1 := by rw [hw1]; exact below_alloc (Below.refl _ _) _
    have hr1 : RowAt w1 (fun k => w.heap.size ≤ k) (.slice (some ⟨w.heap.size, 0, none⟩) 0 0) [] := .inr ⟨w.heap.size, 0, #[], rfl, Nat.le_refl _, by rw [hw1]; exact heap_alloc_new w _, Nat.le_refl _, Nat.zero_le _, .inl rfl, Nat.le_refl _, rfl⟩
    obtain ⟨v1, w2, hrun, hrow, hg⟩ := append_row hr1 (SrcAt.below (.inr ⟨a, c, rfl, hc, hcell⟩) hb1) (by simpa using hl)
    have HB := Aside0.mk (below_grown hb1 hg (fun k e => by cases e; exact Nat.le_refl _) hb1.size)
    have HROW := Aside0.mk (hrow.mono (ok' := fun k => w.heap.size ≤ k) (fun g cur hg _ => by rcases hg with h | h; exact h; have := hb1.size; omega))
    have HRUN := Aside0.mk hrun
    have HW := Aside0.mk hw1
    clear hb1 hr1 hrow hg hrun hcell hc hl
    rw [hw1] at HRUN
    clear hw1
    go_enter Try.func32, Try.ntmps32
    go_wp2_with (at_builtin; refine wpList_append_run rfl _ _ 29 rfl _ _ _ _ rfl rfl HRUN.out ?_)
    go_ret
    exact ⟨v1, rfl, by rw [List.nil_append] at HROW; exact HROW.out, HB.out⟩
def readL (A : Ab) (nm : Nm) : Option (List UInt8) := (findL A.dir nm).map fun f => (A.fs f).1
set_option maxHeartbeats 4000000 in
theorem read_calls (ok : Nat → Prop) (d : Nat) (A : Ab) (nm : ByteArray) (w : World) (h : DiskAt w ok d A) (hnm : nm.size ≤ maxLen) (hlen : ∀ f, findL A.dir nm.data.toList = some f → (A.fs f).1.length ≤ 140737488355328) :
    Calls Try.prog 17 #[fptr d, .string nm] w fun e w' => ∃ v, e = .returned (.tuple #[v, .int .i64 (if (readL A nm.data.toList).isSome then 0 else 172)]) ∧ RowAt w' (fun k => w.heap.size ≤ k) v ((readL A nm.data.toList).getD []) ∧ Below w.heap.size w w' := by
  obtain ⟨bd, bs, tg, h⟩ := h
  have c1 : w.cell? ⟨d, 1, none⟩ = some (.map (some bd)) := h.cell 1
  have hlk := h.2.2.2.2.2.1.lookup nm hnm
  unfold readL
  cases hf : findL A.dir nm.data.toList with
  | none =>
    rw [hf, show ptrV none = .pointer none from rfl] at hlk
    clear h hnm hlen hf
    go_enter Try.func17, Try.ntmps17
    go_wp2_with fail
    go_ret2
    exact ⟨_, rfl, .inl ⟨rfl, rfl⟩, Below.refl _ _⟩
  | some f =>
    rw [hf, show ptrV (some f) = .pointer (some ⟨f, 0, none⟩) from rfl] at hlk
    obtain ⟨_, v, hfh, hrow⟩ := h.2.2.2.2.2.2.2 f (.inl ⟨_, findL_mem hf⟩)
    have HC := Aside0.mk (bclone_calls v (A.fs f).1 w hrow.src (hlen f hf))
    have cf : w.cell? ⟨f, 0, none⟩ = some v := by simp [World.cell?, hfh]
    clear h hnm hlen hf hfh hrow
    go_enter Try.func17, Try.ntmps17
    go_wp2_with fail
    refine HC.out.mono ?_
    rintro _ w1 ⟨v1, rfl, hr, hb⟩
    have HR := Aside0.mk hr
    have HB := Aside0.mk hb
    clear hr hb HC
    go_wp2_with fail
    go_ret2
    exact ⟨v1, rfl, HR.out, HB.out⟩

end Go.Proofs.Ytgpinkgfgkolfaa.PD
