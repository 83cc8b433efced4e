/- A disk's files turned, one by one. -/
import Derived.Test.YtgpinkgfgkolfaaApp
namespace Go.Proofs.Ytgpinkgfgkolfaa.PD
open Go.RowKit Go.Proofs.YtgpinkgfgkolfaaW.PrintWords Go.Proofs.YtgpinkgfgkolfaaW.PrintLast Go.Proofs.YtgpinkgfgkolfaaW.PrintMore
set_option linter.unusedVariables false
set_option linter.unusedSimpArgs false
set_option maxHeartbeats 4000000
set_option maxRecDepth 100000

open Go.Proofs
def upd (g : Nat → List UInt8 × Nat) (f : Nat) (x : List UInt8 × Nat) : Nat → List UInt8 × Nat := fun k => if k = f then x else g k
theorem upd_same (g : Nat → List UInt8 × Nat) (f : Nat) (x : List UInt8 × Nat) : upd g f x f = x := if_pos rfl
theorem upd_other (g : Nat → List UInt8 × Nat) (f k : Nat) (x : List UInt8 × Nat) (h : k ≠ f) : upd g f x k = g k := if_neg h
/-- Bytes behind a file's. -/
def layL (A : Ab) (nm : Nm) (b : List UInt8) (fN : Nat) : Ab :=
  match findL A.dir nm with
  | some f => { A with fs := upd A.fs f ((A.fs f).1 ++ b, (A.fs f).2) }
  | none => { A with dir := putL A.dir nm fN, fs := upd A.fs fN (b, 0) }
theorem ins_mem (x y : Nm × Nat) : ∀ l : Dir, y ∈ insL x l ↔ y = x ∨ y ∈ l
  | [] => by simp [insL]
  | z :: r => by
    unfold insL
    split
    · simp
    · rw [List.mem_cons, ins_mem x y r, List.mem_cons]
      constructor
      · rintro (h | h | h)
        · exact .inr (.inl h)
        · exact .inl h
        · exact .inr (.inr h)
      · rintro (h | h | h)
        · exact .inr (.inl h)
        · exact .inl h
        · exact .inr (.inr h)
theorem put_mem {l : Dir} {nm : Nm} {f : Nat} {y : Nm × Nat} (h : y ∈ putL l nm f) : y = (nm, f) ∨ y ∈ l := by
  unfold putL at h
  rcases (ins_mem _ _ _).1 h with h | h
  · exact .inl h
  · exact .inr ((List.mem_filter.1 h).1)
theorem del_mem {l : Dir} {nm : Nm} {y : Nm × Nat} (h : y ∈ delL l nm) : y ∈ l := (List.mem_filter.1 h).1
/-- One file is turned. -/
theorem DiskB.file {w w' : World} {ok : Nat → Prop} {d bd bs : Nat} {tg tg' : Nat → Nat} {A : Ab} (h : DiskB w ok d bd bs tg A) {f : Nat} (hf : In A f) (x : List UInt8 × Nat) {v : Value}
    (hx : w'.heap[f]? = some (.cells #[v, .int .i64 (x.2 : Int)] 65 (0, 0))) (hrow : RowAt w' (fun k => ok k ∧ tg' k = f) v x.1) (htg : ∀ k, k < w.heap.size → tg' k = tg k)
    (hk : ∀ k, k < w.heap.size → k ≠ f → (∀ cur, w.heap[k]? = some (.cells cur 5 (0, 0)) → tg k ≠ f) → w'.heap[k]? = w.heap[k]?) : DiskB w' ok d bd bs tg' { A with fs := upd A.fs f x } := by
  have hl := h.lt
  have hfd := h.fne hf
  obtain ⟨h1, h2, h3, h4, h5, h6, h7, h8⟩ := h
  have hfo := (h8 f hf).1
  obtain ⟨_, vf, hvf, _⟩ := h8 f hf
  have nmap : ∀ {b : Nat} {l : Dir}, MapL w b l → w'.heap[b]? = w.heap[b]? := fun {b l} hm => by
    obtain ⟨es, ck, he⟩ := hm.isMap
    refine hk b hm.lt (fun e => ?_) (fun cur hc => ?_)
    · rw [e, hvf] at he; cases he
    · rw [he] at hc; cases hc
  refine ⟨h1, h2, h3, h4, ?_, h6.keep (nmap h6), h7.keep (nmap h7), fun g hg => ?_⟩
  · refine (hk d hl (fun e => hfd e.symm) (fun cur hc => ?_)).trans h5
    rw [h5] at hc
    simp only [Option.some.injEq, Obj.cells.injEq] at hc
    exact absurd hc.2.1 (by decide)
  · by_cases hgf : g = f
    · subst hgf
      show FileAt w' ok tg' g (upd A.fs g x g)
      rw [upd_same]
      exact ⟨hfo, v, hx, hrow⟩
    · show FileAt w' ok tg' g (upd A.fs f x g)
      rw [upd_other _ _ _ _ hgf]
      have h9 := h8 g hg
      have hglt := h9.lt
      obtain ⟨g1, u, g2, g3⟩ := h9
      refine ⟨g1, u, (hk g hglt hgf (fun cur hc => ?_)).trans g2, ?_⟩
      · rw [g2] at hc
        simp only [Option.some.injEq, Obj.cells.injEq] at hc
        exact absurd hc.2.1 (by decide)
      · have g4 := g3.mono (ok' := fun k => ok k ∧ tg' k = g ∧ tg k = g) (fun q cur hq hh => ⟨hq.1, by rw [htg q (Array.getElem?_eq_some_iff.1 hh).1]; exact hq.2, hq.2⟩)
        have g5 := g4.keep (w' := w') (fun q cur hq hh => hk q (Array.getElem?_eq_some_iff.1 hh).1 (fun e => by
          rw [e, hvf] at hh
          simp only [Option.some.injEq, Obj.cells.injEq] at hh
          exact absurd hh.2.1 (by decide)) (fun _ _ e => hgf (hq.2.2.symm.trans e)))
        exact g5.mono (fun q cur hq _ => ⟨hq.1, hq.2.1⟩)
/-- A file more, that no name has yet. -/
theorem DiskB.extra {w : World} {ok : Nat → Prop} {d bd bs : Nat} {tg : Nat → Nat} {A : Ab} (h : DiskB w ok d bd bs tg A) (hfresh : ∀ k, w.heap.size ≤ k → ok k) :
    DiskB (w.alloc (.cells #[.slice none 0 0, .int .i64 0] 65)) ok d bd bs tg { A with fs := upd A.fs w.heap.size ([], 0) } ∧ FileAt (w.alloc (.cells #[.slice none 0 0, .int .i64 0] 65)) ok tg w.heap.size ([], 0) := by
  have hb := h.below (w' := w.alloc (.cells #[.slice none 0 0, .int .i64 0] 65)) (below_alloc (Below.refl _ _) _)
  refine ⟨⟨hb.1, hb.2.1, hb.2.2.1, hb.2.2.2.1, hb.2.2.2.2.1, hb.2.2.2.2.2.1, hb.2.2.2.2.2.2.1, fun g hg => ?_⟩, hfresh _ (Nat.le_refl _), _, heap_alloc_new w _, .inl ⟨rfl, rfl⟩⟩
  show FileAt _ ok tg g (upd A.fs w.heap.size ([], 0) g)
  have hlt := (h.2.2.2.2.2.2.2 g hg).lt
  rw [upd_other _ _ _ _ (by omega)]
  exact hb.2.2.2.2.2.2.2 g hg
/-- A name for a file. -/
theorem DiskB.link {w w' : World} {ok : Nat → Prop} {d bd bs : Nat} {tg : Nat → Nat} {A : Ab} (h : DiskB w ok d bd bs tg A) {l : Dir} (hl : ∀ n f, (n, f) ∈ l → In A f ∨ FileAt w ok tg f (A.fs f)) (hm : MapL w' bd l) (hk : ∀ k, k < w.heap.size → k ≠ bd → w'.heap[k]? = w.heap[k]?) :
    DiskB w' ok d bd bs tg { A with dir := l } := by
  have hdl := h.lt
  have hne := h.ne
  obtain ⟨h1, h2, h3, h4, h5, h6, h7, h8⟩ := h
  obtain ⟨es, ck, he⟩ := h6.isMap
  refine ⟨h1, h2, h3, h4, (hk d hdl (fun e => hne.1 e.symm)).trans h5, hm, h7.keep (hk bs h7.lt (fun e => h4 e.symm)), fun g hg => ?_⟩
  have h9 : FileAt w ok tg g (A.fs g) := by
    rcases hg with ⟨n, hn⟩ | ⟨n, hn⟩
    · rcases hl n g hn with h | h
      · exact h8 g h
      · exact h
    · exact h8 g (.inr ⟨n, hn⟩)
  have hcell := h9.2
  refine h9.keep (hk g h9.lt (fun e => ?_)) (fun q cur _ _ hq => hk q (Array.getElem?_eq_some_iff.1 hq).1 (fun e => ?_))
  · obtain ⟨u, hu, _⟩ := hcell
    rw [e, he] at hu; cases hu
  · rw [e, he] at hq; cases hq

end Go.Proofs.Ytgpinkgfgkolfaa.PD
