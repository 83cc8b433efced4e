/- Names walked. -/
import Derived.Test.YtgpinkgfgkolfaaRgA
import Derived.Test.YtgpinkgfgkolfaaIter
import Derived.Sort.KeysCollected
import Derived.Sort.Walk0
import Derived.TacticsInMore
import Derived.Shelf.Abstract
namespace Go.Proofs.Ytgpinkgfgkolfaa.PD
open Go.RowKit Go.Proofs.YtgpinkgfgkolfaaW.PrintWords Go.Proofs.YtgpinkgfgkolfaaW.PrintLast Go.Proofs.YtgpinkgfgkolfaaW.PrintMore
set_option linter.unusedVariables false
set_option linter.unusedSimpArgs false
set_option maxHeartbeats 4000000
set_option maxRecDepth 100000

open Go.Proofs Go.Maps Go.Sort Go.Shelf
/-- In order of names. -/
def SortD (l : Dir) : Prop := l.Pairwise fun x y => bytesBefore x.1 y.1 = true
theorem SortD.del {l : Dir} (h : SortD l) (nm : Nm) : SortD (delL l nm) := List.Pairwise.filter _ h
theorem sort_ins (x : Nm × Nat) : ∀ l : Dir, SortD l → (∀ y ∈ l, y.1 ≠ x.1) → SortD (insL x l)
  | [], _, _ => List.pairwise_singleton _ _
  | y :: r, h, hn => by
    unfold insL
    have hy := List.pairwise_cons.1 h
    by_cases hb : bytesBefore x.1 y.1 = true
    · rw [if_pos hb]
      refine List.pairwise_cons.2 ⟨fun z hz => ?_, h⟩
      rcases List.mem_cons.1 hz with e | e
      · rw [e]; exact hb
      · exact WideShapes.bytes_trans _ _ _ hb (hy.1 z e)
    · rw [if_neg hb]
      refine List.pairwise_cons.2 ⟨fun z hz => ?_, sort_ins x r hy.2 (fun z hz => hn z (List.mem_cons_of_mem _ hz))⟩
      rcases (ins_mem _ _ _).1 hz with e | e
      · rw [e]
        rcases WideAt.bytes_total _ _ (hn y (List.mem_cons_self ..)) with h1 | h1
        · exact h1
        · exact absurd h1 hb
      · exact hy.1 z e
theorem SortD.put {l : Dir} (h : SortD l) (nm : Nm) (b : Nat) : SortD (putL l nm b) := by
  unfold putL
  refine sort_ins _ _ (h.del nm) (fun y hy => ?_)
  have := (List.mem_filter.1 hy).2
  simpa using this
theorem lt_before (a b : Nm) : bytesBefore a b = decide (a < b) := by rw [← less_is, bytesLess_eq]
theorem names_sort {ss names : List Nm} (hp : ss.Perm names) (hs : names.Pairwise fun x y => bytesBefore x y = true) : ss.mergeSort (fun x y => decide (x ≤ y)) = names := by
  have h1 : (ss.mergeSort (fun x y => decide (x ≤ y))).Perm names := (List.mergeSort_perm ss _).trans hp
  have h2 := List.pairwise_mergeSort (le := fun x y : Nm => decide (x ≤ y)) (fun a b c h h' => by
    have h1 : a ≤ b := of_decide_eq_true h
    have h2 : b ≤ c := of_decide_eq_true h'
    exact decide_eq_true (List.le_trans h1 h2)) (fun a b => by
    rcases List.le_total a b with h | h
    · rw [decide_eq_true h]; rfl
    · rw [decide_eq_true h, Bool.or_true]) ss
  have h3 : names.Pairwise fun x y => decide (x ≤ y) = true := hs.imp fun {a b} h => by
    rw [lt_before] at h
    exact decide_eq_true (List.le_of_lt (of_decide_eq_true h))
  exact List.Perm.eq_of_pairwise (fun a b _ _ h h' => List.le_antisymm (of_decide_eq_true h) (of_decide_eq_true h')) h2 h3 h1
def ncells (l : Dir) : List Value := l.map fun p => .string ⟨p.1.toArray⟩
set_option maxHeartbeats 4000000 in
theorem names_calls (ok : Nat → Prop) (d : Nat) (A : Ab) (w : World) (h : DiskAt w ok d A) (hs : SortD A.dir) (hl : A.dir.length ≤ 1000000) :
    Calls Try.prog 19 #[fptr d] w fun e w' => ∃ v, e = .returned v ∧ w'.ownsRow 0 9 1 v A.dir.length (ncells A.dir) ∧ Below w.heap.size w w' := by
  obtain ⟨bd, bs, tg, h⟩ := h
  have c1 : w.cell? ⟨d, 1, none⟩ = some (.map (some bd)) := h.cell 1
  have hm : w.ownsMap Try.prog 9 ptrRd bd A.dir.length (dirD A.dir) := h.2.2.2.2.2.1
  have hsk : strKeys (dirD A.dir) = A.dir.map (·.1) := by
    show (A.dir.map enc1).map (fun p => strOf p.1) = _
    rw [List.map_map]
    rfl
  have hsz : Maps.size (dirD A.dir) = A.dir.length := by unfold dirD Maps.size; simp
  have hfK : Fence.wide.fn 44 := trivial
  have hfS : Fence.wide.fn 43 := trivial
  have HM := Aside0.mk hm
  have HS := Aside0.mk hs
  have HK := Aside0.mk hsk
  have HZ := Aside0.mk (And.intro hsz hl)
  clear h hm hs hsk hsz hl
  refine (callsIn_wide (n := 6)).1 ?_
  refine callsIn_of_wp Try.func19 rfl trivial ?_ rfl
  simp only [Try.ntmps19, List.size_toArray, List.length_cons, List.length_nil, Nat.reduceAdd, Nat.reduceSub, Array.replicate_succ, Array.replicate_zero, List.push_toArray, List.append_toArray, List.nil_append, List.cons_append]
  gi_wp2_with (first
    | (gi_at_call 44; refine (Try.maps_Keys_44 _ _).mono ?_; rintro e w' ⟨rfl, rfl⟩)
    | (gi_at_call 43; refine (Try.slices_Sorted_keys_43_44 bd A.dir.length (dirD A.dir) ptrRd w HM.out (by have := HZ.out; unfold maxLen; omega) (by have := HZ.out; omega)).mono ?_; rintro e w' ⟨v, ss, rfl, hS, hrow, -, hb⟩))
  go_ret
  have hb0 : Below w.heap.size w (w.alloc (.cells #[.map (some bd)] 57)) := below_alloc (Below.refl _ _) _
  rw [HK.out] at hS
  have hss : ss.mergeSort (fun x y => decide (x ≤ y)) = A.dir.map (·.1) := names_sort hS (List.pairwise_map.2 HS.out)
  have hlen : ss.length = A.dir.length := by rw [hS.length_eq, List.length_map]
  rw [hss, hlen, List.map_map] at hrow
  refine ⟨v, rfl, ⟨hrow.1, ?_⟩, hb0.trans (hb.mono hb0.size)⟩
  rcases hrow.2 with h | ⟨g, cap, cur, h1, _, h3⟩
  · exact .inl h
  · exact .inr ⟨g, cap, cur, h1, Nat.zero_le _, h3⟩

end Go.Proofs.Ytgpinkgfgkolfaa.PD
