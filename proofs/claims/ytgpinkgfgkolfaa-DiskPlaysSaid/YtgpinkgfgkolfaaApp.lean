/- append onto a file's row. -/
import Derived.Test.YtgpinkgfgkolfaaFreeL
import Derived.Laws.AppendOwn
import Derived.Laws.Tables
namespace Go.Proofs.Ytgpinkgfgkolfaa.PD
open Go.RowKit Go.Proofs.YtgpinkgfgkolfaaW.PrintWords Go.Proofs.YtgpinkgfgkolfaaW.PrintLast Go.Proofs.YtgpinkgfgkolfaaW.PrintMore
set_option linter.unusedVariables false
set_option linter.unusedSimpArgs false
set_option maxHeartbeats 4000000
set_option maxRecDepth 100000

open Go.Proofs
/-- Bytes that a slice reads. -/
def SrcAt (w : World) (x : Value) (xs : List UInt8) : Prop :=
  (x = .slice none 0 0 ∧ xs = []) ∨ ∃ a c, x = .slice (some a) xs.length c ∧ xs.length ≤ c ∧ ∀ j u, (bcells xs)[j]? = some u → w.cell? (a.add j) = some u
theorem info8 : (Try.prog.info? 5).map (fun i => (i.zero, i.size, i.bytes)) = some (some (.int .u8 0), 1, 1) := by kernel_rfl
theorem bcells_len (l : List UInt8) : (bcells l).length = l.length := by simp [bcells]
theorem bcells_app (a b : List UInt8) : bcells (a ++ b) = bcells a ++ bcells b := by simp [bcells]
theorem bcells_one (l : List UInt8) : ∀ u ∈ bcells l, u.oneCell' = true := fun u hu => by
  obtain ⟨b, _, rfl⟩ := List.mem_map.1 hu; rfl
theorem fresh_row {W : World} (n old : Nat) (bs : List UInt8) (hl : bs.length = n) (hn : old < n) (h63 : n ≤ maxLen) (ok : Nat → Prop) (hok : ok W.heap.size) :
    RowAt (W.drew.alloc (.cells ((bcells bs).toArray ++ Builtin.zeroCells (Value.int .u8 0).cells (grownCap W n old 5 - n)) 5)) ok (.slice (some ⟨W.heap.size, 0, none⟩) n (grownCap W n old 5)) bs ∧
    W.grownBy (W.drew.alloc (.cells ((bcells bs).toArray ++ Builtin.zeroCells (Value.int .u8 0).cells (grownCap W n old 5 - n)) 5)) none := by
  have hge := grownCap_ge W n old 5
  have hcm : grownCap W n old 5 ≤ maxLen := grownCap_le_maxLen W n old 5 h63
  subst hl
  have hsz : ((bcells bs).toArray ++ Builtin.zeroCells (Value.int .u8 0).cells (grownCap W bs.length old 5 - bs.length)).size = grownCap W bs.length old 5 := by
    simp only [Array.size_append, List.size_toArray, size_zeroCells, bcells_len]
    rw [show (Value.int .u8 0).cells.size = 1 from rfl]; omega
  refine ⟨.inr ⟨W.heap.size, _, _, rfl, hok, heap_alloc_new W.drew _, hge, hcm, .inl hsz, by rw [hsz]; exact hge, ?_⟩, ⟨rfl, rfl, rfl, by simp, fun k hk _ => Below.heap_alloc W.drew _ k hk⟩⟩
  simp only [Array.toList_append]
  rw [show bs.length = ((bcells bs).toArray.toList).length by simp [bcells]]
  exact List.take_left
theorem append_row {w : World} {ok : Nat → Prop} {v x : Value} {bs xs : List UInt8} (h : RowAt w ok v bs) (hs : SrcAt w x xs) (hl : bs.length + xs.length ≤ 140737488355328) :
    ∃ v1 w1, (Builtin.append_ #[29, 29] 29 #[v, x]).run Try.prog w = .ok v1 w1 ∧ RowAt w1 (fun k => ok k ∨ k = w.heap.size) v1 (bs ++ xs) ∧ w.grownBy w1 v.ownBlock := by
  obtain ⟨i0, hi, hz0, hz1, hz2⟩ := info_parts info8
  by_cases hx : xs = []
  · subst hx
    have hrun : (Builtin.append_ #[29, 29] 29 #[v, x]).run Try.prog w = .ok v w := by
      obtain ⟨A, c, rfl, hc⟩ := h.slice
      rcases hs with ⟨rfl, _⟩ | ⟨a, c', rfl, _, _⟩
      · cases A <;> simp [Builtin.append_, run_underlying Try.underlying29, sizeOf, typeInfo, hi, hc, Builtin.firstCells, Builtin.lenOf, storeCells]
      · have hf := run_firstCells_some (P := Try.prog) w i0.size 0 a 0 c' [] (by simp) (by simp)
        simp only [List.length_nil] at *
        cases A <;> simp [Builtin.append_, run_underlying Try.underlying29, sizeOf, typeInfo, hi, hc, hf, Builtin.lenOf, storeCells]
    exact ⟨v, w, hrun, by rw [List.append_nil]; exact h.mono (fun g _ hg _ => .inl hg), World.grownBy.refl _ _⟩
  · rcases hs with ⟨_, he⟩ | ⟨a, c, rfl, hc, hcell⟩
    · exact absurd he hx
    have hm : 0 < xs.length := by cases xs with | nil => exact absurd rfl hx | cons => simp
    have hnews : (bcells xs).length = xs.length * i0.size := by rw [hz1, bcells_len]; omega
    rcases h with ⟨rfl, rfl⟩ | ⟨g, cap, cur, rfl, hg, hh, hcap, hmax, hfull, hcur, htake⟩
    · have hr := run_append_nil (P := Try.prog) (w := w) 29 29 5 i0 (.int .u8 0) Try.underlying29 hi hz0 a xs.length c (bcells xs) hnews hcell hm (by omega) (by rw [hz2]; simp only [List.length_nil] at hl; omega)
      obtain ⟨f1, f2⟩ := fresh_row (W := w) xs.length 0 xs rfl hm (by simp only [maxLen]; simp only [List.length_nil] at hl; omega) (fun k => ok k ∨ k = w.heap.size) (.inr rfl)
      exact ⟨_, _, hr, by simpa using f1, f2⟩
    · have holds : ∀ j u, (bcells bs)[j]? = some u → w.cell? ((⟨g, 0, none⟩ : Addr).add j) = some u := fun j u hu => by
        have ha : (⟨g, 0, none⟩ : Addr).add j = ⟨g, j, none⟩ := by unfold Addr.add; split <;> simp_all
        have hjl : j < bs.length := by have := (List.getElem?_eq_some_iff.1 hu).1; rwa [bcells_len] at this
        rw [ha]
        rw [← htake] at hu
        rw [List.getElem?_take, if_pos hjl, Array.getElem?_toList] at hu
        simp [World.cell?, hh, hu]
      by_cases hroom : bs.length + xs.length ≤ cap
      · have hcs : cur.size = cap := by rcases hfull with h | h <;> omega
        have hr := run_append_room (P := Try.prog) (w := w) 29 29 5 i0 Try.underlying29 hi g bs.length cap cur hh a xs.length c (bcells xs) hnews hcell (bcells_one xs) hroom (by rw [hz1, bcells_len]; omega)
        rw [hz1, Nat.mul_one] at hr
        have hcl : cur.toList.length = cap := by rw [Array.length_toList]; exact hcs
        have hsz : (cur.toList.take bs.length ++ bcells xs ++ cur.toList.drop (bs.length + (bcells xs).length)).toArray.size = cap := by
          simp only [List.size_toArray, List.length_append, List.length_take, List.length_drop, bcells_len]; omega
        refine ⟨_, _, hr, .inr ⟨g, cap, _, by rw [List.length_append], .inl hg, setRow_heap w g cur _ _ _ hh, by rw [List.length_append]; exact hroom, hmax, .inl hsz, by rw [hsz, List.length_append]; exact hroom, ?_⟩, ⟨rfl, rfl, rfl, by simp, fun k _ hk => setRow_other w g k _ (fun e => hk (by rw [e]; rfl))⟩⟩
        show ((cur.toList.take bs.length ++ bcells xs) ++ cur.toList.drop (bs.length + (bcells xs).length)).take (bs ++ xs).length = _
        rw [htake, ← bcells_app, ← bcells_len (bs ++ xs)]
        exact List.take_left
      · have hr := run_append_grow (P := Try.prog) (w := w) 29 29 5 i0 (.int .u8 0) Try.underlying29 hi hz0 ⟨g, 0, none⟩ bs.length cap (bcells bs) (by rw [hz1, bcells_len]; omega) holds a xs.length c (bcells xs) hnews hcell (by omega) (by omega) (by rw [hz2]; exact growslice_fits (by omega) (by omega))
        obtain ⟨f1, f2⟩ := fresh_row (W := w) (bs.length + xs.length) cap (bs ++ xs) List.length_append (by omega) (by simp only [maxLen]; omega) (fun k => ok k ∨ k = w.heap.size) (.inr rfl)
        have e2 : (bcells (bs ++ xs)).toArray = (bcells bs).toArray ++ (bcells xs).toArray := by rw [bcells_app]; simp
        rw [e2] at f1 f2
        exact ⟨_, _, hr, f1, ⟨f2.os, f2.tape, f2.output, f2.size, fun k hk _ => f2.block k hk (by simp)⟩⟩

end Go.Proofs.Ytgpinkgfgkolfaa.PD
