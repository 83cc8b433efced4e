/- first: what must be answered ahead of everything else is answered. -/
import Derived.Test.YtigjfnleinhahaaMerge3
import Derived.Test.YtigjfnleinhahaaHint
import Derived.Test.YtigjfnleinhahaaFrom
import Derived.Test.YtigjfnleinhahaaPLogx0
namespace Go.Proofs.Ytigjfnleinhahaa.PLog
open Go.RowKit Go.Proofs.YtigjfnleinhahaaW.PrintWords Go.Proofs.YtigjfnleinhahaaW.PrintLast Go.Proofs.YtigjfnleinhahaaW.PrintMore
open Go.Proofs.Ytigjfnleinhahaa.Reg
set_option linter.unusedVariables false
set_option linter.unusedSimpArgs false
set_option maxHeartbeats 4000000
set_option maxRecDepth 100000
/-- A row of whole numbers that has just been laid. -/
theorem C_lit (W : World) (xs : List Int) (hm : xs.length ≤ 9223372036854775807) : Kd.C (Kd.int .i64) (W.alloc (.cells (xs.map (Value.int .i64)).toArray 3)) (some ⟨W.heap.size, 0, none⟩) xs.length xs := by
  refine Kd.C_of_reads (d := (0 : Int)) (h1 := fun _ => rfl) ⟨rfl, hm, fun _ => ⟨_, rfl, fun j hj => ?_⟩⟩
  have hb : (W.alloc (.cells (xs.map (Value.int .i64)).toArray 3)).heap[W.heap.size]? = some (.cells (xs.map (Value.int .i64)).toArray 3 (0, 0)) := heap_alloc_new W _
  rw [show (⟨W.heap.size, 0, none⟩ : Addr).add j = ⟨W.heap.size, j, none⟩ by simp [Addr.add, eq_comm], cell_of_row _ _ _ _ _ _ hb]
  simp [hj]
/-- A log of the call's own, at some moment of it. -/
def St (w W : World) (g : Nat) (a t : Int) (es : List S60) : Prop := Log W (fun k => w.heap.size ≤ k) g a t es ∧ Below w.heap.size w W
theorem below_kept {w W W2 : World} {S : Nat → Prop} (h : Below w.heap.size w W) (hk : Kept W W2 S) (hb : Below 0 W W2) (hs : ∀ k, S k → w.heap.size ≤ k) : Below w.heap.size w W2 :=
  h.trans ⟨hb.os, hb.tape, hb.output, hb.size, fun k hlt => hk.2 k (Nat.lt_of_lt_of_le hlt h.size) (fun hk' => by have := hs k hk'; omega)⟩
theorem St.next {w W W2 : World} {g : Nat} {a t : Int} {es es2 : List S60} (h : St w W g a t es) (hl : Log W2 (fun k => w.heap.size ≤ k ∨ W.heap.size ≤ k) g a t es2) (hk : Kept W W2 (fun k => w.heap.size ≤ k)) (hb : Below 0 W W2) : St w W2 g a t es2 :=
  ⟨hl.mono (fun k hk => by rcases hk with h1 | h1; exact h1; exact Nat.le_trans h.2.size h1), below_kept h.2 hk hb (fun _ hk => hk)⟩
theorem St.below {w W W2 : World} {g : Nat} {a t : Int} {es : List S60} (h : St w W g a t es) (hb : Below W.heap.size W W2) : St w W2 g a t es := ⟨h.1.below hb, h.2.trans (hb.mono h.2.size)⟩
theorem St.drewN {w W : World} {g : Nat} {a t : Int} {es : List S60} (h : St w W g a t es) (m : Nat) : St w (W.drewN m) g a t es := h.below (pw_below_drewN (Below.refl _ _) m)
theorem St.alloc {w W : World} {g : Nat} {a t : Int} {es : List S60} (h : St w W g a t es) (o : Obj) : St w (W.alloc o) g a t es := h.below (below_alloc (Below.refl _ _) o)
theorem entries_calls (w : World) (A : Option Addr) (c : Nat) (ts : List Int) (hC : Kd.C (Kd.int .i64) w A ts.length ts) (hc : ts.length ≤ c) (hlen : ts.length ≤ 733007751850) :
    Calls Try.prog 15 #[.slice A ts.length c] w fun e w' => ∃ A2 c2, e = .returned (.slice A2 ts.length c2) ∧ Kd.C k60 w' A2 (ts.map en).length (ts.map en) ∧ ts.length ≤ c2 ∧ Below w.heap.size w w' := by
  refine (calepinlaw20_entries.calls _ A c ts _ w hC hc (entries_is ts hlen)).mono ?_
  rintro e w' ⟨v, rfl, hS, hb⟩
  obtain ⟨A2, c2, rfl, h1, h2⟩ := Kd.R_reads (Kd.S_R hS)
  rw [List.length_map] at h1
  exact ⟨A2, c2, by rw [List.length_map], h2, h1, hb⟩
theorem okE_ens (ts : List Int) : ∀ x ∈ ts.map en, okE x := by
  intro x hx
  obtain ⟨t, _, rfl⟩ := List.mem_map.1 hx
  exact okE_en t
theorem append_ens {w : World} {ok : Nat → Prop} {g : Nat} {a t : Int} {es : List S60} (h : Log w ok g a t es) (h0 : 0 ≤ a) (A : Option Addr) (c : Nat) (ts : List Int) (hC : Kd.C k60 w A (ts.map en).length (ts.map en)) (hc : ts.length ≤ c)
    (hl : (es.length + ts.length) * 192 ≤ 140737488355328) (h1 : a + es.length ≤ 2305843009213693952) :
    Calls Try.prog 14 #[.pointer (some ⟨g, 0, none⟩), .slice A ts.length c] w fun e w' => e = .returned (.int .i64 (a + (es.length + ts.length : Nat))) ∧ Log w' (fun k => ok k ∨ w.heap.size ≤ k) g a t (es ++ ts.map en) ∧ Kept w w' ok ∧ Below 0 w w' := by
  have := append_calls h h0 A c (ts.map en) (ts.map en) ((ts.map en).length + 1) hC (by rw [List.length_map]; exact hc) (owned_id _ (by rw [List.length_map]; omega) (okE_ens ts)) (by rw [List.length_map]; exact hl) (by rw [List.length_append, List.length_map]; omega)
  rw [List.length_append, List.length_map] at this
  exact this
theorem first_calls (w : World) : Calls Try.prog 7 #[] w fun e w' => e = .returned (.bool true) ∧ Below w.heap.size w w' := by
  go_enter Try.func7, Try.ntmps7
  go_wp2_with fail
  refine (new_calls w 0 0).mono ?_
  rintro _ w1 ⟨g, rfl, hg, hL1, hB1⟩
  have H1 : Aside0 (St w w1 g 0 0 []) := Aside0.mk ⟨hL1, hB1⟩
  clear hL1 hB1 hg
  go_wp2_with fail
  refine (entries_calls _ _ 3 [1, 1, 2] (C_lit w1 [1, 1, 2] (by decide)) (by decide) (by decide)).mono ?_
  rintro _ w2 ⟨A2, c2, rfl, hC, hc, hb⟩
  have H2 : Aside0 (St w w2 g 0 0 []) := Aside0.mk ((H1.out.alloc _).below hb)
  have HC := Aside0.mk hC
  clear H1 hC hb
  go_wp2_with fail
  refine (append_ens H2.out.1 (by decide) A2 c2 [1, 1, 2] HC.out hc (by decide) (by decide)).mono ?_
  rintro _ w3 ⟨rfl, hl, hk, hb⟩
  have H3 : Aside0 (St w w3 g 0 0 ([1, 1, 2].map en)) := Aside0.mk (H2.out.next hl hk hb)
  clear H2 HC hc hl hk hb
  go_wp2_with fail
  refine (entries_calls _ _ 2 [1, 3] (C_lit w3 [1, 3] (by decide)) (by decide) (by decide)).mono ?_
  rintro _ w4 ⟨A4, c4, rfl, hC, hc, hb⟩
  have H4 : Aside0 (St w w4 g 0 0 ([1, 1, 2].map en)) := Aside0.mk ((H3.out.alloc _).below hb)
  have HC := Aside0.mk hC
  clear H3 hC hb
  go_wp2_with fail
  have hmv : mergeL 0 0 ([1, 1, 2].map en) 1 1 ([1, 3].map en) = (3, true, [1, 1, 3].map en) := by rfl
  refine (merge_calls H4.out.1 (by decide) 1 1 A4 c4 ([1, 3].map en) HC.out hc (okE_ens _) (by decide) (by decide)).mono ?_
  rw [hmv]
  rintro _ w5 ⟨rfl, hl, hk, hb⟩
  have H5 : Aside0 (St w w5 g 0 0 ([1, 1, 3].map en)) := Aside0.mk (H4.out.next hl hk hb)
  clear H4 HC hc hl hk hb hmv
  go_wp2_with fail
  refine (term_calls H5.out.1 (by decide) (by decide) 3).mono ?_
  rw [show termAt 0 0 ([1, 1, 3].map en) 3 = (3, true) by rfl]
  rintro _ w6 ⟨rfl, m6, rfl⟩
  have H6 := Aside0.mk (H5.out.drewN m6)
  clear H5
  go_wp2_with fail
  have hmv : mergeL 0 0 ([1, 1, 3].map en) 5 1 [] = (0, false, [1, 1, 3].map en) := by rfl
  refine (merge_calls H6.out.1 (by decide) 5 1 none 0 [] (Kd.C_nil _ _) (Nat.le_refl _) (by simp) (by decide) (by decide)).mono ?_
  rw [hmv]
  rintro _ w7 ⟨rfl, hl, hk, hb⟩
  have H7 : Aside0 (St w w7 g 0 0 ([1, 1, 3].map en)) := Aside0.mk (H6.out.next hl hk hb)
  clear H6 hl hk hb hmv
  go_wp2_with fail
  refine (hint_calls H7.out.1 (by decide) (by decide) 5).mono ?_
  rw [show hintL 0 0 ([1, 1, 3].map en) 5 = 4 by rfl]
  rintro _ w8 ⟨rfl, m8, rfl⟩
  have H8 := Aside0.mk (H7.out.drewN m8)
  clear H7
  go_wp2_with fail
  refine (hint_calls H8.out.1 (by decide) (by decide) 2).mono ?_
  rw [show hintL 0 0 ([1, 1, 3].map en) 2 = 1 by rfl]
  rintro _ w9 ⟨rfl, m9, rfl⟩
  have H9 := Aside0.mk (H8.out.drewN m9)
  clear H8
  go_wp2_with fail
  go_ret
  exact ⟨rfl, by have h := H9.out.2; rw [drewN_two] at h; exact h⟩
end Go.Proofs.Ytigjfnleinhahaa.PLog
