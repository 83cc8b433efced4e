/- slices.Collect and slices.Sorted of what slices.Values hands back. -/
import Derived.Test.YtknaffajmfimbaaIter
import Derived.Test.YtknaffajmfimbaaShelf
import Derived.Lib.Hide
namespace Go.Proofs.Ytknaffajmfimbaa.PIt
open Go.RowKit Go.Shelf Go.Sort Go.Maps
set_option linter.unusedVariables false
set_option linter.unusedSimpArgs false

set_option maxHeartbeats 1000000 in
theorem collect_in (F : Fence) (n : Nat) (h32 : F.fn 32) (h38 : F.fn 38) (h34 : F.fn 34) (hro : F.round = none) (hn : 4 ≤ n) (Bs n₀ : Nat) (sv : Value) (zs : List Int) (hreach : zs.length * 8 ≤ 140737488351232) (w : World) (hBs : Bs < w.heap.size) (hn₀ : n₀ ≤ w.heap.size)
    (hc : w.cell? ⟨Bs, 0, none⟩ = some sv) (hI : Ints n₀ w sv zs) :
    CallsIn F n Try.prog 32 #[.func (.func 34) #[] #[.pointer (some ⟨Bs, 0, none⟩)]] w fun e W' => ∃ v, e = .returned v ∧ W'.ownsRow w.heap.size 3 1 v zs.length (zs.map (Value.int .i64)) ∧ Below w.heap.size w W' := by
  have h1 : 1 ≤ n := by omega
  refine callsIn_of_wp Try.func32 rfl h32 ?_ hro
  simp only [Try.ntmps32, List.size_toArray, List.length_cons, List.length_nil, Nat.reduceAdd, Nat.reduceSub, Array.replicate_succ, Array.replicate_zero, List.push_toArray, List.append_toArray, List.nil_append, List.cons_append]
  have cA := appendSeq_in F (n - 1) h38 h34 hro (by omega) Bs n₀ sv zs hreach w hBs hn₀ hc hI
  clear hc
  gi_wp2_with (gi_at_call 38; refine cA.mono ?_; rintro e w' ⟨v, rfl, hrow, hb⟩)
  go_ret
  exact ⟨v, rfl, hrow, hb⟩
set_option maxRecDepth 100000 in
set_option maxHeartbeats 2000000 in
theorem sorted_calls (Bs n₀ : Nat) (sv : Value) (zs : List Int) (hreach : zs.length * 8 ≤ 140737488351232) (w : World) (hBs : Bs < w.heap.size) (hn₀ : n₀ ≤ w.heap.size)
    (hc : w.cell? ⟨Bs, 0, none⟩ = some sv) (hI : Ints n₀ w sv zs) :
    Calls Try.prog 24 #[.func (.func 34) #[] #[.pointer (some ⟨Bs, 0, none⟩)]] w fun e W' => ∃ v, e = .returned v ∧ W'.ownsRow w.heap.size 3 1 v zs.length ((zs.mergeSort fun x y => decide (x ≤ y)).map (Value.int .i64)) ∧ Below w.heap.size w W' := by
  have cC := (callsIn_wide (n := 6)).1 (collect_in Fence.wide 6 trivial trivial trivial rfl (by omega) Bs n₀ sv zs hreach w hBs hn₀ hc hI)
  clear hc hI hBs hn₀
  go_enter Try.func24, Try.ntmps24
  go_wp2_with fail
  refine cC.mono ?_
  rintro e W ⟨v, rfl, hrow, hb⟩
  clear cC
  rcases hrow.2 with ⟨rfl, hz⟩ | ⟨gb, cap, cur, rfl, hbase, hgb, r1, r2, r3, r4⟩
  · have hss : zs = [] := List.eq_nil_of_length_eq_zero hz
    subst hss
    go_wp2_with fail
    refine (Try.slices_Sort_int_none none 0 W).mono ?_
    rintro e w' ⟨rfl, rfl⟩
    go_wp2_with fail
    go_ret
    exact ⟨.slice none 0 0, rfl, by simpa using hrow, hb⟩
  · have hH : Holds encZ W gb 0 zs.toArray := holds_of_block_i hgb (by simpa [encZ] using r4)
    have hgl : gb < W.heap.size := (Array.getElem?_eq_some_iff.1 hgb).1
    have hsz : zs.length < 4611686018427387904 := by omega
    have cS := Try.slices_Sort_int gb 0 cap zs W hH hgl hsz
    have HD := Lib.hid (And.intro hgb (And.intro r1 (And.intro r2 (And.intro r3 hb))))
    clear hH hgb r1 r2 r3 r4 hb hrow
    go_wp2_with fail
    refine cS.mono ?_
    rintro e w' ⟨rfl, nn, os, rfl⟩
    go_wp2_with fail
    go_ret
    obtain ⟨hgb, r1, r2, r3, hb⟩ := HD.out
    exact ⟨_, rfl, ownsRow_sorted_i (by simp) hbase hgb r1 r2 r3, hb.grown (grownBy_sorted_i _) hb.size (fun j hj => by cases hj; exact hbase)⟩
theorem values_calls (a : Option Addr) (len cap : Nat) (w : World) : Calls Try.prog 25 #[.slice a len cap] w fun e w' => e = .returned (.func (.func 34) #[] #[.pointer (some ⟨w.heap.size, 0, none⟩)]) ∧ w' = w.alloc (.cells #[.slice a len cap] 22) :=
  (callsIn_wide (n := 6)).1 (values_in Fence.wide 6 trivial rfl a len cap w)

end Go.Proofs.Ytknaffajmfimbaa.PIt
