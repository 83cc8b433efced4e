/- The law of reading. -/
import Derived.Test.YtdjdbmopckhcdaaVSgn
namespace Go.Proofs.Ytdjdbmopckhcdaa.PV
open Go.RowKit Go.Proofs.YtdjdbmopckhcdaaW.PrintWords Go.Proofs.YtdjdbmopckhcdaaW.PrintLast Go.Proofs.YtdjdbmopckhcdaaW.PrintMore
open Go.Proofs Go.Proofs.Ytdjdbmopckhcdaa
set_option linter.unusedVariables false
set_option linter.unusedSimpArgs false
set_option maxHeartbeats 4000000
set_option maxRecDepth 100000


theorem reads_pure (a : ByteArray) (ha : a.size ≤ 1048576) : ∃ k, calepinlaw04_ValueReads.f k a = some true := by
  have hl : a.data.toList.length = a.size := rfl
  cases h : sgn a.data.toList with
  | none =>
    refine ⟨a.size + 1, ?_⟩
    unfold calepinlaw04_ValueReads.f
    rw [first_is, Option.bind_some, if_pos rfl, signs_f a (by omega) _ (by omega), text_f a (by omega), list_f a (by omega), fields_f a (by omega), listI_fails _ h, fieldsI_fails _ h, txtI_fails _ h]
    unfold signsI
    rw [h]
    simp only [Option.bind_some, ba_list]
    rw [if_neg (by decide), if_pos (by trivial), if_pos (by trivial), if_pos (by trivial), if_pos (mkB_list [])]
    first | rfl | decide | simp [wrap64]
  | some s =>
    obtain ⟨K, hK⟩ := fields_f2 a (by omega) s h
    have hs := sgn_len _ _ h
    obtain ⟨q1, q2⟩ := parts_small 44 s a.size (by omega)
    obtain ⟨p1, p2⟩ := parts_small 59 s a.size (by omega)
    refine ⟨K + 4 * a.size + 32, ?_⟩
    unfold calepinlaw04_ValueReads.f
    rw [first_is, Option.bind_some, if_pos rfl, signs_f a (by omega) _ (by omega), text_f a (by omega), list_f a (by omega), fields_f a (by omega), listI_sgn _ _ h, fieldsI_sgn _ _ h, txtI_sgn _ _ h, list_f2 a (by omega) _ (by omega) s h, hK _ (by omega)]
    unfold signsI
    rw [h]
    simp only [Option.bind_some]
    rw [if_pos (by trivial), if_pos (by trivial), if_pos (by trivial), if_pos (by trivial), plain_f s (by omega) _ (by omega), Option.bind_some, if_pos (by trivial), same_f _ (by rw [List.length_map]; omega) _ (by rw [List.length_map]; omega), Option.bind_some, if_pos (by trivial)]
    show calepinlaw04_ValueReads.j0 _ ((parts 59 s).map fldB) ((parts 59 s).map fldB) _ = _
    have e : (((List.map (fun p => List.map plB (parts 44 p)) (parts 59 s)).length : Int) != ((List.map fldB (parts 59 s)).length : Int)) = false := by simp
    rw [e]
    have hj : ∀ (n : Nat) (xs : List (List ByteArray)), calepinlaw04_ValueReads.j0 (n + 1) xs xs false = calepinlaw04_ValueReads.l0 n xs xs (xs.length : Int) 0 := by
      intro n xs
      conv => lhs; unfold calepinlaw04_ValueReads.j0
      show (if false = true then some false else calepinlaw04_ValueReads.l0 n xs xs (xs.length : Int) 0) = _
      rw [if_neg (by decide)]
    refine (hj (K + 4 * a.size + 31) _).trans ?_
    refine reads_loop ((parts 59 s).map fldB) (a.size + 1) (by rw [List.length_map]; omega) ?_ (by omega) _ 0 _ (Nat.zero_add _) (by rw [List.length_map]; omega)
    intro q hq
    obtain ⟨p, hp, rfl⟩ := List.mem_map.1 hq
    have := (parts_small 44 p a.size (p2 p hp)).1
    unfold fldB; rw [List.length_map]; exact this
theorem reads_walk (a0 : ByteArray) (w : World) (w0 : a0.size ≤ 1048576) : Calls Try.prog 3 #[.string a0] w fun e w' => e = .returned (.bool true) ∧ Below w.heap.size w w' := by
  obtain ⟨k, hk⟩ := reads_pure a0 w0
  exact calepinlaw04_ValueReads.calls k a0 true w hk

end Go.Proofs.Ytdjdbmopckhcdaa.PV
