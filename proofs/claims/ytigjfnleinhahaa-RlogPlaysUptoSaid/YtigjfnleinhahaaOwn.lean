/- owned, entries, rising: what they compute, in plain lists. -/
import Derived.Test.YtigjfnleinhahaaPLogx1
namespace Go.Proofs.Ytigjfnleinhahaa.PLog
open Go.RowKit Go.Proofs.YtigjfnleinhahaaW.PrintWords Go.Proofs.YtigjfnleinhahaaW.PrintLast Go.Proofs.YtigjfnleinhahaaW.PrintMore
set_option linter.unusedVariables false
set_option linter.unusedSimpArgs false
/-- An entry whose lists are no longer than a machine bears. -/
def okE (x : S60) : Prop := x.f3.length < 17592186044416 ∧ x.f2.f7.length < 8796093022208
theorem own_id (x : S60) (h : okE x) : rlog_own.f x.f0 x.f1 x.f2.f0 x.f2.f1 x.f2.f2 x.f2.f3 x.f2.f4 x.f2.f5 x.f2.f6 x.f2.f7 x.f2.f8 x.f2.f9 x.f2.f10 x.f3 = some (x.f0, x.f1, x.f2.f0, x.f2.f1, x.f2.f2, x.f2.f3, x.f2.f4, x.f2.f5, x.f2.f6, x.f2.f7, x.f2.f8, x.f2.f9, x.f2.f10, x.f3) := by
  unfold rlog_own.f slices_Clone_int_int.f slices_Clone_string_string.f
  rw [if_pos h.1, if_pos h.2]
  rfl
theorem owned_loop (ys : List S60) (hlen : ys.length ≤ 733007751850) (hok : ∀ x ∈ ys, okE x) : ∀ n i k, i + n = ys.length → n < k → rlog_owned.l0 k (ys.take i) ys (ys.length : Int) (i : Int) = some ys := by
  intro n
  induction n with
  | zero =>
    intro i k hi hk
    obtain ⟨k, rfl⟩ : ∃ q, k = q + 1 := ⟨k - 1, by omega⟩
    have e : i = ys.length := by omega
    subst e
    simp [rlog_owned.l0]
  | succ n ih =>
    intro i k hi hk
    obtain ⟨k, rfl⟩ : ∃ q, k = q + 1 := ⟨k - 1, by omega⟩
    have hlt : i < ys.length := by omega
    have e1 : ((i : Int) < (ys.length : Int)) := by omega
    have e2 : (0 : Int) ≤ (i : Int) := by omega
    have e3 : (ys.take i).length < 733007751850 := by rw [List.length_take]; omega
    have hrd : rd_T60 ys (i : Int) = ys[i] := by simp [rd_T60, hlt]
    unfold rlog_owned.l0
    rw [if_pos e1, if_pos e2, if_pos e1, hrd, own_id _ (hok _ (List.getElem_mem hlt)), Option.bind_some, if_pos e3]
    have hw : wrap64 ((i : Int) + 1) = ((i + 1 : Nat) : Int) := by unfold wrap64; omega
    rw [hw]
    have ht : ys.take i ++ [(⟨ys[i].f0, ys[i].f1, (⟨ys[i].f2.f0, ys[i].f2.f1, ys[i].f2.f2, ys[i].f2.f3, ys[i].f2.f4, ys[i].f2.f5, ys[i].f2.f6, ys[i].f2.f7, ys[i].f2.f8, ys[i].f2.f9, ys[i].f2.f10⟩ : S58), ys[i].f3⟩ : S60)] = ys.take (i + 1) := by
      rw [List.take_succ_eq_append_getElem hlt]
    have := ih (i + 1) k (by omega) (by omega)
    rw [← ht] at this
    exact this
theorem owned_id (ys : List S60) (hlen : ys.length ≤ 733007751850) (hok : ∀ x ∈ ys, okE x) : rlog_owned.f (ys.length + 1) ys = some ys := by
  have := owned_loop ys hlen hok ys.length 0 (ys.length + 1) (by omega) (by omega)
  simpa [rlog_owned.f] using this
/-- An entry of nothing but a term. -/
def en (t : Int) : S60 := ⟨t, 0, (⟨0, (⟨#[]⟩ : ByteArray), (⟨#[]⟩ : ByteArray), (⟨#[]⟩ : ByteArray), (⟨#[]⟩ : ByteArray), (⟨#[]⟩ : ByteArray), (⟨#[]⟩ : ByteArray), ([] : List ByteArray), 0, 0, 0⟩ : S58), ([] : List Int)⟩
theorem okE_en (t : Int) : okE (en t) := by simp [okE, en]
theorem entries_loop (ts : List Int) (hlen : ts.length ≤ 733007751850) : ∀ n i k, i + n = ts.length → n < k → calepinlaw20_entries.l0 k ((ts.take i).map en) ts (ts.length : Int) (i : Int) = some (ts.map en) := by
  intro n
  induction n with
  | zero =>
    intro i k hi hk
    obtain ⟨k, rfl⟩ : ∃ q, k = q + 1 := ⟨k - 1, by omega⟩
    have e : i = ts.length := by omega
    subst e
    simp [calepinlaw20_entries.l0]
  | succ n ih =>
    intro i k hi hk
    obtain ⟨k, rfl⟩ : ∃ q, k = q + 1 := ⟨k - 1, by omega⟩
    have hlt : i < ts.length := by omega
    have e1 : ((i : Int) < (ts.length : Int)) := by omega
    have e2 : (0 : Int) ≤ (i : Int) := by omega
    have e3 : ((ts.take i).map en).length < 733007751850 := by rw [List.length_map, List.length_take]; omega
    have hrd : rd ts (i : Int) = ts[i] := by simp [rd, rdOf, hlt]
    unfold calepinlaw20_entries.l0
    rw [if_pos e1, if_pos e2, if_pos e1, hrd, if_pos e3]
    have hw : wrap64 ((i : Int) + 1) = ((i + 1 : Nat) : Int) := by unfold wrap64; omega
    rw [hw]
    have ht : (ts.take i).map en ++ [en ts[i]] = (ts.take (i + 1)).map en := by
      rw [List.take_succ_eq_append_getElem hlt, List.map_append]; rfl
    have := ih (i + 1) k (by omega) (by omega)
    rw [← ht] at this
    exact this
theorem entries_is (ts : List Int) (hlen : ts.length ≤ 733007751850) : calepinlaw20_entries.f (ts.length + 1) ts = some (ts.map en) := by
  have := entries_loop ts hlen ts.length 0 (ts.length + 1) (by omega) (by omega)
  simpa [calepinlaw20_entries.f] using this
end Go.Proofs.Ytigjfnleinhahaa.PLog
