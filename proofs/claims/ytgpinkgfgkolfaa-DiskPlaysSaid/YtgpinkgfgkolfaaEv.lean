/- One file: what the calls say. -/
import Derived.Test.YtgpinkgfgkolfaaLawP
namespace Go.Proofs.Ytgpinkgfgkolfaa.PD
open Go.RowKit Go.Proofs.YtgpinkgfgkolfaaW.PrintWords Go.Proofs.YtgpinkgfgkolfaaW.PrintLast Go.Proofs.YtgpinkgfgkolfaaW.PrintMore
set_option linter.unusedVariables false
set_option linter.unusedSimpArgs false
set_option maxHeartbeats 4000000
set_option maxRecDepth 100000

open Go.Proofs
def base0 : Nat → List UInt8 × Nat := fun _ => ([], 0)
/-- One file, under the name f. -/
def oneA (room : Int) (q : Nat) (x : List UInt8 × Nat) (safe : Dir) : Ab := ⟨room, [([102], q)], safe, upd base0 q x, false, 0, false⟩
theorem newL_eq (room : Int) : newL room = ⟨room, [], [], base0, false, 0, false⟩ := rfl
theorem may_calm (A : Ab) (h : A.fl = false) : mayL A = (true, false, A) := if_pos h
theorem one_fs (room : Int) (q : Nat) (x : List UInt8 × Nat) (safe : Dir) : (oneA room q x safe).fs q = x := upd_same _ _ _
theorem one_find (room : Int) (q : Nat) (x : List UInt8 × Nat) (safe : Dir) : findL (oneA room q x safe).dir [102] = some q := rfl
theorem free_new (room : Int) : freeL (newL room) = room := by
  rw [freeL_in _ (fun x hx => by cases hx)]
  show room - 0 = room; omega
theorem free_one (room : Int) (q : Nat) (x : List UInt8 × Nat) (safe : Dir) (h : ∀ y ∈ safe, y.2 = q) : freeL (oneA room q x safe) = room - (x.1.length : Int) := by
  rw [freeL_in _ (fun y hy => ⟨[102], by rw [h y hy]; rfl⟩)]
  show room - (lenF (oneA room q x safe) q + 0) = _
  unfold lenF
  rw [one_fs]; omega
/-- A write into an empty disk. -/
theorem write_new (room : Int) (xs : List UInt8) (q : Nat) (hr : wrap64 room = room) (hl : (xs.length : Int) ≤ room) : writeL (newL room) [102] xs q = (0, oneA room q (xs, 0) []) := by
  unfold writeL
  rw [may_calm _ rfl, free_new, hr, if_neg (by simp), if_neg (by decide), if_neg (by omega)]
  rfl
theorem write_more (room : Int) (q : Nat) (x : List UInt8 × Nat) (safe : Dir) (xs : List UInt8) (p : Nat) (h : ∀ y ∈ safe, y.2 = q) (hr : wrap64 (room - (x.1.length : Int)) = room - (x.1.length : Int)) (hl : (xs.length : Int) ≤ room - (x.1.length : Int)) :
    writeL (oneA room q x safe) [102] xs p = (0, oneA room q (x.1 ++ xs, x.2) safe) := by
  unfold writeL
  rw [may_calm _ rfl, free_one _ _ _ _ h, hr, if_neg (by simp), if_neg (by decide), if_neg (by omega)]
  show (0, layL (oneA room q x safe) [102] xs p) = _
  unfold layL
  rw [one_find]
  simp only [one_fs]
  unfold oneA
  rw [upd_upd]
theorem sync_one (room : Int) (q : Nat) (x : List UInt8 × Nat) (safe : Dir) : syncL (oneA room q x safe) [102] = (0, oneA room q (x.1, x.1.length) safe) := by
  unfold syncL callL
  rw [may_calm _ rfl, if_neg (by simp), one_find]
  show syncR q (oneA room q x safe) = _
  unfold syncR
  rw [one_fs]
  unfold oneA
  rw [upd_upd]
theorem flush_one (room : Int) (q : Nat) (x : List UInt8 × Nat) (safe : Dir) : flushL (oneA room q x safe) = (0, oneA room q x [([102], q)]) := by
  unfold flushL
  rw [may_calm _ rfl, if_neg (by simp)]; rfl
theorem crash_one (room : Int) (q : Nat) (x : List UInt8 × Nat) (keep : Int) : crashL (oneA room q x [([102], q)]) keep = oneA room q (crashF keep x) [([102], q)] := by
  have h : crashFs (oneA room q x [([102], q)]) keep (fun _ => true) = upd base0 q (crashF keep x) := by
    funext g
    by_cases hg : g = q
    · rw [hg, upd_same, crashFs_pos _ _ _ _ ⟨[102], rfl, rfl⟩, one_fs]
    · rw [upd_other _ _ _ _ hg, crashFs_neg]
      · exact upd_other _ _ _ _ hg
      · rintro ⟨k, h1, _⟩
        have := findL_mem h1
        simp [oneA] at this
        exact hg this.2
  unfold crashL crashP
  rw [h]; rfl
theorem wrap_ok (x : Int) (h1 : -9223372036854775808 ≤ x) (h2 : x ≤ 9223372036854775807) : wrap64 x = x := by unfold wrap64; omega
theorem one_in {room : Int} {q : Nat} {x : List UInt8 × Nat} {f : Nat} (h : In (oneA room q x [([102], q)]) f) : f = q := by
  rcases h with ⟨n, h⟩ | ⟨n, h⟩
  · simp [oneA] at h; exact h.2
  · simp [oneA] at h; exact h.2
theorem RowAt.string {w : World} {ok : Nat → Prop} {v : Value} {bs : List UInt8} (h : RowAt w ok v bs) : (convert 29 9 v).run Try.prog w = .ok (.string ⟨bs.toArray⟩) w := by
  rcases h with ⟨rfl, rfl⟩ | ⟨g, cap, cur, rfl, _, hh, hc, _, _, _, htake⟩
  · exact run_convert_bytes_nil w 29 5 Try.underlying29 Try.underlying5 0 0 9 Try.underlying9
  · refine run_convert_bytes_back w 29 9 5 ⟨g, 0, none⟩ cap bs Try.underlying29 Try.underlying5 Try.underlying9 (fun j hj => ?_)
    have ha : (⟨g, 0, none⟩ : Addr).add j = ⟨g, j, none⟩ := by unfold Addr.add; split <;> simp_all
    have hu : (bcells bs)[j]? = some (.int .u8 ((bs[j]).toNat : Int)) := by
      unfold bcells
      rw [List.getElem?_map, List.getElem?_eq_getElem hj]; rfl
    rw [ha]
    rw [← htake, List.getElem?_take, if_pos hj, Array.getElem?_toList] at hu
    simp [World.cell?, hh, hu]
theorem write_full (A : Ab) (nm : Nm) (xs : List UInt8) (q : Nat) (hA : A.fl = false) (hnm : nm ≠ []) (h : (xs.length : Int) > wrap64 (freeL A)) : writeL A nm xs q = (170, A) := by
  unfold writeL
  rw [may_calm _ hA, if_neg (by simp), if_neg hnm, if_pos h]
theorem made_zero (n : Nat) : madeCells #[.int .u8 0] n = (bcells (List.replicate n 0)).toArray := by
  apply Array.toList_inj.1
  rw [toList_madeCells_one]
  simp [bcells]
theorem calm_left : -9223372036854775808 ≤ (0 : Int) ∧ (0 : Int) ≤ 9223372036854775807 := by decide

end Go.Proofs.Ytgpinkgfgkolfaa.PD
