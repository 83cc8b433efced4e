/- A file written, synced, flushed, plainly. -/
import Derived.Test.YtgpinkgfgkolfaaSt
import Derived.Test.YtgpinkgfgkolfaaOps
import Derived.Lib.MinMax
namespace Go.Proofs.Ytgpinkgfgkolfaa.PD
open Go.RowKit Go.Proofs.YtgpinkgfgkolfaaW.PrintWords Go.Proofs.YtgpinkgfgkolfaaW.PrintLast Go.Proofs.YtgpinkgfgkolfaaW.PrintMore
set_option linter.unusedVariables false
set_option linter.unusedSimpArgs false
set_option maxHeartbeats 4000000
set_option maxRecDepth 100000

open Go.Proofs
def safA (room : Int) (q : Nat) (y : List UInt8 × Nat) (safe : Dir) : Ab := ⟨room, [(nmS, q)], safe, upd base0 q y, false, 0, false⟩
theorem saf_fs (room : Int) (q : Nat) (x : List UInt8 × Nat) (safe : Dir) : (safA room q x safe).fs q = x := upd_same _ _ _
theorem saf_find (room : Int) (q : Nat) (x : List UInt8 × Nat) (safe : Dir) : findL (safA room q x safe).dir nmS = some q := rfl
theorem saf_write (room : Int) (xs : List UInt8) (q : Nat) (hr : wrap64 room = room) (hl : (xs.length : Int) ≤ room) : writeL (newL room) nmS xs q = (0, safA room q (xs, 0) []) := by
  unfold writeL
  rw [may_calm _ rfl, free_new, hr, if_neg (by simp), if_neg (by decide), if_neg (by omega)]
  rfl
theorem saf_sync (room : Int) (q : Nat) (x : List UInt8 × Nat) (safe : Dir) : syncL (safA room q x safe) nmS = (0, safA room q (x.1, x.1.length) safe) := by
  unfold syncL callL
  rw [may_calm _ rfl, if_neg (by simp), saf_find]
  show syncR q (safA room q x safe) = _
  unfold syncR
  rw [saf_fs]
  unfold safA
  rw [upd_upd]
theorem saf_flush (room : Int) (q : Nat) (x : List UInt8 × Nat) (safe : Dir) : flushL (safA room q x safe) = (0, safA room q x [(nmS, q)]) := by
  unfold flushL
  rw [may_calm _ rfl, if_neg (by simp)]; rfl
theorem saf_inv (room : Int) (q : Nat) (x : List UInt8) : Inv q x (safA room q (x, x.length) [(nmS, q)]) :=
  ⟨rfl, rfl, fun n f h hn => by simp [safA] at h; exact absurd h.1 hn, fun n f h hn => by simp [safA] at h; exact absurd h.1 hn, saf_fs _ _ _ _⟩
theorem saf_fine (q : Nat) (x : List UInt8) (hx : x.length ≤ 500) : Fine 1 500 (safA 1048576 q (x, x.length) [(nmS, q)]) :=
  ⟨wrap_ok _ (by show _ ≤ (1048576 : Int); decide) (by show (1048576 : Int) ≤ _; decide), Nat.le_refl _, Nat.le_refl _, fun f => by
    by_cases hf : f = q
    · rw [hf, saf_fs]; exact ⟨Nat.le_refl _, hx⟩
    · rw [show (safA 1048576 q (x, x.length) [(nmS, q)]).fs f = ([], 0) from upd_other _ _ _ _ hf]; exact ⟨Nat.le_refl _, Nat.zero_le _⟩, calm_left⟩
theorem min500 (l k : Nat) (h : k = min l 500) (W : World) : (Builtin.min_ #[3, 3] 3 #[.int .i64 (l : Int), .int .i64 500]).run Try.prog W = .ok (.int .i64 (k : Int)) W := by
  rw [Lib.run_min_ints, show min (l : Int) 500 = (k : Int) by omega]
/-- The cells of an operation in a script. -/
theorem OpsAt.get {w : World} {a : Option Addr} {l : List OpD} (h : OpsAt w a l) {i : Nat} (hi : i < l.length) : ∃ (x : Addr) (o : OpD), a = some x ∧ w.cell? (x.add (i * 5)) = some (.int .i64 o.kd) ∧ w.cell? ⟨(x.add (i * 5)).block, (x.add (i * 5)).off + 1, none⟩ = some (.int .i64 o.ni) ∧ w.cell? ⟨(x.add (i * 5)).block, (x.add (i * 5)).off + 2, none⟩ = some (.int .i64 o.ti) ∧ w.cell? ⟨(x.add (i * 5)).block, (x.add (i * 5)).off + 3, none⟩ = some (.int .i64 o.n) ∧ w.cell? ⟨(x.add (i * 5)).block, (x.add (i * 5)).off + 4, none⟩ = some (.slice o.A o.bs.length o.c) ∧ SrcAt w (.slice o.A o.bs.length o.c) o.bs ∧ o.wf ∧ l[i]? = some o := by
  obtain ⟨x, e, hc, hs, hw⟩ := h.2 i l[i] (List.getElem?_eq_getElem hi)
  exact ⟨x, l[i], e, hc 0 _ rfl, by rw [← add_field _ _ 1 (by omega)]; exact hc 1 _ rfl, by rw [← add_field _ _ 2 (by omega)]; exact hc 2 _ rfl, by rw [← add_field _ _ 3 (by omega)]; exact hc 3 _ rfl, by rw [← add_field _ _ 4 (by omega)]; exact hc 4 _ rfl, hs, hw, List.getElem?_eq_getElem hi⟩
theorem OpsAt.below {w w' : World} {a : Option Addr} {l : List OpD} (h : OpsAt w a l) (hb : Below w.heap.size w w') : OpsAt w' a l := by
  refine ⟨h.1, fun i o hi => ?_⟩
  obtain ⟨x, e, hc, hs, hw⟩ := h.2 i o hi
  exact ⟨x, e, fun j u hu => pw_cell_below hb (hc j u hu), hs.below hb, hw⟩

end Go.Proofs.Ytgpinkgfgkolfaa.PD
