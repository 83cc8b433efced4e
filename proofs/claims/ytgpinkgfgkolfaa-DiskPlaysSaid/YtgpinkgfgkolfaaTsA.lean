/- The law's step over both disks whole. -/
import Derived.Test.YtgpinkgfgkolfaaTsC
import Derived.Test.YtgpinkgfgkolfaaTs1
import Derived.Test.YtgpinkgfgkolfaaTsB
import Derived.Test.YtgpinkgfgkolfaaOps
import Derived.Test.YtgpinkgfgkolfaaFlush
import Derived.Sort.KeysCollected
namespace Go.Proofs.Ytgpinkgfgkolfaa.PD
open Go.RowKit Go.Proofs.YtgpinkgfgkolfaaW.PrintWords Go.Proofs.YtgpinkgfgkolfaaW.PrintLast Go.Proofs.YtgpinkgfgkolfaaW.PrintMore
set_option linter.unusedVariables false
set_option linter.unusedSimpArgs false
set_option maxHeartbeats 4000000
set_option maxRecDepth 100000

open Go.Proofs
theorem tstep_calls (B x d k L : Nat) (bs : List UInt8) (A : Ab) (R : Rb) (kd ni ti n : Int) (BA : Option Addr) (c : Nat) (w : World) (h : Twin B w d x A R) (hP : PS k L A R) (hB : B ≤ w.heap.size)
    (hn : -9223372036854775808 ≤ n ∧ n ≤ 9223372036854775807) (hs : ∀ W, Below B w W → SrcAt W (.slice BA bs.length c) bs) (hbl : bs.length ≤ 1000) (hkL : k ≤ 1000000 ∧ L ≤ 1000000) :
    Calls Try.prog 18 #[fptr d, fptr x, opV kd ni ti n BA bs.length c] w fun e w' => e = .returned (.bool true) ∧ TQ B x d k L bs.length w w' := by
  obtain ⟨m, hm, g1'⟩ := u64_tmod kd 9 (by decide)
  have g1 : (IntKind.u64.wrap kd).tmod 9 = (m : Int) := g1'
  match m, hm with
  | 0, _ => exact ts_write B x d k L bs A R kd ni ti n BA c w h hP hB g1 hn hs hbl hkL
  | 1, _ => exact ts_cut B x d k L bs A R kd ni ti n BA c w h hP hB g1 hn hs hbl hkL
  | 2, _ => exact ts_sync B x d k L bs A R kd ni ti n BA c w h hP hB g1 hn hs hbl hkL
  | 3, _ => exact ts_ren B x d k L bs A R kd ni ti n BA c w h hP hB g1 hn hs hbl hkL
  | 4, _ => exact ts_rem B x d k L bs A R kd ni ti n BA c w h hP hB g1 hn hs hbl hkL
  | 5, _ => exact ts_flush B x d k L bs A R kd ni ti n BA c w h hP hB g1 hn hs hbl hkL
  | 6, _ => exact ts_crash B x d k L bs A R kd ni ti n BA c w h hP hB g1 hn hs hbl hkL
  | 7, _ => exact ts_fail B x d k L bs A R kd ni ti n BA c w h hP hB g1 hn hs hbl hkL
  | 8, _ => exact ts_read B x d k L bs A R kd ni ti n BA c w h hP hB g1 hn hs hbl hkL

set_option maxHeartbeats 4000000 in
theorem new_neg (room : Int) (w : World) (h0 : room < 0) : Calls Try.prog 8 #[.int .i64 room] w fun e w' => e = .returned (.tuple #[.pointer none, .int .i64 2]) ∧ Below w.heap.size w w' := by
  have d1 : decide (room < 0) = true := decide_eq_true h0
  go_enter Try.func8, Try.ntmps8
  go_wp2_with fail
  go_ret2
  exact ⟨rfl, Below.refl _ _⟩
/-- The cells of an operation in a script. -/
theorem OpsAt.get {w : World} {a : Option Addr} {l : List OpD} (h : OpsAt w a l) {i : Nat} (hi : i < l.length) : ∃ (x : Addr) (o : OpD), a = some x ∧ w.cell? (x.add (i * 5)) = some (.int .i64 o.kd) ∧ w.cell? ⟨(x.add (i * 5)).block, (x.add (i * 5)).off + 1, none⟩ = some (.int .i64 o.ni) ∧ w.cell? ⟨(x.add (i * 5)).block, (x.add (i * 5)).off + 2, none⟩ = some (.int .i64 o.ti) ∧ w.cell? ⟨(x.add (i * 5)).block, (x.add (i * 5)).off + 3, none⟩ = some (.int .i64 o.n) ∧ w.cell? ⟨(x.add (i * 5)).block, (x.add (i * 5)).off + 4, none⟩ = some (.slice o.A o.bs.length o.c) ∧ SrcAt w (.slice o.A o.bs.length o.c) o.bs ∧ o.wf ∧ l[i]? = some o := by
  obtain ⟨x, e, hc, hs, hw⟩ := h.2 i l[i] (List.getElem?_eq_getElem hi)
  exact ⟨x, l[i], e, hc 0 _ rfl, by rw [← add_field _ _ 1 (by omega)]; exact hc 1 _ rfl, by rw [← add_field _ _ 2 (by omega)]; exact hc 2 _ rfl, by rw [← add_field _ _ 3 (by omega)]; exact hc 3 _ rfl, by rw [← add_field _ _ 4 (by omega)]; exact hc 4 _ rfl, hs, hw, List.getElem?_eq_getElem hi⟩
theorem OpsAt.below {w w' : World} {a : Option Addr} {l : List OpD} (h : OpsAt w a l) (hb : Below w.heap.size w w') : OpsAt w' a l := by
  refine ⟨h.1, fun i o hi => ?_⟩
  obtain ⟨x, e, hc, hs, hw⟩ := h.2 i o hi
  exact ⟨x, e, fun j u hu => pw_cell_below hb (hc j u hu), hs.below hb, hw⟩
theorem names_short {w : World} {ok : Nat → Prop} {d : Nat} {A : Ab} (h : DiskAt w ok d A) {n : Nm} {f : Nat} (hm : (n, f) ∈ A.dir) : n.length ≤ maxLen := by
  obtain ⟨bd, bs, tg, h⟩ := h
  have hown : w.ownsMap Try.prog 9 ptrRd bd A.dir.length (dirD A.dir) := h.2.2.2.2.2.1
  refine Go.strKeys_le hown Try.underlying9 n ?_
  show n ∈ (A.dir.map enc1).map (fun p => Go.strOf p.1)
  rw [List.map_map]
  exact List.mem_map.2 ⟨(n, f), hm, rfl⟩
/-- What a round looks at, when a name is read. -/
theorem PS.look {k L : Nat} {A : Ab} {R : Rb} (h : PS k L A R) {i : Nat} {p : Nm × Nat} (hp : R.dir[i]? = some p) : readL A p.1 = some (fileR R p.2).1 ∧ rreadL R p.1 = some (fileR R p.2).1 ∧ (ncells A.dir)[i]? = some (.string ⟨p.1.toArray⟩) ∧ (∃ f, (p.1, f) ∈ A.dir) := by
  obtain ⟨φ, hr⟩ := h.rel
  have hm : p ∈ R.dir := List.mem_of_getElem? hp
  have e : rreadL R p.1 = some (fileR R p.2).1 := by unfold rreadL; rw [find_of_mem hr.kd (k := p.1) (i := p.2) hm]; rfl
  refine ⟨by rw [hr.read, e], e, ?_, ⟨φ p.2, by rw [hr.dir]; exact List.mem_map.2 ⟨p, hm, rfl⟩⟩⟩
  unfold ncells
  rw [hr.dir, List.map_map, List.getElem?_map, hp]
  rfl
theorem FilesAt.nil (w : World) (ok : Nat → Prop) (tg : Nat → Nat) : FilesAt w ok tg (.slice none 0 0) [] := ⟨[], rfl, World.ownsRow_nil w 0 _ 2, fun g hg => (by cases hg), fun i u y hu => (by simp at hu)⟩
theorem PS.len {k L : Nat} {A : Ab} {R : Rb} (h : PS k L A R) : A.dir.length = R.dir.length := by
  obtain ⟨φ, hr⟩ := h.rel
  rw [hr.dir, List.length_map]
theorem PS.free {k L : Nat} {A : Ab} {R : Rb} (h : PS k L A R) : freeL A = rfreeL R := by
  obtain ⟨φ, hr⟩ := h.rel
  exact hr.free

end Go.Proofs.Ytgpinkgfgkolfaa.PD
