/- Disk.Remove, Rename walked. -/
import Derived.Test.YtgpinkgfgkolfaaSync
import Derived.StillTailTactics
namespace Go.Proofs.Ytgpinkgfgkolfaa.PD
open Go.RowKit Go.Proofs.YtgpinkgfgkolfaaW.PrintWords Go.Proofs.YtgpinkgfgkolfaaW.PrintLast Go.Proofs.YtgpinkgfgkolfaaW.PrintMore
set_option linter.unusedVariables false
set_option linter.unusedSimpArgs false
set_option maxHeartbeats 4000000
set_option maxRecDepth 100000

open Go.Proofs
theorem wpList_delete_run {P : Program} {ops : Array Oper} {rest : List Oper} {o : Oper} {a : Act} {Q : Exit → Act → World → Prop} {w : World} (hg : o.guard = none) (m x : Operand) (t k : TypeId)
    (hop : o.op = Op.call { callee := Callee.builtin Builtin.delete, args := #[m, x], argTypes := #[t, k] }) (mv xv v1 : Value) (w1 : World) (hs : a.eval m = mv) (hx : a.eval x = xv) (hrun : (Builtin.delete_ #[t, k] o.type #[mv, xv]).run P w = .ok v1 w1)
    (hK : wpList P ops Q rest (a.put o.dst v1) w1) : wpList P ops Q (o :: rest) a w := by
  refine wpList_plain hg fun K' hK' => ?_
  unfold Oper.wp
  simp [execOp, hop, resolve, invoke, builtin, hs, hx, hrun, Result.andThen]
  exact hK' _ _ hK
theorem DiskB.drew {w : World} {ok : Nat → Prop} {d bd bs : Nat} {tg : Nat → Nat} {A : Ab} (h : DiskB w ok d bd bs tg A) : DiskB w.drew ok d bd bs tg A := h.below (below_drew (Below.refl _ _))
theorem DiskB.cut {w : World} {ok : Nat → Prop} {d bd bs : Nat} {tg : Nat → Nat} {A : Ab} (h : DiskB w ok d bd bs tg A) (nm : ByteArray) (hnm : nm.size ≤ maxLen) (ty : TypeId) :
    ∃ w', (Builtin.delete_ #[57, 9] ty #[.map (some bd), .string nm]).run Try.prog w = .ok (.tuple #[]) w' ∧ DiskB w' ok d bd bs tg { A with dir := delL A.dir nm.data.toList } ∧ Kp ok w w' := by
  obtain ⟨w', h1, h2, h3, h4⟩ := h.2.2.2.2.2.1.drop nm hnm ty
  exact ⟨w', h1, h.link (fun n f hm => .inl (.inl ⟨n, del_mem hm⟩)) h2 (fun k hk hkb => h3.block k hk (fun e => hkb (Option.some.inj e))), Kp.of_grown h3 (fun k e => by cases e; exact h.2.1)⟩
/-- A box of one value, that nobody else has. -/
def Box (w : World) (b : Nat) (v : Value) (t : TypeId) : Prop := w.heap[b]? = some (.cells #[v] t (0, 0))
theorem Box.kp {w w' : World} {ok : Nat → Prop} {b : Nat} {v : Value} {t : TypeId} (h : Box w b v t) (hk : Kp ok w w') (hb : ¬ ok b) : Box w' b v t := (hk.block b (Array.getElem?_eq_some_iff.1 h).1 hb).trans h
theorem Box.cell {w : World} {b : Nat} {v : Value} {t : TypeId} (h : Box w b v t) : w.cell? ⟨b, 0, none⟩ = some v := by
  unfold Box at h
  simp [World.cell?, h]
def remR (nm : Nm) (_ : Nat) (A : Ab) : Int × Ab := (0, { A with dir := delL A.dir nm })
set_option maxHeartbeats 4000000 in
theorem remove1_calls (ok : Nat → Prop) (d : Nat) (A : Ab) (f p1 p2 : Nat) (nm : ByteArray) (w : World) (h : DiskAt w ok d A) (hnm : nm.size ≤ maxLen) (b1 : Box w p1 (fptr d) 24) (b2 : Box w p2 (.string nm) 9) :
    Calls Try.prog 29 #[fptr f, fptr p1, fptr p2] w fun e w' => e = .returned (.int .i64 (remR nm.data.toList f A).1) ∧ DiskAt w' ok d (remR nm.data.toList f A).2 ∧ Kp ok w w' := by
  obtain ⟨bd, bs, tg, h⟩ := h
  obtain ⟨w', hrun, hD, hk⟩ := h.drew.cut nm hnm 0
  have c1 := h.cell 1
  rw [show (cellsD A bd bs)[1]? = some (.map (some bd)) from rfl] at c1
  have q1 := b1.cell
  have q2 := b2.cell
  have HD := Aside0.mk hD
  have HK := Aside0.mk ((Kp.of_below (ok := ok) (below_drew (Below.refl w.heap.size w))).trans hk)
  have HRUN := Aside0.mk hrun
  have HS := Aside0.mk (show remR nm.data.toList f A = (0, { A with dir := delL A.dir nm.data.toList }) from rfl)
  generalize remR nm.data.toList f A = RR at *
  clear h hD hk hrun b1 b2 hnm
  go_enter Try.func29, Try.ntmps29
  go_wp2_with fail
  go_still_tail 5, (by kernel_rfl)
  change wpList _ _ _ _ _ w.drew
  go_wp2_with (at_delete; refine wpList_delete_run rfl _ _ 57 9 rfl _ _ _ _ rfl rfl HRUN.out ?_)
  go_ret
  exact ⟨by rw [HS.out]; rfl, by rw [HS.out]; exact ⟨bd, bs, tg, HD.out⟩, HK.out⟩
def remL (A : Ab) (nm : Nm) : Int × Ab := callL A nm (remR nm)
set_option maxHeartbeats 4000000 in
theorem remove_calls (ok : Nat → Prop) (d : Nat) (A : Ab) (nm : ByteArray) (w : World) (h : DiskAt w ok d A) (hfresh : ∀ k, w.heap.size ≤ k → ok k) (hnm : nm.size ≤ maxLen) (hleft : -9223372036854775808 ≤ A.left ∧ A.left ≤ 9223372036854775807) :
    Calls Try.prog 12 #[fptr d, .string nm] w fun e w' => e = .returned (.int .i64 (remL A nm.data.toList).1) ∧ DiskAt w' ok d (remL A nm.data.toList).2 ∧ Kp ok w w' := by
  obtain ⟨w1, hw1⟩ : ∃ W, W = w.alloc (.cells #[fptr d] 24) := ⟨_, rfl⟩
  obtain ⟨w2, hw2⟩ : ∃ W, W = w1.alloc (.cells #[.string nm] 9) := ⟨_, rfl⟩
  have s1 : w1.heap.size = w.heap.size + 1 := by rw [hw1]; simp
  have s2 : w2.heap.size = w.heap.size + 2 := by rw [hw2]; simp [s1]
  have bb1 : Below w.heap.size w w1 := by rw [hw1]; exact below_alloc (Below.refl _ _) _
  have bb2 : Below w1.heap.size w1 w2 := by rw [hw2]; exact below_alloc (Below.refl _ _) _
  have b1 : Box w2 w.heap.size (fptr d) 24 := (bb2.block _ (by omega)).trans (by rw [hw1]; exact heap_alloc_new w _)
  have b2 : Box w2 (w.heap.size + 1) (.string nm) 9 := by unfold Box; rw [hw2, ← s1]; exact heap_alloc_new w1 _
  have hB := bb1.trans (bb2.mono (by omega))
  have hD2 : DiskAt w2 (fun k => ok k ∧ k ≠ w.heap.size ∧ k ≠ w.heap.size + 1) d A := (h.mono (fun k hk ho => ⟨ho, by omega, by omega⟩)).keep (fun k hk _ => hB.block k hk)
  have HC := Aside0.mk (call_remove _ d A nm w.heap.size (w.heap.size + 1) (remR nm.data.toList) w2 hD2 hnm hleft (fun W f hf hW hk => remove1_calls _ d _ f w.heap.size (w.heap.size + 1) nm W hW hnm (b1.kp hk (fun e => e.2.1 rfl)) (b2.kp hk (fun e => e.2.2 rfl))))
  rw [show callL A nm.data.toList (remR nm.data.toList) = remL A nm.data.toList from rfl] at HC
  have HB := Aside0.mk hB
  have HE := Aside0.mk (show w2 = (w.alloc (.cells #[fptr d] 24)).alloc (.cells #[.string nm] 9) by rw [hw2, hw1])
  generalize remL A nm.data.toList = RR at *
  have q1 := b1.cell
  have q2 := b2.cell
  rw [HE.out] at q1 q2
  clear h hfresh hnm hleft hw1 hw2 s1 s2 bb1 bb2 b1 b2 hB hD2
  go_enter Try.func12, Try.ntmps12
  go_wp2_with fail
  rw [← HE.out]
  refine HC.out.mono ?_
  rintro _ w3 ⟨rfl, hD3, hk3⟩
  have HD3 := Aside0.mk (hD3.mono (fun k _ ho => ho.1))
  have HK3 := Aside0.mk ((Kp.of_below (ok := ok) HB.out).trans (hk3.mono (fun k ho => ho.1)))
  clear hD3 hk3 HC
  go_wp2_with fail
  go_ret
  exact ⟨rfl, HD3.out, HK3.out⟩
def renR (nm tn : Nm) (f : Nat) (A : Ab) : Int × Ab := if tn = [] then (2, A) else (0, { A with dir := putL (delL A.dir nm) tn f })
theorem del_len (l : Dir) (k : Nm) : (delL l k).length ≤ l.length := List.length_filter_le _ _
set_option maxHeartbeats 4000000 in
theorem rename1_calls (ok : Nat → Prop) (d : Nat) (A : Ab) (f p1 p2 p3 : Nat) (nm tn : ByteArray) (w : World) (h : DiskAt w ok d A) (hf : In A f) (hnm : nm.size ≤ maxLen) (hto : tn.size ≤ maxLen) (hdl : A.dir.length < maxLen) (b1 : Box w p1 (.string tn) 9) (b2 : Box w p2 (fptr d) 24) (b3 : Box w p3 (.string nm) 9)
    (ho : ¬ ok p1 ∧ ¬ ok p2 ∧ ¬ ok p3) :
    Calls Try.prog 31 #[fptr f, fptr p1, fptr p2, fptr p3] w fun e w' => e = .returned (.int .i64 (renR nm.data.toList tn.data.toList f A).1) ∧ DiskAt w' ok d (renR nm.data.toList tn.data.toList f A).2 ∧ Kp ok w w' := by
  obtain ⟨bd, bs, tg, h⟩ := h
  have q1 := b1.cell
  have het : tn.toList = tn.data.toList := Lib.toList_data tn
  by_cases ht : tn.data.toList = []
  · have e1 : tn.toList.isEmpty = true := by rw [het, ht]; rfl
    have e2 : (tn.toList == []) = true := by rw [het, ht]; rfl
    have HS := Aside0.mk (show renR nm.data.toList tn.data.toList f A = (2, A) from if_pos ht)
    have HD := Aside0.mk h
    generalize renR nm.data.toList tn.data.toList f A = RR at *
    clear h hf hnm hto hdl b1 b2 b3 ht het
    go_enter Try.func31, Try.ntmps31
    go_wp2_with fail
    go_ret
    exact ⟨by rw [HS.out]; rfl, by rw [HS.out]; exact ⟨bd, bs, tg, HD.out⟩, Kp.refl _ _⟩
  · have e1 : tn.toList.isEmpty = false := by rw [het]; cases h : tn.data.toList with | nil => exact absurd h ht | cons => rfl
    have e2 : (tn.toList == []) = false := by rw [het]; exact beq_eq_false_iff_ne.2 ht
    obtain ⟨w1, hrun, hD1, hk1⟩ := h.drew.cut nm hnm 0
    have hD1' := hD1.drew
    obtain ⟨w2, hrun2, hm2, hg2, -⟩ := hD1'.2.2.2.2.2.1.store tn hto f (by have := del_len A.dir nm.data.toList; show (delL A.dir nm.data.toList).length < maxLen; omega)
    have hfile1 := h.2.2.2.2.2.2.2 f hf
    have hfile2 : FileAt w1.drew ok tg f (A.fs f) := by
      -- the file stands: deleting a name turns the map's block alone
      obtain ⟨es, ck, he⟩ := h.drew.2.2.2.2.2.1.isMap
      obtain ⟨w1', hr', hm', hg', -⟩ := h.drew.2.2.2.2.2.1.drop nm hnm 0
      rw [hrun] at hr'
      injection hr' with _ hr'
      subst hr'
      have hfd := hfile1.keep (w' := w.drew) rfl (fun _ _ _ _ _ => rfl)
      refine (hfd.keep (w' := w1) (hg'.block f hfd.lt (fun e => ?_)) (fun g cur _ _ hg => hg'.block g (Array.getElem?_eq_some_iff.1 hg).1 (fun e => ?_))).keep rfl (fun _ _ _ _ _ => rfl)
      · obtain ⟨_, u, hu, _⟩ := hfd
        have e' := Option.some.inj e
        rw [e', he] at hu; cases hu
      · have e' := Option.some.inj e
        rw [e', he] at hg; cases hg
    have hD2 := hD1'.link (w' := w2) (l := putL (delL A.dir nm.data.toList) tn.data.toList f) (fun n g hm => by
      rcases put_mem hm with hh | hh
      · cases hh; exact .inr hfile2
      · exact .inl (.inl ⟨n, hh⟩)) hm2 (fun k hk hkb => hg2.block k hk (fun e => hkb (Option.some.inj e)))
    have hkk : Kp ok w w1.drew := ((Kp.of_below (ok := ok) (below_drew (Below.refl w.heap.size w))).trans hk1).trans (Kp.of_below (below_drew (Below.refl _ _)))
    have HK := Aside0.mk (hkk.trans (Kp.of_grown hg2 (fun k e => by cases e; exact h.2.1)))
    have q2 := b2.cell
    have q3 := b3.cell
    have hk1' : Kp ok w w1 := (Kp.of_below (ok := ok) (below_drew (Below.refl w.heap.size w))).trans hk1
    have r1 := (b1.kp hk1' ho.1).cell
    have r2 := (b2.kp hk1' ho.2.1).cell
    have c1 := h.cell 1
    rw [show (cellsD A bd bs)[1]? = some (.map (some bd)) from rfl] at c1
    have d1 := hD1.cell 1
    rw [show (cellsD { A with dir := delL A.dir nm.data.toList } bd bs)[1]? = some (.map (some bd)) from rfl] at d1
    have HD := Aside0.mk hD2
    have HRUN := Aside0.mk hrun
    have HRUN2 := Aside0.mk hrun2
    have HS := Aside0.mk (show renR nm.data.toList tn.data.toList f A = (0, { A with dir := putL (delL A.dir nm.data.toList) tn.data.toList f }) from if_neg ht)
    generalize renR nm.data.toList tn.data.toList f A = RR at *
    clear h hf hnm hto hdl b1 b2 b3 ht het hD1 hD1' hm2 hg2 hfile1 hfile2 hD2 hkk hk1 hk1' hrun hrun2 ho
    go_enter Try.func31, Try.ntmps31
    go_wp2_with fail
    go_still_tail 5, (by kernel_rfl)
    change wpList _ _ _ _ _ w.drew
    go_wp2_with (at_delete; refine wpList_delete_run rfl _ _ 57 9 rfl _ _ _ _ rfl rfl HRUN.out ?_)
    go_still_tail 6, (by kernel_rfl)
    change wpList _ _ _ _ _ w1.drew
    have hrun2 := HRUN2.out
    go_wp2_with fail
    go_ret
    exact ⟨by rw [HS.out]; rfl, by rw [HS.out]; exact ⟨bd, bs, tg, HD.out⟩, HK.out⟩
def renL (A : Ab) (nm tn : Nm) : Int × Ab := callL A nm (renR nm tn)
set_option maxHeartbeats 4000000 in
theorem rename_calls (ok : Nat → Prop) (d : Nat) (A : Ab) (nm tn : ByteArray) (w : World) (h : DiskAt w ok d A) (hfresh : ∀ k, w.heap.size ≤ k → ok k) (hnm : nm.size ≤ maxLen) (hto : tn.size ≤ maxLen) (hdl : A.dir.length < maxLen) (hleft : -9223372036854775808 ≤ A.left ∧ A.left ≤ 9223372036854775807) :
    Calls Try.prog 15 #[fptr d, .string nm, .string tn] w fun e w' => e = .returned (.int .i64 (renL A nm.data.toList tn.data.toList).1) ∧ DiskAt w' ok d (renL A nm.data.toList tn.data.toList).2 ∧ Kp ok w w' := by
  obtain ⟨w1, hw1⟩ : ∃ W, W = w.alloc (.cells #[fptr d] 24) := ⟨_, rfl⟩
  obtain ⟨w2, hw2⟩ : ∃ W, W = w1.alloc (.cells #[.string nm] 9) := ⟨_, rfl⟩
  obtain ⟨w3, hw3⟩ : ∃ W, W = w2.alloc (.cells #[.string tn] 9) := ⟨_, rfl⟩
  have s1 : w1.heap.size = w.heap.size + 1 := by rw [hw1]; simp
  have s2 : w2.heap.size = w.heap.size + 1 + 1 := by rw [hw2]; simp [s1]
  have s3 : w3.heap.size = w.heap.size + 3 := by rw [hw3]; simp [s2]
  have bb1 : Below w.heap.size w w1 := by rw [hw1]; exact below_alloc (Below.refl _ _) _
  have bb2 : Below w1.heap.size w1 w2 := by rw [hw2]; exact below_alloc (Below.refl _ _) _
  have bb3 : Below w2.heap.size w2 w3 := by rw [hw3]; exact below_alloc (Below.refl _ _) _
  have b1 : Box w3 w.heap.size (fptr d) 24 := (bb3.block _ (by omega)).trans ((bb2.block _ (by omega)).trans (by rw [hw1]; exact heap_alloc_new w _))
  have b2 : Box w3 (w.heap.size + 1) (.string nm) 9 := (bb3.block _ (by omega)).trans (by rw [hw2, ← s1]; exact heap_alloc_new w1 _)
  have b3 : Box w3 (w.heap.size + 1 + 1) (.string tn) 9 := by unfold Box; rw [hw3, ← s2]; exact heap_alloc_new w2 _
  have hB := (bb1.trans (bb2.mono (by omega))).trans (bb3.mono (by omega))
  have hD2 : DiskAt w3 (fun k => ok k ∧ k ≠ w.heap.size ∧ k ≠ w.heap.size + 1 ∧ k ≠ w.heap.size + 1 + 1) d A := (h.mono (fun k hk ho => ⟨ho, by omega, by omega, by omega⟩)).keep (fun k hk _ => hB.block k hk)
  obtain ⟨m1, _, _, _⟩ := mayL_same A
  have HC := Aside0.mk (call_rename _ d A nm (w.heap.size + 1 + 1) w.heap.size (w.heap.size + 1) (renR nm.data.toList tn.data.toList) w3 hD2 hnm hleft (fun W f hf hW hk => rename1_calls _ d _ f (w.heap.size + 1 + 1) w.heap.size (w.heap.size + 1) nm tn W hW (In.may (.inl ⟨_, findL_mem hf⟩)) hnm hto (by rw [m1]; exact hdl) (b3.kp hk (fun e => e.2.2.2 rfl)) (b1.kp hk (fun e => e.2.1 rfl)) (b2.kp hk (fun e => e.2.2.1 rfl)) ⟨fun e => e.2.2.2 rfl, fun e => e.2.1 rfl, fun e => e.2.2.1 rfl⟩))
  rw [show callL A nm.data.toList (renR nm.data.toList tn.data.toList) = renL A nm.data.toList tn.data.toList from rfl] at HC
  have HB := Aside0.mk hB
  have HE := Aside0.mk (show w3 = ((w.alloc (.cells #[fptr d] 24)).alloc (.cells #[.string nm] 9)).alloc (.cells #[.string tn] 9) by rw [hw3, hw2, hw1])
  generalize renL A nm.data.toList tn.data.toList = RR at *
  have q1 := b1.cell
  have q2 := b2.cell
  have q3 := b3.cell
  rw [HE.out] at q1 q2 q3
  clear h hfresh hnm hto hdl hleft hw1 hw2 hw3 s1 s2 s3 bb1 bb2 bb3 b1 b2 b3 hB hD2 m1
  go_enter Try.func15, Try.ntmps15
  go_wp2_with fail
  rw [← HE.out]
  refine HC.out.mono ?_
  rintro _ w4 ⟨rfl, hD3, hk3⟩
  have HD3 := Aside0.mk (hD3.mono (fun k _ ho => ho.1))
  have HK3 := Aside0.mk ((Kp.of_below (ok := ok) HB.out).trans (hk3.mono (fun k ho => ho.1)))
  clear hD3 hk3 HC
  go_wp2_with fail
  go_ret
  exact ⟨rfl, HD3.out, HK3.out⟩

end Go.Proofs.Ytgpinkgfgkolfaa.PD
