/- maps.Clone; Disk.New, Fail, Flush walked. -/
import Derived.Test.YtgpinkgfgkolfaaWrite
import Derived.Shelf.SlMaps.Clone
import Derived.Carry
namespace Go.Proofs.Ytgpinkgfgkolfaa.PD
open Go.RowKit Go.Proofs.YtgpinkgfgkolfaaW.PrintWords Go.Proofs.YtgpinkgfgkolfaaW.PrintLast Go.Proofs.YtgpinkgfgkolfaaW.PrintMore
set_option linter.unusedVariables false
set_option linter.unusedSimpArgs false
set_option maxHeartbeats 4000000
set_option maxRecDepth 100000

open Go.Proofs
theorem mclone_calls (b : Nat) (l : Dir) (w : World) (hm : MapL w b l) :
    Calls Try.prog 27 #[.map (some b)] w fun e w' => e = .returned (.map (some w.heap.size)) ∧ MapL w' w.heap.size l ∧ Below w.heap.size w w' := by
  obtain ⟨es, clock, hb, h2⟩ := hm
  have hq := fun w => run_eql_map_nil_sl (P := Try.prog) w 57 _ _ (some b) Try.underlying57
  have HFIN := Aside0.mk (show MapL (w.alloc (.map es clock)) w.heap.size l from ⟨es, clock, (MapKept.heap_alloc w _).1, h2⟩)
  clear h2
  go_enter Try.func27, Try.ntmps27
  go_wp2_with fail
  rw [run_callFunc_extern Try.func49 (by kernel_rfl) (by kernel_rfl) (by kernel_rfl) (e := Extern.MapsClone.clone) (by kernel_rfl), run_maps_clone_sl w 57 hb]
  simp only [Result.andThen]
  rw [Oper.upon_value]
  go_wp2_with fail
  rw [run_typeAssert_map_sl _ 57 20 _ _ _ Try.underlying57]
  simp only [Result.andThen]
  rw [Oper.upon_value]
  go_wp2_with fail
  go_ret
  exact ⟨rfl, HFIN.out, below_alloc (Below.refl _ _) _⟩
def flushL (A : Ab) : Int × Ab := if (mayL A).1 = false then (171, (mayL A).2.2) else (0, { (mayL A).2.2 with safe := (mayL A).2.2.dir })
/-- The safe directory is another one. -/
theorem DiskB.resafe {w w' : World} {ok : Nat → Prop} {d bd bs bs' : Nat} {tg : Nat → Nat} {A : Ab} (h : DiskB w ok d bd bs tg A) (hb : Below w.heap.size w w') (ho : ok bs') (hne : w.heap.size ≤ bs') (hm : MapL w' bs' A.dir) :
    DiskB (w'.setCell ⟨d, 2, none⟩ (.map (some bs'))) ok d bd bs' tg { A with safe := A.dir } := by
  have hdl := h.lt
  have hb1 := h.below hb
  have hn := hb1.ne
  obtain ⟨h1, h2, h3, h4, h5, h6, h7, h8⟩ := hb1
  have hin : ∀ f, In { A with safe := A.dir } f → In A f := fun f hf => by
    rcases hf with h | h
    · exact .inl h
    · exact .inl h
  have hfd := fun f hf => (h.below hb).fne (f := f) hf
  have hml := h.2.2.2.2.2.1.lt
  refine ⟨h1, h2, ho, by omega, heap_put h5 (i := 2) _ rfl, h6.keep (Below.heap_setCell _ _ _ _ hn.1), hm.keep (Below.heap_setCell _ _ _ _ (by show bs' ≠ d; omega)), fun f hf => ?_⟩
  refine (h8 f (hin f hf)).keep (Below.heap_setCell _ _ _ _ (hfd f (hin f hf))) (fun q cur _ _ hq => Below.heap_setCell _ _ _ _ (fun e => ?_))
  have e' : q = d := e
  rw [e', h5] at hq
  simp only [Option.some.injEq, Obj.cells.injEq] at hq
  exact absurd hq.2.1 (by decide)
set_option maxHeartbeats 4000000 in
theorem flush_calls (ok : Nat → Prop) (d : Nat) (A : Ab) (w : World) (h : DiskAt w ok d A) (hfresh : ∀ k, w.heap.size ≤ k → ok k) (hleft : -9223372036854775808 ≤ A.left ∧ A.left ≤ 9223372036854775807) :
    Calls Try.prog 11 #[fptr d] w fun e w' => e = .returned (.int .i64 (flushL A).1) ∧ DiskAt w' ok d (flushL A).2 ∧ Kp ok w w' := by
  have HM := Aside0.mk (may_calls ok d A w h hleft)
  obtain ⟨s1, s2, s3, s4⟩ := mayL_same A
  obtain ⟨mb, mf, A1, hma⟩ : ∃ mb mf A1, mayL A = (mb, mf, A1) := ⟨_, _, _, rfl⟩
  rw [hma] at HM s1
  have s1' : A1.dir = A.dir := s1
  have HW := Aside0.mk (show flushL A = if mb = false then (171, A1) else (0, { A1 with safe := A1.dir }) by unfold flushL; rw [hma])
  have HF := Aside0.mk hfresh
  clear h hma s1 s1' s2 s3 s4 hleft hfresh
  generalize flushL A = R at *
  cases mb with
  | false =>
    rw [if_pos rfl] at HW
    go_enter Try.func11, Try.ntmps11
    go_wp2_with fail
    refine HM.out.mono ?_
    rintro _ w1 ⟨rfl, hD1, hk1⟩
    have HD1 := Aside0.mk hD1
    have HK1 := Aside0.mk hk1
    clear hD1 hk1 HM
    go_wp2_with fail
    go_ret
    exact ⟨by rw [HW.out]; rfl, by rw [HW.out]; exact HD1.out, HK1.out⟩
  | true =>
    rw [if_neg (by decide)] at HW
    go_enter Try.func11, Try.ntmps11
    go_wp2_with fail
    refine HM.out.mono ?_
    rintro _ w1 ⟨rfl, hD1, hk1⟩
    obtain ⟨bd, bs, tg, hD⟩ := hD1
    have c1 : w1.cell? ⟨d, 1, none⟩ = some (.map (some bd)) := hD.cell 1
    have HC := Aside0.mk (mclone_calls bd A1.dir w1 hD.2.2.2.2.2.1)
    have HD := Aside0.mk hD
    have HK1 := Aside0.mk hk1
    clear hD hk1 HM
    go_wp2_with fail
    refine HC.out.mono ?_
    rintro _ w2 ⟨rfl, hm2, hb2⟩
    have hD2 := HD.out.below hb2
    have c2 : w2.cell? ⟨d, 2, none⟩ = some (.map (some bs)) := hD2.cell 2
    have f2 := hD2.free 2
    have HD2 := Aside0.mk (HD.out.resafe hb2 (HF.out w1.heap.size (by have := HK1.out.size; omega)) (Nat.le_refl _) hm2)
    have HK2 := Aside0.mk (Kp.setCell (ok := ok) (HK1.out.trans (Kp.of_below hb2)) (p := ⟨d, 2, none⟩) HD.out.1 (.map (some w1.heap.size)))
    clear hD2 hm2 hb2 c1 HC
    go_wp2_with fail
    go_ret
    exact ⟨by rw [HW.out]; rfl, by rw [HW.out]; exact ⟨bd, _, tg, HD2.out⟩, HK2.out⟩
def failL (A : Ab) (n : Int) : Ab := { A with fl := true, left := n, torn := false }
set_option maxHeartbeats 4000000 in
theorem fail_calls (ok : Nat → Prop) (d : Nat) (A : Ab) (n : Int) (w : World) (h : DiskAt w ok d A) :
    Calls Try.prog 14 #[fptr d, .int .i64 n] w fun e w' => e = .returned (.tuple #[]) ∧ DiskAt w' ok d (failL A n) ∧ Kp ok w w' := by
  obtain ⟨bd, bs, tg, h⟩ := h
  have c3 : w.cell? ⟨d, 3, none⟩ = some (.bool A.fl) := h.cell 3
  have c4 : w.cell? ⟨d, 4, none⟩ = some (.int .i64 A.left) := h.cell 4
  have c5 : w.cell? ⟨d, 5, none⟩ = some (.bool A.torn) := h.cell 5
  have f3 := h.free 3
  have f4 := h.free 4
  have f5 := h.free 5
  have h1 := heap_put h.2.2.2.2.1 (i := 3) (.bool true) (cs' := cellsD { A with fl := true } bd bs) rfl
  have h2 := heap_put h1 (i := 4) (.int .i64 n) (cs' := cellsD { A with fl := true, left := n } bd bs) rfl
  have h3 := heap_put h2 (i := 5) (.bool false) (cs' := cellsD (failL A n) bd bs) rfl
  have HD := Aside0.mk (h.turn (A' := failL A n) rfl rfl rfl h3 (fun k _ hk => (Below.heap_setCell _ _ _ _ hk).trans ((Below.heap_setCell _ _ _ _ hk).trans (Below.heap_setCell _ _ _ _ hk))))
  have HK := Aside0.mk (Kp.setCell (ok := ok) (Kp.setCell (Kp.setCell (Kp.refl ok w) (p := ⟨d, 3, none⟩) h.1 (.bool true)) (p := ⟨d, 4, none⟩) h.1 (.int .i64 n)) (p := ⟨d, 5, none⟩) h.1 (.bool false))
  have d4 : (w.setCell ⟨d, 3, none⟩ (.bool true)).frozen? ⟨d, 4, none⟩ = false := Lib.frozen_of_heap h1 4
  have d5 : ((w.setCell ⟨d, 3, none⟩ (.bool true)).setCell ⟨d, 4, none⟩ (.int .i64 n)).frozen? ⟨d, 5, none⟩ = false := Lib.frozen_of_heap h2 5
  have e4 : (w.setCell ⟨d, 3, none⟩ (.bool true)).cell? ⟨d, 4, none⟩ = some (.int .i64 A.left) := by simp [World.cell?, h1, cellsD]
  have e5 : ((w.setCell ⟨d, 3, none⟩ (.bool true)).setCell ⟨d, 4, none⟩ (.int .i64 n)).cell? ⟨d, 5, none⟩ = some (.bool A.torn) := by simp [World.cell?, h2, cellsD]
  clear h h1 h2 h3
  go_enter Try.func14, Try.ntmps14
  go_wp2_with fail
  go_end0
  exact ⟨rfl, ⟨bd, bs, tg, HD.out⟩, HK.out⟩
def newL (room : Int) : Ab := ⟨room, [], [], fun _ => ([], 0), false, 0, false⟩
set_option maxHeartbeats 4000000 in
theorem new_calls (ok : Nat → Prop) (room : Int) (w : World) (hfresh : ∀ k, w.heap.size ≤ k → ok k) (h0 : 0 ≤ room) :
    Calls Try.prog 8 #[.int .i64 room] w fun e w' => ∃ d, e = .returned (.tuple #[fptr d, .int .i64 0]) ∧ DiskAt w' ok d (newL room) ∧ Below w.heap.size w w' := by
  have q : decide (room < 0) = false := decide_eq_false (by omega)
  obtain ⟨w1, hw1⟩ : ∃ W, W = w.alloc (.map #[] 0) := ⟨_, rfl⟩
  obtain ⟨w2, hw2⟩ : ∃ W, W = w1.alloc (.map #[] 0) := ⟨_, rfl⟩
  obtain ⟨w3, hw3⟩ : ∃ W, W = w2.alloc (.cells (cellsD (newL room) w.heap.size w1.heap.size) 59) := ⟨_, rfl⟩
  have s1 : w1.heap.size = w.heap.size + 1 := by rw [hw1]; simp
  have s2 : w2.heap.size = w.heap.size + 2 := by rw [hw2]; simp [s1]
  have m1 : MapL w1 w.heap.size [] := by rw [hw1]; exact MapL.made w
  have m2 : MapL w2 w1.heap.size [] := by rw [hw2]; exact MapL.made w1
  have b2 : Below w1.heap.size w1 w2 := by rw [hw2]; exact below_alloc (Below.refl _ _) _
  have b3 : Below w2.heap.size w2 w3 := by rw [hw3]; exact below_alloc (Below.refl _ _) _
  have HD := Aside0.mk (show DiskAt w3 ok w2.heap.size (newL room) from ⟨w.heap.size, w1.heap.size, fun _ => 0, hfresh _ (by omega), hfresh _ (by omega), hfresh _ (by omega), by omega, by rw [hw3]; exact heap_alloc_new w2 _,
    (m1.keep (b2.block _ (by omega))).keep (b3.block _ (by omega)), m2.keep (b3.block _ (by omega)), fun f hf => by rcases hf with ⟨n, h⟩ | ⟨n, h⟩ <;> cases h⟩)
  have HB := Aside0.mk (show Below w.heap.size w w3 from (show Below w.heap.size w w1 by rw [hw1]; exact below_alloc (Below.refl _ _) _).trans ((b2.mono (by omega)).trans (b3.mono (by omega))))
  have HE := Aside0.mk (show w3 = ((w.alloc (.map #[] 0)).alloc (.map #[] 0)).alloc (.cells #[.int .i64 room, .map (some w.heap.size), .map (some (w.heap.size + 1)), .bool false, .int .i64 0, .bool false] 59) by rw [hw3, hw2, s1, hw1]; rfl)
  have hmm := @run_makeMap Try.prog
  clear s1 m1 m2 b2 b3 hw1 hw2 hw3 h0
  have HS := Aside0.mk s2
  clear s2
  go_enter Try.func8, Try.ntmps8
  go_wp2_with fail
  go_ret2
  refine ⟨w2.heap.size, ?_, ?_, ?_⟩
  · rw [HS.out]; rfl
  · rw [← HE.out]; exact HD.out
  · rw [← HE.out]; exact HB.out

end Go.Proofs.Ytgpinkgfgkolfaa.PD
