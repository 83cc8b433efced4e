/- value.PutText, walked. -/
import Derived.Test.YtdjdbmopckhcdaaRepl
import Derived.Laws.NewBlocks
namespace Go.Proofs.Ytdjdbmopckhcdaa.PV
open Go.RowKit Go.Proofs.YtdjdbmopckhcdaaW.PrintWords Go.Proofs.YtdjdbmopckhcdaaW.PrintLast Go.Proofs.YtdjdbmopckhcdaaW.PrintMore
open Go.Proofs
set_option linter.unusedVariables false
set_option linter.unusedSimpArgs false
set_option maxHeartbeats 4000000
set_option maxRecDepth 100000

theorem info82 : (Try.prog.info? 82).map (fun i => (i.zero, i.size)) = some (some (.agg #[.int .u32 0, .int .i32 0, .int .u32 0, .nilIface, .slice none 0 0]), 5) := by kernel_rfl
theorem run_build82 (a : Option Addr) (n c : Nat) (W : World) : (Instr.build 82 #[(2, .slice a n c)]).run Try.prog W = .ok (.agg #[.int .u32 0, .int .i32 0, .int .u32 0, .nilIface, .slice a n c]) W := by kernel_rfl
def RNew (W : World) (base R s : Nat) : Prop := base ≤ R ∧ ∃ o cap, W.heap[R]? = some (.cells #[.int .u32 0, .int .i32 s, .int .u32 0, .nilIface, .slice (some ⟨o, 0, none⟩) 8 cap] 82 (0, 0)) ∧ ∀ (j : Nat) x, olds[j]? = some x → W.cell? ⟨o, j, none⟩ = some (.string x)
set_option maxHeartbeats 8000000 in
theorem new_calls (W : World) (o : Nat) (hs : ∀ (j : Nat) x, olds[j]? = some x → W.cell? ⟨o, j, none⟩ = some (.string x)) :
    Calls Try.prog 27 #[.slice (some ⟨o, 0, none⟩) 8 8] W fun e w' => ∃ R, e = .returned (.pointer (some ⟨R, 0, none⟩)) ∧ RNew w' W.heap.size R 0 ∧ Below W.heap.size W w' := by
  have HS := Aside0.mk hs
  have HRd := Aside0.mk (show ReadsOf Value.string (⟨#[]⟩ : ByteArray) W (some ⟨o, 0, none⟩) 8 olds from ⟨rfl, by decide, fun _ => ⟨_, rfl, fun j hj => by
    have h1 : j < olds.length := hj
    have hadd : (⟨o, 0, none⟩ : Addr).add j = ⟨o, j, none⟩ := by unfold Addr.add; split <;> simp_all
    rw [hadd, hs j olds[j] (List.getElem?_eq_getElem h1), List.getD_eq_getElem?_getD, List.getElem?_eq_getElem h1]
    rfl⟩⟩)
  have hbd := run_build82
  have hrem : ∀ w : World, (binOp .rem 3 (.int .i64 8) (.int .i64 2)).run Try.prog w = .ok (.int .i64 0) w := fun w => by kernel_rfl
  clear hs
  go_enter Try.func27, Try.ntmps27
  go_wp2_with (first
    | (at_builtin
       refine print_append_row_of (w0 := W) Value.string (⟨#[]⟩ : ByteArray) W.heap.size rfl (.const (.slice none 0 0)) (.tmp 8) 29 9 (.string ⟨#[]⟩) 16 rfl Try.underlying29 infoS9 rfl (by decide) (fun _ => rfl) (.slice none 0 0) [] olds (some ⟨o, 0, none⟩) 8 8 rfl rfl (World.ownsRow_nil _ _ _ _) HRd.out (Below.refl _ _) (Nat.le_refl _) (by decide) ?_
       intro v1 w1 hO hB hg hat
       rw [List.nil_append] at hO
       have HO := Aside0.mk hO
       have HB := Aside0.mk hB
       obtain ⟨A, k, rfl⟩ := Kd.R_slice (Kd.R_of_own (h1 := fun _ => rfl) (ok := fun _ => True) hO (fun _ _ => trivial))
       clear hO hB hg hat)
    | fail)
  go_ret
  have hlen : olds.length = 8 := rfl
  rcases HO.out.2 with ⟨_, h0⟩ | ⟨g, cap, cur, e, hb, hgb, _⟩
  · exact absurd h0 (by decide)
  · injection e with e1 e2 e3
    subst e1
    subst e3
    refine ⟨w1.heap.size, rfl, ⟨HB.out.size, g, k, heap_alloc_new w1 _, fun j x hj => ?_⟩, below_alloc HB.out _⟩
    have hl : j < 8 := (List.getElem?_eq_some_iff.1 hj).1
    have h4 := World.ownsRow.cellAt (n := 8) HO.out j (by omega)
    have hlt : g < w1.heap.size := (Array.getElem?_eq_some_iff.1 hgb).1
    have h5 : (w1.alloc (.cells #[.int .u32 0, .int .i32 0, .int .u32 0, .nilIface, .slice (some ⟨g, 0, none⟩) 8 k] 82)).cell? ⟨g, j, none⟩ = w1.cell? ⟨g, j, none⟩ := World.cell?_alloc_past _ _ _ hlt
    refine Eq.trans h5 (h4.trans ?_)
    simp [encs, hj]
theorem RNew.lock {W : World} {base R : Nat} (h : RNew W base R 0) : RNew (W.setCell ⟨R, 1, none⟩ (.int .i32 1)) base R 1 := by
  obtain ⟨hb, o, cap, hR, hs⟩ := h
  have hne : o ≠ R := by
    rintro rfl
    have h1 := hs 0 _ rfl
    rw [blk_cell hR 0] at h1
    cases h1
  refine ⟨hb, o, cap, blk_set hR 1 _, fun j x hj => ?_⟩
  rw [World.cell?_setCell_other _ _ _ _ (fun h => hne (congrArg Addr.block h).symm)]
  exact hs j x hj
def RDone (W : World) (base R d s : Nat) : Prop := base ≤ R ∧ ∃ g C v, W.heap[R]? = some (.cells #[.int .u32 d, .int .i32 s, .int .u32 0, .iface 105 (.pointer (some ⟨g, 0, none⟩)), .slice none 0 0] 82 (0, 0)) ∧ BSt W base g C v (tops 0) (dones 0)
theorem own_lower {w : World} {base base' : Nat} {e : TypeId} {size n : Nat} {v : Value} {xs : List Value} (h : w.ownsRow base e size v n xs) (hb : base' ≤ base) : w.ownsRow base' e size v n xs := by
  refine ⟨h.1, ?_⟩
  rcases h.2 with h' | ⟨g, cap, cur, a, b, c⟩
  · exact .inl h'
  · exact .inr ⟨g, cap, cur, a, Nat.le_trans hb b, c⟩
theorem BSt.lower {W : World} {base base' g : Nat} {C : Array Value} {v : Value} {T : List ByteArray} {done : Nat → Option (UInt8 × UInt8)} (h : BSt W base g C v T done) (hb : base' ≤ base) : BSt W base' g C v T done :=
  ⟨h.blk, Nat.le_trans hb h.low, h.size, h.row, own_lower h.own hb, h.reps⟩
/-- A store into a block of another type. -/
theorem BSt.other {W : World} {base g R i : Nat} {C D : Array Value} {v : Value} {T : List ByteArray} {done : Nat → Option (UInt8 × UInt8)} (h : BSt W base g C v T done) (hR : W.heap[R]? = some (.cells D 82 (0, 0))) (u : Value) : BSt (W.setCell ⟨R, i, none⟩ u) base g C v T done := by
  have hg := grown_set W R i u
  have hne : ∀ (k : Nat) (X : Array Value) (t : TypeId) (fr : Nat × Nat), t ≠ 82 → W.heap[k]? = some (Obj.cells X t fr) → (W.setCell ⟨R, i, none⟩ u).heap[k]? = some (Obj.cells X t fr) := by
    intro k X t fr ht hk
    refine (hg.block k (Array.getElem?_eq_some_iff.1 hk).1 (fun e => ?_)).trans hk
    injection e with e
    subst e
    rw [hR] at hk
    simp at hk
    exact ht hk.2.1.symm
  refine ⟨hne g C 104 (0, 0) (by decide) h.blk, h.low, h.size, h.row, h.own.kept hg ?_, fun j hj => ?_⟩
  · rcases h.own.2 with ⟨e, _⟩ | ⟨k, cap, cur, e, _, hgb, _⟩
    · exact .inl (by rw [e]; rfl)
    · refine .inr (fun e2 => ?_)
      rw [e] at e2
      obtain rfl : k = R := by simpa [Value.ownBlock] using e2
      rw [hR] at hgb
      simp at hgb
  · obtain ⟨x, hu, hr⟩ := h.reps j hj
    exact ⟨x, hu, hr.keeps (fun k X fr hk => ⟨fr, hne k X 5 fr (by decide) hk⟩)⟩
set_option maxHeartbeats 8000000 in
theorem once_calls (W : World) (base R : Nat) (h : RNew W base R 1) (hB : base ≤ W.heap.size) :
    Calls Try.prog 33 #[.pointer (some ⟨R, 0, none⟩)] W fun e w' => e = .returned (.tuple #[]) ∧ RDone w' base R 0 1 ∧ Below base W w' := by
  obtain ⟨hb, o, cap, hR, hs⟩ := h
  have HBC := Aside0.mk (build_calls W R o cap hR hs)
  have HRb := Aside0.mk hR
  have HLO := Aside0.mk (And.intro hb (And.intro hB (show R < W.heap.size from (Array.getElem?_eq_some_iff.1 hR).1)))
  clear hb hR hs hB
  go_enter Try.func33, Try.ntmps33
  go_wp2_with fail
  refine HBC.out.mono ?_
  rintro _ w1 ⟨g, C, v, rfl, hb1, hst⟩
  have hR1 := (hb1.block R HLO.out.2.2).trans HRb.out
  have c3 := blk_cell hR1 3
  have f3 := blk_frozen hR1 3
  have hR2 := blk_set hR1 3 (.iface 105 (.pointer (some ⟨g, 0, none⟩)))
  have c4 := blk_cell hR2 4
  have f4 := blk_frozen hR2 4
  have HR3 := Aside0.mk (blk_set hR2 4 (.slice none 0 0))
  have HG := Aside0.mk (((hst.lower HLO.out.2.1).other hR1 (i := 3) (.iface 105 (.pointer (some ⟨g, 0, none⟩)))).other hR2 (i := 4) (.slice none 0 0))
  have HB := Aside0.mk (((hb1.mono HLO.out.2.1).setCell (p := ⟨R, 3, none⟩) HLO.out.1 (.iface 105 (.pointer (some ⟨g, 0, none⟩)))).setCell (p := ⟨R, 4, none⟩) HLO.out.1 (.slice none 0 0))
  clear hb1 hst hR1 hR2 HBC
  go_wp2_with fail
  go_end0
  exact ⟨rfl, ⟨HLO.out.1, g, C, v, HR3.out, HG.out⟩, HB.out⟩
/-- What comes behind Once.Do. -/
theorem RDone.after {W : World} {base R : Nat} (h : RDone W base R 0 1) : RDone ((W.drew.setCell ⟨R, 0, none⟩ (.int .u32 1)).setCell ⟨R, 1, none⟩ (.int .i32 0)) base R 1 0 := by
  obtain ⟨hb, g, C, v, hR, hst⟩ := h
  have hRd : W.drew.heap[R]? = some (.cells #[.int .u32 0, .int .i32 1, .int .u32 0, .iface 105 (.pointer (some ⟨g, 0, none⟩)), .slice none 0 0] 82 (0, 0)) := hR
  have hsd : BSt W.drew base g C v (tops 0) (dones 0) := ⟨hst.blk, hst.low, hst.size, hst.row, hst.own, hst.reps⟩
  have hR2 := blk_set hRd 0 (.int .u32 1)
  exact ⟨hb, g, C, v, blk_set hR2 1 (.int .i32 0), (hsd.other hRd (i := 0) _).other hR2 (i := 1) _⟩
set_option maxHeartbeats 8000000 in
theorem replacer_calls (W w : World) (R : Nat) (h : RNew w W.heap.size R 0) (hB : Below W.heap.size W w) (s : ByteArray) (hs : s.size ≤ 1073741824) :
    Calls Try.prog 28 #[.pointer (some ⟨R, 0, none⟩), .string s] w fun e w' => e = .returned (.string ⟨(putL s.data.toList).toArray⟩) ∧ Below W.heap.size W w' := by
  have hRb : W.heap.size ≤ R := h.1
  have hdo := do_first R (.pointer (some ⟨R, 0, none⟩)) (fun w' => RDone w' W.heap.size R 0 1 ∧ Below W.heap.size (w.setCell ⟨R, 1, none⟩ (.int .i32 1)) w') w
    (by obtain ⟨_, o, cap, hR, _⟩ := h; exact blk_cell hR 0) (by obtain ⟨_, o, cap, hR, _⟩ := h; exact blk_cell hR 1) (by obtain ⟨_, o, cap, hR, _⟩ := h; exact blk_frozen hR 0) (by obtain ⟨_, o, cap, hR, _⟩ := h; exact blk_frozen hR 1)
    (once_calls _ W.heap.size R h.lock (hB.setCell (p := ⟨R, 1, none⟩) hRb (.int .i32 1)).size)
    (by
      rintro w' ⟨⟨_, g, C, v, hR, _⟩, _⟩
      exact ⟨blk_cell hR 0, blk_cell hR 1, blk_frozen hR 0, blk_frozen hR 1⟩)
  have HDO := Aside0.mk hdo
  have HB := Aside0.mk (hB.setCell (p := ⟨R, 1, none⟩) hRb (.int .i32 1))
  have HRb := Aside0.mk hRb
  have HS := Aside0.mk hs
  have hmf : ∀ (fn : Fn) (first cap : Array Value) (w : World), (Instr.makeFunc fn first cap).run Try.prog w = .ok (.func fn first cap) w := fun _ _ _ _ => rfl
  clear hdo h hB hs hRb
  go_enter Try.func28, Try.ntmps28
  go_wp2_with fail
  refine HDO.out.mono ?_
  rintro _ w1 ⟨rfl, w2, ⟨hd, hb2⟩, rfl⟩
  have hd2 := hd.after
  have HB2 := Aside0.mk (((below_drew (HB.out.trans hb2)).setCell (p := ⟨R, 0, none⟩) HRb.out (.int .u32 1)).setCell (p := ⟨R, 1, none⟩) HRb.out (.int .i32 0))
  clear hd hb2 HDO
  generalize (w2.drew.setCell ⟨R, 0, none⟩ (.int .u32 1)).setCell ⟨R, 1, none⟩ (.int .i32 0) = w3 at *
  obtain ⟨_, g, C, v, hR, hst⟩ := hd2
  have c3 := blk_cell hR 3
  have HRC := Aside0.mk (replace_calls w3 W.heap.size g C v hst s HS.out)
  clear hR hst
  go_wp2_with fail
  refine HRC.out.mono ?_
  rintro _ w4 ⟨rfl, hb4⟩
  have HB4 := Aside0.mk (HB2.out.trans (hb4.mono HB2.out.size))
  clear hb4 HRC
  go_wp2_with fail
  go_ret
  exact ⟨rfl, HB4.out⟩
set_option maxHeartbeats 8000000 in
/-- value.PutText. -/
theorem put_calls (W : World) (s : ByteArray) (hs : s.size ≤ 1073741824) :
    Calls Try.prog 17 #[.string s] W fun e w' => e = .returned (.string ⟨(putL s.data.toList).toArray⟩) ∧ Below W.heap.size W w' := by
  have HS := Aside0.mk hs
  have hb := below_alloc (Below.refl W.heap.size W) (.cells #[.string ⟨#[92]⟩, .string ⟨#[92, 92]⟩, .string ⟨#[44]⟩, .string ⟨#[92, 44]⟩, .string ⟨#[59]⟩, .string ⟨#[92, 59]⟩, .string ⟨#[10]⟩, .string ⟨#[92, 110]⟩] 9)
  have hnc := new_calls (W.alloc (.cells #[.string ⟨#[92]⟩, .string ⟨#[92, 92]⟩, .string ⟨#[44]⟩, .string ⟨#[92, 44]⟩, .string ⟨#[59]⟩, .string ⟨#[92, 59]⟩, .string ⟨#[10]⟩, .string ⟨#[92, 110]⟩] 9)) W.heap.size (fun j x hj => (blk_cell (heap_alloc_new W _) j).trans (by
    have h : (#[.string ⟨#[92]⟩, .string ⟨#[92, 92]⟩, .string ⟨#[44]⟩, .string ⟨#[92, 44]⟩, .string ⟨#[59]⟩, .string ⟨#[92, 59]⟩, .string ⟨#[10]⟩, .string ⟨#[92, 110]⟩] : Array Value) = (olds.map Value.string).toArray := rfl
    rw [h, List.getElem?_toArray, List.getElem?_map, hj]
    rfl))
  have HB := Aside0.mk hb
  have HN := Aside0.mk hnc
  clear hs hb hnc
  go_enter Try.func17, Try.ntmps17
  go_wp2_with fail
  refine HN.out.mono ?_
  rintro _ w1 ⟨R, rfl, hr, hb1⟩
  have hr' : RNew w1 W.heap.size R 0 := ⟨Nat.le_trans HB.out.size hr.1, hr.2⟩
  have hb2 : Below W.heap.size W w1 := HB.out.trans (hb1.mono HB.out.size)
  have HRC := Aside0.mk (replacer_calls W w1 R hr' hb2 s HS.out)
  clear hr hb1 hr' hb2 HN
  go_wp2_with fail
  refine HRC.out.mono ?_
  rintro _ w2 ⟨rfl, hb3⟩
  have HB3 := Aside0.mk hb3
  clear hb3 HRC
  go_wp2_with fail
  go_ret
  exact ⟨rfl, HB3.out⟩

end Go.Proofs.Ytdjdbmopckhcdaa.PV
