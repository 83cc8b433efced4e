/- Disk.Sync walked. -/
import Derived.Test.YtgpinkgfgkolfaaCall
namespace Go.Proofs.Ytgpinkgfgkolfaa.PD
open Go.RowKit Go.Proofs.YtgpinkgfgkolfaaW.PrintWords Go.Proofs.YtgpinkgfgkolfaaW.PrintLast Go.Proofs.YtgpinkgfgkolfaaW.PrintMore
set_option linter.unusedVariables false
set_option linter.unusedSimpArgs false
set_option maxHeartbeats 4000000
set_option maxRecDepth 100000

open Go.Proofs
def syncR (f : Nat) (A : Ab) : Int × Ab := (0, { A with fs := upd A.fs f ((A.fs f).1, (A.fs f).1.length) })
set_option maxHeartbeats 4000000 in
theorem sync1_calls (ok : Nat → Prop) (d : Nat) (A : Ab) (f : Nat) (w : World) (h : DiskAt w ok d A) (hf : In A f) :
    Calls Try.prog 30 #[fptr f] w fun e w' => e = .returned (.int .i64 (syncR f A).1) ∧ DiskAt w' ok d (syncR f A).2 ∧ Kp ok w w' := by
  obtain ⟨bd, bs, tg, h⟩ := h
  obtain ⟨hfo, v, hfh, hrow⟩ := h.2.2.2.2.2.2.2 f hf
  obtain ⟨FA, fc, rfl, hfc⟩ := hrow.slice
  have c0 : w.cell? ⟨f, 0, none⟩ = some (.slice FA (A.fs f).1.length fc) := by simp [World.cell?, hfh]
  have c1 : w.cell? ⟨f, 1, none⟩ = some (.int .i64 ((A.fs f).2 : Int)) := by simp [World.cell?, hfh]
  have f1 := Lib.frozen_of_heap hfh 1
  have h1 := heap_put hfh (i := 1) (.int .i64 ((A.fs f).1.length : Int)) (cs' := #[.slice FA (A.fs f).1.length fc, .int .i64 ((A.fs f).1.length : Int)]) rfl
  have HD := Aside0.mk (h.file hf ((A.fs f).1, (A.fs f).1.length) (w' := w.setCell ⟨f, 1, none⟩ (.int .i64 ((A.fs f).1.length : Int))) (tg' := tg) h1
    (hrow.keep (fun g cur _ hh => Below.heap_setCell _ _ _ _ (fun e => by
      have e' : g = f := e
      rw [e', hfh] at hh
      simp only [Option.some.injEq, Obj.cells.injEq] at hh
      exact absurd hh.2.1 (by decide)))) (fun _ _ => rfl) (fun k _ hkf _ => Below.heap_setCell _ _ _ _ hkf))
  have HK := Aside0.mk ((Kp.refl ok w).setCell (p := ⟨f, 1, none⟩) hfo (.int .i64 ((A.fs f).1.length : Int)))
  have HS := Aside0.mk (show syncR f A = (0, { A with fs := upd A.fs f ((A.fs f).1, (A.fs f).1.length) }) from rfl)
  generalize syncR f A = RR at *
  clear h hrow hfh h1 hfc hf hfo
  generalize (A.fs f).1.length = m at *
  go_enter Try.func30, Try.ntmps30
  go_wp2_with fail
  go_ret
  exact ⟨by rw [HS.out]; rfl, by rw [HS.out]; exact ⟨bd, bs, tg, HD.out⟩, HK.out⟩
def syncL (A : Ab) (nm : Nm) : Int × Ab := callL A nm syncR
theorem In.may {A : Ab} {f : Nat} (h : In A f) : In (mayL A).2.2 f := by
  obtain ⟨s1, s2, _, _⟩ := mayL_same A
  unfold In at h ⊢
  rw [s1, s2]; exact h
set_option maxHeartbeats 4000000 in
theorem sync_calls (ok : Nat → Prop) (d : Nat) (A : Ab) (nm : ByteArray) (w : World) (h : DiskAt w ok d A) (hnm : nm.size ≤ maxLen) (hleft : -9223372036854775808 ≤ A.left ∧ A.left ≤ 9223372036854775807) :
    Calls Try.prog 13 #[fptr d, .string nm] w fun e w' => e = .returned (.int .i64 (syncL A nm.data.toList).1) ∧ DiskAt w' ok d (syncL A nm.data.toList).2 ∧ Kp ok w w' := by
  have HC := Aside0.mk (call_sync ok d A nm syncR w h hnm hleft (fun W f hf hW hk => sync1_calls ok d _ f W hW (In.may (.inl ⟨_, findL_mem hf⟩))))
  rw [show callL A nm.data.toList syncR = syncL A nm.data.toList from rfl] at HC
  generalize syncL A nm.data.toList = RR at *
  clear h hnm hleft
  go_enter Try.func13, Try.ntmps13
  go_wp2_with fail
  refine HC.out.mono ?_
  rintro _ w2 ⟨rfl, hD2, hk2⟩
  have HD2 := Aside0.mk hD2
  have HK2 := Aside0.mk hk2
  clear hD2 hk2 HC
  go_wp2_with fail
  go_ret
  exact ⟨rfl, HD2.out, HK2.out⟩

end Go.Proofs.Ytgpinkgfgkolfaa.PD
