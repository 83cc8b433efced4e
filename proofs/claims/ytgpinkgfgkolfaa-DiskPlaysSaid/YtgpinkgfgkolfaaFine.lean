/- What every operation keeps. -/
import Derived.Test.YtgpinkgfgkolfaaEv2
namespace Go.Proofs.Ytgpinkgfgkolfaa.PD
open Go.RowKit Go.Proofs.YtgpinkgfgkolfaaW.PrintWords Go.Proofs.YtgpinkgfgkolfaaW.PrintLast Go.Proofs.YtgpinkgfgkolfaaW.PrintMore
set_option linter.unusedVariables false
set_option linter.unusedSimpArgs false
set_option maxHeartbeats 4000000
set_option maxRecDepth 100000

open Go.Proofs
/-- What every operation keeps. -/
structure Fine (k L : Nat) (A : Ab) : Prop where
  room : wrap64 A.room = A.room
  dir : A.dir.length ≤ k
  safe : A.safe.length ≤ k
  len : ∀ f, (A.fs f).2 ≤ (A.fs f).1.length ∧ (A.fs f).1.length ≤ L
  left : -9223372036854775808 ≤ A.left ∧ A.left ≤ 9223372036854775807
theorem Fine.mono {k L k' L' : Nat} {A : Ab} (h : Fine k L A) (hk : k ≤ k') (hL : L ≤ L') : Fine k' L' A :=
  ⟨h.room, Nat.le_trans h.dir hk, Nat.le_trans h.safe hk, fun f => ⟨(h.len f).1, Nat.le_trans (h.len f).2 hL⟩, h.left⟩
theorem Fine.may {k L : Nat} {A : Ab} (h : Fine k L A) : Fine k L (mayL A).2.2 := by
  unfold mayL
  split
  · exact h
  · split
    · exact ⟨h.room, h.dir, h.safe, h.len, by show _ ≤ A.left - 1 ∧ A.left - 1 ≤ _; have := h.left; omega⟩
    · exact ⟨h.room, h.dir, h.safe, h.len, h.left⟩
theorem ins_len (x : Nm × Nat) : ∀ l : Dir, (insL x l).length = l.length + 1
  | [] => rfl
  | y :: r => by
    unfold insL
    split
    · rfl
    · simp [ins_len x r]
theorem put_len (l : Dir) (k : Nm) (b : Nat) : (putL l k b).length ≤ l.length + 1 := by
  unfold putL
  rw [ins_len]
  have := del_len l k
  omega
theorem Fine.fs {k L L' : Nat} {A : Ab} (h : Fine k L A) (f : Nat) (x : List UInt8 × Nat) (hL : L ≤ L') (hx : x.2 ≤ x.1.length ∧ x.1.length ≤ L') : Fine k L' { A with fs := upd A.fs f x } :=
  ⟨h.room, h.dir, h.safe, fun g => by
    show (upd A.fs f x g).2 ≤ (upd A.fs f x g).1.length ∧ (upd A.fs f x g).1.length ≤ L'
    by_cases hg : g = f
    · rw [hg, upd_same]; exact hx
    · rw [upd_other _ _ _ _ hg]; exact ⟨(h.len g).1, Nat.le_trans (h.len g).2 hL⟩, h.left⟩
theorem Fine.lay {k L : Nat} {A : Ab} (h : Fine k L A) (nm : Nm) (b : List UInt8) (fN : Nat) : Fine (k + 1) (L + b.length) (layL A nm b fN) := by
  unfold layL
  split
  · rename_i f _
    refine (h.fs f _ (Nat.le_add_right _ _) ?_).mono (Nat.le_succ _) (Nat.le_refl _)
    have := h.len f
    show (A.fs f).2 ≤ ((A.fs f).1 ++ b).length ∧ ((A.fs f).1 ++ b).length ≤ _
    rw [List.length_append]; omega
  · have h1 := (h.fs (L' := L + b.length) fN (b, 0) (Nat.le_add_right _ _) ⟨Nat.zero_le _, Nat.le_add_left _ _⟩)
    exact ⟨h1.room, Nat.le_trans (put_len _ _ _) (Nat.succ_le_succ h.dir), Nat.le_trans h.safe (Nat.le_succ _), h1.len, h1.left⟩
theorem Fine.write {k L : Nat} {A : Ab} (h : Fine k L A) (nm : Nm) (b : List UInt8) (fN : Nat) : Fine (k + 1) (L + b.length) (writeL A nm b fN).2 := by
  have hm : Fine (k + 1) (L + b.length) (mayL A).2.2 := h.may.mono (Nat.le_succ _) (Nat.le_add_right _ _)
  unfold writeL
  split
  · show Fine _ _ (if _ then _ else _)
    split
    · exact (h.may.lay nm _ fN).mono (Nat.le_refl _) (by rw [List.length_take]; omega)
    · exact hm
  · split
    · exact hm
    · split
      · exact hm
      · exact h.may.lay nm b fN
theorem Fine.call {k L k' : Nat} {A : Ab} (h : Fine k L A) (hk : k ≤ k') (nm : Nm) (R : Nat → Ab → Int × Ab) (hR : ∀ f B, Fine k L B → Fine k' L (R f B).2) : Fine k' L (callL A nm R).2 := by
  have hm : Fine k' L (mayL A).2.2 := h.may.mono hk (Nat.le_refl _)
  unfold callL
  split
  · exact hm
  · split
    · exact hm
    · exact hR _ _ h.may
theorem Fine.sync {k L : Nat} {A : Ab} (h : Fine k L A) (nm : Nm) : Fine k L (syncL A nm).2 :=
  h.call (Nat.le_refl _) nm syncR fun f B hB => hB.fs f _ (Nat.le_refl _) ⟨Nat.le_refl _, (hB.len f).2⟩
theorem Fine.rem {k L : Nat} {A : Ab} (h : Fine k L A) (nm : Nm) : Fine k L (remL A nm).2 :=
  h.call (Nat.le_refl _) nm (remR nm) fun f B hB => ⟨hB.room, Nat.le_trans (del_len _ _) hB.dir, hB.safe, hB.len, hB.left⟩
theorem Fine.ren {k L : Nat} {A : Ab} (h : Fine k L A) (nm tn : Nm) : Fine (k + 1) L (renL A nm tn).2 :=
  h.call (Nat.le_succ _) nm (renR nm tn) fun f B hB => by
    unfold renR
    split
    · exact hB.mono (Nat.le_succ _) (Nat.le_refl _)
    · refine ⟨hB.room, ?_, Nat.le_trans hB.safe (Nat.le_succ _), hB.len, hB.left⟩
      have h1 := put_len (delL B.dir nm) tn f
      have h2 := del_len B.dir nm
      have h3 := hB.dir
      show (putL (delL B.dir nm) tn f).length ≤ _
      omega
theorem Fine.flush {k L : Nat} {A : Ab} (h : Fine k L A) : Fine k L (flushL A).2 := by
  unfold flushL
  split
  · exact h.may
  · exact ⟨h.may.room, h.may.dir, h.may.dir, h.may.len, h.may.left⟩
theorem Fine.fail {k L : Nat} {A : Ab} (h : Fine k L A) (n : Int) (hn : -9223372036854775808 ≤ n ∧ n ≤ 9223372036854775807) : Fine k L (failL A n) := ⟨h.room, h.dir, h.safe, h.len, hn⟩
theorem Fine.crash {k L : Nat} {A : Ab} (h : Fine k L A) (keep : Int) : Fine k L (crashL A keep) :=
  ⟨h.room, h.safe, h.safe, fun f => by
    show (crashFs A keep _ f).2 ≤ (crashFs A keep _ f).1.length ∧ (crashFs A keep _ f).1.length ≤ L
    unfold crashFs
    split
    · have h1 := crashN_le keep (A.fs f) (h.len f).1
      have h2 := (h.len f).2
      show crashN keep (A.fs f) ≤ ((A.fs f).1.take (crashN keep (A.fs f))).length ∧ ((A.fs f).1.take (crashN keep (A.fs f))).length ≤ L
      rw [List.length_take]; omega
    · exact h.len f, h.left⟩
theorem fine_new (room : Int) (h : wrap64 room = room) : Fine 0 0 (newL room) := ⟨h, Nat.le_refl _, Nat.le_refl _, fun f => ⟨Nat.le_refl _, Nat.le_refl _⟩, calm_left⟩
theorem SrcAt.string {w : World} {v : Value} {bs : List UInt8} (h : SrcAt w v bs) : (convert 29 9 v).run Try.prog w = .ok (.string ⟨bs.toArray⟩) w := by
  rcases h with ⟨rfl, rfl⟩ | ⟨a, cap, rfl, _, h⟩
  · exact run_convert_bytes_nil w 29 5 Try.underlying29 Try.underlying5 0 0 9 Try.underlying9
  · refine run_convert_bytes_back w 29 9 5 a cap bs Try.underlying29 Try.underlying5 Try.underlying9 (fun j hj => h j _ ?_)
    unfold bcells
    rw [List.getElem?_map, List.getElem?_eq_getElem hj]; rfl
/-- A row of the caller's, in its words. -/
theorem src_of_row {w : World} {a : Option Addr} {len cap : Nat} {zs : List Int} (h : (a = none ∧ len = 0 ∧ cap = 0 ∧ zs = []) ∨ ∃ x, a = some x ∧ len ≤ cap ∧ cap ≤ maxLen ∧ zs.length = cap ∧ (∀ i, i < zs.length → w.cell? (x.add i) = some (.int .u8 (zs.getD i 0))) ∧ ∀ n ∈ zs, (Lit.int .u8 n).wf = true) :
    ∃ xs : List UInt8, len = xs.length ∧ SrcAt w (.slice a xs.length cap) xs ∧ xs.length ≤ cap := by
  rcases h with ⟨rfl, rfl, rfl, rfl⟩ | ⟨x, rfl, h1, h2, h3, h4, h5⟩
  · exact ⟨[], rfl, .inl ⟨rfl, rfl⟩, Nat.le_refl _⟩
  · have hl : ((zs.take len).map fun n => UInt8.ofNat n.toNat).length = len := by rw [List.length_map, List.length_take]; omega
    refine ⟨(zs.take len).map fun n => UInt8.ofNat n.toNat, hl.symm, .inr ⟨x, cap, rfl, by omega, fun j u hu => ?_⟩, by omega⟩
    have hj : j < len := by
      have := (List.getElem?_eq_some_iff.1 hu).1
      unfold bcells at this
      rw [List.length_map, hl] at this
      exact this
    rw [h4 j (by omega)]
    unfold bcells at hu
    rw [List.map_map, List.getElem?_map, List.getElem?_take, if_pos hj, List.getElem?_eq_getElem (by omega)] at hu
    simp only [Option.map_some, Option.some.injEq, Function.comp_apply] at hu
    have hw := h5 _ (List.getElem_mem (show j < zs.length by omega))
    have hr : 0 ≤ zs[j] ∧ zs[j] ≤ 255 := by simpa [Lit.wf, IntKind.min, IntKind.max, IntKind.signed, IntKind.bits] using hw
    rw [← hu, List.getD_eq_getElem?_getD, List.getElem?_eq_getElem (by omega)]
    simp only [Option.getD_some]
    congr 2
    have : (UInt8.ofNat zs[j].toNat).toNat = zs[j].toNat := by
      rw [UInt8.toNat_ofNat']
      omega
    rw [this]; omega

end Go.Proofs.Ytgpinkgfgkolfaa.PD
