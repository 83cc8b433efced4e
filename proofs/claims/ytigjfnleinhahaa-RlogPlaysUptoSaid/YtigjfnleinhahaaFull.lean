/- append onto a slice that is full (its capacity is its length): the elements lie in a new row; slices.Clip. -/
import Derived.Test.YtigjfnleinhahaaLog
import Derived.Test.YtigjfnleinhahaaPLogx0
namespace Go.Proofs.Ytigjfnleinhahaa.PLog
open Go.RowKit Go.Proofs.YtigjfnleinhahaaW.PrintWords Go.Proofs.YtigjfnleinhahaaW.PrintLast Go.Proofs.YtigjfnleinhahaaW.PrintMore
open Go.Proofs.Ytigjfnleinhahaa.Reg
set_option linter.unusedVariables false
set_option linter.unusedSimpArgs false
theorem fresh_row {W : World} (z : Value) (e : TypeId) (n old size : Nat) (cs : List Value) (hz : z.cells.size = size) (hl : cs.length = n * size) (hn : old < n) (h63 : n ≤ maxLen) :
    (W.drew.alloc (.cells (cs.toArray ++ Builtin.zeroCells z.cells (grownCap W n old e - n)) e)).ownsRow W.heap.size e size (.slice (some ⟨W.heap.size, 0, none⟩) n (grownCap W n old e)) n cs ∧
    W.grownBy (W.drew.alloc (.cells (cs.toArray ++ Builtin.zeroCells z.cells (grownCap W n old e - n)) e)) none := by
  have hge := grownCap_ge W n old e
  have hcm : grownCap W n old e ≤ maxLen := grownCap_le_maxLen W n old e h63
  refine ⟨⟨hl, .inr ⟨W.heap.size, _, _, rfl, Nat.le_refl _, heap_alloc_new W.drew _, hge, hcm, ?_, ?_⟩⟩, ⟨rfl, rfl, rfl, by simp, fun k hk _ => Below.heap_alloc W.drew _ k hk⟩⟩
  · simp only [Array.size_append, List.size_toArray, size_zeroCells, hz, hl]
    rw [← Nat.add_mul]
    congr 1
    omega
  · simp only [Array.toList_append]
    rw [← hl]
    exact List.take_left
theorem R_append_full {α : Type} {P : Program} (d : Kd α) {Rr : α → List Value → Prop} {W : World} (t e ty : TypeId) (z : Value) (bytes : Nat)
    (ht : P.underlying t = some (.slice e)) (hinfo : (P.info? e).map (fun i => (i.zero, i.size, i.bytes)) = some (some z, d.sz, bytes)) (hz : z.cells.size = d.sz) (hs0 : 0 < d.sz)
    (A0 : Option Addr) (l0 c0 n : Nat) (xs ys : List α) (A : Option Addr) (m c : Nat) (ok okp : Nat → Prop)
    (HO : d.R e W 0 ok (.slice A0 l0 c0) xs) (hn : n ≤ xs.length) (HR : ReadsRow Rr d.sz W A m ys) (hm0 : 0 < m) (hKM : ∀ x cs, Rr x cs → d.M W 0 okp x cs) (hokp : ∀ k, okp k → ok k) (hfresh : ∀ k, W.heap.size ≤ k → ok k)
    (hl : (n + m) * bytes ≤ 140737488355328) (hb0 : 0 < bytes) :
    ∃ v1 w1, (Builtin.append_ #[t, t] ty #[.slice A0 n n, .slice A m c]).run P W = .ok v1 w1 ∧ d.R e w1 0 ok v1 (xs.take n ++ ys) ∧ W.grownBy w1 none := by
  obtain ⟨i0, hi, hzz⟩ := Option.map_eq_some_iff.1 hinfo
  simp only [Prod.mk.injEq] at hzz
  obtain ⟨hz0, hz1, hz2⟩ := hzz
  have hm : ys.length = m := HR.1
  have hlen : n + m ≤ 140737488355328 := Nat.le_trans (Nat.le_mul_of_pos_right _ hb0) hl
  obtain ⟨ad, rfl, -⟩ := HR.2.2 hm0
  obtain ⟨news, hnr, hnc⟩ := ReadsRow.inner_ HR
  have hnM : Reps (d.M W 0 okp) d.sz ys news := hnr.imp_ (fun p c hp => hKM p c hp)
  obtain ⟨hok, hO⟩ := Kd.R_bound (Kd.R_take HO hn)
  obtain ⟨A1, c1, e1, hc1, hrr⟩ := OwnRow.reads hO
  have hlt : (xs.take n).length = n := by rw [List.length_take]; omega
  rw [hlt] at e1 hrr
  injection e1 with e1 _ _
  subst e1
  have step : ∀ {w1 : World} {q : α} {c : List Value} {o : Nat → Prop}, W.grownBy w1 none → d.M W 0 o q c → (∀ k, o k → ok k) → d.M w1 0 (fun k => ok k ∧ some k ≠ some W.heap.size) q c := by
    intro w1 q c o hg hq ho
    have h1 := d.M_move (w1 := w1) (fun k hk => hg.block k hk.2.2.1 (by simp)) (d.M_bound hq)
    exact d.M_mono (fun k hk => ⟨ho k hk.1, fun he => by have := Option.some.inj he; have := hk.2.2.1; omega⟩) h1
  have fin : ∀ (olds : List Value) (v1 : Value) (w1 : World), Reps (d.M W 0 (fun k => ok k)) d.sz (xs.take n) olds → v1.ownBlock = some W.heap.size → w1.ownsRow W.heap.size e d.sz v1 (n + m) (olds ++ news) → W.grownBy w1 none → d.R e w1 0 ok v1 (xs.take n ++ ys) := by
    intro olds v1 w1 ho hb how hg
    refine ⟨fun k hk => ?_, olds ++ news, ?_, ?_⟩
    · rw [hb] at hk
      exact hfresh k (by have := Option.some.inj hk; omega)
    · rw [List.length_append, hlt, hm]
      exact own_weaken how (Nat.zero_le _)
    · rw [hb]
      exact Kd.reps_append (ho.imp_ (fun _ _ hq => step hg hq (fun _ hk => hk))) (hnM.imp_ (fun _ _ hq => step hg hq hokp))
  rcases A0 with _ | ad0
  · have hn0 : n = 0 := by
      rcases Nat.eq_zero_or_pos n with h | h
      · exact h
      · obtain ⟨_, h2, _⟩ := hrr.2.2 h
        cases h2
    subst hn0
    have hr := run_append_nil (P := P) (w := W) t ty e i0 z ht hi hz0 ad m c news (by rw [hz1, hnM.1, hm]) hnc hm0 (by omega) (by rw [hz2]; simp only [Nat.zero_add] at hl; omega)
    obtain ⟨f1, f2⟩ := fresh_row (W := W) z e m 0 d.sz news hz (by rw [hnM.1, hm]) hm0 (by simp only [maxLen]; omega)
    exact ⟨_, _, hr, fin [] _ _ (by simpa using Reps.none _ _) rfl (by simpa using f1) f2, f2⟩
  · have olds : ∃ olds, Reps (d.M W 0 (fun k => ok k)) d.sz (xs.take n) olds ∧ ∀ j u, olds[j]? = some u → W.cell? (ad0.add j) = some u := by
      obtain ⟨olds, h1, h2⟩ := ReadsRow.inner_ hrr
      exact ⟨olds, h1.imp_ (fun _ _ hq => d.M_mono (fun k hk => hk.1.1) hq), h2⟩
    obtain ⟨olds, h1, h2⟩ := olds
    have hol : olds.length = n * d.sz := by rw [h1.1, hlt]
    have hr := run_append_grow (P := P) (w := W) t ty e i0 z ht hi hz0 ad0 n n olds (by rw [hz1]; exact hol) h2 ad m c news (by rw [hz1, hnM.1, hm]) hnc (by omega) (by omega) (by rw [hz2]; exact growslice_fits (by omega) hl)
    obtain ⟨f1, f2⟩ := fresh_row (W := W) z e (n + m) n d.sz (olds ++ news) hz (by rw [List.length_append, hol, hnM.1, hm, Nat.add_mul]) (by omega) (by simp only [maxLen]; omega)
    have e2 : (olds ++ news).toArray = olds.toArray ++ news.toArray := by simp
    rw [e2] at f1 f2
    exact ⟨_, _, hr, fin olds _ _ h1 rfl f1 f2, f2⟩
theorem clip_calls (w : World) (A : Option Addr) (n c : Nat) (hc : n ≤ c) : Calls Try.prog 29 #[.slice A n c] w fun e w' => e = .returned (.slice A n n) ∧ w' = w := by
  go_enter Try.func29, Try.ntmps29
  go_wp2_with fail
  go_ret
  exact ⟨rfl, rfl⟩
end Go.Proofs.Ytigjfnleinhahaa.PLog
