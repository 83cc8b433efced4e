/- deep: entries of their own. -/
import Derived.Test.YtigjfnleinhahaaGet
import Derived.Test.YtigjfnleinhahaaCompact

import Derived.Test.YtigjfnleinhahaaWNEv
namespace Go.Proofs.Ytigjfnleinhahaa.PLog
open Go.RowKit Go.Proofs.YtigjfnleinhahaaW.PrintWords Go.Proofs.YtigjfnleinhahaaW.PrintLast Go.Proofs.YtigjfnleinhahaaW.PrintMore
open Go.Proofs.Ytigjfnleinhahaa.Reg
set_option linter.unusedVariables false
set_option linter.unusedSimpArgs false
set_option maxHeartbeats 4000000
set_option maxRecDepth 100000

open Kd in
/-- deep's entries: of those ahead of i the lists are new ones, the others read as what came in. -/
def DeepI (w W : World) (v1 : Value) (ys : List S60) (i : Nat) (rows : List (List Value)) : Prop :=
  (raw 14).R 60 W w.heap.size (fun _ => True) v1 rows ∧ rows.length = ys.length ∧ (∀ (j : Nat) x c, ys[j]? = some x → rows[j]? = some c → j < i → k60.M W w.heap.size (fun k => some k ≠ v1.ownBlock) x c) ∧ (∀ (j : Nat) x c, ys[j]? = some x → rows[j]? = some c → i ≤ j → k60.K w x c) ∧ Below w.heap.size w W
/-- The same, with entry i (its cells: c) under way. -/
def DeepH (w W : World) (v1 : Value) (ys : List S60) (i : Nat) (rows : List (List Value)) (c : List Value) : Prop :=
  (Kd.raw 14).R 60 W w.heap.size (fun _ => True) v1 rows ∧ rows.length = ys.length ∧ rows[i]? = some c ∧ (∀ (j : Nat) x c, ys[j]? = some x → rows[j]? = some c → j < i → k60.M W w.heap.size (fun k => some k ≠ v1.ownBlock) x c) ∧ (∀ (j : Nat) x c, ys[j]? = some x → rows[j]? = some c → i < j → k60.K w x c) ∧ Below w.heap.size w W
theorem DeepI.below {w W W2 : World} {v1 : Value} {ys : List S60} {i : Nat} {rows : List (List Value)} (h : DeepI w W v1 ys i rows) (hb : Below W.heap.size W W2) : DeepI w W2 v1 ys i rows := by
  obtain ⟨h1, h2, h3, h4, h5⟩ := h
  exact ⟨Kd.R_below h1 hb, h2, fun j x c a b d => Kd.M_below (h3 j x c a b d) hb, h4, h5.trans (hb.mono h5.size)⟩
theorem DeepH.below {w W W2 : World} {v1 : Value} {ys : List S60} {i : Nat} {rows : List (List Value)} {c : List Value} (h : DeepH w W v1 ys i rows c) (hb : Below W.heap.size W W2) : DeepH w W2 v1 ys i rows c := by
  obtain ⟨h1, h2, h0, h3, h4, h5⟩ := h
  exact ⟨Kd.R_below h1 hb, h2, h0, fun j x c a b d => Kd.M_below (h3 j x c a b d) hb, h4, h5.trans (hb.mono h5.size)⟩
theorem DeepI.hole {w W : World} {v1 : Value} {ys : List S60} {i : Nat} {rows : List (List Value)} (h : DeepI w W v1 ys i rows) (hi : i < ys.length) : ∃ c, DeepH w W v1 ys i rows c ∧ k60.K w ys[i] c := by
  obtain ⟨h1, h2, h3, h4, h5⟩ := h
  have hr : rows[i]? = some rows[i] := List.getElem?_eq_getElem (by omega)
  exact ⟨rows[i], ⟨h1, h2, hr, h3, fun j x c a b d => h4 j x c a b (by omega), h5⟩, h4 i _ _ (List.getElem?_eq_getElem hi) hr (Nat.le_refl _)⟩
theorem DeepH.close {w W : World} {v1 : Value} {ys : List S60} {i : Nat} {rows : List (List Value)} {c : List Value} (h : DeepH w W v1 ys i rows c) (hi : i < ys.length) (hM : k60.M W w.heap.size (fun k => some k ≠ v1.ownBlock) ys[i] c) : DeepI w W v1 ys (i + 1) rows := by
  obtain ⟨h1, h2, h0, h3, h4, h5⟩ := h
  refine ⟨h1, h2, fun j x c' a b d => ?_, fun j x c' a b d => h4 j x c' a b (by omega), h5⟩
  by_cases e : j = i
  · subst e
    rw [h0] at b
    rw [List.getElem?_eq_getElem hi] at a
    injection a with a
    injection b with b
    subst a b
    exact hM
  · exact h3 j x c' a b (by omega)
theorem DeepI.done {w W : World} {v1 : Value} {ys : List S60} {rows : List (List Value)} (h : DeepI w W v1 ys ys.length rows) : Kd.R k60 60 W w.heap.size (fun _ => True) v1 ys := by
  obtain ⟨⟨h0, inner, ho, hr⟩, h2, h3, h4, h5⟩ := h
  rw [h2] at ho
  refine ⟨fun _ _ => trivial, inner, ho, ?_, fun j x hx => ?_⟩
  · have := hr.1; rw [h2] at this; exact this
  · have hj := (List.getElem?_eq_some_iff.1 hx).1
    have hj2 : rows[j]? = some rows[j] := List.getElem?_eq_getElem (by omega)
    have h6 := hr.2 j _ hj2
    have h7 := h3 j x _ hx hj2 hj
    have h8 : (inner.drop (j * 14)).take 14 = rows[j] := h6.1
    show k60.M W w.heap.size _ x ((inner.drop (j * 14)).take 14)
    rw [h8]
    exact k60.M_mono (fun k hk => ⟨trivial, hk⟩) h7
theorem DeepH.cells {w W : World} {g n cap : Nat} {ys : List S60} {i : Nat} {rows : List (List Value)} {c : List Value} (h : DeepH w W (.slice (some ⟨g, 0, none⟩) n cap) ys i rows c) (hn : n = ys.length) (hi : i < n) : c.length = 14 ∧ (∀ u ∈ c, u.oneCell' = true) ∧ ∀ j u, c[j]? = some u → W.cell? ⟨g, i * 14 + j, none⟩ = some u := by
  obtain ⟨h1, h2, h0, h3, h4, h5⟩ := h
  obtain ⟨c', hl, hM, hc, _⟩ := Kd.R_elem h1 ([] : List Value) (i : Int) (by omega) (by omega)
  rw [Int.toNat_natCast] at hM hc
  have e : rows.getD i [] = c := by rw [List.getD_eq_getElem?_getD, h0]; rfl
  rw [e] at hM
  obtain ⟨rfl, hlen, hone⟩ := hM
  exact ⟨hl, hone, hc⟩
theorem H_store {P : Program} {ops : Array Oper} {rest : List Oper} {o : Oper} {a : Act} {Q : Exit → Act → World → Prop} {w W : World} (hN : o.dst = none) (hgd : o.guard = none) (t : TypeId) (p x : Operand) (ho : o.op = .store t p x) {g n cap : Nat} {ys : List S60} {rows : List (List Value)} {c : List Value} (i j : Nat) (u : Value)
    (haddr : a.eval p = .pointer (some ⟨g, i * 14 + j, none⟩)) (hx : a.eval x = u) (hu : u.cells.toList = [u]) (ht : (P.info? t).map (·.size) = some 1) (h1 : u.oneCell' = true) (hj : j < 14)
    (H : DeepH w W (.slice (some ⟨g, 0, none⟩) n cap) ys i rows c) (hn : n = ys.length) (hi : i < n)
    (h : ∀ w1 rows1, DeepH w w1 (.slice (some ⟨g, 0, none⟩) n cap) ys i rows1 (c.take j ++ [u] ++ c.drop (j + 1)) → W.grownBy w1 (some g) → wpList P ops Q rest a w1) : wpList P ops Q (o :: rest) a W := by
  obtain ⟨hl, hone, hc⟩ := H.cells hn hi
  obtain ⟨hR, h2, h0, h3, h4, h5⟩ := H
  have hl2 : (c.take j ++ [u] ++ c.drop (j + 1)).length = 14 := by simp only [List.length_append, List.length_take, List.length_drop, List.length_singleton]; omega
  refine Kd.R_store (Kd.raw 14) (w0 := w) w.heap.size hN hgd t p x ho 60 (g := g) (n := n) (cap := cap) (o' := i * 14 + j) (i : Int) j rows (c.take j ++ [u] ++ c.drop (j + 1)) u [u] c (fun _ => True) (fun _ => False) haddr (by rw [Int.toNat_natCast]; rfl) hx hu ht (by intro q hq; simp at hq; subst hq; exact h1) hR (by omega) (by omega) hl (by rw [Int.toNat_natCast]; exact hc) (by show j + 1 ≤ 14; omega) ⟨rfl, hl2, ?_⟩ (fun _ h => h.elim) h5 (fun w1 hR1 hB1 hg1 => h w1 (rows.set i (c.take j ++ [u] ++ c.drop (j + 1))) ?_ hg1)
  · intro q hq
    simp only [List.mem_append, List.mem_singleton] at hq
    rcases hq with (hq | hq) | hq
    · exact hone q (List.mem_of_mem_take hq)
    · subst hq; exact h1
    · exact hone q (List.mem_of_mem_drop hq)
  · rw [Int.toNat_natCast] at hR1
    have hgo : (Value.slice (some ⟨g, 0, none⟩) n cap).ownBlock = some g := by simp [Value.ownBlock]
    refine ⟨hR1, by rw [List.length_set]; exact h2, by rw [List.getElem?_set_self (by omega)], fun j' x' c' a b d => ?_, fun j' x' c' a b d => ?_, hB1⟩
    · rw [List.getElem?_set_ne (by omega)] at b
      exact Kd.M_grown (h3 j' x' c' a b d) hg1 (fun k hk => by rw [← hgo]; exact hk)
    · rw [List.getElem?_set_ne (by omega)] at b
      exact h4 j' x' c' a b d
theorem info31s : (Try.prog.info? 31).map (·.size) = some 1 := by kernel_rfl
theorem info56s : (Try.prog.info? 56).map (·.size) = some 1 := by kernel_rfl
theorem empty_raw (W : World) (base : Nat) (hb : base ≤ W.heap.size) : (Kd.raw 14).R 60 (W.alloc (.cells #[] 60)) base (fun _ => True) (.slice (some ⟨W.heap.size, 0, none⟩) 0 0) [] := by
  refine ⟨fun _ _ => trivial, [], ?_, rfl, fun j p hj => by simp at hj⟩
  have h2 := World.ownsRow_lit (base := base) (e := 60) (size := 14) W #[] 0 hb (by decide) (by rfl)
  exact h2
theorem deep_calls (w : World) (A : Option Addr) (c : Nat) (ys : List S60) (hC : Kd.C k60 w A ys.length ys) (hc : ys.length ≤ c) (hoks : ∀ x ∈ ys, okE x) (hl : ys.length * 192 ≤ 140737488355328) :
    Calls Try.prog 20 #[.slice A ys.length c] w fun e w' => ∃ v, e = .returned v ∧ Kd.R k60 60 w' w.heap.size (fun _ => True) v ys ∧ Below w.heap.size w w' := by
  have hb := below_alloc (Below.refl w.heap.size w) (Obj.cells #[] 60)
  obtain ⟨news, hnl, hnr, hnf⟩ := Kd.reads_raw hC (fun y c hk => ⟨k60.K_len hk, k60.K_one hk⟩)
  have HR := Aside0.mk (hnr.imp_ hb (fun _ _ h => h))
  have HF := Aside0.mk (And.intro hnl hnf)
  have HB := Aside0.mk hb
  have HO := Aside0.mk (And.intro hoks hl)
  have HE := Aside0.mk (empty_raw w w.heap.size (Nat.le_refl _))
  have HC := Aside0.mk (Kd.C_max hC)
  clear hC hl hb hoks hnr hnf hnl
  generalize hn : ys.length = n at *
  have HN := Aside0.mk hn
  clear hn
  go_enter Try.func20, Try.ntmps20
  go_wp2_with (first
    | (at_builtin
       refine Kd.R_append_rows (Kd.raw 14) (w0 := w) w.heap.size rfl (.tmp 5) (.tmp 6) 35 60 _ 192 rfl Try.underlying35 info60 rfl (by decide) (by decide) _ [] news A n c (fun _ => True) (fun _ => False) rfl rfl HE.out HR.out (fun x cs h => h) (fun k hk => hk.elim) (fun k hk => trivial) HB.out HB.out.size (by have := HO.out.2; show (0 + n) * 192 ≤ _; omega) ?_
       intro v1 w1 hR1 hB1 hg1 hat1
       obtain ⟨A1, c1, rfl⟩ := Kd.R_slice hR1
       have e1 : ([] ++ news).length = n := by rw [List.nil_append, HF.out.1]
       rw [e1] at hR1 ⊢
       rw [List.nil_append] at hR1
       have HI := Aside0.mk (show DeepI w w1 (.slice A1 n c1) ys 0 news from ⟨hR1, HF.out.1.trans HN.out.symm, fun j x c a b d => absurd d (by omega), fun j x c a b _ => HF.out.2 j x c a b, hB1⟩)
       clear hR1 hB1 hg1 hat1 e1)
    | fail)
  go_loopw [10] (fun v10 wr => ∃ (i : Nat) (rows : List (List Value)), v10 = .int .i64 (i : Int) ∧ Aside0 (i ≤ n) ∧ Aside0 (DeepI w wr (.slice A1 n c1) ys i rows)) (fun v10 _ => n - (intOf v10).toNat)
  case atStart => exact ⟨0, _, rfl, Aside0.mk (Nat.zero_le _), HI⟩
  case round =>
    obtain ⟨i, rows, rfl, HIN, HD⟩ := hrel
    by_cases hin : i < n
    · have d1 : decide ((i : Int) < (n : Int)) = true := decide_eq_true (by omega)
      have hin2 : (i : Int) < (n : Int) := by omega
      have hi0 : (0 : Int) ≤ (i : Int) := by omega
      have hil : i < ys.length := by rw [HN.out]; exact hin
      obtain ⟨g, hg⟩ : ∃ g, A1 = some ⟨g, 0, none⟩ := by
        obtain ⟨g, cap, hv, _⟩ := Kd.R_form HD.out.1 (by rw [HD.out.2.1]; omega)
        injection hv with hv _ _
        exact ⟨g, hv⟩
      subst hg
      obtain ⟨cs, hH, hK⟩ := HD.out.hole hil
      have hok := HO.out.1 ys[i] (List.getElem_mem hil)
      have HM : ∀ W c, k60.M W w.heap.size (fun k => some k ≠ (Value.slice (some ⟨g, 0, none⟩) n c1).ownBlock) ys[i] c → ∀ rows, DeepH w W (.slice (some ⟨g, 0, none⟩) n c1) ys i rows c → DeepI w W (.slice (some ⟨g, 0, none⟩) n c1) ys (i + 1) rows := fun W c h rows h2 => h2.close hil h
      have HCL := Aside0.mk HM
      clear HM
      generalize ys[i] = x at hK hok HCL
      obtain ⟨A9, c9, A13, c13, rfl, l9, g9, l13, g13⟩ := k60_open hK
      have HX := Aside0.mk (And.intro l9 (And.intro g9 (And.intro l13 (And.intro g13 hok))))
      have hq := hH.cells HN.out.symm hin
      have hwb : g < wr.heap.size := by
        have := Kd.R_lt HD.out.1 g (by simp [Value.ownBlock]); exact this
      have ha := below_alloc (Below.refl wr.heap.size wr) (Obj.cells #[] 3)
      have p13 : (wr.alloc (Obj.cells #[] 3)).cell? ⟨g, i * 14 + 13, none⟩ = some (.slice A13 x.f3.length c13) := cell_below ha hwb (hq.2.2 13 _ rfl)
      have HG13 := Aside0.mk (Kd.C_below (Kd.C_below g13 hH.2.2.2.2.2) ha)
      have HH := Aside0.mk hH
      have HA := Aside0.mk ha
      have HINL := Aside0.mk hin
      have hwi : wrap64 ((i : Int) + 1) = ((i + 1 : Nat) : Int) := by have := HC.out; have := HINL.out; unfold wrap64; omega
      clear hK l9 g9 l13 g13 hok hH ha hq hwb hil hin
      go_wp2_with (first
        | (at_builtin
           refine Kd.R_append_row (enc := Value.int .i64) (d := (0 : Int)) (h1 := fun _ => rfl) (w0 := wr) wr.heap.size rfl (.tmp 15) (.tmp 20) 31 3 (.int .i64 0) 8 rfl Try.underlying31 clone_info3 rfl (by decide) _ [] x.f3 A13 x.f3.length c13 (fun _ => True) rfl rfl (fun _ _ => trivial) (slices_Clone_int_int_empty wr wr.heap.size (Nat.le_refl _)) HG13.out HA.out HA.out.size (by have := HX.out.2.2.2.2.1; simp only [List.length_nil]; omega) ?_
           intro v13 w2 hR2 hB2 hg2 hat2
           rw [List.nil_append] at hR2
           obtain ⟨B13, b13, rfl⟩ := Kd.R_slice hR2
           have H2 := Aside0.mk (HH.out.below hB2)
           have HV13 := Aside0.mk hR2
           have HS2 := Aside0.mk hB2.size
           clear hR2 hB2 hg2 hat2)
        | ((with_reducible refine gate_ (.store 31 (.tmp 23) (.tmp 21)) rfl ?_)
           refine H_store rfl rfl 31 (.tmp 23) (.tmp 21) rfl i 13 _ rfl rfl rfl info31s rfl (by decide) H2.out HN.out.symm HINL.out ?_
           intro w3 rows1 hH3 hg3
           have hq := hH3.cells HN.out.symm HINL.out
           have hwb : g < w3.heap.size := Kd.R_lt hH3.1 g (by simp [Value.ownBlock])
           have ha := below_alloc (Below.refl w3.heap.size w3) (Obj.cells #[] 9)
           have p9 : (w3.alloc (Obj.cells #[] 9)).cell? ⟨g, i * 14 + 2 + 7, none⟩ = some (.slice A9 x.f2.f7.length c9) := cell_below ha hwb (hq.2.2 9 _ rfl)
           have HG9 := Aside0.mk (Kd.C_below (Kd.C_below HX.out.2.1 hH3.2.2.2.2.2) ha)
           have HV13b := Aside0.mk (Kd.R_mono (Kd.R_grown (Kd.R_types HV13.out (t := 60) (Kd.R_typed H2.out.1 g (by simp [Value.ownBlock])).choose_spec (by decide)) hg3 (fun k hk he => hk.2 (by injection he))) (ok' := fun k => k ≠ g) (fun k hk => hk.2))
           have H3 := Aside0.mk hH3
           have HA3 := Aside0.mk ha
           clear hH3 hg3 hq hwb ha)
        | (at_builtin
           refine Kd.R_append_row (enc := Value.string) (d := ByteArray.empty) (h1 := fun _ => rfl) (w0 := w3) w3.heap.size rfl (.tmp 26) (.tmp 32) 56 9 (.string ⟨#[]⟩) 16 rfl Try.underlying56 clone_info9 rfl (by decide) _ [] x.f2.f7 A9 x.f2.f7.length c9 (fun _ => True) rfl rfl (fun _ _ => trivial) (slices_Clone_string_string_empty w3 w3.heap.size (Nat.le_refl _)) HG9.out HA3.out HA3.out.size (by have := HX.out.2.2.2.2.2; simp only [List.length_nil]; omega) ?_
           intro v9 w4 hR4 hB4 hg4 hat4
           rw [List.nil_append] at hR4
           obtain ⟨B9, b9, rfl⟩ := Kd.R_slice hR4
           have H4 := Aside0.mk (H3.out.below hB4)
           have HV9 := Aside0.mk hR4
           have HV13c := Aside0.mk (Kd.R_below HV13b.out hB4)
           have HS4 := Aside0.mk hB4.size
           clear hR4 hB4 hg4 hat4)
        | ((with_reducible refine gate_ (.store 56 (.tmp 36) (.tmp 33)) rfl ?_)
           refine H_store rfl rfl 56 (.tmp 36) (.tmp 33) rfl i 9 _ rfl rfl rfl info56s rfl (by decide) H4.out HN.out.symm HINL.out ?_
           intro w5 rows2 hH5 hg5
           have ht := (Kd.R_typed H4.out.1 g (by simp [Value.ownBlock])).choose_spec
           have HI5 := Aside0.mk (HCL.out w5 _ (k60_mkM w5 w.heap.size (fun k => some k ≠ (Value.slice (some ⟨g, 0, none⟩) n c1).ownBlock) x (v9 := .slice B9 x.f2.f7.length b9) (Kd.R_mono (Kd.R_lower (Kd.R_grown (Kd.R_types HV9.out (t := 60) ht (by decide)) hg5 (fun k hk he => hk.2 (by injection he))) H3.out.2.2.2.2.2.size) (fun k hk he => hk.2 (by injection he))) (v13 := .slice B13 x.f3.length b13) (Kd.R_mono (Kd.R_lower (Kd.R_grown HV13c.out hg5 (fun k hk he => hk (by injection he))) HH.out.2.2.2.2.2.size) (fun k hk he => hk (by injection he)))) rows2 hH5)
           clear hH5 hg5 ht)
        | fail)
      go_roundw
      case rel => exact ⟨i + 1, rows2, by first | rw [hwi] | rfl, Aside0.mk HINL.out, HI5⟩
      case measure => first | (rw [hwi]; simp [intOf]; omega) | (simp [intOf]; omega)
    · have d1 : decide ((i : Int) < (n : Int)) = false := decide_eq_false (by omega)
      have hi2 : i = ys.length := by rw [HN.out]; have := HIN.out; omega
      subst hi2
      have hin2 : ¬ ((ys.length : Int) < (n : Int)) := by omega
      go_wp2_with fail
      go_ret
      exact ⟨_, rfl, HD.out.done, HD.out.2.2.2.2⟩

end Go.Proofs.Ytigjfnleinhahaa.PLog
