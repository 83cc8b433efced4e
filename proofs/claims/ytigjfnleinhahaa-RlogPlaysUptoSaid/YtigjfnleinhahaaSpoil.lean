/- spoil: entries of one's own are written over. -/
import Derived.Test.YtigjfnleinhahaaDeep

import Derived.Test.YtigjfnleinhahaaWNEv
namespace Go.Proofs.Ytigjfnleinhahaa.PLog
open Go.RowKit Go.Proofs.YtigjfnleinhahaaW.PrintWords Go.Proofs.YtigjfnleinhahaaW.PrintLast Go.Proofs.YtigjfnleinhahaaW.PrintMore
open Go.Proofs.Ytigjfnleinhahaa.Reg
set_option linter.unusedVariables false
set_option linter.unusedSimpArgs false
set_option maxHeartbeats 4000000
set_option maxRecDepth 100000

open Kd in
/-- A row of entries of one's own, whatever they hold: its lists are one's own, too. -/
def SpI (W : World) (ok : Nat → Prop) (v : Value) (n : Nat) : Prop :=
  ∃ rows : List (List Value), (raw 14).R 60 W 0 ok v rows ∧ rows.length = n ∧ ∀ (j : Nat) c, rows[j]? = some c → (∃ u xs, c[13]? = some u ∧ (Kd.int .i64).R 3 W 0 ok u xs) ∧ (∃ u xs, c[9]? = some u ∧ Kd.string.R 9 W 0 ok u xs)
open Kd in
theorem SpI.of {W : World} {base : Nat} {ok : Nat → Prop} {v : Value} {xs : List S60} (h : Kd.R k60 60 W base ok v xs) : SpI W ok v xs.length := by
  obtain ⟨h0, inner, ho, hr⟩ := Kd.R_lower h (Nat.zero_le _)
  refine ⟨chunks 14 xs.length inner, ⟨fun k hk => h0 k hk, inner, by rw [chunks_length]; exact ho, Kd.reps_raw hr (fun x c hp => ⟨k60.K_len (k60.K_of_M hp), k60.K_one (k60.K_of_M hp)⟩)⟩, chunks_length _ _ _, fun j c hc => ?_⟩
  have hjl : j < xs.length := by have := (List.getElem?_eq_some_iff.1 hc).1; rw [chunks_length] at this; exact this
  have hM := hr.2 j _ (List.getElem?_eq_getElem hjl)
  rw [chunks_get hc]
  obtain ⟨v9, v13, hcs, h9, h13⟩ := k60_openM hM
  have hcs' : (inner.drop (j * 14)).take 14 = _ := hcs
  rw [hcs']
  exact ⟨⟨v13, _, rfl, Kd.R_mono h13 (fun k hk => hk.1)⟩, ⟨v9, _, rfl, Kd.R_mono h9 (fun k hk => hk.1)⟩⟩
/-- Entry i of such a row. -/
theorem SpI.at {W : World} {ok : Nat → Prop} {A : Option Addr} {n cap : Nat} (h : SpI W ok (.slice A n cap) n) {i : Nat} (hi : i < n) :
    ∃ g A13 l13 c13 A9 l9 c9 xs ss z0, A = some ⟨g, 0, none⟩ ∧ ok g ∧ g < W.heap.size ∧ (∃ cells, W.heap[g]? = some (.cells cells 60 (0, 0))) ∧ W.cell? ⟨g, i * 14, none⟩ = some z0 ∧ W.cell? ⟨g, i * 14 + 13, none⟩ = some (.slice A13 l13 c13) ∧ W.cell? ⟨g, i * 14 + 9, none⟩ = some (.slice A9 l9 c9) ∧ (Kd.int .i64).R 3 W 0 ok (.slice A13 l13 c13) xs ∧ Kd.string.R 9 W 0 ok (.slice A9 l9 c9) ss := by
  obtain ⟨rows, hR, hl, hE⟩ := h
  obtain ⟨g, cap', hv, -, hlt, hty⟩ := Kd.R_form hR (by omega)
  injection hv with hv1 hv2 hv3
  subst hv1
  obtain ⟨c, hcl, hM, hcc, -⟩ := Kd.R_elem hR ([] : List Value) (i : Int) (by omega) (by omega)
  rw [Int.toNat_natCast] at hM hcc
  have hri : rows[i]? = some rows[i] := List.getElem?_eq_getElem (by omega)
  have e : rows.getD i [] = rows[i] := by rw [List.getD_eq_getElem?_getD, hri]; rfl
  rw [e] at hM
  have hce : c = rows[i] := hM.1
  rw [hce] at hcl hcc
  obtain ⟨⟨u, xs, hu, hux⟩, ⟨y, ss, hy, hys⟩⟩ := hE i _ hri
  obtain ⟨A13, c13, rfl⟩ := Kd.R_slice hux
  obtain ⟨A9, c9, rfl⟩ := Kd.R_slice hys
  have hcl' : rows[i].length = 14 := hcl
  have h0 : rows[i][0]? = some rows[i][0] := List.getElem?_eq_getElem (by omega)
  exact ⟨g, A13, _, c13, A9, _, c9, xs, ss, _, rfl, hR.1 g (by simp [Value.ownBlock]), hlt, hty, hcc 0 _ h0, hcc 13 _ hu, hcc 9 _ hy, hux, hys⟩
theorem own_set1 {W : World} {base g k n : Nat} {e : TypeId} {v : Value} {xs : List Value} (h : W.ownsRow base e 1 v n xs) (u : Value) : (W.setCell ⟨g, k, none⟩ u).ownsRow base e 1 v n (if v.ownBlock = some g then xs.set k u else xs) := by
  obtain ⟨h1, h2⟩ := h
  rcases h2 with ⟨rfl, h2⟩ | ⟨g', cap, cur, rfl, hb, hh, hc, hm, hs, ht⟩
  · rw [if_neg (by simp [Value.ownBlock])]
    exact ⟨h1, .inl ⟨rfl, h2⟩⟩
  · by_cases e1 : g' = g
    · subst e1
      rw [if_pos (by simp [Value.ownBlock])]
      refine ⟨by rw [List.length_set]; exact h1, .inr ⟨g', cap, cur.setIfInBounds k u, rfl, hb, set_field k hh u, hc, hm, by rw [Array.size_setIfInBounds]; exact hs, ?_⟩⟩
      rw [← ht, Array.toList_setIfInBounds, List.take_set]
    · rw [if_neg (by simp [Value.ownBlock]; exact e1)]
      exact ⟨h1, .inr ⟨g', cap, cur, rfl, hb, (Below.heap_setCell W ⟨g, k, none⟩ u g' e1).trans hh, hc, hm, hs, ht⟩⟩
theorem R_set1 {α : Type} {enc : α → Value} {h1 : ∀ x, (enc x).oneCell' = true} {e base g k : Nat} {W : World} {ok : Nat → Prop} {v : Value} {xs : List α} (h : (Kd.scalar enc h1).R e W base ok v xs) (x : α) : ∃ ys, (Kd.scalar enc h1).R e (W.setCell ⟨g, k, none⟩ (enc x)) base ok v ys := by
  have h2 := own_set1 (g := g) (k := k) (Kd.own_of_R h) (enc x)
  split at h2
  · refine ⟨xs.set k x, Kd.R_of_own ?_ h.1⟩
    rw [List.length_set]
    have e1 : (encs enc xs).set k (enc x) = encs enc (xs.set k x) := by simp [encs, List.map_set]
    rw [e1] at h2
    exact h2
  · exact ⟨xs, Kd.R_of_own h2 h.1⟩
theorem R_set_other {α : Type} {d : Kd α} {e base g k t : Nat} {W : World} {ok : Nat → Prop} {v : Value} {xs : List α} (h : d.R e W base ok v xs) {cells : Array Value} (hh : W.heap[g]? = some (.cells cells t (0, 0))) (ht : ∀ q, q ∈ e :: d.E → q ≠ t) (u : Value) : d.R e (W.setCell ⟨g, k, none⟩ u) base ok v xs :=
  Kd.R_mono (Kd.R_far (Kd.R_types h hh ht) (p := ⟨g, k, none⟩) (fun _ hk => hk.2) u) (fun _ hk => hk.1)
theorem SpI.set3 {W : World} {ok : Nat → Prop} {v : Value} {n g : Nat} (h : SpI W ok v n) {cells : Array Value} (hh : W.heap[g]? = some (.cells cells 3 (0, 0))) (k : Nat) (x : Int) : SpI (W.setCell ⟨g, k, none⟩ (.int .i64 x)) ok v n := by
  obtain ⟨rows, hR, hl, hE⟩ := h
  refine ⟨rows, R_set_other hR hh (by decide) _, hl, fun j c hc => ?_⟩
  obtain ⟨⟨u, xs, hu, hux⟩, ⟨y, ss, hy, hys⟩⟩ := hE j c hc
  obtain ⟨xs', hx'⟩ := R_set1 (g := g) (k := k) hux x
  exact ⟨⟨u, xs', hu, hx'⟩, ⟨y, ss, hy, R_set_other hys hh (by decide) _⟩⟩
theorem SpI.set9 {W : World} {ok : Nat → Prop} {v : Value} {n g : Nat} (h : SpI W ok v n) {cells : Array Value} (hh : W.heap[g]? = some (.cells cells 9 (0, 0))) (k : Nat) (x : ByteArray) : SpI (W.setCell ⟨g, k, none⟩ (.string x)) ok v n := by
  obtain ⟨rows, hR, hl, hE⟩ := h
  refine ⟨rows, R_set_other hR hh (by decide) _, hl, fun j c hc => ?_⟩
  obtain ⟨⟨u, xs, hu, hux⟩, ⟨y, ss, hy, hys⟩⟩ := hE j c hc
  obtain ⟨ss', hx'⟩ := R_set1 (g := g) (k := k) hys x
  exact ⟨⟨u, xs, hu, R_set_other hux hh (by decide) _⟩, ⟨y, ss', hy, hx'⟩⟩
theorem SpI.set60 {W : World} {ok : Nat → Prop} {n cap g : Nat} (h : SpI W ok (.slice (some ⟨g, 0, none⟩) n cap) n) {i : Nat} (hi : i < n) (x : Int) : SpI (W.setCell ⟨g, i * 14, none⟩ (.int .i64 x)) ok (.slice (some ⟨g, 0, none⟩) n cap) n := by
  obtain ⟨rows, hR, hl, hE⟩ := h
  obtain ⟨cells, hh⟩ := Kd.R_typed hR g (by simp [Value.ownBlock])
  obtain ⟨c, hcl, hM, hcc, -⟩ := Kd.R_elem hR ([] : List Value) (i : Int) (by omega) (by omega)
  rw [Int.toNat_natCast] at hM hcc
  have hri : rows[i]? = some rows[i] := List.getElem?_eq_getElem (by omega)
  have e : rows.getD i [] = rows[i] := by rw [List.getD_eq_getElem?_getD, hri]; rfl
  rw [e] at hM
  have hce : c = rows[i] := hM.1
  have hone := hM.2.2
  rw [hce] at hcl hcc hone
  have hcl' : rows[i].length = 14 := hcl
  have hs := (Kd.R_seg hR (i : Int) (by omega) (by omega) (c := rows[i]) (seg := [.int .i64 x]) (j := 0) hcl' (by rw [Int.toNat_natCast]; exact hcc) (by show 0 + 1 ≤ 14; omega) (x' := .int .i64 x :: rows[i].drop 1) (okp := fun _ => False) ⟨rfl, by simp [hcl'], by
    intro u hu
    simp only [List.take_zero, List.nil_append, List.length_singleton, Nat.zero_add, List.singleton_append, List.mem_cons] at hu
    rcases hu with rfl | hu
    · rfl
    · exact hone u (List.mem_of_mem_drop hu)⟩ (fun _ h => h.elim)).1
  rw [Int.toNat_natCast] at hs
  have e2 : W.setCells g (i * (Kd.raw 14).sz + 0) [.int .i64 x] = W.setCell ⟨g, i * 14, none⟩ (.int .i64 x) := rfl
  rw [e2] at hs
  refine ⟨_, hs, by rw [List.length_set]; exact hl, fun j c hc => ?_⟩
  have hex : ∃ c0, rows[j]? = some c0 ∧ c[13]? = c0[13]? ∧ c[9]? = c0[9]? := by
    by_cases ej : j = i
    · subst ej
      rw [List.getElem?_set_self (by omega)] at hc
      injection hc with hc
      subst hc
      exact ⟨rows[j], hri, by simp, by simp⟩
    · rw [List.getElem?_set_ne (by omega)] at hc
      exact ⟨c, hc, rfl, rfl⟩
  obtain ⟨c0, h0, q13, q9⟩ := hex
  obtain ⟨⟨u, xs, hu, hux⟩, ⟨y, ss, hy, hys⟩⟩ := hE j c0 h0
  exact ⟨⟨u, xs, q13.trans hu, R_set_other hux hh (by decide) _⟩, ⟨y, ss, q9.trans hy, R_set_other hys hh (by decide) _⟩⟩
/-- A number of a list of one's own. -/
theorem int_cell {W : World} {ok : Nat → Prop} {A : Option Addr} {n c : Nat} {xs : List Int} (h : (Kd.int .i64).R 3 W 0 ok (.slice A n c) xs) {k : Nat} (hk : k < n) : ∃ g z cells, A = some ⟨g, 0, none⟩ ∧ ok g ∧ W.heap[g]? = some (.cells cells 3 (0, 0)) ∧ W.cell? ⟨g, k, none⟩ = some z ∧ W.frozen? ⟨g, k, none⟩ = false := by
  have hn := (Kd.R_reads' h).1
  obtain ⟨g, cap, hv, -, hlt, cells, hty⟩ := Kd.R_form h (by omega)
  injection hv with hv1 hv2 hv3
  subst hv1
  obtain ⟨cs, hcl, hM, hcc, hf⟩ := Kd.R_elem h (0 : Int) (k : Int) (by omega) (by omega)
  rw [Int.toNat_natCast] at hcc hf
  have hcl1 : cs.length = 1 := hcl
  have h0 : cs[0]? = some cs[0] := List.getElem?_eq_getElem (by omega)
  have h1 := hcc 0 _ h0
  have h2 := hf 0
  have e : k * (Kd.int .i64).sz + 0 = k := by show k * 1 + 0 = k; omega
  rw [e] at h1 h2
  exact ⟨g, _, cells, rfl, h.1 g (by simp [Value.ownBlock]), hty, h1, h2⟩
theorem str_cell {W : World} {ok : Nat → Prop} {A : Option Addr} {n c : Nat} {xs : List ByteArray} (h : Kd.string.R 9 W 0 ok (.slice A n c) xs) {k : Nat} (hk : k < n) : ∃ g z cells, A = some ⟨g, 0, none⟩ ∧ ok g ∧ W.heap[g]? = some (.cells cells 9 (0, 0)) ∧ W.cell? ⟨g, k, none⟩ = some z ∧ W.frozen? ⟨g, k, none⟩ = false := by
  have hn := (Kd.R_reads' h).1
  obtain ⟨g, cap, hv, -, hlt, cells, hty⟩ := Kd.R_form h (by omega)
  injection hv with hv1 hv2 hv3
  subst hv1
  obtain ⟨cs, hcl, hM, hcc, hf⟩ := Kd.R_elem h ByteArray.empty (k : Int) (by omega) (by omega)
  rw [Int.toNat_natCast] at hcc hf
  have hcl1 : cs.length = 1 := hcl
  have h0 : cs[0]? = some cs[0] := List.getElem?_eq_getElem (by omega)
  have h1 := hcc 0 _ h0
  have h2 := hf 0
  have e : k * Kd.string.sz + 0 = k := by show k * 1 + 0 = k; omega
  rw [e] at h1 h2
  exact ⟨g, _, cells, rfl, h.1 g (by simp [Value.ownBlock]), hty, h1, h2⟩
theorem cell_set_other {W : World} {g g' o k : Nat} {v u : Value} (h : W.cell? ⟨g, o, none⟩ = some v) (hne : g ≠ g') : (W.setCell ⟨g', k, none⟩ u).cell? ⟨g, o, none⟩ = some v := by
  have e := Below.heap_setCell W ⟨g', k, none⟩ u g hne
  simp only [World.cell?] at h ⊢
  rw [e]
  exact h
/-- The state of spoil's walk. -/
def SpW (w W : World) (ok : Nat → Prop) (v : Value) (n : Nat) : Prop := SpI W ok v n ∧ Kept w W ok ∧ Below 0 w W
theorem spoil_calls {w : World} {base : Nat} {ok : Nat → Prop} {v : Value} {xs : List S60} (h : Kd.R k60 60 w base ok v xs) (hl : xs.length ≤ 4611686018427387904) :
    Calls Try.prog 25 #[v] w fun e w' => e = .returned (.tuple #[]) ∧ Kept w w' ok ∧ Below 0 w w' := by
  obtain ⟨A, c, rfl⟩ := Kd.R_slice h
  have HS := Aside0.mk (show SpW w w ok (.slice A xs.length c) xs.length from ⟨SpI.of h, Kept.refl _ _, Below.refl _ _⟩)
  have HL := Aside0.mk hl
  clear h hl
  generalize xs.length = n at *
  clear xs
  go_enter Try.func25, Try.ntmps25
  go_wp2
  go_loopw [7] (fun v7 wr => ∃ i : Nat, v7 = .int .i64 (i : Int) ∧ Aside0 (i ≤ n) ∧ Aside0 (SpW w wr ok (.slice A n c) n)) (fun v7 _ => n - (intOf v7).toNat)
  case atStart => exact ⟨0, rfl, Aside0.mk (Nat.zero_le _), HS⟩
  case round =>
    obtain ⟨i, rfl, HIN, HD⟩ := hrel
    by_cases hin : i < n
    · have d1 : decide ((i : Int) < (n : Int)) = true := decide_eq_true (by omega)
      have hin2 : (i : Int) < (n : Int) := by omega
      have hi0 : (0 : Int) ≤ (i : Int) := by omega
      obtain ⟨g, A13, l13, c13, A9, l9, c9, xs, ss, z0, rfl, hg, hgl, ⟨gcells, hgt⟩, p0, p13, p9, hx, hs⟩ := HD.out.1.at hin
      have HINL := Aside0.mk hin
      have HG := Aside0.mk hg
      have HGT := Aside0.mk hgt
      have HXS := Aside0.mk (And.intro hx hs)
      have hwi : wrap64 ((i : Int) + 1) = ((i + 1 : Nat) : Int) := by have := HL.out; have := HINL.out; unfold wrap64; omega
      have HL13 := Aside0.mk (show l13 ≤ 9223372036854775807 from by have := (Kd.R_reads' hx).1; rw [this]; exact Kd.C_max (Kd.R_reads' hx).2.2)
      have HL9 := Aside0.mk (show l9 ≤ 9223372036854775807 from by have := (Kd.R_reads' hs).1; rw [this]; exact Kd.C_max (Kd.R_reads' hs).2.2)
      have HST := Aside0.mk (And.intro HD.out (And.intro p13 p9))
      clear hg hgl hgt hx hs p0 hin p9
      go_wp2

      go_loopw [16] (fun vk wr2 => ∃ k : Nat, vk = .int .i64 (k : Int) ∧ Aside0 (k ≤ l13) ∧ Aside0 (SpW w wr2 ok (.slice (some ⟨g, 0, none⟩) n c) n ∧ wr2.cell? ⟨g, i * 14 + 13, none⟩ = some (.slice A13 l13 c13) ∧ wr2.cell? ⟨g, i * 14 + 9, none⟩ = some (.slice A9 l9 c9))) (fun vk _ => l13 - (intOf vk).toNat)
      case atStart => exact ⟨0, rfl, Aside0.mk (Nat.zero_le _), HST⟩
      case round =>
        obtain ⟨k, rfl, HKN, HK⟩ := hrel
        by_cases hkl : k < l13
        · have d2 : decide ((k : Int) < (l13 : Int)) = true := decide_eq_true (by omega)
          have hk2 : (k : Int) < (l13 : Int) := by omega
          have hk0 : (0 : Int) ≤ (k : Int) := by omega
          have HKL := Aside0.mk hkl
          obtain ⟨g2, A13', l13', c13', A9', l9', c9', xs', ss', z0', he, hg2, hgl2, ⟨gc2, hgt2⟩, p0', p13', p9', hx', hs'⟩ := HK.out.1.1.at HINL.out
          injection he with he
          injection he with he _ _
          subst he
          obtain ⟨rfl, rfl, rfl⟩ : A13' = A13 ∧ l13' = l13 ∧ c13' = c13 := by
            have h := HK.out.2.1
            rw [p13'] at h
            injection h with h
            injection h with h1 h2 h3
            exact ⟨h1, h2, h3⟩
          obtain ⟨rfl, rfl, rfl⟩ : A9' = A9 ∧ l9' = l9 ∧ c9' = c9 := by
            have h := HK.out.2.2
            rw [p9'] at h
            injection h with h
            injection h with h1 h2 h3
            exact ⟨h1, h2, h3⟩
          obtain ⟨gi, zi, ci, rfl, hgi, hti, pk, fk⟩ := int_cell hx' hkl
          have hne : g ≠ gi := fun e => by rw [e, hti] at hgt2; injection hgt2 with hgt2; injection hgt2 with _ h _; cases h
          have HN := Aside0.mk (And.intro hgi (And.intro hti hne))
          have hwk : wrap64 ((k : Int) + 1) = ((k + 1 : Nat) : Int) := by have := HL13.out; have := HKL.out; unfold wrap64; omega
          clear hg2 hgl2 hgt2 p0' p9' hx' hs' hgi hti hne hkl
          go_wp2
          go_roundw
          case rel => exact ⟨k + 1, by first | rw [hwk] | rfl, Aside0.mk HKL.out, Aside0.mk ⟨⟨HK.out.1.1.set3 HN.out.2.1 _ _, Kept.setCell HK.out.1.2.1 (.inl HN.out.1) _, Below.setCell HK.out.1.2.2 (Nat.zero_le _) _⟩, cell_set_other HK.out.2.1 HN.out.2.2, cell_set_other HK.out.2.2 HN.out.2.2⟩⟩
          case measure => first | (rw [hwk]; simp [intOf]; have := HKL.out; omega) | (simp [intOf]; have := HKL.out; omega)
        · have d2 : decide ((k : Int) < (l13 : Int)) = false := decide_eq_false (by omega)
          have hk2 : ¬ ((k : Int) < (l13 : Int)) := by omega
          have q9 := HK.out.2.2
          go_wp2

          go_loopw [34] (fun vk wr2 => ∃ k : Nat, vk = .int .i64 (k : Int) ∧ Aside0 (k ≤ l9) ∧ Aside0 (SpW w wr2 ok (.slice (some ⟨g, 0, none⟩) n c) n ∧ wr2.cell? ⟨g, i * 14 + 13, none⟩ = some (.slice A13 l13 c13) ∧ wr2.cell? ⟨g, i * 14 + 9, none⟩ = some (.slice A9 l9 c9))) (fun vk _ => l9 - (intOf vk).toNat)
          case atStart => exact ⟨0, rfl, Aside0.mk (Nat.zero_le _), HK⟩
          case round =>
            obtain ⟨k, rfl, HKN2, HK2⟩ := hrel
            by_cases hkl : k < l9
            · have d2 : decide ((k : Int) < (l9 : Int)) = true := decide_eq_true (by omega)
              have hk2 : (k : Int) < (l9 : Int) := by omega
              have hk0 : (0 : Int) ≤ (k : Int) := by omega
              have HKL2 := Aside0.mk hkl
              obtain ⟨g2, A13', l13', c13', A9', l9', c9', xs', ss', z0', he, hg2, hgl2, ⟨gc2, hgt2⟩, p0', p13', p9', hx', hs'⟩ := HK2.out.1.1.at HINL.out
              injection he with he
              injection he with he _ _
              subst he
              obtain ⟨rfl, rfl, rfl⟩ : A13' = A13 ∧ l13' = l13 ∧ c13' = c13 := by
                have h := HK2.out.2.1
                rw [p13'] at h
                injection h with h
                injection h with h1 h2 h3
                exact ⟨h1, h2, h3⟩
              obtain ⟨rfl, rfl, rfl⟩ : A9' = A9 ∧ l9' = l9 ∧ c9' = c9 := by
                have h := HK2.out.2.2
                rw [p9'] at h
                injection h with h
                injection h with h1 h2 h3
                exact ⟨h1, h2, h3⟩
              obtain ⟨gi, zi, ci, rfl, hgi, hti, pk, fk⟩ := str_cell hs' hkl
              have hne : g ≠ gi := fun e => by rw [e, hti] at hgt2; injection hgt2 with hgt2; injection hgt2 with _ h _; cases h
              have HN := Aside0.mk (And.intro hgi (And.intro hti hne))
              have hwk : wrap64 ((k : Int) + 1) = ((k + 1 : Nat) : Int) := by have := HL9.out; have := HKL2.out; unfold wrap64; omega
              clear hg2 hgl2 hgt2 p0' p13' hx' hs' hgi hti hne hkl
              go_wp2
              go_roundw
              case rel => exact ⟨k + 1, by first | rw [hwk] | rfl, Aside0.mk HKL2.out, Aside0.mk ⟨⟨HK2.out.1.1.set9 HN.out.2.1 _ _, Kept.setCell HK2.out.1.2.1 (.inl HN.out.1) _, Below.setCell HK2.out.1.2.2 (Nat.zero_le _) _⟩, cell_set_other HK2.out.2.1 HN.out.2.2, cell_set_other HK2.out.2.2 HN.out.2.2⟩⟩
              case measure => first | (rw [hwk]; simp [intOf]; have := HKL2.out; omega) | (simp [intOf]; have := HKL2.out; omega)
            · have d2 : decide ((k : Int) < (l9 : Int)) = false := decide_eq_false (by omega)
              have hk2 : ¬ ((k : Int) < (l9 : Int)) := by omega
              obtain ⟨g2, A13', l13', c13', A9', l9', c9', xs', ss', z0', he, hg2, hgl2, ⟨gc2, hgt2⟩, p0', p13', p9', hx', hs'⟩ := HK2.out.1.1.at HINL.out
              injection he with he
              injection he with he _ _
              subst he
              have f0 : wr.frozen? ⟨g, i * 14, none⟩ = false := by simp [World.frozen?, hgt2]
              have HFIN := Aside0.mk (show SpW w (wr.setCell ⟨g, i * 14, none⟩ (.int .i64 (-99))) ok (.slice (some ⟨g, 0, none⟩) n c) n from ⟨HK2.out.1.1.set60 HINL.out _, Kept.setCell HK2.out.1.2.1 (.inl HG.out) _, Below.setCell HK2.out.1.2.2 (Nat.zero_le _) _⟩)
              clear hg2 hgl2 hgt2 p13' p9' hx' hs'
              go_wp2
              go_roundw
              case rel => exact ⟨i + 1, by first | rw [hwi] | rfl, Aside0.mk HINL.out, HFIN⟩
              case measure => first | (rw [hwi]; simp [intOf]; have := HINL.out; omega) | (simp [intOf]; have := HINL.out; omega)
    · have d1 : decide ((i : Int) < (n : Int)) = false := decide_eq_false (by omega)
      have hin2 : ¬ ((i : Int) < (n : Int)) := by omega
      go_wp2_with fail

      go_end0
      exact ⟨rfl, HD.out.2⟩

end Go.Proofs.Ytigjfnleinhahaa.PLog
