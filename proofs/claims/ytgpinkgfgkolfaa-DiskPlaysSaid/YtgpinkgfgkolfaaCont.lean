/- slices.Index, Contains at pointers to files; a map's values, collected. -/
import Derived.Test.YtgpinkgfgkolfaaColl
import Derived.LaidEqlPtr
namespace Go.Proofs.Ytgpinkgfgkolfaa.PD
open Go.RowKit Go.Proofs.YtgpinkgfgkolfaaW.PrintWords Go.Proofs.YtgpinkgfgkolfaaW.PrintLast Go.Proofs.YtgpinkgfgkolfaaW.PrintMore
set_option linter.unusedVariables false
set_option linter.unusedSimpArgs false
set_option maxHeartbeats 4000000
set_option maxRecDepth 100000

open Go.Proofs Go.Maps Go.Sort Go.Shelf
abbrev fptr (b : Nat) : Value := .pointer (some ⟨b, 0, none⟩)
/-- A block that is a file's. -/
def IsFile (w : World) (f : Nat) : Prop := ∃ cs, w.heap[f]? = some (.cells cs 65 (0, 0))
theorem eq_files {w : World} {f g : Nat} (hf : IsFile w f) (hg : IsFile w g) : (binOp .eql 63 (fptr f) (fptr g)).run Try.prog w = .ok (.bool (decide (f = g))) w := by
  obtain ⟨j, hj, hs⟩ : ∃ j, Try.prog.info? 65 = some j ∧ j.size ≠ 0 := by
    have h : (Try.prog.info? 65).map (fun i => i.size) = some 2 := by kernel_rfl
    obtain ⟨j, h1, h2⟩ := Option.map_eq_some_iff.1 h
    exact ⟨j, h1, by rw [h2]; decide⟩
  by_cases h : f = g
  · subst h
    rw [decide_eq_true rfl]
    exact run_eql_ptr_same w _ Try.underlying63 hj
  · rw [decide_eq_false h]
    obtain ⟨c1, h1⟩ := hf
    obtain ⟨c2, h2⟩ := hg
    exact run_eql_ptr_other w Try.underlying63 hj hs (fun e => h (by injection e)) h1 h2
theorem values_calls (b : Option Nat) (w : World) : Calls Try.prog 26 #[.map b] w fun e w' => e = .returned (.func (.func 48) #[] #[.pointer (some ⟨w.heap.size, 0, none⟩)]) ∧ w' = w.alloc (.cells #[.map b] 57) :=
  (callsIn_wide (n := 6)).1 (values_in Fence.wide 6 trivial rfl b w)
theorem allOf_dir {l : Dir} {ps : List (List UInt8 × Option Nat)} (h : AllOf (dirD l) ps) : ∃ xs : List Nat, ps.map (·.2) = xs.map some ∧ ∀ f, f ∈ xs ↔ ∃ k, findL l k = some f := by
  obtain ⟨h1, h2, h3⟩ := h
  have hone : ∀ p ∈ ps, ∃ f, p.2 = some f ∧ findL l p.1 = some f := fun p hp => by
    have h4 := (h2 p.1).1 (List.mem_map_of_mem hp)
    have h5 := h3 p hp
    unfold ValAt at h5
    simp only [atKey_is] at h5
    cases hf : findL l p.1 with
    | some f =>
      have h6 := h5 .nil
      rw [hf] at h6
      cases hp2 : p.2 with
      | none => rw [hp2] at h6; cases h6
      | some q =>
        rw [hp2] at h6
        injection h6 with h6
        injection h6 with _ h6
        exact ⟨q, rfl, by rw [show f = q by omega]⟩
    | none =>
      have h6 := h5 (.lit (.bool true))
      rw [hf] at h6
      cases hp2 : p.2 with
      | none => rw [hp2] at h6; cases h6
      | some q => rw [hp2] at h6; cases h6
  refine ⟨ps.filterMap (·.2), ?_, fun f => ⟨fun hf => ?_, fun ⟨k, hk⟩ => ?_⟩⟩
  · have : ∀ qs : List (List UInt8 × Option Nat), (∀ p ∈ qs, ∃ f, p.2 = some f) → qs.map (·.2) = (qs.filterMap (·.2)).map some := fun qs => by
      induction qs with
      | nil => intro _; rfl
      | cons p qs ih =>
        intro h
        obtain ⟨f, hf⟩ := h p (List.mem_cons_self ..)
        rw [List.map_cons, List.filterMap_cons, hf, List.map_cons, ih (fun p hp => h p (List.mem_cons_of_mem _ hp))]
    exact this ps (fun p hp => (hone p hp).elim fun f h => ⟨f, h.1⟩)
  · obtain ⟨p, hp, hpf⟩ := List.mem_filterMap.1 hf
    obtain ⟨g, hg1, hg2⟩ := hone p hp
    rw [hpf] at hg1
    cases hg1
    exact ⟨p.1, hg2⟩
  · have hin : has (dirD l) (.string k) = true := by
      unfold findL at hk
      obtain ⟨x, hx, _⟩ := Option.map_eq_some_iff.1 hk
      have hm := List.mem_of_find?_eq_some hx
      have hp := List.find?_some hx
      unfold has dirD
      simp only [List.any_map, List.any_eq_true]
      exact ⟨x, hm, hp⟩
    have := (h2 k).2 hin
    obtain ⟨p, hp, rfl⟩ := List.mem_map.1 this
    obtain ⟨g, hg1, hg2⟩ := hone p hp
    rw [hk] at hg2
    cases hg2
    exact List.mem_filterMap.2 ⟨p, hp, hg1⟩
theorem size_dir (l : Dir) : size (dirD l) = l.length := by simp [dirD, Maps.size]
theorem collect_calls (Bm b : Nat) (l : Dir) (hsz : l.length * 8 ≤ 140737488351232) (w : World) (hm : w.cell? ⟨Bm, 0, none⟩ = some (.map (some b))) (hBm : Bm < w.heap.size) (hown : MapL w b l) :
    Calls Try.prog 25 #[.func (.func 48) #[] #[.pointer (some ⟨Bm, 0, none⟩)]] w fun e W' => ∃ v, e = .returned v ∧ (∃ xs : List Nat, W'.ownsRow w.heap.size 63 1 v xs.length (xs.map fptr) ∧ xs.length = l.length ∧ (∀ f, f ∈ xs ↔ ∃ k, findL l k = some f)) ∧ Below w.heap.size w W' := by
  refine ((callsIn_wide (n := 6)).1 (collect_in Fence.wide 6 trivial trivial trivial rfl (by omega) Bm b l.length (dirD l) (by rw [size_dir]; exact hsz) w hBm hm hown)).mono ?_
  rintro e W' ⟨v, ps, rfl, hps, hrow, hb⟩
  obtain ⟨xs, h1, h2⟩ := allOf_dir hps
  have hl : ps.length = xs.length := by have := congrArg List.length h1; simpa using this
  have hll : ps.length = l.length := by
    have h3 := hps.1.length_eq
    simpa [strKeys, dirD] using h3
  refine ⟨v, rfl, ⟨xs, ?_, by omega, h2⟩, hb⟩
  rw [h1, hl, List.map_map] at hrow
  exact hrow
set_option maxHeartbeats 4000000 in
theorem index_calls (v : Value) (xs : List Nat) (f B : Nat) (w : World) (hx : xs.length ≤ 140737488351232) (hrow : w.ownsRow B 63 1 v xs.length (xs.map fptr)) (hf : IsFile w f) (hfs : ∀ x ∈ xs, IsFile w x) :
    Calls Try.prog 46 #[v, fptr f] w fun e w' => (∃ r : Int, e = .returned (.int .i64 r) ∧ decide (0 ≤ r) = decide (f ∈ xs)) ∧ w' = w := by
  obtain ⟨A, c, hv, hcell⟩ : ∃ A c, v = .slice A xs.length c ∧ ∀ (i : Nat) (h : i < xs.length), ∃ g, A = some ⟨g, 0, none⟩ ∧ w.cell? ⟨g, i, none⟩ = some (fptr xs[i]) := by
    rcases hrow.2 with ⟨h1, h2⟩ | ⟨g, cap, cur, h1, h2, h3, h4, h5, h6, h7⟩
    · refine ⟨none, 0, ?_, fun i h => by omega⟩
      rw [h1, h2]
    · refine ⟨some ⟨g, 0, none⟩, cap, h1, fun i h => ⟨g, rfl, ?_⟩⟩
      have h8 := hrow.cells (g := g) (by rw [h1]; rfl) i (fptr xs[i]) (by rw [List.getElem?_map, List.getElem?_eq_getElem h]; rfl)
      have ha : (⟨g, 0, none⟩ : Addr).add i = ⟨g, i, none⟩ := by unfold Addr.add; split <;> simp_all
      rw [ha] at h8
      exact h8
  subst hv
  have HC := Aside0.mk hcell
  have HE := Aside0.mk (fun (x : Nat) (h : x ∈ xs) => eq_files hf (hfs x h))
  have HX := Aside0.mk hx
  clear hrow hcell hf hfs hx
  go_enter Try.func46, Try.ntmps46
  go_wp2_with fail
  go_loopw [8] (fun v8 wr => ∃ i : Nat, v8 = .int .i64 (i : Int) ∧ i ≤ xs.length ∧ Aside0 (f ∉ xs.take i) ∧ wr = w) (fun v8 _ => xs.length - (RowKit.intOf v8).toNat)
  case atStart => exact ⟨0, rfl, Nat.zero_le _, ⟨by simp⟩, rfl⟩
  case round =>
    obtain ⟨i, rfl, hi, hnot, rfl⟩ := hrel
    by_cases hlt : i < xs.length
    · obtain ⟨g, rfl, hc⟩ := HC.out i hlt
      have he := HE.out xs[i] (List.getElem_mem hlt)
      have d1 : decide (i < xs.length) = true := decide_eq_true hlt
      have d2 : decide ((i : Int) < (xs.length : Int)) = true := decide_eq_true (by omega)
      have hw : wrap64 ((i : Int) + 1) = ((i + 1 : Nat) : Int) := by have := HX.out; unfold wrap64; omega
      have HI := Aside0.mk hlt
      have hstep : xs.take (i + 1) = xs.take i ++ [xs[i]] := List.take_succ_eq_append_getElem hlt
      have HS := Aside0.mk hstep
      have HM := Aside0.mk (show xs[i] ∈ xs from List.getElem_mem hlt)
      clear hstep
      generalize xs[i] = x at *
      by_cases hfx : f = x
      · rw [decide_eq_true hfx] at he
        have HF := Aside0.mk (show f ∈ xs from hfx ▸ HM.out)
        clear hfx
        go_wp2_with fail
        go_ret
        exact ⟨⟨_, rfl, by rw [decide_eq_true HF.out]; exact decide_eq_true (by omega)⟩, rfl⟩
      · rw [decide_eq_false hfx] at he
        have HF := Aside0.mk hfx
        clear hfx
        go_wp2_with fail
        go_roundw
        case rel => exact ⟨i + 1, by rw [hw], HI.out, ⟨by rw [HS.out, List.mem_append, List.mem_singleton]; exact fun h => h.elim hnot.out HF.out⟩, by first | trivial | rfl⟩
        case measure => rw [hw]; have := HI.out; show xs.length - (i + 1) < xs.length - i; omega
    · have d1 : decide (i < xs.length) = false := decide_eq_false hlt
      have d2 : decide ((i : Int) < (xs.length : Int)) = false := decide_eq_false (by omega)
      have HN := Aside0.mk (show f ∉ xs by have h := hnot.out; rwa [List.take_of_length_le (by omega)] at h)
      clear hlt
      go_wp2_with fail
      go_ret
      exact ⟨⟨_, rfl, by rw [decide_eq_false HN.out]; rfl⟩, rfl⟩
theorem contains_calls (v : Value) (xs : List Nat) (f B : Nat) (w : World) (hx : xs.length ≤ 140737488351232) (hrow : w.ownsRow B 63 1 v xs.length (xs.map fptr)) (hf : IsFile w f) (hfs : ∀ x ∈ xs, IsFile w x) :
    Calls Try.prog 24 #[v, fptr f] w fun e w' => e = .returned (.bool (decide (f ∈ xs))) ∧ w' = w := by
  have HC := Aside0.mk (index_calls v xs f B w hx hrow hf hfs)
  clear hrow hf hfs hx
  go_enter Try.func24, Try.ntmps24
  go_wp2_with fail
  refine HC.out.mono ?_
  rintro _ w1 ⟨⟨r, rfl, hr⟩, rfl⟩
  have HR := Aside0.mk hr
  clear hr HC
  go_wp2_with fail
  go_ret
  exact ⟨by rw [← HR.out]; rfl, rfl⟩

end Go.Proofs.Ytgpinkgfgkolfaa.PD
