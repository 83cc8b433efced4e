/- Merge of the document's log. -/
import Derived.Test.YtigjfnleinhahaaCompact
import Derived.Test.YtigjfnleinhahaaMerge3
import Derived.Test.YtigjfnleinhahaaGet

import Derived.StillTailTactics
import Derived.WalkSpells
namespace Go.Proofs.Ytigjfnleinhahaa.PLog
open Go.RowKit Go.Proofs.YtigjfnleinhahaaW.PrintWords Go.Proofs.YtigjfnleinhahaaW.PrintLast Go.Proofs.YtigjfnleinhahaaW.PrintMore
open Go.Proofs.Ytigjfnleinhahaa.Reg
set_option linter.unusedVariables false
set_option linter.unusedSimpArgs false
set_option maxHeartbeats 4000000
set_option maxRecDepth 100000

def firstX (a t : Int) (es : List S60) (p : Int) : List S60 → Nat → Option Nat
  | [], _ => none
  | y :: l, i => if p + 1 + i ≤ a ∨ termAt a t es (p + 1 + i) = (y.f0, true) then firstX a t es p l (i + 1) else some i
def mergeXB (a t : Int) (es : List S60) (p : Int) (ys : List S60) : Int × Bool × List S60 := match firstX a t es p ys 0 with
  | none => (a + es.length + 1, true, es)
  | some i => (p + 1 + i, true, es.take (p + i - a).toNat ++ ys.drop i)
def mergeXL (a t : Int) (es : List S60) (x term : Int) (ys : List S60) : Int × Bool × List S60 :=
  if x < 0 then (0, false, es) else if a ≤ x ∧ termAt a t es x ≠ (term, true) then (0, false, es) else mergeXB a t es x ys
theorem firstX_skip (a t : Int) (es : List S60) (p : Int) : ∀ (n : Nat) (l : List S60) (i : Nat), n ≤ l.length → (n = 0 ∨ p + i + n ≤ a) → firstX a t es p l i = firstX a t es p (l.drop n) (i + n) := by
  intro n
  induction n with
  | zero => intro l i _ _; rfl
  | succ n ih =>
    intro l i hn hp
    cases l with
    | nil => simp at hn
    | cons y l =>
      simp only [firstX]
      rw [if_pos (.inl (by omega)), ih l (i + 1) (by simpa using hn) (by push_cast; omega)]
      simp only [List.drop_succ_cons]
      rw [show i + 1 + n = i + (n + 1) by omega]
theorem firstX_bad (a t : Int) (es : List S60) (p q : Int) : ∀ (l : List S60) (i j : Nat), p + i = q + j → a ≤ p + i → firstX a t es p l i = (firstBad a t es q l j).map (fun k => i + k - j) := by
  intro l
  induction l with
  | nil => intro i j _ _; rfl
  | cons y l ih =>
    intro i j he ha
    simp only [firstX, firstBad]
    have e : p + 1 + i = q + 1 + j := by omega
    rw [e]
    by_cases h : termAt a t es (q + 1 + j) = (y.f0, true)
    · rw [if_pos h, if_pos (.inr h), ih (i + 1) (j + 1) (by omega) (by omega)]
      congr 1
      funext k
      omega
    · rw [if_neg h, if_neg (by rintro (h2 | h2); omega; exact h h2)]
      simp
theorem mergeXB_is (a t : Int) (es : List S60) (x : Int) (ys : List S60) (q : Nat) (hq : q ≤ ys.length) (h : x + q = a ∨ (a ≤ x ∧ q = 0)) : mergeXB a t es x ys = mergeBody a t es (x + q) (ys.drop q) := by
  unfold mergeXB mergeBody
  rw [firstX_skip a t es x q ys 0 hq (by omega), Nat.zero_add, firstX_bad a t es x (x + q) (ys.drop q) q 0 (by omega) (by omega)]
  cases hf : firstBad a t es (x + q) (ys.drop q) 0 with
  | none => simp
  | some k =>
    simp only [Option.map_some, Nat.sub_zero]
    refine Prod.ext (by simp; omega) (Prod.ext rfl ?_)
    show es.take _ ++ _ = es.take _ ++ _
    rw [List.drop_drop]
    congr 2
    omega
theorem mergeXL_is (a t : Int) (es : List S60) (x term : Int) (ys : List S60) (h0 : 0 ≤ a) : mergeXL a t es x term ys = mergeL a t es x term ys := by
  unfold mergeXL mergeL
  by_cases e1 : x < 0
  · rw [if_pos e1, if_neg (by omega), if_pos e1]
  · rw [if_neg e1]
    by_cases e2 : a ≤ x
    · rw [if_pos e2]
      by_cases e3 : termAt a t es x = (term, true)
      · rw [if_pos e3, if_neg (by rintro ⟨_, h⟩; exact h e3)]
        have := mergeXB_is a t es x ys 0 (Nat.zero_le _) (.inr ⟨e2, rfl⟩)
        simpa using this
      · rw [if_neg e3, if_pos ⟨e2, e3⟩]
    · rw [if_neg e2, if_neg (by rintro ⟨h, _⟩; exact e2 h), if_neg e1]
      by_cases e4 : (a - x).toNat ≤ ys.length
      · have e5 : min (a - x).toNat ys.length = (a - x).toNat := by omega
        rw [e5]
        exact mergeXB_is a t es x ys _ e4 (.inl (by omega))
      · have e5 : min (a - x).toNat ys.length = ys.length := by omega
        rw [e5, List.drop_length]
        unfold mergeXB mergeBody
        rw [firstX_skip a t es x ys.length ys 0 (Nat.le_refl _) (by omega), List.drop_length]
        simp [firstX, firstBad]
theorem firstX_le (a t : Int) (es : List S60) (p : Int) (h0 : 0 ≤ a) : ∀ (l : List S60) (i : Nat) (j : Nat), (p + i ≤ a + es.length) → firstX a t es p l i = some j → p + j ≤ a + es.length ∧ j < i + l.length ∧ a < p + 1 + j := by
  intro l
  induction l with
  | nil => intro i j _ h; cases h
  | cons y l ih =>
    intro i j hi h
    simp only [firstX] at h
    split at h
    · rename_i ht
      have hle : p + ((i + 1 : Nat) : Int) ≤ a + es.length := by
        rcases ht with ht | ht
        · omega
        unfold termAt at ht
        split at ht
        · omega
        · split at ht
          · split at ht
            · omega
            · injection ht with _ h2; cases h2
          · injection ht with _ h2; cases h2
      have := ih (i + 1) j hle h
      simp only [List.length_cons]
      omega
    · rename_i ht
      cases h
      simp only [List.length_cons]
      have : ¬ (p + 1 + i ≤ a) := fun h => ht (.inl h)
      omega
theorem LogX.set1 {w w2 : World} {ok ok' : Nat → Prop} {g : Nat} {u2 v : Value} {es : List S60} {a t : Int} (hb : Below w.heap.size w w2) (hg : ok g) (hlt : g < w.heap.size) (hh : w2.heap[g]? = some (.cells #[.int .i64 a, .int .i64 t, u2] 47 (0, 0))) (hR : Kd.R k60 60 w2 0 ok' v es) {okY : Nat → Prop} (hok : ∀ k, ok' k → (ok k ∨ okY k ∨ w.heap.size ≤ k) ∧ k ≠ g) :
    LogX (w2.setCell ⟨g, 2, none⟩ v) (fun k => ok k ∨ okY k ∨ w.heap.size ≤ k) g a t es ∧ Kept w (w2.setCell ⟨g, 2, none⟩ v) ok ∧ Below 0 w (w2.setCell ⟨g, 2, none⟩ v) := by
  refine ⟨⟨.inl hg, v, set_field 2 hh _, ?_⟩, Kept.setCell (Kept.below (Kept.refl w ok) hb) (.inl hg) _, Below.setCell (hb.mono (Nat.zero_le _)) (Nat.zero_le _) _⟩
  exact Kd.R_mono (Kd.R_far (p := ⟨g, 2, none⟩) hR (fun k hk => (hok k hk).2) v) hok
theorem merge_x {w : World} {ok : Nat → Prop} {g : Nat} {a t : Int} {es : List S60} (h : LogX w ok g a t es) (h0 : 0 ≤ a) (x term : Int) (A : Option Addr) (c : Nat) (ys : List S60) (okY : Nat → Prop) (hC : (ownKd k60 0 okY).C w A ys.length ys) (hY : ∀ k, okY k → k ≠ g ∧ k < w.heap.size) (hc : ys.length ≤ c)
    (hl : (es.length + ys.length) * 192 ≤ 140737488355328) (h1 : a + es.length ≤ 2305843009213693952) (hx : x ≤ 2305843009213693952) :
    Calls Try.prog 22 #[.pointer (some ⟨g, 0, none⟩), .int .i64 x, .int .i64 term, .slice A ys.length c] w fun e w' => e = .returned (.tuple #[.int .i64 (mergeXL a t es x term ys).1, .bool (mergeXL a t es x term ys).2.1]) ∧ LogX w' (fun k => ok k ∨ okY k ∨ w.heap.size ≤ k) g a t (mergeXL a t es x term ys).2.2 ∧ Kept w w' ok ∧ Below 0 w w' := by
  have still : ∀ m, LogX (w.drewN m) (fun k => ok k ∨ okY k ∨ w.heap.size ≤ k) g a t es ∧ Kept w (w.drewN m) ok ∧ Below 0 w (w.drewN m) := fun m => ⟨(h.drewN m).mono (fun _ hk => .inl hk), Kept.drewN (Kept.refl _ _) m, pw_below_drewN (Below.refl _ _) m⟩
  have hh0 := h
  obtain ⟨hg, v0, hh, hR⟩ := hh0
  have hlt : g < w.heap.size := (Array.getElem?_eq_some_iff.1 hh).1
  have c0 : w.cell? ⟨g, 0, none⟩ = some (.int .i64 a) := by simp [World.cell?, hh]
  obtain ⟨A0, cp0, rfl, hc0, hr0⟩ := R_ownC hR
  have c2 : w.cell? ⟨g, 2, none⟩ = some (.slice A0 es.length cp0) := by simp [World.cell?, hh]
  have HS := Aside0.mk still
  have HL := Aside0.mk h
  have HG := Aside0.mk (And.intro hg (And.intro hlt hh))
  have HN := Aside0.mk (show 0 ≤ a ∧ a + es.length ≤ 2305843009213693952 ∧ (es.length + ys.length) * 192 ≤ 140737488355328 ∧ ys.length ≤ c ∧ x ≤ 2305843009213693952 from ⟨h0, h1, hl, hc, hx⟩)
  have HR0 := Aside0.mk (And.intro hc0 hr0)
  have HC := Aside0.mk hC
  have HY := Aside0.mk hY
  clear still h hR hh hg hlt hC hY hl hc hc0 hr0
  unfold mergeXL
  by_cases e1 : x < 0
  · rw [if_pos e1]
    have d1 : decide (x < 0) = true := decide_eq_true e1
    go_enter Try.func22, Try.ntmps22
    go_wp2_with fail
    go_ret2
    exact ⟨rfl, HS.out 0⟩
  · rw [if_neg e1]
    have d1 : decide (x < 0) = false := decide_eq_false e1
    generalize hT : termAt a t es x = T
    obtain ⟨T1, T2⟩ := T
    have HT := Aside0.mk hT
    by_cases e2 : a ≤ x ∧ (T1, T2) ≠ (term, true)
    · rw [if_pos e2]
      have d2 : decide (x ≥ a) = true := decide_eq_true e2.1
      have d2' : decide (a ≤ x) = true := decide_eq_true e2.1
      have hge : a ≤ x := e2.1
      cases T2 with
      | true =>
        have hq : (T1 == term) = false := by
          rw [beq_eq_false_iff_ne]
          intro h
          exact e2.2 (by rw [h])
        clear e2
        go_enter Try.func22, Try.ntmps22
        go_wp2_with fail
        refine (term_x HL.out h0 (by omega) x).mono ?_
        rw [HT.out]
        rintro _ w1 ⟨rfl, m, rfl⟩
        go_wp2_with fail
        go_ret2
        exact ⟨rfl, HS.out _⟩
      | false =>
        clear e2
        go_enter Try.func22, Try.ntmps22
        go_wp2_with fail
        refine (term_x HL.out h0 (by omega) x).mono ?_
        rw [HT.out]
        rintro _ w1 ⟨rfl, m, rfl⟩
        go_wp2_with fail
        go_ret2
        exact ⟨rfl, HS.out _⟩
    · rw [if_neg e2]
      have HCK : Aside0 (Kd.C k60 w A ys.length ys) := Aside0.mk (HC.out.imp_ (Below.refl _ _) (fun _ _ h => k60.K_of_M h))
      have HX0 := Aside0.mk (show 0 ≤ x by omega)
      by_cases hge : a ≤ x
      · have heq : (T1, T2) = (term, true) := Classical.byContradiction (fun h => e2 ⟨hge, h⟩)
        obtain ⟨rfl, rfl⟩ : T1 = term ∧ T2 = true := by injection heq with h1 h2; exact ⟨h1, h2⟩
        have HX2 := Aside0.mk (show x ≤ a + es.length from by
          unfold termAt at hT
          split at hT
          · omega
          · split at hT
            · split at hT
              · omega
              · injection hT with _ h; cases h
            · injection hT with _ h; cases h)
        have d2 : decide (x ≥ a) = true := decide_eq_true hge
        have d2' : decide (a ≤ x) = true := decide_eq_true hge
        clear e2 heq hT
        go_enter Try.func22, Try.ntmps22
        go_wp2_with fail
        refine (term_x HL.out h0 (by omega) x).mono ?_
        rw [HT.out]
        rintro _ w1 ⟨rfl, m, rfl⟩
        go_wp2_with fail
        have HB0 := Aside0.mk (pw_below_drewN (Below.refl w.heap.size w) m)

        go_loopw [12] (fun v wr => ∃ i : Nat, v = .int .i64 (i : Int) ∧ Aside0 (i ≤ ys.length) ∧ Aside0 (firstX a t es x (ys.drop i) i = firstX a t es x ys 0) ∧ Aside0 (Below w.heap.size w wr)) (fun v _ => ys.length - (intOf v).toNat)
        case atStart => exact ⟨0, rfl, Aside0.mk (Nat.zero_le _), Aside0.mk rfl, HB0⟩
        case round =>
          obtain ⟨i, rfl, HJ, HF, HBW⟩ := hrel
          by_cases hlt : i < ys.length
          · have d3 : decide ((i : Int) < (ys.length : Int)) = true := decide_eq_true (by omega)
            obtain ⟨ad, A9, c9, A13, c13, rfl, hx0, hxr⟩ := at_T60 (Kd.C_below HCK.out HBW.out) (i : Int) (by omega) (by omega)
            clear hxr
            rw [Int.toNat_natCast] at hx0
            have hrdi : rd_T60 ys (i : Int) = ys[i] := by simp [rd_T60, hlt]
            rw [hrdi] at hx0
            have hdrop : ys.drop i = ys[i] :: ys.drop (i + 1) := List.drop_eq_getElem_cons hlt
            generalize hT1 : termAt a t es (x + 1 + (i : Int)) = T1
            have HT1 := Aside0.mk hT1
            have hfb : firstX a t es x ys 0 = if x + 1 + (i : Int) ≤ a ∨ T1 = (ys[i].f0, true) then firstX a t es x (ys.drop (i + 1)) (i + 1) else some i := by
              rw [← HF.out, hdrop]
              simp only [firstX]
              rw [hT1]
            have q0 : (0 : Int) ≤ (i : Int) := by omega
            have q1 : (i : Int) < (ys.length : Int) := by omega
            have hw1 : wrap64 (x + 1) = x + 1 := by have := HN.out; have := HX0.out; unfold wrap64; omega
            have hw2 : wrap64 (x + 1 + (i : Int)) = x + 1 + i := by have := HN.out; have := HX0.out; unfold wrap64; omega
            have hw3 : wrap64 ((i : Int) + 1) = ((i + 1 : Nat) : Int) := by have := HN.out; unfold wrap64; omega
            generalize ys[i].f0 = Y at hx0 hfb
            have HFB := Aside0.mk hfb
            have p0 : wr.cell? ⟨g, 0, none⟩ = some (.int .i64 a) := cell_below HBW.out HG.out.2.1 c0
            have HLT := Aside0.mk hlt
            have HX1 := Aside0.mk hx0
            clear hfb hT1 hdrop hrdi hlt hx0
            by_cases e3 : x + 1 + (i : Int) ≤ a
            · exfalso; omega
            · have d4 : decide (x + 1 + (i : Int) ≤ a) = false := decide_eq_false e3
              have HE3 := Aside0.mk e3
              clear e3
              go_wp2_with fail
              refine (term_x (HL.out.below HBW.out) h0 (by have := HN.out; omega) (x + 1 + (i : Int))).mono ?_
              rw [HT1.out]
              rintro _ w9 ⟨rfl, m9, rfl⟩
              have HB9 := Aside0.mk (pw_below_drewN HBW.out m9)
              have hx0 : (wr.drewN m9).cell? ((ad.add (i * 14))) = some (.int .i64 Y) := HX1.out
              obtain ⟨w9, hw9⟩ : ∃ w9, w9 = wr.drewN m9 := ⟨_, rfl⟩
              rw [← hw9] at hx0 HB9 ⊢
              clear hw9
              obtain ⟨T1a, T1b⟩ := T1
              by_cases hq : (T1a, T1b) = (Y, true)
              · obtain ⟨rfl, rfl⟩ : T1a = Y ∧ T1b = true := by injection hq with h1 h2; exact ⟨h1, h2⟩
                have HF2 : Aside0 (firstX a t es x (ys.drop (i + 1)) (i + 1) = firstX a t es x ys 0) := Aside0.mk (by rw [HFB.out, if_pos (.inr hq)])
                clear HFB p0 hq
                go_wp2_with fail
                go_roundw
                case rel => exact ⟨i + 1, by first | rw [hw3] | rfl, Aside0.mk HLT.out, HF2, HB9⟩
                case measure => first | (rw [hw3]; simp [intOf]; have := HLT.out; omega) | (simp [intOf]; have := HLT.out; omega)
              · have hf2 : firstX a t es x ys 0 = some i := by rw [HFB.out, if_neg (by rintro (h | h); (have := HE3.out; omega); exact hq h)]
                have hle := firstX_le a t es x h0 ys 0 i (by have := HX2.out; omega) hf2
                obtain ⟨n, hn⟩ : ∃ n : Nat, x + (i : Int) = a + n := ⟨(x + i - a).toNat, by omega⟩
                have hne : n ≤ es.length := by omega
                have hmb : mergeXB a t es x ys = (x + 1 + (i : Int), true, es.take n ++ ys.drop i) := by
                  unfold mergeXB
                  rw [hf2]
                  have e : (x + (i : Int) - a).toNat = n := by omega
                  simp only [e]
                have HMB := Aside0.mk hmb
                have p2 : w9.cell? ⟨g, 2, none⟩ = some (.slice A0 es.length cp0) := cell_below HB9.out HG.out.2.1 c2
                have p9 : w9.cell? ⟨g, 0, none⟩ = some (.int .i64 a) := cell_below HB9.out HG.out.2.1 c0
                have hk1 : IntKind.i64.wrap (x + 1 + (i : Int) - a) = (n : Int) + 1 := by rw [i64_w]; have := HN.out; unfold wrap64; omega
                have hk2 : IntKind.i64.wrap ((n : Int) + 1 - 1) = (n : Int) := by rw [i64_w]; have := HN.out; unfold wrap64; omega
                have hk3 : IntKind.i64.wrap (n : Int) = (n : Int) := by rw [i64_w]; have := HN.out; unfold wrap64; omega
                obtain ⟨i60, hi60, hz60, hs60, -⟩ := info_parts info60
                have hcA := cut_to (P := Try.prog) 35 60 .i64 Try.underlying35 hi60 A0 es.length cp0 (n : Int) (by omega) (by omega) HR0.out.1
                have hcB := cut_from (P := Try.prog) 35 60 .i64 Try.underlying35 hi60 14 hs60 (some ad) ys.length c (i : Int) (by omega) (by have := HLT.out; omega)
                rw [Int.toNat_natCast] at hcA hcB
                rw [if_neg (by have := HN.out; have := HLT.out; omega)] at hcB
                have HT2 := Aside0.mk (Kd.C_take HR0.out.2 hne)
                have HD2 := Aside0.mk (Kd.C_drop HC.out (Nat.le_of_lt HLT.out) HN.out.2.2.2.1)
                have HNE := Aside0.mk (And.intro hne (show (es.take n).length = n from by rw [List.length_take]; omega))
                have hbt : (T1b = false) ∨ (T1b = true ∧ (T1a == Y) = false) := by
                  cases T1b
                  · exact .inl rfl
                  · refine .inr ⟨rfl, ?_⟩
                    rw [beq_eq_false_iff_ne]
                    intro h
                    exact hq (by rw [h])
                have HIF : Aside0 ((if c = i then (some ad) else (some ad).map (·.add (i * (ownKd k60 0 okY).sz))) = some (ad.add (i * 14))) := Aside0.mk (by rw [if_neg (by have := HN.out; have := HLT.out; omega)]; rfl)
                clear hne hle hf2 HFB hmb hn hq hi60 hz60 hs60
                rcases hbt with rfl | ⟨rfl, hqq⟩
                all_goals
                  go_wp2_with fail
                  clear hx0 p0
                  go_still_tail 13, (by kernel_rfl)
                  change wpList _ _ _ _ _ w9.drew
                  have HWD := Aside0.mk (show Below w.heap.size w w9.drew from below_drew HB9.out)
                  generalize w9.drew = wd at *
                  clear p2 p9
                  have HNIL := Aside0.mk (Kd.R_nil k60 60 wd 0 (fun k => ((ok k ∧ k ≠ g) ∧ k < w.heap.size) ∨ okY k ∨ wd.heap.size ≤ k))
                  have HT3 := Aside0.mk (Kd.C_below HT2.out HWD.out)
                  rw [HNE.out.2] at HT3
                  go_wp2_with (first
                    | (at_builtin
                       refine Kd.R_append_rows k60 (w0 := wd) 0 rfl (.tmp 72) (.tmp 84) 35 60 _ 192 rfl Try.underlying35 info60 rfl (by decide) (by decide) _ [] (es.take n) A0 n cp0 (fun k => ((ok k ∧ k ≠ g) ∧ k < w.heap.size) ∨ okY k ∨ wd.heap.size ≤ k) (fun k => (ok k ∧ k ≠ g) ∧ k < w.heap.size) rfl rfl HNIL.out HT3.out (fun x cs h => h) (fun k hk => ⟨.inl hk, fun he => by have he2 : some k = none := he; cases he2⟩) (fun k hk => .inr (.inr hk)) (Below.refl 0 _) (Nat.zero_le _) (by have := HN.out; have := HNE.out.1; show (0 + n) * 192 ≤ _; omega) ?_
                       intro v1 w2 hR2 hB1 hg1 hat1
                       rw [List.nil_append] at hR2
                       obtain ⟨A1, c1, rfl⟩ := Kd.R_slice hR2
                       rw [HNE.out.2] at hR2 hat1 ⊢
                       have HR2 := Aside0.mk hR2
                       have HB2 := Aside0.mk (show Below wd.heap.size wd w2 from (Below.refl wd.heap.size wd).grown hg1 (Nat.le_refl _) (fun k hk => by cases hk))
                       have HAT : Aside0 (∀ k, (Value.slice A1 n c1).ownBlock = some k → wd.heap.size ≤ k) := Aside0.mk (fun k hk => by
                         rcases hat1 with h | ⟨b, h, hb⟩
                         · have h2 : (Value.slice A1 n c1).ownBlock = none := h
                           rw [hk] at h2; cases h2
                         · have h2 : (Value.slice A1 n c1).ownBlock = some b := h
                           rw [hk] at h2; injection h2 with h2; omega)
                       have HD3 := Aside0.mk (Kd.C_below (Kd.C_below HD2.out HWD.out) HB2.out)
                       rw [HIF.out, List.length_drop] at HD3
                       clear hR2 hB1 hat1 hg1)
                    | (at_builtin
                       refine Kd.R_append_rows k60 (w0 := wd) 0 rfl (.tmp 87) (.tmp 90) 35 60 _ 192 rfl Try.underlying35 info60 rfl (by decide) (by decide) _ (es.take n) (ys.drop i) (some (ad.add (i * 14))) (ys.length - i) (c - i) (fun k => ((ok k ∧ k ≠ g) ∧ k < w.heap.size) ∨ okY k ∨ wd.heap.size ≤ k) okY rfl rfl HR2.out HD3.out (fun x cs h => h) (fun k hk => ⟨.inr (.inl hk), fun he => by
                         have hlt2 := (HY.out k hk).2
                         have := HAT.out k he.symm
                         have := HWD.out.size
                         omega⟩) (fun k hk => .inr (.inr (Nat.le_trans HB2.out.size hk))) (HB2.out.mono (Nat.zero_le _)) (Nat.zero_le _) (by have := HN.out; have := HNE.out; rw [HNE.out.2]; omega) ?_
                       intro v2 w3 hR3 hB3 hg3 hat3
                       have hb3 : Below w.heap.size w w3 := (HWD.out.trans (HB2.out.mono HWD.out.size)).grown hg3 (Nat.le_trans HWD.out.size HB2.out.size) (fun k hk => by
                         have := HAT.out k hk
                         have := HWD.out.size
                         omega)
                       have hg4 : w3.heap[g]? = some (.cells #[.int .i64 a, .int .i64 t, .slice A0 es.length cp0] 47 (0, 0)) := (hb3.block g HG.out.2.1).trans HG.out.2.2
                       obtain ⟨A3, c3, rfl⟩ := Kd.R_slice hR3
                       generalize hlen : (es.take n ++ ys.drop i).length = L at hR3 ⊢
                       have HLEN := Aside0.mk hlen
                       clear hlen
                       have HR3 := Aside0.mk hR3
                       have HG4 := Aside0.mk hg4
                       have HB3 := Aside0.mk hb3
                       have f2 : w3.frozen? ⟨g, 2, none⟩ = false := by simp [World.frozen?, hg4]
                       have q2 : w3.cell? ⟨g, 2, none⟩ = some (.slice A0 es.length cp0) := by simp [World.cell?, hg4]
                       clear hR3 hB3 hg3 hat3 hb3 hg4)
                    | fail)
                  rw [HMB.out]
                  go_ret2
                  exact ⟨rfl, LogX.set1 HB3.out HG.out.1 HG.out.2.1 HG4.out HR3.out (fun k hk => by
                    have h1 := HWD.out.size
                    have h2 := HG.out.2.1
                    rcases hk with hk | hk | hk
                    · exact ⟨.inl hk.1.1, hk.1.2⟩
                    · exact ⟨.inr (.inl hk), (HY.out k hk).1⟩
                    · exact ⟨.inr (.inr (by omega)), by omega⟩)⟩
          · have d3 : decide ((i : Int) < (ys.length : Int)) = false := decide_eq_false (by omega)
            have hi : i = ys.length := by have := HJ.out; omega
            have hmb : mergeXB a t es x ys = (a + es.length + 1, true, es) := by
              unfold mergeXB
              rw [← HF.out, List.drop_of_length_le (by omega)]
              rfl
            have HMB := Aside0.mk hmb
            have hw4 : wrap64 (a + (es.length : Int) + 1) = a + es.length + 1 := by have := HN.out; unfold wrap64; omega
            clear hmb HF hi
            go_wp2_with fail
            refine (last_x (HL.out.below HBW.out) (by omega) (by have := HN.out; omega)).mono ?_
            rintro _ w9 ⟨rfl, m9, rfl⟩
            have HFIN := Aside0.mk (show LogX (wr.drewN m9) (fun k => ok k ∨ okY k ∨ w.heap.size ≤ k) g a t es ∧ Kept w (wr.drewN m9) ok ∧ Below 0 w (wr.drewN m9) from ⟨((HL.out.below HBW.out).drewN m9).mono (fun _ hk => .inl hk), ⟨HBW.out.size, fun k hk _ => HBW.out.block k hk⟩, pw_below_drewN (HBW.out.mono (Nat.zero_le _)) m9⟩)
            go_wp2_with fail
            rw [HMB.out]
            go_ret2
            exact ⟨by rw [← hw4]; rfl, HFIN.out⟩

      · have HX2 := Aside0.mk (show x ≤ a + es.length by omega)
        have d2 : decide (x ≥ a) = false := decide_eq_false hge
        have d2' : decide (a ≤ x) = false := decide_eq_false hge
        clear e2 hT
        go_enter Try.func22, Try.ntmps22
        go_wp2_with fail
        refine (term_x HL.out h0 (by omega) x).mono ?_
        rintro _ w1 ⟨rfl, m, rfl⟩
        go_wp2_with fail
        have HB0 := Aside0.mk (pw_below_drewN (Below.refl w.heap.size w) m)

        go_loopw [12] (fun v wr => ∃ i : Nat, v = .int .i64 (i : Int) ∧ Aside0 (i ≤ ys.length) ∧ Aside0 (firstX a t es x (ys.drop i) i = firstX a t es x ys 0) ∧ Aside0 (Below w.heap.size w wr)) (fun v _ => ys.length - (intOf v).toNat)
        case atStart => exact ⟨0, rfl, Aside0.mk (Nat.zero_le _), Aside0.mk rfl, HB0⟩
        case round =>
          obtain ⟨i, rfl, HJ, HF, HBW⟩ := hrel
          by_cases hlt : i < ys.length
          · have d3 : decide ((i : Int) < (ys.length : Int)) = true := decide_eq_true (by omega)
            obtain ⟨ad, A9, c9, A13, c13, rfl, hx0, hxr⟩ := at_T60 (Kd.C_below HCK.out HBW.out) (i : Int) (by omega) (by omega)
            clear hxr
            rw [Int.toNat_natCast] at hx0
            have hrdi : rd_T60 ys (i : Int) = ys[i] := by simp [rd_T60, hlt]
            rw [hrdi] at hx0
            have hdrop : ys.drop i = ys[i] :: ys.drop (i + 1) := List.drop_eq_getElem_cons hlt
            generalize hT1 : termAt a t es (x + 1 + (i : Int)) = T1
            have HT1 := Aside0.mk hT1
            have hfb : firstX a t es x ys 0 = if x + 1 + (i : Int) ≤ a ∨ T1 = (ys[i].f0, true) then firstX a t es x (ys.drop (i + 1)) (i + 1) else some i := by
              rw [← HF.out, hdrop]
              simp only [firstX]
              rw [hT1]
            have q0 : (0 : Int) ≤ (i : Int) := by omega
            have q1 : (i : Int) < (ys.length : Int) := by omega
            have hw1 : wrap64 (x + 1) = x + 1 := by have := HN.out; have := HX0.out; unfold wrap64; omega
            have hw2 : wrap64 (x + 1 + (i : Int)) = x + 1 + i := by have := HN.out; have := HX0.out; unfold wrap64; omega
            have hw3 : wrap64 ((i : Int) + 1) = ((i + 1 : Nat) : Int) := by have := HN.out; unfold wrap64; omega
            generalize ys[i].f0 = Y at hx0 hfb
            have HFB := Aside0.mk hfb
            have p0 : wr.cell? ⟨g, 0, none⟩ = some (.int .i64 a) := cell_below HBW.out HG.out.2.1 c0
            have HLT := Aside0.mk hlt
            have HX1 := Aside0.mk hx0
            clear hfb hT1 hdrop hrdi hlt hx0
            by_cases e3 : x + 1 + (i : Int) ≤ a
            · have d4 : decide (x + 1 + (i : Int) ≤ a) = true := decide_eq_true e3
              have HF2 : Aside0 (firstX a t es x (ys.drop (i + 1)) (i + 1) = firstX a t es x ys 0) := Aside0.mk (by rw [HFB.out, if_pos (.inl e3)])
              clear HFB
              go_wp2_with fail
              go_roundw
              case rel => exact ⟨i + 1, by first | rw [hw3] | rfl, Aside0.mk HLT.out, HF2, HBW⟩
              case measure => first | (rw [hw3]; simp [intOf]; have := HLT.out; omega) | (simp [intOf]; have := HLT.out; omega)
            · have d4 : decide (x + 1 + (i : Int) ≤ a) = false := decide_eq_false e3
              have HE3 := Aside0.mk e3
              clear e3
              go_wp2_with fail
              refine (term_x (HL.out.below HBW.out) h0 (by have := HN.out; omega) (x + 1 + (i : Int))).mono ?_
              rw [HT1.out]
              rintro _ w9 ⟨rfl, m9, rfl⟩
              have HB9 := Aside0.mk (pw_below_drewN HBW.out m9)
              have hx0 : (wr.drewN m9).cell? ((ad.add (i * 14))) = some (.int .i64 Y) := HX1.out
              obtain ⟨w9, hw9⟩ : ∃ w9, w9 = wr.drewN m9 := ⟨_, rfl⟩
              rw [← hw9] at hx0 HB9 ⊢
              clear hw9
              obtain ⟨T1a, T1b⟩ := T1
              by_cases hq : (T1a, T1b) = (Y, true)
              · obtain ⟨rfl, rfl⟩ : T1a = Y ∧ T1b = true := by injection hq with h1 h2; exact ⟨h1, h2⟩
                have HF2 : Aside0 (firstX a t es x (ys.drop (i + 1)) (i + 1) = firstX a t es x ys 0) := Aside0.mk (by rw [HFB.out, if_pos (.inr hq)])
                clear HFB p0 hq
                go_wp2_with fail
                go_roundw
                case rel => exact ⟨i + 1, by first | rw [hw3] | rfl, Aside0.mk HLT.out, HF2, HB9⟩
                case measure => first | (rw [hw3]; simp [intOf]; have := HLT.out; omega) | (simp [intOf]; have := HLT.out; omega)
              · have hf2 : firstX a t es x ys 0 = some i := by rw [HFB.out, if_neg (by rintro (h | h); (have := HE3.out; omega); exact hq h)]
                have hle := firstX_le a t es x h0 ys 0 i (by have := HX2.out; omega) hf2
                obtain ⟨n, hn⟩ : ∃ n : Nat, x + (i : Int) = a + n := ⟨(x + i - a).toNat, by omega⟩
                have hne : n ≤ es.length := by omega
                have hmb : mergeXB a t es x ys = (x + 1 + (i : Int), true, es.take n ++ ys.drop i) := by
                  unfold mergeXB
                  rw [hf2]
                  have e : (x + (i : Int) - a).toNat = n := by omega
                  simp only [e]
                have HMB := Aside0.mk hmb
                have p2 : w9.cell? ⟨g, 2, none⟩ = some (.slice A0 es.length cp0) := cell_below HB9.out HG.out.2.1 c2
                have p9 : w9.cell? ⟨g, 0, none⟩ = some (.int .i64 a) := cell_below HB9.out HG.out.2.1 c0
                have hk1 : IntKind.i64.wrap (x + 1 + (i : Int) - a) = (n : Int) + 1 := by rw [i64_w]; have := HN.out; unfold wrap64; omega
                have hk2 : IntKind.i64.wrap ((n : Int) + 1 - 1) = (n : Int) := by rw [i64_w]; have := HN.out; unfold wrap64; omega
                have hk3 : IntKind.i64.wrap (n : Int) = (n : Int) := by rw [i64_w]; have := HN.out; unfold wrap64; omega
                obtain ⟨i60, hi60, hz60, hs60, -⟩ := info_parts info60
                have hcA := cut_to (P := Try.prog) 35 60 .i64 Try.underlying35 hi60 A0 es.length cp0 (n : Int) (by omega) (by omega) HR0.out.1
                have hcB := cut_from (P := Try.prog) 35 60 .i64 Try.underlying35 hi60 14 hs60 (some ad) ys.length c (i : Int) (by omega) (by have := HLT.out; omega)
                rw [Int.toNat_natCast] at hcA hcB
                rw [if_neg (by have := HN.out; have := HLT.out; omega)] at hcB
                have HT2 := Aside0.mk (Kd.C_take HR0.out.2 hne)
                have HD2 := Aside0.mk (Kd.C_drop HC.out (Nat.le_of_lt HLT.out) HN.out.2.2.2.1)
                have HNE := Aside0.mk (And.intro hne (show (es.take n).length = n from by rw [List.length_take]; omega))
                have hbt : (T1b = false) ∨ (T1b = true ∧ (T1a == Y) = false) := by
                  cases T1b
                  · exact .inl rfl
                  · refine .inr ⟨rfl, ?_⟩
                    rw [beq_eq_false_iff_ne]
                    intro h
                    exact hq (by rw [h])
                have HIF : Aside0 ((if c = i then (some ad) else (some ad).map (·.add (i * (ownKd k60 0 okY).sz))) = some (ad.add (i * 14))) := Aside0.mk (by rw [if_neg (by have := HN.out; have := HLT.out; omega)]; rfl)
                clear hne hle hf2 HFB hmb hn hq hi60 hz60 hs60
                rcases hbt with rfl | ⟨rfl, hqq⟩
                all_goals
                  go_wp2_with fail
                  clear hx0 p0
                  go_still_tail 13, (by kernel_rfl)
                  change wpList _ _ _ _ _ w9.drew
                  have HWD := Aside0.mk (show Below w.heap.size w w9.drew from below_drew HB9.out)
                  generalize w9.drew = wd at *
                  clear p2 p9
                  have HNIL := Aside0.mk (Kd.R_nil k60 60 wd 0 (fun k => ((ok k ∧ k ≠ g) ∧ k < w.heap.size) ∨ okY k ∨ wd.heap.size ≤ k))
                  have HT3 := Aside0.mk (Kd.C_below HT2.out HWD.out)
                  rw [HNE.out.2] at HT3
                  go_wp2_with (first
                    | (at_builtin
                       refine Kd.R_append_rows k60 (w0 := wd) 0 rfl (.tmp 72) (.tmp 84) 35 60 _ 192 rfl Try.underlying35 info60 rfl (by decide) (by decide) _ [] (es.take n) A0 n cp0 (fun k => ((ok k ∧ k ≠ g) ∧ k < w.heap.size) ∨ okY k ∨ wd.heap.size ≤ k) (fun k => (ok k ∧ k ≠ g) ∧ k < w.heap.size) rfl rfl HNIL.out HT3.out (fun x cs h => h) (fun k hk => ⟨.inl hk, fun he => by have he2 : some k = none := he; cases he2⟩) (fun k hk => .inr (.inr hk)) (Below.refl 0 _) (Nat.zero_le _) (by have := HN.out; have := HNE.out.1; show (0 + n) * 192 ≤ _; omega) ?_
                       intro v1 w2 hR2 hB1 hg1 hat1
                       rw [List.nil_append] at hR2
                       obtain ⟨A1, c1, rfl⟩ := Kd.R_slice hR2
                       rw [HNE.out.2] at hR2 hat1 ⊢
                       have HR2 := Aside0.mk hR2
                       have HB2 := Aside0.mk (show Below wd.heap.size wd w2 from (Below.refl wd.heap.size wd).grown hg1 (Nat.le_refl _) (fun k hk => by cases hk))
                       have HAT : Aside0 (∀ k, (Value.slice A1 n c1).ownBlock = some k → wd.heap.size ≤ k) := Aside0.mk (fun k hk => by
                         rcases hat1 with h | ⟨b, h, hb⟩
                         · have h2 : (Value.slice A1 n c1).ownBlock = none := h
                           rw [hk] at h2; cases h2
                         · have h2 : (Value.slice A1 n c1).ownBlock = some b := h
                           rw [hk] at h2; injection h2 with h2; omega)
                       have HD3 := Aside0.mk (Kd.C_below (Kd.C_below HD2.out HWD.out) HB2.out)
                       rw [HIF.out, List.length_drop] at HD3
                       clear hR2 hB1 hat1 hg1)
                    | (at_builtin
                       refine Kd.R_append_rows k60 (w0 := wd) 0 rfl (.tmp 87) (.tmp 90) 35 60 _ 192 rfl Try.underlying35 info60 rfl (by decide) (by decide) _ (es.take n) (ys.drop i) (some (ad.add (i * 14))) (ys.length - i) (c - i) (fun k => ((ok k ∧ k ≠ g) ∧ k < w.heap.size) ∨ okY k ∨ wd.heap.size ≤ k) okY rfl rfl HR2.out HD3.out (fun x cs h => h) (fun k hk => ⟨.inr (.inl hk), fun he => by
                         have hlt2 := (HY.out k hk).2
                         have := HAT.out k he.symm
                         have := HWD.out.size
                         omega⟩) (fun k hk => .inr (.inr (Nat.le_trans HB2.out.size hk))) (HB2.out.mono (Nat.zero_le _)) (Nat.zero_le _) (by have := HN.out; have := HNE.out; rw [HNE.out.2]; omega) ?_
                       intro v2 w3 hR3 hB3 hg3 hat3
                       have hb3 : Below w.heap.size w w3 := (HWD.out.trans (HB2.out.mono HWD.out.size)).grown hg3 (Nat.le_trans HWD.out.size HB2.out.size) (fun k hk => by
                         have := HAT.out k hk
                         have := HWD.out.size
                         omega)
                       have hg4 : w3.heap[g]? = some (.cells #[.int .i64 a, .int .i64 t, .slice A0 es.length cp0] 47 (0, 0)) := (hb3.block g HG.out.2.1).trans HG.out.2.2
                       obtain ⟨A3, c3, rfl⟩ := Kd.R_slice hR3
                       generalize hlen : (es.take n ++ ys.drop i).length = L at hR3 ⊢
                       have HLEN := Aside0.mk hlen
                       clear hlen
                       have HR3 := Aside0.mk hR3
                       have HG4 := Aside0.mk hg4
                       have HB3 := Aside0.mk hb3
                       have f2 : w3.frozen? ⟨g, 2, none⟩ = false := by simp [World.frozen?, hg4]
                       have q2 : w3.cell? ⟨g, 2, none⟩ = some (.slice A0 es.length cp0) := by simp [World.cell?, hg4]
                       clear hR3 hB3 hg3 hat3 hb3 hg4)
                    | fail)
                  rw [HMB.out]
                  go_ret2
                  exact ⟨rfl, LogX.set1 HB3.out HG.out.1 HG.out.2.1 HG4.out HR3.out (fun k hk => by
                    have h1 := HWD.out.size
                    have h2 := HG.out.2.1
                    rcases hk with hk | hk | hk
                    · exact ⟨.inl hk.1.1, hk.1.2⟩
                    · exact ⟨.inr (.inl hk), (HY.out k hk).1⟩
                    · exact ⟨.inr (.inr (by omega)), by omega⟩)⟩
          · have d3 : decide ((i : Int) < (ys.length : Int)) = false := decide_eq_false (by omega)
            have hi : i = ys.length := by have := HJ.out; omega
            have hmb : mergeXB a t es x ys = (a + es.length + 1, true, es) := by
              unfold mergeXB
              rw [← HF.out, List.drop_of_length_le (by omega)]
              rfl
            have HMB := Aside0.mk hmb
            have hw4 : wrap64 (a + (es.length : Int) + 1) = a + es.length + 1 := by have := HN.out; unfold wrap64; omega
            clear hmb HF hi
            go_wp2_with fail
            refine (last_x (HL.out.below HBW.out) (by omega) (by have := HN.out; omega)).mono ?_
            rintro _ w9 ⟨rfl, m9, rfl⟩
            have HFIN := Aside0.mk (show LogX (wr.drewN m9) (fun k => ok k ∨ okY k ∨ w.heap.size ≤ k) g a t es ∧ Kept w (wr.drewN m9) ok ∧ Below 0 w (wr.drewN m9) from ⟨((HL.out.below HBW.out).drewN m9).mono (fun _ hk => .inl hk), ⟨HBW.out.size, fun k hk _ => HBW.out.block k hk⟩, pw_below_drewN (HBW.out.mono (Nat.zero_le _)) m9⟩)
            go_wp2_with fail
            rw [HMB.out]
            go_ret2
            exact ⟨by rw [← hw4]; rfl, HFIN.out⟩

end Go.Proofs.Ytigjfnleinhahaa.PLog
