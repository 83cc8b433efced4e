/- A region that draws its order and may write, with every fact that is still good told at the end. -/
import Derived.Test.YtdjdbmopckhcdaaReg
namespace Go.Proofs.Ytdjdbmopckhcdaa.Reg
open Go.RowKit Go.Proofs.YtdjdbmopckhcdaaW.PrintLast
section
variable {P : Program} {ops : Array Oper} {Q : Exit → Act → World → Prop}
/-- A region that draws its order, whose operations may write: what each operation's result is good for (F), till an operation that says it ends it (kill); what is good at the beginning (I), till killI. -/
theorem region_heldB {id n : Nat} {a0 : Act} {w0 : World} (dst : Nat → Option Nat) (F : Nat → Value → World → Prop) (I : Nat → World → Prop) (nI : Nat) (nd nc us : List (List Nat)) (kill : Nat → Nat → Bool) (killI useI : Nat → Nat → Bool)
    (hm : P.follows .mixedOrders = true) (hn : ops.size = n)
    (hinj' : (List.range n).all (fun i => (List.range n).all (fun j => i == j || dst i == none || !(dst i == dst j))) = true) (hin : ∀ i, i < n → ∀ d, dst i = some d → d < a0.tmps.size)
    (hmono : ∀ j v w w', j < n → F j v w → Below w.heap.size w w' → F j v w') (hmonoI : ∀ c w w', I c w → Below w.heap.size w w' → I c w') (hI0 : ∀ c, I c w0)
    (hnd : (List.range n).map (fun i => ((ops[i]?).map (needsOf .any)).getD []) = nd) (hlt : (List.range n).all (fun i => (nd.getD i []).all (· < i)) = true)
    (hnc : (List.range n).all (fun i => (nc.getD i []).all (fun j => (nd.getD i []).any (fun m => m == j || (nc.getD m []).contains j))) = true)
    (hus : (List.range n).all (fun i => (us.getD i []).all (fun j => (nd.getD i []).contains j)) = true)
    (hkill : (List.range n).all (fun h => (List.range n).all (fun j => !kill h j || (List.range n).all (fun i => !(us.getD i []).contains j || i == h || (nc.getD h []).contains i))) = true)
    (hkillI : (List.range nI).all (fun c => (List.range n).all (fun h => !killI h c || (List.range n).all (fun i => !useI i c || i == h || (nc.getD h []).contains i))) = true)
    (hstep : ∀ i a w, i < n → AgreeO n dst a0 a → (∀ j, j ∈ us.getD i [] → F j (slotO dst a j) w) → (∀ c, c < nI → useI i c = true → I c w) →
      wpOp P ops Q i (fun a' w' => ∃ v, a' = a.put (dst i) v ∧ F i (valO dst i v) w' ∧ (Below w.heap.size w w' ∨ ((∀ j u, j < n → j ≠ i → kill i j = false → (nc.getD j []).contains i = false → F j u w → F j u w') ∧ (∀ c, c < nI → killI i c = false → I c w → I c w')))) a w)
    (hdone : ∀ a w, AgreeO n dst a0 a → (∀ j, j < n → (∀ h, h < n → kill h j = false) → F j (slotO dst a j) w) → (∀ c, c < nI → (∀ h, h < n → killI h c = false) → I c w) → Q .normal a w) :
    (Code.region id ops true).wp P Q a0 w0 := by
  have hinj : ∀ i j, i < n → j < n → ∀ d, dst i = some d → dst j = some d → i = j := by
    intro i j hi hj d h1 h2
    have := List.all_eq_true.1 (List.all_eq_true.1 hinj' i (List.mem_range.2 hi)) j (List.mem_range.2 hj)
    simpa [h1, h2] using this
  refine wp_region_any hm ?_
  have need : ∀ i o, ops[i]? = some o → needsOf .any o = nd.getD i [] := by
    intro i o ho
    have hi : i < n := by rw [← hn]; exact (Array.getElem?_eq_some_iff.1 ho).1
    rw [← hnd, List.getD_eq_getElem?_getD, List.getElem?_map, List.getElem?_range hi]
    simp [ho]
  have hw0 : Below w0.heap.size w0 { w0 with drawn := w0.drawn + 1 } := ⟨rfl, rfl, rfl, Nat.le_refl _, fun _ _ => rfl⟩
  have closed : ∀ (l : Array Bool), (∀ i, i < n → l.getD i false = true → ∀ j, j ∈ nd.getD i [] → l.getD j false = true) → ∀ k i, i < k → i < n → l.getD i false = true → ∀ j, j ∈ nc.getD i [] → l.getD j false = true := by
    intro l hcl k
    induction k with
    | zero => intro i h; omega
    | succ k ih =>
      intro i hik hi hl j hj
      have h1 := List.all_eq_true.1 hnc i (List.mem_range.2 hi)
      have h2 := List.all_eq_true.1 h1 j hj
      obtain ⟨m, hm1, hm2⟩ := List.any_eq_true.1 h2
      have hmt := hcl i hi hl m hm1
      have hlt1 := List.all_eq_true.1 (List.all_eq_true.1 hlt i (List.mem_range.2 hi)) m hm1
      have hmi : m < i := by simpa using hlt1
      rcases Bool.or_eq_true_iff.1 hm2 with h | h
      · have : m = j := by simpa using h
        exact this ▸ hmt
      · exact ih m (by omega) (by omega) hmt j (by simpa using h)
  refine any_inv (fun l a w => AgreeO n dst a0 a ∧ (∀ i, i < n → l.getD i false = true → ∀ j, j ∈ nd.getD i [] → l.getD j false = true) ∧
      (∀ j, j < n → l.getD j false = true → (∀ h, h < n → l.getD h false = true → kill h j = false) → F j (slotO dst a j) w) ∧ (∀ c, c < nI → (∀ h, h < n → l.getD h false = true → killI h c = false) → I c w)) ?_ ?_ _ _ _ _ (by simp) (by simp)
    ⟨⟨rfl, rfl, fun _ _ => rfl⟩, fun i hi h => ?_, fun i hi h => ?_, fun c _ _ => hmonoI c _ _ (hI0 c) hw0⟩
  · rintro i l a w hs ⟨hA, hC, hL, hI⟩ hi
    obtain ⟨hl, oi, hoi, hall⟩ := mem_ready.1 hi
    have hin' : i < n := by rw [← hn]; exact (Array.getElem?_eq_some_iff.1 hoi).1
    have hnot : ∀ h, l.getD h false = true → h ≠ i := by
      rintro h h1 rfl
      have hlt' : h < l.size := by rw [hs, hn]; exact hin'
      have e1 : l[h] = false := by simpa [Array.getD, hlt'] using hl
      have e2 : l[h] = true := by simpa [Array.getD, hlt'] using h1
      rw [e1] at e2
      cases e2
    have hdn : ∀ j, j ∈ nd.getD i [] → l.getD j false = true ∧ j < n := by
      intro j hj
      rw [← need i oi hoi] at hj
      unfold needsOf at hj
      obtain ⟨e, he, rfl⟩ := List.mem_map.1 hj
      obtain ⟨he1, he2⟩ := List.mem_filter.1 he
      have hq := hall e (by simpa using he1) he2
      refine ⟨hq, ?_⟩
      have h1 : l.getD e.on false = true := hq
      by_cases h2 : e.on < l.size
      · rw [← hn, ← hs]; exact h2
      · simp [Array.getD, h2] at h1
    have hpre : ∀ h, h < n → l.getD h false = true → ¬ (nc.getD h []).contains i = true := by
      intro h hh h1 h2
      exact hnot i (closed l hC (h + 1) h (by omega) hh h1 i (by simpa using h2)) rfl
    have hN : ∀ j, j ∈ us.getD i [] → F j (slotO dst a j) w := by
      intro j hju
      have hj : j ∈ nd.getD i [] := by
        have b1 := List.all_eq_true.1 (List.all_eq_true.1 hus i (List.mem_range.2 hin')) j hju
        simpa using b1
      refine hL j (hdn j hj).2 (hdn j hj).1 (fun h hh h1 => ?_)
      have a1 := List.all_eq_true.1 (List.all_eq_true.1 hkill h (List.mem_range.2 hh)) j (List.mem_range.2 (hdn j hj).2)
      rcases Bool.or_eq_true_iff.1 a1 with a2 | a2
      · simpa using a2
      · have a3 := List.all_eq_true.1 a2 i (List.mem_range.2 hin')
        rcases Bool.or_eq_true_iff.1 a3 with a4 | a4
        · rcases Bool.or_eq_true_iff.1 a4 with a5 | a5
          · simp at a5
            exact absurd hju a5
          · exact absurd (by simpa using a5 : i = h).symm (hnot h h1)
        · exact absurd a4 (hpre h hh h1)
    have hU : ∀ c, c < nI → useI i c = true → I c w := by
      intro c hc9 hu
      refine hI c hc9 (fun h hh h1 => ?_)
      have a1 := List.all_eq_true.1 (List.all_eq_true.1 hkillI c (List.mem_range.2 hc9)) h (List.mem_range.2 hh)
      rcases Bool.or_eq_true_iff.1 a1 with a2 | a2
      · simpa using a2
      · have a3 := List.all_eq_true.1 a2 i (List.mem_range.2 hin')
        rcases Bool.or_eq_true_iff.1 a3 with a4 | a4
        · rcases Bool.or_eq_true_iff.1 a4 with a5 | a5
          · simp [hu] at a5
          · exact absurd (by simpa using a5 : i = h).symm (hnot h h1)
        · exact absurd a4 (hpre h hh h1)
    refine wpOp_mono ?_ (hstep i a w hin' hA hN hU)
    rintro a' w' ⟨v, rfl, hF, hb⟩
    have hsl : ∀ j, j < n → slotO dst (a.put (dst i) v) j = if i = j then valO dst i v else slotO dst a j := by
      intro j hj
      by_cases e : i = j
      · subst e
        rw [if_pos rfl]
        unfold slotO valO
        cases e : dst i with
        | none => rfl
        | some d => simp only []; rw [put_get _ _ _ _ (by rw [hA.size]; exact hin i hin' d e), if_pos rfl]
      · rw [if_neg e]
        unfold slotO
        cases e1 : dst j with
        | none => rfl
        | some d =>
          cases e2 : dst i with
          | none => rfl
          | some d2 => simp only []; rw [put_get _ _ _ _ (by rw [hA.size]; exact hin i hin' d2 e2), if_neg (fun he => e (hinj i j hin' hj d (by rw [e2, he]) e1))]
    refine ⟨hA.put hin' v (hin i hin'), fun h hh h1 j hj => ?_, fun j hj h1 hk => ?_, fun c hc9 hk => ?_⟩
    · by_cases e : i = h
      · subst e
        have := (hdn j hj).1
        by_cases e2 : i = j
        · subst e2; exact h1
        · rw [getD_set_ne false e2]; exact this
      · rw [getD_set_ne false e] at h1
        have := hC h hh h1 j hj
        by_cases e2 : i = j
        · exact absurd this (fun hx => hnot j hx e2.symm)
        · rw [getD_set_ne false e2]; exact this
    · have hki : ∀ h, h < n → l.getD h false = true → kill h j = false := by
        intro h hh h2
        refine hk h hh ?_
        by_cases e2 : i = h
        · exact absurd h2 (fun hx => hnot h hx e2.symm)
        · rw [getD_set_ne false e2]; exact h2
      rw [hsl j hj]
      by_cases e : i = j
      · subst e; rw [if_pos rfl]; exact hF
      · rw [if_neg e]
        rw [getD_set_ne false e] at h1
        have hold := hL j hj h1 hki
        rcases hb with hb | hb
        · exact hmono j _ _ _ hj hold hb
        · refine hb.1 j _ hj (fun e' => e e'.symm) (hk i hin' ?_) (by
            cases hcc : (nc.getD j []).contains i with
            | false => rfl
            | true => exact absurd hcc (hpre j hj h1)) hold
          have hlt' : i < l.size := by rw [hs, hn]; exact hin'
          simp [Array.getD, hlt']
    · have hki : ∀ h, h < n → l.getD h false = true → killI h c = false := by
        intro h hh h2
        refine hk h hh ?_
        by_cases e2 : i = h
        · exact absurd h2 (fun hx => hnot h hx e2.symm)
        · rw [getD_set_ne false e2]; exact h2
      have hold := hI c hc9 hki
      rcases hb with hb | hb
      · exact hmonoI c _ _ hold hb
      · refine hb.2 c hc9 (hk i hin' ?_) hold
        have hlt' : i < l.size := by rw [hs, hn]; exact hin'
        simp [Array.getD, hlt']
  · rintro l a w hs ⟨hA, hC, hL, hI⟩ hr
    have all : ∀ k, ∀ i, i < k → i < n → l.getD i false = true := by
      intro k
      induction k with
      | zero => intro i h; omega
      | succ k ih =>
        intro i hik hi
        by_cases hl : l.getD i false = true
        · exact hl
        · exfalso
          have hilt : i < l.size := by rw [hs, hn]; exact hi
          have hl2 : l.getD i true = false := by simpa [Array.getD, hilt] using hl
          have hmem : i ∈ Region.ready .any ops l := by
            refine mem_ready.2 ⟨hl2, ops[i]'(by rw [hn]; exact hi), by simp, ?_⟩
            intro e he hb
            have h1 : e.on ∈ nd.getD i [] := by
              rw [← need i (ops[i]'(by rw [hn]; exact hi)) (by simp)]
              unfold needsOf
              exact List.mem_map.2 ⟨e, List.mem_filter.2 ⟨by simpa using he, hb⟩, rfl⟩
            have h2 := List.all_eq_true.1 hlt i (List.mem_range.2 hi)
            have h3 := List.all_eq_true.1 h2 e.on h1
            have h4 : e.on < i := by simpa using h3
            exact ih e.on (by omega) (by omega)
          rw [hr] at hmem
          cases hmem
    exact hdone a w hA (fun j hj hk => hL j hj (all (j + 1) j (by omega) hj) (fun h hh _ => hk h hh)) (fun c hc9 hk => hI c hc9 (fun h hh _ => hk h hh))
  · have : (Array.replicate ops.size false).getD i false = false := by simp [Array.getD]
    rw [this] at h
    cases h
  · have : (Array.replicate ops.size false).getD i false = false := by simp [Array.getD]
    rw [this] at h
    cases h
end
end Go.Proofs.Ytdjdbmopckhcdaa.Reg
