/- A value's signs, and what the reference's parts compute. -/
import Derived.Test.YtdjdbmopckhcdaaVLaw
import Derived.Test.YtdjdbmopckhcdaaPVx4
namespace Go.Proofs.Ytdjdbmopckhcdaa.PV
open Go.RowKit Go.Proofs.YtdjdbmopckhcdaaW.PrintWords Go.Proofs.YtdjdbmopckhcdaaW.PrintLast Go.Proofs.YtdjdbmopckhcdaaW.PrintMore
open Go.Proofs Go.Proofs.Ytdjdbmopckhcdaa
set_option linter.unusedVariables false
set_option linter.unusedSimpArgs false
set_option maxHeartbeats 4000000
set_option maxRecDepth 100000


/-- A value's signs: each byte that it means, and whether it was written behind a stroke. -/
def sgn : List UInt8 → Option (List (UInt8 × Bool))
  | [] => some []
  | b :: l =>
    if b = 92 then
      match l with
      | [] => none
      | c :: l' => (one c).bind fun x => (sgn l').map ((x, true) :: ·)
    else (sgn l).map ((b, false) :: ·)
theorem sgn_nil : sgn [] = some [] := by unfold sgn; rfl
theorem sgn_esc (c : UInt8) (r : List UInt8) : sgn (92 :: c :: r) = (one c).bind fun x => (sgn r).map ((x, true) :: ·) := by
  conv => lhs; unfold sgn
  rw [if_pos rfl]
theorem sgn_stroke : sgn [92] = none := by
  unfold sgn; rw [if_pos rfl]
theorem sgn_one (b : UInt8) (r : List UInt8) (h : b ≠ 92) : sgn (b :: r) = (sgn r).map ((b, false) :: ·) := by
  conv => lhs; unfold sgn
  rw [if_neg h]
theorem txt_stroke : txt [92] = none := by unfold txt; rw [if_pos rfl]
theorem txt_nil : txt [] = some [] := by unfold txt; rfl
theorem spl_stroke (sg : UInt8) : spl sg [92] = none := by unfold spl; rw [if_pos rfl]
theorem spl_nil (sg : UInt8) : spl sg [] = some [[]] := by unfold spl; rfl
theorem spl_sg (sg : UInt8) (r : List UInt8) (h : sg ≠ 92) : spl sg (sg :: r) = (spl sg r).map ([] :: ·) := by
  conv => lhs; unfold spl
  rw [if_neg h, if_pos rfl]
/-- The four shapes of a list of bytes. -/
theorem bytes_ind {P : List UInt8 → Prop} (h0 : P []) (h1 : P [92]) (h2 : ∀ c r, P r → P (92 :: c :: r)) (h3 : ∀ b r, b ≠ 92 → P r → P (b :: r)) : ∀ (n : Nat) (l : List UInt8), l.length ≤ n → P l
  | _, [], _ => h0
  | 0, b :: l, h => by simp at h
  | n + 1, b :: l, h => by
    by_cases c : b = 92
    · subst c
      cases l with
      | nil => exact h1
      | cons c r => exact h2 c r (bytes_ind h0 h1 h2 h3 n r (by simp at h; omega))
    · exact h3 b l c (bytes_ind h0 h1 h2 h3 n l (by simpa using h))
theorem bytes_all {P : List UInt8 → Prop} (l : List UInt8) (h0 : P []) (h1 : P [92]) (h2 : ∀ c r, P r → P (92 :: c :: r)) (h3 : ∀ b r, b ≠ 92 → P r → P (b :: r)) : P l := bytes_ind h0 h1 h2 h3 l.length l (Nat.le_refl _)
theorem txt_sgn (l : List UInt8) : txt l = (sgn l).map (·.map Prod.fst) := by
  refine bytes_all (P := fun l => txt l = (sgn l).map (·.map Prod.fst)) l ?_ ?_ ?_ ?_
  · rw [txt_nil, sgn_nil]; rfl
  · rw [txt_stroke, sgn_stroke]; rfl
  · intro c r ih
    rw [txt_esc2, sgn_esc, ih]
    cases one c with
    | none => rfl
    | some x => cases sgn r <;> rfl
  · intro b r hb ih
    rw [txt_one b r hb, sgn_one b r hb, ih]
    cases sgn r <;> rfl
/-- The parts of signs at a sign that stands without a stroke. -/
def cHd (x : UInt8 × Bool) : List (List (UInt8 × Bool)) → List (List (UInt8 × Bool))
  | [] => [[x]]
  | h :: t => (x :: h) :: t
def parts (sg : UInt8) : List (UInt8 × Bool) → List (List (UInt8 × Bool))
  | [] => [[]]
  | x :: r => if x.1 = sg ∧ x.2 = false then [] :: parts sg r else cHd x (parts sg r)
theorem parts_ne (sg : UInt8) : ∀ s, ∃ h t, parts sg s = h :: t
  | [] => ⟨[], [], rfl⟩
  | x :: r => by
    obtain ⟨h, t, e⟩ := parts_ne sg r
    unfold parts
    split
    · exact ⟨_, _, rfl⟩
    · rw [e]; exact ⟨_, _, rfl⟩
theorem parts_sizes (sg : UInt8) : ∀ s, (parts sg s).length ≤ s.length + 1 ∧ ∀ p ∈ parts sg s, p.length ≤ s.length
  | [] => by unfold parts; simp
  | x :: r => by
    obtain ⟨h1, h2⟩ := parts_sizes sg r
    obtain ⟨h, t, e⟩ := parts_ne sg r
    unfold parts
    rw [e] at h1 h2 ⊢
    split
    · refine ⟨by simp at h1 ⊢; omega, ?_⟩
      intro p hp
      rcases List.mem_cons.1 hp with rfl | hp
      · simp
      · have := h2 p hp; simp; omega
    · refine ⟨by simp [cHd] at h1 ⊢; omega, ?_⟩
      intro p hp
      rcases List.mem_cons.1 (show p ∈ (x :: h) :: t from hp) with rfl | hp
      · have := h2 h (List.mem_cons_self ..); simp; omega
      · have := h2 p (List.mem_cons_of_mem _ hp); simp; omega
theorem sgn_len (l : List UInt8) : ∀ s, sgn l = some s → s.length ≤ l.length := by
  refine bytes_all (P := fun l => ∀ s, sgn l = some s → s.length ≤ l.length) l ?_ ?_ ?_ ?_
  · intro s h; rw [sgn_nil] at h; injection h with h; rw [← h]; exact Nat.le_refl _
  · intro s h; rw [sgn_stroke] at h; cases h
  · intro c r ih s h
    rw [sgn_esc] at h
    obtain ⟨x, _, h⟩ := Option.bind_eq_some_iff.1 h
    obtain ⟨q, hq, rfl⟩ := Option.map_eq_some_iff.1 h
    have := ih q hq; simp; omega
  · intro b r hb ih s h
    rw [sgn_one b r hb] at h
    obtain ⟨q, hq, rfl⟩ := Option.map_eq_some_iff.1 h
    have := ih q hq; simp; omega
theorem spl_sgn (sg : UInt8) (hsg : sg ≠ 92) (l : List UInt8) : ∀ s, sgn l = some s → ∃ ps, spl sg l = some ps ∧ ps.map sgn = (parts sg s).map some := by
  refine bytes_all (P := fun l => ∀ s, sgn l = some s → ∃ ps, spl sg l = some ps ∧ ps.map sgn = (parts sg s).map some) l ?_ ?_ ?_ ?_
  · intro s h; rw [sgn_nil] at h; injection h with h; subst h
    exact ⟨[[]], spl_nil sg, by simp [parts, sgn_nil]⟩
  · intro s h; rw [sgn_stroke] at h; cases h
  · intro c r ih s h
    rw [sgn_esc] at h
    obtain ⟨x, hx, h⟩ := Option.bind_eq_some_iff.1 h
    obtain ⟨q, hq, rfl⟩ := Option.map_eq_some_iff.1 h
    obtain ⟨ps, hps, e⟩ := ih q hq
    obtain ⟨h2, t2, e2⟩ := parts_ne sg q
    rw [e2] at e
    cases ps with
    | nil => simp at e
    | cons p ps =>
      simp only [List.map_cons, List.cons.injEq] at e
      refine ⟨(92 :: c :: p) :: ps, by rw [spl_esc2, hps]; rfl, ?_⟩
      have hp : parts sg ((x, true) :: q) = ((x, true) :: h2) :: t2 := by
        unfold parts; rw [if_neg (by simp), e2]; rfl
      rw [hp, List.map_cons, List.map_cons, e.2, sgn_esc, hx, e.1]; rfl
  · intro b r hb ih s h
    rw [sgn_one b r hb] at h
    obtain ⟨q, hq, rfl⟩ := Option.map_eq_some_iff.1 h
    obtain ⟨ps, hps, e⟩ := ih q hq
    by_cases c : b = sg
    · subst c
      refine ⟨[] :: ps, by rw [spl_sg b r hb, hps]; rfl, ?_⟩
      have hp : parts b ((b, false) :: q) = [] :: parts b q := by
        conv => lhs; unfold parts
        rw [if_pos ⟨rfl, rfl⟩]
      rw [hp, List.map_cons, List.map_cons, e, sgn_nil]
    · obtain ⟨h2, t2, e2⟩ := parts_ne sg q
      rw [e2] at e
      cases ps with
      | nil => simp at e
      | cons p ps =>
        simp only [List.map_cons, List.cons.injEq] at e
        refine ⟨(b :: p) :: ps, by rw [spl_one sg b r hb c, hps]; rfl, ?_⟩
        have hp : parts sg ((b, false) :: q) = ((b, false) :: h2) :: t2 := by
          unfold parts; rw [if_neg (by intro h; exact c h.1), e2]; rfl
        rw [hp, List.map_cons, List.map_cons, e.2, sgn_one b p hb, e.1]; rfl
theorem spl_fails (sg : UInt8) (hsg : sg ≠ 92) (l : List UInt8) : sgn l = none → ∀ ps, spl sg l = some ps → ∃ p ∈ ps, sgn p = none := by
  refine bytes_all (P := fun l => sgn l = none → ∀ ps, spl sg l = some ps → ∃ p ∈ ps, sgn p = none) l ?_ ?_ ?_ ?_
  · intro h; rw [sgn_nil] at h; cases h
  · intro _ ps h; rw [spl_stroke] at h; cases h
  · intro c r ih h ps hs
    rw [spl_esc2] at hs
    obtain ⟨qs, hq, rfl⟩ := Option.map_eq_some_iff.1 hs
    cases qs with
    | nil => exact absurd rfl (spl_ne sg _ _ _ (Nat.le_refl _) hq)
    | cons q qs =>
      rw [sgn_esc] at h
      cases ho : one c with
      | none => exact ⟨92 :: c :: q, List.mem_cons_self .., by rw [sgn_esc, ho]; rfl⟩
      | some x =>
        rw [ho] at h
        have hr : sgn r = none := by cases hh : sgn r with | none => rfl | some _ => rw [hh] at h; cases h
        obtain ⟨p, hp, e⟩ := ih hr _ hq
        rcases List.mem_cons.1 hp with rfl | hp
        · exact ⟨92 :: c :: p, List.mem_cons_self .., by rw [sgn_esc, ho, e]; rfl⟩
        · exact ⟨p, List.mem_cons_of_mem _ hp, e⟩
  · intro b r hb ih h ps hs
    rw [sgn_one b r hb] at h
    have hr : sgn r = none := by cases hh : sgn r with | none => rfl | some _ => rw [hh] at h; cases h
    by_cases c : b = sg
    · subst c
      rw [spl_sg b r hb] at hs
      obtain ⟨qs, hq, rfl⟩ := Option.map_eq_some_iff.1 hs
      obtain ⟨p, hp, e⟩ := ih hr _ hq
      exact ⟨p, List.mem_cons_of_mem _ hp, e⟩
    · rw [spl_one sg b r hb c] at hs
      obtain ⟨qs, hq, rfl⟩ := Option.map_eq_some_iff.1 hs
      cases qs with
      | nil => exact absurd rfl (spl_ne sg _ _ _ (Nat.le_refl _) hq)
      | cons q qs =>
        obtain ⟨p, hp, e⟩ := ih hr _ hq
        rcases List.mem_cons.1 hp with rfl | hp
        · exact ⟨b :: p, List.mem_cons_self .., by rw [sgn_one b p hb, e]; rfl⟩
        · exact ⟨p, List.mem_cons_of_mem _ hp, e⟩
def plB (s : List (UInt8 × Bool)) : ByteArray := mkB (s.map Prod.fst)
theorem mapT_sgn : ∀ (ps : List (List UInt8)) (ss : List (List (UInt8 × Bool))), ps.map sgn = ss.map some → mapT ps = some (ss.map plB)
  | [], [], _ => rfl
  | [], _ :: _, h => by cases h
  | _ :: _, [], h => by cases h
  | p :: ps, s :: ss, h => by
    simp only [List.map_cons, List.cons.injEq] at h
    unfold mapT
    rw [mapT_sgn ps ss h.2, txt_sgn, h.1]; rfl
theorem mapT_fails : ∀ (ps : List (List UInt8)), (∃ p ∈ ps, sgn p = none) → mapT ps = none
  | [], h => by obtain ⟨p, hp, _⟩ := h; cases hp
  | p :: ps, h => by
    obtain ⟨q, hq, e⟩ := h
    unfold mapT
    rcases List.mem_cons.1 hq with rfl | hq
    · rw [txt_sgn, e]; rfl
    · rw [mapT_fails ps ⟨q, hq, e⟩]; cases txt p <;> rfl
theorem listO_sgn (sg : UInt8) (hsg : sg ≠ 92) (l : List UInt8) (s) (h : sgn l = some s) : listO sg l = some ((parts sg s).map plB) := by
  obtain ⟨ps, hp, e⟩ := spl_sgn sg hsg l s h
  unfold listO
  rw [hp]; exact mapT_sgn _ _ e
theorem listO_fails (sg : UInt8) (hsg : sg ≠ 92) (l : List UInt8) (h : sgn l = none) : listO sg l = none := by
  unfold listO
  cases hs : spl sg l with
  | none => rfl
  | some ps => exact mapT_fails _ (spl_fails sg hsg l h ps hs)
theorem listI_sgn (l : List UInt8) (s) (h : sgn l = some s) : listI 44 l = ((parts 44 s).map plB, 0) := by rw [listI_is, listO_sgn 44 (by decide) l s h]
theorem listI_fails (l : List UInt8) (h : sgn l = none) : listI 44 l = ([], 31) := by rw [listI_is, listO_fails 44 (by decide) l h]
theorem mapF_sgn : ∀ (ps : List (List UInt8)) (ss : List (List (UInt8 × Bool))), ps.map sgn = ss.map some → mapF ps = some (ss.map fun s => (parts 44 s).map plB)
  | [], [], _ => rfl
  | [], _ :: _, h => by cases h
  | _ :: _, [], h => by cases h
  | p :: ps, s :: ss, h => by
    simp only [List.map_cons, List.cons.injEq] at h
    unfold mapF
    rw [mapF_sgn ps ss h.2, listO_sgn 44 (by decide) p s h.1]; rfl
theorem mapF_fails : ∀ (ps : List (List UInt8)), (∃ p ∈ ps, sgn p = none) → mapF ps = none
  | [], h => by obtain ⟨p, hp, _⟩ := h; cases hp
  | p :: ps, h => by
    obtain ⟨q, hq, e⟩ := h
    unfold mapF
    rcases List.mem_cons.1 hq with rfl | hq
    · rw [listO_fails 44 (by decide) q e]; rfl
    · rw [mapF_fails ps ⟨q, hq, e⟩]; cases listO 44 p <;> rfl
theorem fieldsI_sgn (l : List UInt8) (s) (h : sgn l = some s) : fieldsI 59 l = ((parts 59 s).map fun p => (parts 44 p).map plB, 0) := by
  obtain ⟨ps, hp, e⟩ := spl_sgn 59 (by decide) l s h
  unfold fieldsI
  rw [hp]
  dsimp only
  rw [mapF_sgn _ _ e]
theorem fieldsI_fails (l : List UInt8) (h : sgn l = none) : fieldsI 59 l = ([], 31) := by
  unfold fieldsI
  cases hs : spl 59 l with
  | none => rfl
  | some ps =>
    dsimp only
    rw [mapF_fails _ (spl_fails 59 (by decide) l h ps hs)]
theorem txtI_sgn (l : List UInt8) (s) (h : sgn l = some s) : txtI l = (plB s, 0) := by
  unfold txtI; rw [txt_sgn, h]; rfl
theorem txtI_fails (l : List UInt8) (h : sgn l = none) : txtI l = (mkB [], 31) := by
  unfold txtI; rw [txt_sgn, h]; rfl
/-- A sign as the program keeps it. -/
def toS (x : UInt8 × Bool) : S49 := ⟨(x.1.toNat : Int), x.2⟩
theorem sgn_drop_one {l : List UInt8} {i : Nat} (hi : i < l.length) (hb : l[i] ≠ 92) : sgn (l.drop i) = (sgn (l.drop (i + 1))).map ((l[i], false) :: ·) := by
  rw [List.drop_eq_getElem_cons hi, sgn_one _ _ hb]
theorem sgn_drop_esc {l : List UInt8} {i : Nat} (hi : i + 1 < l.length) (hb : l[i] = 92) : sgn (l.drop i) = (one l[i + 1]).bind fun x => (sgn (l.drop (i + 2))).map ((x, true) :: ·) := by
  rw [List.drop_eq_getElem_cons (show i < l.length by omega), List.drop_eq_getElem_cons hi, hb, sgn_esc]
theorem sgn_drop_end {l : List UInt8} {i : Nat} (hi : i + 1 = l.length) (hb : l[i]'(by omega) = 92) : sgn (l.drop i) = none := by
  rw [List.drop_eq_getElem_cons (show i < l.length by omega), List.drop_of_length_le (by omega), hb, sgn_stroke]
def sgnI (out : List S49) : Option (List (UInt8 × Bool)) → List S49 × Bool
  | none => ([], false)
  | some s => (out ++ s.map toS, true)
theorem nat92 {b : UInt8} {n : Nat} (hn : n < 256) : ((b.toNat : Int) = (n : Int)) ↔ b = UInt8.ofNat n := by
  constructor
  · intro h
    have h : b.toNat = n := by omega
    rw [← h]; simp
  · rintro rfl
    simp [UInt8.toNat_ofNat', Nat.mod_eq_of_lt hn]
theorem signs_loop (x : ByteArray) (hx : x.size ≤ 1073741824) : ∀ (n i : Nat) (out : List S49) (k : Nat), i + n = x.size → out.length ≤ i → n < k →
    calepinref04_Signs.l0 k x out (i : Int) = some (sgnI out (sgn (x.data.toList.drop i)))
  | _, _, _, 0, _, _, hk => by omega
  | 0, i, out, k + 1, hn, ho, hk => by
    have hl : x.data.toList.length = x.size := rfl
    unfold calepinref04_Signs.l0
    rw [if_neg (by omega), List.drop_of_length_le (by omega), sgn_nil]
    simp [sgnI]
  | n + 1, i, out, k + 1, hn, ho, hk => by
    have hl : x.data.toList.length = x.size := rfl
    have hi : i < x.data.toList.length := by omega
    unfold calepinref04_Signs.l0
    rw [if_pos (by omega), if_pos (by omega), bt_is x i hi]
    have w1 : wrap64 ((i : Int) + 1) = ((i + 1 : Nat) : Int) := by unfold wrap64; omega
    rw [w1]
    by_cases c1 : x.data.toList[i] = 92
    · rw [if_pos (by rw [c1]; rfl)]
      by_cases c2 : i + 1 = x.size
      · rw [if_pos (by omega), sgn_drop_end (by omega) c1]; rfl
      · obtain ⟨m, rfl⟩ : ∃ m, n = m + 1 := ⟨n - 1, by omega⟩
        obtain ⟨k, rfl⟩ : ∃ m, k = m + 1 := ⟨k - 1, by omega⟩
        have hi1 : i + 1 < x.data.toList.length := by omega
        rw [if_neg (by omega), if_pos (by omega), if_pos (by omega), bt_is x (i + 1) hi1, sgn_drop_esc hi1 c1]
        generalize hc : x.data.toList[i + 1] = c
        have w2 : wrap64 (((i + 1 : Nat) : Int) + 1) = ((i + 2 : Nat) : Int) := by unfold wrap64; omega
        have step : ∀ y : UInt8, calepinref04_Signs.l0 k x (out ++ [(⟨(y.toNat : Int), true⟩ : S49)]) ((i + 2 : Nat) : Int) = some (sgnI out ((sgn (x.data.toList.drop (i + 2))).map ((y, true) :: ·))) := by
          intro y
          rw [signs_loop x hx m (i + 2) _ k (by omega) (by rw [List.length_append]; simp; omega) (by omega)]
          cases sgn (x.data.toList.drop (i + 2)) with
          | none => rfl
          | some q => simp [sgnI, toS]
        have lim : out.length < 70368744177664 := by omega
        have m110 := nat92 (b := c) (n := 110) (by decide)
        have m78 := nat92 (b := c) (n := 78) (by decide)
        have m92 := nat92 (b := c) (n := 92) (by decide)
        have m44 := nat92 (b := c) (n := 44) (by decide)
        have m59 := nat92 (b := c) (n := 59) (by decide)
        have z1 : (0 : Int) ≤ ((i + 1 : Nat) : Int) := by omega
        have z2 : ((i + 1 : Nat) : Int) < (x.size : Int) := by omega
        unfold calepinref04_Signs.j1
        rw [w2, bt_is x (i + 1) hi1, hc]
        by_cases d1 : c = 110
        · subst d1
          have := step 10
          simpa [one, lim] using this
        · by_cases d2 : c = 78
          · subst d2
            have := step 10
            simpa [one, lim] using this
          · by_cases d3 : c = 92
            · subst d3
              have t := step 92
              simp [one] at t
              simp [one, lim]
              exact ⟨by omega, by omega, t⟩
            · by_cases d4 : c = 44
              · subst d4
                have t := step 44
                simp [one] at t
                simp [one, lim]
                exact ⟨by omega, by omega, t⟩
              · by_cases d5 : c = 59
                · subst d5
                  have t := step 59
                  simp [one] at t
                  simp [one, lim]
                  exact ⟨by omega, by omega, t⟩
                · have f1 : ¬ (c.toNat : Int) = 110 := fun e => d1 (m110.1 e)
                  have f2 : ¬ (c.toNat : Int) = 78 := fun e => d2 (m78.1 e)
                  have f3 : ¬ (c.toNat : Int) = 92 := fun e => d3 (m92.1 e)
                  have f4 : ¬ (c.toNat : Int) = 44 := fun e => d4 (m44.1 e)
                  have f5 : ¬ (c.toNat : Int) = 59 := fun e => d5 (m59.1 e)
                  have ho : one c = none := by unfold one; rw [if_neg d1, if_neg d2, if_neg d3, if_neg d4, if_neg d5]
                  have g1 : ((c.toNat : Int) == 110) = false := beq_false_of_ne f1
                  have g2 : ((c.toNat : Int) == 78) = false := beq_false_of_ne f2
                  rw [ho, g1, g2]
                  simp only [if_neg f1, if_neg f3, if_neg f4, if_neg f5, if_neg (show ¬ (false = true) by decide)]
                  rfl
    · have hne : ¬ ((x.data.toList[i].toNat : Int) = 92) := fun e => c1 ((nat92 (b := x.data.toList[i]) (n := 92) (by decide)).1 e)
      rw [if_neg hne, if_pos (by omega), sgn_drop_one hi c1]
      rw [signs_loop x hx n (i + 1) _ k (by omega) (by rw [List.length_append]; simp; omega) (by omega)]
      cases sgn (x.data.toList.drop (i + 1)) with
      | none => rfl
      | some q => simp [sgnI, toS]
def signsI (l : List UInt8) : List S49 × Bool := match sgn l with
  | none => ([], false)
  | some s => (s.map toS, true)
theorem signs_f (x : ByteArray) (hx : x.size ≤ 1073741824) (k : Nat) (hk : x.size < k) : calepinref04_Signs.f k x = some (signsI x.data.toList) := by
  have h := signs_loop x hx x.size 0 [] k (by omega) (Nat.le_refl _) hk
  unfold calepinref04_Signs.f
  refine (show calepinref04_Signs.l0 k x [] 0 = _ from h).trans ?_
  rw [List.drop_zero]
  unfold signsI
  cases sgn x.data.toList with
  | none => rfl
  | some s => simp [sgnI]
theorem rd_toS (s : List (UInt8 × Bool)) (i : Nat) (hi : i < s.length) : rd_T49 (s.map toS) (i : Int) = toS s[i] := by
  unfold rd_T49
  simp [List.getD, hi]
theorem plain_loop (s : List (UInt8 × Bool)) (hs : s.length ≤ 1073741824) : ∀ (n i : Nat) (k : Nat), i + n = s.length → n < k →
    calepinref04_Plain.l0 k ((s.take i).map fun x => (x.1.toNat : Int)) (s.map toS) (s.length : Int) (i : Int) = some (plB s)
  | _, _, 0, _, hk => by omega
  | 0, i, k + 1, hn, hk => by
    unfold calepinref04_Plain.l0
    rw [if_neg (by omega), List.take_of_length_le (by omega)]
    congr 1
    unfold strOfNums plB mkB
    simp [Function.comp_def]
  | n + 1, i, k + 1, hn, hk => by
    have hi : i < s.length := by omega
    unfold calepinref04_Plain.l0
    rw [if_pos (by omega), if_pos (by omega), if_pos (by rw [List.length_map]; omega), if_pos (by rw [List.length_map, List.length_take]; omega), rd_toS s i hi]
    have w1 : wrap64 ((i : Int) + 1) = ((i + 1 : Nat) : Int) := by unfold wrap64; omega
    rw [w1]
    have h := plain_loop s hs n (i + 1) k (by omega) (by omega)
    rw [List.take_succ_eq_append_getElem hi, List.map_append] at h
    exact h
theorem plain_f (s : List (UInt8 × Bool)) (hs : s.length ≤ 1073741824) (k : Nat) (hk : s.length < k) : calepinref04_Plain.f k (s.map toS) = some (plB s) := by
  have h := plain_loop s hs s.length 0 k (by omega) hk
  unfold calepinref04_Plain.f
  rw [List.length_map]
  exact h
def cHdS (p : List S49) : List (List S49) → List (List S49)
  | [] => [p]
  | h :: t => (p ++ h) :: t
theorem parts_loop (sg : UInt8) (s : List (UInt8 × Bool)) (hs : s.length ≤ 1073741824) : ∀ (n i : Nat) (out : List (List S49)) (cur : List S49) (k : Nat), i + n = s.length → out.length ≤ i → cur.length ≤ i → n < k →
    calepinref04_Parts.l0 k (sg.toNat : Int) out cur (s.map toS) (s.length : Int) (i : Int) = some (out ++ cHdS cur ((parts sg (s.drop i)).map (·.map toS)))
  | _, _, _, _, 0, _, _, _, hk => by omega
  | 0, i, out, cur, k + 1, hn, ho, hc, hk => by
    unfold calepinref04_Parts.l0
    rw [if_neg (by omega), if_pos (by omega), List.drop_of_length_le (by omega)]
    simp [parts, cHdS]
  | n + 1, i, out, cur, k + 1, hn, ho, hc, hk => by
    have hi : i < s.length := by omega
    unfold calepinref04_Parts.l0
    rw [if_pos (by omega), if_pos (by omega), if_pos (by rw [List.length_map]; omega), rd_toS s i hi]
    have w1 : wrap64 ((i : Int) + 1) = ((i + 1 : Nat) : Int) := by unfold wrap64; omega
    rw [w1, List.drop_eq_getElem_cons hi]
    generalize hx : s[i] = x
    obtain ⟨h2, t2, e2⟩ := parts_ne sg (s.drop (i + 1))
    have hgo : ∀ (hne : ¬ (x.1 = sg ∧ x.2 = false)), calepinref04_Parts.l0 k (sg.toNat : Int) out (cur ++ [(⟨(toS x).f0, (toS x).f1⟩ : S49)]) (s.map toS) (s.length : Int) ((i + 1 : Nat) : Int) = some (out ++ cHdS cur ((parts sg (x :: s.drop (i + 1))).map (·.map toS))) := by
      intro hne
      rw [parts_loop sg s hs n (i + 1) out _ k (by omega) (by omega) (by rw [List.length_append]; simp; omega) (by omega)]
      conv => rhs; unfold parts
      rw [if_neg hne, e2]
      simp [cHd, cHdS, toS]
    by_cases c1 : x.1 = sg
    · rw [if_pos (by show (x.1.toNat : Int) = _; rw [c1])]
      by_cases c2 : x.2 = true
      · rw [if_pos (show (toS x).f1 = true from c2), if_pos (by omega)]
        exact hgo (by intro h; rw [h.2] at c2; cases c2)
      · rw [if_neg (show ¬ (toS x).f1 = true from c2), if_pos (by omega)]
        rw [parts_loop sg s hs n (i + 1) _ [] k (by omega) (by rw [List.length_append]; simp; omega) (by simp) (by omega)]
        conv => rhs; unfold parts
        rw [if_pos ⟨c1, by simpa using c2⟩, e2]
        simp [cHdS]
    · rw [if_neg (by show ¬ (x.1.toNat : Int) = _; intro e; exact c1 (UInt8.toNat_inj.1 (by omega))), if_pos (by omega)]
      exact hgo (fun h => c1 h.1)
theorem parts_f (sg : UInt8) (s : List (UInt8 × Bool)) (hs : s.length ≤ 1073741824) (k : Nat) (hk : s.length < k) : calepinref04_Parts.f k (s.map toS) (sg.toNat : Int) = some ((parts sg s).map (·.map toS)) := by
  have h := parts_loop sg s hs s.length 0 [] [] k (by omega) (Nat.le_refl _) (Nat.le_refl _) hk
  unfold calepinref04_Parts.f
  rw [List.length_map]
  refine (show calepinref04_Parts.l0 k (sg.toNat : Int) [] [] (s.map toS) (s.length : Int) 0 = _ from h).trans ?_
  obtain ⟨h2, t2, e2⟩ := parts_ne sg s
  rw [List.drop_zero, e2]
  simp [cHdS]
theorem rd_L4s (ps : List (List (UInt8 × Bool))) (i : Nat) (hi : i < ps.length) : rd_L4 (ps.map (·.map toS)) (i : Int) = ps[i].map toS := by
  unfold rd_L4
  simp [List.getD, hi]
theorem list_loop (ps : List (List (UInt8 × Bool))) (hs : ps.length ≤ 1073741825) (hp : ∀ p ∈ ps, p.length ≤ 1073741824) : ∀ (n i : Nat) (k : Nat), i + n = ps.length → (∀ p ∈ ps, p.length + n + 1 < k) →  n < k →
    calepinref04_List.l0 k ((ps.take i).map plB) (ps.map (·.map toS)) (ps.length : Int) (i : Int) = some (ps.map plB, true)
  | _, _, 0, _, _, hk => by omega
  | 0, i, k + 1, hn, _, hk => by
    unfold calepinref04_List.l0
    rw [if_neg (by omega), List.take_of_length_le (by omega)]
  | n + 1, i, k + 1, hn, hpk, hk => by
    have hi : i < ps.length := by omega
    have hm : ps[i] ∈ ps := List.getElem_mem hi
    unfold calepinref04_List.l0
    rw [if_pos (by omega), if_pos (by omega), if_pos (by rw [List.length_map]; omega), rd_L4s ps i hi, plain_f _ (hp _ hm) k (by have := hpk _ hm; omega)]
    rw [Option.bind_some, if_pos (by rw [List.length_map, List.length_take]; omega)]
    have w1 : wrap64 ((i : Int) + 1) = ((i + 1 : Nat) : Int) := by unfold wrap64; omega
    rw [w1]
    have h := list_loop ps hs hp n (i + 1) k (by omega) (by intro p hp; have := hpk p hp; omega) (by omega)
    rw [List.take_succ_eq_append_getElem hi, List.map_append] at h
    exact h
theorem flist_loop (out : List (List ByteArray)) (xs : List (List S49)) (c j : Int) (ps : List (List (UInt8 × Bool))) (hs : ps.length ≤ 1073741825) (hp : ∀ p ∈ ps, p.length ≤ 1073741824) (ho : out.length ≤ 1073741825) : ∀ (n i : Nat) (k : Nat), i + n = ps.length → (∀ p ∈ ps, p.length < k) →
    calepinref04_Fields.l1 (k + n + 1) out ((ps.take i).map plB) xs c j (ps.map (·.map toS)) (ps.length : Int) (i : Int) = calepinref04_Fields.l0 k (out ++ [ps.map plB]) xs c (wrap64 (j + 1))
  | 0, i, k, hn, _ => by
    conv => lhs; unfold calepinref04_Fields.l1
    rw [if_neg (by omega), if_pos (by omega), List.take_of_length_le (by omega)]
  | n + 1, i, k, hn, hpk => by
    have hi : i < ps.length := by omega
    have hm : ps[i] ∈ ps := List.getElem_mem hi
    conv => lhs; unfold calepinref04_Fields.l1
    rw [if_pos (by omega), if_pos (by omega), if_pos (by rw [List.length_map]; omega), rd_L4s ps i hi, plain_f _ (hp _ hm) _ (by have := hpk _ hm; omega)]
    rw [Option.bind_some, if_pos (by rw [List.length_map, List.length_take]; omega)]
    have w1 : wrap64 ((i : Int) + 1) = ((i + 1 : Nat) : Int) := by unfold wrap64; omega
    rw [w1]
    have h := flist_loop out xs c j ps hs hp ho n (i + 1) k (by omega) hpk
    rw [List.take_succ_eq_append_getElem hi, List.map_append] at h
    exact h

theorem parts_small (sg : UInt8) (s : List (UInt8 × Bool)) (n : Nat) (h : s.length ≤ n) : (parts sg s).length ≤ n + 1 ∧ ∀ p ∈ parts sg s, p.length ≤ n := by
  have := parts_sizes sg s
  exact ⟨by omega, fun p hp => by have := this.2 p hp; omega⟩
theorem list_f2 (x : ByteArray) (hx : x.size ≤ 1073741824) (k : Nat) (hk : 2 * x.size + 8 < k) (s) (h : sgn x.data.toList = some s) : calepinref04_List.f k x = some ((parts 44 s).map plB, true) := by
  have hl : x.data.toList.length = x.size := rfl
  have hs := sgn_len _ _ h
  obtain ⟨q1, q2⟩ := parts_small 44 s x.size (by omega)
  unfold calepinref04_List.f
  rw [signs_f x hx k (by omega)]
  unfold signsI
  rw [h]
  rw [Option.bind_some, if_pos rfl]
  rw [show (44 : Int) = ((44 : UInt8).toNat : Int) from rfl, parts_f 44 s (by omega) k (by omega), Option.bind_some, List.length_map]
  exact list_loop (parts 44 s) (by omega) (fun p hp => by have := q2 p hp; omega) (parts 44 s).length 0 k (by omega) (fun p hp => by have := q2 p hp; omega) (by omega)
def fldB (p : List (UInt8 × Bool)) : List ByteArray := (parts 44 p).map plB
theorem fields_loop (m : Nat) (hm : m ≤ 1073741824) (ps : List (List (UInt8 × Bool))) (hs : ps.length ≤ 1073741825) (hp : ∀ p ∈ ps, p.length ≤ m) : ∀ (n i : Nat), i + n = ps.length →
    ∃ K, ∀ k, K ≤ k → calepinref04_Fields.l0 k ((ps.take i).map fldB) (ps.map (·.map toS)) (ps.length : Int) (i : Int) = some (ps.map fldB, true)
  | 0, i, hn => by
    refine ⟨1, fun k hk => ?_⟩
    obtain ⟨k, rfl⟩ : ∃ j, k = j + 1 := ⟨k - 1, by omega⟩
    unfold calepinref04_Fields.l0
    rw [if_neg (by omega), List.take_of_length_le (by omega)]
  | n + 1, i, hn => by
    obtain ⟨K, hK⟩ := fields_loop m hm ps hs hp n (i + 1) (by omega)
    refine ⟨K + 2 * m + 8, fun k hk => ?_⟩
    have hi : i < ps.length := by omega
    have hmm : ps[i] ∈ ps := List.getElem_mem hi
    have hl := hp _ hmm
    obtain ⟨q1, q2⟩ := parts_small 44 ps[i] m hl
    obtain ⟨j, rfl⟩ : ∃ j, k = (j + (parts 44 ps[i]).length + 1) + 1 := ⟨k - (parts 44 ps[i]).length - 2, by omega⟩
    unfold calepinref04_Fields.l0
    rw [if_pos (by omega), if_pos (by omega), if_pos (by rw [List.length_map]; omega), rd_L4s ps i hi]
    rw [show (44 : Int) = ((44 : UInt8).toNat : Int) from rfl, parts_f 44 ps[i] (by omega) _ (by omega), Option.bind_some, List.length_map]
    have h1 := flist_loop ((ps.take i).map fldB) (ps.map (·.map toS)) (ps.length : Int) (i : Int) (parts 44 ps[i]) (by omega) (fun p hp => by have := q2 p hp; omega) (by rw [List.length_map, List.length_take]; omega) (parts 44 ps[i]).length 0 j (by omega) (fun p hp => by have := q2 p hp; omega)
    refine (show _ = _ from h1).trans ?_
    have w1 : wrap64 ((i : Int) + 1) = ((i + 1 : Nat) : Int) := by unfold wrap64; omega
    rw [w1]
    have h := hK j (by omega)
    rw [List.take_succ_eq_append_getElem hi, List.map_append] at h
    exact h
theorem fields_f2 (x : ByteArray) (hx : x.size ≤ 1073741824) (s) (h : sgn x.data.toList = some s) : ∃ K, ∀ k, K ≤ k → calepinref04_Fields.f k x = some ((parts 59 s).map fldB, true) := by
  have hl : x.data.toList.length = x.size := rfl
  have hs := sgn_len _ _ h
  obtain ⟨q1, q2⟩ := parts_small 59 s x.size (by omega)
  obtain ⟨K, hK⟩ := fields_loop x.size hx (parts 59 s) (by omega) q2 (parts 59 s).length 0 (by omega)
  refine ⟨K + x.size + 8, fun k hk => ?_⟩
  unfold calepinref04_Fields.f
  rw [signs_f x hx k (by omega)]
  unfold signsI
  rw [h]
  rw [Option.bind_some, if_pos rfl]
  rw [show (59 : Int) = ((59 : UInt8).toNat : Int) from rfl, parts_f 59 s (by omega) k (by omega), Option.bind_some, List.length_map]
  exact hK k (by omega)
theorem same_loop (xs : List ByteArray) (hs : xs.length ≤ 1073741825) : ∀ (n i : Nat) (k : Nat), i + n = xs.length → n < k →
    calepinref04_Same.l0 k xs xs (xs.length : Int) (i : Int) = some true
  | _, _, 0, _, hk => by omega
  | 0, i, k + 1, hn, hk => by
    unfold calepinref04_Same.l0
    rw [if_neg (by omega)]
  | n + 1, i, k + 1, hn, hk => by
    unfold calepinref04_Same.l0
    rw [if_pos (by omega), if_pos (by omega), if_pos (by omega), if_pos (by omega), if_pos rfl]
    have w1 : wrap64 ((i : Int) + 1) = ((i + 1 : Nat) : Int) := by unfold wrap64; omega
    rw [w1]
    exact same_loop xs hs n (i + 1) k (by omega) (by omega)
theorem same_f (xs : List ByteArray) (hs : xs.length ≤ 1073741825) (k : Nat) (hk : xs.length < k) : calepinref04_Same.f k xs xs = some true := by
  unfold calepinref04_Same.f
  rw [if_pos rfl]
  exact same_loop xs hs xs.length 0 k (by omega) hk
theorem rd_L5s (ps : List (List ByteArray)) (i : Nat) (hi : i < ps.length) : rd_L5 ps (i : Int) = ps[i] := by
  unfold rd_L5
  simp [List.getD, hi]
theorem reads_loop (xs : List (List ByteArray)) (m : Nat) (hs : xs.length ≤ 1073741825) (hp : ∀ p ∈ xs, p.length ≤ m) (hm : m ≤ 1073741825) : ∀ (n i : Nat) (k : Nat), i + n = xs.length → n + m < k →
    calepinlaw04_ValueReads.l0 k xs xs (xs.length : Int) (i : Int) = some true
  | _, _, 0, _, hk => by omega
  | 0, i, k + 1, hn, hk => by
    unfold calepinlaw04_ValueReads.l0
    rw [if_neg (by omega)]
  | n + 1, i, k + 1, hn, hk => by
    have hi : i < xs.length := by omega
    have hl := hp _ (List.getElem_mem hi)
    unfold calepinlaw04_ValueReads.l0
    rw [if_pos (by omega), if_pos (by omega), if_pos (by omega), if_pos (by omega), rd_L5s xs i hi, same_f _ (by omega) k (by omega), Option.bind_some, if_pos rfl]
    have w1 : wrap64 ((i : Int) + 1) = ((i + 1 : Nat) : Int) := by unfold wrap64; omega
    rw [w1]
    exact reads_loop xs m hs hp hm n (i + 1) k (by omega) (by omega)

end Go.Proofs.Ytdjdbmopckhcdaa.PV
