/- The law of writing. -/
import Derived.Test.YtdjdbmopckhcdaaVBas
import Derived.Test.YtdjdbmopckhcdaaPVx7
namespace Go.Proofs.Ytdjdbmopckhcdaa.PV
open Go.RowKit Go.Proofs.YtdjdbmopckhcdaaW.PrintWords Go.Proofs.YtdjdbmopckhcdaaW.PrintLast Go.Proofs.YtdjdbmopckhcdaaW.PrintMore
open Go.Proofs Go.Proofs.Ytdjdbmopckhcdaa
set_option linter.unusedVariables false
set_option linter.unusedSimpArgs false
set_option maxHeartbeats 4000000
set_option maxRecDepth 100000



theorem mkB_app (a b : List UInt8) : mkB a ++ mkB b = mkB (a ++ b) := by
  unfold mkB
  apply ByteArray.ext
  simp
theorem nnW_92 {c : UInt8} (h : c ≠ 92) : ¬ ((c.toNat : Int) = 92) := fun e => h ((nat92 (b := c) (n := 92) (by decide)).1 e)
theorem nnW_59 {c : UInt8} (h : c ≠ 59) : ¬ ((c.toNat : Int) = 59) := fun e => h ((nat92 (b := c) (n := 59) (by decide)).1 e)
theorem nnW_44 {c : UInt8} (h : c ≠ 44) : ¬ ((c.toNat : Int) = 44) := fun e => h ((nat92 (b := c) (n := 44) (by decide)).1 e)
theorem nnW_10 {c : UInt8} (h : c ≠ 10) : ¬ ((c.toNat : Int) = 10) := fun e => h ((nat92 (b := c) (n := 10) (by decide)).1 e)
/-- Pieces with a sign between them. -/
def jn (sg : UInt8) : List (List UInt8) → List UInt8
  | [] => []
  | [x] => x
  | x :: y :: r => x ++ sg :: jn sg (y :: r)
theorem join_jn (sg : UInt8) : ∀ xs, Lib.join xs [sg] = jn sg xs
  | [] => rfl
  | [x] => by rw [Lib.join_one]; rfl
  | x :: y :: r => by
    have ih := join_jn sg (y :: r)
    unfold Lib.join at ih ⊢
    show _ = x ++ sg :: jn sg (y :: r)
    rw [← ih]
    simp [List.intercalate, List.intersperse]
theorem jn_snoc (sg : UInt8) (y : List UInt8) : ∀ xs, xs ≠ [] → jn sg (xs ++ [y]) = jn sg xs ++ sg :: y
  | [], h => absurd rfl h
  | [x], _ => rfl
  | x :: z :: r, _ => by
    have ih := jn_snoc sg y (z :: r) (by simp)
    show x ++ sg :: jn sg (z :: r ++ [y]) = (x ++ sg :: jn sg (z :: r)) ++ sg :: y
    rw [ih]; simp
theorem jn_len (sg : UInt8) : ∀ xs, (jn sg xs).length ≤ (xs.map fun x => x.length + 1).sum
  | [] => by simp [jn]
  | [x] => by simp [jn]
  | x :: y :: r => by
    have ih := jn_len sg (y :: r)
    show (x ++ sg :: jn sg (y :: r)).length ≤ _
    simp at ih ⊢
    omega
theorem escL_len (b : UInt8) : (escL b).length ≤ 2 := by
  rcases escL_cases b with ⟨_, h⟩ | ⟨_, h⟩ | ⟨_, h⟩ | ⟨_, h⟩ | ⟨_, _, _, _, h⟩ <;> rw [h] <;> simp
theorem putL_len : ∀ l, (putL l).length ≤ 2 * l.length
  | [] => Nat.le_refl _
  | b :: l => by
    have := putL_len l
    have := escL_len b
    rw [putL_cons, List.length_append, List.length_cons]; omega
/-- No sign of it divides what stands behind it. -/
def clean (sg : UInt8) (u : List UInt8) : Prop := ∀ v, spl sg (u ++ v) = (spl sg v).map (cHead u)
theorem cHead_nil (ps : List (List UInt8)) (h : ps ≠ []) : cHead [] ps = ps := by
  cases ps with
  | nil => exact absurd rfl h
  | cons a t => rfl
theorem clean_nil (sg : UInt8) : clean sg [] := by
  intro v
  show spl sg v = _
  cases h : spl sg v with
  | none => rfl
  | some ps => simp [cHead_nil ps (spl_ne sg _ _ _ (Nat.le_refl _) h)]
theorem clean_app {sg : UInt8} {u v : List UInt8} (hu : clean sg u) (hv : clean sg v) : clean sg (u ++ v) := by
  intro x
  rw [List.append_assoc, hu, hv]
  cases h : spl sg x with
  | none => rfl
  | some ps => simp [cHead_cHead u v ps (spl_ne sg _ _ _ (Nat.le_refl _) h)]
theorem clean_esc (sg c : UInt8) : clean sg [92, c] := fun v => spl_esc2 sg c v
theorem clean_one (sg b : UInt8) (h1 : b ≠ 92) (h2 : b ≠ sg) : clean sg [b] := fun v => spl_one sg b v h1 h2
theorem clean_putL (sg : UInt8) (hsg : sg = 44 ∨ sg = 59) : ∀ l, clean sg (putL l)
  | [] => clean_nil sg
  | b :: l => by
    rw [putL_cons]
    refine clean_app ?_ (clean_putL sg hsg l)
    rcases escL_cases b with ⟨_, h⟩ | ⟨_, h⟩ | ⟨_, h⟩ | ⟨_, h⟩ | ⟨_, h1, h2, h3, h⟩
    · rw [h]; exact clean_esc sg _
    · rw [h]; exact clean_esc sg _
    · rw [h]; exact clean_esc sg _
    · rw [h]; exact clean_esc sg _
    · rw [h]; exact clean_one sg b h3 (by rcases hsg with e | e <;> rw [e] <;> assumption)
theorem clean_jn (sg st : UInt8) (h1 : st ≠ 92) (h2 : st ≠ sg) : ∀ xs, (∀ x ∈ xs, clean sg x) → clean sg (jn st xs)
  | [], _ => clean_nil sg
  | [x], h => h x (List.mem_cons_self ..)
  | x :: y :: r, h => by
    have ih := clean_jn sg st h1 h2 (y :: r) (fun z hz => h z (List.mem_cons_of_mem _ hz))
    show clean sg (x ++ ([st] ++ jn st (y :: r)))
    exact clean_app (h x (List.mem_cons_self ..)) (clean_app (clean_one sg st h1 h2) ih)
theorem spl_jn (sg : UInt8) (hsg : sg ≠ 92) : ∀ xs, xs ≠ [] → (∀ x ∈ xs, clean sg x) → spl sg (jn sg xs) = some xs
  | [], h, _ => absurd rfl h
  | [x], _, h => by
    have := h x (List.mem_cons_self ..) []
    rw [List.append_nil, spl_nil] at this
    show spl sg x = _
    rw [this]
    simp [cHead]
  | x :: y :: r, _, h => by
    have ih := spl_jn sg hsg (y :: r) (by simp) (fun z hz => h z (List.mem_cons_of_mem _ hz))
    show spl sg (x ++ sg :: jn sg (y :: r)) = _
    rw [h x (List.mem_cons_self ..), spl_sg sg _ hsg, ih]
    simp [cHead]
def pL (p : ByteArray) : List UInt8 := putL p.data.toList
def rwL (row : List ByteArray) : List UInt8 := jn 44 (row.map pL)
def whL (fs : List (List ByteArray)) : List UInt8 := jn 59 (fs.map rwL)
theorem mapT_put : ∀ row : List ByteArray, mapT (row.map pL) = some row
  | [] => rfl
  | p :: row => by
    show (txt (putL p.data.toList)).bind _ = _
    rw [txt_putL, Option.bind_some, mapT_put row]; rfl
theorem listO_row (row : List ByteArray) (h : row ≠ []) : listO 44 (rwL row) = some row := by
  unfold listO rwL
  rw [spl_jn 44 (by decide) _ (by simpa using h) (by
    intro x hx
    obtain ⟨p, _, rfl⟩ := List.mem_map.1 hx
    exact clean_putL 44 (.inl rfl) _)]
  exact mapT_put row
theorem mapF_rows : ∀ fs : List (List ByteArray), (∀ r ∈ fs, r ≠ []) → mapF (fs.map rwL) = some fs
  | [], _ => rfl
  | r :: fs, h => by
    show (listO 44 (rwL r)).bind _ = _
    rw [listO_row r (h r (List.mem_cons_self ..)), Option.bind_some, mapF_rows fs (fun z hz => h z (List.mem_cons_of_mem _ hz))]; rfl
theorem fieldsI_rows (fs : List (List ByteArray)) (h0 : fs ≠ []) (h : ∀ r ∈ fs, r ≠ []) : fieldsI 59 (whL fs) = (fs, 0) := by
  unfold fieldsI whL
  rw [spl_jn 59 (by decide) _ (by simpa using h0) (by
    intro x hx
    obtain ⟨r, _, rfl⟩ := List.mem_map.1 hx
    refine clean_jn 59 44 (by decide) (by decide) _ ?_
    intro y hy
    obtain ⟨p, _, rfl⟩ := List.mem_map.1 hy
    exact clean_putL 59 (.inr rfl) _)]
  dsimp only
  rw [mapF_rows fs h]
theorem listI_row (row : List ByteArray) (h : row ≠ []) : listI 44 (rwL row) = (row, 0) := by rw [listI_is, listO_row row h]
def mS (s : ByteArray) : Nat := s.size + 1
def mR (r : List ByteArray) : Nat := (r.map mS).sum + 1
theorem row_small : ∀ (r : List ByteArray), r.length ≤ (r.map mS).sum ∧ (∀ p ∈ r, p.size ≤ (r.map mS).sum) ∧ ((r.map pL).map fun x => x.length + 1).sum ≤ 2 * (r.map mS).sum
  | [] => by simp
  | p :: r => by
    obtain ⟨h1, h2, h3⟩ := row_small r
    have hp : (pL p).length ≤ 2 * p.size := putL_len _
    have hm : mS p = p.size + 1 := rfl
    simp only [List.map_cons, List.sum_cons, List.length_cons]
    refine ⟨by omega, ?_, by omega⟩
    intro q hq
    rcases List.mem_cons.1 hq with rfl | hq
    · omega
    · have := h2 q hq; omega
theorem rw_len (r : List ByteArray) : (rwL r).length ≤ 2 * (r.map mS).sum := Nat.le_trans (jn_len 44 _) (row_small r).2.2
theorem rows_small : ∀ (fs : List (List ByteArray)), fs.length ≤ (fs.map mR).sum ∧ (∀ r ∈ fs, (r.map mS).sum ≤ (fs.map mR).sum) ∧ ((fs.map rwL).map fun x => x.length + 1).sum ≤ 2 * (fs.map mR).sum
  | [] => by simp
  | r :: fs => by
    obtain ⟨h1, h2, h3⟩ := rows_small fs
    have hr := rw_len r
    have hm : mR r = (r.map mS).sum + 1 := rfl
    simp only [List.map_cons, List.sum_cons, List.length_cons]
    refine ⟨by omega, ?_, by omega⟩
    intro q hq
    rcases List.mem_cons.1 hq with rfl | hq
    · omega
    · have := h2 q hq; omega
theorem wh_len (fs : List (List ByteArray)) : (whL fs).length ≤ 2 * (fs.map mR).sum := Nat.le_trans (jn_len 59 _) (rows_small fs).2.2
theorem sum_take (m : List ByteArray → Nat) : ∀ (i : Nat) (fs : List (List ByteArray)), ((fs.take i).map m).sum ≤ (fs.map m).sum
  | 0, fs => by simp
  | i + 1, [] => by simp
  | i + 1, r :: fs => by have := sum_take m i fs; simp only [List.take_succ_cons, List.map_cons, List.sum_cons]; omega
theorem sum_takeS (m : ByteArray → Nat) : ∀ (i : Nat) (fs : List ByteArray), ((fs.take i).map m).sum ≤ (fs.map m).sum
  | 0, fs => by simp
  | i + 1, [] => by simp
  | i + 1, r :: fs => by have := sum_takeS m i fs; simp only [List.take_succ_cons, List.map_cons, List.sum_cons]; omega
theorem put_loop (x : ByteArray) (hx : x.size ≤ 1073741824) : ∀ (n i : Nat) (o : List UInt8) (k : Nat), i + n = x.size → o.length ≤ 2 * i → n < k →
    calepinref04_Put.l0 k x (mkB o) (i : Int) = some (mkB (o ++ putL (x.data.toList.drop i)))
  | _, _, _, 0, _, _, hk => by omega
  | 0, i, o, k + 1, hn, ho, hk => by
    have hl : x.data.toList.length = x.size := rfl
    unfold calepinref04_Put.l0
    rw [if_neg (by omega), List.drop_of_length_le (by omega)]
    have : putL [] = [] := rfl
    rw [this, List.append_nil]
  | n + 1, i, o, k + 1, hn, ho, hk => by
    have hl : x.data.toList.length = x.size := rfl
    have hi : i < x.data.toList.length := by omega
    have w1 : wrap64 ((i : Int) + 1) = ((i + 1 : Nat) : Int) := by unfold wrap64; omega
    have he := ext_is x i (i + 1) (by omega)
    rw [take_one (Nat.le_refl i) hi, List.drop_of_length_le (show (x.data.toList.take i).length ≤ i by rw [List.length_take]; omega), List.nil_append] at he
    have step : ∀ e : List UInt8, e.length ≤ 2 → calepinref04_Put.l0 k x (mkB o ++ mkB e) ((i + 1 : Nat) : Int) = some (mkB (o ++ (e ++ putL (x.data.toList.drop (i + 1))))) := by
      intro e he2
      rw [mkB_app, put_loop x hx n (i + 1) (o ++ e) k (by omega) (by rw [List.length_append]; omega) (by omega), List.append_assoc]
    unfold calepinref04_Put.l0
    rw [if_pos (by omega), if_pos (by omega), bt_is x i hi, w1, List.drop_eq_getElem_cons hi, putL_cons]
    rw [Int.toNat_natCast, Int.toNat_natCast, he]
    have hos : (mkB o).size = o.length := rfl
    generalize x.data.toList[i] = c at *
    rcases escL_cases c with ⟨e, h⟩ | ⟨e, h⟩ | ⟨e, h⟩ | ⟨e, h⟩ | ⟨h10, h44, h59, h92, h⟩
    · rw [h]; subst e
      rw [if_neg (by decide), if_neg (by decide), if_neg (by decide), if_pos (by rfl), if_pos (by omega)]
      exact step [92, 110] (by simp)
    · rw [h]; subst e
      rw [if_neg (by decide), if_pos (by rfl), if_pos (by omega)]
      exact step [92, 44] (by simp)
    · rw [h]; subst e
      rw [if_neg (by decide), if_neg (by decide), if_pos (by rfl), if_pos (by omega)]
      exact step [92, 59] (by simp)
    · rw [h]; subst e
      rw [if_pos (by rfl), if_pos (by omega)]
      exact step [92, 92] (by simp)
    · rw [h]
      rw [if_neg (nnW_92 h92), if_neg (nnW_44 h44), if_neg (nnW_59 h59), if_neg (nnW_10 h10), if_pos (by omega), if_pos (by omega)]
      rw [if_pos (by show o.length + 1 ≤ 9223372036854775807; omega)]
      exact step [c] (by simp)

end Go.Proofs.Ytdjdbmopckhcdaa.PV
