/- A region that draws its order, by facts: what each operation's result is good for, told once an operation, not once an order. -/
import Derived.Test.YtjgialebelndmaaDoorWLast
import Derived.Test.YtjgialebelndmaaDoorWTab
import Derived.Test.YtjgialebelndmaaDoorWWords
namespace Go.Proofs.YtjgialebelndmaaDoor.Reg
open Go.RowKit Go.Proofs.YtjgialebelndmaaDoorW.PrintLast
section
variable {P : Program} {ops : Array Oper} {Q : Exit → Act → World → Prop}
theorem any_inv (Inv : Array Bool → Act → World → Prop)
    (hstep : ∀ i l a w, l.size = ops.size → Inv l a w → i ∈ Region.ready .any ops l → wpOp P ops Q i (fun a' w' => Inv (l.setIfInBounds i true) a' w') a w)
    (hdone : ∀ l a w, l.size = ops.size → Inv l a w → Region.ready .any ops l = [] → Q .normal a w) :
    ∀ fuel (l : Array Bool) a w, l.size = ops.size → l.toList.count false ≤ fuel → Inv l a w → wpAny P .any ops Q fuel l a w := by
  intro fuel
  induction fuel with
  | zero =>
    intro l a w hs hc hI
    have hr : Region.ready .any ops l = [] := by
      rw [List.eq_nil_iff_forall_not_mem]
      intro i hi
      obtain ⟨hl, oi, hoi, _⟩ := mem_ready.1 hi
      have hlt : i < l.size := by rw [hs]; exact (Array.getElem?_eq_some_iff.1 hoi).1
      have hf : l[i] = false := by simpa [Array.getD, hlt] using hl
      have hm : false ∈ l.toList := by rw [← hf]; simp
      have := List.count_pos_iff.2 hm
      omega
    exact ⟨hr, hdone l a w hs hI hr⟩
  | succ fuel ih =>
    intro l a w hs hc hI
    refine ⟨fun hr => hdone l a w hs hI hr, fun i hi => ?_⟩
    refine wpOp_mono (fun a' w' hI' => ih _ a' w' (by simpa using hs) ?_ hI') (hstep i l a w hs hI hi)
    obtain ⟨hl, oi, hoi, _⟩ := mem_ready.1 hi
    have hlt : i < l.size := by rw [hs]; exact (Array.getElem?_eq_some_iff.1 hoi).1
    have hf : l[i] = false := by simpa [Array.getD, hlt] using hl
    rw [Array.toList_setIfInBounds, List.count_set (by simpa using hlt)]
    have hm : false ∈ l.toList := by rw [← hf]; simp
    have hp := List.count_pos_iff.2 hm
    rw [show l.toList[i]'(by simpa using hlt) = false by simpa using hf]
    simp only [beq_self_eq_true, if_true]
    rw [if_neg (by decide)]
    omega
/-- a is a0 but for the slots that the region writes. -/
structure Agree (n : Nat) (dst : Nat → Nat) (a0 a : Act) : Prop where
  defers : a.defers = a0.defers
  size : a.tmps.size = a0.tmps.size
  old : ∀ s, (∀ i, i < n → dst i ≠ s) → a.tmps[s]?.getD undef = a0.tmps[s]?.getD undef
theorem put_get (a : Act) (d s : Nat) (v : Value) (hd : d < a.tmps.size) : (a.put (some d) v).tmps[s]?.getD undef = if d = s then v else a.tmps[s]?.getD undef := by
  show (a.tmps.setIfInBounds d v)[s]?.getD undef = _
  rw [Array.getElem?_setIfInBounds]
  by_cases h : d = s
  · subst h; simp [hd]
  · simp [h]
theorem Agree.put {n : Nat} {dst : Nat → Nat} {a0 a : Act} (h : Agree n dst a0 a) {i : Nat} (hi : i < n) (v : Value) (hd : dst i < a0.tmps.size) : Agree n dst a0 (a.put (some (dst i)) v) :=
  ⟨h.defers, by show (a.tmps.setIfInBounds (dst i) v).size = _; rw [Array.size_setIfInBounds]; exact h.size, fun s hs => by
    rw [put_get _ _ _ _ (by rw [h.size]; exact hd), if_neg (hs i hi)]; exact h.old s hs⟩
theorem region_facts {id n : Nat} {a0 : Act} {w0 : World} (dst : Nat → Nat) (F : Nat → Value → World → Prop) (nd : List (List Nat)) (hm : P.follows .mixedOrders = true) (hn : ops.size = n)
    (hinj : ∀ i j, i < n → j < n → dst i = dst j → i = j) (hin : ∀ i, i < n → dst i < a0.tmps.size)
    (hmono : ∀ j v w w', j < n → F j v w → Below w.heap.size w w' → F j v w')
    (hnd : (List.range n).map (fun i => ((ops[i]?).map (needsOf .any)).getD []) = nd) (hlt : (List.range n).all (fun i => (nd.getD i []).all (· < i)) = true)
    (hstep : ∀ i a w, i < n → Agree n dst a0 a → (∀ j, j ∈ nd.getD i [] → F j (a.tmps[dst j]?.getD undef) w) → Below w0.heap.size w0 w →
      wpOp P ops Q i (fun a' w' => ∃ v, a' = a.put (some (dst i)) v ∧ F i v w' ∧ Below w.heap.size w w') a w)
    (hdone : ∀ a w, Agree n dst a0 a → (∀ i, i < n → F i (a.tmps[dst i]?.getD undef) w) → Below w0.heap.size w0 w → Q .normal a w) :
    (Code.region id ops true).wp P Q a0 w0 := by
  refine wp_region_any hm ?_
  have need : ∀ i o, ops[i]? = some o → needsOf .any o = nd.getD i [] := by
    intro i o ho
    have hi : i < n := by rw [← hn]; exact (Array.getElem?_eq_some_iff.1 ho).1
    rw [← hnd, List.getD_eq_getElem?_getD, List.getElem?_map, List.getElem?_range hi]
    simp [ho]
  have hw0 : Below w0.heap.size w0 { w0 with drawn := w0.drawn + 1 } := ⟨rfl, rfl, rfl, Nat.le_refl _, fun _ _ => rfl⟩
  refine any_inv (fun l a w => Agree n dst a0 a ∧ (∀ i, i < n → l.getD i false = true → F i (a.tmps[dst i]?.getD undef) w) ∧ Below w0.heap.size w0 w) ?_ ?_ _ _ _ _ (by simp) (by simp) ⟨⟨rfl, rfl, fun _ _ => rfl⟩, fun i hi h => ?_, hw0⟩
  · rintro i l a w hs ⟨hA, hL, hB⟩ hi
    obtain ⟨hl, oi, hoi, hall⟩ := mem_ready.1 hi
    have hin' : i < n := by rw [← hn]; exact (Array.getElem?_eq_some_iff.1 hoi).1
    have hN : ∀ j, j ∈ nd.getD i [] → F j (a.tmps[dst j]?.getD undef) w := by
      intro j hj
      rw [← need i oi hoi] at hj
      unfold needsOf at hj
      obtain ⟨e, he, rfl⟩ := List.mem_map.1 hj
      obtain ⟨he1, he2⟩ := List.mem_filter.1 he
      have hq := hall e (by simpa using he1) he2
      have hjn : e.on < n := by
        have h1 : l.getD e.on false = true := hq
        by_cases h2 : e.on < l.size
        · rw [← hn, ← hs]; exact h2
        · simp [Array.getD, h2] at h1
      exact hL e.on hjn hq
    refine wpOp_mono ?_ (hstep i a w hin' hA hN hB)
    rintro a' w' ⟨v, rfl, hF, hb⟩
    have hd := hin i hin'
    refine ⟨hA.put hin' v hd, fun j hj h => ?_, hB.trans (hb.mono hB.size)⟩
    rw [put_get _ _ _ _ (by rw [hA.size]; exact hd)]
    by_cases e : i = j
    · subst e; rw [if_pos rfl]; exact hF
    · rw [if_neg (fun h' => e (hinj i j hin' hj h'))]
      rw [getD_set_ne false e] at h
      exact hmono j _ _ _ hj (hL j hj h) hb
  · rintro l a w hs ⟨hA, hL, hB⟩ hr
    refine hdone a w hA (fun i hi => ?_) hB
    have all : ∀ k, ∀ i, i < k → i < n → l.getD i false = true := by
      intro k
      induction k with
      | zero => intro i h; omega
      | succ k ih =>
        intro i hik hi
        by_cases hl : l.getD i false = true
        · exact hl
        · exfalso
          have hilt : i < l.size := by rw [hs, hn]; exact hi
          have hl2 : l.getD i true = false := by simpa [Array.getD, hilt] using hl
          have hmem : i ∈ Region.ready .any ops l := by
            refine mem_ready.2 ⟨hl2, ops[i]'(by rw [hn]; exact hi), by simp, ?_⟩
            intro e he hb
            have h1 : e.on ∈ nd.getD i [] := by
              rw [← need i (ops[i]'(by rw [hn]; exact hi)) (by simp)]
              unfold needsOf
              exact List.mem_map.2 ⟨e, List.mem_filter.2 ⟨by simpa using he, hb⟩, rfl⟩
            have h2 := List.all_eq_true.1 hlt i (List.mem_range.2 hi)
            have h3 := List.all_eq_true.1 h2 e.on h1
            have h4 : e.on < i := by simpa using h3
            exact ih e.on (by omega) (by omega)
          rw [hr] at hmem
          cases hmem
    exact hL i hi (all (i + 1) i (by omega) hi)
  · have : (Array.replicate ops.size false).getD i false = false := by simp [Array.getD]
    rw [this] at h
    cases h
/-- a is a0 but for the slots that the region writes (an operation may write none). -/
structure AgreeO (n : Nat) (dst : Nat → Option Nat) (a0 a : Act) : Prop where
  defers : a.defers = a0.defers
  size : a.tmps.size = a0.tmps.size
  old : ∀ s, (∀ i, i < n → dst i ≠ some s) → a.tmps[s]?.getD undef = a0.tmps[s]?.getD undef
def slotO (dst : Nat → Option Nat) (a : Act) (i : Nat) : Value := match dst i with | some d => a.tmps[d]?.getD undef | none => undef
def valO (dst : Nat → Option Nat) (i : Nat) (v : Value) : Value := match dst i with | some _ => v | none => undef
theorem AgreeO.put {n : Nat} {dst : Nat → Option Nat} {a0 a : Act} (h : AgreeO n dst a0 a) {i : Nat} (hi : i < n) (v : Value) (hd : ∀ d, dst i = some d → d < a0.tmps.size) : AgreeO n dst a0 (a.put (dst i) v) := by
  cases e : dst i with
  | none => exact ⟨h.defers, h.size, h.old⟩
  | some d => exact ⟨h.defers, by show (a.tmps.setIfInBounds d v).size = _; rw [Array.size_setIfInBounds]; exact h.size, fun s hs => by
      rw [put_get _ _ _ _ (by rw [h.size]; exact hd d e), if_neg (fun he => hs i hi (by rw [e, he]))]; exact h.old s hs⟩
/-- The frame behind the region, written out: a0's, with the slots that were written. -/
def foldO (dst : Nat → Option Nat) (a : Act) : List Nat → Act → Act
  | [], b => b
  | i :: l, b => foldO dst a l (b.put (dst i) (slotO dst a i))
theorem foldO_frame {dst : Nat → Option Nat} {a : Act} : ∀ (l : List Nat) (b : Act), (∀ i, i ∈ l → ∀ d, dst i = some d → d < b.tmps.size) →
    (foldO dst a l b).defers = b.defers ∧ (foldO dst a l b).tmps.size = b.tmps.size ∧ ∀ s : Nat, (foldO dst a l b).tmps[s]?.getD undef = if (∃ i, i ∈ l ∧ dst i = some s) then a.tmps[s]?.getD undef else b.tmps[s]?.getD undef := by
  intro l
  induction l with
  | nil => intro b _; exact ⟨rfl, rfl, fun s => by simp [foldO]⟩
  | cons i l ih =>
    intro b hb
    have hsz : (b.put (dst i) (slotO dst a i)).tmps.size = b.tmps.size := by
      cases e : dst i with
      | none => rfl
      | some d => show (b.tmps.setIfInBounds d _).size = _; rw [Array.size_setIfInBounds]
    have hdf : (b.put (dst i) (slotO dst a i)).defers = b.defers := by
      cases e : dst i with
      | none => rfl
      | some d => rfl
    obtain ⟨h1, h2, h3⟩ := ih (b.put (dst i) (slotO dst a i)) (fun j hj d hd => by rw [hsz]; exact hb j (List.mem_cons_of_mem _ hj) d hd)
    refine ⟨h1.trans hdf, h2.trans hsz, fun s => ?_⟩
    show (foldO dst a l _).tmps[s]?.getD undef = _
    rw [h3 s]
    by_cases e1 : ∃ j, j ∈ l ∧ dst j = some s
    · rw [if_pos e1, if_pos ⟨e1.choose, List.mem_cons_of_mem _ e1.choose_spec.1, e1.choose_spec.2⟩]
    · rw [if_neg e1]
      cases e : dst i with
      | none =>
        rw [if_neg]
        · rfl
        · rintro ⟨j, hj, hs⟩
          rcases List.mem_cons.1 hj with rfl | hj
          · rw [e] at hs; cases hs
          · exact e1 ⟨j, hj, hs⟩
      | some d =>
        rw [put_get _ _ _ _ (hb i List.mem_cons_self d e)]
        by_cases e2 : d = s
        · subst e2
          rw [if_pos rfl, if_pos ⟨i, List.mem_cons_self, e⟩]
          simp [slotO, e]
        · rw [if_neg e2, if_neg]
          rintro ⟨j, hj, hs⟩
          rcases List.mem_cons.1 hj with rfl | hj
          · rw [e] at hs; exact e2 (Option.some.inj hs)
          · exact e1 ⟨j, hj, hs⟩
theorem act_ext {x y : Act} (h1 : x.tmps = y.tmps) (h2 : x.defers = y.defers) : x = y := by
  cases x
  cases y
  cases h1
  cases h2
  rfl
theorem AgreeO.frame {n : Nat} {dst : Nat → Option Nat} {a0 a : Act} (h : AgreeO n dst a0 a) (hin : ∀ i, i < n → ∀ d, dst i = some d → d < a0.tmps.size) : a = foldO dst a (List.range n) a0 := by
  obtain ⟨h1, h2, h3⟩ := foldO_frame (dst := dst) (a := a) (List.range n) a0 (fun i hi => hin i (List.mem_range.1 hi))
  have key : ∀ s : Nat, a.tmps[s]?.getD undef = (foldO dst a (List.range n) a0).tmps[s]?.getD undef := by
    intro s
    rw [h3 s]
    by_cases e : ∃ i, i ∈ List.range n ∧ dst i = some s
    · rw [if_pos e]
    · rw [if_neg e]
      exact h.old s (fun i hi hs => e ⟨i, List.mem_range.2 hi, hs⟩)
  have ht : a.tmps = (foldO dst a (List.range n) a0).tmps := by
    refine Array.ext (by rw [h.size, h2]) (fun i hi1 hi2 => ?_)
    have := key i
    simpa [hi1, hi2] using this
  have hd : a.defers = (foldO dst a (List.range n) a0).defers := by rw [h.defers, h1]
  exact act_ext ht hd
/-- A region that draws its order, whose operations may write: what each operation's result is good for (F), till an operation that says it ends it (kill); what is good at the beginning (I), till killI. -/
theorem region_held {id n : Nat} {a0 : Act} {w0 : World} (dst : Nat → Option Nat) (F : Nat → Value → World → Prop) (I : World → Prop) (nd nc us : List (List Nat)) (kill : Nat → Nat → Bool) (killI useI : Nat → Bool)
    (hm : P.follows .mixedOrders = true) (hn : ops.size = n)
    (hinj' : (List.range n).all (fun i => (List.range n).all (fun j => i == j || dst i == none || !(dst i == dst j))) = true) (hin : ∀ i, i < n → ∀ d, dst i = some d → d < a0.tmps.size)
    (hmono : ∀ j v w w', j < n → F j v w → Below w.heap.size w w' → F j v w') (hmonoI : ∀ w w', I w → Below w.heap.size w w' → I w') (hI0 : I w0)
    (hnd : (List.range n).map (fun i => ((ops[i]?).map (needsOf .any)).getD []) = nd) (hlt : (List.range n).all (fun i => (nd.getD i []).all (· < i)) = true)
    (hnc : (List.range n).all (fun i => (nc.getD i []).all (fun j => (nd.getD i []).any (fun m => m == j || (nc.getD m []).contains j))) = true)
    (hus : (List.range n).all (fun i => (us.getD i []).all (fun j => (nd.getD i []).contains j)) = true)
    (hkill : (List.range n).all (fun h => (List.range n).all (fun j => !kill h j || (List.range n).all (fun i => !(us.getD i []).contains j || i == h || (nc.getD h []).contains i))) = true)
    (hkillI : (List.range n).all (fun h => !killI h || (List.range n).all (fun i => !useI i || i == h || (nc.getD h []).contains i)) = true)
    (last : Nat) (hlast : last < n) (hkl : (List.range n).all (fun h => !kill h last) = true)
    (hstep : ∀ i a w, i < n → AgreeO n dst a0 a → (∀ j, j ∈ us.getD i [] → F j (slotO dst a j) w) → (useI i = true → I w) →
      wpOp P ops Q i (fun a' w' => ∃ v, a' = a.put (dst i) v ∧ F i (valO dst i v) w' ∧ (Below w.heap.size w w' ∨ ((∀ j u, j < n → j ≠ i → kill i j = false → (nc.getD j []).contains i = false → F j u w → F j u w') ∧ (killI i = false → I w → I w')))) a w)
    (hdone : ∀ a w, AgreeO n dst a0 a → F last (slotO dst a last) w → Q .normal a w) :
    (Code.region id ops true).wp P Q a0 w0 := by
  have hinj : ∀ i j, i < n → j < n → ∀ d, dst i = some d → dst j = some d → i = j := by
    intro i j hi hj d h1 h2
    have := List.all_eq_true.1 (List.all_eq_true.1 hinj' i (List.mem_range.2 hi)) j (List.mem_range.2 hj)
    simpa [h1, h2] using this
  refine wp_region_any hm ?_
  have need : ∀ i o, ops[i]? = some o → needsOf .any o = nd.getD i [] := by
    intro i o ho
    have hi : i < n := by rw [← hn]; exact (Array.getElem?_eq_some_iff.1 ho).1
    rw [← hnd, List.getD_eq_getElem?_getD, List.getElem?_map, List.getElem?_range hi]
    simp [ho]
  have hw0 : Below w0.heap.size w0 { w0 with drawn := w0.drawn + 1 } := ⟨rfl, rfl, rfl, Nat.le_refl _, fun _ _ => rfl⟩
  have closed : ∀ (l : Array Bool), (∀ i, i < n → l.getD i false = true → ∀ j, j ∈ nd.getD i [] → l.getD j false = true) → ∀ k i, i < k → i < n → l.getD i false = true → ∀ j, j ∈ nc.getD i [] → l.getD j false = true := by
    intro l hcl k
    induction k with
    | zero => intro i h; omega
    | succ k ih =>
      intro i hik hi hl j hj
      have h1 := List.all_eq_true.1 hnc i (List.mem_range.2 hi)
      have h2 := List.all_eq_true.1 h1 j hj
      obtain ⟨m, hm1, hm2⟩ := List.any_eq_true.1 h2
      have hmt := hcl i hi hl m hm1
      have hlt1 := List.all_eq_true.1 (List.all_eq_true.1 hlt i (List.mem_range.2 hi)) m hm1
      have hmi : m < i := by simpa using hlt1
      rcases Bool.or_eq_true_iff.1 hm2 with h | h
      · have : m = j := by simpa using h
        exact this ▸ hmt
      · exact ih m (by omega) (by omega) hmt j (by simpa using h)
  refine any_inv (fun l a w => AgreeO n dst a0 a ∧ (∀ i, i < n → l.getD i false = true → ∀ j, j ∈ nd.getD i [] → l.getD j false = true) ∧
      (∀ j, j < n → l.getD j false = true → (∀ h, h < n → l.getD h false = true → kill h j = false) → F j (slotO dst a j) w) ∧ ((∀ h, h < n → l.getD h false = true → killI h = false) → I w)) ?_ ?_ _ _ _ _ (by simp) (by simp)
    ⟨⟨rfl, rfl, fun _ _ => rfl⟩, fun i hi h => ?_, fun i hi h => ?_, fun _ => hmonoI _ _ hI0 hw0⟩
  · rintro i l a w hs ⟨hA, hC, hL, hI⟩ hi
    obtain ⟨hl, oi, hoi, hall⟩ := mem_ready.1 hi
    have hin' : i < n := by rw [← hn]; exact (Array.getElem?_eq_some_iff.1 hoi).1
    have hnot : ∀ h, l.getD h false = true → h ≠ i := by
      rintro h h1 rfl
      have hlt' : h < l.size := by rw [hs, hn]; exact hin'
      have e1 : l[h] = false := by simpa [Array.getD, hlt'] using hl
      have e2 : l[h] = true := by simpa [Array.getD, hlt'] using h1
      rw [e1] at e2
      cases e2
    have hdn : ∀ j, j ∈ nd.getD i [] → l.getD j false = true ∧ j < n := by
      intro j hj
      rw [← need i oi hoi] at hj
      unfold needsOf at hj
      obtain ⟨e, he, rfl⟩ := List.mem_map.1 hj
      obtain ⟨he1, he2⟩ := List.mem_filter.1 he
      have hq := hall e (by simpa using he1) he2
      refine ⟨hq, ?_⟩
      have h1 : l.getD e.on false = true := hq
      by_cases h2 : e.on < l.size
      · rw [← hn, ← hs]; exact h2
      · simp [Array.getD, h2] at h1
    have hpre : ∀ h, h < n → l.getD h false = true → ¬ (nc.getD h []).contains i = true := by
      intro h hh h1 h2
      exact hnot i (closed l hC (h + 1) h (by omega) hh h1 i (by simpa using h2)) rfl
    have hN : ∀ j, j ∈ us.getD i [] → F j (slotO dst a j) w := by
      intro j hju
      have hj : j ∈ nd.getD i [] := by
        have b1 := List.all_eq_true.1 (List.all_eq_true.1 hus i (List.mem_range.2 hin')) j hju
        simpa using b1
      refine hL j (hdn j hj).2 (hdn j hj).1 (fun h hh h1 => ?_)
      have a1 := List.all_eq_true.1 (List.all_eq_true.1 hkill h (List.mem_range.2 hh)) j (List.mem_range.2 (hdn j hj).2)
      rcases Bool.or_eq_true_iff.1 a1 with a2 | a2
      · simpa using a2
      · have a3 := List.all_eq_true.1 a2 i (List.mem_range.2 hin')
        rcases Bool.or_eq_true_iff.1 a3 with a4 | a4
        · rcases Bool.or_eq_true_iff.1 a4 with a5 | a5
          · simp at a5
            exact absurd hju a5
          · exact absurd (by simpa using a5 : i = h).symm (hnot h h1)
        · exact absurd a4 (hpre h hh h1)
    have hU : useI i = true → I w := by
      intro hu
      refine hI (fun h hh h1 => ?_)
      have a1 := List.all_eq_true.1 hkillI h (List.mem_range.2 hh)
      rcases Bool.or_eq_true_iff.1 a1 with a2 | a2
      · simpa using a2
      · have a3 := List.all_eq_true.1 a2 i (List.mem_range.2 hin')
        rcases Bool.or_eq_true_iff.1 a3 with a4 | a4
        · rcases Bool.or_eq_true_iff.1 a4 with a5 | a5
          · simp [hu] at a5
          · exact absurd (by simpa using a5 : i = h).symm (hnot h h1)
        · exact absurd a4 (hpre h hh h1)
    refine wpOp_mono ?_ (hstep i a w hin' hA hN hU)
    rintro a' w' ⟨v, rfl, hF, hb⟩
    have hsl : ∀ j, j < n → slotO dst (a.put (dst i) v) j = if i = j then valO dst i v else slotO dst a j := by
      intro j hj
      by_cases e : i = j
      · subst e
        rw [if_pos rfl]
        unfold slotO valO
        cases e : dst i with
        | none => rfl
        | some d => simp only []; rw [put_get _ _ _ _ (by rw [hA.size]; exact hin i hin' d e), if_pos rfl]
      · rw [if_neg e]
        unfold slotO
        cases e1 : dst j with
        | none => rfl
        | some d =>
          cases e2 : dst i with
          | none => rfl
          | some d2 => simp only []; rw [put_get _ _ _ _ (by rw [hA.size]; exact hin i hin' d2 e2), if_neg (fun he => e (hinj i j hin' hj d (by rw [e2, he]) e1))]
    refine ⟨hA.put hin' v (hin i hin'), fun h hh h1 j hj => ?_, fun j hj h1 hk => ?_, fun hk => ?_⟩
    · by_cases e : i = h
      · subst e
        have := (hdn j hj).1
        by_cases e2 : i = j
        · subst e2; exact h1
        · rw [getD_set_ne false e2]; exact this
      · rw [getD_set_ne false e] at h1
        have := hC h hh h1 j hj
        by_cases e2 : i = j
        · exact absurd this (fun hx => hnot j hx e2.symm)
        · rw [getD_set_ne false e2]; exact this
    · have hki : ∀ h, h < n → l.getD h false = true → kill h j = false := by
        intro h hh h2
        refine hk h hh ?_
        by_cases e2 : i = h
        · exact absurd h2 (fun hx => hnot h hx e2.symm)
        · rw [getD_set_ne false e2]; exact h2
      rw [hsl j hj]
      by_cases e : i = j
      · subst e; rw [if_pos rfl]; exact hF
      · rw [if_neg e]
        rw [getD_set_ne false e] at h1
        have hold := hL j hj h1 hki
        rcases hb with hb | hb
        · exact hmono j _ _ _ hj hold hb
        · refine hb.1 j _ hj (fun e' => e e'.symm) (hk i hin' ?_) (by
            cases hcc : (nc.getD j []).contains i with
            | false => rfl
            | true => exact absurd hcc (hpre j hj h1)) hold
          have hlt' : i < l.size := by rw [hs, hn]; exact hin'
          simp [Array.getD, hlt']
    · have hki : ∀ h, h < n → l.getD h false = true → killI h = false := by
        intro h hh h2
        refine hk h hh ?_
        by_cases e2 : i = h
        · exact absurd h2 (fun hx => hnot h hx e2.symm)
        · rw [getD_set_ne false e2]; exact h2
      have hold := hI hki
      rcases hb with hb | hb
      · exact hmonoI _ _ hold hb
      · refine hb.2 (hk i hin' ?_) hold
        have hlt' : i < l.size := by rw [hs, hn]; exact hin'
        simp [Array.getD, hlt']
  · rintro l a w hs ⟨hA, hC, hL, hI⟩ hr
    have all : ∀ k, ∀ i, i < k → i < n → l.getD i false = true := by
      intro k
      induction k with
      | zero => intro i h; omega
      | succ k ih =>
        intro i hik hi
        by_cases hl : l.getD i false = true
        · exact hl
        · exfalso
          have hilt : i < l.size := by rw [hs, hn]; exact hi
          have hl2 : l.getD i true = false := by simpa [Array.getD, hilt] using hl
          have hmem : i ∈ Region.ready .any ops l := by
            refine mem_ready.2 ⟨hl2, ops[i]'(by rw [hn]; exact hi), by simp, ?_⟩
            intro e he hb
            have h1 : e.on ∈ nd.getD i [] := by
              rw [← need i (ops[i]'(by rw [hn]; exact hi)) (by simp)]
              unfold needsOf
              exact List.mem_map.2 ⟨e, List.mem_filter.2 ⟨by simpa using he, hb⟩, rfl⟩
            have h2 := List.all_eq_true.1 hlt i (List.mem_range.2 hi)
            have h3 := List.all_eq_true.1 h2 e.on h1
            have h4 : e.on < i := by simpa using h3
            exact ih e.on (by omega) (by omega)
          rw [hr] at hmem
          cases hmem
    refine hdone a w hA (hL last hlast (all (last + 1) last (by omega) hlast) (fun h hh _ => ?_))
    have := List.all_eq_true.1 hkl h (List.mem_range.2 hh)
    simpa using this
  · have : (Array.replicate ops.size false).getD i false = false := by simp [Array.getD]
    rw [this] at h
    cases h
  · have : (Array.replicate ops.size false).getD i false = false := by simp [Array.getD]
    rw [this] at h
    cases h
theorem wpOp_plain {i : Nat} {o : Oper} {a : Act} {w : World} {K : Act → World → Prop} (h : ops[i]? = some o) (hg : o.guard = none) (hh : o.wp P a w K Q) : wpOp P ops Q i K a w := by
  unfold wpOp
  rw [h]
  simp only [Region.wanted, hg, if_true]
  exact .inl hh
theorem wpOp_guarded {i g d : Nat} {b : Bool} {o : Oper} {a : Act} {w : World} {K : Act → World → Prop} (h : ops[i]? = some o) (hg : o.guard = some (g, b)) (hd : (ops[g]?).bind (·.dst) = some d) (hv : a.tmps[d]?.getD undef = .bool b) (hh : o.wp P a w K Q) : wpOp P ops Q i K a w := by
  unfold wpOp
  rw [h]
  have hy : yielded ops a.tmps g = some b := by
    unfold yielded
    rw [hd]
    cases e : a.tmps[d]? with
    | none => rw [e] at hv; cases hv
    | some x => rw [e] at hv; have hx : x = .bool b := hv; simp [e, hx]
  have hw : Region.wanted o (yielded ops a.tmps) = true := by simp [Region.wanted, hg, hy]
  simp only [hw, if_true]
  exact .inl hh
end
end Go.Proofs.YtjgialebelndmaaDoor.Reg
