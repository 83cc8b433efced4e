/- A region that draws its order, by facts: what each operation's result is good for, told once an operation, not once an order. -/
import Derived.Test.YtppjhekjcoogoaaWLast
import Derived.Test.YtppjhekjcoogoaaWTab
import Derived.Test.YtppjhekjcoogoaaWWords
namespace Go.Proofs.Ytppjhekjcoogoaa.Reg
open Go.RowKit Go.Proofs.YtppjhekjcoogoaaW.PrintLast
section
variable {P : Program} {ops : Array Oper} {Q : Exit → Act → World → Prop}
theorem any_inv (Inv : Array Bool → Act → World → Prop)
    (hstep : ∀ i l a w, l.size = ops.size → Inv l a w → i ∈ Region.ready .any ops l → wpOp P ops Q i (fun a' w' => Inv (l.setIfInBounds i true) a' w') a w)
    (hdone : ∀ l a w, l.size = ops.size → Inv l a w → Region.ready .any ops l = [] → Q .normal a w) :
    ∀ fuel (l : Array Bool) a w, l.size = ops.size → l.toList.count false ≤ fuel → Inv l a w → wpAny P .any ops Q fuel l a w := by
  intro fuel
  induction fuel with
  | zero =>
    intro l a w hs hc hI
    have hr : Region.ready .any ops l = [] := by
      rw [List.eq_nil_iff_forall_not_mem]
      intro i hi
      obtain ⟨hl, oi, hoi, _⟩ := mem_ready.1 hi
      have hlt : i < l.size := by rw [hs]; exact (Array.getElem?_eq_some_iff.1 hoi).1
      have hf : l[i] = false := by simpa [Array.getD, hlt] using hl
      have hm : false ∈ l.toList := by rw [← hf]; simp
      have := List.count_pos_iff.2 hm
      omega
    exact ⟨hr, hdone l a w hs hI hr⟩
  | succ fuel ih =>
    intro l a w hs hc hI
    refine ⟨fun hr => hdone l a w hs hI hr, fun i hi => ?_⟩
    refine wpOp_mono (fun a' w' hI' => ih _ a' w' (by simpa using hs) ?_ hI') (hstep i l a w hs hI hi)
    obtain ⟨hl, oi, hoi, _⟩ := mem_ready.1 hi
    have hlt : i < l.size := by rw [hs]; exact (Array.getElem?_eq_some_iff.1 hoi).1
    have hf : l[i] = false := by simpa [Array.getD, hlt] using hl
    rw [Array.toList_setIfInBounds, List.count_set (by simpa using hlt)]
    have hm : false ∈ l.toList := by rw [← hf]; simp
    have hp := List.count_pos_iff.2 hm
    rw [show l.toList[i]'(by simpa using hlt) = false by simpa using hf]
    simp only [beq_self_eq_true, if_true]
    rw [if_neg (by decide)]
    omega
/-- a is a0 but for the slots that the region writes. -/
structure Agree (n : Nat) (dst : Nat → Nat) (a0 a : Act) : Prop where
  defers : a.defers = a0.defers
  size : a.tmps.size = a0.tmps.size
  old : ∀ s, (∀ i, i < n → dst i ≠ s) → a.tmps[s]?.getD undef = a0.tmps[s]?.getD undef
theorem put_get (a : Act) (d s : Nat) (v : Value) (hd : d < a.tmps.size) : (a.put (some d) v).tmps[s]?.getD undef = if d = s then v else a.tmps[s]?.getD undef := by
  show (a.tmps.setIfInBounds d v)[s]?.getD undef = _
  rw [Array.getElem?_setIfInBounds]
  by_cases h : d = s
  · subst h; simp [hd]
  · simp [h]
theorem Agree.put {n : Nat} {dst : Nat → Nat} {a0 a : Act} (h : Agree n dst a0 a) {i : Nat} (hi : i < n) (v : Value) (hd : dst i < a0.tmps.size) : Agree n dst a0 (a.put (some (dst i)) v) :=
  ⟨h.defers, by show (a.tmps.setIfInBounds (dst i) v).size = _; rw [Array.size_setIfInBounds]; exact h.size, fun s hs => by
    rw [put_get _ _ _ _ (by rw [h.size]; exact hd), if_neg (hs i hi)]; exact h.old s hs⟩
theorem region_facts {id n : Nat} {a0 : Act} {w0 : World} (dst : Nat → Nat) (F : Nat → Value → World → Prop) (nd : List (List Nat)) (hm : P.follows .mixedOrders = true) (hn : ops.size = n)
    (hinj : ∀ i j, i < n → j < n → dst i = dst j → i = j) (hin : ∀ i, i < n → dst i < a0.tmps.size)
    (hmono : ∀ j v w w', j < n → F j v w → Below w.heap.size w w' → F j v w')
    (hnd : (List.range n).map (fun i => ((ops[i]?).map (needsOf .any)).getD []) = nd) (hlt : (List.range n).all (fun i => (nd.getD i []).all (· < i)) = true)
    (hstep : ∀ i a w, i < n → Agree n dst a0 a → (∀ j, j ∈ nd.getD i [] → F j (a.tmps[dst j]?.getD undef) w) → Below w0.heap.size w0 w →
      wpOp P ops Q i (fun a' w' => ∃ v, a' = a.put (some (dst i)) v ∧ F i v w' ∧ Below w.heap.size w w') a w)
    (hdone : ∀ a w, Agree n dst a0 a → (∀ i, i < n → F i (a.tmps[dst i]?.getD undef) w) → Below w0.heap.size w0 w → Q .normal a w) :
    (Code.region id ops true).wp P Q a0 w0 := by
  refine wp_region_any hm ?_
  have need : ∀ i o, ops[i]? = some o → needsOf .any o = nd.getD i [] := by
    intro i o ho
    have hi : i < n := by rw [← hn]; exact (Array.getElem?_eq_some_iff.1 ho).1
    rw [← hnd, List.getD_eq_getElem?_getD, List.getElem?_map, List.getElem?_range hi]
    simp [ho]
  have hw0 : Below w0.heap.size w0 { w0 with drawn := w0.drawn + 1 } := ⟨rfl, rfl, rfl, Nat.le_refl _, fun _ _ => rfl⟩
  refine any_inv (fun l a w => Agree n dst a0 a ∧ (∀ i, i < n → l.getD i false = true → F i (a.tmps[dst i]?.getD undef) w) ∧ Below w0.heap.size w0 w) ?_ ?_ _ _ _ _ (by simp) (by simp) ⟨⟨rfl, rfl, fun _ _ => rfl⟩, fun i hi h => ?_, hw0⟩
  · rintro i l a w hs ⟨hA, hL, hB⟩ hi
    obtain ⟨hl, oi, hoi, hall⟩ := mem_ready.1 hi
    have hin' : i < n := by rw [← hn]; exact (Array.getElem?_eq_some_iff.1 hoi).1
    have hN : ∀ j, j ∈ nd.getD i [] → F j (a.tmps[dst j]?.getD undef) w := by
      intro j hj
      rw [← need i oi hoi] at hj
      unfold needsOf at hj
      obtain ⟨e, he, rfl⟩ := List.mem_map.1 hj
      obtain ⟨he1, he2⟩ := List.mem_filter.1 he
      have hq := hall e (by simpa using he1) he2
      have hjn : e.on < n := by
        have h1 : l.getD e.on false = true := hq
        by_cases h2 : e.on < l.size
        · rw [← hn, ← hs]; exact h2
        · simp [Array.getD, h2] at h1
      exact hL e.on hjn hq
    refine wpOp_mono ?_ (hstep i a w hin' hA hN hB)
    rintro a' w' ⟨v, rfl, hF, hb⟩
    have hd := hin i hin'
    refine ⟨hA.put hin' v hd, fun j hj h => ?_, hB.trans (hb.mono hB.size)⟩
    rw [put_get _ _ _ _ (by rw [hA.size]; exact hd)]
    by_cases e : i = j
    · subst e; rw [if_pos rfl]; exact hF
    · rw [if_neg (fun h' => e (hinj i j hin' hj h'))]
      rw [getD_set_ne false e] at h
      exact hmono j _ _ _ hj (hL j hj h) hb
  · rintro l a w hs ⟨hA, hL, hB⟩ hr
    refine hdone a w hA (fun i hi => ?_) hB
    have all : ∀ k, ∀ i, i < k → i < n → l.getD i false = true := by
      intro k
      induction k with
      | zero => intro i h; omega
      | succ k ih =>
        intro i hik hi
        by_cases hl : l.getD i false = true
        · exact hl
        · exfalso
          have hilt : i < l.size := by rw [hs, hn]; exact hi
          have hl2 : l.getD i true = false := by simpa [Array.getD, hilt] using hl
          have hmem : i ∈ Region.ready .any ops l := by
            refine mem_ready.2 ⟨hl2, ops[i]'(by rw [hn]; exact hi), by simp, ?_⟩
            intro e he hb
            have h1 : e.on ∈ nd.getD i [] := by
              rw [← need i (ops[i]'(by rw [hn]; exact hi)) (by simp)]
              unfold needsOf
              exact List.mem_map.2 ⟨e, List.mem_filter.2 ⟨by simpa using he, hb⟩, rfl⟩
            have h2 := List.all_eq_true.1 hlt i (List.mem_range.2 hi)
            have h3 := List.all_eq_true.1 h2 e.on h1
            have h4 : e.on < i := by simpa using h3
            exact ih e.on (by omega) (by omega)
          rw [hr] at hmem
          cases hmem
    exact hL i hi (all (i + 1) i (by omega) hi)
  · have : (Array.replicate ops.size false).getD i false = false := by simp [Array.getD]
    rw [this] at h
    cases h
theorem wpOp_plain {i : Nat} {o : Oper} {a : Act} {w : World} {K : Act → World → Prop} (h : ops[i]? = some o) (hg : o.guard = none) (hh : o.wp P a w K Q) : wpOp P ops Q i K a w := by
  unfold wpOp
  rw [h]
  simp only [Region.wanted, hg, if_true]
  exact .inl hh
theorem wpOp_guarded {i g d : Nat} {b : Bool} {o : Oper} {a : Act} {w : World} {K : Act → World → Prop} (h : ops[i]? = some o) (hg : o.guard = some (g, b)) (hd : (ops[g]?).bind (·.dst) = some d) (hv : a.tmps[d]?.getD undef = .bool b) (hh : o.wp P a w K Q) : wpOp P ops Q i K a w := by
  unfold wpOp
  rw [h]
  have hy : yielded ops a.tmps g = some b := by
    unfold yielded
    rw [hd]
    cases e : a.tmps[d]? with
    | none => rw [e] at hv; cases hv
    | some x => rw [e] at hv; have hx : x = .bool b := hv; simp [e, hx]
  have hw : Region.wanted o (yielded ops a.tmps) = true := by simp [Region.wanted, hg, hy]
  simp only [hw, if_true]
  exact .inl hh
end
end Go.Proofs.Ytppjhekjcoogoaa.Reg
