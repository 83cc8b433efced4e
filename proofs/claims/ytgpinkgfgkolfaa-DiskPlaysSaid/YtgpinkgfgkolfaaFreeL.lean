/- Free room, plainly. -/
import Derived.Test.YtgpinkgfgkolfaaCont
import Derived.Maps.RangeWalk
namespace Go.Proofs.Ytgpinkgfgkolfaa.PD
open Go.RowKit Go.Proofs.YtgpinkgfgkolfaaW.PrintWords Go.Proofs.YtgpinkgfgkolfaaW.PrintLast Go.Proofs.YtgpinkgfgkolfaaW.PrintMore
set_option linter.unusedVariables false
set_option linter.unusedSimpArgs false
set_option maxHeartbeats 4000000
set_option maxRecDepth 100000

open Go.Proofs Go.Maps
/-- The sum over what has been done. -/
def doneS (g : Nat → Int) (p : Nm → Bool) (l : Dir) : Int := (l.map fun x => if p x.1 then g x.2 else 0).sum
def sumI (g : Nat → Int) (l : Dir) : Int := (l.map fun x => g x.2).sum
theorem doneS_none (g : Nat → Int) (p : Nm → Bool) : ∀ (l : Dir), (∀ x ∈ l, p x.1 = false) → doneS g p l = 0
  | [], _ => rfl
  | x :: l, h => by
    unfold doneS
    rw [List.map_cons, List.sum_cons, h x (List.mem_cons_self ..)]
    have := doneS_none g p l (fun y hy => h y (List.mem_cons_of_mem _ hy))
    unfold doneS at this
    rw [this]; rfl
theorem doneS_all (g : Nat → Int) (p : Nm → Bool) : ∀ (l : Dir), (∀ x ∈ l, p x.1 = true) → doneS g p l = sumI g l
  | [], _ => rfl
  | x :: l, h => by
    unfold doneS sumI
    rw [List.map_cons, List.sum_cons, h x (List.mem_cons_self ..), List.map_cons, List.sum_cons]
    have := doneS_all g p l (fun y hy => h y (List.mem_cons_of_mem _ hy))
    unfold doneS sumI at this
    rw [this]; rfl
theorem doneS_same (g : Nat → Int) (p q : Nm → Bool) : ∀ (l : Dir), (∀ x ∈ l, p x.1 = q x.1) → doneS g p l = doneS g q l
  | [], _ => rfl
  | x :: l, h => by
    unfold doneS
    rw [List.map_cons, List.sum_cons, h x (List.mem_cons_self ..), List.map_cons, List.sum_cons]
    have := doneS_same g p q l (fun y hy => h y (List.mem_cons_of_mem _ hy))
    unfold doneS at this
    rw [this]
theorem doneS_step (g : Nat → Int) (p q : Nm → Bool) (k : Nm) (f : Nat) : ∀ (l : Dir), (l.map (·.1)).Nodup → findL l k = some f → p k = false → (∀ y, q y = (p y || y == k)) → doneS g q l = doneS g p l + g f
  | [], _, h, _, _ => by cases h
  | x :: l, hn, h, hp, hq => by
    rw [List.map_cons, List.nodup_cons] at hn
    unfold doneS
    rw [List.map_cons, List.sum_cons, List.map_cons, List.sum_cons, hq x.1]
    by_cases hx : x.1 = k
    · have hf : x.2 = f := by
        unfold findL at h
        rw [List.find?_cons, show (x.1 == k) = true from beq_iff_eq.2 hx] at h
        exact Option.some.inj h
      have hs := doneS_same g q p l (fun y hy => by
        rw [hq, show (y.1 == k) = false from beq_eq_false_iff_ne.2 (fun e => hn.1 (by rw [hx, ← e]; exact List.mem_map_of_mem hy)), Bool.or_false])
      unfold doneS at hs
      rw [hs, hx, hp, show (k == k) = true from beq_iff_eq.2 rfl, hf]
      simp only [Bool.or_true, if_true, Bool.false_eq_true, if_false]
      omega
    · have hf : findL l k = some f := by
        unfold findL at h ⊢
        rw [List.find?_cons, show (x.1 == k) = false from beq_eq_false_iff_ne.2 hx] at h
        exact h
      have ih := doneS_step g p q k f l hn.2 hf hp hq
      unfold doneS at ih
      rw [ih, show (x.1 == k) = false from beq_eq_false_iff_ne.2 hx, Bool.or_false]
      omega
theorem findL_mem {l : Dir} {k : Nm} {f : Nat} (h : findL l k = some f) : (k, f) ∈ l := by
  unfold findL at h
  obtain ⟨x, hx, rfl⟩ := Option.map_eq_some_iff.1 h
  have hm := List.mem_of_find?_eq_some hx
  have hp := List.find?_some hx
  rw [beq_iff_eq] at hp
  rw [← hp]; exact hm
/-- How long a file is. -/
def lenF (A : Ab) (f : Nat) : Int := ((A.fs f).1.length : Int)
def inDir (A : Ab) (f : Nat) : Prop := ∃ k, findL A.dir k = some f
open Classical in
noncomputable def lenS (A : Ab) (f : Nat) : Int := if inDir A f then 0 else lenF A f
/-- Free room. -/
noncomputable def freeL (A : Ab) : Int := A.room - sumI (lenF A) A.dir - sumI (lenS A) A.safe
theorem below_grown {B : Nat} {a b c : World} {r : Option Nat} (h : Below B a b) (hg : b.grownBy c r) (hr : ∀ k, r = some k → B ≤ k) (hB : B ≤ b.heap.size) : Below B a c :=
  ⟨hg.os.trans h.os, hg.tape.trans h.tape, hg.output.trans h.output, Nat.le_trans h.size hg.size, fun k hk => (hg.block k (by omega) (fun e => by have := hr k e.symm; omega)).trans (h.block k hk)⟩
theorem grown_of_below {a b : World} (h : Below a.heap.size a b) : a.grownBy b none := ⟨h.os, h.tape, h.output, h.size, fun k hk _ => h.block k hk⟩
theorem DiskB.below {w w' : World} {ok : Nat → Prop} {d bd bs : Nat} {tg : Nat → Nat} {A : Ab} (h : DiskB w ok d bd bs tg A) (hb : Below w.heap.size w w') : DiskB w' ok d bd bs tg A := by
  have hl := h.lt
  obtain ⟨h1, h2, h3, h4, h5, h6, h7, h8⟩ := h
  refine ⟨h1, h2, h3, h4, (hb.block d hl).trans h5, h6.keep (hb.block _ h6.lt), h7.keep (hb.block _ h7.lt), fun f hf => ?_⟩
  have h9 := h8 f hf
  exact h9.keep (hb.block f h9.lt) (fun g cur ho _ hg => hb.block g (Array.getElem?_eq_some_iff.1 hg).1)
theorem RowAt.slice {w : World} {ok : Nat → Prop} {v : Value} {bs : List UInt8} (h : RowAt w ok v bs) : ∃ A c, v = .slice A bs.length c ∧ bs.length ≤ c := by
  rcases h with ⟨h1, h2⟩ | ⟨g, cap, cur, h1, _, _, h4, _⟩
  · exact ⟨none, 0, by rw [h1, h2]; rfl, by rw [h2]; exact Nat.le_refl _⟩
  · exact ⟨_, cap, h1, h4⟩
theorem FileAt.cells {w : World} {ok : Nat → Prop} {tg : Nat → Nat} {f : Nat} {x : List UInt8 × Nat} (h : FileAt w ok tg f x) : ∃ A c, w.cell? ⟨f, 0, none⟩ = some (.slice A x.1.length c) ∧ x.1.length ≤ c ∧ w.cell? ⟨f, 1, none⟩ = some (.int .i64 (x.2 : Int)) := by
  obtain ⟨_, v, h2, h3⟩ := h
  obtain ⟨A, c, rfl, hc⟩ := h3.slice
  exact ⟨A, c, by simp [World.cell?, h2], hc, by simp [World.cell?, h2]⟩
theorem FileAt.isFile {w : World} {ok : Nat → Prop} {tg : Nat → Nat} {f : Nat} {x : List UInt8 × Nat} (h : FileAt w ok tg f x) : IsFile w f := by
  obtain ⟨_, v, h2, _⟩ := h
  exact ⟨_, h2⟩
/-- What comes out of a range over a map of files. -/
theorem range_key {l : Dir} {k : Nm} {c : Option Nat} {y : DataW Unit × List MemPlace} (hv : ptrRd (ptrV c) = some y) (hat : ∀ zd, (dirD l).atKey (.string k) zd = y.1) : ∃ f, c = some f ∧ findL l k = some f := by
  rw [ptrRd_mk] at hv
  cases hv
  have h1 := hat .nil
  have h2 := hat (.lit (.bool true))
  rw [atKey_is] at h1 h2
  cases hf : findL l k with
  | none =>
    rw [hf] at h1 h2
    cases c with
    | none => cases h2
    | some f => cases h1
  | some f =>
    rw [hf] at h1
    cases c with
    | none => cases h1
    | some g =>
      injection h1 with h1
      injection h1 with _ h1
      exact ⟨g, rfl, by rw [show f = g by omega]⟩
theorem wrap_sub (a b : Int) : wrap64 (wrap64 a - b) = wrap64 (a - b) := by unfold wrap64; omega
theorem has_dir {l : Dir} {x : Nm × Nat} (h : x ∈ l) : has (dirD l) (.string x.1) = true := by
  unfold has dirD
  simp only [List.any_map, List.any_eq_true]
  exact ⟨x, h, by simp [enc1, Function.comp, sameKey_str]⟩
theorem str_inv (key : Value) (kl : Lit) (hk : keyOf Try.prog 9 key = some kl) : ∃ x, key = encStr x := by
  obtain ⟨x, hx, _⟩ := Maps.keyOf_str Try.underlying9 hk
  exact ⟨x, hx⟩
theorem str_key {x : Nm} {kl : Lit} (hk : keyOf Try.prog 9 (encStr x) = some kl) : kl = .string x := by
  obtain ⟨x', ex, h, _⟩ := Maps.keyOf_str Try.underlying9 hk
  rw [encStr_inj ex]; exact h
theorem str_size {x : Nm} {kl : Lit} (hk : keyOf Try.prog 9 (encStr x) = some kl) : (⟨x.toArray⟩ : ByteArray).size ≤ maxLen := by
  obtain ⟨x', ex, _, h⟩ := Maps.keyOf_str Try.underlying9 hk
  rw [encStr_inj ex]; exact h
theorem ptr_inv (v : Value) (y : DataW Unit × List MemPlace) (h : ptrRd v = some y) : ∃ c, v = ptrV c := by
  obtain ⟨c, hc, _⟩ := ptrRd_inv h
  exact ⟨c, hc⟩

end Go.Proofs.Ytgpinkgfgkolfaa.PD
