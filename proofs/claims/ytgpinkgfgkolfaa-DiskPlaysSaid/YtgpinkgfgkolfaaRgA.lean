/- The document's disk plainly. -/
import Derived.Test.YtgpinkgfgkolfaaFine
import Derived.Test.YtgpinkgfgkolfaaCut
namespace Go.Proofs.Ytgpinkgfgkolfaa.PD
open Go.RowKit Go.Proofs.YtgpinkgfgkolfaaW.PrintWords Go.Proofs.YtgpinkgfgkolfaaW.PrintLast Go.Proofs.YtgpinkgfgkolfaaW.PrintMore
set_option linter.unusedVariables false
set_option linter.unusedSimpArgs false
set_option maxHeartbeats 4000000
set_option maxRecDepth 100000

open Go.Proofs
/-- What the document's disk says. -/
structure Rb where
  room : Int
  files : List (List UInt8 × Nat)
  dir : Dir
  safe : Dir
  fl : Bool
  left : Int
  torn : Bool
def rmayL (R : Rb) : Bool × Bool × Rb :=
  if R.fl = false then (true, false, R) else if R.left > 0 then (true, false, { R with left := R.left - 1 }) else (false, !R.torn, { R with torn := true })
def usedD (l : Dir) (i : Nat) : Bool := l.any fun x => x.2 == i
def usedR (R : Rb) (i : Nat) : Bool := usedD R.dir i || usedD R.safe i
def rsum (p : Nat → Bool) : Nat → List (List UInt8 × Nat) → Int
  | _, [] => 0
  | i, f :: r => (if p i then (f.1.length : Int) else 0) + rsum p (i + 1) r
def rfreeL (R : Rb) : Int := R.room - rsum (usedR R) 0 R.files
def linkG (nm : Nm) (at_ : Nat) : Bool → Dir → Dir
  | dn, [] => if dn then [] else [(nm, at_)]
  | dn, x :: r =>
    if !dn && bytesBefore nm x.1 then (nm, at_) :: (if x.1 = nm then linkG nm at_ true r else x :: linkG nm at_ true r)
    else if x.1 = nm then linkG nm at_ dn r else x :: linkG nm at_ dn r
def fileR (R : Rb) (i : Nat) : List UInt8 × Nat := R.files.getD i ([], 0)
def rlayL (R : Rb) (nm : Nm) (b : List UInt8) : Rb :=
  match findL R.dir nm with
  | some i => { R with files := R.files.set i ((fileR R i).1 ++ b, (fileR R i).2) }
  | none => { R with files := R.files ++ [(b, 0)], dir := linkG nm R.files.length false R.dir }
def rwriteL (R : Rb) (nm : Nm) (b : List UInt8) : Int × Rb :=
  if (rmayL R).1 = false then
    (171, if (rmayL R).2.1 = true ∧ nm ≠ [] ∧ 1 < b.length ∧ (b.length : Int) ≤ wrap64 (rfreeL R) then rlayL (rmayL R).2.2 nm (b.take (b.length / 2)) else (rmayL R).2.2)
  else if nm = [] then (2, (rmayL R).2.2) else if (b.length : Int) > wrap64 (rfreeL R) then (170, (rmayL R).2.2) else (0, rlayL (rmayL R).2.2 nm b)
def rcallL (R : Rb) (nm : Nm) (F : Nat → Rb → Int × Rb) : Int × Rb :=
  if (rmayL R).1 = false then (171, (rmayL R).2.2) else match findL R.dir nm with | none => (172, (rmayL R).2.2) | some f => F f (rmayL R).2.2
def rcutR (n : Int) (f : Nat) (R : Rb) : Int × Rb :=
  if n < 0 ∨ n > ((fileR R f).1.length : Int) then (2, R) else (0, { R with files := R.files.set f ((fileR R f).1.take n.toNat, min (fileR R f).2 n.toNat) })
def rcutL (R : Rb) (nm : Nm) (n : Int) : Int × Rb := rcallL R nm (rcutR n)
def rsyncR (f : Nat) (R : Rb) : Int × Rb := (0, { R with files := R.files.set f ((fileR R f).1, (fileR R f).1.length) })
def rsyncL (R : Rb) (nm : Nm) : Int × Rb := rcallL R nm rsyncR
def rremL (R : Rb) (nm : Nm) : Int × Rb := rcallL R nm fun _ Q => (0, { Q with dir := delL Q.dir nm })
def rrenL (R : Rb) (nm tn : Nm) : Int × Rb := rcallL R nm fun f Q => if tn = [] then (2, Q) else (0, { Q with dir := linkG tn f false (delL Q.dir nm) })
def rflushL (R : Rb) : Int × Rb := if (rmayL R).1 = false then (171, (rmayL R).2.2) else (0, { (rmayL R).2.2 with safe := (rmayL R).2.2.dir })
def rcrashN (keep : Int) (x : List UInt8 × Nat) : Nat := if keep > 0 then min x.1.length (x.2 + (min keep (x.1.length : Int)).toNat) else x.2
def rcrashF (keep : Int) (x : List UInt8 × Nat) : List UInt8 × Nat := (x.1.take (rcrashN keep x), rcrashN keep x)
def rcrashL (R : Rb) (keep : Int) : Rb := { R with files := R.files.map (rcrashF keep), dir := R.safe, fl := false, torn := false }
def rfailL (R : Rb) (n : Int) : Rb := { R with fl := true, left := n, torn := false }
def rreadL (R : Rb) (nm : Nm) : Option (List UInt8) := (findL R.dir nm).map fun f => (fileR R f).1

end Go.Proofs.Ytgpinkgfgkolfaa.PD

namespace Go.Proofs.Ytgpinkgfgkolfaa.PD
open Go.RowKit Go.Proofs.YtgpinkgfgkolfaaW.PrintWords Go.Proofs.YtgpinkgfgkolfaaW.PrintLast Go.Proofs.YtgpinkgfgkolfaaW.PrintMore
set_option linter.unusedVariables false
set_option linter.unusedSimpArgs false
set_option maxHeartbeats 4000000
set_option maxRecDepth 100000

open Go.Proofs
def pm (φ : Nat → Nat) (x : Nm × Nat) : Nm × Nat := (x.1, φ x.2)
theorem find_pm (φ : Nat → Nat) (l : Dir) (k : Nm) : findL (l.map (pm φ)) k = (findL l k).map φ := by
  unfold findL
  rw [List.find?_map]
  have : ((fun x : Nm × Nat => x.1 == k) ∘ pm φ) = fun x => x.1 == k := rfl
  rw [this]
  cases l.find? (fun x => x.1 == k) <;> rfl
theorem del_pm (φ : Nat → Nat) (l : Dir) (k : Nm) : delL (l.map (pm φ)) k = (delL l k).map (pm φ) := by
  unfold delL
  rw [List.filter_map]
  rfl
theorem ins_pm (φ : Nat → Nat) (x : Nm × Nat) : ∀ l : Dir, insL (pm φ x) (l.map (pm φ)) = (insL x l).map (pm φ)
  | [] => rfl
  | y :: r => by
    simp only [List.map_cons, insL]
    show (if bytesBefore x.1 y.1 then _ else _) = _
    split
    · simp
    · simp [ins_pm φ x r]
theorem put_pm (φ : Nat → Nat) (l : Dir) (k : Nm) (i : Nat) : putL (l.map (pm φ)) k (φ i) = (putL l k i).map (pm φ) := by
  unfold putL
  rw [del_pm]
  exact ins_pm φ (k, i) _
theorem pm_congr {φ ψ : Nat → Nat} {l : Dir} (h : ∀ n i, (n, i) ∈ l → φ i = ψ i) : l.map (pm φ) = l.map (pm ψ) :=
  List.map_congr_left fun x hx => by unfold pm; rw [h x.1 x.2 hx]
theorem link_true (nm : Nm) (b : Nat) : ∀ l : Dir, linkG nm b true l = delL l nm
  | [] => rfl
  | x :: r => by
    unfold linkG
    simp only [Bool.not_true, Bool.false_and, if_neg (show ¬ (false = true) by decide)]
    rw [link_true nm b r]
    unfold delL
    by_cases hx : x.1 = nm <;> simp [hx]
theorem before_irrefl : ∀ a : Nm, bytesBefore a a = false
  | [] => rfl
  | x :: r => by
    unfold bytesBefore
    rw [before_irrefl r, Bool.and_false, Bool.or_false]
    exact decide_eq_false (UInt8.lt_irrefl x)
theorem link_is (nm : Nm) (b : Nat) : ∀ l : Dir, linkG nm b false l = putL l nm b
  | [] => rfl
  | x :: r => by
    unfold linkG
    by_cases hb : bytesBefore nm x.1 = true
    · have hx : x.1 ≠ nm := fun e => by rw [e, before_irrefl] at hb; cases hb
      rw [if_pos (by simpa using hb), if_neg hx, link_true]
      unfold putL delL
      rw [List.filter_cons, if_pos (by simpa using hx)]
      unfold insL
      rw [if_pos hb]
    · rw [if_neg (by simpa using hb)]
      by_cases hx : x.1 = nm
      · rw [if_pos hx, link_is nm b r]
        unfold putL delL
        rw [List.filter_cons, if_neg (by simpa using hx)]
      · rw [if_neg hx, link_is nm b r]
        unfold putL delL
        rw [List.filter_cons, if_pos (by simpa using hx)]
        conv => rhs; unfold insL
        rw [if_neg hb]
/-- The document's files lie under numbers, the program's in blocks. -/
structure Rel (A : Ab) (R : Rb) (φ : Nat → Nat) : Prop where
  room : A.room = R.room
  fl : A.fl = R.fl
  left : A.left = R.left
  torn : A.torn = R.torn
  dir : A.dir = R.dir.map (pm φ)
  safe : A.safe = R.safe.map (pm φ)
  lt : ∀ i, usedR R i = true → i < R.files.length
  inj : ∀ i j, usedR R i = true → usedR R j = true → φ i = φ j → i = j
  fs : ∀ i, usedR R i = true → A.fs (φ i) = fileR R i
  nd : (R.dir.map (·.2)).Nodup
  ns : (R.safe.map (·.2)).Nodup
  kd : (R.dir.map (·.1)).Nodup
  ks : (R.safe.map (·.1)).Nodup
variable {A : Ab} {R : Rb} {φ : Nat → Nat}
theorem used_dir {l : Dir} {i : Nat} : usedD l i = true ↔ ∃ n, (n, i) ∈ l := by
  unfold usedD
  rw [List.any_eq_true]
  constructor
  · rintro ⟨x, hx, he⟩
    exact ⟨x.1, by have : x.2 = i := by simpa using he
                   rw [← this]; exact hx⟩
  · rintro ⟨n, h⟩
    exact ⟨(n, i), h, by simp⟩
theorem used_or {i : Nat} : usedR R i = true ↔ (∃ n, (n, i) ∈ R.dir) ∨ ∃ n, (n, i) ∈ R.safe := by
  unfold usedR
  rw [Bool.or_eq_true, used_dir, used_dir]
theorem find_mem_r {l : Dir} {k : Nm} {i : Nat} (h : findL l k = some i) : (k, i) ∈ l := findL_mem h
theorem find_of_mem {l : Dir} (hn : (l.map (·.1)).Nodup) {k : Nm} {i : Nat} (h : (k, i) ∈ l) : findL l k = some i := by
  induction l with
  | nil => cases h
  | cons x r ih =>
    rw [List.map_cons, List.nodup_cons] at hn
    rcases List.mem_cons.1 h with e | e
    · subst e
      unfold findL
      simp
    · have hx : x.1 ≠ k := fun he => hn.1 (by rw [he]; exact List.mem_map.2 ⟨_, e, rfl⟩)
      have := ih hn.2 e
      unfold findL at this ⊢
      rw [List.find?_cons, show (x.1 == k) = false by simpa using hx]
      exact this
theorem Rel.may (h : Rel A R φ) : (mayL A).1 = (rmayL R).1 ∧ (mayL A).2.1 = (rmayL R).2.1 ∧ Rel (mayL A).2.2 (rmayL R).2.2 φ := by
  unfold mayL rmayL
  by_cases h1 : R.fl = false
  · rw [if_pos h1, if_pos (h.fl.trans h1)]; exact ⟨rfl, rfl, h⟩
  · rw [if_neg h1, if_neg (fun e => h1 (h.fl.symm.trans e))]
    by_cases h2 : R.left > 0
    · rw [if_pos h2, if_pos (by rw [h.left]; exact h2)]
      exact ⟨rfl, rfl, h.room, h.fl, by show A.left - 1 = R.left - 1; rw [h.left], h.torn, h.dir, h.safe, h.lt, h.inj, h.fs, h.nd, h.ns, h.kd, h.ks⟩
    · rw [if_neg h2, if_neg (by rw [h.left]; exact h2)]
      exact ⟨rfl, by show (!A.torn) = !R.torn; rw [h.torn], h.room, h.fl, h.left, rfl, h.dir, h.safe, h.lt, h.inj, h.fs, h.nd, h.ns, h.kd, h.ks⟩
/-! ### free room -/
theorem rsum_or (p q : Nat → Bool) (hd : ∀ i, p i = true → q i = false) : ∀ (s : Nat) (fs : List (List UInt8 × Nat)), rsum (fun i => p i || q i) s fs = rsum p s fs + rsum q s fs
  | _, [] => rfl
  | s, f :: r => by
    have ih := rsum_or p q hd (s + 1) r
    have hs := hd s
    simp only [rsum]
    rw [ih]
    by_cases hp : p s = true
    · have hq := hs hp
      simp [hp, hq]; omega
    · by_cases hq : q s = true <;> simp [hp, hq] <;> omega
theorem rsum_none (p : Nat → Bool) : ∀ (s : Nat) (fs : List (List UInt8 × Nat)), (∀ i, s ≤ i → i < s + fs.length → p i = false) → rsum p s fs = 0
  | _, [], _ => rfl
  | s, f :: r, h => by
    simp only [rsum]
    rw [h s (Nat.le_refl _) (by simp), rsum_none p (s + 1) r (fun i h1 h2 => h i (by omega) (by simp; omega))]
    rfl
theorem rsum_one (d : Nat) : ∀ (s : Nat) (fs : List (List UInt8 × Nat)), s ≤ d → rsum (fun i => i == d) s fs = ((fs.getD (d - s) ([], 0)).1.length : Int)
  | _, [], _ => by simp [rsum]
  | s, f :: r, h => by
    simp only [rsum]
    by_cases hs : s = d
    · subst hs
      rw [rsum_none _ (s + 1) r (fun i h1 _ => by simp; omega)]
      simp
    · rw [rsum_one d (s + 1) r (by omega)]
      have e : d - s = (d - (s + 1)) + 1 := by omega
      rw [e, List.getD_cons_succ]
      simp [hs]
theorem rsum_list (fs : List (List UInt8 × Nat)) : ∀ D : List Nat, D.Nodup → rsum (fun i => D.contains i) 0 fs = (D.map fun d => ((fs.getD d ([], 0)).1.length : Int)).sum
  | [], _ => by
    have := rsum_none (fun i => ([] : List Nat).contains i) 0 fs (fun i _ _ => rfl)
    rw [this]; rfl
  | d :: D, h => by
    rw [List.nodup_cons] at h
    have e : (fun i => (d :: D).contains i) = fun i => (i == d) || D.contains i := by
      funext i
      rw [List.contains_cons]
    rw [e, rsum_or _ _ (fun i hi => by
      have : i = d := by simpa using hi
      subst this
      simpa using h.1) 0 fs, rsum_list fs D h.2, rsum_one d 0 fs (Nat.zero_le _), List.map_cons, List.sum_cons]
    rfl
theorem contains_used (l : Dir) (i : Nat) : (l.map (·.2)).contains i = usedD l i := by
  unfold usedD
  induction l with
  | nil => rfl
  | cons x r ih =>
    rw [List.map_cons, List.contains_cons, List.any_cons, ih]
    congr 1
    exact Bool.eq_iff_iff.2 ⟨fun h => by simpa using (by simpa using h : i = x.2).symm, fun h => by simpa using (by simpa using h : x.2 = i).symm⟩
theorem filter_sum (g : Nat → Int) (p : Nat → Bool) : ∀ D : List Nat, ((D.filter p).map g).sum = (D.map fun d => if p d then g d else 0).sum
  | [] => rfl
  | d :: D => by
    rw [List.filter_cons, List.map_cons, List.sum_cons, ← filter_sum g p D]
    split <;> simp
theorem Rel.inDir (h : Rel A R φ) {i : Nat} (hu : usedR R i = true) : PD.inDir A (φ i) ↔ usedD R.dir i = true := by
  unfold PD.inDir
  rw [h.dir]
  constructor
  · rintro ⟨k, hk⟩
    rw [find_pm] at hk
    obtain ⟨j, hj, e⟩ := Option.map_eq_some_iff.1 hk
    have hm := find_mem_r hj
    have hju : usedD R.dir j = true := used_dir.2 ⟨k, hm⟩
    have : j = i := h.inj j i (used_or.2 (.inl ⟨k, hm⟩)) hu e
    rw [← this]; exact hju
  · intro hi
    obtain ⟨k, hk⟩ := used_dir.1 hi
    exact ⟨k, by rw [find_pm, find_of_mem h.kd hk]; rfl⟩
theorem Rel.free (h : Rel A R φ) : freeL A = rfreeL R := by
  have h1 : sumI (lenF A) A.dir = ((R.dir.map (·.2)).map fun d => ((fileR R d).1.length : Int)).sum := by
    unfold sumI
    rw [h.dir, List.map_map, List.map_map]
    congr 1
    refine List.map_congr_left fun x hx => ?_
    show lenF A (φ x.2) = _
    unfold lenF
    rw [h.fs x.2 (used_or.2 (.inl ⟨x.1, hx⟩))]
    rfl
  have h2 : sumI (lenS A) A.safe = (((R.safe.map (·.2)).filter fun i => !usedD R.dir i).map fun d => ((fileR R d).1.length : Int)).sum := by
    rw [filter_sum]
    unfold sumI
    rw [h.safe, List.map_map, List.map_map]
    congr 1
    refine List.map_congr_left fun x hx => ?_
    have hu : usedR R x.2 = true := used_or.2 (.inr ⟨x.1, hx⟩)
    show lenS A (φ x.2) = if (!usedD R.dir x.2) = true then _ else _
    by_cases hd : usedD R.dir x.2 = true
    · rw [lenS_in ((h.inDir hu).2 hd), hd]; rfl
    · rw [lenS_out (fun e => hd ((h.inDir hu).1 e))]
      rw [show usedD R.dir x.2 = false by simpa using hd]
      unfold lenF
      rw [h.fs x.2 hu]; rfl
  have h3 : rsum (usedR R) 0 R.files = rsum (fun i => (R.dir.map (·.2)).contains i || ((R.safe.map (·.2)).filter fun i => !usedD R.dir i).contains i) 0 R.files := by
    congr 1
    funext i
    unfold usedR
    rw [contains_used]
    cases hd : usedD R.dir i with
    | true => rfl
    | false =>
      rw [Bool.false_or, Bool.false_or, ← contains_used R.safe i]
      refine Bool.eq_iff_iff.2 ?_
      rw [List.contains_iff_mem, List.contains_iff_mem, List.mem_filter]
      simp [hd]
  unfold freeL rfreeL
  rw [h.room, h1, h2, h3, rsum_or _ _ (fun i hi => by
    rw [contains_used] at hi
    cases hc : ((R.safe.map (·.2)).filter fun i => !usedD R.dir i).contains i with
    | false => rfl
    | true =>
      rw [List.contains_iff_mem, List.mem_filter] at hc
      rw [hi] at hc
      cases hc.2) 0 R.files, rsum_list _ _ h.nd, rsum_list _ _ (h.ns.filter _)]
  show R.room - _ - _ = R.room - (_ + _)
  unfold fileR
  omega
/-! ### the operations -/
theorem Rel.file (h : Rel A R φ) {i : Nat} (hu : usedR R i = true) (x : List UInt8 × Nat) : Rel { A with fs := upd A.fs (φ i) x } { R with files := R.files.set i x } φ :=
  ⟨h.room, h.fl, h.left, h.torn, h.dir, h.safe, fun j hj => by show j < (R.files.set i x).length; rw [List.length_set]; exact h.lt j hj, h.inj, fun j hj => by
    show upd A.fs (φ i) x (φ j) = (R.files.set i x).getD j ([], 0)
    have hj' : usedR R j = true := hj
    by_cases hij : j = i
    · subst hij
      rw [upd_same, List.getD_eq_getElem?_getD, List.getElem?_set_self (h.lt j hj')]; rfl
    · rw [upd_other _ _ _ _ (fun e => hij (h.inj j i hj' hu e)), h.fs j hj']
      unfold fileR
      rw [List.getD_eq_getElem?_getD, List.getD_eq_getElem?_getD, List.getElem?_set_ne (fun e => hij e.symm)], h.nd, h.ns, h.kd, h.ks⟩
theorem put_mem_iff {l : Dir} {nm : Nm} {b : Nat} {n : Nm} {i : Nat} : (n, i) ∈ putL l nm b → (n = nm ∧ i = b) ∨ (n, i) ∈ l := fun h => by
  rcases put_mem h with e | e
  · injection e with e1 e2
    exact .inl ⟨e1, e2⟩
  · exact .inr e
theorem ins_perm (x : Nm × Nat) : ∀ l : Dir, (insL x l).Perm (x :: l)
  | [] => List.Perm.refl _
  | y :: r => by
    unfold insL
    split
    · exact List.Perm.refl _
    · exact (List.Perm.cons y (ins_perm x r)).trans (List.Perm.swap x y r)
theorem put_keys {l : Dir} (h : (l.map (·.1)).Nodup) (nm : Nm) (b : Nat) : ((putL l nm b).map (·.1)).Nodup := by
  unfold putL
  rw [((ins_perm (nm, b) (delL l nm)).map (·.1)).nodup_iff, List.map_cons, List.nodup_cons]
  refine ⟨fun hm => ?_, (List.filter_sublist.map _).nodup h⟩
  obtain ⟨x, hx, e⟩ := List.mem_map.1 hm
  have := (List.mem_filter.1 hx).2
  simp at this
  exact this e
theorem del_keys {l : Dir} (h : (l.map (·.1)).Nodup) (nm : Nm) : ((delL l nm).map (·.1)).Nodup := (List.filter_sublist.map _).nodup h
theorem del_ids {l : Dir} (h : (l.map (·.2)).Nodup) (nm : Nm) : ((delL l nm).map (·.2)).Nodup := (List.filter_sublist.map _).nodup h
theorem put_ids {l : Dir} (h : (l.map (·.2)).Nodup) (nm : Nm) (b : Nat) (hb : ∀ n, (n, b) ∉ delL l nm) : ((putL l nm b).map (·.2)).Nodup := by
  unfold putL
  rw [((ins_perm (nm, b) (delL l nm)).map (·.2)).nodup_iff, List.map_cons, List.nodup_cons]
  refine ⟨fun hm => ?_, del_ids h nm⟩
  obtain ⟨x, hx, e⟩ := List.mem_map.1 hm
  exact hb x.1 (by have : x.2 = b := e
                   rw [← this]; exact hx)
theorem mem_del {l : Dir} {nm n : Nm} {i : Nat} : (n, i) ∈ delL l nm ↔ (n, i) ∈ l ∧ n ≠ nm := by
  unfold delL
  rw [List.mem_filter]
  simp
theorem ids_one : ∀ {l : Dir}, (l.map (·.2)).Nodup → ∀ {n m : Nm} {i : Nat}, (n, i) ∈ l → (m, i) ∈ l → n = m
  | [], _, _, _, _, h, _ => by cases h
  | x :: r, hn, n, m, i, h1, h2 => by
    rw [List.map_cons, List.nodup_cons] at hn
    rcases List.mem_cons.1 h1 with e1 | e1 <;> rcases List.mem_cons.1 h2 with e2 | e2
    · rw [← e1] at e2; injection e2 with e _; exact e.symm
    · exact absurd (List.mem_map.2 ⟨_, e2, by rw [← e1]⟩) hn.1
    · exact absurd (List.mem_map.2 ⟨_, e1, by rw [← e2]⟩) hn.1
    · exact ids_one hn.2 e1 e2
theorem Rel.del (h : Rel A R φ) (nm : Nm) : Rel { A with dir := delL A.dir nm } { R with dir := delL R.dir nm } φ := by
  have hu : ∀ i, usedR { R with dir := delL R.dir nm } i = true → usedR R i = true := fun i hi => by
    rcases used_or.1 hi with ⟨n, hn⟩ | ⟨n, hn⟩
    · exact used_or.2 (.inl ⟨n, (mem_del.1 hn).1⟩)
    · exact used_or.2 (.inr ⟨n, hn⟩)
  exact ⟨h.room, h.fl, h.left, h.torn, by show delL A.dir nm = _; rw [h.dir, del_pm], h.safe, fun i hi => h.lt i (hu i hi), fun i j hi hj => h.inj i j (hu i hi) (hu j hj), fun i hi => h.fs i (hu i hi), del_ids h.nd nm, h.ns, del_keys h.kd nm, h.ks⟩
theorem Rel.put (h : Rel A R φ) (nm : Nm) {i : Nat} (hi : usedR R i = true) (hb : ∀ n, (n, i) ∉ delL R.dir nm) : Rel { A with dir := putL A.dir nm (φ i) } { R with dir := putL R.dir nm i } φ := by
  have hu : ∀ j, usedR { R with dir := putL R.dir nm i } j = true → usedR R j = true := fun j hj => by
    rcases used_or.1 hj with ⟨n, hn⟩ | ⟨n, hn⟩
    · rcases put_mem_iff hn with ⟨_, e⟩ | e
      · rw [e]; exact hi
      · exact used_or.2 (.inl ⟨n, e⟩)
    · exact used_or.2 (.inr ⟨n, hn⟩)
  exact ⟨h.room, h.fl, h.left, h.torn, by show putL A.dir nm (φ i) = _; rw [h.dir, put_pm], h.safe, fun i hi => h.lt i (hu i hi), fun i j hi hj => h.inj i j (hu i hi) (hu j hj), fun i hi => h.fs i (hu i hi), put_ids h.nd nm i hb, h.ns, put_keys h.kd nm i, h.ks⟩
theorem Rel.lay (h : Rel A R φ) (nm : Nm) (b : List UInt8) (fN : Nat) (hN : ∀ i, usedR R i = true → φ i ≠ fN) : ∃ φ', Rel (layL A nm b fN) (rlayL R nm b) φ' := by
  unfold layL rlayL
  rw [h.dir, find_pm]
  cases hf : findL R.dir nm with
  | some i =>
    have hu : usedR R i = true := used_or.2 (.inl ⟨nm, find_mem_r hf⟩)
    refine ⟨φ, ?_⟩
    have := h.file hu ((fileR R i).1 ++ b, (fileR R i).2)
    show Rel { A with dir := R.dir.map (pm φ), fs := upd A.fs (φ i) ((A.fs (φ i)).1 ++ b, (A.fs (φ i)).2) } _ φ
    rw [h.fs i hu, ← h.dir]
    exact this
  | none =>
    have hlt : ∀ i, usedR R i = true → i ≠ R.files.length := fun i hi => by have := h.lt i hi; omega
    refine ⟨fun i => if i = R.files.length then fN else φ i, ?_⟩
    have hu : ∀ j, usedR { R with files := R.files ++ [(b, 0)], dir := linkG nm R.files.length false R.dir } j = true → j = R.files.length ∨ usedR R j = true := fun j hj => by
      rcases used_or.1 hj with ⟨n, hn⟩ | ⟨n, hn⟩
      · have hn' : (n, j) ∈ linkG nm R.files.length false R.dir := hn
        rw [link_is] at hn'
        rcases put_mem_iff hn' with ⟨_, e⟩ | e
        · exact .inl e
        · exact .inr (used_or.2 (.inl ⟨n, e⟩))
      · exact .inr (used_or.2 (.inr ⟨n, hn⟩))
    have ed : R.dir.map (pm φ) = R.dir.map (pm fun i => if i = R.files.length then fN else φ i) := pm_congr fun n i hn => by rw [if_neg (hlt i (used_or.2 (.inl ⟨n, hn⟩)))]
    have es : R.safe.map (pm φ) = R.safe.map (pm fun i => if i = R.files.length then fN else φ i) := pm_congr fun n i hn => by rw [if_neg (hlt i (used_or.2 (.inr ⟨n, hn⟩)))]
    refine ⟨h.room, h.fl, h.left, h.torn, ?_, ?_, fun j hj => ?_, fun i j hi hj => ?_, fun j hj => ?_, ?_, h.ns, ?_, h.ks⟩
    · show putL (R.dir.map (pm φ)) nm fN = (linkG nm R.files.length false R.dir).map _
      rw [link_is, ed, ← put_pm]
      congr 1
      rw [if_pos rfl]
    · show A.safe = R.safe.map _
      rw [h.safe, es]
    · show j < (R.files ++ [(b, 0)]).length
      rw [List.length_append]
      rcases hu j hj with e | e
      · rw [e]; simp
      · have := h.lt j e; omega
    · rcases hu i hi with e | e <;> rcases hu j hj with e' | e'
      · intro _; rw [e, e']
      · rw [if_pos e, if_neg (hlt j e')]; exact fun he => absurd he.symm (hN j e')
      · rw [if_neg (hlt i e), if_pos e']; exact fun he => absurd he (hN i e)
      · rw [if_neg (hlt i e), if_neg (hlt j e')]; exact h.inj i j e e'
    · show upd A.fs fN (b, 0) (if j = R.files.length then fN else φ j) = (R.files ++ [(b, 0)]).getD j ([], 0)
      rcases hu j hj with e | e
      · rw [if_pos e, upd_same, e, List.getD_eq_getElem?_getD, List.getElem?_append_right (Nat.le_refl _)]
        simp
      · rw [if_neg (hlt j e), upd_other _ _ _ _ (hN j e), h.fs j e]
        unfold fileR
        rw [List.getD_eq_getElem?_getD, List.getD_eq_getElem?_getD, List.getElem?_append_left (h.lt j e)]
    · show ((linkG nm R.files.length false R.dir).map (·.2)).Nodup
      rw [link_is]
      exact put_ids h.nd nm _ fun n hn => hlt _ (used_or.2 (.inl ⟨n, (mem_del.1 hn).1⟩)) rfl
    · show ((linkG nm R.files.length false R.dir).map (·.1)).Nodup
      rw [link_is]
      exact put_keys h.kd nm _
theorem rmay_same (R : Rb) : (rmayL R).2.2.dir = R.dir ∧ (rmayL R).2.2.safe = R.safe ∧ (rmayL R).2.2.files = R.files ∧ (rmayL R).2.2.room = R.room := by
  unfold rmayL
  split
  · exact ⟨rfl, rfl, rfl, rfl⟩
  · split <;> exact ⟨rfl, rfl, rfl, rfl⟩
theorem rmay_used (R : Rb) (i : Nat) : usedR (rmayL R).2.2 i = usedR R i := by
  unfold usedR
  rw [(rmay_same R).1, (rmay_same R).2.1]
theorem Rel.write (h : Rel A R φ) (nm : Nm) (b : List UInt8) (fN : Nat) (hN : ∀ i, usedR R i = true → φ i ≠ fN) : (writeL A nm b fN).1 = (rwriteL R nm b).1 ∧ ∃ φ', Rel (writeL A nm b fN).2 (rwriteL R nm b).2 φ' := by
  obtain ⟨m1, m2, m3⟩ := h.may
  have hN' : ∀ i, usedR (rmayL R).2.2 i = true → φ i ≠ fN := fun i hi => hN i (by rw [rmay_used] at hi; exact hi)
  unfold writeL rwriteL
  rw [m1, m2, h.free]
  split
  · dsimp only
    refine ⟨rfl, ?_⟩
    split
    · exact m3.lay nm _ fN hN'
    · exact ⟨φ, m3⟩
  · split
    · exact ⟨rfl, φ, m3⟩
    · split
      · exact ⟨rfl, φ, m3⟩
      · exact ⟨rfl, m3.lay nm b fN hN'⟩
theorem Rel.call (h : Rel A R φ) (nm : Nm) (F : Nat → Ab → Int × Ab) (G : Nat → Rb → Int × Rb) (hFG : ∀ i B Q, (nm, i) ∈ Q.dir → Rel B Q φ → (F (φ i) B).1 = (G i Q).1 ∧ Rel (F (φ i) B).2 (G i Q).2 φ) : (callL A nm F).1 = (rcallL R nm G).1 ∧ Rel (callL A nm F).2 (rcallL R nm G).2 φ := by
  obtain ⟨m1, m2, m3⟩ := h.may
  unfold callL rcallL
  rw [m1]
  split
  · exact ⟨rfl, m3⟩
  · rw [h.dir, find_pm]
    cases hf : findL R.dir nm with
    | none => exact ⟨rfl, m3⟩
    | some i => exact hFG i _ _ (by rw [(rmay_same R).1]; exact find_mem_r hf) m3
theorem Rel.cut (h : Rel A R φ) (nm : Nm) (n : Int) : (cutL A nm n).1 = (rcutL R nm n).1 ∧ Rel (cutL A nm n).2 (rcutL R nm n).2 φ :=
  h.call nm (cutR n) (rcutR n) fun i B Q hi hB => by
    have hu : usedR Q i = true := used_or.2 (.inl ⟨nm, hi⟩)
    unfold cutR rcutR
    rw [hB.fs i hu]
    split
    · exact ⟨rfl, hB⟩
    · exact ⟨rfl, hB.file hu _⟩
theorem Rel.sync (h : Rel A R φ) (nm : Nm) : (syncL A nm).1 = (rsyncL R nm).1 ∧ Rel (syncL A nm).2 (rsyncL R nm).2 φ :=
  h.call nm syncR rsyncR fun i B Q hi hB => by
    have hu : usedR Q i = true := used_or.2 (.inl ⟨nm, hi⟩)
    unfold syncR rsyncR
    rw [hB.fs i hu]
    exact ⟨rfl, hB.file hu _⟩
theorem Rel.rem (h : Rel A R φ) (nm : Nm) : (remL A nm).1 = (rremL R nm).1 ∧ Rel (remL A nm).2 (rremL R nm).2 φ :=
  h.call nm (remR nm) _ fun i B Q hi hB => ⟨rfl, hB.del nm⟩
theorem Rel.ren (h : Rel A R φ) (nm tn : Nm) : (renL A nm tn).1 = (rrenL R nm tn).1 ∧ Rel (renL A nm tn).2 (rrenL R nm tn).2 φ :=
  h.call nm (renR nm tn) _ fun i B Q hi hB => by
    unfold renR
    split
    · exact ⟨rfl, hB⟩
    · refine ⟨rfl, ?_⟩
      rw [link_is]
      have hni : ∀ n, (n, i) ∉ delL Q.dir nm := fun n hn => by
        obtain ⟨h1, h2⟩ := mem_del.1 hn
        refine h2 ?_
        have hp := hB.nd
        exact ids_one hp h1 hi
      -- the link is taken away and put again
      have hu : usedR Q i = true := used_or.2 (.inl ⟨nm, hi⟩)
      have hd : ∀ j, usedR { Q with dir := putL (delL Q.dir nm) tn i } j = true → usedR Q j = true := fun j hj => by
        rcases used_or.1 hj with ⟨n, hn⟩ | ⟨n, hn⟩
        · rcases put_mem_iff hn with ⟨_, e⟩ | e
          · rw [e]; exact hu
          · exact used_or.2 (.inl ⟨n, (mem_del.1 e).1⟩)
        · exact used_or.2 (.inr ⟨n, hn⟩)
      exact ⟨hB.room, hB.fl, hB.left, hB.torn, by show putL (delL B.dir nm) tn (φ i) = _; rw [hB.dir, del_pm, put_pm], hB.safe, fun j hj => hB.lt j (hd j hj), fun j k hj hk => hB.inj j k (hd j hj) (hd k hk), fun j hj => hB.fs j (hd j hj), put_ids (del_ids hB.nd nm) tn i (fun n hn => hni n (mem_del.1 hn).1), hB.ns, put_keys (del_keys hB.kd nm) tn i, hB.ks⟩
theorem Rel.flush (h : Rel A R φ) : (flushL A).1 = (rflushL R).1 ∧ Rel (flushL A).2 (rflushL R).2 φ := by
  obtain ⟨m1, m2, m3⟩ := h.may
  unfold flushL rflushL
  rw [m1]
  split
  · exact ⟨rfl, m3⟩
  · refine ⟨rfl, ?_⟩
    have hu : ∀ i, usedR { (rmayL R).2.2 with safe := (rmayL R).2.2.dir } i = true → usedR (rmayL R).2.2 i = true := fun i hi => by
      rcases used_or.1 hi with ⟨n, hn⟩ | ⟨n, hn⟩ <;> exact used_or.2 (.inl ⟨n, hn⟩)
    exact ⟨m3.room, m3.fl, m3.left, m3.torn, m3.dir, m3.dir, fun i hi => m3.lt i (hu i hi), fun i j hi hj => m3.inj i j (hu i hi) (hu j hj), fun i hi => m3.fs i (hu i hi), m3.nd, m3.nd, m3.kd, m3.kd⟩
theorem Rel.fail (h : Rel A R φ) (n : Int) : Rel (failL A n) (rfailL R n) φ := ⟨h.room, rfl, rfl, rfl, h.dir, h.safe, h.lt, h.inj, h.fs, h.nd, h.ns, h.kd, h.ks⟩
theorem crash_same (keep : Int) (x : List UInt8 × Nat) (h : x.2 ≤ x.1.length) : rcrashF keep x = crashF keep x := by
  have e : rcrashN keep x = crashN keep x := by
    unfold rcrashN crashN
    split <;> omega
  unfold rcrashF crashF
  rw [e]
theorem Rel.crash (h : Rel A R φ) (keep : Int) (hl : ∀ f, (A.fs f).2 ≤ (A.fs f).1.length) : Rel (crashL A keep) (rcrashL R keep) φ := by
  have hu : ∀ i, usedR (rcrashL R keep) i = true → usedR R i = true ∧ ∃ n, (n, i) ∈ R.safe := fun i hi => by
    rcases used_or.1 hi with ⟨n, hn⟩ | ⟨n, hn⟩ <;> exact ⟨used_or.2 (.inr ⟨n, hn⟩), n, hn⟩
  refine ⟨h.room, rfl, h.left, rfl, h.safe, h.safe, fun i hi => ?_, fun i j hi hj => h.inj i j (hu i hi).1 (hu j hj).1, fun i hi => ?_, h.ns, h.ns, h.ks, h.ks⟩
  · show i < (R.files.map _).length
    rw [List.length_map]; exact h.lt i (hu i hi).1
  · obtain ⟨hi1, n, hn⟩ := hu i hi
    show crashFs A keep (fun _ => true) (φ i) = (R.files.map (rcrashF keep)).getD i ([], 0)
    rw [crashFs_pos _ _ _ _ ⟨n, by rw [h.safe, find_pm, find_of_mem h.ks hn]; rfl, rfl⟩]
    have hlt := h.lt i hi1
    rw [List.getD_eq_getElem?_getD, List.getElem?_map, List.getElem?_eq_getElem hlt]
    have e := h.fs i hi1
    unfold fileR at e
    rw [List.getD_eq_getElem?_getD, List.getElem?_eq_getElem hlt] at e
    show _ = rcrashF keep R.files[i]
    have e' : A.fs (φ i) = R.files[i] := e
    rw [← e', crash_same keep _ (hl _)]
theorem Rel.read (h : Rel A R φ) (nm : Nm) : readL A nm = rreadL R nm := by
  unfold readL rreadL
  rw [h.dir, find_pm]
  cases hf : findL R.dir nm with
  | none => rfl
  | some i =>
    show some (A.fs (φ i)).1 = some (fileR R i).1
    rw [h.fs i (used_or.2 (.inl ⟨nm, find_mem_r hf⟩))]
theorem rel_new (room : Int) : Rel (newL room) ⟨room, [], [], [], false, 0, false⟩ id :=
  ⟨rfl, rfl, rfl, rfl, rfl, rfl, fun i hi => by simp [usedR, usedD] at hi, fun i j hi => by simp [usedR, usedD] at hi, fun i hi => by simp [usedR, usedD] at hi, List.nodup_nil, List.nodup_nil, List.nodup_nil, List.nodup_nil⟩

end Go.Proofs.Ytgpinkgfgkolfaa.PD

namespace Go.Proofs.Ytgpinkgfgkolfaa.PD
open Go.RowKit Go.Proofs.YtgpinkgfgkolfaaW.PrintWords Go.Proofs.YtgpinkgfgkolfaaW.PrintLast Go.Proofs.YtgpinkgfgkolfaaW.PrintMore
set_option linter.unusedVariables false
set_option linter.unusedSimpArgs false
set_option maxHeartbeats 4000000
set_option maxRecDepth 100000

open Go.Proofs
theorem ownsRow_keep {w w' : World} {base : Nat} {e : TypeId} {size : Nat} {v : Value} {n : Nat} {xs : List Value} (h : w.ownsRow base e size v n xs) (hk : ∀ g cur, v.ownBlock = some g → w.heap[g]? = some (.cells cur e (0, 0)) → w'.heap[g]? = w.heap[g]?) : w'.ownsRow base e size v n xs := by
  refine ⟨h.1, ?_⟩
  rcases h.2 with hn | ⟨g, cap, cur, rfl, hb, hgg, rest⟩
  · exact .inl hn
  · exact .inr ⟨g, cap, cur, rfl, hb, (hk g cur rfl hgg).trans hgg, rest⟩
theorem ownsRow_slice {w : World} {base : Nat} {e : TypeId} {size : Nat} {v : Value} {n : Nat} {xs : List Value} (h : w.ownsRow base e size v n xs) : ∃ A c, v = .slice A n c ∧ n ≤ c ∧ c ≤ maxLen := by
  rcases h.2 with ⟨rfl, rfl⟩ | ⟨g, cap, cur, rfl, hb, hgg, h1, h2, _⟩
  · exact ⟨none, 0, rfl, Nat.le_refl _, Nat.zero_le _⟩
  · exact ⟨_, cap, rfl, h1, h2⟩
/-- The cells of an element. -/
theorem ownsRow_at {w : World} {base : Nat} {e : TypeId} {size : Nat} {A : Option Addr} {c : Nat} {n : Nat} {xs : List Value} (h : w.ownsRow base e size (.slice A n c) n xs) (hn : 0 < n) : ∃ g cur, A = some ⟨g, 0, none⟩ ∧ w.heap[g]? = some (.cells cur e (0, 0)) ∧ ∀ j u, xs[j]? = some u → w.cell? ⟨g, j, none⟩ = some u := by
  rcases h.2 with ⟨h1, rfl⟩ | ⟨g, cap, cur, h1, hb, hgg, h2, h3, h4, h5⟩
  · omega
  · injection h1 with e1 e2 e3
    refine ⟨g, cur, e1, hgg, fun j u hj => ?_⟩
    rw [← h5, List.getElem?_take] at hj
    split at hj
    · simp only [World.cell?, hgg]
      simpa using hj
    · cases hj
/-- One cell is turned. -/
theorem ownsRow_set {w : World} {base : Nat} {e : TypeId} {size : Nat} {g n c : Nat} {xs : List Value} (h : w.ownsRow base e size (.slice (some ⟨g, 0, none⟩) n c) n xs) (j : Nat) (u : Value) : (w.setCell ⟨g, j, none⟩ u).ownsRow base e size (.slice (some ⟨g, 0, none⟩) n c) n (xs.set j u) := by
  refine ⟨by rw [List.length_set]; exact h.1, ?_⟩
  rcases h.2 with ⟨h1, _⟩ | ⟨g', cap, cur, h1, hb, hgg, h2, h3, h4, h5⟩
  · cases h1
  · injection h1 with e1 e2 e3
    injection e1 with e1
    injection e1 with e1 _ _
    subst e1
    refine .inr ⟨g, cap, _, by rw [e3], hb, Lib.heap_setCell_same hgg u, h2, h3, by simpa using h4, ?_⟩
    rw [Array.toList_setIfInBounds, List.take_set, h5]
/-- A beginning of it. -/
theorem ownsRow_take {w : World} {base : Nat} {e : TypeId} {size : Nat} {A : Option Addr} {n c : Nat} {xs : List Value} (h : w.ownsRow base e size (.slice A n c) n xs) (m : Nat) (hm : m ≤ n) : w.ownsRow base e size (.slice A m c) m (xs.take (m * size)) := by
  have hms : m * size ≤ n * size := Nat.mul_le_mul_right _ hm
  refine ⟨by rw [List.length_take, h.1]; omega, ?_⟩
  rcases h.2 with ⟨h1, h2⟩ | ⟨g, cap, cur, h1, hb, hgg, h2, h3, h4, h5⟩
  · injection h1 with e1 e2 e3
    subst e1 e3
    have : m = 0 := by omega
    subst this
    exact .inl ⟨rfl, rfl⟩
  · injection h1 with e1 e2 e3
    subst e1 e3
    refine .inr ⟨g, c, cur, rfl, hb, hgg, by omega, h3, h4, ?_⟩
    rw [← h5, List.take_take]
    congr 1; omega
/-- append in general: the row's own block, or a new one. -/
theorem append_gen {T sz bytes t : Nat} {i0 : TypeInfo} {z : Value} (ht : Try.prog.underlying t = some (.slice T)) (hi : Try.prog.info? T = some i0) (hz : i0.zero = some z) (hsz : i0.size = sz) (hby : i0.bytes = bytes) (hzs : z.cells.size = sz) (h0 : 0 < sz)
    {w : World} {v : Value} {n : Nat} {xs : List Value} (h : w.ownsRow 0 T sz v n xs) {x : Value} {m : Nat} {news : List Value} (hs : (x = .slice none 0 0 ∧ m = 0) ∨ ∃ a c, x = .slice (some a) m c ∧ ∀ j u, news[j]? = some u → w.cell? (a.add j) = some u)
    (hl : news.length = m * sz) (h1 : ∀ u ∈ news, u.oneCell' = true) (hm : n + m ≤ maxLen) (hb : (n + m) * bytes ≤ 140737488355328) :
    ∃ v1 w1, (Builtin.append_ #[t, t] t #[v, x]).run Try.prog w = .ok v1 w1 ∧ w1.ownsRow 0 T sz v1 (n + m) (xs ++ news) ∧ w.grownBy w1 v.ownBlock ∧ (v1.ownBlock = v.ownBlock ∨ v1.ownBlock = some w.heap.size) := by
  subst hsz hby
  by_cases hm0 : m = 0
  · subst hm0
    have hn : news = [] := List.eq_nil_of_length_eq_zero (by simpa using hl)
    subst hn
    have hrun : (Builtin.append_ #[t, t] t #[v, x]).run Try.prog w = .ok v w := by
      obtain ⟨A, c, rfl, hc, _⟩ := ownsRow_slice h
      rcases hs with ⟨rfl, _⟩ | ⟨a, c', rfl, _⟩
      · cases A <;> simp [Builtin.append_, run_underlying ht, sizeOf, typeInfo, hi, hc, Builtin.firstCells, Builtin.lenOf, storeCells]
      · have hf := run_firstCells_some (P := Try.prog) w i0.size 0 a 0 c' [] (by simp) (by simp)
        cases A <;> simp [Builtin.append_, run_underlying ht, sizeOf, typeInfo, hi, hc, hf, Builtin.lenOf, storeCells]
    exact ⟨v, w, hrun, by rw [List.append_nil]; exact h, World.grownBy.refl _ _, .inl rfl⟩
  · obtain ⟨a, c, rfl, hcell⟩ : ∃ a c, x = .slice (some a) m c ∧ ∀ j u, news[j]? = some u → w.cell? (a.add j) = some u := by
      rcases hs with ⟨_, e⟩ | h
      · exact absurd e hm0
      · exact h
    have hlen : (xs ++ news).length = (n + m) * i0.size := by rw [List.length_append, h.1, hl, Nat.add_mul]
    have grown : ∀ (old : Nat), old < n + m → (w.drew.alloc (.cells (xs.toArray ++ news.toArray ++ Builtin.zeroCells z.cells (grownCap w (n + m) old T - (n + m))) T)).ownsRow 0 T i0.size (.slice (some ⟨w.heap.size, 0, none⟩) (n + m) (grownCap w (n + m) old T)) (n + m) (xs ++ news) ∧
        ∀ row, w.grownBy (w.drew.alloc (.cells (xs.toArray ++ news.toArray ++ Builtin.zeroCells z.cells (grownCap w (n + m) old T - (n + m))) T)) row := fun old ho => by
      have hge := grownCap_ge w (n + m) old T
      refine ⟨⟨hlen, .inr ⟨w.heap.size, _, _, rfl, Nat.zero_le _, heap_alloc_new w.drew _, hge, grownCap_le_maxLen w (n + m) old T hm, ?_, ?_⟩⟩, fun row => ⟨rfl, rfl, rfl, by simp, fun k hk _ => Below.heap_alloc w.drew _ k hk⟩⟩
      · simp only [Array.size_append, List.size_toArray, size_zeroCells, hzs, h.1, hl, ← Nat.add_mul]
        congr 1; omega
      · simp only [Array.toList_append]
        rw [← hlen]
        exact List.take_left
    rcases h.2 with ⟨rfl, rfl⟩ | ⟨g, cap, cur, rfl, hbg, hg, hnc, hcm, hcs, htake⟩
    · have hx : xs = [] := List.eq_nil_of_length_eq_zero (by simpa using h.1)
      subst hx
      have hr := run_append_nil (P := Try.prog) (w := w) t t T i0 z ht hi hz a m c news hl hcell (by omega) (by unfold maxLen at hm; omega) (by simp only [Nat.zero_add] at hb; omega)
      obtain ⟨g1, g2⟩ := grown 0 (by omega)
      simp only [Nat.zero_add, List.nil_append] at g1 g2 ⊢
      have e0 : (#[] ++ news.toArray : Array Value) = news.toArray := by simp
      rw [show ([] : List Value).toArray = #[] from rfl, e0] at g1 g2
      exact ⟨_, _, hr, g1, g2 _, .inr rfl⟩
    · by_cases hroom : n + m ≤ cap
      · have hfit : n * i0.size + news.length ≤ cur.size := by rw [hl, hcs, ← Nat.add_mul]; exact Nat.mul_le_mul_right _ hroom
        have hr := run_append_room (P := Try.prog) (w := w) t t T i0 ht hi g n cap cur hg a m c news hl hcell h1 hroom hfit
        refine ⟨_, _, hr, ⟨hlen, .inr ⟨g, cap, _, rfl, hbg, setRow_heap w g cur _ _ _ hg, hroom, hcm, ?_, ?_⟩⟩, ⟨rfl, rfl, rfl, by simp, fun k _ hk => setRow_other w g k _ (fun e => hk (by rw [e]; rfl))⟩, .inl rfl⟩
        · simp only [List.size_toArray, List.length_append, List.length_take, List.length_drop, Array.length_toList]
          omega
        · show ((cur.toList.take (n * i0.size) ++ news) ++ cur.toList.drop (n * i0.size + news.length)).take ((n + m) * i0.size) = _
          rw [htake, ← hlen]
          exact List.take_left
      · have holds : ∀ j u, xs[j]? = some u → w.cell? ((⟨g, 0, none⟩ : Addr).add j) = some u := h.cells (g := g) rfl
        have hr := run_append_grow (P := Try.prog) (w := w) t t T i0 z ht hi hz ⟨g, 0, none⟩ n cap xs h.1 holds a m c news hl hcell (by omega) (by unfold maxLen at hm; omega) (growslice_fits (by omega) hb)
        obtain ⟨g1, g2⟩ := grown cap (by omega)
        exact ⟨_, _, hr, g1, g2 _, .inr rfl⟩
/-! ### rows of bytes -/
def BR (w : World) (ok : Nat → Prop) (u : Value) (bs : List UInt8) : Prop := w.ownsRow 0 5 1 u bs.length (bcells bs) ∧ ∀ g, u.ownBlock = some g → ok g
theorem BR.nil (w : World) (ok : Nat → Prop) : BR w ok (.slice none 0 0) [] := ⟨World.ownsRow_nil w 0 _ 1, fun g h => by cases h⟩
theorem BR.keep {w w' : World} {ok : Nat → Prop} {u : Value} {bs : List UInt8} (h : BR w ok u bs) (hk : ∀ g cur, ok g → w.heap[g]? = some (.cells cur 5 (0, 0)) → w'.heap[g]? = w.heap[g]?) : BR w' ok u bs :=
  ⟨ownsRow_keep h.1 fun g cur hg hh => hk g cur (h.2 g hg) hh, h.2⟩
theorem BR.mono {w : World} {ok ok' : Nat → Prop} {u : Value} {bs : List UInt8} (h : BR w ok u bs) (hk : ∀ g, ok g → g < w.heap.size → ok' g) : BR w ok' u bs :=
  ⟨h.1, fun g hg => hk g (h.2 g hg) (h.1.lt g hg).2⟩
theorem BR.slice {w : World} {ok : Nat → Prop} {u : Value} {bs : List UInt8} (h : BR w ok u bs) : ∃ A c, u = .slice A bs.length c ∧ bs.length ≤ c := by
  obtain ⟨A, c, h1, h2, _⟩ := ownsRow_slice h.1
  exact ⟨A, c, h1, h2⟩
theorem BR.src {w : World} {ok : Nat → Prop} {u : Value} {bs : List UInt8} (h : BR w ok u bs) : SrcAt w u bs := by
  obtain ⟨A, c, rfl, hc, _⟩ := ownsRow_slice h.1
  cases hl : bs with
  | nil =>
    subst hl
    cases A with
    | none =>
      rcases h.1.2 with ⟨h1, _⟩ | ⟨g, cap, cur, h1, _⟩
      · exact .inl ⟨h1, rfl⟩
      · cases h1
    | some a => exact .inr ⟨a, c, rfl, hc, fun j u hu => by simp [bcells] at hu⟩
  | cons b r =>
    rw [← hl]
    obtain ⟨g, cur, rfl, hh, hcell⟩ := ownsRow_at h.1 (by rw [hl]; simp)
    refine .inr ⟨_, c, rfl, hc, fun j u hu => ?_⟩
    have ha : (⟨g, 0, none⟩ : Addr).add j = ⟨g, j, none⟩ := by unfold Addr.add; split <;> simp_all
    rw [ha]
    exact hcell j u hu
theorem BR.take {w : World} {ok : Nat → Prop} {A : Option Addr} {c : Nat} {bs : List UInt8} (h : BR w ok (.slice A bs.length c) bs) (m : Nat) (hm : m ≤ bs.length) : BR w ok (.slice A m c) (bs.take m) := by
  have h1 := ownsRow_take h.1 m hm
  have e : (bs.take m).length = m := by rw [List.length_take]; omega
  refine ⟨?_, fun g hg => h.2 g (by cases A <;> exact hg)⟩
  rw [e, show bcells (bs.take m) = (bcells bs).take (m * 1) by rw [Nat.mul_one]; unfold bcells; exact (List.map_take ..)]
  exact h1
/-- append(row, bytes...): the row's own block or a new one. -/
theorem BR.append {w : World} {ok : Nat → Prop} {u x : Value} {bs xs : List UInt8} (h : BR w ok u bs) (hs : SrcAt w x xs) (hl : bs.length + xs.length ≤ 140737488355328) :
    ∃ v1 w1, (Builtin.append_ #[29, 29] 29 #[u, x]).run Try.prog w = .ok v1 w1 ∧ BR w1 (fun k => ok k ∨ k = w.heap.size) v1 (bs ++ xs) ∧ w.grownBy w1 u.ownBlock := by
  obtain ⟨i0, hi, hz0, hz1, hz2⟩ := info_parts info8
  have hsrc : (x = .slice none 0 0 ∧ xs.length = 0) ∨ ∃ a c, x = .slice (some a) xs.length c ∧ ∀ j u, (bcells xs)[j]? = some u → w.cell? (a.add j) = some u := by
    rcases hs with ⟨h1, h2⟩ | ⟨a, c, h1, _, h3⟩
    · exact .inl ⟨h1, by rw [h2]; rfl⟩
    · exact .inr ⟨a, c, h1, h3⟩
  obtain ⟨v1, w1, hrun, hr, hg, ho⟩ := append_gen Try.underlying29 hi hz0 hz1 hz2 rfl (by decide) h.1 hsrc (by rw [bcells_len, Nat.mul_one]) (bcells_one xs) (by unfold maxLen; omega) (by omega)
  refine ⟨v1, w1, hrun, ⟨by rw [List.length_append, show bcells (bs ++ xs) = bcells bs ++ bcells xs from bcells_app bs xs]; exact hr, fun g hgg => ?_⟩, hg⟩
  rcases ho with e | e
  · exact .inl (h.2 g (e.symm.trans hgg))
  · rw [e] at hgg; injection hgg with hgg; exact .inr hgg.symm
/-! ### links, files -/
def lcells (l : Dir) : List Value := l.flatMap fun p => [.string ⟨p.1.toArray⟩, .int .i64 (p.2 : Int)]
theorem lcells_len : ∀ l : Dir, (lcells l).length = l.length * 2
  | [] => rfl
  | p :: r => by
    have := lcells_len r
    unfold lcells at this ⊢
    rw [List.flatMap_cons, List.length_append, this, List.length_cons]
    simp only [List.length_cons, List.length_nil]; omega
theorem lcells_app (a b : Dir) : lcells (a ++ b) = lcells a ++ lcells b := List.flatMap_append
theorem lcells_one (l : Dir) : ∀ u ∈ lcells l, u.oneCell' = true := fun u hu => by
  obtain ⟨p, _, hp⟩ := List.mem_flatMap.1 hu
  simp at hp
  rcases hp with rfl | rfl <;> rfl
theorem lcells_at : ∀ (l : Dir) (i : Nat) (p : Nm × Nat), l[i]? = some p → (lcells l)[i * 2]? = some (.string ⟨p.1.toArray⟩) ∧ (lcells l)[i * 2 + 1]? = some (.int .i64 (p.2 : Int))
  | [], _, _, h => by simp at h
  | q :: r, 0, p, h => by
    simp at h
    subst h
    exact ⟨rfl, rfl⟩
  | q :: r, i + 1, p, h => by
    have := lcells_at r i p (by simpa using h)
    have e1 : (i + 1) * 2 = i * 2 + 2 := by omega
    rw [e1]
    exact this
def LinksAt (w : World) (ok : Nat → Prop) (v : Value) (l : Dir) : Prop := w.ownsRow 0 53 2 v l.length (lcells l) ∧ ∀ g, v.ownBlock = some g → ok g
theorem LinksAt.nil (w : World) (ok : Nat → Prop) : LinksAt w ok (.slice none 0 0) [] := ⟨World.ownsRow_nil w 0 _ 2, fun g h => by cases h⟩
theorem LinksAt.keep {w w' : World} {ok : Nat → Prop} {v : Value} {l : Dir} (h : LinksAt w ok v l) (hk : ∀ g cur, ok g → w.heap[g]? = some (.cells cur 53 (0, 0)) → w'.heap[g]? = w.heap[g]?) : LinksAt w' ok v l :=
  ⟨ownsRow_keep h.1 fun g cur hg hh => hk g cur (h.2 g hg) hh, h.2⟩
theorem LinksAt.mono {w : World} {ok ok' : Nat → Prop} {v : Value} {l : Dir} (h : LinksAt w ok v l) (hk : ∀ g, ok g → g < w.heap.size → ok' g) : LinksAt w ok' v l :=
  ⟨h.1, fun g hg => hk g (h.2 g hg) (h.1.lt g hg).2⟩
theorem LinksAt.slice {w : World} {ok : Nat → Prop} {v : Value} {l : Dir} (h : LinksAt w ok v l) : ∃ A c, v = .slice A l.length c := by
  obtain ⟨A, c, h1, _⟩ := ownsRow_slice h.1
  exact ⟨A, c, h1⟩
theorem LinksAt.below {w w' : World} {ok : Nat → Prop} {v : Value} {l : Dir} (h : LinksAt w ok v l) (hb : Below w.heap.size w w') : LinksAt w' ok v l :=
  h.keep fun g _ _ hh => hb.block g (Array.getElem?_eq_some_iff.1 hh).1
theorem LinksAt.at {w : World} {ok : Nat → Prop} {A : Option Addr} {c n : Nat} {l : Dir} (h : LinksAt w ok (.slice A n c) l) {i : Nat} (hi : i < l.length) : ∃ g p, A = some ⟨g, 0, none⟩ ∧ l[i]? = some p ∧ w.cell? ⟨g, i * 2, none⟩ = some (.string ⟨p.1.toArray⟩) ∧ w.cell? ⟨g, i * 2 + 1, none⟩ = some (.int .i64 (p.2 : Int)) := by
  have hn : n = l.length := by
    obtain ⟨A', c', e⟩ := h.slice
    injection e
  subst hn
  obtain ⟨g, cur, rfl, _, hc⟩ := ownsRow_at h.1 (by omega)
  have hp := List.getElem?_eq_getElem hi
  obtain ⟨h1, h2⟩ := lcells_at l i _ hp
  exact ⟨g, _, rfl, hp, hc _ _ h1, hc _ _ h2⟩
def fcells (us : List Value) (fs : List (List UInt8 × Nat)) : List Value := (us.zip fs).flatMap fun p => [p.1, .int .i64 (p.2.2 : Int)]
theorem fcells_len (us : List Value) (fs : List (List UInt8 × Nat)) (h : us.length = fs.length) : (fcells us fs).length = fs.length * 2 := by
  have : ∀ z : List (Value × (List UInt8 × Nat)), (z.flatMap fun p => [p.1, .int .i64 (p.2.2 : Int)]).length = z.length * 2 := fun z => by
    induction z with
    | nil => rfl
    | cons p r ih =>
      rw [List.flatMap_cons, List.length_append, ih, List.length_cons]
      simp only [List.length_cons, List.length_nil]; omega
  unfold fcells
  rw [this, List.length_zip, h]; simp
theorem fcells_at : ∀ (us : List Value) (fs : List (List UInt8 × Nat)) (i : Nat) (u : Value) (x : List UInt8 × Nat), us[i]? = some u → fs[i]? = some x → (fcells us fs)[i * 2]? = some u ∧ (fcells us fs)[i * 2 + 1]? = some (.int .i64 (x.2 : Int))
  | [], _, _, _, _, h, _ => by simp at h
  | _ :: _, [], _, _, _, _, h => by simp at h
  | a :: us, b :: fs, 0, u, x, h, h' => by
    simp at h h'
    subst h h'
    exact ⟨rfl, rfl⟩
  | a :: us, b :: fs, i + 1, u, x, h, h' => by
    have := fcells_at us fs i u x (by simpa using h) (by simpa using h')
    have e1 : (i + 1) * 2 = i * 2 + 2 := by omega
    rw [e1]
    exact this
theorem fcells_set : ∀ (us : List Value) (fs : List (List UInt8 × Nat)) (i : Nat) (u : Value) (x : List UInt8 × Nat), i < us.length → i < fs.length → fcells (us.set i u) (fs.set i x) = ((fcells us fs).set (i * 2) u).set (i * 2 + 1) (.int .i64 (x.2 : Int))
  | [], _, _, _, _, h, _ => by simp at h
  | _ :: _, [], _, _, _, _, h => by simp at h
  | a :: us, b :: fs, 0, u, x, _, _ => rfl
  | a :: us, b :: fs, i + 1, u, x, h, h' => by
    have := fcells_set us fs i u x (by simpa using h) (by simpa using h')
    have e1 : (i + 1) * 2 = i * 2 + 2 := by omega
    rw [e1]
    show a :: .int .i64 (b.2 : Int) :: fcells (us.set i u) (fs.set i x) = _
    rw [this]
    rfl
theorem fcells_snoc (us : List Value) (fs : List (List UInt8 × Nat)) (h : us.length = fs.length) (u : Value) (x : List UInt8 × Nat) : fcells (us ++ [u]) (fs ++ [x]) = fcells us fs ++ [u, .int .i64 (x.2 : Int)] := by
  unfold fcells
  rw [List.zip_append h, List.flatMap_append]
  rfl
def FilesAt (w : World) (ok : Nat → Prop) (tg : Nat → Nat) (v : Value) (fs : List (List UInt8 × Nat)) : Prop :=
  ∃ us : List Value, us.length = fs.length ∧ w.ownsRow 0 87 2 v fs.length (fcells us fs) ∧ (∀ g, v.ownBlock = some g → ok g) ∧ ∀ i u x, us[i]? = some u → fs[i]? = some x → BR w (fun k => ok k ∧ tg k = i) u x.1
theorem FilesAt.keep {w w' : World} {ok : Nat → Prop} {tg : Nat → Nat} {v : Value} {fs : List (List UInt8 × Nat)} (h : FilesAt w ok tg v fs) (hk : ∀ g, ok g → g < w.heap.size → w'.heap[g]? = w.heap[g]?) : FilesAt w' ok tg v fs := by
  obtain ⟨us, h1, h2, h3, h4⟩ := h
  exact ⟨us, h1, ownsRow_keep h2 fun g cur hg hh => hk g (h3 g hg) (Array.getElem?_eq_some_iff.1 hh).1, h3, fun i u x hu hx => (h4 i u x hu hx).keep fun g cur hg hh => hk g hg.1 (Array.getElem?_eq_some_iff.1 hh).1⟩
theorem FilesAt.slice {w : World} {ok : Nat → Prop} {tg : Nat → Nat} {v : Value} {fs : List (List UInt8 × Nat)} (h : FilesAt w ok tg v fs) : ∃ A c, v = .slice A fs.length c := by
  obtain ⟨us, h1, h2, h3, h4⟩ := h
  obtain ⟨A, c, e, _⟩ := ownsRow_slice h2
  exact ⟨A, c, e⟩
/-! ### the disk -/
def rcellsD (R : Rb) (F D S : Value) : Array Value := #[.int .i64 R.room, F, D, S, .bool R.fl, .int .i64 R.left, .bool R.torn]
def RB (w : World) (ok : Nat → Prop) (x : Nat) (F D S : Value) (tg : Nat → Nat) (R : Rb) : Prop :=
  ok x ∧ w.heap[x]? = some (.cells (rcellsD R F D S) 48 (0, 0)) ∧ FilesAt w ok tg F R.files ∧ LinksAt w ok D R.dir ∧ LinksAt w ok S R.safe
def RDisk (w : World) (ok : Nat → Prop) (x : Nat) (R : Rb) : Prop := ∃ F D S tg, RB w ok x F D S tg R
theorem RB.lt {w : World} {ok : Nat → Prop} {x : Nat} {F D S : Value} {tg : Nat → Nat} {R : Rb} (h : RB w ok x F D S tg R) : x < w.heap.size := (Array.getElem?_eq_some_iff.1 h.2.1).1
theorem RB.cell {w : World} {ok : Nat → Prop} {x : Nat} {F D S : Value} {tg : Nat → Nat} {R : Rb} (h : RB w ok x F D S tg R) (i : Nat) : w.cell? ⟨x, i, none⟩ = (rcellsD R F D S)[i]? := by
  simp [World.cell?, h.2.1]
theorem RB.free {w : World} {ok : Nat → Prop} {x : Nat} {F D S : Value} {tg : Nat → Nat} {R : Rb} (h : RB w ok x F D S tg R) (i : Nat) : w.frozen? ⟨x, i, none⟩ = false := Lib.frozen_of_heap h.2.1 i
theorem RDisk.keep {w w' : World} {ok : Nat → Prop} {x : Nat} {R : Rb} (h : RDisk w ok x R) (hk : ∀ k, k < w.heap.size → ok k → w'.heap[k]? = w.heap[k]?) : RDisk w' ok x R := by
  obtain ⟨F, D, S, tg, h1, h2, h3, h4, h5⟩ := h
  have hlt : ∀ {g : Nat} {o : Obj}, w.heap[g]? = some o → g < w.heap.size := fun e => (Array.getElem?_eq_some_iff.1 e).1
  exact ⟨F, D, S, tg, h1, (hk x (hlt h2) h1).trans h2, h3.keep fun g hg hl => hk g hl hg, h4.keep fun g _ hg hh => hk g (hlt hh) hg, h5.keep fun g _ hg hh => hk g (hlt hh) hg⟩
theorem RDisk.mono {w : World} {ok ok' : Nat → Prop} {x : Nat} {R : Rb} (h : RDisk w ok x R) (hk : ∀ k, k < w.heap.size → ok k → ok' k) : RDisk w ok' x R := by
  obtain ⟨F, D, S, tg, h1, h2, ⟨us, f1, f2, f3, f4⟩, h4, h5⟩ := h
  exact ⟨F, D, S, tg, hk x (Array.getElem?_eq_some_iff.1 h2).1 h1, h2, ⟨us, f1, f2, fun g hg => hk g (f2.lt g hg).2 (f3 g hg), fun i u x hu hx => (f4 i u x hu hx).mono fun g hg hl => ⟨hk g hl hg.1, hg.2⟩⟩, h4.mono fun g hg hl => hk g hl hg, h5.mono fun g hg hl => hk g hl hg⟩
theorem RDisk.bound {w : World} {ok : Nat → Prop} {x : Nat} {R : Rb} (h : RDisk w ok x R) : RDisk w (fun k => ok k ∧ k < w.heap.size) x R := h.mono fun _ h1 h2 => ⟨h2, h1⟩
theorem RDisk.below {w w' : World} {ok : Nat → Prop} {x : Nat} {R : Rb} (h : RDisk w ok x R) (hb : Below w.heap.size w w') : RDisk w' ok x R := h.keep fun k hk _ => hb.block k hk

end Go.Proofs.Ytgpinkgfgkolfaa.PD

namespace Go.Proofs.Ytgpinkgfgkolfaa.PD
open Go.RowKit Go.Proofs.YtgpinkgfgkolfaaW.PrintWords Go.Proofs.YtgpinkgfgkolfaaW.PrintLast Go.Proofs.YtgpinkgfgkolfaaW.PrintMore
set_option linter.unusedVariables false
set_option linter.unusedSimpArgs false
set_option maxHeartbeats 4000000
set_option maxRecDepth 100000

open Go.Proofs
theorem RB.ne {w : World} {ok : Nat → Prop} {x : Nat} {F D S : Value} {tg : Nat → Nat} {R : Rb} (h : RB w ok x F D S tg R) {g : Nat} {cur : Array Value} {T : TypeId} (hT : T ≠ 48) (hg : w.heap[g]? = some (.cells cur T (0, 0))) : g ≠ x := fun e => by
  rw [e, h.2.1] at hg
  simp only [Option.some.injEq, Obj.cells.injEq] at hg
  exact hT hg.2.1.symm
/-- Only the disk's own cells are turned. -/
theorem RB.turn {w w' : World} {ok : Nat → Prop} {x : Nat} {F D S : Value} {tg : Nat → Nat} {R R' : Rb} (h : RB w ok x F D S tg R) (e1 : R'.files = R.files) (e2 : R'.dir = R.dir) (e3 : R'.safe = R.safe)
    (hd : w'.heap[x]? = some (.cells (rcellsD R' F D S) 48 (0, 0))) (hk : ∀ k, k < w.heap.size → k ≠ x → w'.heap[k]? = w.heap[k]?) : RB w' ok x F D S tg R' := by
  have hne := fun {g : Nat} {cur : Array Value} {T : TypeId} (hT : T ≠ 48) (hg : w.heap[g]? = some (.cells cur T (0, 0))) => hk g (Array.getElem?_eq_some_iff.1 hg).1 (h.ne hT hg)
  obtain ⟨h1, h2, ⟨us, f1, f2, f3, f4⟩, h4, h5⟩ := h
  refine ⟨h1, hd, ?_, ?_, ?_⟩
  · rw [e1]
    exact ⟨us, f1, ownsRow_keep f2 fun g cur _ hh => hne (by decide) hh, f3, fun i u x hu hx => (f4 i u x hu hx).keep fun g cur _ hh => hne (by decide) hh⟩
  · rw [e2]; exact h4.keep fun g cur _ hh => hne (by decide) hh
  · rw [e3]; exact h5.keep fun g cur _ hh => hne (by decide) hh
set_option maxHeartbeats 4000000 in
theorem rmay_calls (ok : Nat → Prop) (x : Nat) (R : Rb) (w : World) (h : RDisk w ok x R) (hr : -9223372036854775808 ≤ R.left ∧ R.left ≤ 9223372036854775807) :
    Calls Try.prog 50 #[.pointer (some ⟨x, 0, none⟩)] w fun e w' => e = .returned (.tuple #[.bool (rmayL R).1, .bool (rmayL R).2.1]) ∧ RDisk w' ok x (rmayL R).2.2 ∧ Kp ok w w' := by
  obtain ⟨F, D, S, tg, h⟩ := h
  have c4 : w.cell? ⟨x, 4, none⟩ = some (.bool R.fl) := h.cell 4
  have c5 : w.cell? ⟨x, 5, none⟩ = some (.int .i64 R.left) := h.cell 5
  have c6 : w.cell? ⟨x, 6, none⟩ = some (.bool R.torn) := h.cell 6
  have f5 := h.free 5
  have f6 := h.free 6
  have HD := Aside0.mk h
  clear h
  unfold rmayL
  by_cases hfl : R.fl = false
  · rw [hfl] at c4
    rw [if_pos hfl]
    clear c5 c6 f5 f6 hfl
    go_enter Try.func50, Try.ntmps50
    go_wp2_with fail
    go_ret2
    exact ⟨rfl, ⟨F, D, S, tg, HD.out⟩, Kp.refl _ _⟩
  · have hfl' : R.fl = true := by simpa using hfl
    rw [hfl'] at c4
    rw [if_neg hfl]
    by_cases hl : R.left > 0
    · rw [if_pos hl]
      have d1 : decide (R.left > 0) = true := decide_eq_true hl
      have hw : wrap64 (R.left - 1) = R.left - 1 := by have := hr; unfold wrap64; omega
      have HT := Aside0.mk (show RB (w.setCell ⟨x, 5, none⟩ (.int .i64 (R.left - 1))) ok x F D S tg { R with left := R.left - 1 } from HD.out.turn rfl rfl rfl (heap_put HD.out.2.1 _ (by rfl)) (fun k _ hk => Below.heap_setCell w _ _ k hk))
      clear c6 f6 hfl hfl' hr
      go_enter Try.func50, Try.ntmps50
      go_wp2_with fail
      go_ret2
      rw [hw]
      exact ⟨rfl, ⟨F, D, S, tg, HT.out⟩, (Kp.refl _ _).setCell (p := ⟨x, 5, none⟩) HD.out.1 _⟩
    · rw [if_neg hl]
      have d1 : decide (R.left > 0) = false := decide_eq_false hl
      have HT := Aside0.mk (show RB (w.setCell ⟨x, 6, none⟩ (.bool true)) ok x F D S tg { R with torn := true } from HD.out.turn rfl rfl rfl (heap_put HD.out.2.1 _ (by rfl)) (fun k _ hk => Below.heap_setCell w _ _ k hk))
      clear f5 hfl hfl' hr
      go_enter Try.func50, Try.ntmps50
      go_wp2_with fail
      go_ret2
      exact ⟨rfl, ⟨F, D, S, tg, HT.out⟩, (Kp.refl _ _).setCell (p := ⟨x, 6, none⟩) HD.out.1 _⟩
/-- Where a name's file lies; -1: nowhere. -/
def atI (l : Dir) (k : Nm) : Int := match findL l k with | some i => (i : Int) | none => -1
theorem find_hit : ∀ (l : Dir) (k : Nm) (i : Nat) (p : Nm × Nat), (∀ (j : Nat) (q : Nm × Nat), j < i → l[j]? = some q → q.1 ≠ k) → l[i]? = some p → p.1 = k → findL l k = some p.2
  | [], _, _, _, _, h, _ => by simp at h
  | q :: r, k, 0, p, _, h, e => by
    simp at h
    subst h
    unfold findL
    simp [e]
  | q :: r, k, i + 1, p, hj, h, e => by
    have h1 := find_hit r k i p (fun j q' hji hq => hj (j + 1) q' (by omega) (by simpa using hq)) (by simpa using h) e
    have h2 := hj 0 q (by omega) rfl
    unfold findL at h1 ⊢
    rw [List.find?_cons, show (q.1 == k) = false by simpa using h2]
    exact h1
theorem find_miss (l : Dir) (k : Nm) (h : ∀ (j : Nat) (q : Nm × Nat), l[j]? = some q → q.1 ≠ k) : findL l k = none := by
  unfold findL
  rw [List.find?_eq_none.2 (fun x hx => ?_)]
  · rfl
  · obtain ⟨j, hj⟩ := List.getElem?_of_mem hx
    simpa using h j x hj
theorem nm_eq (p : Nm) (nm : ByteArray) : ((⟨p.toArray⟩ : ByteArray) = nm) ↔ p = nm.data.toList := by
  constructor
  · intro h; rw [← h]
  · intro h; rw [h]
set_option maxHeartbeats 4000000 in
theorem rfind_calls (ok : Nat → Prop) (A : Option Addr) (c n : Nat) (l : Dir) (nm : ByteArray) (w : World) (h : LinksAt w ok (.slice A n c) l) :
    Calls Try.prog 45 #[.slice A n c, .string nm] w fun e w' => e = .returned (.int .i64 (atI l nm.data.toList)) ∧ Below w.heap.size w w' := by
  have hn : n = l.length := by
    obtain ⟨A', c', e⟩ := h.slice
    injection e
  have HL := Aside0.mk h
  have HN := Aside0.mk hn
  have HM := Aside0.mk (show n ≤ 9223372036854775807 by
    obtain ⟨A', c', e, h1, h2⟩ := ownsRow_slice h.1
    injection e with _ e _
    unfold maxLen at h2; omega)
  clear h hn
  go_enter Try.func45, Try.ntmps45
  go_wp2_with fail
  go_loopw [9] (fun v wr => ∃ i : Nat, v = .int .i64 (i : Int) ∧ Aside0 (i ≤ n) ∧ Aside0 (∀ (j : Nat) (q : Nm × Nat), j < i → l[j]? = some q → q.1 ≠ nm.data.toList) ∧ Aside0 (Below w.heap.size w wr)) (fun v _ => n - (intOf v).toNat)
  case atStart => exact ⟨0, rfl, Aside0.mk (Nat.zero_le _), Aside0.mk (fun j q hj => by omega), Aside0.mk (Below.refl _ _)⟩
  case round =>
    obtain ⟨i, rfl, HI, HJ, HB⟩ := hrel
    by_cases hin : i < n
    · have d1 : decide ((i : Int) < (n : Int)) = true := decide_eq_true (by omega)
      have hin2 : (i : Int) < (n : Int) := by omega
      have hi0 : (0 : Int) ≤ (i : Int) := by omega
      obtain ⟨g, p, rfl, hp, k0, k1⟩ := (HL.out.below HB.out).at (i := i) (by have := HN.out; omega)
      have HP := Aside0.mk hp
      have HI' := Aside0.mk hin
      have hwi : wrap64 ((i : Int) + 1) = ((i + 1 : Nat) : Int) := by have := HM.out; have := HI'.out; unfold wrap64; omega
      have hbx := below_alloc (Below.refl wr.heap.size wr) (.cells #[.string ⟨p.1.toArray⟩, .int .i64 (p.2 : Int)] 53)
      have HBX := Aside0.mk (HB.out.trans (hbx.mono HB.out.size))
      clear hin hp hbx
      by_cases hq : p.1 = nm.data.toList
      · have e2 : (p.1 == nm.toList) = true := by rw [Lib.toList_data nm]; exact beq_iff_eq.2 hq
        have HAT := Aside0.mk (show atI l nm.data.toList = (p.2 : Int) by unfold atI; rw [find_hit l _ i p HJ.out HP.out hq])
        clear hq
        go_wp2_with fail
        go_ret
        exact ⟨by rw [HAT.out]; rfl, HBX.out⟩
      · have e2 : (p.1 == nm.toList) = false := by rw [Lib.toList_data nm]; exact beq_eq_false_iff_ne.2 hq
        have HQ := Aside0.mk hq
        clear hq
        go_wp2_with fail
        go_roundw
        case rel => exact ⟨i + 1, by first | rw [hwi] | rfl, Aside0.mk HI'.out, Aside0.mk (fun (j : Nat) (q : Nm × Nat) hj hq => by
          rcases Nat.lt_succ_iff_lt_or_eq.1 hj with h | h
          · exact HJ.out j q h hq
          · rw [h, HP.out] at hq; injection hq with hq; rw [← hq]; exact HQ.out), HBX⟩
        case measure => first | (rw [hwi]; simp [intOf]; have := HI'.out; omega) | (simp [intOf]; have := HI'.out; omega)
    · have d1 : decide ((i : Int) < (n : Int)) = false := decide_eq_false (by omega)
      have hin2 : ¬ ((i : Int) < (n : Int)) := by omega
      have HAT := Aside0.mk (show atI l nm.data.toList = -1 by
        unfold atI
        rw [find_miss l _ (fun j q hj => HJ.out j q (by have := HN.out; have := (List.getElem?_eq_some_iff.1 hj).1; omega) hj)])
      clear hin
      go_wp2_with fail
      go_ret
      exact ⟨by rw [HAT.out]; rfl, HB.out⟩

end Go.Proofs.Ytgpinkgfgkolfaa.PD

namespace Go.Proofs.Ytgpinkgfgkolfaa.PD
open Go.RowKit Go.Proofs.YtgpinkgfgkolfaaW.PrintWords Go.Proofs.YtgpinkgfgkolfaaW.PrintLast Go.Proofs.YtgpinkgfgkolfaaW.PrintMore
set_option linter.unusedVariables false
set_option linter.unusedSimpArgs false
set_option maxHeartbeats 4000000
set_option maxRecDepth 100000

open Go.Proofs
theorem infoL : (Try.prog.info? 53).map (fun i => (i.zero, i.size, i.bytes)) = some (some (.agg #[.string ⟨#[]⟩, .int .i64 0]), 2, 24) := by kernel_rfl
def lobj (p : Nm × Nat) : Obj := (.cells #[.string ⟨p.1.toArray⟩, .int .i64 (p.2 : Int)] 53)
/-- append of one link onto links of the call's own. -/
theorem link_app {W : World} {ok : Nat → Prop} {v : Value} {acc : Dir} (h : LinksAt W ok v acc) (p : Nm × Nat) (hl : (acc.length + 1) * 24 ≤ 140737488355328) :
    ∃ v1 w1, (Builtin.append_ #[46, 46] 46 #[v, .slice (some ⟨W.heap.size, 0, none⟩) 1 1]).run Try.prog (W.alloc (lobj p)) = .ok v1 w1 ∧ LinksAt w1 (fun k => ok k ∨ k = W.heap.size + 1) v1 (acc ++ [p]) ∧ (W.alloc (lobj p)).grownBy w1 v.ownBlock := by
  obtain ⟨i0, hi, hz0, hz1, hz2⟩ := info_parts infoL
  have hb : Below W.heap.size W (W.alloc (lobj p)) := below_alloc (Below.refl _ _) _
  have hnew : (W.alloc (lobj p)).heap[W.heap.size]? = some (lobj p) := heap_alloc_new W _
  have hsrc : ∀ j u, (lcells [p])[j]? = some u → (W.alloc (lobj p)).cell? ((⟨W.heap.size, 0, none⟩ : Addr).add j) = some u := fun j u hj => by
    have ha : (⟨W.heap.size, 0, none⟩ : Addr).add j = ⟨W.heap.size, j, none⟩ := by unfold Addr.add; split <;> simp_all
    have hnew' : (W.alloc (lobj p)).heap[W.heap.size]? = some (.cells #[.string ⟨p.1.toArray⟩, .int .i64 (p.2 : Int)] 53 (0, 0)) := hnew
    have hj' : (#[Value.string ⟨p.1.toArray⟩, .int .i64 (p.2 : Int)] : Array Value)[j]? = some u := by rw [← Array.getElem?_toList]; exact hj
    rw [ha]
    exact (cell_of_row _ W.heap.size j _ _ (0, 0) hnew').trans hj'
  obtain ⟨v1, w1, hrun, hr, hg, ho⟩ := append_gen Try.underlying46 hi hz0 hz1 hz2 rfl (by decide) (h.below hb).1 (.inr ⟨_, 1, rfl, hsrc⟩) (by rw [lcells_len]) (lcells_one [p]) (by unfold maxLen; simp only [List.length_cons, List.length_nil]; omega) (by simp only [List.length_cons, List.length_nil]; omega)
  refine ⟨v1, w1, hrun, ⟨by rw [List.length_append, lcells_app]; exact hr, fun g hgg => ?_⟩, hg⟩
  rcases ho with e | e
  · exact .inl (h.2 g (e.symm.trans hgg))
  · rw [e] at hgg; injection hgg with hgg; exact .inr (by rw [← hgg]; simp)
theorem own_lt {w : World} {ok : Nat → Prop} {v : Value} {l : Dir} (h : LinksAt w ok v l) {g : Nat} (hg : v.ownBlock = some g) : g < w.heap.size := (h.1.lt g hg).2
/-- What link makes. -/
def lnk (nm : Nm) (at_ : Int) (l : Dir) : Dir := linkG nm at_.toNat (decide (at_ < 0)) l
theorem lnk_del (nm : Nm) (l : Dir) : lnk nm (-1) l = delL l nm := link_true nm 0 l
theorem lnk_put (nm : Nm) (b : Nat) (l : Dir) : lnk nm (b : Int) l = putL l nm b := by
  unfold lnk
  rw [show decide ((b : Int) < 0) = false from decide_eq_false (by omega)]
  exact link_is nm b l
theorem less_is : ∀ a b : Nm, Op.bytesLess a b = bytesBefore a b
  | [], [] => rfl
  | [], _ :: _ => rfl
  | _ :: _, [] => rfl
  | x :: r, y :: s => by
    unfold Op.bytesLess bytesBefore
    rw [less_is r s]
/-- One link more, behind a box that holds the one that was read. -/
theorem app2 {w W : World} {v : Value} {acc : Dir} (hB : Below w.heap.size w W) (hO : LinksAt W (fun k => w.heap.size ≤ k) v acc) (q : Nm × Nat) (hl : acc.length ≤ 3000000) :
    ∃ A1 c1 w1, (Builtin.append_ #[46, 46] 46 #[v, .slice (some ⟨W.heap.size, 0, none⟩) 1 1]).run Try.prog (W.alloc (lobj q)) = .ok (.slice A1 (acc.length + 1) c1) w1 ∧ LinksAt w1 (fun k => w.heap.size ≤ k) (.slice A1 (acc.length + 1) c1) (acc ++ [q]) ∧ Below w.heap.size w w1 ∧
      (∀ bx o, W.heap[bx]? = some o → (∀ g, v.ownBlock = some g → g ≠ bx) → w1.heap[bx]? = some o) := by
  obtain ⟨v1, w1, hrun, hr, hg⟩ := link_app hO q (by omega)
  obtain ⟨A1, c1, e⟩ := hr.slice
  rw [List.length_append] at e
  have e' : v1 = .slice A1 (acc.length + 1) c1 := e
  subst e'
  have hb : Below W.heap.size W (W.alloc (lobj q)) := below_alloc (Below.refl _ _) _
  refine ⟨A1, c1, w1, hrun, hr.mono (fun g hg _ => ?_), ?_, fun bx o ho hne => ?_⟩
  · rcases hg with h | h
    · exact h
    · rw [h]; exact Nat.le_trans hB.size (Nat.le_succ _)
  · refine (hB.trans (hb.mono hB.size)).trans ⟨hg.os, hg.tape, hg.output, hg.size, fun k hk => hg.block k (Nat.lt_of_lt_of_le hk (Nat.le_trans hB.size hb.size)) (fun e => ?_)⟩
    have := hO.2 k e.symm
    omega
  · have hlt := (Array.getElem?_eq_some_iff.1 ho).1
    exact (hg.block bx (Nat.lt_of_lt_of_le hlt hb.size) (fun e => hne bx e.symm rfl)).trans ((hb.block bx hlt).trans ho)
set_option maxHeartbeats 16000000 in
theorem rlink_calls (ok : Nat → Prop) (A : Option Addr) (c n : Nat) (l : Dir) (nm : ByteArray) (at_ : Int) (w : World) (h : LinksAt w ok (.slice A n c) l) (hl : l.length ≤ 1000000) (hat : -1 ≤ at_) :
    Calls Try.prog 53 #[.slice A n c, .string nm, .int .i64 at_] w fun e w' => ∃ v, e = .returned v ∧ LinksAt w' (fun k => w.heap.size ≤ k) v (lnk nm.data.toList at_ l) ∧ Below w.heap.size w w' := by
  have hn : n = l.length := by
    obtain ⟨A', c', e⟩ := h.slice
    injection e
  have HL := Aside0.mk h
  have HN := Aside0.mk hn
  have HM := Aside0.mk hl
  obtain ⟨dn0, hdn0⟩ : ∃ b, b = decide (at_ < 0) := ⟨_, rfl⟩
  have HDN := Aside0.mk hdn0
  have hdn := hdn0.symm
  have HAT := Aside0.mk hat
  clear h hn hl hdn0 hat
  have HR := Aside0.mk (show lnk nm.data.toList at_ l = linkG nm.data.toList at_.toNat dn0 l by unfold lnk; rw [HDN.out])
  go_enter Try.func53, Try.ntmps53
  go_wp2_with fail
  go_loopw [7, 8, 15] (fun v7 v8 v wr => ∃ (i : Nat) (acc : Dir) (dn : Bool), v = .int .i64 (i : Int) ∧ v8 = .bool dn ∧ Aside0 (i ≤ n ∧ acc.length ≤ i + i) ∧ Aside0 (dn = false → 0 ≤ at_) ∧ Aside0 (acc ++ linkG nm.data.toList at_.toNat dn (l.drop i) = lnk nm.data.toList at_ l) ∧ Aside0 (LinksAt wr (fun k => w.heap.size ≤ k) v7 acc) ∧ Aside0 (Below w.heap.size w wr)) (fun _ _ v _ => n - (intOf v).toNat)
  case atStart => exact ⟨0, [], dn0, rfl, rfl, Aside0.mk ⟨Nat.zero_le _, Nat.le_refl _⟩, Aside0.mk (fun e => by have := HDN.out; rw [e] at this; have := of_decide_eq_false this.symm; omega), Aside0.mk (by rw [HR.out]; rfl), Aside0.mk (LinksAt.nil _ _), Aside0.mk (Below.refl _ _)⟩
  case round =>
    obtain ⟨i, acc, dn, rfl, rfl, HI, HZ, HA, HO, HB⟩ := hrel
    obtain ⟨A7, c7, hv7⟩ := HO.out.slice
    obtain ⟨m7, hm7⟩ : ∃ m, m = acc.length := ⟨_, rfl⟩
    rw [← hm7] at hv7
    subst hv7
    have HM7 := Aside0.mk hm7
    have HBD := Aside0.mk (show acc.length ≤ 2000000 by have := HI.out; have := HN.out; have := HM.out; omega)
    clear hm7
    by_cases hin : i < n
    · have d1 : decide ((i : Int) < (n : Int)) = true := decide_eq_true (by omega)
      have hin2 : (i : Int) < (n : Int) := by omega
      have hi0 : (0 : Int) ≤ (i : Int) := by omega
      obtain ⟨g, p, rfl, hp, k0, k1⟩ := (HL.out.below HB.out).at (i := i) (by have := HN.out; omega)
      have HI' := Aside0.mk hin
      have HDR := Aside0.mk (show l.drop i = p :: l.drop (i + 1) by
        obtain ⟨h1, h2⟩ := List.getElem?_eq_some_iff.1 hp
        rw [List.drop_eq_getElem_cons h1, h2])
      have hwi : wrap64 ((i : Int) + 1) = ((i + 1 : Nat) : Int) := by have := HM.out; have := HN.out; have := HI'.out; unfold wrap64; omega
      have hbx := below_alloc (Below.refl wr.heap.size wr) (lobj p)
      have hbn := heap_alloc_new wr (lobj p)
      have HBX := Aside0.mk (HB.out.trans (hbx.mono HB.out.size))
      have HOX := Aside0.mk (HO.out.below hbx)
      have HNE := Aside0.mk (show ∀ g, (Value.slice A7 m7 c7).ownBlock = some g → g ≠ wr.heap.size from fun g hg => by have := own_lt HO.out hg; omega)
      have HSZ := Aside0.mk (show (wr.alloc (lobj p)).heap.size = wr.heap.size + 1 by simp)
      clear hin hp hbx
      cases dn
      · obtain ⟨b, hb0⟩ : ∃ b : Nat, at_ = (b : Int) := ⟨at_.toNat, by have := HZ.out rfl; omega⟩
        have hbt : at_.toNat = b := by omega
        by_cases hb : bytesBefore nm.data.toList p.1 = true
        · have e1 : Op.bytesLess nm.toList p.1 = true := by rw [Lib.toList_data nm, less_is]; exact hb
          have hq : p.1 ≠ nm.data.toList := fun e => by rw [e, before_irrefl] at hb; cases hb
          have e2 : (p.1 == nm.toList) = false := by rw [Lib.toList_data nm]; exact beq_eq_false_iff_ne.2 hq
          obtain ⟨A8, c8, w3, hrun, hO3, hB3, hK3⟩ := app2 HBX.out HOX.out (nm.data.toList, b) (by have := HBD.out; omega)
          have hb3 := hK3 _ _ hbn HNE.out
          have HRUN : Aside0 ((Builtin.append_ #[46, 46] 46 #[.slice A7 m7 c7, .slice (some ⟨wr.heap.size + 1, 0, none⟩) 1 1]).run Try.prog ((wr.alloc (.cells #[.string ⟨p.1.toArray⟩, .int .i64 (p.2 : Int)] 53)).alloc (.cells #[.string nm, .int .i64 at_] 53)) = .ok (.slice A8 (m7 + 1) c8) w3) := Aside0.mk (by
            rw [hb0]
            have := hrun
            rw [HSZ.out, ← HM7.out] at this
            exact this)
          rw [← HM7.out] at hO3
          have q0 : w3.cell? ⟨wr.heap.size, 0, none⟩ = some (.string ⟨p.1.toArray⟩) := by unfold lobj at hb3; simp [World.cell?, hb3]
          have q1 : w3.cell? ⟨wr.heap.size, 1, none⟩ = some (.int .i64 (p.2 : Int)) := by unfold lobj at hb3; simp [World.cell?, hb3]
          obtain ⟨A9, c9, w4, hrun4, hO4, hB4, -⟩ := app2 hB3 hO3 p (by rw [List.length_append]; simp only [List.length_cons, List.length_nil]; have := HBD.out; omega)
          have HRUN4 : Aside0 ((Builtin.append_ #[46, 46] 46 #[.slice A8 (m7 + 1) c8, .slice (some ⟨w3.heap.size, 0, none⟩) 1 1]).run Try.prog (w3.alloc (.cells #[.string ⟨p.1.toArray⟩, .int .i64 (p.2 : Int)] 53)) = .ok (.slice A9 (m7 + 1 + 1) c9) w4) := Aside0.mk (by
            have := hrun4
            rw [List.length_append, ← HM7.out] at this
            exact this)
          have HO4 : Aside0 (LinksAt w4 (fun k => w.heap.size ≤ k) (.slice A9 (m7 + 1 + 1) c9) ((acc ++ [(nm.data.toList, b)]) ++ [p])) := Aside0.mk (by
            have := hO4
            rw [List.length_append, ← HM7.out] at this
            exact this)
          have HB4 := Aside0.mk hB4
          have HA4 := Aside0.mk (show ((acc ++ [(nm.data.toList, b)]) ++ [p]) ++ linkG nm.data.toList at_.toNat true (l.drop (i + 1)) = lnk nm.data.toList at_ l by
            rw [← HA.out, HDR.out, hbt]
            conv => rhs; unfold linkG
            rw [if_pos (by simpa using hb), if_neg hq]
            simp)
          have HL4 := Aside0.mk (show ((acc ++ [(nm.data.toList, b)]) ++ [p]).length ≤ (i + 1) + (i + 1) by simp only [List.length_append, List.length_cons, List.length_nil]; have := HI.out; omega)
          generalize (acc ++ [(nm.data.toList, b)]) ++ [p] = acc4 at *
          clear hrun hrun4 hO3 hB3 hK3 hb3 hO4 hB4 hb hq hbn hb0 hbt HNE
          go_wp2_with (at_builtin; first | refine wpList_append_run rfl _ _ 46 rfl _ _ _ _ rfl rfl HRUN.out ?_ | refine wpList_append_run rfl _ _ 46 rfl _ _ _ _ rfl rfl HRUN4.out ?_)
          go_roundw
          case rel => exact ⟨i + 1, acc4, true, by first | rw [hwi] | rfl, rfl, Aside0.mk ⟨HI'.out, HL4.out⟩, Aside0.mk (fun e => by cases e), HA4, HO4, HB4⟩
          case measure => first | (rw [hwi]; simp [intOf]; have := HI'.out; omega) | (simp [intOf]; have := HI'.out; omega)
        · have e1 : Op.bytesLess nm.toList p.1 = false := by rw [Lib.toList_data nm, less_is]; simpa using hb
          by_cases hq : p.1 = nm.data.toList
          · have e2 : (p.1 == nm.toList) = true := by rw [Lib.toList_data nm]; exact beq_iff_eq.2 hq
            have HA4 := Aside0.mk (show acc ++ linkG nm.data.toList at_.toNat false (l.drop (i + 1)) = lnk nm.data.toList at_ l by
              rw [← HA.out, HDR.out]
              conv => rhs; unfold linkG
              rw [if_neg (by simpa using hb), if_pos hq])
            clear hb hq hbn hb0 hbt HNE
            go_wp2_with fail
            go_roundw
            case rel => exact ⟨i + 1, acc, false, by first | rw [hwi] | rfl, rfl, Aside0.mk ⟨HI'.out, by have := HI.out; omega⟩, HZ, HA4, HOX, HBX⟩
            case measure => first | (rw [hwi]; simp [intOf]; have := HI'.out; omega) | (simp [intOf]; have := HI'.out; omega)
          · have e2 : (p.1 == nm.toList) = false := by rw [Lib.toList_data nm]; exact beq_eq_false_iff_ne.2 hq
            have HA4 := Aside0.mk (show (acc ++ [p]) ++ linkG nm.data.toList at_.toNat false (l.drop (i + 1)) = lnk nm.data.toList at_ l by
              rw [← HA.out, HDR.out]
              conv => rhs; unfold linkG
              rw [if_neg (by simpa using hb), if_neg hq]
              simp)
            clear hb hq hbn hb0 hbt HNE
            obtain ⟨A9, c9, w4, hrun4, hO4, hB4, -⟩ := app2 HBX.out HOX.out p (by have := HBD.out; omega)
            have HRUN4 : Aside0 ((Builtin.append_ #[46, 46] 46 #[.slice A7 m7 c7, .slice (some ⟨wr.heap.size + 1, 0, none⟩) 1 1]).run Try.prog ((wr.alloc (.cells #[.string ⟨p.1.toArray⟩, .int .i64 (p.2 : Int)] 53)).alloc (.cells #[.string ⟨p.1.toArray⟩, .int .i64 (p.2 : Int)] 53)) = .ok (.slice A9 (m7 + 1) c9) w4) := Aside0.mk (by
              have := hrun4
              rw [HSZ.out, ← HM7.out] at this
              exact this)
            have HO4 : Aside0 (LinksAt w4 (fun k => w.heap.size ≤ k) (.slice A9 (m7 + 1) c9) (acc ++ [p])) := Aside0.mk (by rw [← HM7.out] at hO4; exact hO4)
            have HB4 := Aside0.mk hB4
            have HL4 := Aside0.mk (show (acc ++ [p]).length ≤ (i + 1) + (i + 1) by simp only [List.length_append, List.length_cons, List.length_nil]; have := HI.out; omega)
            clear hrun4 hO4 hB4
            generalize acc ++ [p] = acc4 at *
            go_wp2_with (at_builtin; refine wpList_append_run rfl _ _ 46 rfl _ _ _ _ rfl rfl HRUN4.out ?_)
            go_roundw
            case rel => exact ⟨i + 1, acc4, false, by first | rw [hwi] | rfl, rfl, Aside0.mk ⟨HI'.out, HL4.out⟩, HZ, HA4, HO4, HB4⟩
            case measure => first | (rw [hwi]; simp [intOf]; have := HI'.out; omega) | (simp [intOf]; have := HI'.out; omega)
      · by_cases hq : p.1 = nm.data.toList
        · have e2 : (p.1 == nm.toList) = true := by rw [Lib.toList_data nm]; exact beq_iff_eq.2 hq
          have HA4 := Aside0.mk (show acc ++ linkG nm.data.toList at_.toNat true (l.drop (i + 1)) = lnk nm.data.toList at_ l by
            rw [← HA.out, HDR.out]
            conv => rhs; unfold linkG
            rw [if_neg (by simp), if_pos hq])
          clear hq hbn HNE
          go_wp2_with fail
          go_roundw
          case rel => exact ⟨i + 1, acc, true, by first | rw [hwi] | rfl, rfl, Aside0.mk ⟨HI'.out, by have := HI.out; omega⟩, HZ, HA4, HOX, HBX⟩
          case measure => first | (rw [hwi]; simp [intOf]; have := HI'.out; omega) | (simp [intOf]; have := HI'.out; omega)
        · have e2 : (p.1 == nm.toList) = false := by rw [Lib.toList_data nm]; exact beq_eq_false_iff_ne.2 hq
          have HA4 := Aside0.mk (show (acc ++ [p]) ++ linkG nm.data.toList at_.toNat true (l.drop (i + 1)) = lnk nm.data.toList at_ l by
            rw [← HA.out, HDR.out]
            conv => rhs; unfold linkG
            rw [if_neg (by simp), if_neg hq]
            simp)
          clear hq hbn HNE
          obtain ⟨A9, c9, w4, hrun4, hO4, hB4, -⟩ := app2 HBX.out HOX.out p (by have := HBD.out; omega)
          have HRUN4 : Aside0 ((Builtin.append_ #[46, 46] 46 #[.slice A7 m7 c7, .slice (some ⟨wr.heap.size + 1, 0, none⟩) 1 1]).run Try.prog ((wr.alloc (.cells #[.string ⟨p.1.toArray⟩, .int .i64 (p.2 : Int)] 53)).alloc (.cells #[.string ⟨p.1.toArray⟩, .int .i64 (p.2 : Int)] 53)) = .ok (.slice A9 (m7 + 1) c9) w4) := Aside0.mk (by
            have := hrun4
            rw [HSZ.out, ← HM7.out] at this
            exact this)
          have HO4 : Aside0 (LinksAt w4 (fun k => w.heap.size ≤ k) (.slice A9 (m7 + 1) c9) (acc ++ [p])) := Aside0.mk (by rw [← HM7.out] at hO4; exact hO4)
          have HB4 := Aside0.mk hB4
          have HL4 := Aside0.mk (show (acc ++ [p]).length ≤ (i + 1) + (i + 1) by simp only [List.length_append, List.length_cons, List.length_nil]; have := HI.out; omega)
          clear hrun4 hO4 hB4
          generalize acc ++ [p] = acc4 at *
          go_wp2_with (at_builtin; refine wpList_append_run rfl _ _ 46 rfl _ _ _ _ rfl rfl HRUN4.out ?_)
          go_roundw
          case rel => exact ⟨i + 1, acc4, true, by first | rw [hwi] | rfl, rfl, Aside0.mk ⟨HI'.out, HL4.out⟩, HZ, HA4, HO4, HB4⟩
          case measure => first | (rw [hwi]; simp [intOf]; have := HI'.out; omega) | (simp [intOf]; have := HI'.out; omega)
    · have d1 : decide ((i : Int) < (n : Int)) = false := decide_eq_false (by omega)
      have hin2 : ¬ ((i : Int) < (n : Int)) := by omega
      have HDR := Aside0.mk (show l.drop i = [] by rw [List.drop_eq_nil_iff]; have := HN.out; omega)
      clear hin
      cases dn
      · obtain ⟨b, hb0⟩ : ∃ b : Nat, at_ = (b : Int) := ⟨at_.toNat, by have := HZ.out rfl; omega⟩
        have hbt : at_.toNat = b := by omega
        obtain ⟨A9, c9, w4, hrun4, hO4, hB4, -⟩ := app2 HB.out HO.out (nm.data.toList, b) (by have := HBD.out; omega)
        have HRUN4 : Aside0 ((Builtin.append_ #[46, 46] 46 #[.slice A7 m7 c7, .slice (some ⟨wr.heap.size, 0, none⟩) 1 1]).run Try.prog (wr.alloc (.cells #[.string nm, .int .i64 at_] 53)) = .ok (.slice A9 (m7 + 1) c9) w4) := Aside0.mk (by
          rw [hb0]
          have := hrun4
          rw [← HM7.out] at this
          exact this)
        have HO4 : Aside0 (LinksAt w4 (fun k => w.heap.size ≤ k) (.slice A9 (m7 + 1) c9) (lnk nm.data.toList at_ l)) := Aside0.mk (by
          rw [← HA.out, HDR.out, hbt]
          rw [← HM7.out] at hO4
          exact hO4)
        have HB4 := Aside0.mk hB4
        clear hrun4 hO4 hB4 hb0 hbt
        go_wp2_with (at_builtin; refine wpList_append_run rfl _ _ 46 rfl _ _ _ _ rfl rfl HRUN4.out ?_)
        go_ret
        exact ⟨_, rfl, HO4.out, HB4.out⟩
      · have HO4 := Aside0.mk (show LinksAt wr (fun k => w.heap.size ≤ k) (.slice A7 m7 c7) (lnk nm.data.toList at_ l) by
          rw [← HA.out, HDR.out]
          show LinksAt _ _ _ (acc ++ [])
          rw [List.append_nil]; exact HO.out)
        go_wp2_with fail
        go_ret
        exact ⟨_, rfl, HO4.out, HB.out⟩

end Go.Proofs.Ytgpinkgfgkolfaa.PD

namespace Go.Proofs.Ytgpinkgfgkolfaa.PD
open Go.RowKit Go.Proofs.YtgpinkgfgkolfaaW.PrintWords Go.Proofs.YtgpinkgfgkolfaaW.PrintLast Go.Proofs.YtgpinkgfgkolfaaW.PrintMore
set_option linter.unusedVariables false
set_option linter.unusedSimpArgs false
set_option maxHeartbeats 4000000
set_option maxRecDepth 100000

open Go.Proofs
theorem FilesAt.at {w : World} {ok : Nat → Prop} {tg : Nat → Nat} {A : Option Addr} {c n : Nat} {fs : List (List UInt8 × Nat)} (h : FilesAt w ok tg (.slice A n c) fs) {i : Nat} (hi : i < fs.length) : ∃ g U uc x, A = some ⟨g, 0, none⟩ ∧ fs[i]? = some x ∧ w.cell? ⟨g, i * 2, none⟩ = some (.slice U x.1.length uc) ∧ w.cell? ⟨g, i * 2 + 1, none⟩ = some (.int .i64 (x.2 : Int)) ∧ BR w (fun k => ok k ∧ tg k = i) (.slice U x.1.length uc) x.1 ∧ x.1.length ≤ uc := by
  obtain ⟨us, h1, h2, h3, h4⟩ := h
  have hn : n = fs.length := by
    obtain ⟨A', c', e, _⟩ := ownsRow_slice h2
    injection e
  subst hn
  obtain ⟨g, cur, rfl, _, hc⟩ := ownsRow_at h2 (by omega)
  have hx := List.getElem?_eq_getElem hi
  have hu := List.getElem?_eq_getElem (show i < us.length by omega)
  obtain ⟨q1, q2⟩ := fcells_at us fs i _ _ hu hx
  have hb := h4 i _ _ hu hx
  obtain ⟨U, uc, e, hle⟩ := hb.slice
  rw [e] at q1 hb
  exact ⟨g, U, uc, _, rfl, hx, hc _ _ q1, hc _ _ q2, hb, hle⟩
theorem FilesAt.below {w w' : World} {ok : Nat → Prop} {tg : Nat → Nat} {v : Value} {fs : List (List UInt8 × Nat)} (h : FilesAt w ok tg v fs) (hb : Below w.heap.size w w') : FilesAt w' ok tg v fs := h.keep fun g _ hl => hb.block g hl
theorem wrap_subR (X n : Int) : wrap64 (wrap64 X - n) = wrap64 (X - n) := by unfold wrap64; omega
theorem rsum_take (p : Nat → Bool) (fs : List (List UInt8 × Nat)) : ∀ (i s : Nat) (x : List UInt8 × Nat), fs[i]? = some x → rsum p s (fs.take (i + 1)) = rsum p s (fs.take i) + (if p (s + i) then (x.1.length : Int) else 0) := by
  induction fs with
  | nil => intro i s x h; simp at h
  | cons f r ih =>
    intro i s x h
    cases i with
    | zero =>
      simp at h
      subst h
      simp [rsum]
    | succ i =>
      have := ih i (s + 1) x (by simpa using h)
      simp only [List.take_succ_cons, rsum]
      rw [this, show s + 1 + i = s + (i + 1) by omega]
      omega
theorem used_take {l : Dir} {j : Nat} {p : Nm × Nat} (h : l[j]? = some p) (i : Nat) : usedD (l.take (j + 1)) i = (usedD (l.take j) i || p.2 == i) := by
  obtain ⟨h1, h2⟩ := List.getElem?_eq_some_iff.1 h
  unfold usedD
  rw [← List.take_append_getElem h1, List.any_append, h2]
  simp
set_option maxHeartbeats 16000000 in
theorem rfree_calls (ok : Nat → Prop) (x : Nat) (R : Rb) (w : World) (h : RDisk w ok x R) (hroom : wrap64 R.room = R.room) (hl : R.files.length ≤ 1000000 ∧ R.dir.length ≤ 1000000 ∧ R.safe.length ≤ 1000000) :
    Calls Try.prog 20 #[fptr x] w fun e w' => e = .returned (.int .i64 (wrap64 (rfreeL R))) ∧ Below w.heap.size w w' := by
  obtain ⟨F, D, S, tg, h⟩ := h
  obtain ⟨FA, fc, hF⟩ := h.2.2.1.slice
  obtain ⟨DA, dc, hD⟩ := h.2.2.2.1.slice
  obtain ⟨SA, sc, hS⟩ := h.2.2.2.2.slice
  subst hF hD hS
  obtain ⟨nf, hnf⟩ : ∃ n, n = R.files.length := ⟨_, rfl⟩
  obtain ⟨nd, hnd⟩ : ∃ n, n = R.dir.length := ⟨_, rfl⟩
  obtain ⟨ns, hns⟩ : ∃ n, n = R.safe.length := ⟨_, rfl⟩
  rw [← hnf, ← hnd, ← hns] at h hl
  have HC0 := Aside0.mk (fun (W : World) (hW : Below w.heap.size w W) => show W.cell? ⟨x, 0, none⟩ = some (.int .i64 R.room) from pw_cell_below hW (h.cell 0))
  have HC1 := Aside0.mk (fun (W : World) (hW : Below w.heap.size w W) => show W.cell? ⟨x, 1, none⟩ = some (.slice FA nf fc) from pw_cell_below hW (h.cell 1))
  have HC2 := Aside0.mk (fun (W : World) (hW : Below w.heap.size w W) => show W.cell? ⟨x, 2, none⟩ = some (.slice DA nd dc) from pw_cell_below hW (h.cell 2))
  have HC3 := Aside0.mk (fun (W : World) (hW : Below w.heap.size w W) => show W.cell? ⟨x, 3, none⟩ = some (.slice SA ns sc) from pw_cell_below hW (h.cell 3))
  have HF := Aside0.mk (fun (W : World) (hW : Below w.heap.size w W) => h.2.2.1.below hW)
  have HD := Aside0.mk (fun (W : World) (hW : Below w.heap.size w W) => h.2.2.2.1.below hW)
  have HS := Aside0.mk (fun (W : World) (hW : Below w.heap.size w W) => h.2.2.2.2.below hW)
  have HN := Aside0.mk (And.intro hnf (And.intro hnd (And.intro hns hl)))
  have HR := Aside0.mk hroom
  have c0 := HC0.out w (Below.refl _ _)
  have c1 := HC1.out w (Below.refl _ _)
  clear h hl hroom hnf hnd hns
  go_enter Try.func20, Try.ntmps20
  go_wp2_with fail
  clear c0 c1
  go_loopw [3, 20] (fun v3 v wr => ∃ (i : Nat) (m : Int), v = .int .i64 (i : Int) ∧ v3 = .int .i64 m ∧ Aside0 (i ≤ nf) ∧ Aside0 (m = wrap64 (R.room - rsum (usedR R) 0 (R.files.take i))) ∧ Aside0 (Below w.heap.size w wr)) (fun _ v _ => nf - (intOf v).toNat)
  case atStart => exact ⟨0, R.room, rfl, rfl, Aside0.mk (Nat.zero_le _), Aside0.mk (by show _ = wrap64 (R.room - 0); rw [Int.sub_zero, HR.out]), Aside0.mk (Below.refl _ _)⟩
  case round =>
    obtain ⟨i, m, rfl, rfl, HI, HMV, HB⟩ := hrel
    rename World => wo
    by_cases hin : i < nf
    · have d1 : decide ((i : Int) < (nf : Int)) = true := decide_eq_true (by omega)
      have hin2 : (i : Int) < (nf : Int) := by omega
      have hi0 : (0 : Int) ≤ (i : Int) := by omega
      obtain ⟨g, U, uc, y, rfl, hy, k0, k1, -, -⟩ := (HF.out wo HB.out).at (i := i) (by have := HN.out; omega)
      have HI' := Aside0.mk hin
      have HY := Aside0.mk hy
      have hwi : wrap64 ((i : Int) + 1) = ((i + 1 : Nat) : Int) := by have := HN.out; have := HI'.out; unfold wrap64; omega
      obtain ⟨yl, hyl⟩ : ∃ n, n = y.1.length := ⟨_, rfl⟩
      rw [← hyl] at k0
      have HYL := Aside0.mk hyl
      have hbx := below_alloc (Below.refl wo.heap.size wo) (.cells #[.slice U yl uc, .int .i64 (y.2 : Int)] 87)
      have hbn := heap_alloc_new wo (.cells #[.slice U yl uc, .int .i64 (y.2 : Int)] 87)
      have HBX := Aside0.mk (HB.out.trans (hbx.mono HB.out.size))
      have HBN := Aside0.mk hbn
      obtain ⟨w1, hw1⟩ : ∃ W, W = wo.alloc (.cells #[.slice U yl uc, .int .i64 (y.2 : Int)] 87) := ⟨_, rfl⟩
      rw [← hw1] at HBX HBN
      have HW1 := Aside0.mk hw1.symm
      have c2 : (wo.alloc (.cells #[.slice U yl uc, .int .i64 (y.2 : Int)] 87)).cell? ⟨x, 2, none⟩ = some (.slice DA nd dc) := by rw [← hw1]; exact HC2.out w1 HBX.out
      clear hin hy hyl hbx hbn hw1
      go_wp2_with fail
      rw [HW1.out]
      clear c2
      go_loopw [6, 30] (fun v6 v w2 => ∃ (j : Nat), v = .int .i64 (j : Int) ∧ v6 = .bool (usedD (R.dir.take j) i) ∧ Aside0 (j ≤ nd) ∧ Aside0 (Below w1.heap.size w1 w2)) (fun _ v _ => nd - (intOf v).toNat)
      case atStart => exact ⟨0, rfl, rfl, Aside0.mk (Nat.zero_le _), Aside0.mk (Below.refl _ _)⟩
      case round =>
        obtain ⟨j, rfl, rfl, HJ, HB2⟩ := hrel
        rename World => w2
        have hB2 := HBX.out.trans (HB2.out.mono HBX.out.size)
        by_cases hjn : j < nd
        · have d2 : decide ((j : Int) < (nd : Int)) = true := decide_eq_true (by omega)
          have hj2 : (j : Int) < (nd : Int) := by omega
          have hj0 : (0 : Int) ≤ (j : Int) := by omega
          obtain ⟨gd, p, rfl, hp, p0, p1⟩ := (HD.out w2 hB2).at (i := j) (by have := HN.out; omega)
          have HJ' := Aside0.mk hjn
          have hwj : wrap64 ((j : Int) + 1) = ((j + 1 : Nat) : Int) := by have := HN.out; have := HJ'.out; unfold wrap64; omega
          have hbq := below_alloc (Below.refl w2.heap.size w2) (.cells #[.string ⟨p.1.toArray⟩, .int .i64 (p.2 : Int)] 53)
          have HBQ := Aside0.mk (HB2.out.trans (hbq.mono HB2.out.size))
          have HUT := Aside0.mk (used_take hp i)
          clear hjn hp hbq hB2
          cases hus : usedD (R.dir.take j) i with
          | true =>
            go_wp2_with fail
            go_roundw
            case rel => exact ⟨j + 1, by first | rw [hwj] | rfl, by rw [HUT.out]; first | rfl | simp [hus], Aside0.mk HJ'.out, HBQ⟩
            case measure => first | (rw [hwj]; simp [intOf]; have := HJ'.out; omega) | (simp [intOf]; have := HJ'.out; omega)
          | false =>
            by_cases hpi : p.2 = i
            · have e1 : ((p.2 : Int) == (i : Int)) = true := by rw [hpi]; exact beq_self_eq_true _
              have e2 : ((p.2 : Int) = (i : Int)) = True := eq_true (by omega)
              have e3 : (p.2 = i) = True := eq_true hpi
              have HPI := Aside0.mk hpi
              clear hpi
              go_wp2_with fail
              go_roundw
              case rel => exact ⟨j + 1, by first | rw [hwj] | rfl, by rw [HUT.out, HPI.out]; simp, Aside0.mk HJ'.out, HBQ⟩
              case measure => first | (rw [hwj]; simp [intOf]; have := HJ'.out; omega) | (simp [intOf]; have := HJ'.out; omega)
            · have e1 : ((p.2 : Int) == (i : Int)) = false := beq_eq_false_iff_ne.2 (by omega)
              have HPI := Aside0.mk (show (p.2 == i) = false from beq_eq_false_iff_ne.2 hpi)
              clear hpi
              go_wp2_with fail
              go_roundw
              case rel => exact ⟨j + 1, by first | rw [hwj] | rfl, by rw [HUT.out, HPI.out, Bool.or_false]; simp [hus], Aside0.mk HJ'.out, HBQ⟩
              case measure => first | (rw [hwj]; simp [intOf]; have := HJ'.out; omega) | (simp [intOf]; have := HJ'.out; omega)
        · have d2 : decide ((j : Int) < (nd : Int)) = false := decide_eq_false (by omega)
          have hj2 : ¬ ((j : Int) < (nd : Int)) := by omega
          have c3 := HC3.out w2 hB2
          have hu1 : usedD (R.dir.take j) i = usedD R.dir i := by rw [List.take_of_length_le (by have := HN.out; omega)]
          rw [hu1]
          have HB2' := Aside0.mk (And.intro HB2.out hB2)
          clear hu1 hB2 HB2 hjn HJ
          go_wp2_with fail
          clear c3
          go_loopw [6, 47] (fun v6 v w3 => ∃ (j : Nat), v = .int .i64 (j : Int) ∧ v6 = .bool (usedD R.dir i || usedD (R.safe.take j) i) ∧ Aside0 (j ≤ ns) ∧ Aside0 (Below w1.heap.size w1 w3)) (fun _ v _ => ns - (intOf v).toNat)
          case atStart => exact ⟨0, rfl, by rw [show usedD (R.safe.take 0) i = false from rfl, Bool.or_false], Aside0.mk (Nat.zero_le _), Aside0.mk HB2'.out.1⟩
          case round =>
            obtain ⟨j3, rfl, rfl, HJ3, HB3⟩ := hrel
            rename World => w3
            have hB3 := HBX.out.trans (HB3.out.mono HBX.out.size)
            by_cases hjn : j3 < ns
            · have d3 : decide ((j3 : Int) < (ns : Int)) = true := decide_eq_true (by omega)
              have hj3 : (j3 : Int) < (ns : Int) := by omega
              have hj30 : (0 : Int) ≤ (j3 : Int) := by omega
              obtain ⟨gs, p, rfl, hp, p0, p1⟩ := (HS.out w3 hB3).at (i := j3) (by have := HN.out; omega)
              have HJ' := Aside0.mk hjn
              have hwj : wrap64 ((j3 : Int) + 1) = ((j3 + 1 : Nat) : Int) := by have := HN.out; have := HJ'.out; unfold wrap64; omega
              have hbq := below_alloc (Below.refl w3.heap.size w3) (.cells #[.string ⟨p.1.toArray⟩, .int .i64 (p.2 : Int)] 53)
              have HBQ := Aside0.mk (HB3.out.trans (hbq.mono HB3.out.size))
              have HUT := Aside0.mk (used_take hp i)
              clear hjn hp hbq hB3
              cases hus : usedD R.dir i || usedD (R.safe.take j3) i with
              | true =>
                go_wp2_with fail
                go_roundw
                case rel => exact ⟨j3 + 1, by first | rw [hwj] | rfl, by rw [HUT.out, ← Bool.or_assoc]; first | rfl | simp [hus], Aside0.mk HJ'.out, HBQ⟩
                case measure => first | (rw [hwj]; simp [intOf]; have := HJ'.out; omega) | (simp [intOf]; have := HJ'.out; omega)
              | false =>
                by_cases hpi : p.2 = i
                · have e1 : ((p.2 : Int) == (i : Int)) = true := by rw [hpi]; exact beq_self_eq_true _
                  have e2 : ((p.2 : Int) = (i : Int)) = True := eq_true (by omega)
                  have e3 : (p.2 = i) = True := eq_true hpi
                  have HPI := Aside0.mk hpi
                  clear hpi
                  go_wp2_with fail
                  go_roundw
                  case rel => exact ⟨j3 + 1, by first | rw [hwj] | rfl, by rw [HUT.out, ← Bool.or_assoc, HPI.out]; simp, Aside0.mk HJ'.out, HBQ⟩
                  case measure => first | (rw [hwj]; simp [intOf]; have := HJ'.out; omega) | (simp [intOf]; have := HJ'.out; omega)
                · have e1 : ((p.2 : Int) == (i : Int)) = false := beq_eq_false_iff_ne.2 (by omega)
                  have HPI := Aside0.mk (show (p.2 == i) = false from beq_eq_false_iff_ne.2 hpi)
                  clear hpi
                  go_wp2_with fail
                  go_roundw
                  case rel => exact ⟨j3 + 1, by first | rw [hwj] | rfl, by rw [HUT.out, ← Bool.or_assoc, HPI.out, Bool.or_false]; simp [hus], Aside0.mk HJ'.out, HBQ⟩
                  case measure => first | (rw [hwj]; simp [intOf]; have := HJ'.out; omega) | (simp [intOf]; have := HJ'.out; omega)
            · have d3 : decide ((j3 : Int) < (ns : Int)) = false := decide_eq_false (by omega)
              have hj3 : ¬ ((j3 : Int) < (ns : Int)) := by omega
              have hu1 : (usedD R.dir i || usedD (R.safe.take j3) i) = usedR R i := by rw [List.take_of_length_le (by have := HN.out; omega)]; rfl
              rw [hu1]
              have hbx3 := (HB3.out.block wo.heap.size (Array.getElem?_eq_some_iff.1 HBN.out).1).trans HBN.out
              have b0 : w3.cell? ⟨wo.heap.size, 0, none⟩ = some (.slice U yl uc) := by simp [World.cell?, hbx3]
              have HRS := Aside0.mk (rsum_take (usedR R) R.files i 0 y HY.out)
              have HB3' := Aside0.mk hB3
              clear hu1 hB3 HB3 hjn HJ3 hbx3
              cases hus : usedR R i with
              | true =>
                go_wp2_with fail
                go_roundw
                case rel => exact ⟨i + 1, _, by first | rw [hwi] | rfl, rfl, Aside0.mk HI'.out, Aside0.mk (by
                  have := HRS.out
                  rw [Nat.zero_add, hus, if_pos rfl, ← HYL.out] at this
                  rw [this, HMV.out, wrap_subR]
                  congr 1; omega), HB3'⟩
                case measure => first | (rw [hwi]; simp [intOf]; have := HI'.out; omega) | (simp [intOf]; have := HI'.out; omega)
              | false =>
                go_wp2_with fail
                go_roundw
                case rel => exact ⟨i + 1, _, by first | rw [hwi] | rfl, rfl, Aside0.mk HI'.out, Aside0.mk (by
                  have := HRS.out
                  rw [Nat.zero_add, hus, if_neg (by decide), Int.add_zero] at this
                  rw [this, HMV.out]), HB3'⟩
                case measure => first | (rw [hwi]; simp [intOf]; have := HI'.out; omega) | (simp [intOf]; have := HI'.out; omega)
    · have d1 : decide ((i : Int) < (nf : Int)) = false := decide_eq_false (by omega)
      have hin2 : ¬ ((i : Int) < (nf : Int)) := by omega
      have HE := Aside0.mk (show m = wrap64 (rfreeL R) by rw [HMV.out, List.take_of_length_le (by have := HN.out; omega)]; rfl)
      clear hin
      go_wp2_with fail
      go_ret
      exact ⟨by rw [HE.out]; rfl, HB.out⟩

end Go.Proofs.Ytgpinkgfgkolfaa.PD
