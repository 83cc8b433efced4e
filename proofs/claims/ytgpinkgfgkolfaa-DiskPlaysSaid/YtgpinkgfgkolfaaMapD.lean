/- A map of names to files, as it lies in memory. -/
import Derived.Test.YtgpinkgfgkolfaaWWords
import Derived.Test.YtgpinkgfgkolfaaWLast
import Derived.Test.YtgpinkgfgkolfaaWMore
import Derived.Maps.OwnSet
import Derived.Maps.Range
import Derived.Test.YtgpinkgfgkolfaaProg
namespace Go.Proofs.Ytgpinkgfgkolfaa.PD
open Go.RowKit Go.Proofs.YtgpinkgfgkolfaaW.PrintWords Go.Proofs.YtgpinkgfgkolfaaW.PrintLast Go.Proofs.YtgpinkgfgkolfaaW.PrintMore
set_option linter.unusedVariables false
set_option linter.unusedSimpArgs false
set_option maxHeartbeats 4000000
set_option maxRecDepth 100000

open Go.Proofs Go.Maps Go.ChangeMaps
abbrev Nm := List UInt8
abbrev Dir := List (Nm × Nat)
/-- How a pointer to a file reads: by its block. -/
def ptrRd : Value → Option (DataW Unit × List MemPlace)
  | .pointer none => some (.nil, [])
  | .pointer (some ⟨b, 0, none⟩) => some (.lit (.int .i64 b), [])
  | _ => none
theorem ptrRd_ptr {v : Value} {b : Int} {ps : List MemPlace} (h : ptrRd v = some (.lit (.int .i64 b), ps)) : ∃ n : Nat, v = .pointer (some ⟨n, 0, none⟩) ∧ b = (n : Int) := by
  unfold ptrRd at h
  split at h
  · cases h
  · rename_i n
    simp only [Option.some.injEq, Prod.mk.injEq] at h
    obtain ⟨h1, -⟩ := h
    cases h1
    exact ⟨n, rfl, rfl⟩
  · cases h
theorem ptrRd_nil {v : Value} {ps : List MemPlace} (h : ptrRd v = some (.nil, ps)) : v = .pointer none := by
  unfold ptrRd at h
  split at h
  · rfl
  · cases h
  · cases h
def enc1 (x : Nm × Nat) : Lit × DataW Unit := (.string x.1, .lit (.int .i64 x.2))
def dirD (l : Dir) : DataW Unit := .map (l.map enc1)
/-- The file of a name. -/
def findL (l : Dir) (k : Nm) : Option Nat := (l.find? (fun x => x.1 == k)).map (·.2)
def insL (x : Nm × Nat) : Dir → Dir
  | [] => [x]
  | y :: r => if bytesBefore x.1 y.1 then x :: y :: r else y :: insL x r
def delL (l : Dir) (k : Nm) : Dir := l.filter fun x => !(x.1 == k)
def putL (l : Dir) (k : Nm) (b : Nat) : Dir := insL (k, b) (delL l k)
theorem sameKey_str (a b : Nm) : (Lit.string a).sameKey (.string b) = (a == b) := rfl
theorem atKey_is (l : Dir) (k : Nm) (z : DataW Unit) : (dirD l).atKey (.string k) z = match findL l k with | some b => .lit (.int .i64 b) | none => z := by
  unfold dirD DataW.atKey findL
  simp only
  rw [List.find?_map]
  have : ((fun p : Lit × DataW Unit => p.1.sameKey (.string k)) ∘ enc1) = fun x => x.1 == k := by
    funext x; rfl
  rw [this]
  cases l.find? (fun x => x.1 == k) <;> rfl
theorem ins_is (x : Nm × Nat) : ∀ l : Dir, DataW.insert (enc1 x) (l.map enc1) = (insL x l).map enc1
  | [] => rfl
  | y :: r => by
    show (if (Lit.string x.1).before (.string y.1) then _ else _) = _
    unfold insL
    rw [show (Lit.string x.1).before (.string y.1) = bytesBefore x.1 y.1 from rfl]
    by_cases h : bytesBefore x.1 y.1 = true
    · rw [if_pos h, if_pos h]; rfl
    · rw [if_neg h, if_neg h, ins_is x r]; rfl
theorem del_list (l : Dir) (k : Nm) : (l.map enc1).filter (fun p => !p.1.sameKey (.string k)) = (delL l k).map enc1 := by
  unfold delL
  rw [List.filter_map]; rfl
theorem put_is (l : Dir) (k : Nm) (b : Nat) : (dirD l).put (.string k) (.lit (.int .i64 b)) = dirD (putL l k b) := by
  unfold dirD DataW.put putL
  simp only
  rw [del_list, show ((Lit.string k, DataW.lit (Lit.int .i64 (b : Int))) : Lit × DataW Unit) = enc1 (k, b) from rfl, ins_is]
theorem del_is (l : Dir) (k : Nm) : (dirD l).del (.string k) = dirD (delL l k) := by
  unfold dirD DataW.del
  simp only
  rw [del_list]
/-- A map of names to files. -/
def MapL (w : World) (b : Nat) (l : Dir) : Prop := w.ownsMap Try.prog 9 ptrRd b l.length (dirD l)
theorem MapL.of {w : World} {b n : Nat} {l : Dir} (h : w.ownsMap Try.prog 9 ptrRd b n (dirD l)) : MapL w b l := by
  obtain ⟨es, clock, h1, h2, h3, h4⟩ := h
  refine ⟨es, clock, h1, h2, ?_, h4⟩
  unfold dirD at h4
  injection h4 with h4
  have h5 := congrArg List.length h4
  rw [List.length_map, length_sorted, List.length_map] at h5
  rw [h5]; exact Nat.le_refl _
theorem MapL.lt {w : World} {b : Nat} {l : Dir} (h : MapL w b l) : b < w.heap.size := World.ownsMap.lt h
theorem MapL.isMap {w : World} {b : Nat} {l : Dir} (h : MapL w b l) : ∃ es clock, w.heap[b]? = some (.map es clock) := by
  obtain ⟨es, clock, h1, _⟩ := h
  exact ⟨es, clock, h1⟩
theorem MapL.keep {w w' : World} {b : Nat} {l : Dir} (h : MapL w b l) (hb : w'.heap[b]? = w.heap[b]?) : MapL w' b l := by
  obtain ⟨es, clock, h1, h2⟩ := h
  exact ⟨es, clock, hb.trans h1, h2⟩
theorem MapL.made (w : World) : MapL (w.alloc (.map #[] 0)) w.heap.size [] := World.ownsMap_made w _ _ _
theorem str_keyed : Keyed Try.prog 9 := string_keyed Try.underlying9
theorem key_str (k : ByteArray) (h : k.size ≤ maxLen) : keyOf Try.prog 9 (.string k) = some (.string k.data.toList) := by
  simp [keyOf, mapKey, Try.underlying9, h]
theorem zero_ptr (w : World) : (zeroValue 63).run Try.prog w = .ok (.pointer none) w := Try.zeroValue63 w
def ptrV : Option Nat → Value
  | none => .pointer none
  | some b => .pointer (some ⟨b, 0, none⟩)
theorem MapL.lookup {w : World} {b : Nat} {l : Dir} (h : MapL w b l) (k : ByteArray) (hk : k.size ≤ maxLen) :
    (Instr.lookup 57 (.map (some b)) (.string k) false).run Try.prog w = .ok (ptrV (findL l k.data.toList)) w := by
  obtain ⟨v, ps, h1, h2⟩ := World.ownsMap.lookup h str_keyed Try.underlying57 (zero_ptr w) (zd := .nil) (zp := []) rfl (key_str k hk)
  rw [h1]
  rw [atKey_is] at h2
  cases hf : findL l k.data.toList with
  | none => rw [hf] at h2; rw [ptrRd_nil h2]; rfl
  | some n =>
    rw [hf] at h2
    obtain ⟨m, rfl, hm⟩ := ptrRd_ptr h2
    have : n = m := by omega
    subst this; rfl
theorem MapL.store {w : World} {b : Nat} {l : Dir} (h : MapL w b l) (k : ByteArray) (hk : k.size ≤ maxLen) (f : Nat) (hl : l.length < maxLen) :
    ∃ w', (Instr.mapUpdate 57 (.map (some b)) (.string k) (.pointer (some ⟨f, 0, none⟩))).run Try.prog w = .ok () w' ∧ MapL w' b (putL l k.data.toList f) ∧ w.grownBy w' (some b) ∧ w'.heap.size = w.heap.size := by
  obtain ⟨w', h1, h2, h3⟩ := World.ownsMap.store h str_keyed Try.underlying57 hl (key_str k hk) (show ptrRd (.pointer (some ⟨f, 0, none⟩)) = some (.lit (.int .i64 f), []) from rfl)
  rw [put_is] at h2
  obtain ⟨es, clock, es', clock', hb, hw⟩ := h3
  exact ⟨w', h1, MapL.of h2, World.mapTurned.grown ⟨es, clock, es', clock', hb, hw⟩, by rw [hw]; simp [setBlock]⟩
theorem MapL.drop {w : World} {b : Nat} {l : Dir} (h : MapL w b l) (k : ByteArray) (hk : k.size ≤ maxLen) (ty : TypeId) :
    ∃ w', (Builtin.delete_ #[57, 9] ty #[.map (some b), .string k]).run Try.prog w = .ok (.tuple #[]) w' ∧ MapL w' b (delL l k.data.toList) ∧ w.grownBy w' (some b) ∧ w'.heap.size = w.heap.size := by
  obtain ⟨w', h1, h2, h3⟩ := World.ownsMap.drop h str_keyed Try.underlying57 (key_str k hk) ty
  rw [del_is] at h2
  obtain ⟨es, clock, es', clock', hb, hw⟩ := h3
  exact ⟨w', h1, MapL.of h2, World.mapTurned.grown ⟨es, clock, es', clock', hb, hw⟩, by rw [hw]; simp [setBlock]⟩
theorem MapL.keys {w : World} {b : Nat} {l : Dir} (h : MapL w b l) : (l.map (·.1)).Nodup := by
  obtain ⟨es, h1, h2, _⟩ := World.ownsMap.entries h str_keyed
  unfold dirD at h1
  injection h1 with h1
  subst h1
  rw [List.pairwise_map] at h2
  show List.Pairwise _ _
  rw [List.pairwise_map]
  exact h2.imp (fun {a b} hne he => hne (by show Lit.string a.1 = Lit.string b.1; rw [he]))

end Go.Proofs.Ytgpinkgfgkolfaa.PD
