/- strings.Cut, Contains at one byte, TrimSuffix: contracts under the print's names. -/
import Derived.Test.YtkkbkdpfhbjliaaDoorShelf
import Derived.Test.YtkkbkdpfhbjliaaDoorWWords
import Derived.Test.YtkkbkdpfhbjliaaDoorWLast
import Derived.Test.YtkkbkdpfhbjliaaDoorWMore
import Derived.Lib.CutLaws
import Derived.Lib.IndexBytes
import Derived.Lib.IndexAny
namespace Go.Proofs.YtkkbkdpfhbjliaaDoor.PF
open Go.RowKit Go.Proofs.YtkkbkdpfhbjliaaDoorW.PrintWords Go.Proofs.YtkkbkdpfhbjliaaDoorW.PrintLast Go.Proofs.YtkkbkdpfhbjliaaDoorW.PrintMore
set_option linter.unusedVariables false
set_option linter.unusedSimpArgs false
set_option maxHeartbeats 4000000
set_option maxRecDepth 100000

open Go.Proofs Go.Lib
theorem ne_of_size {s : ByteArray} (h : s.size = 1) : ∃ c : UInt8, s = ⟨#[c]⟩ := by
  obtain ⟨⟨l⟩⟩ := s
  have hl : l.length = 1 := h
  match l, hl with
  | [c], _ => exact ⟨c, rfl⟩
theorem lite_cut (s : ByteArray) (c : UInt8) (w : World) (hs : s.size ≤ 140737488355328) :
    Calls Tryd.prog 24 #[.string s, .string ⟨#[c]⟩] w fun e w' => e = .returned (.tuple #[.string ⟨(Lib.cut s.data.toList [c]).1.toArray⟩, .string ⟨(Lib.cut s.data.toList [c]).2.1.toArray⟩, .bool (Lib.cut s.data.toList [c]).2.2]) ∧ Below w.heap.size w w' := by
  have HI := Aside0.mk (Tryd.stringslite_Index_one s c w)
  have hone := Lib.index_one s.data.toList c
  have hsz : (⟨#[c]⟩ : ByteArray).size = 1 := rfl
  rcases Lib.indexB_cases s ⟨#[c]⟩ with hix | ⟨i, hix, hroom⟩
  · obtain ⟨e1, e2, e3⟩ := Lib.cutB_miss s ⟨#[c]⟩ hix
    rw [show Lib.cut s.data.toList [c] = Lib.cut s.data.toList (⟨#[c]⟩ : ByteArray).data.toList from rfl, e1, e2, e3]
    have hx : Lib.indexByte s.data.toList c = -1 := hone.symm.trans hix
    rw [hx] at HI
    clear hix e1 e2 e3 hone hx
    go_enter Tryd.func24, Tryd.ntmps24
    go_wp2_with fail
    refine HI.out.mono ?_
    rintro _ w' ⟨rfl, hw⟩
    rw [hw]
    clear hw
    go_wp2_with fail
    go_ret3
    exact ⟨rfl, Below.refl _ _⟩
  · obtain ⟨e1, e2, e3⟩ := Lib.cutB_hit s ⟨#[c]⟩ i hix
    rw [show Lib.cut s.data.toList [c] = Lib.cut s.data.toList (⟨#[c]⟩ : ByteArray).data.toList from rfl, e1, e2, e3]
    have hx : Lib.indexByte s.data.toList c = (i : Int) := hone.symm.trans hix
    rw [hx] at HI
    rw [hsz] at hroom ⊢
    have c1 : (0 : Int) ≤ ↑i := by omega
    have c2 : (↑i : Int) ≤ ↑s.size := by omega
    have hw1 : IntKind.i64.wrap ((i : Int) + 1) = ((i + 1 : Nat) : Int) := by rw [IntKind.wrap_i64]; omega
    have hw2 : wrap64 ((i : Int) + 1) = ((i + 1 : Nat) : Int) := by unfold wrap64; omega
    have c3 : (0 : Int) ≤ ((i + 1 : Nat) : Int) := by omega
    have c4 : ((i + 1 : Nat) : Int) ≤ ↑s.size := by omega
    have c5 : i + 1 ≤ s.size := by omega
    clear hix e1 e2 e3 hone hx hroom
    go_enter Tryd.func24, Tryd.ntmps24
    go_wp2_with fail
    refine HI.out.mono ?_
    rintro _ w' ⟨rfl, hw⟩
    rw [hw]
    clear hw
    go_wp2_with fail
    go_region
    all_goals go_wp2_with fail
    all_goals go_ret3
    all_goals exact ⟨by first | rfl | simp, by repeat (first | exact Below.refl _ _ | apply below_drew1)⟩
theorem cut_calls (s : ByteArray) (c : UInt8) (w : World) (hs : s.size ≤ 140737488355328) :
    Calls Tryd.prog 16 #[.string s, .string ⟨#[c]⟩] w fun e w' => e = .returned (.tuple #[.string ⟨(Lib.cut s.data.toList [c]).1.toArray⟩, .string ⟨(Lib.cut s.data.toList [c]).2.1.toArray⟩, .bool (Lib.cut s.data.toList [c]).2.2]) ∧ Below w.heap.size w w' := by
  have HI := Aside0.mk (lite_cut s c w hs)
  generalize (⟨(Lib.cut s.data.toList [c]).1.toArray⟩ : ByteArray) = x at *
  generalize (⟨(Lib.cut s.data.toList [c]).2.1.toArray⟩ : ByteArray) = y at *
  generalize (Lib.cut s.data.toList [c]).2.2 = z at *
  go_enter Tryd.func16, Tryd.ntmps16
  go_wp2_with fail
  refine HI.out.mono ?_
  rintro _ w' ⟨rfl, hw⟩
  have HB := Aside0.mk hw
  clear hw HI
  go_wp2_with fail
  go_ret3
  exact ⟨rfl, HB.out⟩
/-! ### under the print's names -/
def cutC (s a : ByteArray) : ByteArray × ByteArray × Bool := (⟨(Lib.cut s.data.toList a.data.toList).1.toArray⟩, ⟨(Lib.cut s.data.toList a.data.toList).2.1.toArray⟩, (Lib.cut s.data.toList a.data.toList).2.2)
def strings_Cut.f (a0 a1 : ByteArray) : Option (ByteArray × ByteArray × Bool) := if a1.size = 1 ∧ a0.size ≤ 140737488355328 then some (cutC a0 a1) else none
theorem strings_Cut.calls (a0 a1 : ByteArray) (r1 r2 : ByteArray) (r3 : Bool) (w : World) (h : strings_Cut.f a0 a1 = some (r1, r2, r3)) :
    Calls Tryd.prog 16 #[.string a0, .string a1] w fun e w' => e = .returned (.tuple #[.string r1, .string r2, .bool r3]) ∧ Below w.heap.size w w' := by
  unfold strings_Cut.f at h
  by_cases hs : a1.size = 1 ∧ a0.size ≤ 140737488355328
  · rw [if_pos hs] at h
    obtain ⟨c, rfl⟩ := ne_of_size hs.1
    unfold cutC at h
    simp only [Option.some.injEq, Prod.mk.injEq] at h
    obtain ⟨rfl, rfl, rfl⟩ := h
    exact cut_calls a0 c w hs.2
  · rw [if_neg hs] at h; cases h
def trimC (s p : ByteArray) : ByteArray := ⟨(Lib.trimSuffix s.data.toList p.data.toList).toArray⟩
def strings_TrimSuffix.f (a0 a1 : ByteArray) : Option ByteArray := if a0.size ≤ 140737488355328 then some (trimC a0 a1) else none
theorem strings_TrimSuffix.calls (a0 a1 : ByteArray) (r : ByteArray) (w : World) (h : strings_TrimSuffix.f a0 a1 = some r) :
    Calls Tryd.prog 17 #[.string a0, .string a1] w fun e w' => e = .returned (.string r) ∧ Below w.heap.size w w' := by
  unfold strings_TrimSuffix.f at h
  by_cases hs : a0.size ≤ 140737488355328
  · rw [if_pos hs] at h
    injection h with h
    subst h
    exact (Tryd.strings_TrimSuffix a0 a1 w (by omega)).mono fun e w' ⟨h1, h2⟩ => ⟨h1, h2 ▸ Below.refl _ _⟩
  · rw [if_neg hs] at h; cases h
def containsC (s a : ByteArray) : Bool := decide (∃ c ∈ a.data.toList, c ∈ s.data.toList)
theorem ix_mem : ∀ (l : List UInt8) (c : UInt8), decide (0 ≤ Lib.indexByte l c) = decide (c ∈ l) := fun l c => by
  have := Lib.contains_iff_indexByte l c
  rw [← this]
  simp
def strings_Contains.f (a0 a1 : ByteArray) : Option Bool := if a1.size = 1 then some (containsC a0 a1) else none
theorem strings_Contains.calls (a0 a1 : ByteArray) (r : Bool) (w : World) (h : strings_Contains.f a0 a1 = some r) :
    Calls Tryd.prog 18 #[.string a0, .string a1] w fun e w' => e = .returned (.bool r) ∧ Below w.heap.size w w' := by
  unfold strings_Contains.f at h
  by_cases hs : a1.size = 1
  · rw [if_pos hs] at h
    obtain ⟨c, rfl⟩ := ne_of_size hs
    injection h with h
    subst h
    refine (Tryd.strings_Contains_one a0 c w).mono fun e w' ⟨h1, h2⟩ => ⟨h1.trans ?_, h2 ▸ Below.refl _ _⟩
    rw [ix_mem]
    unfold containsC
    congr 2
    simp
  · rw [if_neg hs] at h; cases h

end Go.Proofs.YtkkbkdpfhbjliaaDoor.PF
