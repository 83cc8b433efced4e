-- Written for this claim by a program of this session (wip/tools/myprint.py) out of the translation. Not trusted: Lean checks it.
import Derived.Test.YtigjfnleinhahaaProg
import Derived.Below
import Derived.Deep.Draws
import Derived.Deep.AppendLies
import Derived.Maps.AppendAt
import Derived.OwnWalk
import Derived.Laws.BytesArg
import Derived.Laws.MakeOwn
import Derived.Laws.OwnMore
import Derived.Deep.OwnRows
import Derived.Tactics
import Derived.Lib.ConvBytes
import Derived.Laws.Slices
import Derived.WalkKit
import Derived.KernelRfl
import Derived.RowKit3
import Derived.Deep.LoopGhost
import Derived.Deep.QuietTactic
import Derived.BigQuiet
import Derived.WideLaws
import Derived.Deep.DeepCutAuto
import Derived.Deep.CutBlock
import Derived.Deep.RegionHeld3
import Derived.Laws.Rows
import Derived.Lib.AppendStr
import Derived.ArgAppend
import Derived.Laws.IdiomCopy
import Derived.OrdersHeld
import Derived.Laws.BitsLemmas
import Derived.RowKit
import Derived.Test.YtigjfnleinhahaaClone
import Derived.Test.YtigjfnleinhahaaWWords
import Derived.Test.YtigjfnleinhahaaWLast
import Derived.Test.YtigjfnleinhahaaWQPut
import Derived.Test.YtigjfnleinhahaaWApart
import Derived.Test.YtigjfnleinhahaaWArr
import Derived.Test.YtigjfnleinhahaaWZeros
import Derived.Test.YtigjfnleinhahaaWFoot
import Derived.Test.YtigjfnleinhahaaWKept
import Derived.Test.YtigjfnleinhahaaWShare
import Derived.Test.YtigjfnleinhahaaWN
import Derived.Test.YtigjfnleinhahaaWFootNe
import Derived.Test.YtigjfnleinhahaaWAt
import Derived.Test.YtigjfnleinhahaaWRepsOne
import Derived.Test.YtigjfnleinhahaaWGuard
import Derived.Test.YtigjfnleinhahaaWNEv
import Derived.Test.YtigjfnleinhahaaWMore
namespace Go.Proofs.Ytigjfnleinhahaa.PLog
open Go.RowKit Go.Proofs.YtigjfnleinhahaaW.PrintWords Go.Proofs.YtigjfnleinhahaaW.PrintLast Go.Proofs.YtigjfnleinhahaaW.PrintMore
attribute [local go_sem] max2_int min2_int max_two min_two max_three min_three max_four min_four   -- for this text's walks alone
set_option linter.unusedVariables false
set_option linter.unusedSimpArgs false



def errW : Option Int → Value
  | none => .nilIface
  | some c => .iface 0 (.int .i64 c)
theorem errW_none : errW none = .nilIface := rfl
theorem errW_some (c : Int) : errW (some c) = .iface 0 (.int .i64 c) := rfl

theorem info3 : (Try.prog.info? 3).map (fun i => (i.zero, i.size, i.bytes)) = some (some (.int .i64 0), 1, 8) := by kernel_rfl
theorem info5 : (Try.prog.info? 5).map (fun i => (i.zero, i.size, i.bytes)) = some (some (.int .u8 0), 1, 1) := by kernel_rfl
theorem info60 : (Try.prog.info? 60).map (fun i => (i.zero, i.size, i.bytes)) = some (some (.agg #[(.int .i64 0), (.int .i64 0), (.int .i64 0), (.string ⟨#[]⟩), (.string ⟨#[]⟩), (.string ⟨#[]⟩), (.string ⟨#[]⟩), (.string ⟨#[]⟩), (.string ⟨#[]⟩), (.slice none 0 0), (.int .i64 0), (.int .i64 0), (.int .i64 0), (.slice none 0 0)]), 14, 192) := by kernel_rfl
-- the values' own types
def rd_L2 (xs : List (List ByteArray)) (i : Int) : (List ByteArray) := xs.getD i.toNat ([] : List ByteArray)
theorem at_L2 {w : World} {A : Option Addr} {n : Nat} {xs : List (List ByteArray)} (h : Kd.C (Kd.slice 9 Kd.string) w A n xs) (i : Int) (h0 : 0 ≤ i) (h1 : i < n) : ∃ ad A0 c0, A = some ad ∧ w.cell? (ad.add i.toNat) = some (.slice A0 (rd_L2 xs i).length c0) ∧ (rd_L2 xs i).length ≤ c0 ∧ Kd.string.C w A0 (rd_L2 xs i).length (rd_L2 xs i) := by
  obtain ⟨ad, c, e, _, hK, hc0⟩ := Kd.C_get h ([] : List ByteArray) i h0 h1
  have hc : ∀ j u, c[j]? = some u → w.cell? (ad.add (i.toNat * 1 + j)) = some u := hc0
  obtain ⟨A0, c0, rfl, l0, g0⟩ := hK
  exact ⟨ad, A0, c0, e, by have hq := hc 0 _ rfl; rwa [Nat.mul_one, Nat.add_zero] at hq, l0, g0⟩

/-! #### struct type 58 -/
structure S58 where
  f0 : Int
  f1 : ByteArray
  f2 : ByteArray
  f3 : ByteArray
  f4 : ByteArray
  f5 : ByteArray
  f6 : ByteArray
  f7 : (List ByteArray)
  f8 : Int
  f9 : Int
  f10 : Int
def z58 : S58 := ⟨(0 : Int), (⟨#[]⟩ : ByteArray), (⟨#[]⟩ : ByteArray), (⟨#[]⟩ : ByteArray), (⟨#[]⟩ : ByteArray), (⟨#[]⟩ : ByteArray), (⟨#[]⟩ : ByteArray), ([] : List ByteArray), (0 : Int), (0 : Int), (0 : Int)⟩
def k58 : Kd S58 := Kd.iso (Kd.pair (Kd.int .i64) (Kd.pair Kd.string (Kd.pair Kd.string (Kd.pair Kd.string (Kd.pair Kd.string (Kd.pair Kd.string (Kd.pair Kd.string (Kd.pair (Kd.slice 9 Kd.string) (Kd.pair (Kd.int .i64) (Kd.pair (Kd.int .i64) (Kd.int .i64))))))))))) (fun x : S58 => (x.f0, x.f1, x.f2, x.f3, x.f4, x.f5, x.f6, x.f7, x.f8, x.f9, x.f10))
theorem k58_open {w : World} {x : S58} {cs : List Value} (h : k58.K w x cs) : ∃ A7 c7, cs = [.int .i64 x.f0, .string x.f1, .string x.f2, .string x.f3, .string x.f4, .string x.f5, .string x.f6, .slice A7 x.f7.length c7, .int .i64 x.f8, .int .i64 x.f9, .int .i64 x.f10] ∧ x.f7.length ≤ c7 ∧ Kd.string.C w A7 x.f7.length x.f7 := by
  obtain ⟨_, _, rfl, rfl, ⟨_, _, rfl, rfl, ⟨_, _, rfl, rfl, ⟨_, _, rfl, rfl, ⟨_, _, rfl, rfl, ⟨_, _, rfl, rfl, ⟨_, _, rfl, rfl, ⟨_, _, rfl, ⟨A7, c7, rfl, l7, g7⟩, ⟨_, _, rfl, rfl, ⟨_, _, rfl, rfl, rfl⟩⟩⟩⟩⟩⟩⟩⟩⟩⟩ := h
  exact ⟨A7, c7, rfl, l7, g7⟩
theorem k58_openM {w : World} {base : Nat} {ok : Nat → Prop} {x : S58} {cs : List Value} (h : k58.M w base ok x cs) : ∃ v7, cs = [.int .i64 x.f0, .string x.f1, .string x.f2, .string x.f3, .string x.f4, .string x.f5, .string x.f6, v7, .int .i64 x.f8, .int .i64 x.f9, .int .i64 x.f10] ∧ Kd.string.R 9 w base ok v7 x.f7 := by
  obtain ⟨_, _, rfl, rfl, ⟨_, _, rfl, rfl, ⟨_, _, rfl, rfl, ⟨_, _, rfl, rfl, ⟨_, _, rfl, rfl, ⟨_, _, rfl, rfl, ⟨_, _, rfl, rfl, ⟨_, _, rfl, ⟨v7, rfl, g7⟩, ⟨_, _, rfl, rfl, ⟨_, _, rfl, rfl, rfl⟩⟩⟩⟩⟩⟩⟩⟩⟩⟩ := h
  exact ⟨v7, rfl, g7⟩
theorem k58_mk (w : World) (x : S58) {A7 : Option Addr} {c7 : Nat} (l7 : x.f7.length ≤ c7) (g7 : Kd.string.C w A7 x.f7.length x.f7) : k58.K w x [.int .i64 x.f0, .string x.f1, .string x.f2, .string x.f3, .string x.f4, .string x.f5, .string x.f6, .slice A7 x.f7.length c7, .int .i64 x.f8, .int .i64 x.f9, .int .i64 x.f10] := ⟨[.int .i64 x.f0], [.string x.f1, .string x.f2, .string x.f3, .string x.f4, .string x.f5, .string x.f6, .slice A7 x.f7.length c7, .int .i64 x.f8, .int .i64 x.f9, .int .i64 x.f10], rfl, rfl, ⟨[.string x.f1], [.string x.f2, .string x.f3, .string x.f4, .string x.f5, .string x.f6, .slice A7 x.f7.length c7, .int .i64 x.f8, .int .i64 x.f9, .int .i64 x.f10], rfl, rfl, ⟨[.string x.f2], [.string x.f3, .string x.f4, .string x.f5, .string x.f6, .slice A7 x.f7.length c7, .int .i64 x.f8, .int .i64 x.f9, .int .i64 x.f10], rfl, rfl, ⟨[.string x.f3], [.string x.f4, .string x.f5, .string x.f6, .slice A7 x.f7.length c7, .int .i64 x.f8, .int .i64 x.f9, .int .i64 x.f10], rfl, rfl, ⟨[.string x.f4], [.string x.f5, .string x.f6, .slice A7 x.f7.length c7, .int .i64 x.f8, .int .i64 x.f9, .int .i64 x.f10], rfl, rfl, ⟨[.string x.f5], [.string x.f6, .slice A7 x.f7.length c7, .int .i64 x.f8, .int .i64 x.f9, .int .i64 x.f10], rfl, rfl, ⟨[.string x.f6], [.slice A7 x.f7.length c7, .int .i64 x.f8, .int .i64 x.f9, .int .i64 x.f10], rfl, rfl, ⟨[.slice A7 x.f7.length c7], [.int .i64 x.f8, .int .i64 x.f9, .int .i64 x.f10], rfl, ⟨A7, c7, rfl, l7, g7⟩, ⟨[.int .i64 x.f8], [.int .i64 x.f9, .int .i64 x.f10], rfl, rfl, ⟨[.int .i64 x.f9], [.int .i64 x.f10], rfl, rfl, rfl⟩⟩⟩⟩⟩⟩⟩⟩⟩⟩
theorem k58_mkM (w : World) (base : Nat) (ok : Nat → Prop) (x : S58) {v7 : Value} (g7 : Kd.string.R 9 w base ok v7 x.f7) : k58.M w base ok x [.int .i64 x.f0, .string x.f1, .string x.f2, .string x.f3, .string x.f4, .string x.f5, .string x.f6, v7, .int .i64 x.f8, .int .i64 x.f9, .int .i64 x.f10] := ⟨[.int .i64 x.f0], [.string x.f1, .string x.f2, .string x.f3, .string x.f4, .string x.f5, .string x.f6, v7, .int .i64 x.f8, .int .i64 x.f9, .int .i64 x.f10], rfl, rfl, ⟨[.string x.f1], [.string x.f2, .string x.f3, .string x.f4, .string x.f5, .string x.f6, v7, .int .i64 x.f8, .int .i64 x.f9, .int .i64 x.f10], rfl, rfl, ⟨[.string x.f2], [.string x.f3, .string x.f4, .string x.f5, .string x.f6, v7, .int .i64 x.f8, .int .i64 x.f9, .int .i64 x.f10], rfl, rfl, ⟨[.string x.f3], [.string x.f4, .string x.f5, .string x.f6, v7, .int .i64 x.f8, .int .i64 x.f9, .int .i64 x.f10], rfl, rfl, ⟨[.string x.f4], [.string x.f5, .string x.f6, v7, .int .i64 x.f8, .int .i64 x.f9, .int .i64 x.f10], rfl, rfl, ⟨[.string x.f5], [.string x.f6, v7, .int .i64 x.f8, .int .i64 x.f9, .int .i64 x.f10], rfl, rfl, ⟨[.string x.f6], [v7, .int .i64 x.f8, .int .i64 x.f9, .int .i64 x.f10], rfl, rfl, ⟨[v7], [.int .i64 x.f8, .int .i64 x.f9, .int .i64 x.f10], rfl, ⟨v7, rfl, g7⟩, ⟨[.int .i64 x.f8], [.int .i64 x.f9, .int .i64 x.f10], rfl, rfl, ⟨[.int .i64 x.f9], [.int .i64 x.f10], rfl, rfl, rfl⟩⟩⟩⟩⟩⟩⟩⟩⟩⟩
def rd_T58 (xs : List S58) (i : Int) : S58 := xs.getD i.toNat z58
theorem at_T58 {w : World} {A : Option Addr} {n : Nat} {xs : List S58} (h : Kd.C k58 w A n xs) (i : Int) (h0 : 0 ≤ i) (h1 : i < n) : ∃ ad A7 c7, A = some ad ∧ w.cell? (ad.add (i.toNat * 11)) = some (.int .i64 (rd_T58 xs i).f0) ∧ w.cell? ⟨(ad.add (i.toNat * 11)).block, (ad.add (i.toNat * 11)).off + 1, none⟩ = some (.string (rd_T58 xs i).f1) ∧ w.cell? ⟨(ad.add (i.toNat * 11)).block, (ad.add (i.toNat * 11)).off + 2, none⟩ = some (.string (rd_T58 xs i).f2) ∧ w.cell? ⟨(ad.add (i.toNat * 11)).block, (ad.add (i.toNat * 11)).off + 3, none⟩ = some (.string (rd_T58 xs i).f3) ∧ w.cell? ⟨(ad.add (i.toNat * 11)).block, (ad.add (i.toNat * 11)).off + 4, none⟩ = some (.string (rd_T58 xs i).f4) ∧ w.cell? ⟨(ad.add (i.toNat * 11)).block, (ad.add (i.toNat * 11)).off + 5, none⟩ = some (.string (rd_T58 xs i).f5) ∧ w.cell? ⟨(ad.add (i.toNat * 11)).block, (ad.add (i.toNat * 11)).off + 6, none⟩ = some (.string (rd_T58 xs i).f6) ∧ w.cell? ⟨(ad.add (i.toNat * 11)).block, (ad.add (i.toNat * 11)).off + 7, none⟩ = some (.slice A7 (rd_T58 xs i).f7.length c7) ∧ w.cell? ⟨(ad.add (i.toNat * 11)).block, (ad.add (i.toNat * 11)).off + 8, none⟩ = some (.int .i64 (rd_T58 xs i).f8) ∧ w.cell? ⟨(ad.add (i.toNat * 11)).block, (ad.add (i.toNat * 11)).off + 9, none⟩ = some (.int .i64 (rd_T58 xs i).f9) ∧ w.cell? ⟨(ad.add (i.toNat * 11)).block, (ad.add (i.toNat * 11)).off + 10, none⟩ = some (.int .i64 (rd_T58 xs i).f10) ∧ (rd_T58 xs i).f7.length ≤ c7 ∧ Kd.string.C w A7 (rd_T58 xs i).f7.length (rd_T58 xs i).f7 := by
  obtain ⟨ad, c, e, _, hK, hc0⟩ := Kd.C_get h z58 i h0 h1
  have hc : ∀ j u, c[j]? = some u → w.cell? (ad.add (i.toNat * 11 + j)) = some u := hc0
  obtain ⟨A7, c7, rfl, l7, g7⟩ := k58_open hK
  exact ⟨ad, A7, c7, e, hc 0 _ rfl, by rw [← add_field _ _ 1 (by omega)]; exact hc 1 _ rfl, by rw [← add_field _ _ 2 (by omega)]; exact hc 2 _ rfl, by rw [← add_field _ _ 3 (by omega)]; exact hc 3 _ rfl, by rw [← add_field _ _ 4 (by omega)]; exact hc 4 _ rfl, by rw [← add_field _ _ 5 (by omega)]; exact hc 5 _ rfl, by rw [← add_field _ _ 6 (by omega)]; exact hc 6 _ rfl, by rw [← add_field _ _ 7 (by omega)]; exact hc 7 _ rfl, by rw [← add_field _ _ 8 (by omega)]; exact hc 8 _ rfl, by rw [← add_field _ _ 9 (by omega)]; exact hc 9 _ rfl, by rw [← add_field _ _ 10 (by omega)]; exact hc 10 _ rfl, l7, g7⟩

def rd_L4 (xs : List (List Int)) (i : Int) : (List Int) := xs.getD i.toNat ([] : List Int)
theorem at_L4 {w : World} {A : Option Addr} {n : Nat} {xs : List (List Int)} (h : Kd.C (Kd.slice 3 (Kd.int .i64)) w A n xs) (i : Int) (h0 : 0 ≤ i) (h1 : i < n) : ∃ ad A0 c0, A = some ad ∧ w.cell? (ad.add i.toNat) = some (.slice A0 (rd_L4 xs i).length c0) ∧ (rd_L4 xs i).length ≤ c0 ∧ (Kd.int .i64).C w A0 (rd_L4 xs i).length (rd_L4 xs i) := by
  obtain ⟨ad, c, e, _, hK, hc0⟩ := Kd.C_get h ([] : List Int) i h0 h1
  have hc : ∀ j u, c[j]? = some u → w.cell? (ad.add (i.toNat * 1 + j)) = some u := hc0
  obtain ⟨A0, c0, rfl, l0, g0⟩ := hK
  exact ⟨ad, A0, c0, e, by have hq := hc 0 _ rfl; rwa [Nat.mul_one, Nat.add_zero] at hq, l0, g0⟩

/-! #### struct type 60 -/
structure S60 where
  f0 : Int
  f1 : Int
  f2 : S58
  f3 : (List Int)
def z60 : S60 := ⟨(0 : Int), (0 : Int), z58, ([] : List Int)⟩
def k60 : Kd S60 := Kd.iso (Kd.pair (Kd.int .i64) (Kd.pair (Kd.int .i64) (Kd.pair k58 (Kd.slice 3 (Kd.int .i64))))) (fun x : S60 => (x.f0, x.f1, x.f2, x.f3))
theorem k60_open {w : World} {x : S60} {cs : List Value} (h : k60.K w x cs) : ∃ A9 c9 A13 c13, cs = [.int .i64 x.f0, .int .i64 x.f1, .int .i64 x.f2.f0, .string x.f2.f1, .string x.f2.f2, .string x.f2.f3, .string x.f2.f4, .string x.f2.f5, .string x.f2.f6, .slice A9 x.f2.f7.length c9, .int .i64 x.f2.f8, .int .i64 x.f2.f9, .int .i64 x.f2.f10, .slice A13 x.f3.length c13] ∧ x.f2.f7.length ≤ c9 ∧ Kd.string.C w A9 x.f2.f7.length x.f2.f7 ∧ x.f3.length ≤ c13 ∧ (Kd.int .i64).C w A13 x.f3.length x.f3 := by
  obtain ⟨_, _, rfl, rfl, ⟨_, _, rfl, rfl, ⟨_, _, rfl, s2, ⟨A13, c13, rfl, l13, g13⟩⟩⟩⟩ := h
  obtain ⟨A9, c9, rfl, l9, g9⟩ := k58_open s2
  exact ⟨A9, c9, A13, c13, rfl, l9, g9, l13, g13⟩
theorem k60_openM {w : World} {base : Nat} {ok : Nat → Prop} {x : S60} {cs : List Value} (h : k60.M w base ok x cs) : ∃ v9 v13, cs = [.int .i64 x.f0, .int .i64 x.f1, .int .i64 x.f2.f0, .string x.f2.f1, .string x.f2.f2, .string x.f2.f3, .string x.f2.f4, .string x.f2.f5, .string x.f2.f6, v9, .int .i64 x.f2.f8, .int .i64 x.f2.f9, .int .i64 x.f2.f10, v13] ∧ Kd.string.R 9 w base ok v9 x.f2.f7 ∧ (Kd.int .i64).R 3 w base ok v13 x.f3 := by
  obtain ⟨_, _, rfl, rfl, ⟨_, _, rfl, rfl, ⟨_, _, rfl, s2, ⟨v13, rfl, g13⟩⟩⟩⟩ := h
  obtain ⟨v9, rfl, g9⟩ := k58_openM s2
  exact ⟨v9, v13, rfl, g9, g13⟩
theorem k60_mk (w : World) (x : S60) {A9 : Option Addr} {c9 : Nat} (l9 : x.f2.f7.length ≤ c9) (g9 : Kd.string.C w A9 x.f2.f7.length x.f2.f7) {A13 : Option Addr} {c13 : Nat} (l13 : x.f3.length ≤ c13) (g13 : (Kd.int .i64).C w A13 x.f3.length x.f3) : k60.K w x [.int .i64 x.f0, .int .i64 x.f1, .int .i64 x.f2.f0, .string x.f2.f1, .string x.f2.f2, .string x.f2.f3, .string x.f2.f4, .string x.f2.f5, .string x.f2.f6, .slice A9 x.f2.f7.length c9, .int .i64 x.f2.f8, .int .i64 x.f2.f9, .int .i64 x.f2.f10, .slice A13 x.f3.length c13] := ⟨[.int .i64 x.f0], [.int .i64 x.f1, .int .i64 x.f2.f0, .string x.f2.f1, .string x.f2.f2, .string x.f2.f3, .string x.f2.f4, .string x.f2.f5, .string x.f2.f6, .slice A9 x.f2.f7.length c9, .int .i64 x.f2.f8, .int .i64 x.f2.f9, .int .i64 x.f2.f10, .slice A13 x.f3.length c13], rfl, rfl, ⟨[.int .i64 x.f1], [.int .i64 x.f2.f0, .string x.f2.f1, .string x.f2.f2, .string x.f2.f3, .string x.f2.f4, .string x.f2.f5, .string x.f2.f6, .slice A9 x.f2.f7.length c9, .int .i64 x.f2.f8, .int .i64 x.f2.f9, .int .i64 x.f2.f10, .slice A13 x.f3.length c13], rfl, rfl, ⟨[.int .i64 x.f2.f0, .string x.f2.f1, .string x.f2.f2, .string x.f2.f3, .string x.f2.f4, .string x.f2.f5, .string x.f2.f6, .slice A9 x.f2.f7.length c9, .int .i64 x.f2.f8, .int .i64 x.f2.f9, .int .i64 x.f2.f10], [.slice A13 x.f3.length c13], rfl, (k58_mk w x.f2 l9 g9), ⟨A13, c13, rfl, l13, g13⟩⟩⟩⟩
theorem k60_mkM (w : World) (base : Nat) (ok : Nat → Prop) (x : S60) {v9 : Value} (g9 : Kd.string.R 9 w base ok v9 x.f2.f7) {v13 : Value} (g13 : (Kd.int .i64).R 3 w base ok v13 x.f3) : k60.M w base ok x [.int .i64 x.f0, .int .i64 x.f1, .int .i64 x.f2.f0, .string x.f2.f1, .string x.f2.f2, .string x.f2.f3, .string x.f2.f4, .string x.f2.f5, .string x.f2.f6, v9, .int .i64 x.f2.f8, .int .i64 x.f2.f9, .int .i64 x.f2.f10, v13] := ⟨[.int .i64 x.f0], [.int .i64 x.f1, .int .i64 x.f2.f0, .string x.f2.f1, .string x.f2.f2, .string x.f2.f3, .string x.f2.f4, .string x.f2.f5, .string x.f2.f6, v9, .int .i64 x.f2.f8, .int .i64 x.f2.f9, .int .i64 x.f2.f10, v13], rfl, rfl, ⟨[.int .i64 x.f1], [.int .i64 x.f2.f0, .string x.f2.f1, .string x.f2.f2, .string x.f2.f3, .string x.f2.f4, .string x.f2.f5, .string x.f2.f6, v9, .int .i64 x.f2.f8, .int .i64 x.f2.f9, .int .i64 x.f2.f10, v13], rfl, rfl, ⟨[.int .i64 x.f2.f0, .string x.f2.f1, .string x.f2.f2, .string x.f2.f3, .string x.f2.f4, .string x.f2.f5, .string x.f2.f6, v9, .int .i64 x.f2.f8, .int .i64 x.f2.f9, .int .i64 x.f2.f10], [v13], rfl, (k58_mkM w base ok x.f2 g9), ⟨v13, rfl, g13⟩⟩⟩⟩
def rd_T60 (xs : List S60) (i : Int) : S60 := xs.getD i.toNat z60
theorem at_T60 {w : World} {A : Option Addr} {n : Nat} {xs : List S60} (h : Kd.C k60 w A n xs) (i : Int) (h0 : 0 ≤ i) (h1 : i < n) : ∃ ad A9 c9 A13 c13, A = some ad ∧ w.cell? (ad.add (i.toNat * 14)) = some (.int .i64 (rd_T60 xs i).f0) ∧ w.cell? ⟨(ad.add (i.toNat * 14)).block, (ad.add (i.toNat * 14)).off + 1, none⟩ = some (.int .i64 (rd_T60 xs i).f1) ∧ w.cell? ⟨(ad.add (i.toNat * 14)).block, (ad.add (i.toNat * 14)).off + 2, none⟩ = some (.int .i64 (rd_T60 xs i).f2.f0) ∧ w.cell? ⟨(ad.add (i.toNat * 14)).block, (ad.add (i.toNat * 14)).off + 3, none⟩ = some (.string (rd_T60 xs i).f2.f1) ∧ w.cell? ⟨(ad.add (i.toNat * 14)).block, (ad.add (i.toNat * 14)).off + 4, none⟩ = some (.string (rd_T60 xs i).f2.f2) ∧ w.cell? ⟨(ad.add (i.toNat * 14)).block, (ad.add (i.toNat * 14)).off + 5, none⟩ = some (.string (rd_T60 xs i).f2.f3) ∧ w.cell? ⟨(ad.add (i.toNat * 14)).block, (ad.add (i.toNat * 14)).off + 6, none⟩ = some (.string (rd_T60 xs i).f2.f4) ∧ w.cell? ⟨(ad.add (i.toNat * 14)).block, (ad.add (i.toNat * 14)).off + 7, none⟩ = some (.string (rd_T60 xs i).f2.f5) ∧ w.cell? ⟨(ad.add (i.toNat * 14)).block, (ad.add (i.toNat * 14)).off + 8, none⟩ = some (.string (rd_T60 xs i).f2.f6) ∧ w.cell? ⟨(ad.add (i.toNat * 14)).block, (ad.add (i.toNat * 14)).off + 9, none⟩ = some (.slice A9 (rd_T60 xs i).f2.f7.length c9) ∧ w.cell? ⟨(ad.add (i.toNat * 14)).block, (ad.add (i.toNat * 14)).off + 10, none⟩ = some (.int .i64 (rd_T60 xs i).f2.f8) ∧ w.cell? ⟨(ad.add (i.toNat * 14)).block, (ad.add (i.toNat * 14)).off + 11, none⟩ = some (.int .i64 (rd_T60 xs i).f2.f9) ∧ w.cell? ⟨(ad.add (i.toNat * 14)).block, (ad.add (i.toNat * 14)).off + 12, none⟩ = some (.int .i64 (rd_T60 xs i).f2.f10) ∧ w.cell? ⟨(ad.add (i.toNat * 14)).block, (ad.add (i.toNat * 14)).off + 13, none⟩ = some (.slice A13 (rd_T60 xs i).f3.length c13) ∧ (rd_T60 xs i).f2.f7.length ≤ c9 ∧ Kd.string.C w A9 (rd_T60 xs i).f2.f7.length (rd_T60 xs i).f2.f7 ∧ (rd_T60 xs i).f3.length ≤ c13 ∧ (Kd.int .i64).C w A13 (rd_T60 xs i).f3.length (rd_T60 xs i).f3 := by
  obtain ⟨ad, c, e, _, hK, hc0⟩ := Kd.C_get h z60 i h0 h1
  have hc : ∀ j u, c[j]? = some u → w.cell? (ad.add (i.toNat * 14 + j)) = some u := hc0
  obtain ⟨A9, c9, A13, c13, rfl, l9, g9, l13, g13⟩ := k60_open hK
  exact ⟨ad, A9, c9, A13, c13, e, hc 0 _ rfl, by rw [← add_field _ _ 1 (by omega)]; exact hc 1 _ rfl, by rw [← add_field _ _ 2 (by omega)]; exact hc 2 _ rfl, by rw [← add_field _ _ 3 (by omega)]; exact hc 3 _ rfl, by rw [← add_field _ _ 4 (by omega)]; exact hc 4 _ rfl, by rw [← add_field _ _ 5 (by omega)]; exact hc 5 _ rfl, by rw [← add_field _ _ 6 (by omega)]; exact hc 6 _ rfl, by rw [← add_field _ _ 7 (by omega)]; exact hc 7 _ rfl, by rw [← add_field _ _ 8 (by omega)]; exact hc 8 _ rfl, by rw [← add_field _ _ 9 (by omega)]; exact hc 9 _ rfl, by rw [← add_field _ _ 10 (by omega)]; exact hc 10 _ rfl, by rw [← add_field _ _ 11 (by omega)]; exact hc 11 _ rfl, by rw [← add_field _ _ 12 (by omega)]; exact hc 12 _ rfl, by rw [← add_field _ _ 13 (by omega)]; exact hc 13 _ rfl, l9, g9, l13, g13⟩

end Go.Proofs.Ytigjfnleinhahaa.PLog
