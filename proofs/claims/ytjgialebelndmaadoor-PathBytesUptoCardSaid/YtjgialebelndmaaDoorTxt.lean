/- path.text: plainly. -/
import Derived.Test.YtjgialebelndmaaDoorSeg
namespace Go.Proofs.YtjgialebelndmaaDoor.PF
open Go.RowKit Go.Proofs.YtjgialebelndmaaDoorW.PrintWords Go.Proofs.YtjgialebelndmaaDoorW.PrintLast Go.Proofs.YtjgialebelndmaaDoorW.PrintMore
open Go.Shelf
set_option linter.unusedVariables false
set_option linter.unusedSimpArgs false
set_option maxHeartbeats 4000000
set_option maxRecDepth 100000

open Go.Proofs Go.Lib
/-- A hex digit's worth, below 0 if it is none. -/
def dg (a : UInt8) : Int := Lib.indexByte hexS.data.toList (tr 97 122 a)
theorem dg_all : ∀ X : Fin 256, dg (UInt8.ofNat X.val) = -1 ∨ ∃ k : Fin 16, dg (UInt8.ofNat X.val) = (k.val : Int) := by decide +kernel
theorem dg_cases (a : UInt8) : dg a = -1 ∨ ∃ k : Nat, k < 16 ∧ dg a = (k : Int) := by
  have := dg_all ⟨a.toNat, a.toNat_lt⟩
  rw [show UInt8.ofNat (⟨a.toNat, a.toNat_lt⟩ : Fin 256).val = a by simp] at this
  rcases this with h | ⟨k, h⟩
  · exact .inl h
  · exact .inr ⟨k.val, k.isLt, h⟩
def unL : List UInt8 → Option (List UInt8)
  | [] => some []
  | [c] => if c = 37 then none else if pl c then some [c] else none
  | [c, a] => if c = 37 then none else if pl c then (unL [a]).map (c :: ·) else none
  | c :: a :: b :: r => if c = 37 then (if dg a < 0 ∨ dg b < 0 then none else (unL r).map (UInt8.ofNat ((dg a).toNat * 16 + (dg b).toNat) :: ·)) else if pl c then (unL (a :: b :: r)).map (c :: ·) else none
theorem unL_plain (c : UInt8) (t : List UInt8) (h : c ≠ 37) : unL (c :: t) = if pl c then (unL t).map (c :: ·) else none := by
  match t with
  | [] => simp only [unL, if_neg h]; rfl
  | [a] => simp only [unL, if_neg h]
  | a :: b :: r => simp only [unL, if_neg h]
theorem unL_short (t : List UInt8) (h : t.length < 2) : unL (37 :: t) = none := by
  match t, h with
  | [], _ => rfl
  | [a], _ => simp only [unL, if_true]
  | a :: b :: r, h => simp only [List.length_cons] at h; omega
theorem unL_pct (a b : UInt8) (r : List UInt8) : unL (37 :: a :: b :: r) = if dg a < 0 ∨ dg b < 0 then none else (unL r).map (UInt8.ofNat ((dg a).toNat * 16 + (dg b).toNat) :: ·) := by
  simp only [unL, if_true]
theorem builderF_below {B b : Nat} {bs : List Value} {w w' : World} (h : Lib.IsBuilderF 43 5 B b bs w) (hb : Below w.heap.size w w') : Lib.IsBuilderF 43 5 B b bs w' := by
  have key : ∀ {p : Value}, Lib.BuilderAtF 43 5 B b p bs w → Lib.BuilderAtF 43 5 B b p bs w' := fun {p} h => by
    obtain ⟨h1, v, h2, ⟨h3, h5⟩, h4⟩ := h
    refine ⟨h1, v, (hb.block b (Array.getElem?_eq_some_iff.1 h2).1).trans h2, ⟨h3, ?_⟩, h4⟩
    rcases h5 with h5 | ⟨g, cap, cur, fz, hv, hg, hh, hr⟩
    · exact .inl h5
    · exact .inr ⟨g, cap, cur, fz, hv, hg, (hb.block g (Array.getElem?_eq_some_iff.1 hh).1).trans hh, hr⟩
  rcases h with h | h
  · exact .inl (key h)
  · exact .inr (key h)
theorem string_f (B b : Nat) (l : List UInt8) (w : World) (h : Lib.IsBuilderF 43 5 B b (Lib.byteCells l) w) (hBw : B ≤ w.heap.size) :
    Calls Tryd.prog 19 #[.pointer (some ⟨b, 0, none⟩)] w fun e w' => e = .returned (.string ⟨l.toArray⟩) ∧ (Lib.IsBuilderF 43 5 B b (Lib.byteCells l) w' ∧ Below B w w') := Any.Builder_String_any_f Tryd.lays169 Tryd.Builder_Extra_169 B b l w h hBw
/-- What a text says, if it says a segment. -/
def txtL (l : List UInt8) : Option (List UInt8) := (unL l).bind fun r => if fitsL r then some r else none
theorem hexS_is : (⟨#[48, 49, 50, 51, 52, 53, 54, 55, 56, 57, 65, 66, 67, 68, 69, 70]⟩ : ByteArray) = hexS := rfl
theorem digit_calls (a : UInt8) (W : World) : Calls Tryd.prog 26 #[.string ⟨#[48, 49, 50, 51, 52, 53, 54, 55, 56, 57, 65, 66, 67, 68, 69, 70]⟩, .int .u8 ((tr 97 122 a).toNat : Int)] W fun e w' => e = .returned (.int .i64 (dg a)) ∧ Below W.heap.size W w' :=
  strings_IndexByte.calls _ _ (dg a) W (by unfold strings_IndexByte.f dg; rw [hexS_is]; simp)
theorem or_all : ∀ (X Y : Fin 16), bits .or .i64 (((X.val : Nat) : Int) * 16) ((Y.val : Nat) : Int) % 256 = ((UInt8.ofNat (X.val * 16 + Y.val)).toNat : Int) := by decide +kernel
theorem or_is (k1 k2 : Nat) (h1 : k1 < 16) (h2 : k2 < 16) : bits .or .i64 ((k1 : Int) * 16) (k2 : Int) % 256 = ((UInt8.ofNat (k1 * 16 + k2)).toNat : Int) := or_all ⟨k1, h1⟩ ⟨k2, h2⟩
theorem ext_drop (y : ByteArray) (k : Nat) : (y.extract k y.size).data.toList = y.data.toList.drop k := by
  simp
  exact List.take_of_length_le (by rw [List.length_drop]; exact Nat.le_refl _)

end Go.Proofs.YtjgialebelndmaaDoor.PF
