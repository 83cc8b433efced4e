/- path.Segment walked. -/
import Derived.Test.YtjgialebelndmaaDoorWb
namespace Go.Proofs.YtjgialebelndmaaDoor.PF
open Go.RowKit Go.Proofs.YtjgialebelndmaaDoorW.PrintWords Go.Proofs.YtjgialebelndmaaDoorW.PrintLast Go.Proofs.YtjgialebelndmaaDoorW.PrintMore
open Go.Shelf
set_option linter.unusedVariables false
set_option linter.unusedSimpArgs false
set_option maxHeartbeats 4000000
set_option maxRecDepth 100000

open Go.Proofs Go.Lib
/-- Bytes that stand for themselves. -/
def pl (c : UInt8) : Bool := decide (97 ≤ c.toNat ∧ c.toNat ≤ 122) || decide (65 ≤ c.toNat ∧ c.toNat ≤ 90) || decide (48 ≤ c.toNat ∧ c.toNat ≤ 57) || decide (c.toNat = 45) || decide (c.toNat = 46) || decide (c.toNat = 95) || decide (c.toNat = 126)
theorem plain_all : ∀ X : Fin 256, path_plain.f ((X.val : Nat) : Int) = some (pl (UInt8.ofNat X.val)) := by decide +kernel
theorem plain_is (c : UInt8) : path_plain.f (c.toNat : Int) = some (pl c) := by
  have := plain_all ⟨c.toNat, c.toNat_lt⟩
  simpa using this
def hexS : ByteArray := ⟨#[48, 49, 50, 51, 52, 53, 54, 55, 56, 57, 65, 66, 67, 68, 69, 70]⟩
def hxd (n : Nat) : UInt8 := hexS.data.toList.getD n 0
theorem hx_all : ∀ X : Fin 16, (⟨#[48, 49, 50, 51, 52, 53, 54, 55, 56, 57, 65, 66, 67, 68, 69, 70]⟩ : ByteArray)[X.val]'(X.isLt) = hxd X.val := by decide +kernel
theorem hx_get (n : Nat) (h : n < (⟨#[48, 49, 50, 51, 52, 53, 54, 55, 56, 57, 65, 66, 67, 68, 69, 70]⟩ : ByteArray).size) : (⟨#[48, 49, 50, 51, 52, 53, 54, 55, 56, 57, 65, 66, 67, 68, 69, 70]⟩ : ByteArray)[n]'h = hxd n := hx_all ⟨n, h⟩
theorem and15_all : ∀ X : Fin 256, bits .and .u8 ((X.val : Nat) : Int) 15 = (((X.val % 16 : Nat)) : Int) := by decide +kernel
theorem and15 (c : UInt8) : bits .and .u8 (c.toNat : Int) 15 = ((c.toNat % 16 : Nat) : Int) := and15_all ⟨c.toNat, c.toNat_lt⟩
def esc1 (c : UInt8) : List UInt8 := if pl c then [c] else [37, hxd (c.toNat / 16), hxd (c.toNat % 16)]
def escL : List UInt8 → List UInt8
  | [] => []
  | c :: l => esc1 c ++ escL l
theorem escL_app : ∀ (a b : List UInt8), escL (a ++ b) = escL a ++ escL b
  | [], b => rfl
  | x :: a, b => by
    show esc1 x ++ escL (a ++ b) = (esc1 x ++ escL a) ++ escL b
    rw [escL_app a b, List.append_assoc]
theorem esc1_len (c : UInt8) : (esc1 c).length ≤ 3 := by unfold esc1; split <;> simp
theorem escL_len : ∀ l : List UInt8, (escL l).length ≤ 3 * l.length
  | [] => by simp [escL]
  | c :: l => by
    unfold escL
    have h1 := esc1_len c
    have h2 := escL_len l
    rw [List.length_append, List.length_cons]
    omega
theorem byteCells_one (l : List UInt8) (c : UInt8) : Lib.byteCells l ++ [.int .u8 (c.toNat : Int)] = Lib.byteCells (l ++ [c]) := by simp [Lib.byteCells]
theorem byteCells_len (l : List UInt8) : (Lib.byteCells l).length = l.length := by simp [Lib.byteCells]
theorem builder_below {B b : Nat} {bs : List Value} {w w' : World} (h : Lib.IsBuilder 43 5 B b bs w) (hb : Below w.heap.size w w') : Lib.IsBuilder 43 5 B b bs w' := by
  have key : ∀ {p : Value}, Lib.BuilderAt 43 5 B b p bs w → Lib.BuilderAt 43 5 B b p bs w' := fun {p} h => by
    have hlt := h.lt
    obtain ⟨h1, v, h2, h3, h4⟩ := h
    exact ⟨h1, v, (hb.block b hlt).trans h2, pw_own_below h3 hb, h4⟩
  rcases h with h | h
  · exact .inl (key h)
  · exact .inr (key h)
theorem isB {B b : Nat} {bs : List Value} {w : World} (h : Lib.BuilderAt 43 5 B b (.pointer (some ⟨b, 0, none⟩)) bs w) : Lib.IsBuilder 43 5 B b bs w := .inr h
/-- The row of a text's bytes. -/
structure RowIs (w : World) (R : Nat) (l : List UInt8) : Prop where
  ex : ∃ (cur : Array Value), w.heap[R]? = some (.cells cur 5 (cur.size, cur.size + 1)) ∧ l.length ≤ cur.size ∧ ∀ (j : Nat) (h : j < l.length), cur[j]? = some (.int .u8 (l[j].toNat : Int))
theorem RowIs.cell {w : World} {R : Nat} {l : List UInt8} (h : RowIs w R l) (j : Nat) (hj : j < l.length) : w.cell? ⟨R, j, none⟩ = some (.int .u8 (l[j].toNat : Int)) := by
  obtain ⟨cur, h1, h2, h3⟩ := h.ex
  simp [World.cell?, h1, h3 j hj]
theorem RowIs.kept {w w' : World} {R b : Nat} {l : List UInt8} (h : RowIs w R l) (hk : Kept b w w') (hb : R ≠ b) : RowIs w' R l := by
  obtain ⟨cur, h1, h2, h3⟩ := h.ex
  refine ⟨cur, hk R _ h1 hb (fun c e => ?_), h2, h3⟩
  injection e with _ _ e
  have := congrArg Prod.snd e
  simp at this
theorem RowIs.below {w w' : World} {R : Nat} {l : List UInt8} (h : RowIs w R l) (hb : Below w.heap.size w w') : RowIs w' R l := by
  obtain ⟨cur, h1, h2, h3⟩ := h.ex
  exact ⟨cur, (hb.block R (Array.getElem?_eq_some_iff.1 h1).1).trans h1, h2, h3⟩
theorem rowIs_start (w : World) (s : ByteArray) : RowIs (Lib.bytesWorld w 5 s) w.heap.size s.data.toList := by
  obtain ⟨cur, h1, h2, h3⟩ := (rowAt_start w s 0 0).ex
  refine ⟨cur, h1, h2, fun j hj => ?_⟩
  have := h3 j hj
  rwa [if_neg (by omega)] at this
set_option maxHeartbeats 16000000 in
theorem segment_calls (a0 : ByteArray) (hs : a0.size ≤ 1073741824) (w : World) (hT : Tabs w) :
    Calls Tryd.prog 8 #[.string a0] w fun e w' => e = .returned (.tuple #[.string ⟨(if fitsL a0.data.toList then escL a0.data.toList else []).toArray⟩, .int .i64 (if fitsL a0.data.toList then 0 else 60)]) ∧ Below w.heap.size w w' := by
  have HV := Aside0.mk (fits_calls a0 hs w hT)
  obtain ⟨l, hl⟩ : ∃ l, l = a0.data.toList := ⟨_, rfl⟩
  have hll : l.length = a0.size := by rw [hl]; rfl
  obtain ⟨v, hv⟩ : ∃ v, v = fitsL a0.data.toList := ⟨_, rfl⟩
  rw [← hv, ← hl]
  rw [← hv] at HV
  have HL := Aside0.mk (show v = true → l.length ≤ 64 by
    intro h
    rw [h, ← hl] at hv
    unfold fitsL at hv
    by_cases hc : l.length ≤ 64
    · exact hc
    · rw [decide_eq_false hc] at hv
      simp at hv)
  have HLL := Aside0.mk (And.intro hl hll)
  clear hl hv hll hT
  cases v with
  | false =>
    rw [show (if false = true then escL l else []) = ([] : List UInt8) from rfl, show (if false = true then (0 : Int) else 60) = 60 from rfl]
    clear HL
    go_enter Tryd.func8, Tryd.ntmps8
    go_wp2_with fail
    refine HV.out.mono ?_
    rintro _ w1 ⟨rfl, hb⟩
    have HB := Aside0.mk hb
    clear hb HV
    go_wp2_with fail
    go_ret2
    exact ⟨rfl, HB.out⟩
  | true =>
    rw [show (if true = true then escL l else []) = escL l from rfl, show (if true = true then (0 : Int) else 60) = 0 from rfl]
    have HN := Aside0.mk (HL.out rfl)
    clear HL
    go_enter Tryd.func8, Tryd.ntmps8
    go_wp2_with fail
    refine HV.out.mono ?_
    rintro _ w1 ⟨rfl, hb⟩
    have HB := Aside0.mk hb
    clear hb HV
    have HF := Aside0.mk (Lib.fresh_isBuilder 43 5 w1)
    have HBf := Aside0.mk (below_alloc (Below.refl w1.heap.size w1) (.cells #[.pointer none, .slice none 0 0] 43))
    have HSf := Aside0.mk (show (w1.alloc (.cells #[.pointer none, .slice none 0 0] 43)).heap.size = w1.heap.size + 1 by simp)
    go_upto_region 4 with fail
    generalize w1.alloc (.cells #[.pointer none, .slice none 0 0] 43) = w2 at *
    have hcv := Lib.run_convert_string_bytes (P := Tryd.prog) w2 9 41 5 a0 Tryd.underlying9 Tryd.underlying41 Tryd.underlying5
    rw [HSf.out] at hcv
    have HR := Aside0.mk (show RowIs (Lib.bytesWorld w2 5 a0) (w1.heap.size + 1) l by rw [← HSf.out, HLL.out.1]; exact rowIs_start w2 a0)
    have HB2 := Aside0.mk (Lib.bytesWorld_below w2 5 a0)
    have HBD := Aside0.mk (builder_below HF.out HB2.out)
    have HB3 := Aside0.mk (show Below w1.heap.size w1 (Lib.bytesWorld w2 5 a0) from HBf.out.trans (HB2.out.mono HBf.out.size))
    generalize Lib.bytesWorld w2 5 a0 = w3 at *
    generalize grownCap w2 a0.size 0 5 = cp at *
    clear HF HBf HB2 HSf
    go_wp2_with fail
    clear hcv
    go_loopw [6, 13] (fun v6 v13 wr => ∃ (i : Nat), v13 = .int .i64 (i : Int) ∧ i ≤ a0.size ∧ Aside0 (Lib.IsBuilder 43 5 w1.heap.size w1.heap.size (Lib.byteCells (escL (l.take i))) wr) ∧ Aside0 (RowIs wr (w1.heap.size + 1) l) ∧ Aside0 (Below w1.heap.size w1 wr)) (fun _ v13 _ => a0.size - (RowKit.intOf v13).toNat)
    case atStart => exact ⟨0, rfl, Nat.zero_le _, HBD, HR, HB3⟩
    case round =>
      clear HBD HR HB3
      obtain ⟨i, rfl, hile, HBD, HR, HB3⟩ := hrel
      by_cases hi2 : i < a0.size
      · have hil : i < l.length := by have := HLL.out.2; omega
        have d1 : decide (i < a0.size) = true := decide_eq_true hi2
        have d2 : decide ((i : Int) < (a0.size : Int)) = true := decide_eq_true (by omega)
        have hw : wrap64 ((i : Int) + 1) = ((i + 1 : Nat) : Int) := by have := HLL.out.2; unfold wrap64; omega
        obtain ⟨c, hc⟩ : ∃ c, c = l[i] := ⟨_, rfl⟩
        have hcell : wr.cell? ⟨w1.heap.size + 1, i, none⟩ = some (.int .u8 (c.toNat : Int)) := by rw [hc]; exact HR.out.cell i hil
        have HPL := Aside0.mk (fun W => path_plain.calls (c.toNat : Int) (pl c) W (plain_is c))
        have hstep : escL (l.take (i + 1)) = escL (l.take i) ++ esc1 c := by
          rw [List.take_succ_eq_append_getElem hil, escL_app, hc]
          congr 1
          exact List.append_nil _
        obtain ⟨acc, hacc⟩ : ∃ acc, acc = escL (l.take i) := ⟨_, rfl⟩
        have hal : acc.length ≤ 192 := by
          have h := escL_len (l.take i)
          rw [← hacc, List.length_take] at h
          have := HN.out
          omega
        rw [← hacc] at HBD hstep
        have HI := Aside0.mk (And.intro hi2 (And.intro hil (And.intro hal hstep)))
        have HE := Aside0.mk (show esc1 c = if pl c then [c] else [37, hxd (c.toNat / 16), hxd (c.toNat % 16)] from rfl)
        generalize pl c = p at *
        clear hc hstep hacc hal hile
        cases p with
        | true =>
          have HE1 := Aside0.mk (show esc1 c = [c] from HE.out)
          clear HE
          go_wp2_with fail
          refine (HPL.out _).mono ?_
          rintro _ w4 ⟨rfl, hb⟩
          have HBD1 := Aside0.mk (builder_below HBD.out hb)
          have HR1 := Aside0.mk (HR.out.below hb)
          have HB4 := Aside0.mk (HB3.out.trans (hb.mono HB3.out.size))
          clear hb HPL
          have HWC := Aside0.mk (writeByte_kept w1.heap.size w1.heap.size (Lib.byteCells acc) (c.toNat : Int) w4 HBD1.out (by rw [byteCells_len]; have := HI.out.2.2.1; omega) HB4.out.size)
          rw [byteCells_one] at HWC
          go_wp2_with fail
          refine HWC.out.mono ?_
          rintro _ w5 ⟨rfl, hbd, hb2, hk⟩
          have HBD2 := Aside0.mk (isB hbd)
          have HR2 := Aside0.mk (HR1.out.kept hk (by omega))
          have HB5 := Aside0.mk (HB4.out.trans hb2)
          clear hbd hb2 hk HWC HBD1 HR1 HB4
          go_wp2_with fail
          go_roundw
          case rel => exact ⟨i + 1, by first | rfl | rw [hw] | (congr 1), by have := HI.out.1; omega, ⟨by rw [HI.out.2.2.2, HE1.out]; exact HBD2.out⟩, HR2, HB5⟩
          case measure => first | (rw [hw]; have := HI.out.1; show a0.size - (i + 1) < a0.size - i; omega) | (have := HI.out.1; show a0.size - (i + 1) < a0.size - i; omega)
        | false =>
          have HE1 := Aside0.mk (show esc1 c = [37] ++ ([hxd (c.toNat / 16)] ++ [hxd (c.toNat % 16)]) from HE.out)
          clear HE
          go_wp2_with fail
          refine (HPL.out _).mono ?_
          rintro _ w4 ⟨rfl, hb⟩
          have HBD1 := Aside0.mk (builder_below HBD.out hb)
          have HR1 := Aside0.mk (HR.out.below hb)
          have HB4 := Aside0.mk (HB3.out.trans (hb.mono HB3.out.size))
          clear hb HPL
          have HWC := Aside0.mk (writeByte_kept w1.heap.size w1.heap.size (Lib.byteCells acc) 37 w4 HBD1.out (by rw [byteCells_len]; have := HI.out.2.2.1; omega) HB4.out.size)
          rw [show (37 : Int) = ((37 : UInt8).toNat : Int) from rfl, byteCells_one, show (((37 : UInt8).toNat : Int)) = 37 from rfl] at HWC
          go_wp2_with fail
          refine HWC.out.mono ?_
          rintro _ w5 ⟨rfl, hbd, hb2, hk⟩
          have HBD2 := Aside0.mk (isB hbd)
          have HR2 := Aside0.mk (HR1.out.kept hk (by omega))
          have HB5 := Aside0.mk (HB4.out.trans hb2)
          clear hbd hb2 hk HWC HBD1 HR1 HB4
          have HC := Aside0.mk c.toNat_lt
          have q1 : ((0 : Int) ≤ (c.toNat : Int) / 16) = True := eq_true (by omega)
          have q2 : ((c.toNat : Int) / 16 < 16) = True := eq_true (by have := HC.out; omega)
          go_wp2_with fail
          have HWC := Aside0.mk (fun x => writeByte_kept w1.heap.size w1.heap.size (Lib.byteCells (acc ++ [37])) x w5 HBD2.out (by rw [byteCells_len, List.length_append]; have := HI.out.2.2.1; simp only [List.length_cons, List.length_nil]; omega) HB5.out.size)
          rw [hx_get]
          clear q1 q2
          generalize hxd (c.toNat / 16) = x1 at *
          refine (HWC.out _).mono ?_
          rintro _ w6 ⟨rfl, hbd, hb2, hk⟩
          rw [byteCells_one] at hbd
          have HBD3 := Aside0.mk (isB hbd)
          have HR3 := Aside0.mk (HR2.out.kept hk (by omega))
          have HB6 := Aside0.mk (HB5.out.trans hb2)
          clear hbd hb2 hk HWC HBD2 HR2 HB5
          have hand := and15 c
          have q3 : ((0 : Int) ≤ (c.toNat : Int) % 16) = True := eq_true (by omega)
          have q4 : ((c.toNat : Int) % 16 < 16) = True := eq_true (by omega)
          go_wp2_with fail
          have HWC := Aside0.mk (fun x => writeByte_kept w1.heap.size w1.heap.size (Lib.byteCells (acc ++ [37] ++ [x1])) x w6 HBD3.out (by rw [byteCells_len, List.length_append, List.length_append]; have := HI.out.2.2.1; simp only [List.length_cons, List.length_nil]; omega) HB6.out.size)
          rw [hx_get]
          clear q3 q4 hand
          generalize hxd (c.toNat % 16) = x2 at *
          refine (HWC.out _).mono ?_
          rintro _ w7 ⟨rfl, hbd, hb2, hk⟩
          rw [byteCells_one] at hbd
          have HBD4 := Aside0.mk (isB hbd)
          have HR4 := Aside0.mk (HR3.out.kept hk (by omega))
          have HB7 := Aside0.mk (HB6.out.trans hb2)
          clear hbd hb2 hk HWC HBD3 HR3 HB6
          go_wp2_with fail
          go_roundw
          case rel => exact ⟨i + 1, by first | rfl | rw [hw] | (congr 1), by have := HI.out.1; omega, ⟨by rw [HI.out.2.2.2, HE1.out, ← List.append_assoc, ← List.append_assoc]; exact HBD4.out⟩, HR4, HB7⟩
          case measure => first | (rw [hw]; have := HI.out.1; show a0.size - (i + 1) < a0.size - i; omega) | (have := HI.out.1; show a0.size - (i + 1) < a0.size - i; omega)
      · have d1 : decide (i < a0.size) = false := decide_eq_false hi2
        have d2 : decide ((i : Int) < (a0.size : Int)) = false := decide_eq_false (by omega)
        have HE := Aside0.mk (show escL (l.take i) = escL l by rw [List.take_of_length_le (by have := HLL.out.2; omega)])
        rw [HE.out] at HBD
        have HSTR := Aside0.mk (fun hBw => Tryd.Builder_String_any w1.heap.size w1.heap.size (escL l) wr HBD.out hBw)
        clear hi2 hile
        go_wp2_with fail
        refine (HSTR.out HB3.out.size).mono ?_
        rintro _ w4 ⟨rfl, hb⟩
        have HB4 := Aside0.mk (HB.out.trans ((HB3.out.trans hb).mono HB.out.size))
        clear hb HSTR
        go_wp2_with fail
        go_ret2
        exact ⟨rfl, HB4.out⟩

end Go.Proofs.YtjgialebelndmaaDoor.PF
