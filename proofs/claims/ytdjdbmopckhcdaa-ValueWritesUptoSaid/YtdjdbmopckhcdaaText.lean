/- value.Text, walked. -/
import Derived.Test.YtdjdbmopckhcdaaPut
import Derived.Test.YtdjdbmopckhcdaaPXx1
import Derived.Lib.Builder
namespace Go.Proofs.Ytdjdbmopckhcdaa.PV
open Go.RowKit Go.Proofs.YtdjdbmopckhcdaaW.PrintWords Go.Proofs.YtdjdbmopckhcdaaW.PrintLast Go.Proofs.YtdjdbmopckhcdaaW.PrintMore
open Go.Proofs
set_option linter.unusedVariables false
set_option linter.unusedSimpArgs false
set_option maxHeartbeats 4000000
set_option maxRecDepth 100000

def one (c : UInt8) : Option UInt8 := if c = 110 then some 10 else if c = 78 then some 10 else if c = 92 then some c else if c = 44 then some c else if c = 59 then some c else none
/-- What a value means as a text. -/
def txt : List UInt8 → Option (List UInt8)
  | [] => some []
  | b :: l =>
    if b = 92 then
      match l with
      | [] => none
      | c :: l' => (one c).bind fun x => (txt l').map (x :: ·)
    else (txt l).map (b :: ·)
def txtI (s : List UInt8) : ByteArray × Int := match txt s with
  | none => (⟨#[]⟩, 31)
  | some l => (⟨l.toArray⟩, 0)
def value_Text.f (a0 : ByteArray) : Option (ByteArray × Int) := if a0.size ≤ 1073741824 then some (txtI a0.data.toList) else none
theorem byteCells_snoc (l : List UInt8) (c : UInt8) : Lib.byteCells l ++ [.int .u8 (c.toNat : Int)] = Lib.byteCells (l ++ [c]) := by simp [Lib.byteCells]
theorem txt_plain {l : List UInt8} {i : Nat} (hi : i < l.length) (hb : l[i] ≠ 92) : txt (l.drop i) = (txt (l.drop (i + 1))).map (l[i] :: ·) := by
  rw [List.drop_eq_getElem_cons hi]
  conv => lhs; unfold txt
  rw [if_neg hb]
theorem txt_esc {l : List UInt8} {i : Nat} (hi : i + 1 < l.length) (hb : l[i] = 92) : txt (l.drop i) = (one l[i + 1]).bind fun x => (txt (l.drop (i + 2))).map (x :: ·) := by
  rw [List.drop_eq_getElem_cons (show i < l.length by omega), List.drop_eq_getElem_cons hi]
  conv => lhs; unfold txt
  rw [if_pos hb]
theorem txt_end {l : List UInt8} {i : Nat} (hi : i + 1 = l.length) (hb : l[i]'(by omega) = 92) : txt (l.drop i) = none := by
  rw [List.drop_eq_getElem_cons (show i < l.length by omega), List.drop_of_length_le (by omega)]
  conv => lhs; unfold txt
  rw [if_pos hb]
theorem esc_step (acc : List UInt8) (c x : UInt8) (h : one c = some x) (r : Option (List UInt8)) : ((one c).bind fun x => r.map (x :: ·)).map (acc ++ ·) = r.map ((acc ++ [x]) ++ ·) := by
  rw [h, Option.bind_some, Option.map_map]
  congr 1
  funext r
  simp
theorem esc_none (c : UInt8) (h1 : ¬ c = 110) (h2 : ¬ c = 78) (h3 : ¬ c = 92) (h4 : ¬ c = 44) (h5 : ¬ c = 59) : one c = none := by
  unfold one
  rw [if_neg h1, if_neg h2, if_neg h3, if_neg h4, if_neg h5]
theorem ne_nat {a b : UInt8} (h : ¬ a = b) : ¬ a.toNat = b.toNat := fun e => h (UInt8.toNat_inj.1 e)

theorem byteCells_len (l : List UInt8) : (Lib.byteCells l).length = l.length := by simp [Lib.byteCells]
theorem isB {B b : Nat} {bs : List Value} {w : World} (h : Lib.BuilderAt 53 5 B b (.pointer (some ⟨b, 0, none⟩)) bs w) : Lib.IsBuilder 53 5 B b bs w := .inr h
theorem meas (n i i2 : Nat) (v : Value) (hv : v = .int .i64 (i2 : Int)) (h : i < n) (h2 : i < i2) : n - (intOf v).toNat < n - i := by
  subst hv
  show n - i2 < n - i
  omega
set_option maxHeartbeats 16000000 in
theorem value_Text.calls (a0 : ByteArray) (r1 : ByteArray) (r2 : Int) (w : World) (h : value_Text.f a0 = some (r1, r2)) :
    Calls Try.prog 10 #[.string a0] w fun e w' => e = .returned (.tuple #[.string r1, .int .i64 r2]) ∧ Below w.heap.size w w' := by
  unfold value_Text.f at h
  by_cases hsz : a0.size ≤ 1073741824
  · rw [if_pos hsz] at h
    injection h with h
    obtain ⟨l, hl⟩ : ∃ l, l = a0.data.toList := ⟨_, rfl⟩
    have hll : l.length = a0.size := by rw [hl]; rfl
    rw [← hl] at h
    have HL := Aside0.mk (And.intro hl (And.intro hll hsz))
    have HR := Aside0.mk h
    have HF := Aside0.mk (Lib.fresh_isBuilder 53 5 w)
    have HBf := Aside0.mk (below_alloc (Below.refl w.heap.size w) (.cells #[.pointer none, .slice none 0 0] 53))
    clear h hl hll hsz
    go_enter Try.func10, Try.ntmps10
    go_upto_region 2 with fail
    generalize w.alloc (.cells #[.pointer none, .slice none 0 0] 53) = w1 at *
    go_wp2_with fail
    go_loopw [5] (fun v5 wr => ∃ (i : Nat) (acc : List UInt8), v5 = .int .i64 (i : Int) ∧ Aside0 (acc.length ≤ i ∧ i ≤ a0.size ∧ txt l = (txt (l.drop i)).map (acc ++ ·)) ∧ Aside0 (Lib.IsBuilder 53 5 w.heap.size w.heap.size (Lib.byteCells acc) wr) ∧ Aside0 (Below w.heap.size w wr)) (fun v5 _ => a0.size - (intOf v5).toNat)
    case atStart => exact ⟨0, [], rfl, Aside0.mk ⟨Nat.le_refl _, Nat.zero_le _, by simp⟩, HF, HBf⟩
    case round =>
      clear HF HBf
      obtain ⟨i, acc, rfl, HA, HBD, HB⟩ := hrel
      by_cases hi : i < a0.size
      · have d1 : decide (i < a0.size) = true := decide_eq_true hi
        have hil : i < l.length := by rw [HL.out.2.1]; exact hi
        obtain ⟨b, hb⟩ : ∃ b, b = l[i] := ⟨_, rfl⟩
        have hbt : ∀ h : i < a0.size, (a0[i]'h) = b := fun h => by rw [hb]; simp only [HL.out.1]; rfl
        have HI := Aside0.mk hi
        have hw : wrap64 ((i : Int) + 1) = ((i + 1 : Nat) : Int) := by have := HL.out.2.2; unfold wrap64; omega
        by_cases hb92 : b = 92
        · have e1 : ((b.toNat : Int) == 92) = true := by rw [hb92]; rfl
          have hw2 : wrap64 (((i + 1 : Nat) : Int) + 1) = ((i + 2 : Nat) : Int) := by have := HL.out.2.2; unfold wrap64; omega
          by_cases hend : i + 1 = a0.size
          · have e2 : (((i : Int) + 1) == (a0.size : Int)) = true := beq_iff_eq.2 (by omega)
            have e2' : ((((i + 1 : Nat) : Int)) == (a0.size : Int)) = true := beq_iff_eq.2 (by omega)
            have HE := Aside0.mk (show txt l = none by rw [HA.out.2.2, txt_end (show i + 1 = l.length by rw [HL.out.2.1]; exact hend) (hb ▸ hb92)]; rfl)
            replace hi := eq_true hi
            clear hb hil hb92 hend
            go_wp2_with fail
            go_ret2
            have hr := HR.out
            unfold txtI at hr
            rw [HE.out] at hr
            injection hr with h1 h2
            subst h1 h2
            exact ⟨rfl, HB.out⟩
          · have e2 : (((i : Int) + 1) == (a0.size : Int)) = false := beq_eq_false_iff_ne.2 (by omega)
            have e2' : ((((i + 1 : Nat) : Int)) == (a0.size : Int)) = false := beq_eq_false_iff_ne.2 (by omega)
            have hi2 : i + 1 < a0.size := by omega
            have hil2 : i + 1 < l.length := by rw [HL.out.2.1]; exact hi2
            obtain ⟨c, hc⟩ : ∃ c, c = l[i + 1] := ⟨_, rfl⟩
            have hct : ∀ h : i + 1 < a0.size, (a0[i + 1]'h) = c := fun h => by rw [hc]; simp only [HL.out.1]; rfl
            have HX := Aside0.mk (show txt l = ((one c).bind fun x => (txt (l.drop (i + 2))).map (x :: ·)).map (acc ++ ·) by rw [HA.out.2.2, txt_esc hil2 (hb ▸ hb92), hc])
            have HI2 := Aside0.mk hi2
            replace hi := eq_true hi
            have hi3 : ((i : Int) + 1 < (a0.size : Int)) = True := eq_true (by omega)
            have hi0 : (0 ≤ (i : Int) + 1) = True := eq_true (by omega)
            have hit : ((i : Int) + 1).toNat = i + 1 := by omega
            replace hi2 := eq_true hi2
            clear hb hil hb92 hend hc hil2
            by_cases hc110 : c = 110
            · subst hc110
              have HX2 := Aside0.mk (show txt l = (txt (l.drop (i + 2))).map ((acc ++ [10]) ++ ·) by rw [HX.out]; exact esc_step acc 110 10 rfl _)
              clear HX
              have HWC := Aside0.mk (Try.Builder_WriteByte w.heap.size w.heap.size (Lib.byteCells acc) ((10 : UInt8).toNat : Int) wr HBD.out (by rw [byteCells_len]; have := HA.out.1; have := HL.out.2.2; have := HI.out; omega) HB.out.size)
              go_wp2_with fail
              refine HWC.out.mono ?_
              rintro _ w2 ⟨rfl, hbd, hb2⟩
              have HBD2 := Aside0.mk hbd
              have HB2 := Aside0.mk (HB.out.trans hb2)
              clear hbd hb2 HWC
              go_wp2_with fail
              go_roundw
              case rel => exact ⟨i + 2, acc ++ [10], by first | rfl | (rw [hw]; done) | (congr 1; done) | (congr 1; have := HL.out.2.2; have := HI.out; unfold wrap64; omega), Aside0.mk ⟨by simp only [List.length_append, List.length_singleton]; have := HA.out.1; omega, HI2.out, HX2.out⟩, Aside0.mk (by have h := HBD2.out; rw [byteCells_snoc] at h; exact isB h), HB2⟩
              case measure => exact meas a0.size i (i + 2) _ (by first | rfl | (rw [hw]; done) | (congr 1; done) | (congr 1; have := HL.out.2.2; have := HI.out; unfold wrap64; omega)) HI.out (by omega)
            · skip
              by_cases hc78 : c = 78
              · subst hc78
                have HX2 := Aside0.mk (show txt l = (txt (l.drop (i + 2))).map ((acc ++ [10]) ++ ·) by rw [HX.out]; exact esc_step acc 78 10 rfl _)
                clear HX
                have HWC := Aside0.mk (Try.Builder_WriteByte w.heap.size w.heap.size (Lib.byteCells acc) ((10 : UInt8).toNat : Int) wr HBD.out (by rw [byteCells_len]; have := HA.out.1; have := HL.out.2.2; have := HI.out; omega) HB.out.size)
                go_wp2_with fail
                refine HWC.out.mono ?_
                rintro _ w2 ⟨rfl, hbd, hb2⟩
                have HBD2 := Aside0.mk hbd
                have HB2 := Aside0.mk (HB.out.trans hb2)
                clear hbd hb2 HWC
                go_wp2_with fail
                go_roundw
                case rel => exact ⟨i + 2, acc ++ [10], by first | rfl | (rw [hw]; done) | (congr 1; done) | (congr 1; have := HL.out.2.2; have := HI.out; unfold wrap64; omega), Aside0.mk ⟨by simp only [List.length_append, List.length_singleton]; have := HA.out.1; omega, HI2.out, HX2.out⟩, Aside0.mk (by have h := HBD2.out; rw [byteCells_snoc] at h; exact isB h), HB2⟩
                case measure => exact meas a0.size i (i + 2) _ (by first | rfl | (rw [hw]; done) | (congr 1; done) | (congr 1; have := HL.out.2.2; have := HI.out; unfold wrap64; omega)) HI.out (by omega)
              · skip
                by_cases hc92 : c = 92
                · subst hc92
                  have HX2 := Aside0.mk (show txt l = (txt (l.drop (i + 2))).map ((acc ++ [92]) ++ ·) by rw [HX.out]; exact esc_step acc 92 92 rfl _)
                  clear HX
                  have HWC := Aside0.mk (Try.Builder_WriteByte w.heap.size w.heap.size (Lib.byteCells acc) ((92 : UInt8).toNat : Int) wr HBD.out (by rw [byteCells_len]; have := HA.out.1; have := HL.out.2.2; have := HI.out; omega) HB.out.size)
                  go_wp2_with fail
                  refine HWC.out.mono ?_
                  rintro _ w2 ⟨rfl, hbd, hb2⟩
                  have HBD2 := Aside0.mk hbd
                  have HB2 := Aside0.mk (HB.out.trans hb2)
                  clear hbd hb2 HWC
                  go_wp2_with fail
                  go_roundw
                  case rel => exact ⟨i + 2, acc ++ [92], by first | rfl | (rw [hw]; done) | (congr 1; done) | (congr 1; have := HL.out.2.2; have := HI.out; unfold wrap64; omega), Aside0.mk ⟨by simp only [List.length_append, List.length_singleton]; have := HA.out.1; omega, HI2.out, HX2.out⟩, Aside0.mk (by have h := HBD2.out; rw [byteCells_snoc] at h; exact isB h), HB2⟩
                  case measure => exact meas a0.size i (i + 2) _ (by first | rfl | (rw [hw]; done) | (congr 1; done) | (congr 1; have := HL.out.2.2; have := HI.out; unfold wrap64; omega)) HI.out (by omega)
                · skip
                  by_cases hc44 : c = 44
                  · subst hc44
                    have HX2 := Aside0.mk (show txt l = (txt (l.drop (i + 2))).map ((acc ++ [44]) ++ ·) by rw [HX.out]; exact esc_step acc 44 44 rfl _)
                    clear HX
                    have HWC := Aside0.mk (Try.Builder_WriteByte w.heap.size w.heap.size (Lib.byteCells acc) ((44 : UInt8).toNat : Int) wr HBD.out (by rw [byteCells_len]; have := HA.out.1; have := HL.out.2.2; have := HI.out; omega) HB.out.size)
                    go_wp2_with fail
                    refine HWC.out.mono ?_
                    rintro _ w2 ⟨rfl, hbd, hb2⟩
                    have HBD2 := Aside0.mk hbd
                    have HB2 := Aside0.mk (HB.out.trans hb2)
                    clear hbd hb2 HWC
                    go_wp2_with fail
                    go_roundw
                    case rel => exact ⟨i + 2, acc ++ [44], by first | rfl | (rw [hw]; done) | (congr 1; done) | (congr 1; have := HL.out.2.2; have := HI.out; unfold wrap64; omega), Aside0.mk ⟨by simp only [List.length_append, List.length_singleton]; have := HA.out.1; omega, HI2.out, HX2.out⟩, Aside0.mk (by have h := HBD2.out; rw [byteCells_snoc] at h; exact isB h), HB2⟩
                    case measure => exact meas a0.size i (i + 2) _ (by first | rfl | (rw [hw]; done) | (congr 1; done) | (congr 1; have := HL.out.2.2; have := HI.out; unfold wrap64; omega)) HI.out (by omega)
                  · skip
                    by_cases hc59 : c = 59
                    · subst hc59
                      have HX2 := Aside0.mk (show txt l = (txt (l.drop (i + 2))).map ((acc ++ [59]) ++ ·) by rw [HX.out]; exact esc_step acc 59 59 rfl _)
                      clear HX
                      have HWC := Aside0.mk (Try.Builder_WriteByte w.heap.size w.heap.size (Lib.byteCells acc) ((59 : UInt8).toNat : Int) wr HBD.out (by rw [byteCells_len]; have := HA.out.1; have := HL.out.2.2; have := HI.out; omega) HB.out.size)
                      go_wp2_with fail
                      refine HWC.out.mono ?_
                      rintro _ w2 ⟨rfl, hbd, hb2⟩
                      have HBD2 := Aside0.mk hbd
                      have HB2 := Aside0.mk (HB.out.trans hb2)
                      clear hbd hb2 HWC
                      go_wp2_with fail
                      go_roundw
                      case rel => exact ⟨i + 2, acc ++ [59], by first | rfl | (rw [hw]; done) | (congr 1; done) | (congr 1; have := HL.out.2.2; have := HI.out; unfold wrap64; omega), Aside0.mk ⟨by simp only [List.length_append, List.length_singleton]; have := HA.out.1; omega, HI2.out, HX2.out⟩, Aside0.mk (by have h := HBD2.out; rw [byteCells_snoc] at h; exact isB h), HB2⟩
                      case measure => exact meas a0.size i (i + 2) _ (by first | rfl | (rw [hw]; done) | (congr 1; done) | (congr 1; have := HL.out.2.2; have := HI.out; unfold wrap64; omega)) HI.out (by omega)
                    · skip
                      have HE := Aside0.mk (show txt l = none by rw [HX.out, esc_none c hc110 hc78 hc92 hc44 hc59]; rfl)
                      have g110 : ((c.toNat : Int) == 110) = false := beq_eq_false_iff_ne.2 (by have h := ne_nat hc110; intro e; exact h (Int.ofNat.inj e))
                      have g78 : ((c.toNat : Int) == 78) = false := beq_eq_false_iff_ne.2 (by have h := ne_nat hc78; intro e; exact h (Int.ofNat.inj e))
                      have g92 : ((c.toNat : Int) == 92) = false := beq_eq_false_iff_ne.2 (by have h := ne_nat hc92; intro e; exact h (Int.ofNat.inj e))
                      have g44 : ((c.toNat : Int) == 44) = false := beq_eq_false_iff_ne.2 (by have h := ne_nat hc44; intro e; exact h (Int.ofNat.inj e))
                      have g59 : ((c.toNat : Int) == 59) = false := beq_eq_false_iff_ne.2 (by have h := ne_nat hc59; intro e; exact h (Int.ofNat.inj e))
                      clear hc110 hc78 hc92 hc44 hc59
                      go_wp2_with fail
                      go_ret2
                      have hr := HR.out
                      unfold txtI at hr
                      rw [HE.out] at hr
                      injection hr with h1 h2
                      subst h1 h2
                      exact ⟨rfl, HB.out⟩
        · have e1 : ((b.toNat : Int) == 92) = false := beq_eq_false_iff_ne.2 (by have h := ne_nat hb92; intro e; exact h (Int.ofNat.inj e))
          have HX := Aside0.mk (show txt l = (txt (l.drop (i + 1))).map ((acc ++ [b]) ++ ·) by
            rw [HA.out.2.2, txt_plain hil (by rw [← hb]; exact hb92), Option.map_map, ← hb]
            congr 1
            funext r
            simp)
          replace hi := eq_true hi
          clear hb hil hb92
          have HWC := Aside0.mk (Try.Builder_WriteByte w.heap.size w.heap.size (Lib.byteCells acc) (b.toNat : Int) wr HBD.out (by rw [byteCells_len]; have := HA.out.1; have := HL.out.2.2; have := HI.out; omega) HB.out.size)
          go_wp2_with fail
          refine HWC.out.mono ?_
          rintro _ w2 ⟨rfl, hbd, hb2⟩
          have HBD2 := Aside0.mk hbd
          have HB2 := Aside0.mk (HB.out.trans hb2)
          clear hbd hb2 HWC
          go_wp2_with fail
          go_roundw
          case rel => exact ⟨i + 1, acc ++ [b], by first | rfl | (rw [hw]; done) | (congr 1; done) | (congr 1; have := HL.out.2.2; have := HI.out; unfold wrap64; omega), Aside0.mk ⟨by simp only [List.length_append, List.length_singleton]; have := HA.out.1; omega, HI.out, HX.out⟩, Aside0.mk (by have h := HBD2.out; rw [byteCells_snoc] at h; exact isB h), HB2⟩
          case measure => exact meas a0.size i (i + 1) _ (by first | rfl | (rw [hw]; done) | (congr 1; done) | (congr 1; have := HL.out.2.2; have := HI.out; unfold wrap64; omega)) HI.out (by omega)
      · have d1 : decide (i < a0.size) = false := decide_eq_false hi
        have HE := Aside0.mk (show txt l = some acc by
          rw [HA.out.2.2, List.drop_of_length_le (by have := HA.out.2.1; have := HL.out.2.1; omega)]
          unfold txt; simp)
        have HSC := Aside0.mk (Try.Builder_String_any w.heap.size w.heap.size acc wr HBD.out HB.out.size)
        clear hi
        go_wp2_with fail
        refine HSC.out.mono ?_
        rintro _ w2 ⟨rfl, hb2⟩
        have HB2 := Aside0.mk (HB.out.trans hb2)
        clear hb2 HSC
        go_wp2_with fail
        go_ret2
        have hr := HR.out
        unfold txtI at hr
        rw [HE.out] at hr
        injection hr with h1 h2
        subst h1 h2
        exact ⟨rfl, HB2.out⟩
  · rw [if_neg hsz] at h; cases h

end Go.Proofs.Ytdjdbmopckhcdaa.PV
