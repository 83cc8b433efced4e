/- path.text walked. -/
import Derived.Test.YtjgialebelndmaaDoorRegT
namespace Go.Proofs.YtjgialebelndmaaDoor.PF
open Go.RowKit Go.Proofs.YtjgialebelndmaaDoorW.PrintWords Go.Proofs.YtjgialebelndmaaDoorW.PrintLast Go.Proofs.YtjgialebelndmaaDoorW.PrintMore
open Go.Shelf
set_option linter.unusedVariables false
set_option linter.unusedSimpArgs false
set_option maxHeartbeats 4000000
set_option maxRecDepth 100000

open Go.Proofs Go.Lib Go.Proofs.YtjgialebelndmaaDoor.Reg
def strSize : Value → Nat | .string s => s.size | _ => 0
set_option maxHeartbeats 16000000 in
theorem text_calls (a0 : ByteArray) (hs : a0.size ≤ 1073741824) (w : World) (hT : Tabs w) :
    Calls Tryd.prog 23 #[.string a0] w fun e w' => e = .returned (.tuple #[.string ⟨((txtL a0.data.toList).getD []).toArray⟩, .int .i64 (if (txtL a0.data.toList).isSome then 0 else 60)]) ∧ Below w.heap.size w w' := by
  have HT := Aside0.mk hT
  obtain ⟨R, hR⟩ : ∃ R, R = txtL a0.data.toList := ⟨_, rfl⟩
  rw [← hR]
  have FAIL := Aside0.mk (show R = none → (R.getD [] = [] ∧ (if R.isSome then (0 : Int) else 60) = 60) from fun h => by rw [h]; exact ⟨rfl, rfl⟩)
  have GOOD := Aside0.mk (show ∀ r, R = some r → (R.getD [] = r ∧ (if R.isSome then (0 : Int) else 60) = 0) from fun r h => by rw [h]; exact ⟨rfl, rfl⟩)
  obtain ⟨R1, hR1⟩ : ∃ R1, R1 = R.getD [] := ⟨_, rfl⟩
  obtain ⟨R2, hR2⟩ : ∃ R2 : Int, R2 = if R.isSome then (0 : Int) else 60 := ⟨_, rfl⟩
  rw [← hR1, ← hR2]
  rw [← hR1, ← hR2] at FAIL GOOD
  have HR := Aside0.mk hR
  clear hR hR1 hR2 hT
  have HF := Aside0.mk (Lib.fresh_isBuilder 43 5 w)
  have HBf := Aside0.mk (below_alloc (Below.refl w.heap.size w) (.cells #[.pointer none, .slice none 0 0] 43))
  go_enter Tryd.func23, Tryd.ntmps23
  go_wp2_with fail
  generalize w.alloc (.cells #[.pointer none, .slice none 0 0] 43) = w1 at *
  go_loopw [0] (fun v0 wr => ∃ (y : ByteArray) (acc : List UInt8), v0 = .string y ∧ Aside0 (R = ((unL y.data.toList).map (acc ++ ·)).bind (fun r => if fitsL r then some r else none) ∧ acc.length + y.size ≤ 1073741824) ∧ Aside0 (Lib.IsBuilder 43 5 w.heap.size w.heap.size (Lib.byteCells acc) wr) ∧ Aside0 (Below w.heap.size w wr)) (fun v0 _ => strSize v0)
  case atStart => exact ⟨a0, [], rfl, ⟨by rw [HR.out]; unfold txtL; congr 1; simp, by simpa using hs⟩, HF, HBf⟩
  case round =>
    clear HF HBf hs HR
    obtain ⟨y, acc, rfl, HY, HBD, HB⟩ := hrel
    obtain ⟨l, hl⟩ : ∃ l, l = y.data.toList := ⟨_, rfl⟩
    have hsz : y.size = l.length := by rw [hl]; rfl
    rw [← hl, hsz] at HY
    by_cases hnil : l = []
    · have hne : y.toList.isEmpty = true := by rw [Lib.toList_data y, ← hl, hnil]; rfl
      have HQ := Aside0.mk (show R = if fitsL acc then some acc else none by rw [HY.out.1, hnil]; show (if fitsL (acc ++ []) then some (acc ++ []) else none) = _; rw [List.append_nil])
      have HQL := Aside0.mk (show acc.length ≤ 1073741824 by have := HY.out.2; omega)
      have HS1 := Aside0.mk (fun W h hB => string_f w.heap.size w.heap.size acc W h hB)
      have hab : (⟨acc.toArray⟩ : ByteArray).data.toList = acc := rfl
      have HFT := Aside0.mk (fun W hT => fits_calls (⟨acc.toArray⟩ : ByteArray) (show acc.toArray.size ≤ 1073741824 by simpa using HQL.out) W hT)
      rw [hab] at HFT
      have HAB := Aside0.mk hab
      clear hl hsz hnil hab
      obtain ⟨A, hA⟩ : ∃ A : ByteArray, A = ⟨acc.toArray⟩ := ⟨_, rfl⟩
      rw [← hA] at HFT
      have HAA := Aside0.mk hA
      clear hA
      go_wp2_with fail
      refine (HS1.out _ (Lib.IsBuilderF.of HBD.out) HB.out.size).mono ?_
      rintro _ w2 ⟨rfl, hbd, hb⟩
      have HBD2 := Aside0.mk hbd
      have HB2 := Aside0.mk (HB.out.trans hb)
      clear hbd hb
      rw [← HAA.out]
      go_wp2_with fail
      refine (HFT.out _ (tabs_below HT.out HB2.out)).mono ?_
      rintro _ w3 ⟨rfl, hb⟩
      have HB3 := Aside0.mk (HB2.out.trans (hb.mono HB2.out.size))
      have HBD3 := Aside0.mk (builderF_below HBD2.out hb)
      clear hb HFT HBD2 HB2
      generalize fitsL acc = v at *
      cases v with
      | false =>
        have HRN := Aside0.mk (FAIL.out (by rw [HQ.out]; rfl))
        go_wp2_with fail
        go_ret2
        exact ⟨by rw [HRN.out.1, HRN.out.2]; rfl, HB3.out⟩
      | true =>
        have HRN := Aside0.mk (GOOD.out acc (by rw [HQ.out]; rfl))
        go_wp2_with fail
        refine (HS1.out _ HBD3.out HB3.out.size).mono ?_
        rintro _ w4 ⟨rfl, hbd, hb⟩
        have HB4 := Aside0.mk (HB3.out.trans hb)
        clear hbd hb
        go_wp2_with fail
        go_ret2
        exact ⟨by rw [HRN.out.1, HRN.out.2]; rfl, HB4.out⟩
    · obtain ⟨c, t, hct⟩ : ∃ c t, l = c :: t := by cases l with | nil => exact absurd rfl hnil | cons c t => exact ⟨c, t, rfl⟩
      have hty : y.toList = l := by rw [hl]; exact Lib.toList_data y
      have hne : y.toList.isEmpty = false := by rw [hty, hct]; rfl
      have hin : 0 < y.size := by rw [hsz, hct]; simp
      have hget : y[0]'hin = c := by
        have h1 : y.data.toList[0]? = some c := by rw [← hl, hct]; rfl
        have h2 : y.data.toList[0]? = some (y[0]'hin) := by
          rw [Array.getElem?_toList]
          exact Array.getElem?_eq_getElem (h := hin)
        rw [h2] at h1
        exact Option.some.inj h1
      have q1 : (1 ≤ y.size) = True := eq_true hin
      have q1' : ((1 : Int) ≤ (y.size : Int)) = True := eq_true (by omega)
      obtain ⟨z, hz⟩ : ∃ z, z = y.extract 1 y.size := ⟨_, rfl⟩
      have hzt : z.data.toList = t := by rw [hz, ext_drop, ← hl, hct]; rfl
      have hzs : z.size = t.length := by rw [← hzt]; rfl
      have HZ := Aside0.mk (And.intro hzt (And.intro hzs (And.intro hsz hct)))
      have hz' := hz.symm
      clear hty hl hsz hct hnil hz hzt hzs
      by_cases hc37 : c = 37
      · have e1 : ((c.toNat : Int) == 37) = true := by rw [hc37]; rfl
        have e2 : decide ((c.toNat : Int) = 37) = true := by rw [hc37]; rfl
        have HC := Aside0.mk hc37
        clear hc37
        by_cases h2 : t.length < 2
        · have HRN := Aside0.mk (FAIL.out (by rw [HY.out.1, HZ.out.2.2.2, HC.out, unL_short t h2]; rfl))
          have s1 : decide (z.size < 2) = true := decide_eq_true (by rw [HZ.out.2.1]; exact h2)
          have s2 : decide ((z.size : Int) < 2) = true := decide_eq_true (by have := HZ.out.2.1; omega)
          clear h2
          go_wp2_with fail
          go_ret2
          exact ⟨by rw [HRN.out.1, HRN.out.2]; rfl, HB.out⟩
        · obtain ⟨a, b, r, hab⟩ : ∃ a b r, t = a :: b :: r := by
            match t, h2 with
            | [], h => simp at h
            | [a], h => simp at h
            | a :: b :: r, _ => exact ⟨a, b, r, rfl⟩
          have s1 : decide (z.size < 2) = false := decide_eq_false (by rw [HZ.out.2.1]; exact h2)
          have s2 : decide ((z.size : Int) < 2) = false := decide_eq_false (by have := HZ.out.2.1; omega)
          have g0 : 0 < z.size := by have := HZ.out.2.1; omega
          have g1 : 1 < z.size := by have := HZ.out.2.1; omega
          have gz : ∀ (k : Nat) (h : k < z.size) (x : UInt8), t[k]? = some x → z[k]'h = x := by
            intro k h x hx
            have h1 : z.data.toList[k]? = some x := by rw [HZ.out.1]; exact hx
            have h2 : z.data.toList[k]? = some (z[k]'h) := by
              rw [Array.getElem?_toList]
              exact Array.getElem?_eq_getElem (h := h)
            rw [h2] at h1
            exact Option.some.inj h1
          have z0 : z[0]'g0 = a := gz 0 g0 a (by rw [hab]; rfl)
          have z1 : z[1]'g1 = b := gz 1 g1 b (by rw [hab]; rfl)
          have r1 : (2 ≤ z.size) = True := eq_true (by omega)
          have r1' : ((2 : Int) ≤ (z.size : Int)) = True := eq_true (by omega)
          obtain ⟨x, hx⟩ : ∃ x, x = z.extract 2 z.size := ⟨_, rfl⟩
          have hxt : x.data.toList = r := by rw [hx, ext_drop, HZ.out.1, hab]; rfl
          have HX := Aside0.mk (And.intro hxt (And.intro (show x.size = r.length by rw [← hxt]; rfl) hab))
          have hx' := hx.symm
          have HU := Aside0.mk (show unL (c :: t) = _ by rw [HC.out, hab, unL_pct a b r])
          clear hx hxt hab h2 gz
          go_upto_region 8 with fail
          refine regionT (by kernel_rfl) z a b g0 g1 z0 z1 _ wr rfl rfl ?_
          intro w2 hb2
          have HB2 := Aside0.mk (HB.out.trans (hb2.mono HB.out.size))
          have HBD2 := Aside0.mk (builder_below HBD.out hb2)
          clear hb2 z0 z1 g0 g1 s1 s2 e1 e2 hget q1 q1' hne hin hz'
          have hda := dg_cases a
          have hdb := dg_cases b
          generalize dg a = da at *
          generalize dg b = db at *
          rcases hda with rfl | ⟨k1, hk1, rfl⟩
          · have HRN := Aside0.mk (FAIL.out (by rw [HY.out.1, HZ.out.2.2.2, HU.out, if_pos (Or.inl (by decide))]; rfl))
            clear hdb HU
            simp only [Act.put]
            go_wp2_with fail
            go_ret2
            exact ⟨by rw [HRN.out.1, HRN.out.2]; rfl, HB2.out⟩
          · rcases hdb with rfl | ⟨k2, hk2, rfl⟩
            · have HRN := Aside0.mk (FAIL.out (by rw [HY.out.1, HZ.out.2.2.2, HU.out, if_pos (Or.inr (by decide))]; rfl))
              have f1 : decide ((k1 : Int) < 0) = false := decide_eq_false (by omega)
              clear HU
              simp only [Act.put]
              go_wp2_with fail
              go_ret2
              exact ⟨by rw [HRN.out.1, HRN.out.2]; rfl, HB2.out⟩
            · have HRN := Aside0.mk (show R = ((unL r).map ((acc ++ [UInt8.ofNat (k1 * 16 + k2)]) ++ ·)).bind (fun r => if fitsL r then some r else none) by
                rw [HY.out.1, HZ.out.2.2.2, HU.out, if_neg (by omega), Option.map_map]
                congr 2
                funext x
                simp)
              have f1 : decide ((k1 : Int) < 0) = false := decide_eq_false (by omega)
              have f2 : decide ((k2 : Int) < 0) = false := decide_eq_false (by omega)
              clear HU
              simp only [Act.put]
              go_wp2_with fail
              rw [or_is k1 k2 hk1 hk2]
              clear f1 f2 r1 r1' hx'
              generalize UInt8.ofNat (k1 * 16 + k2) = cc at *
              have HLEN := Aside0.mk (show acc.length + 1 + r.length ≤ 1073741824 by have h1 := HY.out.2; have h2 := HZ.out.2.2.2; have h3 := HX.out.2.2; rw [h2, h3] at h1; simp only [List.length_cons] at h1; omega)
              have HWC := Aside0.mk (Tryd.Builder_WriteByte w.heap.size w.heap.size (Lib.byteCells acc) (cc.toNat : Int) w2 HBD2.out (by rw [byteCells_len]; have := HLEN.out; omega) HB2.out.size)
              rw [byteCells_one] at HWC
              refine HWC.out.mono ?_
              rintro _ w3 ⟨rfl, hbd, hbb2⟩
              have HBD3 := Aside0.mk (isB hbd)
              have HB3 := Aside0.mk (HB2.out.trans hbb2)
              clear hbd hbb2 HWC HBD2 HB2
              go_wp2_with fail
              go_roundw
              case rel => exact ⟨x, acc ++ [cc], rfl, ⟨by rw [HX.out.1]; exact HRN.out, by rw [HX.out.2.1, List.length_append, List.length_singleton]; exact HLEN.out⟩, HBD3, HB3⟩
              case measure => show x.size < y.size; rw [HX.out.2.1, HZ.out.2.2.1, HZ.out.2.2.2, HX.out.2.2]; simp only [List.length_cons]; omega
      · have e1 : ((c.toNat : Int) == 37) = false := beq_eq_false_iff_ne.2 (fun h => hc37 (UInt8.toNat_inj.1 (by show c.toNat = 37; omega)))
        have e2 : decide ((c.toNat : Int) = 37) = false := decide_eq_false (fun h => hc37 (UInt8.toNat_inj.1 (by show c.toNat = 37; omega)))
        have HPL := Aside0.mk (fun W => path_plain.calls (c.toNat : Int) (pl c) W (plain_is c))
        have HU := Aside0.mk (unL_plain c t hc37)
        clear hc37
        generalize pl c = p at *
        cases p with
        | false =>
          have HRN := Aside0.mk (FAIL.out (by rw [HY.out.1, HZ.out.2.2.2, HU.out]; rfl))
          clear HU
          go_wp2_with fail
          refine (HPL.out _).mono ?_
          rintro _ w2 ⟨rfl, hb⟩
          have HB2 := Aside0.mk (HB.out.trans (hb.mono HB.out.size))
          clear hb HPL
          go_wp2_with fail
          go_ret2
          exact ⟨by rw [HRN.out.1, HRN.out.2]; rfl, HB2.out⟩
        | true =>
          have HRN := Aside0.mk (show R = ((unL t).map ((acc ++ [c]) ++ ·)).bind (fun r => if fitsL r then some r else none) by
            rw [HY.out.1, HZ.out.2.2.2, HU.out, if_pos rfl, Option.map_map]
            congr 2
            funext x
            simp)
          clear HU
          go_wp2_with fail
          refine (HPL.out _).mono ?_
          rintro _ w2 ⟨rfl, hb⟩
          have HB2 := Aside0.mk (HB.out.trans (hb.mono HB.out.size))
          have HBD2 := Aside0.mk (builder_below HBD.out hb)
          clear hb HPL
          have HLEN := Aside0.mk (show acc.length + 1 + t.length ≤ 1073741824 by have h1 := HY.out.2; have h2 := HZ.out.2.2.2; rw [h2, List.length_cons] at h1; omega)
          have HWC := Aside0.mk (Tryd.Builder_WriteByte w.heap.size w.heap.size (Lib.byteCells acc) (c.toNat : Int) w2 HBD2.out (by rw [byteCells_len]; have := HLEN.out; omega) HB2.out.size)
          rw [byteCells_one] at HWC
          go_wp2_with fail
          refine HWC.out.mono ?_
          rintro _ w3 ⟨rfl, hbd, hb2⟩
          have HBD3 := Aside0.mk (isB hbd)
          have HB3 := Aside0.mk (HB2.out.trans hb2)
          clear hbd hb2 HWC HBD2 HB2
          go_wp2_with fail
          go_roundw
          case rel => exact ⟨z, acc ++ [c], rfl, ⟨by rw [HZ.out.1]; exact HRN.out, by rw [HZ.out.2.1, List.length_append, List.length_singleton]; exact HLEN.out⟩, HBD3, HB3⟩
          case measure => show z.size < y.size; rw [HZ.out.2.1, HZ.out.2.2.1, HZ.out.2.2.2, List.length_cons]; omega

end Go.Proofs.YtjgialebelndmaaDoor.PF
