/- The document's Segment. -/
import Derived.Test.YtjgialebelndmaaDoorPFx2
import Derived.Test.YtjgialebelndmaaDoorSeg
import Derived.Test.YtjgialebelndmaaDoorReg
import Derived.Deep.QuietTactic
import Derived.BigQuiet
namespace Go.Proofs.YtjgialebelndmaaDoor.PF
open Go.RowKit Go.Proofs.YtjgialebelndmaaDoorW.PrintWords Go.Proofs.YtjgialebelndmaaDoorW.PrintLast Go.Proofs.YtjgialebelndmaaDoorW.PrintMore
open Go.Shelf
set_option linter.unusedVariables false
set_option linter.unusedSimpArgs false
set_option maxHeartbeats 4000000
set_option maxRecDepth 100000

open Go.Proofs Go.Lib
theorem bapp1 (a b : List UInt8) : (⟨a.toArray⟩ : ByteArray) ++ ⟨b.toArray⟩ = ⟨(a ++ b).toArray⟩ := by
  apply ByteArray.ext
  simp
theorem hx_ext_all : ∀ X : Fin 16, ((⟨#[48, 49, 50, 51, 52, 53, 54, 55, 56, 57, 65, 66, 67, 68, 69, 70]⟩ : ByteArray).extract X.val (X.val + 1)).data.toList = [hxd X.val] := by decide +kernel
theorem hx_ext (k : Nat) (h : k < 16) : (⟨#[48, 49, 50, 51, 52, 53, 54, 55, 56, 57, 65, 66, 67, 68, 69, 70]⟩ : ByteArray).extract k (k + 1) = ⟨#[hxd k]⟩ := by
  apply ByteArray.ext
  apply Array.toList_inj.1
  exact hx_ext_all ⟨k, h⟩
theorem bare_all : ∀ X : Fin 256, calepinref06_bare.f ((X.val : Nat) : Int) = some (pl (UInt8.ofNat X.val)) := by decide +kernel
theorem bare_is (c : UInt8) : calepinref06_bare.f (c.toNat : Int) = some (pl c) := by
  have := bare_all ⟨c.toNat, c.toNat_lt⟩
  simpa using this
set_option maxHeartbeats 16000000 in
theorem rseg_calls (a0 : ByteArray) (hs : a0.size ≤ 1073741824) (w : World) :
    Calls Tryd.prog 10 #[.string a0] w fun e w' => e = .returned (.string ⟨(escL a0.data.toList).toArray⟩) ∧ Below w.heap.size w w' := by
  obtain ⟨l, hl⟩ : ∃ l, l = a0.data.toList := ⟨_, rfl⟩
  have hll : l.length = a0.size := by rw [hl]; rfl
  rw [← hl]
  have HLL := Aside0.mk (And.intro hl (And.intro hll hs))
  have HB0 := Aside0.mk (Below.refl w.heap.size w)
  clear hl hll hs
  go_enter Tryd.func10, Tryd.ntmps10
  go_wp2_with fail
  go_loopw [3, 4] (fun v3 v4 wr => ∃ (i : Nat) (o : ByteArray), v3 = .string o ∧ v4 = .int .i64 (i : Int) ∧ i ≤ a0.size ∧ Aside0 (o = ⟨(escL (l.take i)).toArray⟩ ∧ o.size ≤ 3 * i) ∧ Aside0 (Below w.heap.size w wr)) (fun _ v4 _ => a0.size - (RowKit.intOf v4).toNat)
  case atStart => exact ⟨0, ⟨#[]⟩, rfl, rfl, Nat.zero_le _, ⟨rfl, Nat.zero_le _⟩, HB0⟩
  case round =>
    clear HB0
    obtain ⟨i, o, rfl, rfl, hile, HO, HB⟩ := hrel
    by_cases hi2 : i < a0.size
    · have hil : i < l.length := by have := HLL.out.2.1; omega
      have d1 : decide (i < a0.size) = true := decide_eq_true hi2
      have d2 : decide ((i : Int) < (a0.size : Int)) = true := decide_eq_true (by omega)
      obtain ⟨j, hj⟩ : ∃ j, j = i + 1 := ⟨_, rfl⟩
      have hw : wrap64 ((i : Int) + 1) = (j : Int) := by have := HLL.out.2; unfold wrap64; omega
      obtain ⟨c, hc⟩ : ∃ c, c = l[i] := ⟨_, rfl⟩
      have hget : a0[i]'hi2 = c := by
        have h1 : a0.data.toList[i]? = some c := by rw [← HLL.out.1, hc]; exact List.getElem?_eq_getElem hil
        have h2 : a0.data.toList[i]? = some (a0[i]'hi2) := by
          rw [Array.getElem?_toList]
          exact Array.getElem?_eq_getElem (h := hi2)
        rw [h2] at h1
        exact Option.some.inj h1
      have HP := Aside0.mk (fun W => calepinref06_bare.calls (c.toNat : Int) (pl c) W (bare_is c))
      have hstep : escL (l.take (i + 1)) = escL (l.take i) ++ esc1 c := by
        rw [List.take_succ_eq_append_getElem hil, escL_app, hc]
        congr 1
        exact List.append_nil _
      have HI := Aside0.mk (And.intro hi2 (And.intro hil (And.intro hc hstep)))
      have HE := Aside0.mk (show esc1 c = if pl c then [c] else [37, hxd (c.toNat / 16), hxd (c.toNat % 16)] from rfl)
      generalize pl c = p at *
      clear hstep hc hile
      cases p with
      | true =>
        have HE1 := Aside0.mk (show esc1 c = [c] from HE.out)
        have hxx : a0.extract i j = ⟨#[c]⟩ := by
          rw [hj]
          apply ByteArray.ext
          apply Array.toList_inj.1
          have h : (a0.extract i (i + 1)).data.toList = (l.drop i).take 1 := by
            rw [HLL.out.1]; simp
          rw [h, List.drop_eq_getElem_cons hil, ← HI.out.2.2.1]
          rfl
        have hos := HO.out.2
        have q1 : (j ≤ a0.size) = True := eq_true (by omega)
        have q2 : ((j : Int) ≤ (a0.size : Int)) = True := eq_true (by omega)
        have q3 : (i ≤ j) = True := eq_true (by omega)
        have q4 : ((i : Int) ≤ (j : Int)) = True := eq_true (by omega)
        have HJ := Aside0.mk hj
        clear hj
        have hss : (9223372036854775807 < o.size + 1) = False := eq_false (by have := HLL.out.2.2; omega)
        have HNEW := Aside0.mk (show o ++ (⟨#[c]⟩ : ByteArray) = ⟨(escL (l.take j)).toArray⟩ ∧ (o ++ (⟨#[c]⟩ : ByteArray)).size ≤ 3 * j by
          refine ⟨by rw [HJ.out, HI.out.2.2.2, HE1.out, HO.out.1]; exact bapp1 _ [c], ?_⟩
          have h1 : (o ++ (⟨#[c]⟩ : ByteArray)).size = o.size + 1 := by rw [ByteArray.size_append]; rfl
          have h2 := HO.out.2
          have h3 := HJ.out
          rw [h1]; omega)
        clear HE
        go_wp2_with fail
        refine (HP.out _).mono ?_
        rintro _ w2 ⟨rfl, hb⟩
        have HB2 := Aside0.mk (HB.out.trans ((drawn_below hb).mono HB.out.size))
        clear hb HP
        go_wp2_with fail
        go_roundw
        case rel => exact ⟨j, o ++ ⟨#[c]⟩, rfl, by rw [hw], by have := HI.out.1; have := HJ.out; omega, HNEW, HB2⟩
        case measure => rw [hw]; have := HI.out.1; have := HJ.out; show a0.size - j < a0.size - i; omega
      | false =>
        have HE1 := Aside0.mk (show esc1 c = [37] ++ ([hxd (c.toNat / 16)] ++ [hxd (c.toNat % 16)]) from HE.out)
        clear HE
        go_wp2_with fail
        refine (HP.out _).mono ?_
        rintro _ w2 ⟨rfl, hb⟩
        have HB2 := Aside0.mk (HB.out.trans ((drawn_below hb).mono HB.out.size))
        clear hb HP
        go_wp2_with fail
        have hcl := c.toNat_lt
        obtain ⟨k, hk⟩ : ∃ k, k = c.toNat / 16 := ⟨_, rfl⟩
        obtain ⟨k1, hk1⟩ : ∃ k1, k1 = k + 1 := ⟨_, rfl⟩
        obtain ⟨m, hm⟩ : ∃ m, m = c.toNat % 16 := ⟨_, rfl⟩
        obtain ⟨m1, hm1⟩ : ∃ m1, m1 = m + 1 := ⟨_, rfl⟩
        have v1 : (c.toNat : Int) / 16 % 256 = (k : Int) := by omega
        have v2 : ((k : Int) + 1) % 256 = (k1 : Int) := by omega
        have v3 : (c.toNat : Int) % 16 % 256 = (m : Int) := by omega
        have v4 : (c.toNat : Int) % 16 = (m : Int) := by omega
        have v5 : ((m : Int) + 1) % 256 = (m1 : Int) := by omega
        have v6 : (m : Int) + 1 = (m1 : Int) := by omega
        have v7 : (k : Int) + 1 = (k1 : Int) := by omega
        have q1 : (k1 ≤ 16) = True := eq_true (by omega)
        have q2 : ((k1 : Int) ≤ 16) = True := eq_true (by omega)
        have q3 : (k ≤ k1) = True := eq_true (by omega)
        have q4 : ((k : Int) ≤ (k1 : Int)) = True := eq_true (by omega)
        have q5 : (m1 ≤ 16) = True := eq_true (by omega)
        have q6 : ((m1 : Int) ≤ 16) = True := eq_true (by omega)
        have q7 : (m ≤ m1) = True := eq_true (by omega)
        have q8 : ((m : Int) ≤ (m1 : Int)) = True := eq_true (by omega)
        have x1 : (⟨#[48, 49, 50, 51, 52, 53, 54, 55, 56, 57, 65, 66, 67, 68, 69, 70]⟩ : ByteArray).extract k k1 = ⟨#[hxd k]⟩ := by rw [hk1]; exact hx_ext k (by omega)
        have x2 : (⟨#[48, 49, 50, 51, 52, 53, 54, 55, 56, 57, 65, 66, 67, 68, 69, 70]⟩ : ByteArray).extract m m1 = ⟨#[hxd m]⟩ := by rw [hm1]; exact hx_ext m (by omega)
        have HKM := Aside0.mk (And.intro hk hm)
        clear hk hk1 hm hm1 hcl
        have hos := HO.out.2
        have hss : (9223372036854775807 < o.size + 3) = False := eq_false (by have := HLL.out.2.2; omega)
        have hss2 : (9223372036854775807 < o.size + (1 + 1 + 1)) = False := eq_false (by have := HLL.out.2.2; omega)
        clear hos
        refine wp_region_quiet_lit (by kernel_rfl) (by kernel_rfl) ?_
        repeat (any_goals (first | go_big_quiet_step (fail) | quiet_step (fail)))
        refine wpQuiet_nil ?_
        intro _ hw'
        obtain ⟨nq, hw''⟩ := hw'
        subst hw''
        have HB3 := Aside0.mk (pw_below_drewN HB2.out nq)
        generalize w2.drewN nq = w3 at *
        obtain ⟨P, hP⟩ : ∃ P : ByteArray, P = o ++ ((⟨#[37]⟩ : ByteArray) ++ ⟨#[hxd k]⟩ ++ ⟨#[hxd m]⟩) := ⟨_, rfl⟩
        have HNEW := Aside0.mk (show P = ⟨(escL (l.take (i + 1))).toArray⟩ ∧ P.size ≤ 3 * (i + 1) by
          have hp : P = ⟨(escL (l.take (i + 1))).toArray⟩ := by
            rw [hP, HI.out.2.2.2, HE1.out, ← HKM.out.1, ← HKM.out.2, HO.out.1, bapp1 [37] [hxd k], bapp1 ([37] ++ [hxd k]) [hxd m], bapp1, List.append_assoc]
          refine ⟨hp, ?_⟩
          have h1 : P.size = o.size + 3 := by rw [hP, ByteArray.size_append, ByteArray.size_append, ByteArray.size_append]; rfl
          have h2 := HO.out.2
          rw [h1]; omega)
        have hP' := hP.symm
        clear hP x1 x2 v1 v2 v3 v4 v5 v6 v7 q1 q2 q3 q4 q5 q6 q7 q8 hss hss2
        rw [hP']
        clear hP'
        go_wp2_with fail
        go_roundw
        case rel => exact ⟨i + 1, P, rfl, by rw [hw, hj], by have := HI.out.1; omega, HNEW, HB3⟩
        case measure => rw [hw, hj]; have := HI.out.1; show a0.size - (i + 1) < a0.size - i; omega
    · have d1 : decide (i < a0.size) = false := decide_eq_false hi2
      have d2 : decide ((i : Int) < (a0.size : Int)) = false := decide_eq_false (by omega)
      have HQ := Aside0.mk (show o = ⟨(escL l).toArray⟩ by rw [HO.out.1, List.take_of_length_le (by have := HLL.out.2.1; omega)])
      clear hi2 hile
      go_wp2_with fail
      go_ret
      exact ⟨by rw [← HQ.out]; rfl, HB.out⟩
def calepinref06_Segment.f (a0 : ByteArray) : Option (ByteArray) := if a0.size ≤ 1073741824 then some ⟨(escL a0.data.toList).toArray⟩ else none
theorem calepinref06_Segment.calls (a0 : ByteArray) (r : ByteArray) (w : World) (h : calepinref06_Segment.f a0 = some r) :
    Calls Tryd.prog 10 #[.string a0] w fun e w' => e = .returned (.string r) ∧ Below w.heap.size w w' := by
  unfold calepinref06_Segment.f at h
  by_cases hs : a0.size ≤ 1073741824
  · rw [if_pos hs] at h
    cases h
    exact rseg_calls a0 hs w
  · rw [if_neg hs] at h
    cases h

end Go.Proofs.YtjgialebelndmaaDoor.PF
