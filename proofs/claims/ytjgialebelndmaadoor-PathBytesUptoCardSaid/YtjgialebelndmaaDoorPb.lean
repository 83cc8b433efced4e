/- PathBytes walked. -/
import Derived.Test.YtjgialebelndmaaDoorLw
import Derived.Deep.QuietTactic
import Derived.BigQuiet
namespace Go.Proofs.YtjgialebelndmaaDoor.PH
open Go.RowKit Go.Proofs.YtjgialebelndmaaDoorW.PrintWords Go.Proofs.YtjgialebelndmaaDoorW.PrintLast Go.Proofs.YtjgialebelndmaaDoorW.PrintMore
open Go.Shelf
set_option linter.unusedVariables false
set_option linter.unusedSimpArgs false
set_option maxHeartbeats 4000000
set_option maxRecDepth 100000

open Go.Proofs Go.Lib Go.Proofs.YtjgialebelndmaaDoor.PF Go.Proofs.YtjgialebelndmaaDoor.PG
def hexB (g : Bool) : ByteArray := mkB (hexS2 g)
theorem hexB_size (g : Bool) : (hexB g).size = 16 := by cases g <;> rfl
theorem hxe_all : ∀ (g : Bool) (X : Fin 16), ((hexB g).extract X.val (X.val + 1)).data.toList = [hx g X.val] := by decide +kernel
theorem hx_ext2 (g : Bool) (k : Nat) (h : k < 16) : (hexB g).extract k (k + 1) = ⟨#[hx g k]⟩ := by
  apply ByteArray.ext
  apply Array.toList_inj.1
  exact hxe_all g ⟨k, h⟩
theorem bytes_loop_step (g : Bool) (l : List UInt8) (i : Nat) (hil : i < l.length) : allL g (l.take (i + 1)) = allL g (l.take i) ++ [37, hx g (l[i].toNat / 16), hx g (l[i].toNat % 16)] := by
  rw [List.take_succ_eq_append_getElem hil, allL_app]
  congr 1
set_option maxHeartbeats 16000000 in
theorem bytes_calls (a0 : ByteArray) (g : Bool) (hs : a0.size ≤ 1048576) (w : World) (hT : Tabs w) :
    Calls Tryd.prog 6 #[.string a0, .bool g] w fun e w' => e = .returned (.bool true) ∧ Below w.heap.size w w' := by
  have HT := Aside0.mk hT
  have HF0 := Aside0.mk (calepinlaw06_first.calls true w first_is hT)
  obtain ⟨l, hl⟩ : ∃ l, l = a0.data.toList := ⟨_, rfl⟩
  have hll : l.length = a0.size := by rw [hl]; rfl
  have HFT := Aside0.mk (fun W => calepinref06_Fits.calls a0 (fitsL l) W (by rw [hl]; rfl))
  have hP1 : fitsL l = true → ∀ W, Tabs W → Calls Tryd.prog 13 #[.string (mkB ((47 :: allL g l) ++ [47]))] W fun e w' => e = .returned (.tuple #[.string a0, .string ⟨#[]⟩, .int .i64 0]) ∧ Below W.heap.size W w' := fun hf W hW => path_Parse.calls _ a0 ⟨#[]⟩ 0 W (by
    unfold path_Parse.f
    rw [mkB_list, all_one g l hf, if_pos (by rw [mkB_size, List.length_append, List.length_cons, allL_len]; simp only [List.length_cons, List.length_nil]; omega)]
    show some (mkB l, mkB [], 0) = _
    rw [hl, mkB_of]; rfl) hW
  have hP2 : fitsL l = true → ∀ W, Tabs W → Calls Tryd.prog 13 #[.string (mkB ((47 :: allL g l) ++ (47 :: allL g l)))] W fun e w' => e = .returned (.tuple #[.string a0, .string a0, .int .i64 0]) ∧ Below W.heap.size W w' := fun hf W hW => path_Parse.calls _ a0 a0 0 W (by
    unfold path_Parse.f
    rw [mkB_list, all_two g l hf, if_pos (by rw [mkB_size, List.length_append, List.length_cons, allL_len]; omega)]
    show some (mkB l, mkB l, 0) = _
    rw [hl, mkB_of]) hW
  have HLL := Aside0.mk (And.intro hl (And.intro hll hs))
  clear hl hll hs hT
  cases hf : fitsL l with
  | false =>
    rw [hf] at HFT
    clear hP1 hP2 HLL hf
    go_enter Tryd.func6, Tryd.ntmps6
    go_wp2_with fail
    refine HF0.out.mono ?_
    rintro _ w1 ⟨rfl, hb⟩
    have HB := Aside0.mk hb
    clear hb HF0
    go_wp2_with fail
    refine (HFT.out _).mono ?_
    rintro _ w2 ⟨rfl, hb⟩
    have HB2 := Aside0.mk (HB.out.trans ((PF.drawn_below hb).mono HB.out.size))
    clear hb HFT
    go_wp2_with fail
    go_ret
    exact ⟨rfl, HB2.out⟩
  | true =>
    rw [hf] at HFT
    have HP1 := Aside0.mk (hP1 hf)
    have HP2 := Aside0.mk (hP2 hf)
    clear hP1 hP2 hf
    go_enter Tryd.func6, Tryd.ntmps6
    go_wp2_with fail
    refine HF0.out.mono ?_
    rintro _ w1 ⟨rfl, hb⟩
    have HB := Aside0.mk hb
    clear hb HF0
    go_wp2_with fail
    refine (HFT.out _).mono ?_
    rintro _ w2 ⟨rfl, hb⟩
    have HB2 := Aside0.mk (HB.out.trans ((PF.drawn_below hb).mono HB.out.size))
    clear hb HFT HB
    cases g with
    | true =>
      go_wp2_with fail
      go_loopw [6, 7] (fun v6 v7 wr => ∃ (i : Nat) (o : ByteArray), v6 = .string o ∧ v7 = .int .i64 (i : Int) ∧ i ≤ a0.size ∧ Aside0 (o = mkB (47 :: allL true (l.take i)) ∧ o.size ≤ 1 + 3 * i) ∧ Aside0 (Below w.heap.size w wr)) (fun _ v7 _ => a0.size - (RowKit.intOf v7).toNat)
      case atStart => exact ⟨0, ⟨#[47]⟩, rfl, rfl, Nat.zero_le _, ⟨rfl, Nat.le_refl _⟩, HB2⟩
      case round =>
        clear HB2
        obtain ⟨i, o, rfl, rfl, hile, HO, HB⟩ := hrel
        by_cases hi2 : i < a0.size
        · have hil : i < l.length := by have := HLL.out.2.1; omega
          have d1 : decide (i < a0.size) = true := decide_eq_true hi2
          have d2 : decide ((i : Int) < (a0.size : Int)) = true := decide_eq_true (by omega)
          obtain ⟨j, hj⟩ : ∃ j, j = i + 1 := ⟨_, rfl⟩
          have hw : wrap64 ((i : Int) + 1) = (j : Int) := by have := HLL.out.2; unfold wrap64; omega
          obtain ⟨c, hc⟩ : ∃ c, c = l[i] := ⟨_, rfl⟩
          have hget : a0[i]'hi2 = c := by
            have h1 : a0.data.toList[i]? = some c := by rw [← HLL.out.1, hc]; exact List.getElem?_eq_getElem hil
            have h2 : a0.data.toList[i]? = some (a0[i]'hi2) := by
              rw [Array.getElem?_toList]
              exact Array.getElem?_eq_getElem (h := hi2)
            rw [h2] at h1
            exact Option.some.inj h1
          have hstep := bytes_loop_step true l i hil
          rw [← hc] at hstep
          have HI := Aside0.mk (And.intro hi2 (And.intro hil (And.intro hc hstep)))
          clear hstep hc hile
          go_wp2_with fail
          have hcl := c.toNat_lt
          obtain ⟨k, hk⟩ : ∃ k, k = c.toNat / 16 := ⟨_, rfl⟩
          obtain ⟨k1, hk1⟩ : ∃ k1, k1 = k + 1 := ⟨_, rfl⟩
          obtain ⟨m, hm⟩ : ∃ m, m = c.toNat % 16 := ⟨_, rfl⟩
          obtain ⟨m1, hm1⟩ : ∃ m1, m1 = m + 1 := ⟨_, rfl⟩
          have v1 : (c.toNat : Int) / 16 % 256 = (k : Int) := by omega
          have v2 : ((k : Int) + 1) % 256 = (k1 : Int) := by omega
          have v3 : (c.toNat : Int) % 16 % 256 = (m : Int) := by omega
          have v4 : (c.toNat : Int) % 16 = (m : Int) := by omega
          have v5 : ((m : Int) + 1) % 256 = (m1 : Int) := by omega
          have v6 : (m : Int) + 1 = (m1 : Int) := by omega
          have v7 : (k : Int) + 1 = (k1 : Int) := by omega
          have q1 : (k1 ≤ 16) = True := eq_true (by omega)
          have q2 : ((k1 : Int) ≤ 16) = True := eq_true (by omega)
          have q3 : (k ≤ k1) = True := eq_true (by omega)
          have q4 : ((k : Int) ≤ (k1 : Int)) = True := eq_true (by omega)
          have q5 : (m1 ≤ 16) = True := eq_true (by omega)
          have q6 : ((m1 : Int) ≤ 16) = True := eq_true (by omega)
          have q7 : (m ≤ m1) = True := eq_true (by omega)
          have q8 : ((m : Int) ≤ (m1 : Int)) = True := eq_true (by omega)
          have x1 : (⟨#[48, 49, 50, 51, 52, 53, 54, 55, 56, 57, 65, 66, 67, 68, 69, 70]⟩ : ByteArray).extract k k1 = ⟨#[hx true k]⟩ := by rw [hk1]; exact hx_ext2 true k (by omega)
          have x2 : (⟨#[48, 49, 50, 51, 52, 53, 54, 55, 56, 57, 65, 66, 67, 68, 69, 70]⟩ : ByteArray).extract m m1 = ⟨#[hx true m]⟩ := by rw [hm1]; exact hx_ext2 true m (by omega)
          have HKM := Aside0.mk (And.intro hk hm)
          clear hk hk1 hm hm1 hcl
          have hos := HO.out.2
          have hss : (9223372036854775807 < o.size + 3) = False := eq_false (by have := HLL.out.2.2; omega)
          have hss2 : (9223372036854775807 < o.size + (1 + 1 + 1)) = False := eq_false (by have := HLL.out.2.2; omega)
          clear hos
          refine wp_region_quiet_lit (by kernel_rfl) (by kernel_rfl) ?_
          repeat (any_goals (first | go_big_quiet_step (fail) | quiet_step (fail)))
          refine wpQuiet_nil ?_
          intro _ hw'
          obtain ⟨nq, hw''⟩ := hw'
          subst hw''
          have HB3 := Aside0.mk (pw_below_drewN HB.out nq)
          generalize wr.drewN nq = w3 at *
          obtain ⟨P, hP⟩ : ∃ P : ByteArray, P = o ++ ((⟨#[37]⟩ : ByteArray) ++ ⟨#[hx true k]⟩ ++ ⟨#[hx true m]⟩) := ⟨_, rfl⟩
          have HNEW := Aside0.mk (show P = mkB (47 :: allL true (l.take (i + 1))) ∧ P.size ≤ 1 + 3 * (i + 1) by
            have hp : P = mkB (47 :: allL true (l.take (i + 1))) := by
              rw [hP, HI.out.2.2.2, ← HKM.out.1, ← HKM.out.2, HO.out.1, show (⟨#[37]⟩ : ByteArray) = mkB [37] from rfl, show (⟨#[hx true k]⟩ : ByteArray) = mkB [hx true k] from rfl, show (⟨#[hx true m]⟩ : ByteArray) = mkB [hx true m] from rfl, mkB_app, mkB_app, mkB_app]
              rfl
            refine ⟨hp, ?_⟩
            have h1 : P.size = o.size + 3 := by rw [hP, ByteArray.size_append, ByteArray.size_append, ByteArray.size_append]; rfl
            have h2 := HO.out.2
            rw [h1]; omega)
          have hP' := hP.symm
          clear hP x1 x2 v1 v2 v3 v4 v5 v6 v7 q1 q2 q3 q4 q5 q6 q7 q8 hss hss2
          rw [hP']
          clear hP'
          go_wp2_with fail
          go_roundw
          case rel => exact ⟨i + 1, P, rfl, by rw [hw, hj], by have := HI.out.1; omega, HNEW, HB3⟩
          case measure => rw [hw, hj]; have := HI.out.1; show a0.size - (i + 1) < a0.size - i; omega
        · have d1 : decide (i < a0.size) = false := decide_eq_false hi2
          have d2 : decide ((i : Int) < (a0.size : Int)) = false := decide_eq_false (by omega)
          have HQ := Aside0.mk (show o = mkB (47 :: allL true l) by rw [HO.out.1, List.take_of_length_le (by have := HLL.out.2.1; omega)])
          have hos := HO.out.2
          have hss : (9223372036854775807 < o.size + 1) = False := eq_false (by have := HLL.out.2.2; omega)
          have hss2 : (9223372036854775807 < o.size + o.size) = False := eq_false (by have := HLL.out.2.2; omega)
          rw [← mkB_app, ← HQ.out, show mkB [47] = (⟨#[47]⟩ : ByteArray) from rfl] at HP1
          rw [← mkB_app, ← HQ.out] at HP2
          clear hi2 hile hos
          go_wp2_with fail
          refine (HP1.out _ (PF.tabs_below HT.out HB.out)).mono ?_
          rintro _ w3 ⟨rfl, hb⟩
          have HB3 := Aside0.mk (HB.out.trans (hb.mono HB.out.size))
          clear hb HP1
          go_wp2_with fail
          refine (HP2.out _ (PF.tabs_below HT.out HB3.out)).mono ?_
          rintro _ w4 ⟨rfl, hb⟩
          have HB4 := Aside0.mk (HB3.out.trans (hb.mono HB3.out.size))
          clear hb HP2
          go_wp2_with fail
          go_ret
          exact ⟨rfl, HB4.out⟩
    | false =>
      go_wp2_with fail
      go_loopw [6, 7] (fun v6 v7 wr => ∃ (i : Nat) (o : ByteArray), v6 = .string o ∧ v7 = .int .i64 (i : Int) ∧ i ≤ a0.size ∧ Aside0 (o = mkB (47 :: allL false (l.take i)) ∧ o.size ≤ 1 + 3 * i) ∧ Aside0 (Below w.heap.size w wr)) (fun _ v7 _ => a0.size - (RowKit.intOf v7).toNat)
      case atStart => exact ⟨0, ⟨#[47]⟩, rfl, rfl, Nat.zero_le _, ⟨rfl, Nat.le_refl _⟩, HB2⟩
      case round =>
        clear HB2
        obtain ⟨i, o, rfl, rfl, hile, HO, HB⟩ := hrel
        by_cases hi2 : i < a0.size
        · have hil : i < l.length := by have := HLL.out.2.1; omega
          have d1 : decide (i < a0.size) = true := decide_eq_true hi2
          have d2 : decide ((i : Int) < (a0.size : Int)) = true := decide_eq_true (by omega)
          obtain ⟨j, hj⟩ : ∃ j, j = i + 1 := ⟨_, rfl⟩
          have hw : wrap64 ((i : Int) + 1) = (j : Int) := by have := HLL.out.2; unfold wrap64; omega
          obtain ⟨c, hc⟩ : ∃ c, c = l[i] := ⟨_, rfl⟩
          have hget : a0[i]'hi2 = c := by
            have h1 : a0.data.toList[i]? = some c := by rw [← HLL.out.1, hc]; exact List.getElem?_eq_getElem hil
            have h2 : a0.data.toList[i]? = some (a0[i]'hi2) := by
              rw [Array.getElem?_toList]
              exact Array.getElem?_eq_getElem (h := hi2)
            rw [h2] at h1
            exact Option.some.inj h1
          have hstep := bytes_loop_step false l i hil
          rw [← hc] at hstep
          have HI := Aside0.mk (And.intro hi2 (And.intro hil (And.intro hc hstep)))
          clear hstep hc hile
          go_wp2_with fail
          have hcl := c.toNat_lt
          obtain ⟨k, hk⟩ : ∃ k, k = c.toNat / 16 := ⟨_, rfl⟩
          obtain ⟨k1, hk1⟩ : ∃ k1, k1 = k + 1 := ⟨_, rfl⟩
          obtain ⟨m, hm⟩ : ∃ m, m = c.toNat % 16 := ⟨_, rfl⟩
          obtain ⟨m1, hm1⟩ : ∃ m1, m1 = m + 1 := ⟨_, rfl⟩
          have v1 : (c.toNat : Int) / 16 % 256 = (k : Int) := by omega
          have v2 : ((k : Int) + 1) % 256 = (k1 : Int) := by omega
          have v3 : (c.toNat : Int) % 16 % 256 = (m : Int) := by omega
          have v4 : (c.toNat : Int) % 16 = (m : Int) := by omega
          have v5 : ((m : Int) + 1) % 256 = (m1 : Int) := by omega
          have v6 : (m : Int) + 1 = (m1 : Int) := by omega
          have v7 : (k : Int) + 1 = (k1 : Int) := by omega
          have q1 : (k1 ≤ 16) = True := eq_true (by omega)
          have q2 : ((k1 : Int) ≤ 16) = True := eq_true (by omega)
          have q3 : (k ≤ k1) = True := eq_true (by omega)
          have q4 : ((k : Int) ≤ (k1 : Int)) = True := eq_true (by omega)
          have q5 : (m1 ≤ 16) = True := eq_true (by omega)
          have q6 : ((m1 : Int) ≤ 16) = True := eq_true (by omega)
          have q7 : (m ≤ m1) = True := eq_true (by omega)
          have q8 : ((m : Int) ≤ (m1 : Int)) = True := eq_true (by omega)
          have x1 : (⟨#[48, 49, 50, 51, 52, 53, 54, 55, 56, 57, 97, 98, 99, 100, 101, 102]⟩ : ByteArray).extract k k1 = ⟨#[hx false k]⟩ := by rw [hk1]; exact hx_ext2 false k (by omega)
          have x2 : (⟨#[48, 49, 50, 51, 52, 53, 54, 55, 56, 57, 97, 98, 99, 100, 101, 102]⟩ : ByteArray).extract m m1 = ⟨#[hx false m]⟩ := by rw [hm1]; exact hx_ext2 false m (by omega)
          have HKM := Aside0.mk (And.intro hk hm)
          clear hk hk1 hm hm1 hcl
          have hos := HO.out.2
          have hss : (9223372036854775807 < o.size + 3) = False := eq_false (by have := HLL.out.2.2; omega)
          have hss2 : (9223372036854775807 < o.size + (1 + 1 + 1)) = False := eq_false (by have := HLL.out.2.2; omega)
          clear hos
          refine wp_region_quiet_lit (by kernel_rfl) (by kernel_rfl) ?_
          repeat (any_goals (first | go_big_quiet_step (fail) | quiet_step (fail)))
          refine wpQuiet_nil ?_
          intro _ hw'
          obtain ⟨nq, hw''⟩ := hw'
          subst hw''
          have HB3 := Aside0.mk (pw_below_drewN HB.out nq)
          generalize wr.drewN nq = w3 at *
          obtain ⟨P, hP⟩ : ∃ P : ByteArray, P = o ++ ((⟨#[37]⟩ : ByteArray) ++ ⟨#[hx false k]⟩ ++ ⟨#[hx false m]⟩) := ⟨_, rfl⟩
          have HNEW := Aside0.mk (show P = mkB (47 :: allL false (l.take (i + 1))) ∧ P.size ≤ 1 + 3 * (i + 1) by
            have hp : P = mkB (47 :: allL false (l.take (i + 1))) := by
              rw [hP, HI.out.2.2.2, ← HKM.out.1, ← HKM.out.2, HO.out.1, show (⟨#[37]⟩ : ByteArray) = mkB [37] from rfl, show (⟨#[hx false k]⟩ : ByteArray) = mkB [hx false k] from rfl, show (⟨#[hx false m]⟩ : ByteArray) = mkB [hx false m] from rfl, mkB_app, mkB_app, mkB_app]
              rfl
            refine ⟨hp, ?_⟩
            have h1 : P.size = o.size + 3 := by rw [hP, ByteArray.size_append, ByteArray.size_append, ByteArray.size_append]; rfl
            have h2 := HO.out.2
            rw [h1]; omega)
          have hP' := hP.symm
          clear hP x1 x2 v1 v2 v3 v4 v5 v6 v7 q1 q2 q3 q4 q5 q6 q7 q8 hss hss2
          rw [hP']
          clear hP'
          go_wp2_with fail
          go_roundw
          case rel => exact ⟨i + 1, P, rfl, by rw [hw, hj], by have := HI.out.1; omega, HNEW, HB3⟩
          case measure => rw [hw, hj]; have := HI.out.1; show a0.size - (i + 1) < a0.size - i; omega
        · have d1 : decide (i < a0.size) = false := decide_eq_false hi2
          have d2 : decide ((i : Int) < (a0.size : Int)) = false := decide_eq_false (by omega)
          have HQ := Aside0.mk (show o = mkB (47 :: allL false l) by rw [HO.out.1, List.take_of_length_le (by have := HLL.out.2.1; omega)])
          have hos := HO.out.2
          have hss : (9223372036854775807 < o.size + 1) = False := eq_false (by have := HLL.out.2.2; omega)
          have hss2 : (9223372036854775807 < o.size + o.size) = False := eq_false (by have := HLL.out.2.2; omega)
          rw [← mkB_app, ← HQ.out, show mkB [47] = (⟨#[47]⟩ : ByteArray) from rfl] at HP1
          rw [← mkB_app, ← HQ.out] at HP2
          clear hi2 hile hos
          go_wp2_with fail
          refine (HP1.out _ (PF.tabs_below HT.out HB.out)).mono ?_
          rintro _ w3 ⟨rfl, hb⟩
          have HB3 := Aside0.mk (HB.out.trans (hb.mono HB.out.size))
          clear hb HP1
          go_wp2_with fail
          refine (HP2.out _ (PF.tabs_below HT.out HB3.out)).mono ?_
          rintro _ w4 ⟨rfl, hb⟩
          have HB4 := Aside0.mk (HB3.out.trans (hb.mono HB3.out.size))
          clear hb HP2
          go_wp2_with fail
          go_ret
          exact ⟨rfl, HB4.out⟩

end Go.Proofs.YtjgialebelndmaaDoor.PH
