/- RlogTwice: the walk. -/
import Derived.Test.YtigjfnleinhahaaTwL
import Derived.Test.YtigjfnleinhahaaFirst
import Derived.Test.YtigjfnleinhahaaRis
import Derived.Test.YtigjfnleinhahaaSame
import Derived.Test.YtigjfnleinhahaaPLogx0
namespace Go.Proofs.Ytigjfnleinhahaa.PLog
open Go.RowKit Go.Proofs.YtigjfnleinhahaaW.PrintWords Go.Proofs.YtigjfnleinhahaaW.PrintLast Go.Proofs.YtigjfnleinhahaaW.PrintMore
open Go.Proofs.Ytigjfnleinhahaa.Reg
set_option linter.unusedVariables false
set_option linter.unusedSimpArgs false
set_option maxHeartbeats 8000000
set_option maxRecDepth 100000
theorem below_over {w w1 w2 : World} (h : Below w.heap.size w w1) (h2 : Below w1.heap.size w1 w2) : Below w.heap.size w w2 := h.trans (h2.mono h.size)
theorem rising_calls (w : World) (A : Option Addr) (c : Nat) (ts : List Int) (hC : Kd.C (Kd.int .i64) w A ts.length ts) (hc : ts.length ≤ c) :
    Calls Try.prog 12 #[.slice A ts.length c] w fun e w' => ∃ A2 c2, e = .returned (.slice A2 (ris ts).length c2) ∧ Kd.C (Kd.int .i64) w' A2 (ris ts).length (ris ts) ∧ (ris ts).length ≤ c2 ∧ Below w.heap.size w w' := by
  refine (calepinlaw20_rising.calls _ A c ts _ w hC hc (rising_is ts hC.2.1)).mono ?_
  rintro e w' ⟨v, rfl, hR, hb⟩
  obtain ⟨A2, c2, rfl, h1, h2⟩ := Kd.R_reads hR
  exact ⟨A2, c2, rfl, h2, h1, hb⟩
/-- A place among n + 1, reckoned from any number. -/
def place (at_ : Int) (n : Nat) : Nat := ((at_ % 18446744073709551616) % ((n : Int) + 1)).toNat
theorem twice_calls (A : Option Addr) (ca : Nat) (la : List Int) (at_ : Int) (B : Option Addr) (cb : Nat) (lb : List Int) (w : World) (hA : Kd.C (Kd.int .i64) w A la.length la) (hca : la.length ≤ ca) (hB : Kd.C (Kd.int .i64) w B lb.length lb) (hcb : lb.length ≤ cb) :
    Calls Try.prog 5 #[.slice A la.length ca, .int .i64 at_, .slice B lb.length cb] w fun e w' => e = .returned (.bool true) ∧ Below w.heap.size w w' := by
  have HA := Aside0.mk hA
  have HB := Aside0.mk hB
  have HCA := Aside0.mk hca
  have HCB := Aside0.mk hcb
  clear hA hB hca hcb
  go_enter Try.func5, Try.ntmps5
  go_wp2_with fail
  refine (first_calls w).mono ?_
  rintro _ w1 ⟨rfl, hb⟩
  have B1 := Aside0.mk hb
  clear hb
  go_wp2_with fail
  refine (rising_calls w1 A ca la (Kd.C_below HA.out B1.out) HCA.out).mono ?_
  rintro _ w2 ⟨A2, c2, rfl, hC, hc2, hb⟩
  have HA2 := Aside0.mk hC
  have HC2 := Aside0.mk hc2
  have B2 := Aside0.mk (below_over B1.out hb)
  clear hC hb hc2
  go_wp2_with fail
  refine (rising_calls w2 B cb lb (Kd.C_below HB.out B2.out) HCB.out).mono ?_
  rintro _ w3 ⟨A3, c3, rfl, hC, hc3, hb⟩
  have HA3 := Aside0.mk (Kd.C_below HA2.out hb)
  have HB3 := Aside0.mk hC
  have B3 := Aside0.mk (below_over B2.out hb)
  have HC3 := Aside0.mk hc3
  clear hC hb B2 HA2 hc3
  have hla : (ris la).length ≤ 20 := by rw [ris_length]; omega
  have hlb : (ris lb).length ≤ 20 := by rw [ris_length]; omega
  generalize hrla : ris la = xs at *
  generalize hrlb : ris lb = zs at *
  have HLA := Aside0.mk hla
  have HLB := Aside0.mk hlb
  clear hrla hrlb hla hlb
  go_wp2_with fail
  refine (new_calls w3 0 0).mono ?_
  rintro _ w4 ⟨g, rfl, hg, hL, hb⟩
  have S4 : Aside0 (St w3 w4 g 0 0 []) := Aside0.mk ⟨hL, hb⟩
  clear hg hL hb
  go_wp2_with fail
  refine (entries_calls w4 A2 c2 xs (Kd.C_below HA3.out S4.out.2) HC2.out (by have := HLA.out; omega)).mono ?_
  rintro _ w5 ⟨A5, c5, rfl, hC, hc5, hb⟩
  have S5 : Aside0 (St w3 w5 g 0 0 []) := Aside0.mk (S4.out.below hb)
  have HC5 := Aside0.mk hC
  have HD5 := Aside0.mk hc5
  clear S4 hC hb hc5
  go_wp2_with fail
  refine (append_ens S5.out.1 (by decide) A5 c5 xs HC5.out HD5.out (by have := HLA.out; simp; omega) (by simp)).mono ?_
  rintro _ w6 ⟨rfl, hl, hk, hb⟩
  have S6 : Aside0 (St w3 w6 g 0 0 (xs.map en)) := Aside0.mk (S5.out.next hl hk hb)
  clear S5 HC5 HD5 hl hk hb
  obtain ⟨k, hk⟩ : ∃ k, k = place at_ xs.length := ⟨_, rfl⟩
  have hkl : k ≤ xs.length := by
    rw [hk]; unfold place
    have : (at_ % 18446744073709551616) % ((xs.length : Int) + 1) < (xs.length : Int) + 1 := Int.emod_lt_of_pos _ (by omega)
    omega
  have hla := HLA.out
  obtain ⟨D, hD⟩ : ∃ D, D = (xs.length : Int) + 1 := ⟨_, rfl⟩
  have hq1 : IntKind.u64.wrap (wrap64 ((xs.length : Int) + 1)) = D := by
    have e1 : wrap64 ((xs.length : Int) + 1) = (xs.length : Int) + 1 := by unfold wrap64; omega
    rw [e1, IntKind.wrap_u64]; omega
  have hD0 : D ≠ 0 := by omega
  have hkr : wrap64 (Int.tmod (IntKind.u64.wrap at_) D) = (k : Int) := by
    have e3 : 0 ≤ at_ % 18446744073709551616 := by omega
    rw [IntKind.wrap_u64 at_, Int.tmod_eq_emod_of_nonneg e3, hk, hD]
    unfold place
    have h1 : 0 ≤ (at_ % 18446744073709551616) % ((xs.length : Int) + 1) := Int.emod_nonneg _ (by omega)
    have h2 : (at_ % 18446744073709551616) % ((xs.length : Int) + 1) < (xs.length : Int) + 1 := Int.emod_lt_of_pos _ (by omega)
    generalize (at_ % 18446744073709551616) % ((xs.length : Int) + 1) = q at h1 h2
    unfold wrap64
    omega
  clear hD
  have HKL := Aside0.mk hkl
  clear hk hkl hla
  go_wp2_with fail
  simp only [hkr]
  clear hkr hq1 hD0
  refine (term_calls S6.out.1 (by decide) (by have := HLA.out; simp; omega) (k : Int)).mono ?_
  have hkl2 : k ≤ (xs.map en).length := by rw [List.length_map]; exact HKL.out
  obtain ⟨es, hes⟩ : ∃ es, es = xs.map en := ⟨_, rfl⟩
  obtain ⟨fs, hfs⟩ : ∃ fs, fs = zs.map en := ⟨_, rfl⟩
  have HES := Aside0.mk (And.intro hes hfs)
  rw [← hes] at hkl2 S6 ⊢
  have hT2 := termAt_in es k hkl2
  generalize hT : termAt 0 0 es (k : Int) = T at *
  obtain ⟨T1, T2⟩ := T
  cases (show T2 = true from hT2)
  have HT := Aside0.mk hT
  have HK2 := Aside0.mk hkl2
  clear hT hT2 hkl2 hes hfs
  rintro _ w7 ⟨rfl, m7, rfl⟩
  have S7 := Aside0.mk (S6.out.drewN m7)
  clear S6
  obtain ⟨n1, es1, hmb, hn1, htk, hk1, hl1, hx1, hfit⟩ := merge_leaves es fs k HK2.out
  have hm1 : mergeL 0 0 es (k : Int) T1 fs = (n1, true, es1) := by
    have := mergeL_in es fs k HK2.out
    rw [HT.out] at this
    rw [this, hmb]
  have hmm : ∀ m, mergeL 0 0 es1 (k : Int) T1 (fs.take m) = ((es1.length : Int) + 1, true, es1) := by
    intro m
    have := mergeL_in es1 (fs.take m) k hk1
    rw [termAt_take es es1 k HK2.out hk1 htk, HT.out] at this
    rw [this, merge_again es1 fs k m hfit]
  have hesl : es.length ≤ 20 ∧ fs.length ≤ 20 ∧ fs.length = zs.length := by rw [HES.out.1, HES.out.2, List.length_map, List.length_map]; exact ⟨HLA.out, HLB.out, rfl⟩
  have hoke : ∀ x ∈ es1, okE x ∧ okS x := by
    intro x hx
    have h2 : x ∈ xs.map en ∨ x ∈ zs.map en := by
      rw [← HES.out.1, ← HES.out.2]; exact hx1 x hx
    rcases h2 with h2 | h2
    · exact ⟨okE_ens _ x h2, okS_ens _ x h2⟩
    · exact ⟨okE_ens _ x h2, okS_ens _ x h2⟩
  have hoes : ∀ x ∈ es, okE x := by rw [HES.out.1]; exact okE_ens _
  have hofs : ∀ x ∈ fs, okE x := by rw [HES.out.2]; exact okE_ens _
  have hf1 : fromL 0 es 1 (k : Int) = es.take k := from_one es k HK2.out
  have hf2 : fromL 0 es1 1 (k : Int) = es.take k := by rw [from_one es1 k hk1, htk]
  have hoet : ∀ x ∈ es.take k, okS x := by
    intro x hx
    rw [HES.out.1] at hx
    exact okS_ens _ x (List.mem_of_mem_take hx)
  have FF := Aside0.mk (And.intro hm1 (And.intro hmm (And.intro hesl (And.intro hoke (And.intro hoes (And.intro hofs (And.intro hf1 (And.intro hf2 (And.intro hoet (And.intro hn1 (And.intro hl1 hk1)))))))))))
  clear hmb hn1 htk hk1 hl1 hx1 hfit hm1 hmm hesl hoke hoes hofs hf1 hf2 hoet HT
  go_wp2_with fail
  -- From(1, k)
  have L7 := Aside0.mk S7.out.1.bound
  have hcall := from_calls S7.out.1 (by decide) (by have := FF.out.2.2.1; omega) 1 (k : Int) (by have := HK2.out; have := FF.out.2.2.1; omega) (by have := FF.out.2.2.1; omega) FF.out.2.2.2.2.1
  rw [FF.out.2.2.2.2.2.2.1] at hcall
  have HCALL := Aside0.mk hcall
  clear hcall
  refine HCALL.out.mono ?_
  clear HCALL
  rintro _ w8 ⟨v8, rfl, hR, hb⟩
  obtain ⟨R8, L8, Bl8⟩ : Aside0 (Kd.R k60 60 w8 0 (fun k => (w6.drewN m7).heap.size ≤ k ∧ k < w8.heap.size) v8 (es.take k)) ∧ Aside0 (Log w8 (fun k => w3.heap.size ≤ k ∧ k < (w6.drewN m7).heap.size) g 0 0 es) ∧ Aside0 (Below w3.heap.size w3 w8) :=
    ⟨Aside0.mk (Kd.R_lower (Kd.R_mono (Kd.R_bound hR) (fun k hk => ⟨hk.2.1, hk.2.2.1⟩)) (Nat.zero_le _)), Aside0.mk (L7.out.below hb), Aside0.mk (S7.out.2.trans (hb.mono S7.out.2.size))⟩
  have HLT := Aside0.mk (show (es.take k).length = k by rw [List.length_take]; have := HK2.out; omega)
  obtain ⟨A8, c8, e8, hc8, -⟩ := Kd.R_reads R8.out
  rw [HLT.out] at e8 hc8
  subst e8
  have HC8 := Aside0.mk hc8
  clear hR hb hc8 L7
  go_wp2_with fail
  -- entries(b)
  refine (entries_calls w8 A3 c3 zs (Kd.C_below HB3.out Bl8.out) HC3.out (by have := HLB.out; omega)).mono ?_
  rintro _ w9 ⟨A9, c9, rfl, hC, hc9, hb⟩
  obtain ⟨R9, L9, Bl9⟩ : Aside0 (Kd.R k60 60 w9 0 (fun k => (w6.drewN m7).heap.size ≤ k ∧ k < w8.heap.size) (.slice A8 k c8) (es.take k)) ∧ Aside0 (Log w9 (fun k => w3.heap.size ≤ k ∧ k < (w6.drewN m7).heap.size) g 0 0 es) ∧ Aside0 (Below w3.heap.size w3 w9) :=
    ⟨Aside0.mk (Kd.R_below R8.out hb), Aside0.mk (L8.out.below hb), Aside0.mk (Bl8.out.trans (hb.mono Bl8.out.size))⟩
  have hmc := merge_calls L9.out (by decide) (k : Int) T1 A9 c9 fs (by rw [HES.out.2]; exact hC) (by rw [FF.out.2.2.1.2.2]; exact hc9) FF.out.2.2.2.2.2.1 (by have := FF.out.2.2.1; omega) (by have := FF.out.2.2.1; omega)
  rw [FF.out.1, FF.out.2.2.1.2.2] at hmc
  have HMC := Aside0.mk hmc
  clear R8 L8 Bl8 hC hc9 hb hmc
  go_wp2_with fail
  refine HMC.out.mono ?_
  clear HMC
  rintro _ w10 ⟨rfl, hl, hk, hb⟩
  obtain ⟨R10, L10, Bl10⟩ : Aside0 (Kd.R k60 60 w10 0 (fun k => (w6.drewN m7).heap.size ≤ k ∧ k < w8.heap.size) (.slice A8 k c8) (es.take k)) ∧ Aside0 (Log w10 (fun k => (w3.heap.size ≤ k ∧ k < (w6.drewN m7).heap.size) ∨ w9.heap.size ≤ k) g 0 0 es1) ∧ Aside0 (Below w3.heap.size w3 w10) :=
    ⟨Aside0.mk (Kd.R_step R9.out (fun j hj hlt => hk.2 j hlt (by omega))), Aside0.mk hl, Aside0.mk (below_kept Bl9.out hk hb (fun j hj => hj.1))⟩
  clear R9 L9 hl hk hb
  have dn : decide (n1 ≤ (k : Int)) = false := decide_eq_false (by have := FF.out; omega)
  go_wp2_with fail
  clear dn
  -- From(1, k) again
  have hcall := from_calls L10.out (by decide) (by have := FF.out; omega) 1 (k : Int) (by have := HK2.out; have := FF.out.2.2.1; omega) (by have := FF.out; omega) (fun x hx => (FF.out.2.2.2.1 x hx).1)
  rw [FF.out.2.2.2.2.2.2.2.1] at hcall
  have HCALL := Aside0.mk hcall
  clear hcall
  refine HCALL.out.mono ?_
  clear HCALL
  rintro _ w11 ⟨v11, rfl, hR, hb⟩
  obtain ⟨A11, c11, e11, hc11, hC11⟩ := Kd.R_reads hR
  rw [HLT.out] at e11
  subst e11
  have hsm := same_calls w11 A11 A8 c11 c8 (es.take k) hC11 hc11 (by
    have := (Kd.R_reads' (Kd.R_below R10.out hb)).2.2
    exact this) (by rw [HLT.out]; exact HC8.out) FF.out.2.2.2.2.2.2.2.2.1
  rw [HLT.out] at hsm
  have HSM := Aside0.mk hsm
  have L11 := Aside0.mk (L10.out.below hb)
  have Bl11 := Aside0.mk (Bl10.out.trans (hb.mono Bl10.out.size))
  clear hR hb hc11 hC11 hsm L10 Bl10 R10 HC8
  go_wp2_with fail
  refine HSM.out.mono ?_
  clear HSM
  rintro _ w12 ⟨rfl, hb⟩
  have L12 := Aside0.mk (L11.out.below hb).bound
  have Bl12 := Aside0.mk (Bl11.out.trans (hb.mono Bl11.out.size))
  clear hb L11 Bl11
  go_wp2_with fail
  -- From(1, 100)
  have hcall := from_calls L12.out (by decide) (by have := FF.out; omega) 1 100 (by decide) (by have := FF.out; omega) (fun x hx => (FF.out.2.2.2.1 x hx).1)
  obtain ⟨was, hwas⟩ : ∃ was, was = fromL 0 es1 1 100 := ⟨_, rfl⟩
  have howas : ∀ x ∈ was, okS x := by
    intro x hx
    rw [hwas] at hx
    refine (FF.out.2.2.2.1 x ?_).2
    unfold fromL at hx
    split at hx
    · cases hx
    · split at hx
      · cases hx
      · split at hx
        · cases hx
        · exact List.mem_of_mem_drop (List.mem_of_mem_take hx)
  have HWAS := Aside0.mk (And.intro hwas howas)
  rw [← hwas] at hcall
  have HCALL := Aside0.mk hcall
  clear hcall hwas howas
  refine HCALL.out.mono ?_
  clear HCALL
  rintro _ w13 ⟨v13, rfl, hR, hb⟩
  obtain ⟨R13, L13, Bl13⟩ : Aside0 (Kd.R k60 60 w13 0 (fun k => w12.heap.size ≤ k ∧ k < w13.heap.size) v13 was) ∧ Aside0 (Log w13 (fun k => ((w3.heap.size ≤ k ∧ k < (w6.drewN m7).heap.size) ∨ w9.heap.size ≤ k) ∧ k < w12.heap.size) g 0 0 es1) ∧ Aside0 (Below w3.heap.size w3 w13) :=
    ⟨Aside0.mk (Kd.R_lower (Kd.R_mono (Kd.R_bound hR) (fun k hk => ⟨hk.2.1, hk.2.2.1⟩)) (Nat.zero_le _)), Aside0.mk (L12.out.below hb), Aside0.mk (Bl12.out.trans (hb.mono Bl12.out.size))⟩
  obtain ⟨nw, hnw⟩ : ∃ nw, nw = was.length := ⟨_, rfl⟩
  obtain ⟨A13, c13, e13, hc13, -⟩ := Kd.R_reads R13.out
  rw [← hnw] at e13 hc13
  subst e13
  have HC13 := Aside0.mk (And.intro hnw hc13)
  clear hR hb hc13 hnw L12 Bl12
  go_wp2_with fail
  -- entries(b), Merge
  refine (entries_calls w13 A3 c3 zs (Kd.C_below HB3.out Bl13.out) HC3.out (by have := HLB.out; omega)).mono ?_
  rintro _ w14 ⟨A14, c14, rfl, hC, hc14, hb⟩
  obtain ⟨R14, L14, Bl14⟩ : Aside0 (Kd.R k60 60 w14 0 (fun k => w12.heap.size ≤ k ∧ k < w13.heap.size) (.slice A13 nw c13) was) ∧ Aside0 (Log w14 (fun k => ((w3.heap.size ≤ k ∧ k < (w6.drewN m7).heap.size) ∨ w9.heap.size ≤ k) ∧ k < w12.heap.size) g 0 0 es1) ∧ Aside0 (Below w3.heap.size w3 w14) :=
    ⟨Aside0.mk (Kd.R_below R13.out hb), Aside0.mk (L13.out.below hb), Aside0.mk (Bl13.out.trans (hb.mono Bl13.out.size))⟩
  have hmc := merge_calls L14.out (by decide) (k : Int) T1 A14 c14 fs (by rw [HES.out.2]; exact hC) (by rw [FF.out.2.2.1.2.2]; exact hc14) FF.out.2.2.2.2.2.1 (by have := FF.out; omega) (by have := FF.out; omega)
  have hmf := FF.out.2.1 fs.length
  rw [List.take_length] at hmf
  rw [hmf, FF.out.2.2.1.2.2] at hmc
  have HMC := Aside0.mk hmc
  have HS14 := Aside0.mk hb.size
  clear R13 L13 Bl13 hC hc14 hb hmc hmf
  go_wp2_with fail
  refine HMC.out.mono ?_
  clear HMC
  rintro _ w15 ⟨rfl, hl, hk, hb⟩
  have hs3 : w3.heap.size ≤ w9.heap.size := by have := Bl9.out.size; exact this
  obtain ⟨R15, L15, Bl15⟩ : Aside0 (Kd.R k60 60 w15 0 (fun k => w12.heap.size ≤ k ∧ k < w13.heap.size) (.slice A13 nw c13) was) ∧ Aside0 (Log w15 (fun k => (((w3.heap.size ≤ k ∧ k < (w6.drewN m7).heap.size) ∨ w9.heap.size ≤ k) ∧ k < w12.heap.size) ∨ w14.heap.size ≤ k) g 0 0 es1) ∧ Aside0 (Below w3.heap.size w3 w15) :=
    ⟨Aside0.mk (Kd.R_step R14.out (fun j hj hlt => hk.2 j hlt (by omega))), Aside0.mk hl, Aside0.mk (below_kept Bl14.out hk hb (fun j hj => by omega))⟩
  clear R14 L14 hl hk hb hs3
  obtain ⟨h, hh⟩ : ∃ h, h = zs.length / 2 := ⟨_, rfl⟩
  have hhalf : wrap64 ((zs.length : Int) / 2) = (h : Int) := by have := HLB.out; unfold wrap64; omega
  have q1 : (0 : Int) ≤ (h : Int) := by omega
  have q2 : (h : Int) ≤ (c3 : Int) := by have := HC3.out; omega
  have q3 : h ≤ c3 := by omega
  have HH := Aside0.mk (And.intro q3 (show h ≤ zs.length by omega))
  clear hh
  go_wp2_with fail
  clear hhalf q1 q2 q3
  -- entries(b[:len(b)/2]), Merge
  have htl : (zs.take h).length = h := by rw [List.length_take]; have := HH.out; omega
  have hct : Kd.C (Kd.int .i64) w15 A3 (zs.take h).length (zs.take h) := Kd.C_take (Kd.C_below HB3.out Bl15.out) HH.out.2
  have hec := entries_calls w15 A3 c3 (zs.take h) hct (by rw [htl]; exact HH.out.1) (by rw [htl]; have := HLB.out; have := HH.out.2; omega)
  rw [htl] at hec
  have HEC := Aside0.mk hec
  clear hec hct
  refine HEC.out.mono ?_
  clear HEC
  rintro _ w16 ⟨A16, c16, rfl, hC, hc16, hb⟩
  have hmap : (zs.take h).map en = fs.take h := by rw [HES.out.2, List.map_take]
  rw [hmap] at hC
  have hfl : (fs.take h).length = h := by rw [← hmap, List.length_map, htl]
  obtain ⟨R16, L16, Bl16⟩ : Aside0 (Kd.R k60 60 w16 0 (fun k => w12.heap.size ≤ k ∧ k < w13.heap.size) (.slice A13 nw c13) was) ∧ Aside0 (Log w16 (fun k => (((w3.heap.size ≤ k ∧ k < (w6.drewN m7).heap.size) ∨ w9.heap.size ≤ k) ∧ k < w12.heap.size) ∨ w14.heap.size ≤ k) g 0 0 es1) ∧ Aside0 (Below w3.heap.size w3 w16) :=
    ⟨Aside0.mk (Kd.R_below R15.out hb), Aside0.mk (L15.out.below hb), Aside0.mk (Bl15.out.trans (hb.mono Bl15.out.size))⟩
  have hmc := merge_calls L16.out (by decide) (k : Int) T1 A16 c16 (fs.take h) hC (by rw [hfl]; exact hc16) (fun x hx => FF.out.2.2.2.2.2.1 x (List.mem_of_mem_take hx)) (by rw [hfl]; have := HH.out.2; have := FF.out; omega) (by have := FF.out; omega)
  rw [FF.out.2.1 h, hfl] at hmc
  have HMC := Aside0.mk hmc
  clear R15 L15 hC hc16 hb hmc hmap hfl htl
  go_wp2_with fail
  refine HMC.out.mono ?_
  clear HMC
  rintro _ w17 ⟨rfl, hl, hk, hb⟩
  have hs3 : w3.heap.size ≤ w9.heap.size ∧ w3.heap.size ≤ w14.heap.size ∧ w13.heap.size ≤ w14.heap.size := ⟨Bl9.out.size, Bl14.out.size, HS14.out⟩
  obtain ⟨R17, L17, Bl17⟩ : Aside0 (Kd.R k60 60 w17 0 (fun k => w12.heap.size ≤ k ∧ k < w13.heap.size) (.slice A13 nw c13) was) ∧ Aside0 (Log w17 (fun k => ((((w3.heap.size ≤ k ∧ k < (w6.drewN m7).heap.size) ∨ w9.heap.size ≤ k) ∧ k < w12.heap.size) ∨ w14.heap.size ≤ k) ∨ w16.heap.size ≤ k) g 0 0 es1) ∧ Aside0 (Below w3.heap.size w3 w17) :=
    ⟨Aside0.mk (Kd.R_step R16.out (fun j hj hlt => hk.2 j hlt (by omega))), Aside0.mk hl, Aside0.mk (below_kept Bl16.out hk hb (fun j hj => by omega))⟩
  clear R16 L16 hl hk hb hs3
  have hw5 : wrap64 ((es1.length : Int) + 1) = (es1.length : Int) + 1 := by have := FF.out; unfold wrap64; omega
  have dm : decide ((es1.length : Int) + 1 = (es1.length : Int) + 1) = true := by simp
  have h00 : (0 : Int) + (es1.length : Int) = (es1.length : Int) := Int.zero_add _
  go_wp2_with fail
  refine (last_calls L17.out (by decide) (by have := FF.out; omega)).mono ?_
  rintro _ w18 ⟨rfl, m18, rfl⟩
  go_wp2_with fail
  clear hw5 dm h00
  have hcall := from_calls (L17.out.drewN m18) (by decide) (by have := FF.out; omega) 1 100 (by decide) (by have := FF.out; omega) (fun x hx => (FF.out.2.2.2.1 x hx).1)
  rw [← HWAS.out.1] at hcall
  have HCALL := Aside0.mk hcall
  clear hcall
  refine HCALL.out.mono ?_
  clear HCALL
  rintro _ w19 ⟨v19, rfl, hR, hb⟩
  obtain ⟨A19, c19, e19, hc19, hC19⟩ := Kd.R_reads hR
  rw [← HC13.out.1] at e19
  subst e19
  have hsm := same_calls w19 A19 A13 c19 c13 was hC19 hc19 (by
    have := (Kd.R_reads' (Kd.R_below (Kd.R_below R17.out (pw_below_drewN (Below.refl _ _) m18)) hb)).2.2
    exact this) (by rw [← HC13.out.1]; exact HC13.out.2) HWAS.out.2
  rw [← HC13.out.1] at hsm
  have HSM := Aside0.mk hsm
  have Bl19 := Aside0.mk ((pw_below_drewN Bl17.out m18).trans (hb.mono (pw_below_drewN Bl17.out m18).size))
  clear hR hb hc19 hC19 hsm
  go_wp2_with fail
  refine HSM.out.mono ?_
  clear HSM
  rintro _ w20 ⟨rfl, hb⟩
  have FIN := Aside0.mk (below_over B3.out (Bl19.out.trans (hb.mono Bl19.out.size)))
  clear hb
  go_wp2_with fail
  go_ret
  exact ⟨rfl, FIN.out⟩
end Go.Proofs.Ytigjfnleinhahaa.PLog
