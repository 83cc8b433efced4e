/- value.each[string] with Text, walked. -/
import Derived.Test.YtdjdbmopckhcdaaSpl
namespace Go.Proofs.Ytdjdbmopckhcdaa.PV
open Go.RowKit Go.Proofs.YtdjdbmopckhcdaaW.PrintWords Go.Proofs.YtdjdbmopckhcdaaW.PrintLast Go.Proofs.YtdjdbmopckhcdaaW.PrintMore
open Go.Proofs Go.Proofs.Ytdjdbmopckhcdaa
set_option linter.unusedVariables false
set_option linter.unusedSimpArgs false
set_option maxHeartbeats 4000000
set_option maxRecDepth 100000

def mapT : List (List UInt8) → Option (List ByteArray)
  | [] => some []
  | p :: ps => (txt p).bind fun t => (mapT ps).map (mkB t :: ·)
def listI (sg : UInt8) (l : List UInt8) : List ByteArray × Int := match spl sg l with
  | none => ([], 31)
  | some ps => match mapT ps with
    | none => ([], 31)
    | some ts => (ts, 0)
theorem mapT_len : ∀ (ps : List (List UInt8)) (ts : List ByteArray), mapT ps = some ts → ts.length = ps.length
  | [], ts, h => by unfold mapT at h; injection h with h; rw [← h]; rfl
  | p :: ps, ts, h => by
    unfold mapT at h
    obtain ⟨t, _, h⟩ := Option.bind_eq_some_iff.1 h
    obtain ⟨qs, hq, rfl⟩ := Option.map_eq_some_iff.1 h
    rw [List.length_cons, List.length_cons, mapT_len ps qs hq]
set_option maxHeartbeats 16000000 in
theorem each_calls (a0 : ByteArray) (sg : UInt8) (hsg : sg ≠ 92) (hsz : a0.size ≤ 1073741824) (w : World) :
    Calls Try.prog 24 #[.string a0, .int .u8 (sg.toNat : Int), .func (.func 10) #[] #[]] w fun e w' => ∃ v, e = .returned (.tuple #[v, .int .i64 (listI sg a0.data.toList).2]) ∧ Kd.R Kd.string 9 w' w.heap.size (fun _ => True) v (listI sg a0.data.toList).1 ∧ Below w.heap.size w w' := by
  have HSP := Aside0.mk (PX.value_split.calls (a0.size + 1) a0 (sg.toNat : Int) (splI sg a0.data.toList).1 (splI sg a0.data.toList).2 w (split_is a0 hsz sg hsg _ (by omega)))
  obtain ⟨l, hl⟩ : ∃ l, l = a0.data.toList := ⟨_, rfl⟩
  have hll : l.length = a0.size := by rw [hl]; rfl
  rw [← hl] at HSP ⊢
  have HL := Aside0.mk (And.intro hll hsz)
  clear hl hll hsz hsg
  generalize hsgn : (sg.toNat : Int) = sgn at *
  have HNIL := Aside0.mk (show Kd.R Kd.string 9 w w.heap.size (fun _ => True) (.slice none 0 0) ([] : List ByteArray) from Kd.R_nil _ _ _ _ _)
  clear hsgn
  go_enter Try.func24, Try.ntmps24
  cases hs : spl sg l with
  | none =>
    rw [show splI sg l = ([], 31) by unfold splI; rw [hs]] at HSP
    have HE := Aside0.mk (show listI sg l = ([], 31) by unfold listI; rw [hs])
    clear hs
    go_wp2_with fail
    refine HSP.out.mono ?_
    rintro _ w1 ⟨v0, rfl, hr, hb⟩
    have HB := Aside0.mk hb
    clear hr hb HSP
    go_wp2_with fail
    go_ret2
    rw [HE.out]
    exact ⟨_, rfl, Kd.R_nil _ _ _ _ _, HB.out⟩
  | some ps =>
    rw [show splI sg l = (ps.map mkB, 0) by unfold splI; rw [hs]] at HSP
    have HZ := Aside0.mk (spl_sizes sg _ _ _ (Nat.le_refl _) hs)
    have HE := Aside0.mk (show listI sg l = match mapT ps with | none => ([], 31) | some ts => (ts, 0) by unfold listI; rw [hs])
    clear hs
    go_wp2_with fail
    refine HSP.out.mono ?_
    rintro _ w1 ⟨v0, rfl, hr, hb⟩
    obtain ⟨A, cp, rfl⟩ := Kd.R_slice hr
    have HB1 := Aside0.mk hb
    have HC := Aside0.mk (Kd.R_reads' hr).2.2
    have HLN := Aside0.mk (show (ps.map mkB).length = ps.length from List.length_map _)
    have HR0 := Aside0.mk (show Kd.R Kd.string 9 w1 w1.heap.size (fun _ => True) (.slice none 0 0) ([] : List ByteArray) from Kd.R_nil _ _ _ _ _)
    clear hr hb HSP
    generalize hnn : (ps.map mkB).length = nn at *
    go_wp2_with fail
    go_loopw [10, 26] (fun v10 v26 wr => ∃ (k : Nat) (out : List ByteArray), v26 = .int .i64 (k : Int) ∧ Aside0 (k ≤ nn ∧ out.length = k ∧ mapT ps = (mapT (ps.drop k)).map (out ++ ·)) ∧ Aside0 (Kd.R Kd.string 9 wr w1.heap.size (fun _ => True) v10 out) ∧ Aside0 (Below w1.heap.size w1 wr) ∧ Aside0 (Below w.heap.size w wr)) (fun _ v26 _ => nn - (intOf v26).toNat)
    case atStart => exact ⟨0, [], rfl, Aside0.mk ⟨Nat.zero_le _, rfl, by simp⟩, HR0, Aside0.mk (Below.refl _ _), HB1⟩
    case round =>
      clear HR0
      obtain ⟨k, out, rfl, HK, HR, HB2, HB⟩ := hrel
      by_cases hk : k < nn
      · have d1 : decide (k < nn) = true := decide_eq_true hk
        obtain ⟨ad, had, hcell⟩ := Kd.at_string (Kd.C_below HC.out HB2.out) (k : Int) (by omega) (by omega)
        cases had
        rw [Int.toNat_natCast] at hcell
        have hkp : k < ps.length := by rw [← HLN.out]; exact hk
        obtain ⟨pc, hpc⟩ : ∃ pc, pc = ps[k] := ⟨_, rfl⟩
        have hrd : rdOf (⟨#[]⟩ : ByteArray) (ps.map mkB) (k : Int) = mkB pc := by
          unfold rdOf
          rw [Int.toNat_natCast, List.getD_eq_getElem?_getD, List.getElem?_map, List.getElem?_eq_getElem hkp, hpc]; rfl
        rw [show (ByteArray.empty : ByteArray) = ⟨#[]⟩ from rfl, hrd] at hcell
        have HPL := Aside0.mk (HZ.out.2 pc (by rw [hpc]; exact List.getElem_mem hkp))
        have HX := Aside0.mk (show mapT ps = ((txt pc).bind fun t => (mapT (ps.drop (k + 1))).map (mkB t :: ·)).map (out ++ ·) by
          rw [HK.out.2.2, List.drop_eq_getElem_cons hkp, ← hpc]
          conv => lhs; unfold mapT)
        have HTC := Aside0.mk (value_Text.calls (mkB pc) (txtI pc).1 (txtI pc).2 wr (by
          unfold value_Text.f
          rw [if_pos (show (mkB pc).size ≤ 1073741824 by show pc.length ≤ _; have := HPL.out; have := HL.out; omega)]
          rfl))
        have HKN := Aside0.mk hk
        have hw : wrap64 ((k : Int) + 1) = ((k + 1 : Nat) : Int) := by have := HLN.out; have := HZ.out.1; have := HL.out; unfold wrap64; omega
        replace hk := eq_true hk
        clear hpc hrd hkp
        cases ht : txt pc with
        | none =>
          rw [show txtI pc = (⟨#[]⟩, 31) by unfold txtI; rw [ht]] at HTC
          have HE2 := Aside0.mk (show listI sg l = ([], 31) by rw [HE.out, HX.out, ht]; rfl)
          clear ht
          go_wp2_with fail
          refine HTC.out.mono ?_
          rintro _ w2 ⟨rfl, hb⟩
          have HB3 := Aside0.mk (HB.out.trans (hb.mono HB.out.size))
          clear hb HTC
          go_wp2_with fail
          go_ret2
          rw [HE2.out]
          exact ⟨_, rfl, Kd.R_nil _ _ _ _ _, HB3.out⟩
        | some t =>
          rw [show txtI pc = (⟨t.toArray⟩, 0) by unfold txtI; rw [ht]] at HTC
          have HX2 := Aside0.mk (show mapT ps = (mapT (ps.drop (k + 1))).map ((out ++ [mkB t]) ++ ·) by
            rw [HX.out, ht, Option.bind_some, Option.map_map]
            congr 1
            funext r
            simp)
          clear ht HX
          go_wp2_with fail
          refine HTC.out.mono ?_
          rintro _ w2 ⟨rfl, hb⟩
          have HB3 := Aside0.mk (HB.out.trans (hb.mono HB.out.size))
          have HB4 := Aside0.mk (HB2.out.trans (hb.mono HB2.out.size))
          have HR3 := Aside0.mk (Kd.R_below HR.out hb)
          clear hb HTC
          go_wp2_with (first
            | (at_builtin
               have HO := Aside0.mk (Kd.own_of_R HR3.out)
               refine print_append_of (w0 := w1) Value.string w1.heap.size rfl (.tmp 39) (.tmp 41) 29 9 (.string ⟨#[]⟩) 16 rfl Try.underlying29 infoS9 rfl (by decide) _ out ⟨t.toArray⟩ rfl rfl rfl HO.out HB4.out HB4.out.size (by rw [HK.out.2.1]; have := HK.out.1; have := HLN.out; have := HZ.out.1; have := HL.out; omega) ?_
               intro v3 w3 hO3 hB3 hg3 hat3
               have HR5 := Aside0.mk (show Kd.R Kd.string 9 w3 w1.heap.size (fun _ => True) v3 (out ++ [mkB t]) from Kd.R_of_own (h1 := fun _ => rfl) hO3 (fun _ _ => trivial))
               have HB6 := Aside0.mk hB3
               have HB5 := Aside0.mk (HB1.out.trans (hB3.mono HB1.out.size))
               clear hO3 hB3 hg3 hat3)
            | fail)
          go_roundw
          case rel => exact ⟨k + 1, out ++ [mkB t], by rw [hw], Aside0.mk ⟨HKN.out, by rw [List.length_append, HK.out.2.1]; rfl, HX2.out⟩, HR5, HB6, HB5⟩
          case measure => rw [hw]; have := HKN.out; show nn - (k + 1) < nn - k; omega
      · have d1 : decide (k < nn) = false := decide_eq_false hk
        have HE2 := Aside0.mk (show listI sg l = (out, 0) by
          rw [HE.out, HK.out.2.2, List.drop_of_length_le (by have := HLN.out; omega)]
          simp [mapT])
        clear hk
        go_wp2_with fail
        go_ret2
        rw [HE2.out]
        exact ⟨_, rfl, Kd.R_lower HR.out HB1.out.size, HB.out⟩

end Go.Proofs.Ytdjdbmopckhcdaa.PV
