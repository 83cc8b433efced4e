/- value.List, value.Fields, walked. -/
import Derived.Test.YtdjdbmopckhcdaaEach
namespace Go.Proofs.Ytdjdbmopckhcdaa.PV
open Go.RowKit Go.Proofs.YtdjdbmopckhcdaaW.PrintWords Go.Proofs.YtdjdbmopckhcdaaW.PrintLast Go.Proofs.YtdjdbmopckhcdaaW.PrintMore
open Go.Proofs Go.Proofs.Ytdjdbmopckhcdaa
set_option linter.unusedVariables false
set_option linter.unusedSimpArgs false
set_option maxHeartbeats 4000000
set_option maxRecDepth 100000

theorem infoS29 : (Try.prog.info? 29).map (fun i => (i.zero, i.size, i.bytes)) = some (some (.slice none 0 0), 1, 24) := by kernel_rfl
def listO (sg : UInt8) (l : List UInt8) : Option (List ByteArray) := (spl sg l).bind mapT
theorem listI_is (sg : UInt8) (l : List UInt8) : listI sg l = match listO sg l with | none => ([], 31) | some ts => (ts, 0) := by
  unfold listI listO
  cases h : spl sg l with
  | none => rfl
  | some ps =>
    simp only [Option.bind_some]
    cases mapT ps <;> rfl
def value_List.f (a0 : ByteArray) : Option (List ByteArray × Int) := if a0.size ≤ 1073741824 then some (listI 44 a0.data.toList) else none
theorem value_List.calls (a0 : ByteArray) (r1 : List ByteArray) (r2 : Int) (w : World) (h : value_List.f a0 = some (r1, r2)) :
    Calls Try.prog 11 #[.string a0] w fun e w' => ∃ v0_ : Value, e = .returned (.tuple #[v0_, .int .i64 r2]) ∧ Kd.R Kd.string 9 w' w.heap.size (fun _ => True) v0_ r1 ∧ Below w.heap.size w w' := by
  unfold value_List.f at h
  by_cases hsz : a0.size ≤ 1073741824
  · rw [if_pos hsz] at h
    injection h with h
    have hc := each_calls a0 44 (by decide) hsz w
    rw [h] at hc
    have HC := Aside0.mk hc
    clear hc h hsz
    go_enter Try.func11, Try.ntmps11
    go_wp2_with fail
    refine HC.out.mono ?_
    rintro _ w1 ⟨v, rfl, hr, hb⟩
    have HR := Aside0.mk hr
    have HB := Aside0.mk hb
    clear hr hb HC
    go_wp2_with fail
    go_ret2
    exact ⟨_, rfl, HR.out, HB.out⟩
  · rw [if_neg hsz] at h; cases h
def mapF : List (List UInt8) → Option (List (List ByteArray))
  | [] => some []
  | p :: ps => (listO 44 p).bind fun t => (mapF ps).map (t :: ·)
def fieldsI (sg : UInt8) (l : List UInt8) : List (List ByteArray) × Int := match spl sg l with
  | none => ([], 31)
  | some ps => match mapF ps with
    | none => ([], 31)
    | some ts => (ts, 0)
set_option maxHeartbeats 16000000 in
theorem eachF_calls (a0 : ByteArray) (sg : UInt8) (hsg : sg ≠ 92) (hsz : a0.size ≤ 1073741824) (w : World) :
    Calls Try.prog 25 #[.string a0, .int .u8 (sg.toNat : Int), .func (.func 11) #[] #[]] w fun e w' => ∃ v, e = .returned (.tuple #[v, .int .i64 (fieldsI sg a0.data.toList).2]) ∧ Kd.S (Kd.slice 9 Kd.string) 29 w' w.heap.size (fun _ => True) v (fieldsI sg a0.data.toList).1 ∧ Below w.heap.size w w' := by
  have HSP := Aside0.mk (PX.value_split.calls (a0.size + 1) a0 (sg.toNat : Int) (splI sg a0.data.toList).1 (splI sg a0.data.toList).2 w (split_is a0 hsz sg hsg _ (by omega)))
  obtain ⟨l, hl⟩ : ∃ l, l = a0.data.toList := ⟨_, rfl⟩
  have hll : l.length = a0.size := by rw [hl]; rfl
  rw [← hl] at HSP ⊢
  have HL := Aside0.mk (And.intro hll hsz)
  clear hl hll hsz hsg
  generalize hsgn : (sg.toNat : Int) = sgn at *
  skip
  clear hsgn
  go_enter Try.func25, Try.ntmps25
  cases hs : spl sg l with
  | none =>
    rw [show splI sg l = ([], 31) by unfold splI; rw [hs]] at HSP
    have HE := Aside0.mk (show fieldsI sg l = ([], 31) by unfold fieldsI; rw [hs])
    clear hs
    go_wp2_with fail
    refine HSP.out.mono ?_
    rintro _ w1 ⟨v0, rfl, hr, hb⟩
    have HB := Aside0.mk hb
    clear hr hb HSP
    go_wp2_with fail
    go_ret2
    rw [HE.out]
    exact ⟨_, rfl, Kd.S_nil _ _ _ _ _, HB.out⟩
  | some ps =>
    rw [show splI sg l = (ps.map mkB, 0) by unfold splI; rw [hs]] at HSP
    have HZ := Aside0.mk (spl_sizes sg _ _ _ (Nat.le_refl _) hs)
    have HE := Aside0.mk (show fieldsI sg l = match mapF ps with | none => ([], 31) | some ts => (ts, 0) by unfold fieldsI; rw [hs])
    clear hs
    go_wp2_with fail
    refine HSP.out.mono ?_
    rintro _ w1 ⟨v0, rfl, hr, hb⟩
    obtain ⟨A, cp, rfl⟩ := Kd.R_slice hr
    have HB1 := Aside0.mk hb
    have HC := Aside0.mk (Kd.R_reads' hr).2.2
    have HLN := Aside0.mk (show (ps.map mkB).length = ps.length from List.length_map _)
    have HR0 := Aside0.mk (show Kd.S (Kd.slice 9 Kd.string) 29 w1 w1.heap.size (fun _ => True) (.slice none 0 0) ([] : List (List ByteArray)) from Kd.S_nil _ _ _ _ _)
    clear hr hb HSP
    generalize hnn : (ps.map mkB).length = nn at *
    go_wp2_with fail
    go_loopw [10, 26] (fun v10 v26 wr => ∃ (k : Nat) (out : List (List ByteArray)), v26 = .int .i64 (k : Int) ∧ Aside0 (k ≤ nn ∧ out.length = k ∧ mapF ps = (mapF (ps.drop k)).map (out ++ ·)) ∧ Aside0 (Kd.S (Kd.slice 9 Kd.string) 29 wr w1.heap.size (fun _ => True) v10 out) ∧ Aside0 (Below w1.heap.size w1 wr) ∧ Aside0 (Below w.heap.size w wr)) (fun _ v26 _ => nn - (intOf v26).toNat)
    case atStart => exact ⟨0, [], rfl, Aside0.mk ⟨Nat.zero_le _, rfl, by simp⟩, HR0, Aside0.mk (Below.refl _ _), HB1⟩
    case round =>
      clear HR0
      obtain ⟨k, out, rfl, HK, HR, HB2, HB⟩ := hrel
      by_cases hk : k < nn
      · have d1 : decide (k < nn) = true := decide_eq_true hk
        obtain ⟨ad, had, hcell⟩ := Kd.at_string (Kd.C_below HC.out HB2.out) (k : Int) (by omega) (by omega)
        cases had
        rw [Int.toNat_natCast] at hcell
        have hkp : k < ps.length := by rw [← HLN.out]; exact hk
        obtain ⟨pc, hpc⟩ : ∃ pc, pc = ps[k] := ⟨_, rfl⟩
        have hrd : rdOf (⟨#[]⟩ : ByteArray) (ps.map mkB) (k : Int) = mkB pc := by
          unfold rdOf
          rw [Int.toNat_natCast, List.getD_eq_getElem?_getD, List.getElem?_map, List.getElem?_eq_getElem hkp, hpc]; rfl
        rw [show (ByteArray.empty : ByteArray) = ⟨#[]⟩ from rfl, hrd] at hcell
        have HPL := Aside0.mk (HZ.out.2 pc (by rw [hpc]; exact List.getElem_mem hkp))
        have HX := Aside0.mk (show mapF ps = ((listO 44 pc).bind fun t => (mapF (ps.drop (k + 1))).map (t :: ·)).map (out ++ ·) by
          rw [HK.out.2.2, List.drop_eq_getElem_cons hkp, ← hpc]
          conv => lhs; unfold mapF)
        have HTC := Aside0.mk (value_List.calls (mkB pc) (listI 44 pc).1 (listI 44 pc).2 wr (by
          unfold value_List.f
          rw [if_pos (show (mkB pc).size ≤ 1073741824 by show pc.length ≤ _; have := HPL.out; have := HL.out; omega)]
          rfl))
        have HKN := Aside0.mk hk
        have hw : wrap64 ((k : Int) + 1) = ((k + 1 : Nat) : Int) := by have := HLN.out; have := HZ.out.1; have := HL.out; unfold wrap64; omega
        replace hk := eq_true hk
        clear hpc hrd hkp
        cases ht : listO 44 pc with
        | none =>
          rw [show listI 44 pc = ([], 31) by rw [listI_is, ht]] at HTC
          have HE2 := Aside0.mk (show fieldsI sg l = ([], 31) by rw [HE.out, HX.out, ht]; rfl)
          clear ht
          go_wp2_with fail
          refine HTC.out.mono ?_
          rintro _ w2 ⟨v2, rfl, hr2, hb⟩
          have HB3 := Aside0.mk (HB.out.trans (hb.mono HB.out.size))
          clear hb hr2 HTC
          go_wp2_with fail
          go_ret2
          rw [HE2.out]
          exact ⟨_, rfl, Kd.S_nil _ _ _ _ _, HB3.out⟩
        | some t =>
          rw [show listI 44 pc = (t, 0) by rw [listI_is, ht]] at HTC
          have HX2 := Aside0.mk (show mapF ps = (mapF (ps.drop (k + 1))).map ((out ++ [t]) ++ ·) by
            rw [HX.out, ht, Option.bind_some, Option.map_map]
            congr 1
            funext r
            simp)
          clear ht HX
          go_wp2_with fail
          refine HTC.out.mono ?_
          rintro _ w2 ⟨v2, rfl, hr2, hb⟩
          obtain ⟨A2, c2, rfl⟩ := Kd.R_slice hr2
          have HB3 := Aside0.mk (HB.out.trans (hb.mono HB.out.size))
          have HB4 := Aside0.mk (HB2.out.trans (hb.mono HB2.out.size))
          have HR3 := Aside0.mk (show Kd.S (Kd.slice 9 Kd.string) 29 w2 w1.heap.size (fun k_ => True ∧ ¬ some k_ = (.slice A2 t.length c2 : Value).ownBlock) u10 out from
            Kd.S_mono (Kd.S_below (Kd.S_bound HR.out) hb) (fun k_ hk_ => ⟨trivial, fun e_ => by have h1 := Kd.R_base hr2 k_ e_.symm; have h2 := hk_.2.2.1; omega⟩))
          have HR4 := Aside0.mk (Kd.R_lower hr2 HB2.out.size)
          have HOKP := Aside0.mk (Kd.R_mono (ok' := fun k_ => ((fun _ => True)) k_ ∧ some k_ ≠ (u10 : Value).ownBlock) (Kd.R_apart' (HR4.out) (Kd.S_typed HR3.out) (by decide)) (fun k_ hk => ⟨trivial, hk.2⟩))
          have HMP := Aside0.mk (Kd.M_row (Kd.R_mono (Kd.R_tight rfl HOKP.out) (fun _ h_ => h_)))
          clear hb hr2 HTC
          go_wp2_with (first
            | (at_builtin
               refine Kd.S_append (Kd.slice 9 Kd.string) (w0 := w1) w1.heap.size rfl (.tmp 39) (.tmp 41) 32 29 (.slice none 0 0) 24 rfl Try.underlying32 infoS29 rfl (by decide) (by omega) _ out t [.slice A2 t.length c2] (fun _ => True) (fun k_ => some k_ = (.slice A2 t.length c2 : Value).ownBlock) rfl rfl HMP.out (fun k_ hk_ => HOKP.out.1 k_ hk_.symm) (fun _ _ => trivial) HR3.out HB4.out HB4.out.size (by rw [HK.out.2.1]; have := HK.out.1; have := HLN.out; have := HZ.out.1; have := HL.out; omega) ?_
               intro v3 w3 hO3 hB3 hg3 hat3
               have HR5 := Aside0.mk hO3
               have HB6 := Aside0.mk hB3
               have HB5 := Aside0.mk (HB1.out.trans (hB3.mono HB1.out.size))
               clear hO3 hB3 hg3 hat3)
            | fail)
          go_roundw
          case rel => exact ⟨k + 1, out ++ [t], by rw [hw], Aside0.mk ⟨HKN.out, by rw [List.length_append, HK.out.2.1]; rfl, HX2.out⟩, HR5, HB6, HB5⟩
          case measure => rw [hw]; have := HKN.out; show nn - (k + 1) < nn - k; omega
      · have d1 : decide (k < nn) = false := decide_eq_false hk
        have HE2 := Aside0.mk (show fieldsI sg l = (out, 0) by
          rw [HE.out, HK.out.2.2, List.drop_of_length_le (by have := HLN.out; omega)]
          simp [mapF])
        clear hk
        go_wp2_with fail
        go_ret2
        rw [HE2.out]
        exact ⟨_, rfl, Kd.S_lower HR.out HB1.out.size, HB.out⟩

def value_Fields.f (a0 : ByteArray) : Option (List (List ByteArray) × Int) := if a0.size ≤ 1073741824 then some (fieldsI 59 a0.data.toList) else none
theorem value_Fields.calls (a0 : ByteArray) (r1 : List (List ByteArray)) (r2 : Int) (w : World) (h : value_Fields.f a0 = some (r1, r2)) :
    Calls Try.prog 12 #[.string a0] w fun e w' => ∃ v0_ : Value, e = .returned (.tuple #[v0_, .int .i64 r2]) ∧ Kd.S (Kd.slice 9 Kd.string) 29 w' w.heap.size (fun _ => True) v0_ r1 ∧ Below w.heap.size w w' := by
  unfold value_Fields.f at h
  by_cases hsz : a0.size ≤ 1073741824
  · rw [if_pos hsz] at h
    injection h with h
    have hc := eachF_calls a0 59 (by decide) hsz w
    rw [h] at hc
    have HC := Aside0.mk hc
    clear hc h hsz
    go_enter Try.func12, Try.ntmps12
    go_wp2_with fail
    refine HC.out.mono ?_
    rintro _ w1 ⟨v, rfl, hr, hb⟩
    have HR := Aside0.mk hr
    have HB := Aside0.mk hb
    clear hr hb HC
    go_wp2_with fail
    go_ret2
    exact ⟨_, rfl, HR.out, HB.out⟩
  · rw [if_neg hsz] at h; cases h

end Go.Proofs.Ytdjdbmopckhcdaa.PV
