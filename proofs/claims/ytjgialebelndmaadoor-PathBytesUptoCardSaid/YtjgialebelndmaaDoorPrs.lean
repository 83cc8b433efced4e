/- path.Parse walked. -/
import Derived.Test.YtjgialebelndmaaDoorOf
import Derived.OwnWalk
namespace Go.Proofs.YtjgialebelndmaaDoor.PF
open Go.RowKit Go.Proofs.YtjgialebelndmaaDoorW.PrintWords Go.Proofs.YtjgialebelndmaaDoorW.PrintLast Go.Proofs.YtjgialebelndmaaDoorW.PrintMore
open Go.Shelf
set_option linter.unusedVariables false
set_option linter.unusedSimpArgs false
set_option maxHeartbeats 4000000
set_option maxRecDepth 100000

open Go.Proofs Go.Lib
/-- What path.Parse says of a text's pieces. -/
def prsP : List ByteArray → Option (List UInt8 × List UInt8)
  | [x, y, z] => if x.data.toList = [] then (txtL y.data.toList).bind fun a => if z.data.toList = [] then some (a, []) else (txtL z.data.toList).map fun b => (a, b) else none
  | _ => none
def pcs (s : ByteArray) : List ByteArray := Lib.splitB ⟨#[47]⟩ 0 (Lib.countB s ⟨#[47]⟩) s
def prsS (s : ByteArray) : Option (List UInt8 × List UInt8) := if s.data.toList = [47] then some ([], []) else prsP (pcs s)
theorem splitB_small (sep : ByteArray) : ∀ (k : Nat) (s : ByteArray) (x : ByteArray), x ∈ Lib.splitB sep 0 k s → x.size ≤ s.size
  | 0, s, x, h => by
    have : Lib.splitB sep 0 0 s = [s] := by unfold Lib.splitB; rfl
    rw [this] at h
    rw [List.mem_singleton.1 h]
    exact Nat.le_refl _
  | k + 1, s, x, h => by
    rcases Lib.indexB_cases s sep with hm | ⟨i, hi, hr⟩
    · rw [Lib.splitB_miss sep 0 (k + 1) s hm] at h
      rw [List.mem_singleton.1 h]
      exact Nat.le_refl _
    · rw [Lib.splitB_hit sep 0 k s i hi] at h
      rcases List.mem_cons.1 h with rfl | h
      · rw [ByteArray.size_extract]; omega
      · have := splitB_small sep k _ x h
        rw [ByteArray.size_extract] at this
        omega
theorem pcs_small (s x : ByteArray) (h : x ∈ pcs s) : x.size ≤ s.size := splitB_small _ _ _ _ h
theorem pcs_len (s : ByteArray) : (pcs s).length = Lib.countB s ⟨#[47]⟩ + 1 := Lib.splitB_all ⟨#[47]⟩ (Nat.le_refl 1) 0 _ s rfl
theorem prsP_not (ps : List ByteArray) (h : ps.length ≠ 3) : prsP ps = none := by
  match ps, h with
  | [], _ => rfl
  | [_], _ => rfl
  | [_, _], _ => rfl
  | [_, _, _], h => exact absurd rfl h
  | _ :: _ :: _ :: _ :: _, _ => rfl
theorem row_cells (w : World) (ps : List Value) (k : Nat) (v : Value) (h : ps[k]? = some v) : (w.alloc (.cells ps.toArray 9)).cell? ⟨w.heap.size, k, none⟩ = some v := by
  refine (blk_cell (heap_alloc_new w (.cells ps.toArray 9)) k).trans ?_
  rw [← Array.getElem?_toList]
  exact h
set_option maxHeartbeats 16000000 in
theorem parse_calls (a0 : ByteArray) (hs : a0.size ≤ 1073741824) (w : World) (hT : Tabs w) :
    Calls Tryd.prog 13 #[.string a0] w fun e w' => e = .returned (.tuple #[.string ⟨((prsS a0).getD ([], [])).1.toArray⟩, .string ⟨((prsS a0).getD ([], [])).2.toArray⟩, .int .i64 (if (prsS a0).isSome then 0 else 60)]) ∧ Below w.heap.size w w' := by
  have HT := Aside0.mk hT
  have hsp := split_calls a0 47 w (by omega)
  have hlen := pcs_len a0
  have hsm := pcs_small a0
  rw [← hlen] at hsp
  rw [show Lib.splitB ⟨#[47]⟩ 0 (Lib.countB a0 ⟨#[47]⟩) a0 = pcs a0 from rfl] at hsp
  have ht : a0.toList = a0.data.toList := Lib.toList_data a0
  obtain ⟨R, hR⟩ : ∃ R, R = prsS a0 := ⟨_, rfl⟩
  rw [← hR]
  have FAIL := Aside0.mk (show R = none → ((R.getD ([], [])).1 = [] ∧ (R.getD ([], [])).2 = [] ∧ (if R.isSome then (0 : Int) else 60) = 60) from fun h => by rw [h]; exact ⟨rfl, rfl, rfl⟩)
  have GOOD := Aside0.mk (show ∀ r, R = some r → ((R.getD ([], [])).1 = r.1 ∧ (R.getD ([], [])).2 = r.2 ∧ (if R.isSome then (0 : Int) else 60) = 0) from fun r h => by rw [h]; exact ⟨rfl, rfl, rfl⟩)
  obtain ⟨R1, hR1⟩ : ∃ R1, R1 = (R.getD ([], [])).1 := ⟨_, rfl⟩
  obtain ⟨R2, hR2⟩ : ∃ R2, R2 = (R.getD ([], [])).2 := ⟨_, rfl⟩
  obtain ⟨R3, hR3⟩ : ∃ R3 : Int, R3 = if R.isSome then (0 : Int) else 60 := ⟨_, rfl⟩
  rw [← hR1, ← hR2, ← hR3]
  rw [← hR1, ← hR2, ← hR3] at FAIL GOOD
  unfold prsS at hR
  have HR := Aside0.mk hR
  have HSP := Aside0.mk hsp
  clear hR hR1 hR2 hR3 hT hsp hlen
  by_cases h47 : a0.data.toList = [47]
  · have d0 : (a0.toList == [47]) = true := beq_iff_eq.2 (ht.trans h47)
    have HQ := Aside0.mk (GOOD.out ([], []) (by rw [HR.out, if_pos h47]))
    clear h47 ht HSP
    go_enter Tryd.func13, Tryd.ntmps13
    go_wp2_with fail
    go_ret3
    exact ⟨by rw [HQ.out.1, HQ.out.2.1, HQ.out.2.2]; rfl, Below.refl _ _⟩
  · have d0 : (a0.toList == [47]) = false := beq_eq_false_iff_ne.2 (by rw [ht]; exact h47)
    have HR' := Aside0.mk (show R = prsP (pcs a0) by rw [HR.out, if_neg h47])
    clear h47 ht HR
    generalize pcs a0 = ps at *
    have HB0 := Aside0.mk (below_alloc (Below.refl w.heap.size w) (.cells (ps.map Value.string).toArray 9))
    have HS0 := Aside0.mk (show (w.alloc (.cells (ps.map Value.string).toArray 9)).heap.size = w.heap.size + 1 by simp)
    have HC0 := Aside0.mk (fun k v h => row_cells w (ps.map Value.string) k v h)
    generalize w.alloc (.cells (ps.map Value.string).toArray 9) = w1 at *
    by_cases h3 : ps.length = 3
    · obtain ⟨x, y, z, rfl⟩ : ∃ x y z, ps = [x, y, z] := by
        match ps, h3 with
        | [x, y, z], _ => exact ⟨x, y, z, rfl⟩
      have c0 : w1.cell? ⟨w.heap.size, 0, none⟩ = some (.string x) := HC0.out 0 _ rfl
      have c1 : w1.cell? ⟨w.heap.size, 1, none⟩ = some (.string y) := HC0.out 1 _ rfl
      have c2 : w1.cell? ⟨w.heap.size, 2, none⟩ = some (.string z) := HC0.out 2 _ rfl
      have HC2 := Aside0.mk c2
      have hy : y.size ≤ 1073741824 := Nat.le_trans (hsm y (by simp)) hs
      have hz : z.size ≤ 1073741824 := Nat.le_trans (hsm z (by simp)) hs
      have HTY := Aside0.mk (fun W hT => text_calls y hy W hT)
      have HTZ := Aside0.mk (fun W hT => text_calls z hz W hT)
      have hxe := Lib.toList_data x
      have hze := Lib.toList_data z
      rw [show ([x, y, z] : List ByteArray).length = 3 from rfl] at HSP
      unfold prsP at HR'
      clear hsm h3 HC0 hy hz
      by_cases hx : x.data.toList = []
      · have f0 : (x.toList == []) = true := by rw [hxe, hx]; rfl
        have f0' : x.toList.isEmpty = true := by rw [hxe, hx]; rfl
        have HR2 := Aside0.mk (HR'.out.trans (if_pos hx))
        clear HR' hx hxe
        generalize txtL y.data.toList = ty at *
        cases ty with
        | none =>
          have HQ := Aside0.mk (FAIL.out HR2.out)
          have HTY' := Aside0.mk (show ∀ W, Tabs W → Calls Tryd.prog 23 #[.string y] W fun e w' => e = .returned (.tuple #[.string ⟨#[]⟩, .int .i64 60]) ∧ Below W.heap.size W w' from HTY.out)
          clear HTY HTZ HR2 hze
          go_enter Tryd.func13, Tryd.ntmps13
          go_wp2_with fail
          refine HSP.out.mono ?_
          rintro _ w2 ⟨rfl, rfl⟩
          clear HSP
          go_wp2_with fail
          refine (HTY'.out _ (tabs_below HT.out HB0.out)).mono ?_
          rintro _ w3 ⟨rfl, hb⟩
          have HB3 := Aside0.mk (HB0.out.trans (hb.mono HB0.out.size))
          clear hb
          go_wp2_with fail
          go_ret3
          exact ⟨by rw [HQ.out.1, HQ.out.2.1, HQ.out.2.2]; rfl, HB3.out⟩
        | some ta =>
          have HTY' := Aside0.mk (show ∀ W, Tabs W → Calls Tryd.prog 23 #[.string y] W fun e w' => e = .returned (.tuple #[.string ⟨ta.toArray⟩, .int .i64 0]) ∧ Below W.heap.size W w' from HTY.out)
          have HR3 := Aside0.mk (show R = if z.data.toList = [] then some (ta, []) else (txtL z.data.toList).map fun b => (ta, b) from HR2.out)
          clear HTY HR2
          by_cases hz : z.data.toList = []
          · have g0 : (z.toList == []) = true := by rw [hze, hz]; rfl
            have g0' : z.toList.isEmpty = true := by rw [hze, hz]; rfl
            have HQ := Aside0.mk (GOOD.out (ta, []) (HR3.out.trans (if_pos hz)))
            clear hz hze HR3 HTZ
            go_enter Tryd.func13, Tryd.ntmps13
            go_wp2_with fail
            refine HSP.out.mono ?_
            rintro _ w2 ⟨rfl, rfl⟩
            clear HSP
            go_wp2_with fail
            refine (HTY'.out _ (tabs_below HT.out HB0.out)).mono ?_
            rintro _ w3 ⟨rfl, hb⟩
            have HB3 := Aside0.mk (HB0.out.trans (hb.mono HB0.out.size))
            have c2' : w3.cell? ⟨w.heap.size, 2, none⟩ = some (.string z) := (hb.cell (p := ⟨w.heap.size, 2, none⟩) (by have := HS0.out; show w.heap.size < _; omega)).trans HC2.out
            clear hb c2
            go_wp2_with fail
            go_ret3
            exact ⟨by rw [HQ.out.1, HQ.out.2.1, HQ.out.2.2]; rfl, HB3.out⟩
          · have g0 : (z.toList == []) = false := by rw [hze]; exact beq_eq_false_iff_ne.2 hz
            have g0' : z.toList.isEmpty = false := by rw [hze]; exact (by cases h : z.data.toList with | nil => exact absurd h hz | cons a b => rfl)
            have HR4 := Aside0.mk (HR3.out.trans (if_neg hz))
            clear hz hze HR3
            generalize txtL z.data.toList = tz at *
            cases tz with
            | none =>
              have HQ := Aside0.mk (FAIL.out HR4.out)
              have HTZ' := Aside0.mk (show ∀ W, Tabs W → Calls Tryd.prog 23 #[.string z] W fun e w' => e = .returned (.tuple #[.string ⟨#[]⟩, .int .i64 60]) ∧ Below W.heap.size W w' from HTZ.out)
              clear HTZ HR4
              go_enter Tryd.func13, Tryd.ntmps13
              go_wp2_with fail
              refine HSP.out.mono ?_
              rintro _ w2 ⟨rfl, rfl⟩
              clear HSP
              go_wp2_with fail
              refine (HTY'.out _ (tabs_below HT.out HB0.out)).mono ?_
              rintro _ w3 ⟨rfl, hb⟩
              have HB3 := Aside0.mk (HB0.out.trans (hb.mono HB0.out.size))
              have c2' : w3.cell? ⟨w.heap.size, 2, none⟩ = some (.string z) := (hb.cell (p := ⟨w.heap.size, 2, none⟩) (by have := HS0.out; show w.heap.size < _; omega)).trans HC2.out
              clear hb c2
              go_wp2_with fail
              refine (HTZ'.out _ (tabs_below HT.out HB3.out)).mono ?_
              rintro _ w4 ⟨rfl, hb⟩
              have HB4 := Aside0.mk (HB3.out.trans (hb.mono HB3.out.size))
              clear hb c2'
              go_wp2_with fail
              go_ret3
              exact ⟨by rw [HQ.out.1, HQ.out.2.1, HQ.out.2.2]; rfl, HB4.out⟩
            | some tb =>
              have HQ := Aside0.mk (GOOD.out (ta, tb) HR4.out)
              have HTZ' := Aside0.mk (show ∀ W, Tabs W → Calls Tryd.prog 23 #[.string z] W fun e w' => e = .returned (.tuple #[.string ⟨tb.toArray⟩, .int .i64 0]) ∧ Below W.heap.size W w' from HTZ.out)
              clear HTZ HR4
              go_enter Tryd.func13, Tryd.ntmps13
              go_wp2_with fail
              refine HSP.out.mono ?_
              rintro _ w2 ⟨rfl, rfl⟩
              clear HSP
              go_wp2_with fail
              refine (HTY'.out _ (tabs_below HT.out HB0.out)).mono ?_
              rintro _ w3 ⟨rfl, hb⟩
              have HB3 := Aside0.mk (HB0.out.trans (hb.mono HB0.out.size))
              have c2' : w3.cell? ⟨w.heap.size, 2, none⟩ = some (.string z) := (hb.cell (p := ⟨w.heap.size, 2, none⟩) (by have := HS0.out; show w.heap.size < _; omega)).trans HC2.out
              clear hb c2
              go_wp2_with fail
              refine (HTZ'.out _ (tabs_below HT.out HB3.out)).mono ?_
              rintro _ w4 ⟨rfl, hb⟩
              have HB4 := Aside0.mk (HB3.out.trans (hb.mono HB3.out.size))
              clear hb c2'
              go_wp2_with fail
              go_ret3
              exact ⟨by rw [HQ.out.1, HQ.out.2.1, HQ.out.2.2]; rfl, HB4.out⟩
      · have f0 : (x.toList == []) = false := by rw [hxe]; exact beq_eq_false_iff_ne.2 hx
        have f0' : x.toList.isEmpty = false := by rw [hxe]; exact (by cases h : x.data.toList with | nil => exact absurd h hx | cons a b => rfl)
        have HQ := Aside0.mk (FAIL.out (HR'.out.trans (if_neg hx)))
        clear hx hxe hze HTY HTZ HR'
        go_enter Tryd.func13, Tryd.ntmps13
        go_wp2_with fail
        refine HSP.out.mono ?_
        rintro _ w2 ⟨rfl, rfl⟩
        clear HSP
        go_wp2_with fail
        go_ret3
        exact ⟨by rw [HQ.out.1, HQ.out.2.1, HQ.out.2.2]; rfl, HB0.out⟩
    · have e1 : ((ps.length : Int) == 3) = false := beq_eq_false_iff_ne.2 (by omega)
      have e2 : decide ((ps.length : Int) = 3) = false := decide_eq_false (by omega)
      have e3 : ((ps.length : Int) = 3) = False := eq_false (by omega)
      have HQ := Aside0.mk (FAIL.out (by rw [HR'.out]; exact prsP_not ps h3))
      clear h3 hsm
      go_enter Tryd.func13, Tryd.ntmps13
      go_wp2_with fail
      refine HSP.out.mono ?_
      rintro _ w2 ⟨rfl, rfl⟩
      clear HSP
      go_wp2_with fail
      go_ret3
      exact ⟨by rw [HQ.out.1, HQ.out.2.1, HQ.out.2.2]; rfl, HB0.out⟩

end Go.Proofs.YtjgialebelndmaaDoor.PF
