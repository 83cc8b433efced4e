/- char.turned and Upper walked. -/
import Derived.Test.YtjgialebelndmaaDoorVal
import Derived.Lib.ConvBytes
import Derived.Laws.IdiomStrings
import Derived.Lib.AtoiErrMem
namespace Go.Proofs.YtjgialebelndmaaDoor.PF
open Go.RowKit Go.Proofs.YtjgialebelndmaaDoorW.PrintWords Go.Proofs.YtjgialebelndmaaDoorW.PrintLast Go.Proofs.YtjgialebelndmaaDoorW.PrintMore
open Go.Shelf
set_option linter.unusedVariables false
set_option linter.unusedSimpArgs false
set_option maxHeartbeats 4000000
set_option maxRecDepth 100000

open Go.Proofs Go.Lib
def tr (lo hi : Nat) (c : UInt8) : UInt8 := if lo ≤ c.toNat ∧ c.toNat ≤ hi then c ^^^ 32 else c
theorem xor32 : ∀ X : Fin 256, bits .xor .u8 ((X.val : Nat) : Int) 32 = (((UInt8.ofNat X.val) ^^^ 32).toNat : Int) := by decide +kernel
theorem xor_is (c : UInt8) : bits .xor .u8 (c.toNat : Int) 32 = ((c ^^^ 32).toNat : Int) := by
  have := xor32 ⟨c.toNat, c.toNat_lt⟩
  simpa using this
/-- The row as it stands before round i. -/
structure RowAt (w : World) (B : Nat) (l : List UInt8) (lo hi i : Nat) : Prop where
  ex : ∃ (cur : Array Value), w.heap[B]? = some (.cells cur 5 (cur.size, cur.size + 1)) ∧ l.length ≤ cur.size ∧ ∀ (j : Nat) (h : j < l.length), cur[j]? = some (.int .u8 ((if j < i then tr lo hi l[j] else l[j]).toNat : Int))
theorem RowAt.cell {w : World} {B : Nat} {l : List UInt8} {lo hi i : Nat} (h : RowAt w B l lo hi i) (j : Nat) (hj : j < l.length) : w.cell? ⟨B, j, none⟩ = some (.int .u8 ((if j < i then tr lo hi l[j] else l[j]).toNat : Int)) := by
  obtain ⟨cur, h1, h2, h3⟩ := h.ex
  simp [World.cell?, h1, h3 j hj]
theorem RowAt.thaw {w : World} {B : Nat} {l : List UInt8} {lo hi i : Nat} (h : RowAt w B l lo hi i) (j : Nat) (hj : j < l.length) : w.frozen? ⟨B, j, none⟩ = false := by
  obtain ⟨cur, h1, h2, h3⟩ := h.ex
  simp [World.frozen?, h1]
  omega
theorem RowAt.put {w : World} {B : Nat} {l : List UInt8} {lo hi i : Nat} (h : RowAt w B l lo hi i) (hi' : i < l.length) : RowAt (w.setCell ⟨B, i, none⟩ (.int .u8 ((tr lo hi l[i]).toNat : Int))) B l lo hi (i + 1) := by
  obtain ⟨cur, h1, h2, h3⟩ := h.ex
  refine ⟨cur.setIfInBounds i (.int .u8 ((tr lo hi l[i]).toNat : Int)), ?_, by simpa using h2, fun j hj => ?_⟩
  · simp only [World.setCell, Array.getElem?_modify, if_true, h1]
    simp
  · rw [Array.getElem?_setIfInBounds]
    by_cases e : i = j
    · subst e
      rw [if_pos rfl, if_pos (by omega), if_pos (by omega)]
    · rw [if_neg e, h3 j hj]
      by_cases c : j < i
      · rw [if_pos c, if_pos (by omega)]
      · rw [if_neg c, if_neg (by omega)]
theorem RowAt.stay {w : World} {B : Nat} {l : List UInt8} {lo hi i : Nat} (h : RowAt w B l lo hi i) (hi' : i < l.length) (e : tr lo hi l[i] = l[i]) : RowAt w B l lo hi (i + 1) := by
  obtain ⟨cur, h1, h2, h3⟩ := h.ex
  refine ⟨cur, h1, h2, fun j hj => ?_⟩
  rw [h3 j hj]
  by_cases c : j < i
  · rw [if_pos c, if_pos (by omega)]
  · rw [if_neg c]
    by_cases d : j < i + 1
    · have : j = i := by omega
      subst this
      rw [if_pos d, e]
    · rw [if_neg d]
theorem rowAt_start (w : World) (s : ByteArray) (lo hi : Nat) : RowAt (Lib.bytesWorld w 5 s) w.heap.size s.data.toList lo hi 0 := by
  refine ⟨Lib.bytesCells w 5 s, Lib.bytesWorld_at_new w 5 s, ?_, fun j hj => ?_⟩
  · unfold Lib.bytesCells
    simp
  · have h := Lib.bytesWorld_cell w 5 s j hj
    simp only [World.cell?, Lib.bytesWorld_at_new] at h
    rw [if_neg (by omega)]
    have e : s.data.toList.getD j 0 = s.data.toList[j] := by rw [List.getD_eq_getElem?_getD, List.getElem?_eq_getElem hj]; rfl
    rw [e] at h
    simpa using h
set_option maxHeartbeats 8000000 in
theorem turned_calls (a0 : ByteArray) (hs : a0.size ≤ 1073741824) (lo hi : Nat) (w : World) :
    Calls Tryd.prog 48 #[.string a0, .int .u8 (lo : Int), .int .u8 (hi : Int)] w fun e w' => e = .returned (.string ⟨(a0.data.toList.map (tr lo hi)).toArray⟩) ∧ Below w.heap.size w w' := by
  have HCV := Aside0.mk (Lib.run_convert_string_bytes (P := Tryd.prog) w 9 41 5 a0 Tryd.underlying9 Tryd.underlying41 Tryd.underlying5)
  have hcv := HCV.out
  have HR0 := Aside0.mk (rowAt_start w a0 lo hi)
  have HB0 := Aside0.mk (Lib.bytesWorld_below w 5 a0)
  obtain ⟨l, hl⟩ : ∃ l, l = a0.data.toList := ⟨_, rfl⟩
  have hll : l.length = a0.size := by rw [hl]; rfl
  rw [← hl] at HR0 ⊢
  have HL := Aside0.mk (And.intro hll hs)
  generalize Lib.bytesWorld w 5 a0 = w1 at *
  generalize grownCap w a0.size 0 5 = cp at *
  clear hl hll hs HCV
  go_enter Tryd.func48, Tryd.ntmps48
  go_wp2_with fail
  clear hcv
  go_loopw [8, 9, 14] (fun v8 v9 v14 wr => ∃ (i : Nat), v14 = .int .i64 (i : Int) ∧ i ≤ a0.size ∧ Aside0 (RowAt wr w.heap.size l lo hi i) ∧ Aside0 (Below w.heap.size w wr)) (fun _ _ v14 _ => a0.size - (RowKit.intOf v14).toNat)
  case atStart => exact ⟨0, rfl, Nat.zero_le _, HR0, HB0⟩
  case round =>
    clear HR0 HB0
    obtain ⟨i, rfl, hile, HR, HB⟩ := hrel
    by_cases hi2 : i < a0.size
    · have hil : i < l.length := by have := HL.out.1; omega
      have d1 : decide (i < a0.size) = true := decide_eq_true hi2
      have d2 : decide ((i : Int) < (a0.size : Int)) = true := decide_eq_true (by omega)
      have hw : wrap64 ((i : Int) + 1) = ((i + 1 : Nat) : Int) := by have := HL.out.2; unfold wrap64; omega
      obtain ⟨c, hc⟩ : ∃ c, c = l[i] := ⟨_, rfl⟩
      have hcell : wr.cell? ⟨w.heap.size, i, none⟩ = some (.int .u8 (c.toNat : Int)) := by
        have := HR.out.cell i hil
        rw [if_neg (by omega)] at this
        rw [hc]; exact this
      have hthaw := HR.out.thaw i hil
      have hxor := xor_is c
      have HI := Aside0.mk (And.intro hi2 (And.intro hil hc))
      by_cases hc1 : lo ≤ c.toNat
      · have e1 : decide ((lo : Int) ≤ (c.toNat : Int)) = true := decide_eq_true (by omega)
        have e1' : decide (lo ≤ c.toNat) = true := decide_eq_true hc1
        by_cases hc2 : c.toNat ≤ hi
        · have e2 : decide ((c.toNat : Int) ≤ (hi : Int)) = true := decide_eq_true (by omega)
          have e2' : decide (c.toNat ≤ hi) = true := decide_eq_true hc2
          have HT := Aside0.mk (show tr lo hi l[i] = c ^^^ 32 by unfold tr; rw [← hc, if_pos ⟨hc1, hc2⟩])
          clear hc hc1 hc2 hile
          go_wp2_with fail
          go_roundw
          case rel => exact ⟨i + 1, by first | rfl | rw [hw] | (congr 1), by have := HI.out.1; omega, ⟨by have h := HR.out.put HI.out.2.1; rw [HT.out] at h; exact h⟩, ⟨HB.out.setCell (Nat.le_refl _) _⟩⟩
          case measure => first | (rw [hw]; have := HI.out.1; show a0.size - (i + 1) < a0.size - i; omega) | (have := HI.out.1; show a0.size - (i + 1) < a0.size - i; omega)
        · have e2 : decide ((c.toNat : Int) ≤ (hi : Int)) = false := decide_eq_false (by omega)
          have e2' : decide (c.toNat ≤ hi) = false := decide_eq_false hc2
          have HT := Aside0.mk (show tr lo hi l[i] = l[i] by unfold tr; rw [← hc, if_neg (fun h => hc2 h.2)])
          clear hc hc1 hc2 hile
          go_wp2_with fail
          go_roundw
          case rel => exact ⟨i + 1, by first | rfl | rw [hw] | (congr 1), by have := HI.out.1; omega, ⟨HR.out.stay HI.out.2.1 HT.out⟩, HB⟩
          case measure => first | (rw [hw]; have := HI.out.1; show a0.size - (i + 1) < a0.size - i; omega) | (have := HI.out.1; show a0.size - (i + 1) < a0.size - i; omega)
      · have e1 : decide ((lo : Int) ≤ (c.toNat : Int)) = false := decide_eq_false (by omega)
        have e1' : decide (lo ≤ c.toNat) = false := decide_eq_false hc1
        have HT := Aside0.mk (show tr lo hi l[i] = l[i] by unfold tr; rw [← hc, if_neg (fun h => hc1 h.1)])
        clear hc hc1 hile
        go_wp2_with fail
        go_roundw
        case rel => exact ⟨i + 1, by first | rfl | rw [hw] | (congr 1), by have := HI.out.1; omega, ⟨HR.out.stay HI.out.2.1 HT.out⟩, HB⟩
        case measure => first | (rw [hw]; have := HI.out.1; show a0.size - (i + 1) < a0.size - i; omega) | (have := HI.out.1; show a0.size - (i + 1) < a0.size - i; omega)
    · have d1 : decide (i < a0.size) = false := decide_eq_false hi2
      have d2 : decide ((i : Int) < (a0.size : Int)) = false := decide_eq_false (by omega)
      have hlen : (l.map (tr lo hi)).length = a0.size := by rw [List.length_map]; exact HL.out.1
      have hcs := run_convert_bytes_back (P := Tryd.prog) wr 41 9 5 ⟨w.heap.size, 0, none⟩ cp (l.map (tr lo hi)) Tryd.underlying41 Tryd.underlying5 Tryd.underlying9 (by
        intro q hq
        have hq2 : q < l.length := by rw [List.length_map] at hq; exact hq
        have h := HR.out.cell q hq2
        rw [if_pos (by have := HL.out.1; omega)] at h
        have ha : (⟨w.heap.size, 0, none⟩ : Addr).add q = ⟨w.heap.size, q, none⟩ := by
          simp [Addr.add]
          exact fun h => h.symm
        rw [ha, h]
        simp)
      rw [hlen] at hcs
      clear hi2 hile hlen
      go_wp2_with fail
      go_ret
      exact ⟨rfl, HB.out⟩
theorem upper_calls (a0 : ByteArray) (hs : a0.size ≤ 1073741824) (w : World) :
    Calls Tryd.prog 40 #[.string a0] w fun e w' => e = .returned (.string ⟨(a0.data.toList.map (tr 97 122)).toArray⟩) ∧ Below w.heap.size w w' := by
  have HC := Aside0.mk (turned_calls a0 hs 97 122 w)
  generalize (⟨(a0.data.toList.map (tr 97 122)).toArray⟩ : ByteArray) = r at *
  clear hs
  go_enter Tryd.func40, Tryd.ntmps40
  go_wp2_with fail
  refine HC.out.mono ?_
  rintro _ w1 ⟨rfl, hb⟩
  have HB := Aside0.mk hb
  clear hb HC
  go_wp2_with fail
  go_ret
  exact ⟨rfl, HB.out⟩

end Go.Proofs.YtjgialebelndmaaDoor.PF
