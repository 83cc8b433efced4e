/- (*byteStringReplacer).Replace, walked. -/
import Derived.Test.YtdjdbmopckhcdaaReplR
import Derived.Deep.DeepCutAuto
import Derived.Laws.CopyRow
import Derived.StillTactics
import Derived.LoopTactic
import Derived.Laws.Cover3
import Derived.StillTailTactics
namespace Go.Proofs.Ytdjdbmopckhcdaa.PV
open Go.RowKit Go.Proofs.YtdjdbmopckhcdaaW.PrintWords Go.Proofs.YtdjdbmopckhcdaaW.PrintLast Go.Proofs.YtdjdbmopckhcdaaW.PrintMore
open Go.Proofs Go.Proofs.Ytdjdbmopckhcdaa.Reg
set_option linter.unusedVariables false
set_option linter.unusedSimpArgs false
set_option maxHeartbeats 4000000
set_option maxRecDepth 100000

/-- A byte's cell as the walk reads it. -/
theorem rep_cell {W : World} {base g : Nat} {C : Array Value} {v : Value} {T : List ByteArray} (h : BSt W base g C v T (dones 0)) (b : UInt8) :
    (isE b = false ∧ W.cell? ⟨g, b.toNat, none⟩ = some (.slice none 0 0) ∧ escL b = [b]) ∨ (isE b = true ∧ ∃ k c x y X fr, W.cell? ⟨g, b.toNat, none⟩ = some (.slice (some ⟨k, 0, none⟩) 2 c) ∧ 2 ≤ c ∧ W.heap[k]? = some (.cells X 5 fr) ∧ X[0]? = some (.int .u8 (x : UInt8).toNat) ∧ X[1]? = some (.int .u8 (y : UInt8).toNat) ∧ escL b = [x, y]) := by
  have hb : b.toNat < 256 := b.toNat_lt
  obtain ⟨u, hu, hr⟩ := h.reps b.toNat hb
  rw [dones_esc] at hr
  have hc := (blk_cell h.blk b.toNat).trans hu
  unfold isE escL
  cases he : esc b.toNat with
  | none =>
    rw [he] at hr
    have : u = .slice none 0 0 := hr
    subst this
    exact .inl ⟨rfl, hc, rfl⟩
  | some p =>
    rw [he] at hr
    obtain ⟨k, c, X, fr, rfl, h2, hX, h0, h1⟩ := hr
    exact .inr ⟨rfl, k, c, p.1, p.2, X, fr, hc, h2, hX, h0, h1, rfl⟩
theorem top_cells {W : World} {base g : Nat} {C : Array Value} {v : Value} {done : Nat → Option (UInt8 × UInt8)} (h : BSt W base g C v (tops 0) done) : ∃ t cap, v = .slice (some ⟨t, 0, none⟩) 4 cap ∧ ∀ j (x : ByteArray), (tops 0)[j]? = some x → W.cell? ⟨t, j, none⟩ = some (.string x) := by
  have ho := h.own
  rcases ho.2 with ⟨_, h0⟩ | ⟨t, cap, cur, rfl, _⟩
  · exact absurd h0 (by decide)
  · refine ⟨t, cap, rfl, fun j x hj => ?_⟩
    have hl : j < 4 := (List.getElem?_eq_some_iff.1 hj).1
    have h4 := World.ownsRow.cellAt (n := 4) ho j (by show j < 4 * 1; omega)
    rw [h4]
    simp [encs, hj]
theorem BSt.below {W W' : World} {base g : Nat} {C : Array Value} {v : Value} {T : List ByteArray} {done : Nat → Option (UInt8 × UInt8)} (h : BSt W base g C v T done) (hb : Below W.heap.size W W') : BSt W' base g C v T done := by
  refine ⟨(hb.block g (Array.getElem?_eq_some_iff.1 h.blk).1).trans h.blk, h.low, h.size, h.row, ?_, fun j hj => ?_⟩
  · exact Kd.own_of_R (Kd.R_below (Kd.R_of_own (h1 := fun _ => rfl) (ok := fun _ => True) h.own (fun _ _ => trivial)) hb)
  · obtain ⟨u, hu, hr⟩ := h.reps j hj
    exact ⟨u, hu, hr.keeps (fun k X fr hk => ⟨fr, (hb.block k (Array.getElem?_eq_some_iff.1 hk).1).trans hk⟩)⟩
theorem sums_le (l : List UInt8) (k m : Nat) (h : m = sums l k) (hl : l.length ≤ 1073741824) : m ≤ 4 * 1073741824 := by
  have a1 : l.count 10 ≤ l.length := List.count_le_length
  have a2 : l.count 59 ≤ l.length := List.count_le_length
  have a3 : l.count 44 ≤ l.length := List.count_le_length
  have a4 : l.count 92 ≤ l.length := List.count_le_length
  rw [h]
  unfold sums
  split <;> omega
theorem sum_wrap (a m n : Nat) (h1 : a ≤ 1073741824) (h2 : m ≤ 4 * 1073741824) (h3 : n ≤ 1073741824) : IntKind.i64.wrap (((a + m : Nat) : Int) + IntKind.i64.wrap ((n : Int) * IntKind.i64.wrap 1)) = ((a + (m + n) : Nat) : Int) := by
  rw [i64_w, i64_w, i64_w]
  unfold wrap64
  omega
theorem strOf (l : List UInt8) : (⟨l.toArray⟩ : ByteArray).data.toList = l := rfl

set_option maxHeartbeats 16000000 in
theorem replace_calls (W : World) (base g : Nat) (C : Array Value) (v : Value) (hG : BSt W base g C v (tops 0) (dones 0)) (s : ByteArray) (hs : s.size ≤ 1073741824) :
    Calls Try.prog 98 #[.pointer (some ⟨g, 0, none⟩), .string s] W fun e w' => e = .returned (.string ⟨(putL s.data.toList).toArray⟩) ∧ Below W.heap.size W w' := by
  obtain ⟨t, cap, rfl, ht⟩ := top_cells hG
  have HG := Aside0.mk hG
  have HT := Aside0.mk (And.intro (cell_lt (ht 0 _ rfl)) ht)
  obtain ⟨l, hl⟩ : ∃ l, l = s.data.toList := ⟨_, rfl⟩
  have hls : l.length = s.size := by rw [hl]; rfl
  have HL := Aside0.mk (And.intro hl (And.intro hls hs))
  have c256 : W.cell? ⟨g, 256, none⟩ = some (.slice (some ⟨t, 0, none⟩) 4 cap) := (blk_cell hG.blk 256).trans hG.row
  have hnn : ∀ (x : Bool) (w : World), (Op.unary .not (.bool x)).run Try.prog w = .ok (.bool (!x)) w := fun _ _ => rfl
  rw [← hl]
  clear hG ht hs hls hl
  obtain ⟨nE, hnE⟩ : ∃ nE, nE = cntE l := ⟨_, rfl⟩
  have HN := Aside0.mk hnE
  clear hnE
  go_enter Try.func98, Try.ntmps98
  go_upto_if 26 with fail
  have hc0 := c256
  go_cut [5, 6, 8, 9, 10, 11] from 18 to 80 (fun v5 v6 _ _ _ _ w' => v5 = .int .i64 ((s.size + nE : Nat) : Int) ∧ v6 = .bool (decide (nE ≠ 0)) ∧ Aside0 (Below W.heap.size W w'))
  case first =>
    generalize decide ((32 : Int) ≤ (s.size : Int)) = dq
    cases dq with
    | true =>
      go_wp2_with fail
      go_loopw [5, 6, 32] (fun v5 v6 v32 wr => ∃ (k m : Nat), v32 = .int .i64 (k : Int) ∧ v5 = .int .i64 ((s.size + m : Nat) : Int) ∧ v6 = .bool (decide (m ≠ 0)) ∧ Aside0 (k ≤ 4 ∧ m = sums l k) ∧ Aside0 (Below W.heap.size W wr)) (fun _ _ v32 _ => 4 - (intOf v32).toNat)
      case atStart => exact ⟨0, 0, rfl, rfl, rfl, Aside0.mk ⟨by omega, rfl⟩, Aside0.mk (Below.refl _ _)⟩
      case round =>
        obtain ⟨k, m, rfl, rfl, rfl, HK, HB⟩ := hrel
        have HMB := Aside0.mk (show m ≤ 4 * 1073741824 from sums_le l k m HK.out.2 (by have := HL.out.2; omega))
        by_cases hk4 : k = 4
        · subst hk4
          have hm : m = nE := by rw [HK.out.2, sums_all, HN.out]
          subst hm
          go_wp2_with fail
          go_meet
          exact ⟨rfl, rfl, HB⟩
        · have hk : k = 0 ∨ k = 1 ∨ k = 2 ∨ k = 3 := by have := HK.out.1; omega
          rcases hk with rfl | rfl | rfl | rfl
          · clear hk4
            have hx0 : ((⟨#[10]⟩ : ByteArray)[0]'(by decide)).toNat = 10 := rfl
            have p0 : wr.cell? ⟨t, 0, none⟩ = some (.string ⟨#[10]⟩) := (HB.out.cell (p := ⟨t, 0, none⟩) HT.out.1).trans (HT.out.2 0 _ rfl)
            have HCT := Aside0.mk (Try.strings_Count_one s 10 wr)
            rw [← HL.out.1, show Lib.countByte l 10 = l.count 10 from rfl] at HCT
            obtain ⟨n, hn⟩ : ∃ n, n = l.count 10 := ⟨_, rfl⟩
            rw [← hn] at HCT
            have hle : n ≤ l.length := by rw [hn]; exact List.count_le_length
            have hsm : sums l 1 = sums l 0 + n := by rw [hn]; simp [sums]
            have HS1 := Aside0.mk (And.intro hsm hle)
            clear hn hsm hle
            by_cases hz : n = 0
            · subst hz
              have d1 : True := trivial
              go_wp2_with fail
              refine HCT.out.mono ?_
              rintro _ w2 ⟨rfl, rfl⟩
              clear HCT
              go_wp2_with fail
              go_roundw
              case rel => exact ⟨1, m, rfl, rfl, by simp, Aside0.mk ⟨by omega, by rw [HS1.out.1, ← HK.out.2]; rfl⟩, HB⟩
              case measure => simp [intOf]
            · have d1 : ((n : Int) != 0) = true := by simp; omega
              have hcl : ∃ k2 c2, wr.cell? ⟨g, 10, none⟩ = some (.slice (some ⟨k2, 0, none⟩) 2 c2) := by
                rcases rep_cell (HG.out.below HB.out) 10 with ⟨h, _⟩ | ⟨_, k2, c2, x, y, X, fr, h, _⟩
                · exact absurd h (by decide)
                · exact ⟨k2, c2, h⟩
              obtain ⟨k2, c2, hcl⟩ := hcl
              have hw1 : wrap64 ((n : Int) * 1) = (n : Int) := by have := HS1.out.2; have := HL.out.2; unfold wrap64; omega
              have hw2 : wrap64 (((s.size + m : Nat) : Int) + (n : Int)) = ((s.size + (m + n) : Nat) : Int) := by have := HS1.out.2; have := HL.out.2; have := HMB.out; unfold wrap64; omega
              go_wp2_with fail
              refine HCT.out.mono ?_
              rintro _ w2 ⟨rfl, rfl⟩
              clear HCT
              go_upto_region 9 with fail
              go_still (by kernel_rfl)
              go_wp2_with fail
              go_roundw
              case rel => exact ⟨1, m + n, rfl, congrArg (Value.int .i64) (sum_wrap s.size m n (by have := HL.out.2; omega) HMB.out (by have := HS1.out.2; have := HL.out.2; omega)), by simp; omega, Aside0.mk ⟨by omega, by rw [HS1.out.1, ← HK.out.2]⟩, Aside0.mk (below_drew HB.out)⟩
              case measure => simp [intOf]
          · clear hk4
            have hx0 : ((⟨#[59]⟩ : ByteArray)[0]'(by decide)).toNat = 59 := rfl
            have p0 : wr.cell? ⟨t, 1, none⟩ = some (.string ⟨#[59]⟩) := (HB.out.cell (p := ⟨t, 1, none⟩) HT.out.1).trans (HT.out.2 1 _ rfl)
            have HCT := Aside0.mk (Try.strings_Count_one s 59 wr)
            rw [← HL.out.1, show Lib.countByte l 59 = l.count 59 from rfl] at HCT
            obtain ⟨n, hn⟩ : ∃ n, n = l.count 59 := ⟨_, rfl⟩
            rw [← hn] at HCT
            have hle : n ≤ l.length := by rw [hn]; exact List.count_le_length
            have hsm : sums l 2 = sums l 1 + n := by rw [hn]; simp [sums]
            have HS1 := Aside0.mk (And.intro hsm hle)
            clear hn hsm hle
            by_cases hz : n = 0
            · subst hz
              have d1 : True := trivial
              go_wp2_with fail
              refine HCT.out.mono ?_
              rintro _ w2 ⟨rfl, rfl⟩
              clear HCT
              go_wp2_with fail
              go_roundw
              case rel => exact ⟨2, m, rfl, rfl, by simp, Aside0.mk ⟨by omega, by rw [HS1.out.1, ← HK.out.2]; rfl⟩, HB⟩
              case measure => simp [intOf]
            · have d1 : ((n : Int) != 0) = true := by simp; omega
              have hcl : ∃ k2 c2, wr.cell? ⟨g, 59, none⟩ = some (.slice (some ⟨k2, 0, none⟩) 2 c2) := by
                rcases rep_cell (HG.out.below HB.out) 59 with ⟨h, _⟩ | ⟨_, k2, c2, x, y, X, fr, h, _⟩
                · exact absurd h (by decide)
                · exact ⟨k2, c2, h⟩
              obtain ⟨k2, c2, hcl⟩ := hcl
              have hw1 : wrap64 ((n : Int) * 1) = (n : Int) := by have := HS1.out.2; have := HL.out.2; unfold wrap64; omega
              have hw2 : wrap64 (((s.size + m : Nat) : Int) + (n : Int)) = ((s.size + (m + n) : Nat) : Int) := by have := HS1.out.2; have := HL.out.2; have := HMB.out; unfold wrap64; omega
              go_wp2_with fail
              refine HCT.out.mono ?_
              rintro _ w2 ⟨rfl, rfl⟩
              clear HCT
              go_upto_region 9 with fail
              go_still (by kernel_rfl)
              go_wp2_with fail
              go_roundw
              case rel => exact ⟨2, m + n, rfl, congrArg (Value.int .i64) (sum_wrap s.size m n (by have := HL.out.2; omega) HMB.out (by have := HS1.out.2; have := HL.out.2; omega)), by simp; omega, Aside0.mk ⟨by omega, by rw [HS1.out.1, ← HK.out.2]⟩, Aside0.mk (below_drew HB.out)⟩
              case measure => simp [intOf]
          · clear hk4
            have hx0 : ((⟨#[44]⟩ : ByteArray)[0]'(by decide)).toNat = 44 := rfl
            have p0 : wr.cell? ⟨t, 2, none⟩ = some (.string ⟨#[44]⟩) := (HB.out.cell (p := ⟨t, 2, none⟩) HT.out.1).trans (HT.out.2 2 _ rfl)
            have HCT := Aside0.mk (Try.strings_Count_one s 44 wr)
            rw [← HL.out.1, show Lib.countByte l 44 = l.count 44 from rfl] at HCT
            obtain ⟨n, hn⟩ : ∃ n, n = l.count 44 := ⟨_, rfl⟩
            rw [← hn] at HCT
            have hle : n ≤ l.length := by rw [hn]; exact List.count_le_length
            have hsm : sums l 3 = sums l 2 + n := by rw [hn]; simp [sums]
            have HS1 := Aside0.mk (And.intro hsm hle)
            clear hn hsm hle
            by_cases hz : n = 0
            · subst hz
              have d1 : True := trivial
              go_wp2_with fail
              refine HCT.out.mono ?_
              rintro _ w2 ⟨rfl, rfl⟩
              clear HCT
              go_wp2_with fail
              go_roundw
              case rel => exact ⟨3, m, rfl, rfl, by simp, Aside0.mk ⟨by omega, by rw [HS1.out.1, ← HK.out.2]; rfl⟩, HB⟩
              case measure => simp [intOf]
            · have d1 : ((n : Int) != 0) = true := by simp; omega
              have hcl : ∃ k2 c2, wr.cell? ⟨g, 44, none⟩ = some (.slice (some ⟨k2, 0, none⟩) 2 c2) := by
                rcases rep_cell (HG.out.below HB.out) 44 with ⟨h, _⟩ | ⟨_, k2, c2, x, y, X, fr, h, _⟩
                · exact absurd h (by decide)
                · exact ⟨k2, c2, h⟩
              obtain ⟨k2, c2, hcl⟩ := hcl
              have hw1 : wrap64 ((n : Int) * 1) = (n : Int) := by have := HS1.out.2; have := HL.out.2; unfold wrap64; omega
              have hw2 : wrap64 (((s.size + m : Nat) : Int) + (n : Int)) = ((s.size + (m + n) : Nat) : Int) := by have := HS1.out.2; have := HL.out.2; have := HMB.out; unfold wrap64; omega
              go_wp2_with fail
              refine HCT.out.mono ?_
              rintro _ w2 ⟨rfl, rfl⟩
              clear HCT
              go_upto_region 9 with fail
              go_still (by kernel_rfl)
              go_wp2_with fail
              go_roundw
              case rel => exact ⟨3, m + n, rfl, congrArg (Value.int .i64) (sum_wrap s.size m n (by have := HL.out.2; omega) HMB.out (by have := HS1.out.2; have := HL.out.2; omega)), by simp; omega, Aside0.mk ⟨by omega, by rw [HS1.out.1, ← HK.out.2]⟩, Aside0.mk (below_drew HB.out)⟩
              case measure => simp [intOf]
          · clear hk4
            have hx0 : ((⟨#[92]⟩ : ByteArray)[0]'(by decide)).toNat = 92 := rfl
            have p0 : wr.cell? ⟨t, 3, none⟩ = some (.string ⟨#[92]⟩) := (HB.out.cell (p := ⟨t, 3, none⟩) HT.out.1).trans (HT.out.2 3 _ rfl)
            have HCT := Aside0.mk (Try.strings_Count_one s 92 wr)
            rw [← HL.out.1, show Lib.countByte l 92 = l.count 92 from rfl] at HCT
            obtain ⟨n, hn⟩ : ∃ n, n = l.count 92 := ⟨_, rfl⟩
            rw [← hn] at HCT
            have hle : n ≤ l.length := by rw [hn]; exact List.count_le_length
            have hsm : sums l 4 = sums l 3 + n := by rw [hn]; simp [sums]
            have HS1 := Aside0.mk (And.intro hsm hle)
            clear hn hsm hle
            by_cases hz : n = 0
            · subst hz
              have d1 : True := trivial
              go_wp2_with fail
              refine HCT.out.mono ?_
              rintro _ w2 ⟨rfl, rfl⟩
              clear HCT
              go_wp2_with fail
              go_roundw
              case rel => exact ⟨4, m, rfl, rfl, by simp, Aside0.mk ⟨by omega, by rw [HS1.out.1, ← HK.out.2]; rfl⟩, HB⟩
              case measure => simp [intOf]
            · have d1 : ((n : Int) != 0) = true := by simp; omega
              have hcl : ∃ k2 c2, wr.cell? ⟨g, 92, none⟩ = some (.slice (some ⟨k2, 0, none⟩) 2 c2) := by
                rcases rep_cell (HG.out.below HB.out) 92 with ⟨h, _⟩ | ⟨_, k2, c2, x, y, X, fr, h, _⟩
                · exact absurd h (by decide)
                · exact ⟨k2, c2, h⟩
              obtain ⟨k2, c2, hcl⟩ := hcl
              have hw1 : wrap64 ((n : Int) * 1) = (n : Int) := by have := HS1.out.2; have := HL.out.2; unfold wrap64; omega
              have hw2 : wrap64 (((s.size + m : Nat) : Int) + (n : Int)) = ((s.size + (m + n) : Nat) : Int) := by have := HS1.out.2; have := HL.out.2; have := HMB.out; unfold wrap64; omega
              go_wp2_with fail
              refine HCT.out.mono ?_
              rintro _ w2 ⟨rfl, rfl⟩
              clear HCT
              go_upto_region 9 with fail
              go_still (by kernel_rfl)
              go_wp2_with fail
              go_roundw
              case rel => exact ⟨4, m + n, rfl, congrArg (Value.int .i64) (sum_wrap s.size m n (by have := HL.out.2; omega) HMB.out (by have := HS1.out.2; have := HL.out.2; omega)), by simp; omega, Aside0.mk ⟨by omega, by rw [HS1.out.1, ← HK.out.2]⟩, Aside0.mk (below_drew HB.out)⟩
              case measure => simp [intOf]
    | false =>
      go_wp2_with fail
      go_loopw [5, 6, 10] (fun v5 v6 v10 wr => ∃ (i m : Nat), v10 = .int .i64 (i : Int) ∧ v5 = .int .i64 ((s.size + m : Nat) : Int) ∧ v6 = .bool (decide (m ≠ 0)) ∧ Aside0 (i ≤ s.size ∧ m = cntE (l.take i)) ∧ Aside0 (Below W.heap.size W wr)) (fun _ _ v10 _ => s.size - (intOf v10).toNat)
      case atStart => exact ⟨0, 0, rfl, rfl, rfl, Aside0.mk ⟨Nat.zero_le _, rfl⟩, Aside0.mk (Below.refl _ _)⟩
      case round =>
        obtain ⟨i, m, rfl, rfl, rfl, HK, HB⟩ := hrel
        by_cases hi : i < s.size
        · have d1 : decide (i < s.size) = true := decide_eq_true hi
          have hil : i < l.length := by rw [HL.out.2.1]; exact hi
          obtain ⟨b, hb⟩ : ∃ b, b = l[i] := ⟨_, rfl⟩
          have hbt : ∀ h : i < s.size, (s[i]'h) = b := fun h => by rw [hb]; simp only [HL.out.1]; rfl
          have HX := Aside0.mk (show cntE (l.take (i + 1)) = cntE (l.take i) + if isE b then 1 else 0 by
            rw [List.take_succ_eq_append_getElem hil, ← hb]
            unfold cntE
            rw [List.filter_append, List.length_append]
            congr 1
            by_cases hE : isE b = true
            · rw [if_pos hE]; simp [hE]
            · rw [if_neg hE]; simp [hE])
          have HI := Aside0.mk hi
          have HM := Aside0.mk (show m ≤ s.size by rw [HK.out.2, ← HL.out.2.1]; exact Nat.le_trans (List.length_filter_le _ _) (by rw [List.length_take]; omega))
          have hb256 : ((b.toNat : Int) < 256) = True := eq_true (by have := b.toNat_lt; omega)
          have hw : wrap64 ((i : Int) + 1) = ((i + 1 : Nat) : Int) := by have := HL.out.2.2; unfold wrap64; omega
          replace hi := eq_true hi
          clear hb hil
          rcases rep_cell (HG.out.below HB.out) b with ⟨hE, hc, _⟩ | ⟨hE, k2, c2, x, y, X, fr, hc, _⟩
          · have HXE := Aside0.mk (show cntE (l.take (i + 1)) = cntE (l.take i) by rw [HX.out, hE]; rfl)
            clear hE
            go_wp2_with fail
            go_roundw
            case rel => exact ⟨i + 1, m, by rw [hw], rfl, by simp, Aside0.mk ⟨HI.out, by rw [HXE.out, ← HK.out.2]⟩, HB⟩
            case measure =>
              have := HI.out
              first | (rw [hw]; done) | (rw [hw]; show s.size - (i + 1) < s.size - i; omega) | (simp [intOf]; omega)
          · have HXE := Aside0.mk (show cntE (l.take (i + 1)) = cntE (l.take i) + 1 by rw [HX.out, hE]; rfl)
            have hw1 : wrap64 (((s.size + m : Nat) : Int) + 1) = ((s.size + (m + 1) : Nat) : Int) := by have := HL.out.2.2; have := HM.out; unfold wrap64; omega
            have hw2 : wrap64 (2 - 1) = 1 := by unfold wrap64; decide
            clear hE
            go_wp2_with fail
            go_roundw
            case rel => exact ⟨i + 1, m + 1, by rw [hw], by first | rfl | (congr 1; done) | (rw [hw1]; done) | (simp [hw1]; done) | (congr 1; have := HL.out.2.2; have := HM.out; unfold wrap64; omega), by simp, Aside0.mk ⟨HI.out, by rw [HXE.out, ← HK.out.2]⟩, HB⟩
            case measure =>
              have := HI.out
              first | (rw [hw]; done) | (rw [hw]; show s.size - (i + 1) < s.size - i; omega) | (simp [intOf]; omega)
        · have d1 : decide (i < s.size) = false := decide_eq_false hi
          have hm : m = nE := by
            have hi2 : i = l.length := by have := HK.out.1; have := HL.out.2.1; omega
            rw [HK.out.2, hi2, List.take_length, HN.out]
          subst hm
          clear hi
          go_wp2_with fail
          go_meet
          exact ⟨rfl, rfl, HB⟩
  case rest =>
    obtain ⟨rfl, rfl, HB⟩ := hcut
    by_cases hz : nE = 0
    · have hfin := Aside0.mk (show ({data := (putL l).toArray} : ByteArray) = s by
        rw [putL_same l (by rw [← HN.out, hz]), HL.out.1])
      subst hz
      go_wp2_with fail
      go_ret
      exact ⟨by rw [hfin.out]; rfl, HB.out⟩
    · have hd : decide (nE ≠ 0) = true := decide_eq_true hz
      obtain ⟨N, hN⟩ : ∃ N, N = s.size + nE := ⟨_, rfl⟩
      have HNN := Aside0.mk (show N = (putL l).length by rw [putL_length, hN, HL.out.2.1, HN.out])
      have HNS := Aside0.mk hN
      rw [← hN]
      have hNb : N ≤ 4294967296 := by
        have h1 : nE ≤ l.length := by rw [HN.out]; exact List.length_filter_le _ _
        have := HL.out.2; omega
      have HNB := Aside0.mk hNb
      have hmk := print_make (P := Try.prog) 51 5 .u8 1 Try.underlying51 (by kernel_rfl) (by decide) N (by omega)
      clear hN hNb
      go_upto_region 23 with fail
      have HW2 := Aside0.mk (below_alloc HB.out (.cells (madeCells #[.int .u8 0] N) 5))
      have HBK := Aside0.mk (heap_alloc_new wc (.cells (madeCells #[.int .u8 0] N) 5))
      have HBS := Aside0.mk (show W.heap.size ≤ wc.heap.size from HB.out.size)
      have HSZ := Aside0.mk (show (madeCells #[.int .u8 0] N).size = N by simp [madeCells])
      clear hmk
      generalize madeCells #[.int .u8 0] N = cur0 at *
      generalize wc.alloc (.cells cur0 5) = w2 at *
      generalize wc.heap.size = B at *
      clear HB
      go_wp2_with fail
      go_loopw [13, 14] (fun v13 v14 wr => ∃ (i j : Nat) (cur : Array Value), v14 = .int .i64 (i : Int) ∧ v13 = .int .i64 (j : Int) ∧ Aside0 (i ≤ s.size ∧ j = (putL (l.take i)).length ∧ cur.size = N ∧ cur.toList.take j = (putL (l.take i)).map (fun b => .int .u8 (b.toNat : Int)) ∧ wr.heap[B]? = some (.cells cur 5 (0, 0))) ∧ Aside0 (Below W.heap.size W wr)) (fun _ v14 _ => s.size - (intOf v14).toNat)
      case atStart => exact ⟨0, 0, cur0, rfl, rfl, Aside0.mk ⟨Nat.zero_le _, rfl, HSZ.out, rfl, HBK.out⟩, HW2⟩
      case round =>
        clear HW2 HBK HSZ
        obtain ⟨i, j, cur, rfl, rfl, HK, HB⟩ := hrel
        by_cases hi : i < s.size
        · have d1 : decide (i < s.size) = true := decide_eq_true hi
          have hil : i < l.length := by rw [HL.out.2.1]; exact hi
          obtain ⟨b, hb⟩ : ∃ b, b = l[i] := ⟨_, rfl⟩
          have hbt : ∀ h : i < s.size, (s[i]'h) = b := fun h => by rw [hb]; simp only [HL.out.1]; rfl
          have HX := Aside0.mk (show putL (l.take (i + 1)) = putL (l.take i) ++ escL b by
            rw [List.take_succ_eq_append_getElem hil, ← hb, putL_append, show putL [b] = escL b by simp [putL]])
          have HI := Aside0.mk hi
          have HJ := Aside0.mk (show j + (escL b).length ≤ N by
            have h1 : putL l = putL (l.take (i + 1)) ++ putL (l.drop (i + 1)) := by rw [← putL_append, List.take_append_drop]
            rw [HNN.out, h1, HX.out, List.length_append, List.length_append, ← HK.out.2.1]
            omega)
          have hb256 : ((b.toNat : Int) < 256) = True := eq_true (by have := b.toNat_lt; omega)
          have hw : wrap64 ((i : Int) + 1) = ((i + 1 : Nat) : Int) := by have := HL.out.2.2; unfold wrap64; omega
          replace hi := eq_true hi
          clear hb hil
          rcases rep_cell (HG.out.below HB.out) b with ⟨hE, hc, hesc⟩ | ⟨hE, k2, c2, x, y, X, fr, hc, h2c, hX, hX0, hX1, hesc⟩
          · rw [hesc] at HX HJ
            have hjN : j < N := by have := HJ.out; simp at this; omega
            have hjc : j < cur.size := by rw [HK.out.2.2.1]; exact hjN
            have hcell : wr.cell? ⟨B, j, none⟩ = some cur[j] := (blk_cell HK.out.2.2.2.2 j).trans (Array.getElem?_eq_getElem hjc)
            have hfz : wr.frozen? ⟨B, j, none⟩ = false := blk_frozen HK.out.2.2.2.2 j
            have hw1 : wrap64 ((j : Int) + 1) = ((j + 1 : Nat) : Int) := by have := HNB.out; unfold wrap64; omega
            have HS := Aside0.mk (blk_set HK.out.2.2.2.2 j (.int .u8 (b.toNat : Int)))
            have HBn := Aside0.mk (HB.out.setCell (p := ⟨B, j, none⟩) HBS.out (.int .u8 (b.toNat : Int)))
            have HT := Aside0.mk (show (cur.setIfInBounds j (.int .u8 (b.toNat : Int))).toList.take (j + 1) = (putL (l.take i) ++ [b]).map (fun b => .int .u8 (b.toNat : Int)) by
              have hjl : j < cur.toList.length := by simpa using hjc
              rw [Array.toList_setIfInBounds, List.take_succ_eq_append_getElem (by simpa using hjc), List.take_set_of_le (Nat.le_refl _), HK.out.2.2.2.1]
              simp)
            generalize cur[j] = cj at *
            have HJC := Aside0.mk (And.intro hjN hjc)
            replace hjN := eq_true hjN
            clear hesc hE hjc
            go_wp2_with fail
            go_roundw
            case rel => exact ⟨i + 1, j + 1, cur.setIfInBounds j (.int .u8 (b.toNat : Int)), by rw [hw], by rw [hw1], Aside0.mk ⟨HI.out, by rw [HX.out, List.length_append, ← HK.out.2.1]; rfl, by rw [Array.size_setIfInBounds]; exact HK.out.2.2.1, by rw [HX.out]; exact HT.out, HS.out⟩, HBn⟩
            case measure =>
              have := HI.out
              first | (rw [hw]; done) | (rw [hw]; show s.size - (i + 1) < s.size - i; omega) | (simp [intOf]; omega)
          · rw [hesc] at HX HJ
            have hj2 : j + 2 ≤ N := by have := HJ.out; simp at this; omega
            have HI1 := Aside0.mk (show ∀ c, IY W g B N j b k2 c2 x y X cur fr c wr from fun c => by
              match c with
              | 0 => exact hc
              | 1 => exact ⟨hX, hX0, hX1, HK.out.2.2.2.2, hj2, HNB.out, HK.out.2.2.1, HBS.out, HB.out⟩
              | c + 2 => exact True.intro)
            have HT := Aside0.mk (show (cur.toList.take j ++ [Value.int .u8 (x.toNat : Int), Value.int .u8 (y.toNat : Int)] ++ cur.toList.drop (j + 2)).toArray.toList.take (j + 2) = (putL (l.take i) ++ [x, y]).map (fun b => .int .u8 (b.toNat : Int)) by
              have hjl : (cur.toList.take j).length = j := by rw [List.length_take]; have : cur.toList.length = N := by simpa using HK.out.2.2.1
                                                              omega
              rw [List.toList_toArray, List.take_append_of_le_length (by rw [List.length_append, hjl]; exact Nat.le_refl _), List.take_of_length_le (by rw [List.length_append, hjl]; exact Nat.le_refl _), HK.out.2.2.2.1]
              simp)
            have HSN := Aside0.mk (show (cur.toList.take j ++ [Value.int .u8 (x.toNat : Int), Value.int .u8 (y.toNat : Int)] ++ cur.toList.drop (j + 2)).toArray.size = N by
              have : cur.toList.length = N := by simpa using HK.out.2.2.1
              rw [List.size_toArray, List.length_append, List.length_append, List.length_take, List.length_drop, this]
              show min j N + 2 + (N - (j + 2)) = N
              omega)
            clear hX hX0 hX1 hesc hE h2c hj2
            go_upto_region 28 with fail
            clear hc
            refine regionY (by kernel_rfl) W g B N j b k2 c2 x y X cur fr _ wr HI1.out rfl rfl rfl rfl rfl ?_
            intro aq w3 hA hF
            obtain ⟨e12, hh3, hb3⟩ : slotO dstY aq 12 = .int .i64 ((j + 2 : Nat) : Int) ∧ w3.heap[B]? = some (.cells (cur.toList.take j ++ [Value.int .u8 (x.toNat : Int), Value.int .u8 (y.toNat : Int)] ++ cur.toList.drop (j + 2)).toArray 5 (0, 0)) ∧ Below W.heap.size W w3 := hF
            have HH3 := Aside0.mk hh3
            have HB3 := Aside0.mk hb3
            clear hh3 hb3
            rw [hA.frame hinY]
            clear hA
            simp only [List.range_succ, List.range_zero, List.nil_append, List.cons_append, foldO, dstY, List.getD_cons_zero, List.getD_cons_succ, Act.put]
            generalize slotO dstY aq 0 = y0
            generalize slotO dstY aq 1 = y1
            generalize slotO dstY aq 2 = y2
            generalize slotO dstY aq 3 = y3
            generalize slotO dstY aq 4 = y4
            generalize slotO dstY aq 5 = y5
            generalize slotO dstY aq 6 = y6
            generalize slotO dstY aq 7 = y7
            generalize slotO dstY aq 8 = y8
            generalize slotO dstY aq 9 = y9
            generalize slotO dstY aq 10 = y10
            generalize slotO dstY aq 11 = y11
            rw [e12]
            clear e12 aq
            go_wp2_with fail
            go_roundw
            case rel => first | exact ⟨i + 1, by omega, j + 2, by omega, (cur.toList.take j ++ [Value.int .u8 (x.toNat : Int), Value.int .u8 (y.toNat : Int)] ++ cur.toList.drop (j + 2)).toArray, Aside0.mk ⟨HI.out, by rw [HX.out, List.length_append, ← HK.out.2.1]; rfl, HSN.out, by rw [HX.out]; exact HT.out, HH3.out⟩, HB3⟩ | exact ⟨i + 1, by omega, j + 2, by omega, (cur.toList.take j ++ [Value.int .u8 (x.toNat : Int), Value.int .u8 (y.toNat : Int)] ++ cur.toList.drop (j + 2)).toArray, Aside0.mk ⟨HI.out, by rw [HX.out, List.length_append, ← HK.out.2.1]; rfl, HSN.out, by rw [HX.out]; exact HT.out, HH3.out⟩⟩
            case measure =>
              have := HI.out
              first | (rw [hw]; done) | (rw [hw]; show s.size - (i + 1) < s.size - i; omega) | (simp [intOf]; omega)
        · have d1 : decide (i < s.size) = false := decide_eq_false hi
          have hi2 : l.take i = l := by rw [List.take_of_length_le]; have := HK.out.1; have := HL.out.2.1; omega
          have hjN : j = N := by rw [HK.out.2.1, hi2, HNN.out]
          have hcs := run_convert_bytes_back (P := Try.prog) wr 51 9 5 ⟨B, 0, none⟩ N (putL l) Try.underlying51 Try.underlying5 Try.underlying9 (by
            intro q hq
            have h1 := HK.out.2.2.2.1
            rw [hi2] at h1
            have h2 : cur.toList = (putL l).map (fun b => .int .u8 (b.toNat : Int)) := by
              rw [← h1, List.take_of_length_le]
              have : cur.toList.length = N := by simpa using HK.out.2.2.1
              omega
            refine (src_cell HK.out.2.2.2.2 q).trans ?_
            rw [← Array.getElem?_toList, h2, List.getElem?_map, List.getElem?_eq_getElem hq]
            rfl)
          rw [← HNN.out] at hcs
          clear hi hi2 hjN
          go_wp2_with fail
          go_ret
          exact ⟨rfl, HB.out⟩

end Go.Proofs.Ytdjdbmopckhcdaa.PV
