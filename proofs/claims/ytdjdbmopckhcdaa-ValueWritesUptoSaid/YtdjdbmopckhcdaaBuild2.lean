/- strings.Replacer.build, walked. -/
import Derived.Test.YtdjdbmopckhcdaaBuild
import Derived.Test.YtdjdbmopckhcdaaShelf
import Derived.Lib.ConvBytes
import Derived.Handy
import Derived.Lib.SliceRun
namespace Go.Proofs.Ytdjdbmopckhcdaa.PV
open Go.RowKit Go.Proofs.YtdjdbmopckhcdaaW.PrintWords Go.Proofs.YtdjdbmopckhcdaaW.PrintLast Go.Proofs.YtdjdbmopckhcdaaW.PrintMore
open Go.Proofs
set_option linter.unusedVariables false
set_option linter.unusedSimpArgs false
set_option maxHeartbeats 4000000
set_option maxRecDepth 100000

theorem app_facts {w u1 : World} {base g : Nat} {C : Array Value} {v : Value} {T : List ByteArray} {done : Nat → Option (UInt8 × UInt8)} {s : ByteArray} {A : Option Addr} {n k : Nat} (HG : BSt w base g C v T done)
    (hO3 : u1.ownsRow base 9 1 (.slice A n k) (T ++ [s]).length (encs Value.string (T ++ [s]))) (hg3 : w.grownBy u1 v.ownBlock) (O : Nat) (hO : O < 256) (hd : done O = none) (x y : UInt8) :
    u1.cell? ⟨g, 256, none⟩ = some v ∧ u1.frozen? ⟨g, 256, none⟩ = false ∧ (Lib.bytesWorld (u1.setCell ⟨g, 256, none⟩ (.slice A n k)) 5 ⟨#[x, y]⟩).cell? ⟨g, O, none⟩ = some (.slice none 0 0) ∧
    (Lib.bytesWorld (u1.setCell ⟨g, 256, none⟩ (.slice A n k)) 5 ⟨#[x, y]⟩).frozen? ⟨g, O, none⟩ = false ∧
    ∀ c, 2 ≤ c → ∃ C', BSt ((Lib.bytesWorld (u1.setCell ⟨g, 256, none⟩ (.slice A n k)) 5 ⟨#[x, y]⟩).setCell ⟨g, O, none⟩ (.slice (some ⟨u1.heap.size, 0, none⟩) 2 c)) base g C' (.slice A n k) (T ++ [s]) (fun j => if j = O then some (x, y) else done j) := by
  obtain ⟨hq1, hq2⟩ := HG.app hO3 hg3
  have hr3 := (Lib.bytesWorld_at_old (u1.setCell ⟨g, 256, none⟩ (.slice A n k)) 5 ⟨#[x, y]⟩ g (Array.getElem?_eq_some_iff.1 hq2.blk).1).trans hq2.blk
  have hsz : (u1.setCell ⟨g, 256, none⟩ (.slice A n k)).heap.size = u1.heap.size := by simp
  refine ⟨(blk_cell hq1 256).trans HG.row, blk_frozen hq1 256, ?_, blk_frozen hr3 O, fun c hc => ?_⟩
  · obtain ⟨u, hu, hr⟩ := hq2.reps O hO
    rw [hd] at hr
    exact (blk_cell hr3 O).trans (hu.trans (by rw [show u = .slice none 0 0 from hr]))
  · have h := hq2.rep O hO x y c hc
    rw [hsz] at h
    exact ⟨_, h⟩
theorem cell_lt {W : World} {g i : Nat} {u : Value} (h : W.cell? ⟨g, i, none⟩ = some u) : g < W.heap.size := by
  rcases Nat.lt_or_ge g W.heap.size with h' | h'
  · exact h'
  · rw [World.cell?] at h
    simp [Array.getElem?_eq_none h'] at h
def esc : Nat → Option (UInt8 × UInt8) := fun j => if j = 92 then some (92, 92) else if j = 44 then some (92, 44) else if j = 59 then some (92, 59) else if j = 10 then some (92, 110) else none
/-- What is laid behind the rounds 3, 2, .., k. -/
def dones (k : Nat) : Nat → Option (UInt8 × UInt8) := fun j => if k ≤ 0 ∧ j = 92 then some (92, 92) else if k ≤ 1 ∧ j = 44 then some (92, 44) else if k ≤ 2 ∧ j = 59 then some (92, 59) else if k ≤ 3 ∧ j = 10 then some (92, 110) else none
def topsAll : List ByteArray := [⟨#[10]⟩, ⟨#[59]⟩, ⟨#[44]⟩, ⟨#[92]⟩]
def tops (k : Nat) : List ByteArray := topsAll.take (4 - k)
theorem dones_step3 (j : Nat) : (if j = 10 then some ((92 : UInt8), (110 : UInt8)) else dones 4 j) = dones 3 j := by
  unfold dones
  simp
theorem dones_step2 (j : Nat) : (if j = 59 then some ((92 : UInt8), (59 : UInt8)) else dones 3 j) = dones 2 j := by
  unfold dones
  simp
theorem dones_step1 (j : Nat) : (if j = 44 then some ((92 : UInt8), (44 : UInt8)) else dones 2 j) = dones 1 j := by
  unfold dones
  simp
theorem dones_step0 (j : Nat) : (if j = 92 then some ((92 : UInt8), (92 : UInt8)) else dones 1 j) = dones 0 j := by
  unfold dones
  simp
theorem bst_first (W : World) : BSt ((W.alloc (.cells #[.string ⟨#[]⟩, .string ⟨#[]⟩, .string ⟨#[]⟩, .string ⟨#[]⟩] 9)).alloc (.cells (BS0 (.slice (some ⟨W.heap.size, 0, none⟩) 0 4)) 104)) W.heap.size (W.heap.size + 1) (BS0 (.slice (some ⟨W.heap.size, 0, none⟩) 0 4)) (.slice (some ⟨W.heap.size, 0, none⟩) 0 4) (tops 4) (dones 4) := by
  refine ⟨?_, by omega, BS0_size _, BS0_last _, ?_, fun j hj => ⟨_, BS0_old _ j hj, ?_⟩⟩
  · have := heap_alloc_new (W.alloc (.cells #[.string ⟨#[]⟩, .string ⟨#[]⟩, .string ⟨#[]⟩, .string ⟨#[]⟩] 9)) (.cells (BS0 (.slice (some ⟨W.heap.size, 0, none⟩) 0 4)) 104)
    rwa [show (W.alloc (.cells #[.string ⟨#[]⟩, .string ⟨#[]⟩, .string ⟨#[]⟩, .string ⟨#[]⟩] 9)).heap.size = W.heap.size + 1 by simp] at this
  · exact (World.ownsRow_made W #[.string ⟨#[]⟩, .string ⟨#[]⟩, .string ⟨#[]⟩, .string ⟨#[]⟩] 4 (Nat.le_refl _) (by decide) (by rfl)).alloc _
  · have h : dones 4 j = none := by simp [dones]
    rw [h]
    rfl

set_option maxHeartbeats 16000000 in
theorem build_calls (W : World) (R o cap : Nat) (hR : W.heap[R]? = some (.cells #[.int .u32 0, .int .i32 1, .int .u32 0, .nilIface, .slice (some ⟨o, 0, none⟩) 8 cap] 82 (0, 0)))
    (hs : ∀ (j : Nat) x, olds[j]? = some x → W.cell? ⟨o, j, none⟩ = some (.string x)) :
    Calls Try.prog 39 #[.pointer (some ⟨R, 0, none⟩)] W fun e w' => ∃ g C v, e = .returned (.iface 105 (.pointer (some ⟨g, 0, none⟩))) ∧ Below W.heap.size W w' ∧ BSt w' W.heap.size g C v (tops 0) (dones 0) := by
  have hr2 : W.cell? ⟨R, 4, none⟩ = some (.slice (some ⟨o, 0, none⟩) 8 cap) := blk_cell hR 4
  have HR := Aside0.mk hR
  have HS := Aside0.mk hs
  have HOL := Aside0.mk (show o < W.heap.size from cell_lt (hs 0 _ rfl))
  have o0 : W.cell? ⟨o, 0, none⟩ = some (.string ⟨#[92]⟩) := hs 0 _ rfl
  have o1 : W.cell? ⟨o, 1, none⟩ = some (.string ⟨#[92, 92]⟩) := hs 1 _ rfl
  have o2 : W.cell? ⟨o, 2, none⟩ = some (.string ⟨#[44]⟩) := hs 2 _ rfl
  have o3 : W.cell? ⟨o, 3, none⟩ = some (.string ⟨#[92, 44]⟩) := hs 3 _ rfl
  have o4 : W.cell? ⟨o, 4, none⟩ = some (.string ⟨#[59]⟩) := hs 4 _ rfl
  have o5 : W.cell? ⟨o, 5, none⟩ = some (.string ⟨#[92, 59]⟩) := hs 5 _ rfl
  have o6 : W.cell? ⟨o, 6, none⟩ = some (.string ⟨#[10]⟩) := hs 6 _ rfl
  have o7 : W.cell? ⟨o, 7, none⟩ = some (.string ⟨#[92, 110]⟩) := hs 7 _ rfl
  have hz257 := Z104_size
  have hmk := run_make29
  obtain ⟨hzv, hzs⟩ := zero_of_info info104
  have HZS := Aside0.mk hzs
  clear hzs hR hs
  have hst := run_storeCells_new (P := Try.prog) (W.alloc (.cells #[.string ⟨#[]⟩, .string ⟨#[]⟩, .string ⟨#[]⟩, .string ⟨#[]⟩] 9)) 104 Z104 (BS0 (.slice (some ⟨W.heap.size, 0, none⟩) 0 4)) (HZS.out.trans (by rw [BS0_size])) (by rw [BS0_size]; exact hz257) (by kernel_rfl)
  rw [show (BS0 (.slice (some ⟨W.heap.size, 0, none⟩) 0 4)).toList = Z104.toList.set 256 (.slice (some ⟨W.heap.size, 0, none⟩) 0 4) from rfl] at hst
  rw [show (W.alloc (.cells #[.string ⟨#[]⟩, .string ⟨#[]⟩, .string ⟨#[]⟩, .string ⟨#[]⟩] 9)).heap.size = W.heap.size + 1 by simp] at hst
  go_enter Try.func39, Try.ntmps39
  go_wp2_with fail
  refine wp_loop_rounds 5 ?_
  iterate 5 (rw [rounds_succ]; go_upto_region 26 with fail)
  go_upto_region 27 with fail
  have HB := Aside0.mk (below_alloc (below_alloc (Below.refl W.heap.size W) (.cells #[.string ⟨#[]⟩, .string ⟨#[]⟩, .string ⟨#[]⟩, .string ⟨#[]⟩] 9)) (.cells (BS0 (.slice (some ⟨W.heap.size, 0, none⟩) 0 4)) 104))
  have HG := Aside0.mk (bst_first W)
  have HGN := Aside0.mk (show W.heap.size ≤ W.heap.size + 1 by omega)
  clear hst hzv hmk hz257 HZS hr2 o0 o1 o2 o3 o4 o5 o6 o7
  generalize (W.alloc (.cells #[.string ⟨#[]⟩, .string ⟨#[]⟩, .string ⟨#[]⟩, .string ⟨#[]⟩] 9)).alloc (.cells (BS0 (.slice (some ⟨W.heap.size, 0, none⟩) 0 4)) 104) = w4 at *
  generalize BS0 (.slice (some ⟨W.heap.size, 0, none⟩) 0 4) = C4 at *
  generalize W.heap.size + 1 = g at *
  obtain ⟨v4, hv4, hvs⟩ : ∃ v4, v4 = Value.slice (some ⟨W.heap.size, 0, none⟩) 0 4 ∧ True := ⟨_, rfl, trivial⟩
  rw [← hv4] at HG
  clear hv4 hvs
  have hnil := fun (W : World) => Lib.run_eql_slice_nil (P := Try.prog) W 51 5 none 0 0 0 0 Try.underlying51
  have hconv : ∀ (w : World) (s : ByteArray), (convert 9 51 (.string s)).run Try.prog w = .ok (.slice (some ⟨w.heap.size, 0, none⟩) s.size (grownCap w s.size 0 5)) (Lib.bytesWorld w 5 s) := fun w s => Lib.run_convert_string_bytes w 9 51 5 s Try.underlying9 Try.underlying51 Try.underlying5
  go_wp2_with fail
  refine wp_loop_rounds 5 ?_
  rw [rounds_succ]
  have hb_ := HG.out.blk
  have p0 : w4.cell? ⟨o, 6, none⟩ = some (.string ⟨#[10]⟩) := (HB.out.cell (p := ⟨o, 6, none⟩) HOL.out).trans (HS.out 6 _ rfl)
  have p1 : w4.cell? ⟨o, 7, none⟩ = some (.string ⟨#[92, 110]⟩) := (HB.out.cell (p := ⟨o, 7, none⟩) HOL.out).trans (HS.out 7 _ rfl)
  have p2 : w4.cell? ⟨g, 10, none⟩ = some (.slice none 0 0) := by
    obtain ⟨u, hu, hr⟩ := HG.out.reps 10 (by decide)
    exact (blk_cell hb_ 10).trans (hu.trans (by rw [show u = .slice none 0 0 from hr]))
  have p3 : (w4.alloc (.cells #[.int .u8 10] 5)).cell? ⟨g, 256, none⟩ = some v4 := (blk_cell (HG.out.alloc (.cells #[.int .u8 10] 5)).blk 256).trans HG.out.row
  have p3b : w4.cell? ⟨g, 256, none⟩ = some v4 := (blk_cell hb_ 256).trans HG.out.row
  have hx0 : ((⟨#[10]⟩ : ByteArray)[0]'(by decide)).toNat = 10 := rfl
  have hcs := run_convert_bytes_back (P := Try.prog) (w4.alloc (.cells #[.int .u8 10] 5)) 51 9 5 ⟨w4.heap.size, 0, none⟩ 1 [10] Try.underlying51 Try.underlying5 Try.underlying9 (by
    intro j hj
    match j, hj with
    | 0, _ => exact (blk_cell (heap_alloc_new w4 _) 0).trans rfl)
  rw [show ([10] : List UInt8).length = 1 from rfl, show ([10] : List UInt8).toArray = #[10] from rfl] at hcs
  clear hb_
  go_upto_region 29 with (first
    | (at_builtin
       have HGa := Aside0.mk (HG.out.alloc (.cells #[.int .u8 10] 5))
       refine print_append_of (w0 := W) Value.string W.heap.size rfl (.tmp 119) (.tmp 123) 29 9 (.string ⟨#[]⟩) 16 rfl Try.underlying29 infoS9 rfl (by decide) v4 (tops 4) ⟨#[10]⟩ rfl (by rw [show (w4.alloc (.cells #[.int .u8 10] 5)).heap.size = w4.heap.size + 1 by simp]; rfl) rfl HGa.out.own (below_alloc HB.out _) (Nat.le_trans HB.out.size (by simp)) (by simp [tops, topsAll]) ?_
       intro v3 u3x hO3 hB3 hg3 hat3
       obtain ⟨A3, k3, rfl⟩ := Kd.R_slice (Kd.R_of_own (h1 := fun _ => rfl) (ok := fun _ => True) hO3 (fun _ _ => trivial))
       obtain ⟨r1, r2, r3, r4, r5⟩ := app_facts HGa.out hO3 hg3 10 (by decide) rfl 92 110
       have HF := Aside0.mk r5
       have HBb := Aside0.mk (bytes_below (hB3.setCell (p := ⟨g, 256, none⟩) HG.out.low (.slice A3 (tops 4 ++ [(⟨#[10]⟩ : ByteArray)]).length k3)) (hB3.setCell (p := ⟨g, 256, none⟩) HG.out.low _).size 5 ⟨#[92, 110]⟩)
       generalize (tops 4 ++ [(⟨#[10]⟩ : ByteArray)]).length = n3 at *
       clear hO3 hB3 hg3 hat3 r5 p2 p3 p3b hcs)
    | fail)
  obtain ⟨C3, HG3⟩ := HF.out (grownCap (u3x.setCell ⟨g, 256, none⟩ (.slice A3 n3 k3)) 2 0 5) (grownCap_ge _ _ _ _)
  rw [show (fun j => if j = 10 then some ((92 : UInt8), (110 : UInt8)) else dones 4 j) = dones 3 from funext (fun j => dones_step3 j)] at HG3
  have HBn := Aside0.mk (HBb.out.setCell (p := ⟨g, 10, none⟩) HG.out.low (.slice (some ⟨u3x.heap.size, 0, none⟩) 2 (grownCap (u3x.setCell ⟨g, 256, none⟩ (.slice A3 n3 k3)) 2 0 5)))
  generalize (Lib.bytesWorld (u3x.setCell ⟨g, 256, none⟩ (.slice A3 n3 k3)) 5 ⟨#[92, 110]⟩).setCell ⟨g, 10, none⟩ (.slice (some ⟨u3x.heap.size, 0, none⟩) 2 (grownCap (u3x.setCell ⟨g, 256, none⟩ (.slice A3 n3 k3)) 2 0 5)) = w3 at *
  clear HG HB HF HBb HGa r1 r2 r3 r4 p0 p1 hx0
  have HG := Aside0.mk (show BSt w3 W.heap.size g C3 (.slice A3 n3 k3) (tops 3) (dones 3) from HG3)
  have HB := HBn
  clear HG3 HBn
  generalize Value.slice A3 n3 k3 = v3 at *
  go_wp2_with fail
  rw [rounds_succ]
  have hb_ := HG.out.blk
  have p0 : w3.cell? ⟨o, 4, none⟩ = some (.string ⟨#[59]⟩) := (HB.out.cell (p := ⟨o, 4, none⟩) HOL.out).trans (HS.out 4 _ rfl)
  have p1 : w3.cell? ⟨o, 5, none⟩ = some (.string ⟨#[92, 59]⟩) := (HB.out.cell (p := ⟨o, 5, none⟩) HOL.out).trans (HS.out 5 _ rfl)
  have p2 : w3.cell? ⟨g, 59, none⟩ = some (.slice none 0 0) := by
    obtain ⟨u, hu, hr⟩ := HG.out.reps 59 (by decide)
    exact (blk_cell hb_ 59).trans (hu.trans (by rw [show u = .slice none 0 0 from hr]))
  have p3 : (w3.alloc (.cells #[.int .u8 59] 5)).cell? ⟨g, 256, none⟩ = some v3 := (blk_cell (HG.out.alloc (.cells #[.int .u8 59] 5)).blk 256).trans HG.out.row
  have p3b : w3.cell? ⟨g, 256, none⟩ = some v3 := (blk_cell hb_ 256).trans HG.out.row
  have hx0 : ((⟨#[59]⟩ : ByteArray)[0]'(by decide)).toNat = 59 := rfl
  have hcs := run_convert_bytes_back (P := Try.prog) (w3.alloc (.cells #[.int .u8 59] 5)) 51 9 5 ⟨w3.heap.size, 0, none⟩ 1 [59] Try.underlying51 Try.underlying5 Try.underlying9 (by
    intro j hj
    match j, hj with
    | 0, _ => exact (blk_cell (heap_alloc_new w3 _) 0).trans rfl)
  rw [show ([59] : List UInt8).length = 1 from rfl, show ([59] : List UInt8).toArray = #[59] from rfl] at hcs
  clear hb_
  go_upto_region 29 with (first
    | (at_builtin
       have HGa := Aside0.mk (HG.out.alloc (.cells #[.int .u8 59] 5))
       refine print_append_of (w0 := W) Value.string W.heap.size rfl (.tmp 119) (.tmp 123) 29 9 (.string ⟨#[]⟩) 16 rfl Try.underlying29 infoS9 rfl (by decide) v3 (tops 3) ⟨#[59]⟩ rfl (by rw [show (w3.alloc (.cells #[.int .u8 59] 5)).heap.size = w3.heap.size + 1 by simp]; rfl) rfl HGa.out.own (below_alloc HB.out _) (Nat.le_trans HB.out.size (by simp)) (by simp [tops, topsAll]) ?_
       intro v2 u2x hO3 hB3 hg3 hat3
       obtain ⟨A2, k2, rfl⟩ := Kd.R_slice (Kd.R_of_own (h1 := fun _ => rfl) (ok := fun _ => True) hO3 (fun _ _ => trivial))
       obtain ⟨r1, r2, r3, r4, r5⟩ := app_facts HGa.out hO3 hg3 59 (by decide) rfl 92 59
       have HF := Aside0.mk r5
       have HBb := Aside0.mk (bytes_below (hB3.setCell (p := ⟨g, 256, none⟩) HG.out.low (.slice A2 (tops 3 ++ [(⟨#[59]⟩ : ByteArray)]).length k2)) (hB3.setCell (p := ⟨g, 256, none⟩) HG.out.low _).size 5 ⟨#[92, 59]⟩)
       generalize (tops 3 ++ [(⟨#[59]⟩ : ByteArray)]).length = n2 at *
       clear hO3 hB3 hg3 hat3 r5 p2 p3 p3b hcs)
    | fail)
  obtain ⟨C2, HG2⟩ := HF.out (grownCap (u2x.setCell ⟨g, 256, none⟩ (.slice A2 n2 k2)) 2 0 5) (grownCap_ge _ _ _ _)
  rw [show (fun j => if j = 59 then some ((92 : UInt8), (59 : UInt8)) else dones 3 j) = dones 2 from funext (fun j => dones_step2 j)] at HG2
  have HBn := Aside0.mk (HBb.out.setCell (p := ⟨g, 59, none⟩) HG.out.low (.slice (some ⟨u2x.heap.size, 0, none⟩) 2 (grownCap (u2x.setCell ⟨g, 256, none⟩ (.slice A2 n2 k2)) 2 0 5)))
  generalize (Lib.bytesWorld (u2x.setCell ⟨g, 256, none⟩ (.slice A2 n2 k2)) 5 ⟨#[92, 59]⟩).setCell ⟨g, 59, none⟩ (.slice (some ⟨u2x.heap.size, 0, none⟩) 2 (grownCap (u2x.setCell ⟨g, 256, none⟩ (.slice A2 n2 k2)) 2 0 5)) = w2 at *
  clear HG HB HF HBb HGa r1 r2 r3 r4 p0 p1 hx0
  have HG := Aside0.mk (show BSt w2 W.heap.size g C2 (.slice A2 n2 k2) (tops 2) (dones 2) from HG2)
  have HB := HBn
  clear HG2 HBn
  generalize Value.slice A2 n2 k2 = v2 at *
  go_wp2_with fail
  rw [rounds_succ]
  have hb_ := HG.out.blk
  have p0 : w2.cell? ⟨o, 2, none⟩ = some (.string ⟨#[44]⟩) := (HB.out.cell (p := ⟨o, 2, none⟩) HOL.out).trans (HS.out 2 _ rfl)
  have p1 : w2.cell? ⟨o, 3, none⟩ = some (.string ⟨#[92, 44]⟩) := (HB.out.cell (p := ⟨o, 3, none⟩) HOL.out).trans (HS.out 3 _ rfl)
  have p2 : w2.cell? ⟨g, 44, none⟩ = some (.slice none 0 0) := by
    obtain ⟨u, hu, hr⟩ := HG.out.reps 44 (by decide)
    exact (blk_cell hb_ 44).trans (hu.trans (by rw [show u = .slice none 0 0 from hr]))
  have p3 : (w2.alloc (.cells #[.int .u8 44] 5)).cell? ⟨g, 256, none⟩ = some v2 := (blk_cell (HG.out.alloc (.cells #[.int .u8 44] 5)).blk 256).trans HG.out.row
  have p3b : w2.cell? ⟨g, 256, none⟩ = some v2 := (blk_cell hb_ 256).trans HG.out.row
  have hx0 : ((⟨#[44]⟩ : ByteArray)[0]'(by decide)).toNat = 44 := rfl
  have hcs := run_convert_bytes_back (P := Try.prog) (w2.alloc (.cells #[.int .u8 44] 5)) 51 9 5 ⟨w2.heap.size, 0, none⟩ 1 [44] Try.underlying51 Try.underlying5 Try.underlying9 (by
    intro j hj
    match j, hj with
    | 0, _ => exact (blk_cell (heap_alloc_new w2 _) 0).trans rfl)
  rw [show ([44] : List UInt8).length = 1 from rfl, show ([44] : List UInt8).toArray = #[44] from rfl] at hcs
  clear hb_
  go_upto_region 29 with (first
    | (at_builtin
       have HGa := Aside0.mk (HG.out.alloc (.cells #[.int .u8 44] 5))
       refine print_append_of (w0 := W) Value.string W.heap.size rfl (.tmp 119) (.tmp 123) 29 9 (.string ⟨#[]⟩) 16 rfl Try.underlying29 infoS9 rfl (by decide) v2 (tops 2) ⟨#[44]⟩ rfl (by rw [show (w2.alloc (.cells #[.int .u8 44] 5)).heap.size = w2.heap.size + 1 by simp]; rfl) rfl HGa.out.own (below_alloc HB.out _) (Nat.le_trans HB.out.size (by simp)) (by simp [tops, topsAll]) ?_
       intro v1 u1x hO3 hB3 hg3 hat3
       obtain ⟨A1, k1, rfl⟩ := Kd.R_slice (Kd.R_of_own (h1 := fun _ => rfl) (ok := fun _ => True) hO3 (fun _ _ => trivial))
       obtain ⟨r1, r2, r3, r4, r5⟩ := app_facts HGa.out hO3 hg3 44 (by decide) rfl 92 44
       have HF := Aside0.mk r5
       have HBb := Aside0.mk (bytes_below (hB3.setCell (p := ⟨g, 256, none⟩) HG.out.low (.slice A1 (tops 2 ++ [(⟨#[44]⟩ : ByteArray)]).length k1)) (hB3.setCell (p := ⟨g, 256, none⟩) HG.out.low _).size 5 ⟨#[92, 44]⟩)
       generalize (tops 2 ++ [(⟨#[44]⟩ : ByteArray)]).length = n1 at *
       clear hO3 hB3 hg3 hat3 r5 p2 p3 p3b hcs)
    | fail)
  obtain ⟨C1, HG1⟩ := HF.out (grownCap (u1x.setCell ⟨g, 256, none⟩ (.slice A1 n1 k1)) 2 0 5) (grownCap_ge _ _ _ _)
  rw [show (fun j => if j = 44 then some ((92 : UInt8), (44 : UInt8)) else dones 2 j) = dones 1 from funext (fun j => dones_step1 j)] at HG1
  have HBn := Aside0.mk (HBb.out.setCell (p := ⟨g, 44, none⟩) HG.out.low (.slice (some ⟨u1x.heap.size, 0, none⟩) 2 (grownCap (u1x.setCell ⟨g, 256, none⟩ (.slice A1 n1 k1)) 2 0 5)))
  generalize (Lib.bytesWorld (u1x.setCell ⟨g, 256, none⟩ (.slice A1 n1 k1)) 5 ⟨#[92, 44]⟩).setCell ⟨g, 44, none⟩ (.slice (some ⟨u1x.heap.size, 0, none⟩) 2 (grownCap (u1x.setCell ⟨g, 256, none⟩ (.slice A1 n1 k1)) 2 0 5)) = w1 at *
  clear HG HB HF HBb HGa r1 r2 r3 r4 p0 p1 hx0
  have HG := Aside0.mk (show BSt w1 W.heap.size g C1 (.slice A1 n1 k1) (tops 1) (dones 1) from HG1)
  have HB := HBn
  clear HG1 HBn
  generalize Value.slice A1 n1 k1 = v1 at *
  go_wp2_with fail
  rw [rounds_succ]
  have hb_ := HG.out.blk
  have p0 : w1.cell? ⟨o, 0, none⟩ = some (.string ⟨#[92]⟩) := (HB.out.cell (p := ⟨o, 0, none⟩) HOL.out).trans (HS.out 0 _ rfl)
  have p1 : w1.cell? ⟨o, 1, none⟩ = some (.string ⟨#[92, 92]⟩) := (HB.out.cell (p := ⟨o, 1, none⟩) HOL.out).trans (HS.out 1 _ rfl)
  have p2 : w1.cell? ⟨g, 92, none⟩ = some (.slice none 0 0) := by
    obtain ⟨u, hu, hr⟩ := HG.out.reps 92 (by decide)
    exact (blk_cell hb_ 92).trans (hu.trans (by rw [show u = .slice none 0 0 from hr]))
  have p3 : (w1.alloc (.cells #[.int .u8 92] 5)).cell? ⟨g, 256, none⟩ = some v1 := (blk_cell (HG.out.alloc (.cells #[.int .u8 92] 5)).blk 256).trans HG.out.row
  have p3b : w1.cell? ⟨g, 256, none⟩ = some v1 := (blk_cell hb_ 256).trans HG.out.row
  have hx0 : ((⟨#[92]⟩ : ByteArray)[0]'(by decide)).toNat = 92 := rfl
  have hcs := run_convert_bytes_back (P := Try.prog) (w1.alloc (.cells #[.int .u8 92] 5)) 51 9 5 ⟨w1.heap.size, 0, none⟩ 1 [92] Try.underlying51 Try.underlying5 Try.underlying9 (by
    intro j hj
    match j, hj with
    | 0, _ => exact (blk_cell (heap_alloc_new w1 _) 0).trans rfl)
  rw [show ([92] : List UInt8).length = 1 from rfl, show ([92] : List UInt8).toArray = #[92] from rfl] at hcs
  clear hb_
  go_upto_region 29 with (first
    | (at_builtin
       have HGa := Aside0.mk (HG.out.alloc (.cells #[.int .u8 92] 5))
       refine print_append_of (w0 := W) Value.string W.heap.size rfl (.tmp 119) (.tmp 123) 29 9 (.string ⟨#[]⟩) 16 rfl Try.underlying29 infoS9 rfl (by decide) v1 (tops 1) ⟨#[92]⟩ rfl (by rw [show (w1.alloc (.cells #[.int .u8 92] 5)).heap.size = w1.heap.size + 1 by simp]; rfl) rfl HGa.out.own (below_alloc HB.out _) (Nat.le_trans HB.out.size (by simp)) (by simp [tops, topsAll]) ?_
       intro v0 u0x hO3 hB3 hg3 hat3
       obtain ⟨A0, k0, rfl⟩ := Kd.R_slice (Kd.R_of_own (h1 := fun _ => rfl) (ok := fun _ => True) hO3 (fun _ _ => trivial))
       obtain ⟨r1, r2, r3, r4, r5⟩ := app_facts HGa.out hO3 hg3 92 (by decide) rfl 92 92
       have HF := Aside0.mk r5
       have HBb := Aside0.mk (bytes_below (hB3.setCell (p := ⟨g, 256, none⟩) HG.out.low (.slice A0 (tops 1 ++ [(⟨#[92]⟩ : ByteArray)]).length k0)) (hB3.setCell (p := ⟨g, 256, none⟩) HG.out.low _).size 5 ⟨#[92, 92]⟩)
       generalize (tops 1 ++ [(⟨#[92]⟩ : ByteArray)]).length = n0 at *
       clear hO3 hB3 hg3 hat3 r5 p2 p3 p3b hcs)
    | fail)
  obtain ⟨C0, HG0⟩ := HF.out (grownCap (u0x.setCell ⟨g, 256, none⟩ (.slice A0 n0 k0)) 2 0 5) (grownCap_ge _ _ _ _)
  rw [show (fun j => if j = 92 then some ((92 : UInt8), (92 : UInt8)) else dones 1 j) = dones 0 from funext (fun j => dones_step0 j)] at HG0
  have HBn := Aside0.mk (HBb.out.setCell (p := ⟨g, 92, none⟩) HG.out.low (.slice (some ⟨u0x.heap.size, 0, none⟩) 2 (grownCap (u0x.setCell ⟨g, 256, none⟩ (.slice A0 n0 k0)) 2 0 5)))
  generalize (Lib.bytesWorld (u0x.setCell ⟨g, 256, none⟩ (.slice A0 n0 k0)) 5 ⟨#[92, 92]⟩).setCell ⟨g, 92, none⟩ (.slice (some ⟨u0x.heap.size, 0, none⟩) 2 (grownCap (u0x.setCell ⟨g, 256, none⟩ (.slice A0 n0 k0)) 2 0 5)) = w0 at *
  clear HG HB HF HBb HGa r1 r2 r3 r4 p0 p1 hx0
  have HG := Aside0.mk (show BSt w0 W.heap.size g C0 (.slice A0 n0 k0) (tops 0) (dones 0) from HG0)
  have HB := HBn
  clear HG0 HBn
  generalize Value.slice A0 n0 k0 = v0 at *
  go_wp2_with fail
  rw [rounds_succ]
  go_wp2_with fail
  go_ret
  exact ⟨g, C0, v0, rfl, HB.out, HG.out⟩

end Go.Proofs.Ytdjdbmopckhcdaa.PV
