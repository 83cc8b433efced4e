-- Written for this claim by a program of this session (wip/tools/myprint.py) out of the translation. Not trusted: Lean checks it.
import Derived.Test.YtigjfnleinhahaaPLogx0
import Derived.Test.YtigjfnleinhahaaPLogx1
namespace Go.Proofs.Ytigjfnleinhahaa.PLog
open Go.RowKit Go.Proofs.YtigjfnleinhahaaW.PrintWords Go.Proofs.YtigjfnleinhahaaW.PrintLast Go.Proofs.YtigjfnleinhahaaW.PrintMore
attribute [local go_sem] max2_int min2_int max_two min_two max_three min_three max_four min_four   -- for this text's walks alone
set_option linter.unusedVariables false
set_option linter.unusedSimpArgs false

/-! ### calepinref15_Command: function 37 -/
def calepinref15_Command.l0 : Nat → List Int → List ByteArray → Int → Int → Int → ByteArray → ByteArray → ByteArray → ByteArray → ByteArray → ByteArray → List ByteArray → Int → Int → Int → Option (List Int)
  | 0, _, _, _, _, _, _, _, _, _, _, _, _, _, _, _ => none
  | k + 1, x3, x39, x40, x41, x150000, x150001, x150002, x150003, x150004, x150005, x150006, x150007, x150008, x150009, x150010 => if x41 < x40 then (if 0 ≤ x41 then (if x41 < (x39.length : Int) then ((calepinref15_text.f k x3 (rdOf ByteArray.empty x39 x41)).bind fun t175 => (calepinref15_Command.l0 k t175 x39 x40 (wrap64 (x41 + 1)) x150000 x150001 x150002 x150003 x150004 x150005 x150006 x150007 x150008 x150009 x150010)) else (none)) else (none)) else ((calepinref15_number.f k x3 x150008).bind fun t178 => ((calepinref15_number.f k t178 x150009).bind fun t181 => ((calepinref15_number.f k t181 x150010).bind fun t184 => (some t184))))
def calepinref15_Command.f (k : Nat) (a0_0 : Int) (a0_1 : ByteArray) (a0_2 : ByteArray) (a0_3 : ByteArray) (a0_4 : ByteArray) (a0_5 : ByteArray) (a0_6 : ByteArray) (l0_7 : List ByteArray) (a0_8 : Int) (a0_9 : Int) (a0_10 : Int) : Option (List Int) := (calepinref15_number.f k ([] : List Int) a0_0).bind fun t150 => ((calepinref15_text.f k t150 a0_1).bind fun t153 => ((calepinref15_text.f k t153 a0_2).bind fun t156 => ((calepinref15_text.f k t156 a0_3).bind fun t159 => ((calepinref15_text.f k t159 a0_4).bind fun t162 => ((calepinref15_text.f k t162 a0_5).bind fun t165 => ((calepinref15_text.f k t165 a0_6).bind fun t168 => ((calepinref15_number.f k t168 (l0_7.length : Int)).bind fun t171 => (calepinref15_Command.l0 k t171 l0_7 (l0_7.length : Int) 0 a0_0 a0_1 a0_2 a0_3 a0_4 a0_5 a0_6 l0_7 a0_8 a0_9 a0_10))))))))
theorem calepinref15_Command.mono_l : ∀ k, (∀ y0 y1 y2 y3 y4 y5 y6 y7 y8 y9 y10 y11 y12 y13 y14, LeO (calepinref15_Command.l0 k y0 y1 y2 y3 y4 y5 y6 y7 y8 y9 y10 y11 y12 y13 y14) (calepinref15_Command.l0 (k + 1) y0 y1 y2 y3 y4 y5 y6 y7 y8 y9 y10 y11 y12 y13 y14))
  | 0 => fun _ _ _ _ _ _ _ _ _ _ _ _ _ _ _ r h => by simp [calepinref15_Command.l0] at h
  | k + 1 => by
    have ih0 := calepinref15_Command.mono_l k
    · intro y0 y1 y2 y3 y4 y5 y6 y7 y8 y9 y10 y11 y12 y13 y14
      unfold calepinref15_Command.l0
      repeat' first
      | (with_reducible exact ih0 _ _ _ _ _ _ _ _ _ _ _ _ _ _ _)
      | (with_reducible exact calepinref15_number.mono _ _ _)
      | (with_reducible exact calepinref15_text.mono _ _ _)
      | (with_reducible exact LeO.refl _)
      | (with_reducible exact LeO.none _)
      | (with_reducible refine LeO.ite ?_ ?_)
      | (with_reducible refine LeO.bind ?_ (fun _ => ?_))
      | exact ih0 _ _ _ _ _ _ _ _ _ _ _ _ _ _ _
      | exact calepinref15_number.mono _ _ _
      | exact calepinref15_text.mono _ _ _
      | exact LeO.none _
      | refine LeO.ite ?_ ?_
      | refine LeO.bind ?_ (fun _ => ?_)
theorem calepinref15_Command.mono : ∀ a0 a1 a2 a3 a4 a5 a6 a7 a8 a9 a10 k, LeO (calepinref15_Command.f k a0 a1 a2 a3 a4 a5 a6 a7 a8 a9 a10) (calepinref15_Command.f (k + 1) a0 a1 a2 a3 a4 a5 a6 a7 a8 a9 a10) := by
  intro a0 a1 a2 a3 a4 a5 a6 a7 a8 a9 a10 k
  have ih0 := calepinref15_Command.mono_l k
  unfold calepinref15_Command.f
  repeat' first
      | (with_reducible exact ih0 _ _ _ _ _ _ _ _ _ _ _ _ _ _ _)
      | (with_reducible exact calepinref15_number.mono _ _ _)
      | (with_reducible exact calepinref15_text.mono _ _ _)
      | (with_reducible exact LeO.refl _)
      | (with_reducible exact LeO.none _)
      | (with_reducible refine LeO.ite ?_ ?_)
      | (with_reducible refine LeO.bind ?_ (fun _ => ?_))
      | exact ih0 _ _ _ _ _ _ _ _ _ _ _ _ _ _ _
      | exact calepinref15_number.mono _ _ _
      | exact calepinref15_text.mono _ _ _
      | exact LeO.none _
      | refine LeO.ite ?_ ?_
      | refine LeO.bind ?_ (fun _ => ?_)
set_option maxHeartbeats 8000000 in
set_option maxRecDepth 100000 in
theorem calepinref15_Command.calls (k : Nat) (a0_0 : Int) (a0_1 : ByteArray) (a0_2 : ByteArray) (a0_3 : ByteArray) (a0_4 : ByteArray) (a0_5 : ByteArray) (a0_6 : ByteArray) (A0_7 : Option Addr) (c0_7 : Nat) (l0_7 : List ByteArray) (a0_8 : Int) (a0_9 : Int) (a0_10 : Int) (r : List Int) (w : World) (hr0_7 : Kd.C Kd.string w A0_7 l0_7.length l0_7) (hc0_7 : l0_7.length ≤ c0_7) (h : calepinref15_Command.f k a0_0 a0_1 a0_2 a0_3 a0_4 a0_5 a0_6 l0_7 a0_8 a0_9 a0_10 = some r) :
    Calls Try.prog 37 #[.agg #[.int .i64 a0_0, .string a0_1, .string a0_2, .string a0_3, .string a0_4, .string a0_5, .string a0_6, .slice A0_7 l0_7.length c0_7, .int .i64 a0_8, .int .i64 a0_9, .int .i64 a0_10]] w fun e w' => ∃ v0_ : Value, e = .returned (v0_) ∧ Kd.R (Kd.int .u8) 5 w' w.heap.size (fun _ => True) v0_ r ∧ Below w.heap.size w w' := by
  have hu58 := Try.underlying58
  have HR0_7 := Aside0.mk hr0_7
  have HC0_7 := Aside0.mk hc0_7
  clear hr0_7 hc0_7
  have HB := Aside0.mk (Below.refl w.heap.size w)
  have H : ((calepinref15_number.f k ([] : List Int) a0_0).bind fun t150 => ((calepinref15_text.f k t150 a0_1).bind fun t153 => ((calepinref15_text.f k t153 a0_2).bind fun t156 => ((calepinref15_text.f k t156 a0_3).bind fun t159 => ((calepinref15_text.f k t159 a0_4).bind fun t162 => ((calepinref15_text.f k t162 a0_5).bind fun t165 => ((calepinref15_text.f k t165 a0_6).bind fun t168 => ((calepinref15_number.f k t168 (l0_7.length : Int)).bind fun t171 => (calepinref15_Command.l0 k t171 l0_7 (l0_7.length : Int) 0 a0_0 a0_1 a0_2 a0_3 a0_4 a0_5 a0_6 l0_7 a0_8 a0_9 a0_10))))))))) = some r := h
  clear h
  replace H := Option.bind_eq_some_iff.mp H
  obtain ⟨t150, A20, H⟩ := H
  replace H : ((calepinref15_text.f k t150 a0_1).bind fun t153 => ((calepinref15_text.f k t153 a0_2).bind fun t156 => ((calepinref15_text.f k t156 a0_3).bind fun t159 => ((calepinref15_text.f k t159 a0_4).bind fun t162 => ((calepinref15_text.f k t162 a0_5).bind fun t165 => ((calepinref15_text.f k t165 a0_6).bind fun t168 => ((calepinref15_number.f k t168 (l0_7.length : Int)).bind fun t171 => (calepinref15_Command.l0 k t171 l0_7 (l0_7.length : Int) 0 a0_0 a0_1 a0_2 a0_3 a0_4 a0_5 a0_6 l0_7 a0_8 a0_9 a0_10)))))))) = some r := H
  have A2 := Aside0.mk A20
  clear A20
  replace H := Option.bind_eq_some_iff.mp H
  obtain ⟨t153, A30, H⟩ := H
  replace H : ((calepinref15_text.f k t153 a0_2).bind fun t156 => ((calepinref15_text.f k t156 a0_3).bind fun t159 => ((calepinref15_text.f k t159 a0_4).bind fun t162 => ((calepinref15_text.f k t162 a0_5).bind fun t165 => ((calepinref15_text.f k t165 a0_6).bind fun t168 => ((calepinref15_number.f k t168 (l0_7.length : Int)).bind fun t171 => (calepinref15_Command.l0 k t171 l0_7 (l0_7.length : Int) 0 a0_0 a0_1 a0_2 a0_3 a0_4 a0_5 a0_6 l0_7 a0_8 a0_9 a0_10))))))) = some r := H
  have A3 := Aside0.mk A30
  clear A30
  replace H := Option.bind_eq_some_iff.mp H
  obtain ⟨t156, A40, H⟩ := H
  replace H : ((calepinref15_text.f k t156 a0_3).bind fun t159 => ((calepinref15_text.f k t159 a0_4).bind fun t162 => ((calepinref15_text.f k t162 a0_5).bind fun t165 => ((calepinref15_text.f k t165 a0_6).bind fun t168 => ((calepinref15_number.f k t168 (l0_7.length : Int)).bind fun t171 => (calepinref15_Command.l0 k t171 l0_7 (l0_7.length : Int) 0 a0_0 a0_1 a0_2 a0_3 a0_4 a0_5 a0_6 l0_7 a0_8 a0_9 a0_10)))))) = some r := H
  have A4 := Aside0.mk A40
  clear A40
  replace H := Option.bind_eq_some_iff.mp H
  obtain ⟨t159, A50, H⟩ := H
  replace H : ((calepinref15_text.f k t159 a0_4).bind fun t162 => ((calepinref15_text.f k t162 a0_5).bind fun t165 => ((calepinref15_text.f k t165 a0_6).bind fun t168 => ((calepinref15_number.f k t168 (l0_7.length : Int)).bind fun t171 => (calepinref15_Command.l0 k t171 l0_7 (l0_7.length : Int) 0 a0_0 a0_1 a0_2 a0_3 a0_4 a0_5 a0_6 l0_7 a0_8 a0_9 a0_10))))) = some r := H
  have A5 := Aside0.mk A50
  clear A50
  replace H := Option.bind_eq_some_iff.mp H
  obtain ⟨t162, A60, H⟩ := H
  replace H : ((calepinref15_text.f k t162 a0_5).bind fun t165 => ((calepinref15_text.f k t165 a0_6).bind fun t168 => ((calepinref15_number.f k t168 (l0_7.length : Int)).bind fun t171 => (calepinref15_Command.l0 k t171 l0_7 (l0_7.length : Int) 0 a0_0 a0_1 a0_2 a0_3 a0_4 a0_5 a0_6 l0_7 a0_8 a0_9 a0_10)))) = some r := H
  have A6 := Aside0.mk A60
  clear A60
  replace H := Option.bind_eq_some_iff.mp H
  obtain ⟨t165, A70, H⟩ := H
  replace H : ((calepinref15_text.f k t165 a0_6).bind fun t168 => ((calepinref15_number.f k t168 (l0_7.length : Int)).bind fun t171 => (calepinref15_Command.l0 k t171 l0_7 (l0_7.length : Int) 0 a0_0 a0_1 a0_2 a0_3 a0_4 a0_5 a0_6 l0_7 a0_8 a0_9 a0_10))) = some r := H
  have A7 := Aside0.mk A70
  clear A70
  replace H := Option.bind_eq_some_iff.mp H
  obtain ⟨t168, A80, H⟩ := H
  replace H : ((calepinref15_number.f k t168 (l0_7.length : Int)).bind fun t171 => (calepinref15_Command.l0 k t171 l0_7 (l0_7.length : Int) 0 a0_0 a0_1 a0_2 a0_3 a0_4 a0_5 a0_6 l0_7 a0_8 a0_9 a0_10)) = some r := H
  have A8 := Aside0.mk A80
  clear A80
  replace H := Option.bind_eq_some_iff.mp H
  obtain ⟨t171, A90, H⟩ := H
  replace H : (calepinref15_Command.l0 k t171 l0_7 (l0_7.length : Int) 0 a0_0 a0_1 a0_2 a0_3 a0_4 a0_5 a0_6 l0_7 a0_8 a0_9 a0_10) = some r := H
  have A9 := Aside0.mk A90
  clear A90
  have H' := Aside0.mk H
  clear H
  go_enter Try.func37, Try.ntmps37
  go_wp2_with (first | ((with_reducible refine gate_dst (N := 1) rfl ?_); refine box_event ?hg (N := 1) ?hd (cs := #[.int .i64 a0_0, .string a0_1, .string a0_2, .string a0_3, .string a0_4, .string a0_5, .string a0_6, .slice A0_7 l0_7.length c0_7, .int .i64 a0_8, .int .i64 a0_9, .int .i64 a0_10]) (t := 58) ?hr ?_; (case hd => rfl); (case hg => rfl); (case hr => first | (go_simp; done) | (go_simp; rfl)); intro gb149 hg w10 hbox hb; have n0_ := Aside0.mk (below_step (by repeat (first | (with_reducible first | exact HB.out | apply below_alloc | apply pw_below_drewN | apply below_drew1) | exact HB.out)) hb); have n1_ := Aside0.mk (hbox); have n2_ := Aside0.mk ((by rw [hg]; exact (below_size (by repeat (first | (with_reducible first | exact HB.out | apply below_alloc | apply pw_below_drewN | apply below_drew1) | exact HB.out))) : w.heap.size ≤ gb149)); have n3_ := Aside0.mk ((by rw [hg]; exact (below_size (by repeat (first | (with_reducible first | exact HB.out | apply below_alloc | apply pw_below_drewN | apply below_drew1) | exact HB.out))) : w.heap.size ≤ gb149)); clear HB; have HB := n0_; have BK149 := n1_; have GW149 := n2_; have GE149 := n3_; clear n0_ n1_ n2_ n3_; clear hb hbox hg; have hcz11_0 : w10.cell? ⟨gb149, 0, none⟩ = some (.int .i64 a0_0) := (blk_cell BK149.out 0).trans rfl; have hcz11_1 : w10.cell? ⟨gb149, 1, none⟩ = some (.string a0_1) := (blk_cell BK149.out 1).trans rfl; have hcz11_2 : w10.cell? ⟨gb149, 2, none⟩ = some (.string a0_2) := (blk_cell BK149.out 2).trans rfl; have hcz11_3 : w10.cell? ⟨gb149, 3, none⟩ = some (.string a0_3) := (blk_cell BK149.out 3).trans rfl; have hcz11_4 : w10.cell? ⟨gb149, 4, none⟩ = some (.string a0_4) := (blk_cell BK149.out 4).trans rfl; have hcz11_5 : w10.cell? ⟨gb149, 5, none⟩ = some (.string a0_5) := (blk_cell BK149.out 5).trans rfl; have hcz11_6 : w10.cell? ⟨gb149, 6, none⟩ = some (.string a0_6) := (blk_cell BK149.out 6).trans rfl; have hcz11_7 : w10.cell? ⟨gb149, 7, none⟩ = some (.slice A0_7 l0_7.length c0_7) := (blk_cell BK149.out 7).trans rfl; have hcz11_8 : w10.cell? ⟨gb149, 8, none⟩ = some (.int .i64 a0_8) := (blk_cell BK149.out 8).trans rfl; have hcz11_9 : w10.cell? ⟨gb149, 9, none⟩ = some (.int .i64 a0_9) := (blk_cell BK149.out 9).trans rfl; have hcz11_10 : w10.cell? ⟨gb149, 10, none⟩ = some (.int .i64 a0_10) := (blk_cell BK149.out 10).trans rfl; have hfz11_0 := blk_frozen BK149.out 0; have hfz11_1 := blk_frozen BK149.out 1; have hfz11_2 := blk_frozen BK149.out 2; have hfz11_3 := blk_frozen BK149.out 3; have hfz11_4 := blk_frozen BK149.out 4; have hfz11_5 := blk_frozen BK149.out 5; have hfz11_6 := blk_frozen BK149.out 6; have hfz11_7 := blk_frozen BK149.out 7; have hfz11_8 := blk_frozen BK149.out 8; have hfz11_9 := blk_frozen BK149.out 9; have hfz11_10 := blk_frozen BK149.out 10) | ((with_reducible refine gate_callee (f := 40) rfl ?_); refine goesL_ (some 8) rfl rfl Try.func40 (by kernel_rfl) rfl #[.slice none 0 0, .int .i64 a0_0] rfl (by (try simp only [List.map_toArray, List.map_cons, List.map_nil]); first | done | rfl | (simp only [List.length_drop, List.length_take]; rfl)) ?_; (refine (calepinref15_number.calls k (fun k_ => some k_ = (.slice none 0 0 : Value).ownBlock) (.slice none 0 0) ([] : List Int) a0_0 t150 w _ ?side1 ?side2 A2.out).mono ?_); (case side1 => repeat (first | (with_reducible first | exact HB.out | apply below_alloc | apply pw_below_drewN | apply below_drew1 | refine below_set ?_ GE149.out) | exact HB.out)); (case side2 => exact Kd.R_nil _ _ _ _ _); rintro e w12 ⟨v151, rfl, ho0, hb, hkp⟩; refine ⟨_, rfl, ?_⟩; have n0_ := Aside0.mk (blk_kept (by (with_reducible repeat (first | refine blk_drewN ?_ _ | refine blk_drew ?_ | refine blk_alloc ?_ _)); exact BK149.out) hkp (fun hs_ => (fun e_ => by simp [Value.ownBlock] at e_) hs_)); have n1_ := Aside0.mk (Kd.R_mono (ok' := fun k_ => True) ho0 (fun k_ hk_ => trivial)); have n2_ := Aside0.mk (hb); clear BK149; clear HB; have BK149 := n0_; have HO152 := n1_; have HB := n2_; clear n0_ n1_ n2_; (try clear hb); (try clear hkp); (try clear ho0); have hcz13_0 : w12.cell? ⟨gb149, 0, none⟩ = some (.int .i64 a0_0) := (blk_cell BK149.out 0).trans rfl; have hcz13_1 : w12.cell? ⟨gb149, 1, none⟩ = some (.string a0_1) := (blk_cell BK149.out 1).trans rfl; have hcz13_2 : w12.cell? ⟨gb149, 2, none⟩ = some (.string a0_2) := (blk_cell BK149.out 2).trans rfl; have hcz13_3 : w12.cell? ⟨gb149, 3, none⟩ = some (.string a0_3) := (blk_cell BK149.out 3).trans rfl; have hcz13_4 : w12.cell? ⟨gb149, 4, none⟩ = some (.string a0_4) := (blk_cell BK149.out 4).trans rfl; have hcz13_5 : w12.cell? ⟨gb149, 5, none⟩ = some (.string a0_5) := (blk_cell BK149.out 5).trans rfl; have hcz13_6 : w12.cell? ⟨gb149, 6, none⟩ = some (.string a0_6) := (blk_cell BK149.out 6).trans rfl; have hcz13_7 : w12.cell? ⟨gb149, 7, none⟩ = some (.slice A0_7 l0_7.length c0_7) := (blk_cell BK149.out 7).trans rfl; have hcz13_8 : w12.cell? ⟨gb149, 8, none⟩ = some (.int .i64 a0_8) := (blk_cell BK149.out 8).trans rfl; have hcz13_9 : w12.cell? ⟨gb149, 9, none⟩ = some (.int .i64 a0_9) := (blk_cell BK149.out 9).trans rfl; have hcz13_10 : w12.cell? ⟨gb149, 10, none⟩ = some (.int .i64 a0_10) := (blk_cell BK149.out 10).trans rfl; have hfz13_0 := blk_frozen BK149.out 0; have hfz13_1 := blk_frozen BK149.out 1; have hfz13_2 := blk_frozen BK149.out 2; have hfz13_3 := blk_frozen BK149.out 3; have hfz13_4 := blk_frozen BK149.out 4; have hfz13_5 := blk_frozen BK149.out 5; have hfz13_6 := blk_frozen BK149.out 6; have hfz13_7 := blk_frozen BK149.out 7; have hfz13_8 := blk_frozen BK149.out 8; have hfz13_9 := blk_frozen BK149.out 9; have hfz13_10 := blk_frozen BK149.out 10; obtain ⟨Ao14, co14, eo14⟩ := Kd.R_slice HO152.out; subst eo14) | ((with_reducible refine gate_callee (f := 41) rfl ?_); refine goesL_ (some 12) rfl rfl Try.func41 (by kernel_rfl) rfl #[.slice Ao14 t150.length co14, .string a0_1] rfl (by (try simp only [List.map_toArray, List.map_cons, List.map_nil]); first | done | rfl | (simp only [List.length_drop, List.length_take]; rfl)) ?_; (with_reducible refine (calepinref15_text.calls k (fun k_ => some k_ = (.slice Ao14 t150.length co14 : Value).ownBlock) (.slice Ao14 t150.length co14) t150 a0_1 t153 w _ ?side1 ?side2 A3.out).mono ?_); (case side1 => repeat (first | (with_reducible first | exact HB.out | apply below_alloc | apply pw_below_drewN | apply below_drew1 | refine below_set ?_ GE149.out) | exact HB.out)); (case side2 => exact Kd.R_tight rfl HO152.out); rintro e w15 ⟨v154, rfl, ho0, hb, hkp⟩; refine ⟨_, rfl, ?_⟩; have n0_ := Aside0.mk (blk_kept (by (with_reducible repeat (first | refine blk_drewN ?_ _ | refine blk_drew ?_ | refine blk_alloc ?_ _)); exact BK149.out) hkp (fun hs_ => (fun e_ => (Kd.R_ne HO152.out BK149.out (by decide)) e_) hs_)); have n1_ := Aside0.mk (Kd.R_mono (ok' := fun k_ => True) ho0 (fun k_ hk_ => trivial)); have n2_ := Aside0.mk (hb); clear BK149; clear HB; clear HO152; have BK149 := n0_; have HO155 := n1_; have HB := n2_; clear n0_ n1_ n2_; (try clear hb); (try clear hkp); (try clear ho0); have hcz16_0 : w15.cell? ⟨gb149, 0, none⟩ = some (.int .i64 a0_0) := (blk_cell BK149.out 0).trans rfl; have hcz16_1 : w15.cell? ⟨gb149, 1, none⟩ = some (.string a0_1) := (blk_cell BK149.out 1).trans rfl; have hcz16_2 : w15.cell? ⟨gb149, 2, none⟩ = some (.string a0_2) := (blk_cell BK149.out 2).trans rfl; have hcz16_3 : w15.cell? ⟨gb149, 3, none⟩ = some (.string a0_3) := (blk_cell BK149.out 3).trans rfl; have hcz16_4 : w15.cell? ⟨gb149, 4, none⟩ = some (.string a0_4) := (blk_cell BK149.out 4).trans rfl; have hcz16_5 : w15.cell? ⟨gb149, 5, none⟩ = some (.string a0_5) := (blk_cell BK149.out 5).trans rfl; have hcz16_6 : w15.cell? ⟨gb149, 6, none⟩ = some (.string a0_6) := (blk_cell BK149.out 6).trans rfl; have hcz16_7 : w15.cell? ⟨gb149, 7, none⟩ = some (.slice A0_7 l0_7.length c0_7) := (blk_cell BK149.out 7).trans rfl; have hcz16_8 : w15.cell? ⟨gb149, 8, none⟩ = some (.int .i64 a0_8) := (blk_cell BK149.out 8).trans rfl; have hcz16_9 : w15.cell? ⟨gb149, 9, none⟩ = some (.int .i64 a0_9) := (blk_cell BK149.out 9).trans rfl; have hcz16_10 : w15.cell? ⟨gb149, 10, none⟩ = some (.int .i64 a0_10) := (blk_cell BK149.out 10).trans rfl; have hfz16_0 := blk_frozen BK149.out 0; have hfz16_1 := blk_frozen BK149.out 1; have hfz16_2 := blk_frozen BK149.out 2; have hfz16_3 := blk_frozen BK149.out 3; have hfz16_4 := blk_frozen BK149.out 4; have hfz16_5 := blk_frozen BK149.out 5; have hfz16_6 := blk_frozen BK149.out 6; have hfz16_7 := blk_frozen BK149.out 7; have hfz16_8 := blk_frozen BK149.out 8; have hfz16_9 := blk_frozen BK149.out 9; have hfz16_10 := blk_frozen BK149.out 10; obtain ⟨Ao17, co17, eo17⟩ := Kd.R_slice HO155.out; subst eo17) | ((with_reducible refine gate_callee (f := 41) rfl ?_); refine goesL_ (some 16) rfl rfl Try.func41 (by kernel_rfl) rfl #[.slice Ao17 t153.length co17, .string a0_2] rfl (by (try simp only [List.map_toArray, List.map_cons, List.map_nil]); first | done | rfl | (simp only [List.length_drop, List.length_take]; rfl)) ?_; (with_reducible refine (calepinref15_text.calls k (fun k_ => some k_ = (.slice Ao17 t153.length co17 : Value).ownBlock) (.slice Ao17 t153.length co17) t153 a0_2 t156 w _ ?side1 ?side2 A4.out).mono ?_); (case side1 => repeat (first | (with_reducible first | exact HB.out | apply below_alloc | apply pw_below_drewN | apply below_drew1 | refine below_set ?_ GE149.out) | exact HB.out)); (case side2 => exact Kd.R_tight rfl HO155.out); rintro e w18 ⟨v157, rfl, ho0, hb, hkp⟩; refine ⟨_, rfl, ?_⟩; have n0_ := Aside0.mk (blk_kept (by (with_reducible repeat (first | refine blk_drewN ?_ _ | refine blk_drew ?_ | refine blk_alloc ?_ _)); exact BK149.out) hkp (fun hs_ => (fun e_ => (Kd.R_ne HO155.out BK149.out (by decide)) e_) hs_)); have n1_ := Aside0.mk (Kd.R_mono (ok' := fun k_ => True) ho0 (fun k_ hk_ => trivial)); have n2_ := Aside0.mk (hb); clear BK149; clear HB; clear HO155; have BK149 := n0_; have HO158 := n1_; have HB := n2_; clear n0_ n1_ n2_; (try clear hb); (try clear hkp); (try clear ho0); have hcz19_0 : w18.cell? ⟨gb149, 0, none⟩ = some (.int .i64 a0_0) := (blk_cell BK149.out 0).trans rfl; have hcz19_1 : w18.cell? ⟨gb149, 1, none⟩ = some (.string a0_1) := (blk_cell BK149.out 1).trans rfl; have hcz19_2 : w18.cell? ⟨gb149, 2, none⟩ = some (.string a0_2) := (blk_cell BK149.out 2).trans rfl; have hcz19_3 : w18.cell? ⟨gb149, 3, none⟩ = some (.string a0_3) := (blk_cell BK149.out 3).trans rfl; have hcz19_4 : w18.cell? ⟨gb149, 4, none⟩ = some (.string a0_4) := (blk_cell BK149.out 4).trans rfl; have hcz19_5 : w18.cell? ⟨gb149, 5, none⟩ = some (.string a0_5) := (blk_cell BK149.out 5).trans rfl; have hcz19_6 : w18.cell? ⟨gb149, 6, none⟩ = some (.string a0_6) := (blk_cell BK149.out 6).trans rfl; have hcz19_7 : w18.cell? ⟨gb149, 7, none⟩ = some (.slice A0_7 l0_7.length c0_7) := (blk_cell BK149.out 7).trans rfl; have hcz19_8 : w18.cell? ⟨gb149, 8, none⟩ = some (.int .i64 a0_8) := (blk_cell BK149.out 8).trans rfl; have hcz19_9 : w18.cell? ⟨gb149, 9, none⟩ = some (.int .i64 a0_9) := (blk_cell BK149.out 9).trans rfl; have hcz19_10 : w18.cell? ⟨gb149, 10, none⟩ = some (.int .i64 a0_10) := (blk_cell BK149.out 10).trans rfl; have hfz19_0 := blk_frozen BK149.out 0; have hfz19_1 := blk_frozen BK149.out 1; have hfz19_2 := blk_frozen BK149.out 2; have hfz19_3 := blk_frozen BK149.out 3; have hfz19_4 := blk_frozen BK149.out 4; have hfz19_5 := blk_frozen BK149.out 5; have hfz19_6 := blk_frozen BK149.out 6; have hfz19_7 := blk_frozen BK149.out 7; have hfz19_8 := blk_frozen BK149.out 8; have hfz19_9 := blk_frozen BK149.out 9; have hfz19_10 := blk_frozen BK149.out 10; obtain ⟨Ao20, co20, eo20⟩ := Kd.R_slice HO158.out; subst eo20) | ((with_reducible refine gate_callee (f := 41) rfl ?_); refine goesL_ (some 20) rfl rfl Try.func41 (by kernel_rfl) rfl #[.slice Ao20 t156.length co20, .string a0_3] rfl (by (try simp only [List.map_toArray, List.map_cons, List.map_nil]); first | done | rfl | (simp only [List.length_drop, List.length_take]; rfl)) ?_; (with_reducible refine (calepinref15_text.calls k (fun k_ => some k_ = (.slice Ao20 t156.length co20 : Value).ownBlock) (.slice Ao20 t156.length co20) t156 a0_3 t159 w _ ?side1 ?side2 A5.out).mono ?_); (case side1 => repeat (first | (with_reducible first | exact HB.out | apply below_alloc | apply pw_below_drewN | apply below_drew1 | refine below_set ?_ GE149.out) | exact HB.out)); (case side2 => exact Kd.R_tight rfl HO158.out); rintro e w21 ⟨v160, rfl, ho0, hb, hkp⟩; refine ⟨_, rfl, ?_⟩; have n0_ := Aside0.mk (blk_kept (by (with_reducible repeat (first | refine blk_drewN ?_ _ | refine blk_drew ?_ | refine blk_alloc ?_ _)); exact BK149.out) hkp (fun hs_ => (fun e_ => (Kd.R_ne HO158.out BK149.out (by decide)) e_) hs_)); have n1_ := Aside0.mk (Kd.R_mono (ok' := fun k_ => True) ho0 (fun k_ hk_ => trivial)); have n2_ := Aside0.mk (hb); clear BK149; clear HB; clear HO158; have BK149 := n0_; have HO161 := n1_; have HB := n2_; clear n0_ n1_ n2_; (try clear hb); (try clear hkp); (try clear ho0); have hcz22_0 : w21.cell? ⟨gb149, 0, none⟩ = some (.int .i64 a0_0) := (blk_cell BK149.out 0).trans rfl; have hcz22_1 : w21.cell? ⟨gb149, 1, none⟩ = some (.string a0_1) := (blk_cell BK149.out 1).trans rfl; have hcz22_2 : w21.cell? ⟨gb149, 2, none⟩ = some (.string a0_2) := (blk_cell BK149.out 2).trans rfl; have hcz22_3 : w21.cell? ⟨gb149, 3, none⟩ = some (.string a0_3) := (blk_cell BK149.out 3).trans rfl; have hcz22_4 : w21.cell? ⟨gb149, 4, none⟩ = some (.string a0_4) := (blk_cell BK149.out 4).trans rfl; have hcz22_5 : w21.cell? ⟨gb149, 5, none⟩ = some (.string a0_5) := (blk_cell BK149.out 5).trans rfl; have hcz22_6 : w21.cell? ⟨gb149, 6, none⟩ = some (.string a0_6) := (blk_cell BK149.out 6).trans rfl; have hcz22_7 : w21.cell? ⟨gb149, 7, none⟩ = some (.slice A0_7 l0_7.length c0_7) := (blk_cell BK149.out 7).trans rfl; have hcz22_8 : w21.cell? ⟨gb149, 8, none⟩ = some (.int .i64 a0_8) := (blk_cell BK149.out 8).trans rfl; have hcz22_9 : w21.cell? ⟨gb149, 9, none⟩ = some (.int .i64 a0_9) := (blk_cell BK149.out 9).trans rfl; have hcz22_10 : w21.cell? ⟨gb149, 10, none⟩ = some (.int .i64 a0_10) := (blk_cell BK149.out 10).trans rfl; have hfz22_0 := blk_frozen BK149.out 0; have hfz22_1 := blk_frozen BK149.out 1; have hfz22_2 := blk_frozen BK149.out 2; have hfz22_3 := blk_frozen BK149.out 3; have hfz22_4 := blk_frozen BK149.out 4; have hfz22_5 := blk_frozen BK149.out 5; have hfz22_6 := blk_frozen BK149.out 6; have hfz22_7 := blk_frozen BK149.out 7; have hfz22_8 := blk_frozen BK149.out 8; have hfz22_9 := blk_frozen BK149.out 9; have hfz22_10 := blk_frozen BK149.out 10; obtain ⟨Ao23, co23, eo23⟩ := Kd.R_slice HO161.out; subst eo23) | ((with_reducible refine gate_callee (f := 41) rfl ?_); refine goesL_ (some 24) rfl rfl Try.func41 (by kernel_rfl) rfl #[.slice Ao23 t159.length co23, .string a0_4] rfl (by (try simp only [List.map_toArray, List.map_cons, List.map_nil]); first | done | rfl | (simp only [List.length_drop, List.length_take]; rfl)) ?_; (with_reducible refine (calepinref15_text.calls k (fun k_ => some k_ = (.slice Ao23 t159.length co23 : Value).ownBlock) (.slice Ao23 t159.length co23) t159 a0_4 t162 w _ ?side1 ?side2 A6.out).mono ?_); (case side1 => repeat (first | (with_reducible first | exact HB.out | apply below_alloc | apply pw_below_drewN | apply below_drew1 | refine below_set ?_ GE149.out) | exact HB.out)); (case side2 => exact Kd.R_tight rfl HO161.out); rintro e w24 ⟨v163, rfl, ho0, hb, hkp⟩; refine ⟨_, rfl, ?_⟩; have n0_ := Aside0.mk (blk_kept (by (with_reducible repeat (first | refine blk_drewN ?_ _ | refine blk_drew ?_ | refine blk_alloc ?_ _)); exact BK149.out) hkp (fun hs_ => (fun e_ => (Kd.R_ne HO161.out BK149.out (by decide)) e_) hs_)); have n1_ := Aside0.mk (Kd.R_mono (ok' := fun k_ => True) ho0 (fun k_ hk_ => trivial)); have n2_ := Aside0.mk (hb); clear BK149; clear HB; clear HO161; have BK149 := n0_; have HO164 := n1_; have HB := n2_; clear n0_ n1_ n2_; (try clear hb); (try clear hkp); (try clear ho0); have hcz25_0 : w24.cell? ⟨gb149, 0, none⟩ = some (.int .i64 a0_0) := (blk_cell BK149.out 0).trans rfl; have hcz25_1 : w24.cell? ⟨gb149, 1, none⟩ = some (.string a0_1) := (blk_cell BK149.out 1).trans rfl; have hcz25_2 : w24.cell? ⟨gb149, 2, none⟩ = some (.string a0_2) := (blk_cell BK149.out 2).trans rfl; have hcz25_3 : w24.cell? ⟨gb149, 3, none⟩ = some (.string a0_3) := (blk_cell BK149.out 3).trans rfl; have hcz25_4 : w24.cell? ⟨gb149, 4, none⟩ = some (.string a0_4) := (blk_cell BK149.out 4).trans rfl; have hcz25_5 : w24.cell? ⟨gb149, 5, none⟩ = some (.string a0_5) := (blk_cell BK149.out 5).trans rfl; have hcz25_6 : w24.cell? ⟨gb149, 6, none⟩ = some (.string a0_6) := (blk_cell BK149.out 6).trans rfl; have hcz25_7 : w24.cell? ⟨gb149, 7, none⟩ = some (.slice A0_7 l0_7.length c0_7) := (blk_cell BK149.out 7).trans rfl; have hcz25_8 : w24.cell? ⟨gb149, 8, none⟩ = some (.int .i64 a0_8) := (blk_cell BK149.out 8).trans rfl; have hcz25_9 : w24.cell? ⟨gb149, 9, none⟩ = some (.int .i64 a0_9) := (blk_cell BK149.out 9).trans rfl; have hcz25_10 : w24.cell? ⟨gb149, 10, none⟩ = some (.int .i64 a0_10) := (blk_cell BK149.out 10).trans rfl; have hfz25_0 := blk_frozen BK149.out 0; have hfz25_1 := blk_frozen BK149.out 1; have hfz25_2 := blk_frozen BK149.out 2; have hfz25_3 := blk_frozen BK149.out 3; have hfz25_4 := blk_frozen BK149.out 4; have hfz25_5 := blk_frozen BK149.out 5; have hfz25_6 := blk_frozen BK149.out 6; have hfz25_7 := blk_frozen BK149.out 7; have hfz25_8 := blk_frozen BK149.out 8; have hfz25_9 := blk_frozen BK149.out 9; have hfz25_10 := blk_frozen BK149.out 10; obtain ⟨Ao26, co26, eo26⟩ := Kd.R_slice HO164.out; subst eo26) | ((with_reducible refine gate_callee (f := 41) rfl ?_); refine goesL_ (some 28) rfl rfl Try.func41 (by kernel_rfl) rfl #[.slice Ao26 t162.length co26, .string a0_5] rfl (by (try simp only [List.map_toArray, List.map_cons, List.map_nil]); first | done | rfl | (simp only [List.length_drop, List.length_take]; rfl)) ?_; (with_reducible refine (calepinref15_text.calls k (fun k_ => some k_ = (.slice Ao26 t162.length co26 : Value).ownBlock) (.slice Ao26 t162.length co26) t162 a0_5 t165 w _ ?side1 ?side2 A7.out).mono ?_); (case side1 => repeat (first | (with_reducible first | exact HB.out | apply below_alloc | apply pw_below_drewN | apply below_drew1 | refine below_set ?_ GE149.out) | exact HB.out)); (case side2 => exact Kd.R_tight rfl HO164.out); rintro e w27 ⟨v166, rfl, ho0, hb, hkp⟩; refine ⟨_, rfl, ?_⟩; have n0_ := Aside0.mk (blk_kept (by (with_reducible repeat (first | refine blk_drewN ?_ _ | refine blk_drew ?_ | refine blk_alloc ?_ _)); exact BK149.out) hkp (fun hs_ => (fun e_ => (Kd.R_ne HO164.out BK149.out (by decide)) e_) hs_)); have n1_ := Aside0.mk (Kd.R_mono (ok' := fun k_ => True) ho0 (fun k_ hk_ => trivial)); have n2_ := Aside0.mk (hb); clear BK149; clear HB; clear HO164; have BK149 := n0_; have HO167 := n1_; have HB := n2_; clear n0_ n1_ n2_; (try clear hb); (try clear hkp); (try clear ho0); have hcz28_0 : w27.cell? ⟨gb149, 0, none⟩ = some (.int .i64 a0_0) := (blk_cell BK149.out 0).trans rfl; have hcz28_1 : w27.cell? ⟨gb149, 1, none⟩ = some (.string a0_1) := (blk_cell BK149.out 1).trans rfl; have hcz28_2 : w27.cell? ⟨gb149, 2, none⟩ = some (.string a0_2) := (blk_cell BK149.out 2).trans rfl; have hcz28_3 : w27.cell? ⟨gb149, 3, none⟩ = some (.string a0_3) := (blk_cell BK149.out 3).trans rfl; have hcz28_4 : w27.cell? ⟨gb149, 4, none⟩ = some (.string a0_4) := (blk_cell BK149.out 4).trans rfl; have hcz28_5 : w27.cell? ⟨gb149, 5, none⟩ = some (.string a0_5) := (blk_cell BK149.out 5).trans rfl; have hcz28_6 : w27.cell? ⟨gb149, 6, none⟩ = some (.string a0_6) := (blk_cell BK149.out 6).trans rfl; have hcz28_7 : w27.cell? ⟨gb149, 7, none⟩ = some (.slice A0_7 l0_7.length c0_7) := (blk_cell BK149.out 7).trans rfl; have hcz28_8 : w27.cell? ⟨gb149, 8, none⟩ = some (.int .i64 a0_8) := (blk_cell BK149.out 8).trans rfl; have hcz28_9 : w27.cell? ⟨gb149, 9, none⟩ = some (.int .i64 a0_9) := (blk_cell BK149.out 9).trans rfl; have hcz28_10 : w27.cell? ⟨gb149, 10, none⟩ = some (.int .i64 a0_10) := (blk_cell BK149.out 10).trans rfl; have hfz28_0 := blk_frozen BK149.out 0; have hfz28_1 := blk_frozen BK149.out 1; have hfz28_2 := blk_frozen BK149.out 2; have hfz28_3 := blk_frozen BK149.out 3; have hfz28_4 := blk_frozen BK149.out 4; have hfz28_5 := blk_frozen BK149.out 5; have hfz28_6 := blk_frozen BK149.out 6; have hfz28_7 := blk_frozen BK149.out 7; have hfz28_8 := blk_frozen BK149.out 8; have hfz28_9 := blk_frozen BK149.out 9; have hfz28_10 := blk_frozen BK149.out 10; obtain ⟨Ao29, co29, eo29⟩ := Kd.R_slice HO167.out; subst eo29) | ((with_reducible refine gate_callee (f := 41) rfl ?_); refine goesL_ (some 32) rfl rfl Try.func41 (by kernel_rfl) rfl #[.slice Ao29 t165.length co29, .string a0_6] rfl (by (try simp only [List.map_toArray, List.map_cons, List.map_nil]); first | done | rfl | (simp only [List.length_drop, List.length_take]; rfl)) ?_; (with_reducible refine (calepinref15_text.calls k (fun k_ => some k_ = (.slice Ao29 t165.length co29 : Value).ownBlock) (.slice Ao29 t165.length co29) t165 a0_6 t168 w _ ?side1 ?side2 A8.out).mono ?_); (case side1 => repeat (first | (with_reducible first | exact HB.out | apply below_alloc | apply pw_below_drewN | apply below_drew1 | refine below_set ?_ GE149.out) | exact HB.out)); (case side2 => exact Kd.R_tight rfl HO167.out); rintro e w30 ⟨v169, rfl, ho0, hb, hkp⟩; refine ⟨_, rfl, ?_⟩; have n0_ := Aside0.mk (blk_kept (by (with_reducible repeat (first | refine blk_drewN ?_ _ | refine blk_drew ?_ | refine blk_alloc ?_ _)); exact BK149.out) hkp (fun hs_ => (fun e_ => (Kd.R_ne HO167.out BK149.out (by decide)) e_) hs_)); have n1_ := Aside0.mk (Kd.R_mono (ok' := fun k_ => True) ho0 (fun k_ hk_ => trivial)); have n2_ := Aside0.mk (hb); clear BK149; clear HB; clear HO167; have BK149 := n0_; have HO170 := n1_; have HB := n2_; clear n0_ n1_ n2_; (try clear hb); (try clear hkp); (try clear ho0); have hcz31_0 : w30.cell? ⟨gb149, 0, none⟩ = some (.int .i64 a0_0) := (blk_cell BK149.out 0).trans rfl; have hcz31_1 : w30.cell? ⟨gb149, 1, none⟩ = some (.string a0_1) := (blk_cell BK149.out 1).trans rfl; have hcz31_2 : w30.cell? ⟨gb149, 2, none⟩ = some (.string a0_2) := (blk_cell BK149.out 2).trans rfl; have hcz31_3 : w30.cell? ⟨gb149, 3, none⟩ = some (.string a0_3) := (blk_cell BK149.out 3).trans rfl; have hcz31_4 : w30.cell? ⟨gb149, 4, none⟩ = some (.string a0_4) := (blk_cell BK149.out 4).trans rfl; have hcz31_5 : w30.cell? ⟨gb149, 5, none⟩ = some (.string a0_5) := (blk_cell BK149.out 5).trans rfl; have hcz31_6 : w30.cell? ⟨gb149, 6, none⟩ = some (.string a0_6) := (blk_cell BK149.out 6).trans rfl; have hcz31_7 : w30.cell? ⟨gb149, 7, none⟩ = some (.slice A0_7 l0_7.length c0_7) := (blk_cell BK149.out 7).trans rfl; have hcz31_8 : w30.cell? ⟨gb149, 8, none⟩ = some (.int .i64 a0_8) := (blk_cell BK149.out 8).trans rfl; have hcz31_9 : w30.cell? ⟨gb149, 9, none⟩ = some (.int .i64 a0_9) := (blk_cell BK149.out 9).trans rfl; have hcz31_10 : w30.cell? ⟨gb149, 10, none⟩ = some (.int .i64 a0_10) := (blk_cell BK149.out 10).trans rfl; have hfz31_0 := blk_frozen BK149.out 0; have hfz31_1 := blk_frozen BK149.out 1; have hfz31_2 := blk_frozen BK149.out 2; have hfz31_3 := blk_frozen BK149.out 3; have hfz31_4 := blk_frozen BK149.out 4; have hfz31_5 := blk_frozen BK149.out 5; have hfz31_6 := blk_frozen BK149.out 6; have hfz31_7 := blk_frozen BK149.out 7; have hfz31_8 := blk_frozen BK149.out 8; have hfz31_9 := blk_frozen BK149.out 9; have hfz31_10 := blk_frozen BK149.out 10; obtain ⟨Ao32, co32, eo32⟩ := Kd.R_slice HO170.out; subst eo32) | ((with_reducible refine gate_callee (f := 40) rfl ?_); refine goesL_ (some 37) rfl rfl Try.func40 (by kernel_rfl) rfl #[.slice Ao32 t168.length co32, .int .i64 (l0_7.length : Int)] rfl (by (try simp only [List.map_toArray, List.map_cons, List.map_nil]); first | done | rfl | (simp only [List.length_drop, List.length_take]; rfl)) ?_; (with_reducible refine (calepinref15_number.calls k (fun k_ => some k_ = (.slice Ao32 t168.length co32 : Value).ownBlock) (.slice Ao32 t168.length co32) t168 (l0_7.length : Int) t171 w _ ?side1 ?side2 A9.out).mono ?_); (case side1 => repeat (first | (with_reducible first | exact HB.out | apply below_alloc | apply pw_below_drewN | apply below_drew1 | refine below_set ?_ GE149.out) | exact HB.out)); (case side2 => exact Kd.R_tight rfl HO170.out); rintro e w33 ⟨v172, rfl, ho0, hb, hkp⟩; refine ⟨_, rfl, ?_⟩; have n0_ := Aside0.mk (blk_kept (by (with_reducible repeat (first | refine blk_drewN ?_ _ | refine blk_drew ?_ | refine blk_alloc ?_ _)); exact BK149.out) hkp (fun hs_ => (fun e_ => (Kd.R_ne HO170.out BK149.out (by decide)) e_) hs_)); have n1_ := Aside0.mk (Kd.R_mono (ok' := fun k_ => True) ho0 (fun k_ hk_ => trivial)); have n2_ := Aside0.mk (hb); clear BK149; clear HB; clear HO170; have BK149 := n0_; have HO173 := n1_; have HB := n2_; clear n0_ n1_ n2_; (try clear hb); (try clear hkp); (try clear ho0); have hcz34_0 : w33.cell? ⟨gb149, 0, none⟩ = some (.int .i64 a0_0) := (blk_cell BK149.out 0).trans rfl; have hcz34_1 : w33.cell? ⟨gb149, 1, none⟩ = some (.string a0_1) := (blk_cell BK149.out 1).trans rfl; have hcz34_2 : w33.cell? ⟨gb149, 2, none⟩ = some (.string a0_2) := (blk_cell BK149.out 2).trans rfl; have hcz34_3 : w33.cell? ⟨gb149, 3, none⟩ = some (.string a0_3) := (blk_cell BK149.out 3).trans rfl; have hcz34_4 : w33.cell? ⟨gb149, 4, none⟩ = some (.string a0_4) := (blk_cell BK149.out 4).trans rfl; have hcz34_5 : w33.cell? ⟨gb149, 5, none⟩ = some (.string a0_5) := (blk_cell BK149.out 5).trans rfl; have hcz34_6 : w33.cell? ⟨gb149, 6, none⟩ = some (.string a0_6) := (blk_cell BK149.out 6).trans rfl; have hcz34_7 : w33.cell? ⟨gb149, 7, none⟩ = some (.slice A0_7 l0_7.length c0_7) := (blk_cell BK149.out 7).trans rfl; have hcz34_8 : w33.cell? ⟨gb149, 8, none⟩ = some (.int .i64 a0_8) := (blk_cell BK149.out 8).trans rfl; have hcz34_9 : w33.cell? ⟨gb149, 9, none⟩ = some (.int .i64 a0_9) := (blk_cell BK149.out 9).trans rfl; have hcz34_10 : w33.cell? ⟨gb149, 10, none⟩ = some (.int .i64 a0_10) := (blk_cell BK149.out 10).trans rfl; have hfz34_0 := blk_frozen BK149.out 0; have hfz34_1 := blk_frozen BK149.out 1; have hfz34_2 := blk_frozen BK149.out 2; have hfz34_3 := blk_frozen BK149.out 3; have hfz34_4 := blk_frozen BK149.out 4; have hfz34_5 := blk_frozen BK149.out 5; have hfz34_6 := blk_frozen BK149.out 6; have hfz34_7 := blk_frozen BK149.out 7; have hfz34_8 := blk_frozen BK149.out 8; have hfz34_9 := blk_frozen BK149.out 9; have hfz34_10 := blk_frozen BK149.out 10))
  go_loopg [3, 41] k (fun kq v3 v41 w' => ∃ (x3_1 : List Int) (x41_1 : Int), v41 = .int .i64 x41_1 ∧ Aside0 (calepinref15_Command.l0 kq x3_1 l0_7 (l0_7.length : Int) x41_1 a0_0 a0_1 a0_2 a0_3 a0_4 a0_5 a0_6 l0_7 a0_8 a0_9 a0_10 = some r) ∧ Aside0 (kq ≤ k) ∧ Aside0 (Kd.R (Kd.int .u8) 5 w' w.heap.size (fun _ => True) v3 x3_1) ∧ Aside0 (w'.heap[gb149]? = some (.cells #[.int .i64 a0_0, .string a0_1, .string a0_2, .string a0_3, .string a0_4, .string a0_5, .string a0_6, (.slice A0_7 l0_7.length c0_7), .int .i64 a0_8, .int .i64 a0_9, .int .i64 a0_10] 58 (0, 0))) ∧ Aside0 (Below w.heap.size w w'))
  case atStart => exact ⟨(t171), (0), (by first | rfl | (simp; done) | (simp [*]; done)), H', ⟨Nat.le_refl _⟩, ⟨by (with_reducible repeat (first | apply Kd.R_alloc | apply Kd.R_drewN | apply Kd.R_drew)); exact HO173.out⟩, ⟨by (with_reducible repeat (first | refine blk_drewN ?_ _ | refine blk_drew ?_ | refine blk_alloc ?_ _)); exact BK149.out⟩, ⟨by repeat (first | (with_reducible first | exact HB.out | apply below_alloc | apply pw_below_drewN | apply below_drew1 | refine below_set ?_ GE149.out) | exact HB.out)⟩⟩
  case round =>
    clear H'
    try clear p2
    try clear c3
    try clear c4
    try clear hcz11_0
    try clear hcz11_1
    try clear hcz11_10
    try clear hcz11_2
    try clear hcz11_3
    try clear hcz11_4
    try clear hcz11_5
    try clear hcz11_6
    try clear hcz11_7
    try clear hcz11_8
    try clear hcz11_9
    try clear hcz13_0
    try clear hcz13_1
    try clear hcz13_10
    try clear hcz13_2
    try clear hcz13_3
    try clear hcz13_4
    try clear hcz13_5
    try clear hcz13_6
    try clear hcz13_7
    try clear hcz13_8
    try clear hcz13_9
    try clear hcz16_0
    try clear hcz16_1
    try clear hcz16_10
    try clear hcz16_2
    try clear hcz16_3
    try clear hcz16_4
    try clear hcz16_5
    try clear hcz16_6
    try clear hcz16_7
    try clear hcz16_8
    try clear hcz16_9
    try clear hcz19_0
    try clear hcz19_1
    try clear hcz19_10
    try clear hcz19_2
    try clear hcz19_3
    try clear hcz19_4
    try clear hcz19_5
    try clear hcz19_6
    try clear hcz19_7
    try clear hcz19_8
    try clear hcz19_9
    try clear hcz22_0
    try clear hcz22_1
    try clear hcz22_10
    try clear hcz22_2
    try clear hcz22_3
    try clear hcz22_4
    try clear hcz22_5
    try clear hcz22_6
    try clear hcz22_7
    try clear hcz22_8
    try clear hcz22_9
    try clear hcz25_0
    try clear hcz25_1
    try clear hcz25_10
    try clear hcz25_2
    try clear hcz25_3
    try clear hcz25_4
    try clear hcz25_5
    try clear hcz25_6
    try clear hcz25_7
    try clear hcz25_8
    try clear hcz25_9
    try clear hcz28_0
    try clear hcz28_1
    try clear hcz28_10
    try clear hcz28_2
    try clear hcz28_3
    try clear hcz28_4
    try clear hcz28_5
    try clear hcz28_6
    try clear hcz28_7
    try clear hcz28_8
    try clear hcz28_9
    try clear hcz31_0
    try clear hcz31_1
    try clear hcz31_10
    try clear hcz31_2
    try clear hcz31_3
    try clear hcz31_4
    try clear hcz31_5
    try clear hcz31_6
    try clear hcz31_7
    try clear hcz31_8
    try clear hcz31_9
    try clear hcz34_0
    try clear hcz34_1
    try clear hcz34_10
    try clear hcz34_2
    try clear hcz34_3
    try clear hcz34_4
    try clear hcz34_5
    try clear hcz34_6
    try clear hcz34_7
    try clear hcz34_8
    try clear hcz34_9
    try clear hfz11_0
    try clear hfz11_1
    try clear hfz11_10
    try clear hfz11_2
    try clear hfz11_3
    try clear hfz11_4
    try clear hfz11_5
    try clear hfz11_6
    try clear hfz11_7
    try clear hfz11_8
    try clear hfz11_9
    try clear hfz13_0
    try clear hfz13_1
    try clear hfz13_10
    try clear hfz13_2
    try clear hfz13_3
    try clear hfz13_4
    try clear hfz13_5
    try clear hfz13_6
    try clear hfz13_7
    try clear hfz13_8
    try clear hfz13_9
    try clear hfz16_0
    try clear hfz16_1
    try clear hfz16_10
    try clear hfz16_2
    try clear hfz16_3
    try clear hfz16_4
    try clear hfz16_5
    try clear hfz16_6
    try clear hfz16_7
    try clear hfz16_8
    try clear hfz16_9
    try clear hfz19_0
    try clear hfz19_1
    try clear hfz19_10
    try clear hfz19_2
    try clear hfz19_3
    try clear hfz19_4
    try clear hfz19_5
    try clear hfz19_6
    try clear hfz19_7
    try clear hfz19_8
    try clear hfz19_9
    try clear hfz22_0
    try clear hfz22_1
    try clear hfz22_10
    try clear hfz22_2
    try clear hfz22_3
    try clear hfz22_4
    try clear hfz22_5
    try clear hfz22_6
    try clear hfz22_7
    try clear hfz22_8
    try clear hfz22_9
    try clear hfz25_0
    try clear hfz25_1
    try clear hfz25_10
    try clear hfz25_2
    try clear hfz25_3
    try clear hfz25_4
    try clear hfz25_5
    try clear hfz25_6
    try clear hfz25_7
    try clear hfz25_8
    try clear hfz25_9
    try clear hfz28_0
    try clear hfz28_1
    try clear hfz28_10
    try clear hfz28_2
    try clear hfz28_3
    try clear hfz28_4
    try clear hfz28_5
    try clear hfz28_6
    try clear hfz28_7
    try clear hfz28_8
    try clear hfz28_9
    try clear hfz31_0
    try clear hfz31_1
    try clear hfz31_10
    try clear hfz31_2
    try clear hfz31_3
    try clear hfz31_4
    try clear hfz31_5
    try clear hfz31_6
    try clear hfz31_7
    try clear hfz31_8
    try clear hfz31_9
    try clear hfz34_0
    try clear hfz34_1
    try clear hfz34_10
    try clear hfz34_2
    try clear hfz34_3
    try clear hfz34_4
    try clear hfz34_5
    try clear hfz34_6
    try clear hfz34_7
    try clear hfz34_8
    try clear hfz34_9
    obtain ⟨x3_1, x41_1, rfl, HA, HK1, HO_3, BK149, HB⟩ := hrel
    cases gk with
    | zero => exact absurd HA.out (by simp [calepinref15_Command.l0])
    | succ k1 =>
      have H := HA.out
      clear HA
      simp only [calepinref15_Command.l0] at H
      by_cases c35 : x41_1 < (l0_7.length : Int)
      · rw [if_pos c35] at H
        have c35b0 : decide (x41_1 < (l0_7.length : Int)) = true := decide_eq_true c35
        clear c35
        by_cases c36 : 0 ≤ x41_1
        · rw [if_pos c36] at H
          have c36b0 : decide (0 ≤ x41_1) = true := decide_eq_true c36
          clear c36
          by_cases c37 : x41_1 < (l0_7.length : Int)
          · rw [if_pos c37] at H
            have c37b0 : decide (x41_1 < (l0_7.length : Int)) = true := decide_eq_true c37
            clear c37
            replace H := Option.bind_eq_some_iff.mp H
            obtain ⟨t175, A380, H⟩ := H
            replace H : (calepinref15_Command.l0 k1 t175 l0_7 (l0_7.length : Int) (wrap64 (x41_1 + 1)) a0_0 a0_1 a0_2 a0_3 a0_4 a0_5 a0_6 l0_7 a0_8 a0_9 a0_10) = some r := H
            have A38 := Aside0.mk A380
            clear A380
            have H' := Aside0.mk H
            clear H
            have p174 : 0 ≤ (x41_1 : Int) := of_decide_eq_true (by first | (with_reducible assumption) | assumption)
            have q174 : x41_1 < (l0_7.length : Int) := of_decide_eq_true (by first | (with_reducible assumption) | assumption)
            obtain ⟨ad174, e174, hx174_0⟩ := Kd.at_string HR0_7.out x41_1 p174 q174
            cases e174
            replace hx174_0 := (HB.out.cell (World.block_lt_of_cell? w _ hx174_0)).trans hx174_0
            replace p174 := eq_true p174
            replace q174 := eq_true q174
            obtain ⟨Ao39, co39, eo39⟩ := Kd.R_slice HO_3.out
            subst eo39
            go_wp2_with (first | ((with_reducible refine gate_callee (f := 41) rfl ?_); refine goesL_ (some 47) rfl rfl Try.func41 (by kernel_rfl) rfl #[.slice Ao39 x3_1.length co39, .string (rdOf ByteArray.empty l0_7 x41_1)] rfl (by (try simp only [List.map_toArray, List.map_cons, List.map_nil]); first | done | rfl | (simp only [List.length_drop, List.length_take]; rfl)) ?_; (with_reducible refine (calepinref15_text.calls k1 (fun k_ => some k_ = (.slice Ao39 x3_1.length co39 : Value).ownBlock) (.slice Ao39 x3_1.length co39) x3_1 (rdOf ByteArray.empty l0_7 x41_1) t175 w _ ?side1 ?side2 A38.out).mono ?_); (case side1 => repeat (first | (with_reducible first | exact HB.out | apply below_alloc | apply pw_below_drewN | apply below_drew1 | refine below_set ?_ GE149.out) | exact HB.out)); (case side2 => exact Kd.R_tight rfl HO_3.out); rintro e w40 ⟨v176, rfl, ho0, hb, hkp⟩; refine ⟨_, rfl, ?_⟩; have n0_ := Aside0.mk (blk_kept (by (with_reducible repeat (first | refine blk_drewN ?_ _ | refine blk_drew ?_ | refine blk_alloc ?_ _)); exact BK149.out) hkp (fun hs_ => (fun e_ => (Kd.R_ne HO_3.out BK149.out (by decide)) e_) hs_)); have n1_ := Aside0.mk (Kd.R_mono (ok' := fun k_ => True) ho0 (fun k_ hk_ => trivial)); have n2_ := Aside0.mk (hb); clear BK149; clear HB; clear HO_3; have BK149 := n0_; have HO177 := n1_; have HB := n2_; clear n0_ n1_ n2_; (try clear hb); (try clear hkp); (try clear ho0)))
            go_roundg k1
            case measure => have := HK1.out; omega
            case rel => exact ⟨(t175), (wrap64 (x41_1 + 1)), (by first | rfl | (simp; done) | (simp [*]; done)), H', ⟨by have := HK1.out; omega⟩, ⟨by (with_reducible repeat (first | apply Kd.R_alloc | apply Kd.R_drewN | apply Kd.R_drew)); exact HO177.out⟩, ⟨by (with_reducible repeat (first | refine blk_drewN ?_ _ | refine blk_drew ?_ | refine blk_alloc ?_ _)); exact BK149.out⟩, ⟨by repeat (first | (with_reducible first | exact HB.out | apply below_alloc | apply pw_below_drewN | apply below_drew1 | refine below_set ?_ GE149.out) | exact HB.out)⟩⟩
          · rw [if_neg c37] at H
            exact absurd H (by simp)
        · rw [if_neg c36] at H
          exact absurd H (by simp)
      · rw [if_neg c35] at H
        have c35b0 : decide (x41_1 < (l0_7.length : Int)) = false := decide_eq_false c35
        clear c35
        replace H := Option.bind_eq_some_iff.mp H
        obtain ⟨t178, A410, H⟩ := H
        replace H : ((calepinref15_number.f k1 t178 a0_9).bind fun t181 => ((calepinref15_number.f k1 t181 a0_10).bind fun t184 => (some t184))) = some r := H
        have A41 := Aside0.mk A410
        clear A410
        replace H := Option.bind_eq_some_iff.mp H
        obtain ⟨t181, A420, H⟩ := H
        replace H : ((calepinref15_number.f k1 t181 a0_10).bind fun t184 => (some t184)) = some r := H
        have A42 := Aside0.mk A420
        clear A420
        replace H := Option.bind_eq_some_iff.mp H
        obtain ⟨t184, A430, H⟩ := H
        replace H : (some t184) = some r := H
        have A43 := Aside0.mk A430
        clear A430
        obtain rfl := Option.some.inj H
        have hcz44_0 : wr.cell? ⟨gb149, 0, none⟩ = some (.int .i64 a0_0) := (blk_cell BK149.out 0).trans rfl
        have hcz44_1 : wr.cell? ⟨gb149, 1, none⟩ = some (.string a0_1) := (blk_cell BK149.out 1).trans rfl
        have hcz44_2 : wr.cell? ⟨gb149, 2, none⟩ = some (.string a0_2) := (blk_cell BK149.out 2).trans rfl
        have hcz44_3 : wr.cell? ⟨gb149, 3, none⟩ = some (.string a0_3) := (blk_cell BK149.out 3).trans rfl
        have hcz44_4 : wr.cell? ⟨gb149, 4, none⟩ = some (.string a0_4) := (blk_cell BK149.out 4).trans rfl
        have hcz44_5 : wr.cell? ⟨gb149, 5, none⟩ = some (.string a0_5) := (blk_cell BK149.out 5).trans rfl
        have hcz44_6 : wr.cell? ⟨gb149, 6, none⟩ = some (.string a0_6) := (blk_cell BK149.out 6).trans rfl
        have hcz44_7 : wr.cell? ⟨gb149, 7, none⟩ = some (.slice A0_7 l0_7.length c0_7) := (blk_cell BK149.out 7).trans rfl
        have hcz44_8 : wr.cell? ⟨gb149, 8, none⟩ = some (.int .i64 a0_8) := (blk_cell BK149.out 8).trans rfl
        have hcz44_9 : wr.cell? ⟨gb149, 9, none⟩ = some (.int .i64 a0_9) := (blk_cell BK149.out 9).trans rfl
        have hcz44_10 : wr.cell? ⟨gb149, 10, none⟩ = some (.int .i64 a0_10) := (blk_cell BK149.out 10).trans rfl
        have hfz44_0 := blk_frozen BK149.out 0
        have hfz44_1 := blk_frozen BK149.out 1
        have hfz44_2 := blk_frozen BK149.out 2
        have hfz44_3 := blk_frozen BK149.out 3
        have hfz44_4 := blk_frozen BK149.out 4
        have hfz44_5 := blk_frozen BK149.out 5
        have hfz44_6 := blk_frozen BK149.out 6
        have hfz44_7 := blk_frozen BK149.out 7
        have hfz44_8 := blk_frozen BK149.out 8
        have hfz44_9 := blk_frozen BK149.out 9
        have hfz44_10 := blk_frozen BK149.out 10
        obtain ⟨Ao45, co45, eo45⟩ := Kd.R_slice HO_3.out
        subst eo45
        go_wp2_with (first | ((with_reducible refine gate_callee (f := 40) rfl ?_); refine goesL_ (some 52) rfl rfl Try.func40 (by kernel_rfl) rfl #[.slice Ao45 x3_1.length co45, .int .i64 a0_8] rfl (by (try simp only [List.map_toArray, List.map_cons, List.map_nil]); first | done | rfl | (simp only [List.length_drop, List.length_take]; rfl)) ?_; (with_reducible refine (calepinref15_number.calls k1 (fun k_ => some k_ = (.slice Ao45 x3_1.length co45 : Value).ownBlock) (.slice Ao45 x3_1.length co45) x3_1 a0_8 t178 w _ ?side1 ?side2 A41.out).mono ?_); (case side1 => repeat (first | (with_reducible first | exact HB.out | apply below_alloc | apply pw_below_drewN | apply below_drew1 | refine below_set ?_ GE149.out) | exact HB.out)); (case side2 => exact Kd.R_tight rfl HO_3.out); rintro e w46 ⟨v179, rfl, ho0, hb, hkp⟩; refine ⟨_, rfl, ?_⟩; have n0_ := Aside0.mk (blk_kept (by (with_reducible repeat (first | refine blk_drewN ?_ _ | refine blk_drew ?_ | refine blk_alloc ?_ _)); exact BK149.out) hkp (fun hs_ => (fun e_ => (Kd.R_ne HO_3.out BK149.out (by decide)) e_) hs_)); have n1_ := Aside0.mk (Kd.R_mono (ok' := fun k_ => True) ho0 (fun k_ hk_ => trivial)); have n2_ := Aside0.mk (hb); clear BK149; clear HB; clear HO_3; have BK149 := n0_; have HO180 := n1_; have HB := n2_; clear n0_ n1_ n2_; (try clear hb); (try clear hkp); (try clear ho0); have hcz47_0 : w46.cell? ⟨gb149, 0, none⟩ = some (.int .i64 a0_0) := (blk_cell BK149.out 0).trans rfl; have hcz47_1 : w46.cell? ⟨gb149, 1, none⟩ = some (.string a0_1) := (blk_cell BK149.out 1).trans rfl; have hcz47_2 : w46.cell? ⟨gb149, 2, none⟩ = some (.string a0_2) := (blk_cell BK149.out 2).trans rfl; have hcz47_3 : w46.cell? ⟨gb149, 3, none⟩ = some (.string a0_3) := (blk_cell BK149.out 3).trans rfl; have hcz47_4 : w46.cell? ⟨gb149, 4, none⟩ = some (.string a0_4) := (blk_cell BK149.out 4).trans rfl; have hcz47_5 : w46.cell? ⟨gb149, 5, none⟩ = some (.string a0_5) := (blk_cell BK149.out 5).trans rfl; have hcz47_6 : w46.cell? ⟨gb149, 6, none⟩ = some (.string a0_6) := (blk_cell BK149.out 6).trans rfl; have hcz47_7 : w46.cell? ⟨gb149, 7, none⟩ = some (.slice A0_7 l0_7.length c0_7) := (blk_cell BK149.out 7).trans rfl; have hcz47_8 : w46.cell? ⟨gb149, 8, none⟩ = some (.int .i64 a0_8) := (blk_cell BK149.out 8).trans rfl; have hcz47_9 : w46.cell? ⟨gb149, 9, none⟩ = some (.int .i64 a0_9) := (blk_cell BK149.out 9).trans rfl; have hcz47_10 : w46.cell? ⟨gb149, 10, none⟩ = some (.int .i64 a0_10) := (blk_cell BK149.out 10).trans rfl; have hfz47_0 := blk_frozen BK149.out 0; have hfz47_1 := blk_frozen BK149.out 1; have hfz47_2 := blk_frozen BK149.out 2; have hfz47_3 := blk_frozen BK149.out 3; have hfz47_4 := blk_frozen BK149.out 4; have hfz47_5 := blk_frozen BK149.out 5; have hfz47_6 := blk_frozen BK149.out 6; have hfz47_7 := blk_frozen BK149.out 7; have hfz47_8 := blk_frozen BK149.out 8; have hfz47_9 := blk_frozen BK149.out 9; have hfz47_10 := blk_frozen BK149.out 10; obtain ⟨Ao48, co48, eo48⟩ := Kd.R_slice HO180.out; subst eo48) | ((with_reducible refine gate_callee (f := 40) rfl ?_); refine goesL_ (some 56) rfl rfl Try.func40 (by kernel_rfl) rfl #[.slice Ao48 t178.length co48, .int .i64 a0_9] rfl (by (try simp only [List.map_toArray, List.map_cons, List.map_nil]); first | done | rfl | (simp only [List.length_drop, List.length_take]; rfl)) ?_; (with_reducible refine (calepinref15_number.calls k1 (fun k_ => some k_ = (.slice Ao48 t178.length co48 : Value).ownBlock) (.slice Ao48 t178.length co48) t178 a0_9 t181 w _ ?side1 ?side2 A42.out).mono ?_); (case side1 => repeat (first | (with_reducible first | exact HB.out | apply below_alloc | apply pw_below_drewN | apply below_drew1 | refine below_set ?_ GE149.out) | exact HB.out)); (case side2 => exact Kd.R_tight rfl HO180.out); rintro e w49 ⟨v182, rfl, ho0, hb, hkp⟩; refine ⟨_, rfl, ?_⟩; have n0_ := Aside0.mk (blk_kept (by (with_reducible repeat (first | refine blk_drewN ?_ _ | refine blk_drew ?_ | refine blk_alloc ?_ _)); exact BK149.out) hkp (fun hs_ => (fun e_ => (Kd.R_ne HO180.out BK149.out (by decide)) e_) hs_)); have n1_ := Aside0.mk (Kd.R_mono (ok' := fun k_ => True) ho0 (fun k_ hk_ => trivial)); have n2_ := Aside0.mk (hb); clear BK149; clear HB; clear HO180; have BK149 := n0_; have HO183 := n1_; have HB := n2_; clear n0_ n1_ n2_; (try clear hb); (try clear hkp); (try clear ho0); have hcz50_0 : w49.cell? ⟨gb149, 0, none⟩ = some (.int .i64 a0_0) := (blk_cell BK149.out 0).trans rfl; have hcz50_1 : w49.cell? ⟨gb149, 1, none⟩ = some (.string a0_1) := (blk_cell BK149.out 1).trans rfl; have hcz50_2 : w49.cell? ⟨gb149, 2, none⟩ = some (.string a0_2) := (blk_cell BK149.out 2).trans rfl; have hcz50_3 : w49.cell? ⟨gb149, 3, none⟩ = some (.string a0_3) := (blk_cell BK149.out 3).trans rfl; have hcz50_4 : w49.cell? ⟨gb149, 4, none⟩ = some (.string a0_4) := (blk_cell BK149.out 4).trans rfl; have hcz50_5 : w49.cell? ⟨gb149, 5, none⟩ = some (.string a0_5) := (blk_cell BK149.out 5).trans rfl; have hcz50_6 : w49.cell? ⟨gb149, 6, none⟩ = some (.string a0_6) := (blk_cell BK149.out 6).trans rfl; have hcz50_7 : w49.cell? ⟨gb149, 7, none⟩ = some (.slice A0_7 l0_7.length c0_7) := (blk_cell BK149.out 7).trans rfl; have hcz50_8 : w49.cell? ⟨gb149, 8, none⟩ = some (.int .i64 a0_8) := (blk_cell BK149.out 8).trans rfl; have hcz50_9 : w49.cell? ⟨gb149, 9, none⟩ = some (.int .i64 a0_9) := (blk_cell BK149.out 9).trans rfl; have hcz50_10 : w49.cell? ⟨gb149, 10, none⟩ = some (.int .i64 a0_10) := (blk_cell BK149.out 10).trans rfl; have hfz50_0 := blk_frozen BK149.out 0; have hfz50_1 := blk_frozen BK149.out 1; have hfz50_2 := blk_frozen BK149.out 2; have hfz50_3 := blk_frozen BK149.out 3; have hfz50_4 := blk_frozen BK149.out 4; have hfz50_5 := blk_frozen BK149.out 5; have hfz50_6 := blk_frozen BK149.out 6; have hfz50_7 := blk_frozen BK149.out 7; have hfz50_8 := blk_frozen BK149.out 8; have hfz50_9 := blk_frozen BK149.out 9; have hfz50_10 := blk_frozen BK149.out 10; obtain ⟨Ao51, co51, eo51⟩ := Kd.R_slice HO183.out; subst eo51) | ((with_reducible refine gate_callee (f := 40) rfl ?_); refine goesL_ (some 60) rfl rfl Try.func40 (by kernel_rfl) rfl #[.slice Ao51 t181.length co51, .int .i64 a0_10] rfl (by (try simp only [List.map_toArray, List.map_cons, List.map_nil]); first | done | rfl | (simp only [List.length_drop, List.length_take]; rfl)) ?_; (with_reducible refine (calepinref15_number.calls k1 (fun k_ => some k_ = (.slice Ao51 t181.length co51 : Value).ownBlock) (.slice Ao51 t181.length co51) t181 a0_10 t184 w _ ?side1 ?side2 A43.out).mono ?_); (case side1 => repeat (first | (with_reducible first | exact HB.out | apply below_alloc | apply pw_below_drewN | apply below_drew1 | refine below_set ?_ GE149.out) | exact HB.out)); (case side2 => exact Kd.R_tight rfl HO183.out); rintro e w52 ⟨v185, rfl, ho0, hb, hkp⟩; refine ⟨_, rfl, ?_⟩; have n0_ := Aside0.mk (blk_kept (by (with_reducible repeat (first | refine blk_drewN ?_ _ | refine blk_drew ?_ | refine blk_alloc ?_ _)); exact BK149.out) hkp (fun hs_ => (fun e_ => (Kd.R_ne HO183.out BK149.out (by decide)) e_) hs_)); have n1_ := Aside0.mk (Kd.R_mono (ok' := fun k_ => True) ho0 (fun k_ hk_ => trivial)); have n2_ := Aside0.mk (hb); clear BK149; clear HB; clear HO183; have BK149 := n0_; have HO186 := n1_; have HB := n2_; clear n0_ n1_ n2_; (try clear hb); (try clear hkp); (try clear ho0)))
        go_ret
        exact ⟨_, by first | rfl | (simp [errW_none, errW_some] <;> rfl) | (simp [*, errW_none, errW_some] <;> rfl), by (with_reducible repeat (first | apply Kd.R_alloc | apply Kd.R_drewN | apply Kd.R_drew)); exact HO186.out, by repeat (first | (with_reducible first | exact HB.out | apply below_alloc | apply pw_below_drewN | apply below_drew1 | refine below_set ?_ GE149.out) | exact HB.out)⟩

end Go.Proofs.Ytigjfnleinhahaa.PLog
