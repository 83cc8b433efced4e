/- A log's Get. -/
import Derived.Test.YtigjfnleinhahaaLogX
import Derived.Test.YtigjfnleinhahaaApp

import Derived.StillTailTactics
import Derived.WalkSpells
namespace Go.Proofs.Ytigjfnleinhahaa.PLog
open Go.RowKit Go.Proofs.YtigjfnleinhahaaW.PrintWords Go.Proofs.YtigjfnleinhahaaW.PrintLast Go.Proofs.YtigjfnleinhahaaW.PrintMore
open Go.Proofs.Ytigjfnleinhahaa.Reg
set_option linter.unusedVariables false
set_option linter.unusedSimpArgs false
set_option maxHeartbeats 4000000
set_option maxRecDepth 100000

theorem results_ct {P : Program} {fn : Func} {p q : Tmp} {ty : TypeId} (h : fn.results = #[.cell p ty, .tmp q]) (tmps : Array Value) (w : World) (g : Nat) (t : TypeId) (cs : Array Value) (fr : Nat × Nat) (d : TypeDesc) (v : Value)
    (hp : tmps.getD p undef = .pointer (some ⟨g, 0, none⟩)) (hg : w.heap[g]? = some (.cells cs t fr)) (hv : tmps.getD q undef = v)
    (hu : P.underlying ty = some d) (hd : (match d with | .struct _ | .array _ _ => true | _ => false) = true) (hi : (P.info? ty).map (·.size) = some cs.size) :
    (results fn tmps).run P w = .ok (.tuple #[.agg cs, v]) w := by
  have hp' : tmps[p]?.getD undef = .pointer (some ⟨g, 0, none⟩) := by simpa using hp
  have hv' : tmps[q]?.getD undef = v := by simpa using hv
  simp [results, h, hp', hv', asAddr, run_loadVar_row w g t ty cs fr d hg hu hd hi]
theorem wp_store_box {P : Program} {ops : Array Oper} {rest : List Oper} {o : Oper} {a : Act} {Q : Exit → Act → World → Prop} {W : World} (hN : o.dst = none) (hgd : o.guard = none) (t : TypeId) (p x : Operand) (ho : o.op = .store t p x) {g e : Nat} {cur : Array Value} (cs : List Value)
    (hp : a.eval p = .pointer (some ⟨g, 0, none⟩)) (hx : a.eval x = .agg cs.toArray) (hh : W.heap[g]? = some (.cells cur e (0, 0))) (hsz : cur.size = cs.length) (ht : (P.info? t).map (·.size) = some cs.length) (h1 : ∀ q ∈ cs, q.oneCell' = true)
    (h : ∀ w1, w1.heap[g]? = some (.cells cs.toArray e (0, 0)) → W.grownBy w1 (some g) → wpList P ops Q rest a w1) : wpList P ops Q (o :: rest) a W := by
  refine wpList_plain hgd fun K hK => ?_
  have hrun := run_store_run (P := P) (w := W) (g := g) (o := 0) t (.agg cs.toArray) cs hh (by simp [Value.cells]) ht (by rw [hsz]; omega) h1
  obtain ⟨cur', h3, h4, h5⟩ := setCells_row cs 0 W cur hh (by rw [hsz]; omega)
  have e1 : cur' = cs.toArray := by
    apply Array.toList_inj.1
    rw [h5]
    simp [hsz]
  have hs := setCells_same g cs 0 W
  have hw : W.grownBy (W.setCells g 0 cs) (some g) := ⟨hs.1, hs.2.1, hs.2.2.1, Nat.le_of_eq (by have := hs.2.2.2; exact this.symm), fun k _ hk => setCells_far cs 0 k (fun he => hk (by rw [he]))⟩
  unfold Oper.wp execOp
  simp only [ho, hp, hx, Sem.run_bind, Sem.run_pure, Result.andThen_ok, hrun]
  show K (a.put o.dst undef) _
  rw [hN]
  exact hK a _ (h _ (by rw [h3, e1]) hw)
theorem info60s : (Try.prog.info? 60).map (·.size) = some 14 := by kernel_rfl
theorem cell_below {w w' : World} {g o : Nat} {v : Value} (hb : Below w.heap.size w w') (hg : g < w.heap.size) (h : w.cell? ⟨g, o, none⟩ = some v) : w'.cell? ⟨g, o, none⟩ = some v := by
  have e := hb.block g hg
  simp only [World.cell?] at h ⊢
  rw [e]
  exact h
def getL (a : Int) (es : List S60) (i : Int) : S60 × Bool := if a < i then (if i ≤ a + es.length then (rd_T60 es (i - a - 1), true) else (z60, false)) else (z60, false)
theorem get_calls {w : World} {ok : Nat → Prop} {g : Nat} {a t : Int} {es : List S60} (h : Log w ok g a t es) (h0 : 0 ≤ a) (h1 : a + es.length ≤ 4611686018427387904) (hoks : ∀ x ∈ es, okE x) (i : Int) :
    Calls Try.prog 34 #[.pointer (some ⟨g, 0, none⟩), .int .i64 i] w fun e w' => ∃ cs : List Value, e = .returned (.tuple #[.agg cs.toArray, .bool (getL a es i).2]) ∧ k60.M w' w.heap.size (fun _ => True) (getL a es i).1 cs ∧ Below w.heap.size w w' := by
  obtain ⟨A, c, c0, c1, c2, hc, hr⟩ := h.cells
  have HL := Aside0.mk h
  have HR := Aside0.mk hr
  have HO := Aside0.mk hoks
  clear hr h hoks
  unfold getL
  have HGL := Aside0.mk (show g < w.heap.size from by obtain ⟨_, v, hh, _⟩ := HL.out; exact (Array.getElem?_eq_some_iff.1 hh).1)
  by_cases e1 : a < i
  · rw [if_pos e1]
    have d1 : decide (i ≤ a) = false := decide_eq_false (by omega)
    by_cases e2 : i ≤ a + es.length
    · rw [if_pos e2]
      have d2 : decide (i > a + es.length) = false := decide_eq_false (by omega)
      obtain ⟨q, hq⟩ : ∃ q : Nat, i - a - 1 = (q : Int) := ⟨(i - a - 1).toNat, by omega⟩
      have hql : (q : Int) < (es.length : Int) := by omega
      have hql2 : q < es.length := by omega
      rw [hq]
      have hk1 : IntKind.i64.wrap (i - a) = (q : Int) + 1 := by rw [i64_w]; unfold wrap64; omega
      have hk2 : IntKind.i64.wrap ((q : Int) + 1 - 1) = (q : Int) := by rw [i64_w]; unfold wrap64; omega
      have hk3 : IntKind.i64.wrap (q : Int) = (q : Int) := by rw [i64_w]; unfold wrap64; omega
      have hokx : okE (rd_T60 es (q : Int)) := HO.out _ (by simp [rd_T60, hql2])
      have HOK := Aside0.mk hokx
      clear hokx hq
      go_enter Try.func34, Try.ntmps34
      go_wp2_with (first
        | ((with_reducible refine gate_dst (N := 4) rfl ?_)
           refine box_event ?hg (N := 4) ?hd (cs := #[.int .i64 0, .int .i64 0, .int .i64 0, .string ⟨#[]⟩, .string ⟨#[]⟩, .string ⟨#[]⟩, .string ⟨#[]⟩, .string ⟨#[]⟩, .string ⟨#[]⟩, .slice none 0 0, .int .i64 0, .int .i64 0, .int .i64 0, .slice none 0 0]) (t := 60) ?hr ?_
           (case hd => rfl)
           (case hg => rfl)
           (case hr => first | (go_simp; done) | (go_simp; rfl))
           intro gb hgb w4 hbox hb
           have HBX := Aside0.mk hbox
           have HB4 := Aside0.mk hb
           have HG4 := Aside0.mk hgb
           have hL4 := HL.out.below hb
           have HL4 := Aside0.mk hL4
           have k0 : w4.cell? ⟨g, 0, none⟩ = some (.int .i64 a) := by obtain ⟨A, c, c0, c1, c2, hc, hr⟩ := hL4.cells; exact c0
           have k2 : w4.cell? ⟨g, 2, none⟩ = some (.slice A es.length c) := cell_below hb HGL.out c2
           clear hbox hb hL4 hgb)
        | fail)
      refine (last_calls HL4.out (by omega) h1).mono ?_
      rintro _ w5 ⟨rfl, m, rfl⟩
      go_wp2_with fail
      obtain ⟨w1, hw1⟩ : ∃ w1, w1 = w4.drewN m := ⟨_, rfl⟩
      rw [← hw1]
      have p0 : w1.cell? ⟨g, 0, none⟩ = some (.int .i64 a) := by rw [hw1]; exact k0
      have p2 : w1.cell? ⟨g, 2, none⟩ = some (.slice A es.length c) := by rw [hw1]; exact k2
      have HW1 := Aside0.mk (show Below w4.heap.size w4 w1 from by rw [hw1]; exact pw_below_drewN (Below.refl _ _) m)
      clear hw1 k0 k2 c0 c1 c2
      obtain ⟨ad, A9, c9, A13, c13, rfl, y0, y1, y2, y3, y4, y5, y6, y7, y8, y9, y10, y11, y12, y13, l9, g9, l13, g13⟩ := at_T60 (Kd.C_below (Kd.C_below HR.out HB4.out) HW1.out) (q : Int) (by omega) hql
      rw [Int.toNat_natCast] at y0 y1 y2 y3 y4 y5 y6 y7 y8 y9 y10 y11 y12 y13
      have HX := Aside0.mk (And.intro l9 (And.intro g9 (And.intro l13 g13)))
      generalize hxx : rd_T60 es (q : Int) = x at *
      have HXX := Aside0.mk hxx
      clear hxx
      clear l9 g9 l13 g13
      go_still_tail 13, (by kernel_rfl)
      change wpList _ _ _ _ _ w1.drew
      have HWD := Aside0.mk (show Below w4.heap.size w4 w1.drew from below_drew HW1.out)
      have HOWN := Aside0.mk (rlog_own.calls x.f0 x.f1 x.f2.f0 x.f2.f1 x.f2.f2 x.f2.f3 x.f2.f4 x.f2.f5 x.f2.f6 A9 c9 x.f2.f7 x.f2.f8 x.f2.f9 x.f2.f10 A13 c13 x.f3 _ _ _ _ _ _ _ _ _ _ _ _ _ _ w1.drew (Kd.C_drew HX.out.2.1) HX.out.1 (Kd.C_drew HX.out.2.2.2) HX.out.2.2.1 (own_id x HOK.out))
      generalize w1.drew = wd at *
      clear p0 p2 y0 y1 y2 y3 y4 y5 y6 y7 y8 y9 y10 y11 y12 y13
      go_wp2_with fail
      refine HOWN.out.mono ?_
      clear HOWN
      rintro _ w6 ⟨v9, v13, rfl, hv9, hv13, hb6⟩
      have hbb : Below w.heap.size w w6 := HB4.out.trans ((HWD.out.trans (hb6.mono HWD.out.size)).mono HB4.out.size)
      have HB6 := Aside0.mk hbb
      have h6box := (hb6.block gb (by have := HWD.out.size; have := (Array.getElem?_eq_some_iff.1 HBX.out).1; omega)).trans ((HWD.out.block gb (Array.getElem?_eq_some_iff.1 HBX.out).1).trans HBX.out)
      have HV := Aside0.mk (And.intro (Kd.R_lower hv9 (show w.heap.size ≤ wd.heap.size from Nat.le_trans HB4.out.size HWD.out.size)) (Kd.R_lower hv13 (show w.heap.size ≤ wd.heap.size from Nat.le_trans HB4.out.size HWD.out.size)))
      have HBX6 := Aside0.mk h6box
      obtain ⟨B9, b9, rfl⟩ := Kd.R_slice hv9
      obtain ⟨B13, b13, rfl⟩ := Kd.R_slice hv13
      clear hv9 hv13 hb6 hbb h6box
      go_wp2_with (first
        | ((with_reducible refine gate_ (.store 60 (.tmp 4) (.tmp 32)) rfl ?_)
           refine wp_store_box rfl rfl 60 (.tmp 4) (.tmp 32) rfl (g := gb) (e := 60) (cur := #[.int .i64 0, .int .i64 0, .int .i64 0, .string ⟨#[]⟩, .string ⟨#[]⟩, .string ⟨#[]⟩, .string ⟨#[]⟩, .string ⟨#[]⟩, .string ⟨#[]⟩, .slice none 0 0, .int .i64 0, .int .i64 0, .int .i64 0, .slice none 0 0]) [.int .i64 x.f0, .int .i64 x.f1, .int .i64 x.f2.f0, .string x.f2.f1, .string x.f2.f2, .string x.f2.f3, .string x.f2.f4, .string x.f2.f5, .string x.f2.f6, .slice B9 x.f2.f7.length b9, .int .i64 x.f2.f8, .int .i64 x.f2.f9, .int .i64 x.f2.f10, .slice B13 x.f3.length b13] rfl rfl HBX6.out rfl info60s (k60.K_one (k60.K_of_M (k60_mkM w6 _ _ x HV.out.1 HV.out.2))) ?_
           intro w5 hbox5 hg5
           have HB5 := Aside0.mk (And.intro hbox5 hg5)
           clear hbox5 hg5)
        | fail)
      rw [HXX.out]
      refine bodyPost_ret (results_ct rfl _ _ gb 60 ([.int .i64 x.f0, .int .i64 x.f1, .int .i64 x.f2.f0, .string x.f2.f1, .string x.f2.f2, .string x.f2.f3, .string x.f2.f4, .string x.f2.f5, .string x.f2.f6, .slice B9 x.f2.f7.length b9, .int .i64 x.f2.f8, .int .i64 x.f2.f9, .int .i64 x.f2.f10, .slice B13 x.f3.length b13]).toArray (0, 0) _ _ rfl HB5.out.1 rfl Try.underlying60 rfl info60s) rfl ?_
      refine ⟨[.int .i64 x.f0, .int .i64 x.f1, .int .i64 x.f2.f0, .string x.f2.f1, .string x.f2.f2, .string x.f2.f3, .string x.f2.f4, .string x.f2.f5, .string x.f2.f6, .slice B9 x.f2.f7.length b9, .int .i64 x.f2.f8, .int .i64 x.f2.f9, .int .i64 x.f2.f10, .slice B13 x.f3.length b13], rfl, ?_, ?_⟩
      · exact k60_mkM _ _ _ x (Kd.R_mono (Kd.R_grown (Kd.R_types HV.out.1 HBX6.out (by decide)) HB5.out.2 (fun k hk he => hk.2 (by injection he))) (fun k hk => True.intro)) (Kd.R_mono (Kd.R_grown (Kd.R_types HV.out.2 HBX6.out (by decide)) HB5.out.2 (fun k hk he => hk.2 (by injection he))) (fun k hk => True.intro))
      · exact HB6.out.grown HB5.out.2 HB6.out.size (fun k hk => by have hk2 : some gb = some k := hk; injection hk2 with hk2; have := HG4.out; omega)
    · rw [if_neg e2]
      have d2 : decide (i > a + es.length) = true := decide_eq_true (by omega)
      go_enter Try.func34, Try.ntmps34
      go_wp2_with (first
        | ((with_reducible refine gate_dst (N := 4) rfl ?_)
           refine box_event ?hg (N := 4) ?hd (cs := #[.int .i64 0, .int .i64 0, .int .i64 0, .string ⟨#[]⟩, .string ⟨#[]⟩, .string ⟨#[]⟩, .string ⟨#[]⟩, .string ⟨#[]⟩, .string ⟨#[]⟩, .slice none 0 0, .int .i64 0, .int .i64 0, .int .i64 0, .slice none 0 0]) (t := 60) ?hr ?_
           (case hd => rfl)
           (case hg => rfl)
           (case hr => first | (go_simp; done) | (go_simp; rfl))
           intro gb hgb w4 hbox hb
           have HBX := Aside0.mk hbox
           have HB4 := Aside0.mk hb
           have HG4 := Aside0.mk hgb
           have hL4 := HL.out.below hb
           have HL4 := Aside0.mk hL4
           have k0 : w4.cell? ⟨g, 0, none⟩ = some (.int .i64 a) := by obtain ⟨A, c, c0, c1, c2, hc, hr⟩ := hL4.cells; exact c0
           have k2 : w4.cell? ⟨g, 2, none⟩ = some (.slice A es.length c) := cell_below hb HGL.out c2
           clear hbox hb hL4 hgb)
        | fail)
      refine (last_calls HL4.out (by omega) h1).mono ?_
      rintro _ w5 ⟨rfl, m, rfl⟩
      have HB4m := Aside0.mk (pw_below_drewN HB4.out m)
      go_wp2_with (first
        | ((with_reducible refine gate_ (.store 60 (.tmp 4) (.tmp 18)) rfl ?_)
           refine wp_store_box rfl rfl 60 (.tmp 4) (.tmp 18) rfl (g := gb) (e := 60) (cur := #[.int .i64 0, .int .i64 0, .int .i64 0, .string ⟨#[]⟩, .string ⟨#[]⟩, .string ⟨#[]⟩, .string ⟨#[]⟩, .string ⟨#[]⟩, .string ⟨#[]⟩, .slice none 0 0, .int .i64 0, .int .i64 0, .int .i64 0, .slice none 0 0]) [.int .i64 0, .int .i64 0, .int .i64 0, .string ⟨#[]⟩, .string ⟨#[]⟩, .string ⟨#[]⟩, .string ⟨#[]⟩, .string ⟨#[]⟩, .string ⟨#[]⟩, .slice none 0 0, .int .i64 0, .int .i64 0, .int .i64 0, .slice none 0 0] rfl rfl HBX.out rfl info60s (k60.K_one (k60.K_of_M (k60_mkM w 0 (fun _ => True) z60 (Kd.R_nil _ _ _ _ _) (Kd.R_nil _ _ _ _ _)))) ?_
           intro w5 hbox5 hg5
           have HB5 := Aside0.mk (And.intro hbox5 hg5)
           clear hbox5 hg5)
        | fail)
      refine bodyPost_ret (results_ct rfl _ _ gb 60 #[.int .i64 0, .int .i64 0, .int .i64 0, .string ⟨#[]⟩, .string ⟨#[]⟩, .string ⟨#[]⟩, .string ⟨#[]⟩, .string ⟨#[]⟩, .string ⟨#[]⟩, .slice none 0 0, .int .i64 0, .int .i64 0, .int .i64 0, .slice none 0 0] (0, 0) _ _ rfl HB5.out.1 rfl Try.underlying60 rfl info60s) rfl ?_
      refine ⟨[.int .i64 0, .int .i64 0, .int .i64 0, .string ⟨#[]⟩, .string ⟨#[]⟩, .string ⟨#[]⟩, .string ⟨#[]⟩, .string ⟨#[]⟩, .string ⟨#[]⟩, .slice none 0 0, .int .i64 0, .int .i64 0, .int .i64 0, .slice none 0 0], rfl, ?_, ?_⟩
      · exact k60_mkM _ _ _ z60 (Kd.R_nil _ _ _ _ _) (Kd.R_nil _ _ _ _ _)
      · exact HB4m.out.grown HB5.out.2 (HB4m.out).size (fun k hk => by have hk2 : some gb = some k := hk; injection hk2 with hk2; have := HG4.out; omega)
  · rw [if_neg e1]
    have d1 : decide (i ≤ a) = true := decide_eq_true (by omega)
    go_enter Try.func34, Try.ntmps34
    go_wp2_with (first
      | ((with_reducible refine gate_dst (N := 4) rfl ?_)
         refine box_event ?hg (N := 4) ?hd (cs := #[.int .i64 0, .int .i64 0, .int .i64 0, .string ⟨#[]⟩, .string ⟨#[]⟩, .string ⟨#[]⟩, .string ⟨#[]⟩, .string ⟨#[]⟩, .string ⟨#[]⟩, .slice none 0 0, .int .i64 0, .int .i64 0, .int .i64 0, .slice none 0 0]) (t := 60) ?hr ?_
         (case hd => rfl)
         (case hg => rfl)
         (case hr => first | (go_simp; done) | (go_simp; rfl))
         intro gb hgb w4 hbox hb
         have HBX := Aside0.mk hbox
         have HB4 := Aside0.mk hb
         have HG4 := Aside0.mk hgb
         have hL4 := HL.out.below hb
         have HL4 := Aside0.mk hL4
         have k0 : w4.cell? ⟨g, 0, none⟩ = some (.int .i64 a) := by obtain ⟨A, c, c0, c1, c2, hc, hr⟩ := hL4.cells; exact c0
         have k2 : w4.cell? ⟨g, 2, none⟩ = some (.slice A es.length c) := cell_below hb HGL.out c2
         clear hbox hb hL4 hgb)
      | ((with_reducible refine gate_ (.store 60 (.tmp 4) (.tmp 18)) rfl ?_)
         refine wp_store_box rfl rfl 60 (.tmp 4) (.tmp 18) rfl (g := gb) (e := 60) (cur := #[.int .i64 0, .int .i64 0, .int .i64 0, .string ⟨#[]⟩, .string ⟨#[]⟩, .string ⟨#[]⟩, .string ⟨#[]⟩, .string ⟨#[]⟩, .string ⟨#[]⟩, .slice none 0 0, .int .i64 0, .int .i64 0, .int .i64 0, .slice none 0 0]) [.int .i64 0, .int .i64 0, .int .i64 0, .string ⟨#[]⟩, .string ⟨#[]⟩, .string ⟨#[]⟩, .string ⟨#[]⟩, .string ⟨#[]⟩, .string ⟨#[]⟩, .slice none 0 0, .int .i64 0, .int .i64 0, .int .i64 0, .slice none 0 0] rfl rfl HBX.out rfl info60s (k60.K_one (k60.K_of_M (k60_mkM w 0 (fun _ => True) z60 (Kd.R_nil _ _ _ _ _) (Kd.R_nil _ _ _ _ _)))) ?_
         intro w5 hbox5 hg5
         have HB5 := Aside0.mk (And.intro hbox5 hg5)
         clear hbox5 hg5)
      | fail)
    refine bodyPost_ret (results_ct rfl _ _ gb 60 #[.int .i64 0, .int .i64 0, .int .i64 0, .string ⟨#[]⟩, .string ⟨#[]⟩, .string ⟨#[]⟩, .string ⟨#[]⟩, .string ⟨#[]⟩, .string ⟨#[]⟩, .slice none 0 0, .int .i64 0, .int .i64 0, .int .i64 0, .slice none 0 0] (0, 0) _ _ rfl HB5.out.1 rfl Try.underlying60 rfl info60s) rfl ?_
    refine ⟨[.int .i64 0, .int .i64 0, .int .i64 0, .string ⟨#[]⟩, .string ⟨#[]⟩, .string ⟨#[]⟩, .string ⟨#[]⟩, .string ⟨#[]⟩, .string ⟨#[]⟩, .slice none 0 0, .int .i64 0, .int .i64 0, .int .i64 0, .slice none 0 0], rfl, ?_, ?_⟩
    · exact k60_mkM _ _ _ z60 (Kd.R_nil _ _ _ _ _) (Kd.R_nil _ _ _ _ _)
    · exact HB4.out.grown HB5.out.2 (HB4.out).size (fun k hk => by have hk2 : some gb = some k := hk; injection hk2 with hk2; have := HG4.out; omega)

end Go.Proofs.Ytigjfnleinhahaa.PLog
