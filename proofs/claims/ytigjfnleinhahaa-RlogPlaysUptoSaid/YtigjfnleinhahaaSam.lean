/- A log, as the document has it. -/
import Derived.Test.YtigjfnleinhahaaSamL

namespace Go.Proofs.Ytigjfnleinhahaa.PLog
open Go.RowKit Go.Proofs.YtigjfnleinhahaaW.PrintWords Go.Proofs.YtigjfnleinhahaaW.PrintLast Go.Proofs.YtigjfnleinhahaaW.PrintMore
open Go.Proofs.Ytigjfnleinhahaa.Reg
set_option linter.unusedVariables false
set_option linter.unusedSimpArgs false
set_option maxHeartbeats 4000000
set_option maxRecDepth 100000

theorem R_one {W : World} {base : Nat} {ok : Nat → Prop} {x : S60} {cs : List Value} (h : k60.M W base ok x cs) (hb : base ≤ W.heap.size) : Kd.R k60 60 (W.alloc (.cells cs.toArray 60)) base (fun k => ok k ∨ W.heap.size ≤ k) (.slice (some ⟨W.heap.size, 0, none⟩) 1 1) [x] := by
  have hl : cs.length = 14 := k60.K_len (k60.K_of_M h)
  refine ⟨fun k hk => by simp [Value.ownBlock] at hk; omega, cs, ?_, ?_, fun j p hj => ?_⟩
  · have h2 := World.ownsRow_lit (base := base) (e := 60) (size := 14) W cs.toArray 1 hb (by decide) (by simp [hl])
    have e : cs.toArray.toList = cs := rfl
    rw [e] at h2
    exact h2
  · show cs.length = 1 * 14
    omega
  · have hj0 : j = 0 := by have := (List.getElem?_eq_some_iff.1 hj).1; simp at this; omega
    subst hj0
    have hx : p = x := by simpa using hj.symm
    subst hx
    have e : (cs.drop (0 * k60.sz)).take k60.sz = cs := by
      rw [Nat.zero_mul, List.drop_zero]
      exact List.take_of_length_le (by show cs.length ≤ 14; omega)
    rw [e]
    refine Kd.M_below (k60.M_mono (fun k hk => ⟨.inl hk.1, fun he => ?_⟩) (k60.M_bound h)) (below_alloc (Below.refl _ _) _)
    have he2 : some k = some W.heap.size := he
    injection he2 with he2
    have := hk.2.2.1
    omega
def SamSt (w w4 : World) (ok1 ok2 : Nat → Prop) (g1 g2 : Nat) (a t : Int) (es : List S60) (gb : Nat) (e : S60) (cs : List Value) (W : World) : Prop :=
  (Log W ok1 g1 a t es ∧ LogX W ok2 g2 a t es ∧ Below w.heap.size w W) ∧ W.heap[gb]? = some (.cells cs.toArray 60 (0, 0)) ∧ k60.M W w4.heap.size (fun k => w4.heap.size ≤ k) e cs ∧ Below w4.heap.size w4 W
theorem SamSt.below {w w4 : World} {ok1 ok2 : Nat → Prop} {g1 g2 : Nat} {a t : Int} {es : List S60} {gb : Nat} {e : S60} {cs : List Value} {W W2 : World} (h : SamSt w w4 ok1 ok2 g1 g2 a t es gb e cs W) (hb : Below W.heap.size W W2) : SamSt w w4 ok1 ok2 g1 g2 a t es gb e cs W2 := by
  obtain ⟨⟨h1, h2, h3⟩, h4, h5, h6⟩ := h
  exact ⟨⟨h1.below hb, h2.below hb, h3.trans (hb.mono h3.size)⟩, (hb.block gb (Array.getElem?_eq_some_iff.1 h4).1).trans h4, Kd.M_below h5 hb, h6.trans (hb.mono h6.size)⟩
theorem SamSt.drewN {w w4 : World} {ok1 ok2 : Nat → Prop} {g1 g2 : Nat} {a t : Int} {es : List S60} {gb : Nat} {e : S60} {cs : List Value} {W : World} (h : SamSt w w4 ok1 ok2 g1 g2 a t es gb e cs W) (m : Nat) : SamSt w w4 ok1 ok2 g1 g2 a t es gb e cs (W.drewN m) := h.below (pw_below_drewN (Below.refl _ _) m)
theorem same_step {w w2 w4 wg wb w5 : World} {ok1 ok2 : Nat → Prop} {g1 g2 : Nat} {a t : Int} {es : List S60} {gb : Nat} {e : S60} {cs : List Value} (hw : Below w.heap.size w w2) (h4 : Log w4 ok1 g1 a t es ∧ LogX w4 ok2 g2 a t es ∧ Below w2.heap.size w2 w4)
    (hM : k60.M wg w4.heap.size (fun k => w4.heap.size ≤ k ∧ k < wg.heap.size) e cs) (hg : Below w4.heap.size w4 wg) (hgb : gb = wg.heap.size) (hb : Below wg.heap.size wg wb) (hh : w5.heap[gb]? = some (.cells cs.toArray 60 (0, 0))) (h5 : wb.grownBy w5 (some gb)) : SamSt w w4 ok1 ok2 g1 g2 a t es gb e cs w5 := by
  have hs := hg.size
  have h45 : Below w4.heap.size w4 w5 := (hg.trans (hb.mono hs)).grown h5 (Nat.le_trans hs hb.size) (fun k hk => by injection hk with hk; omega)
  refine ⟨⟨h4.1.below h45, h4.2.1.below h45, ?_⟩, hh, k60.M_mono (fun k hk => hk.1) (Kd.M_grown (Kd.M_below hM hb) h5 (fun k hk he => by injection he with he; omega)), h45⟩
  exact hw.trans ((h4.2.2.trans (h45.mono h4.2.2.size)).mono hw.size)
theorem same_after {w w2 w4 w6 w7 : World} {ok1 ok2 : Nat → Prop} {g1 g2 : Nat} {a t : Int} {es : List S60} {gb : Nat} {e : S60} {cs : List Value} {c2 : Array Value} (h : SamSt w w4 ok1 ok2 g1 g2 a t es gb e cs w6) (h24 : Below w2.heap.size w2 w4)
    (hK : Kept (w6.alloc (.cells c2 60)) w7 (fun k => w4.heap.size ≤ k ∨ w6.heap.size ≤ k)) (hB : Below 0 (w6.alloc (.cells c2 60)) w7) : Below w2.heap.size w2 w7 := by
  have h6 : Below w2.heap.size w2 (w6.alloc (.cells c2 60)) := (h24.trans (h.2.2.2.mono h24.size)).trans ((below_alloc (Below.refl _ _) _).mono (Nat.le_trans h24.size h.2.2.2.size))
  exact below_kept h6 hK hB (fun k hk => by have := h24.size; have := h.2.2.2.size; omega)
theorem okS_z60 : okS z60 := by
  refine ⟨by simp [z60], by simp [z60, z58], ?_⟩
  simp [cmdLen, z60, z58, namesLen, ByteArray.size]
theorem take_1000 (es : List S60) : es.take 1000 = es.take (min es.length 1000) := by
  by_cases h : es.length ≤ 1000
  · rw [Nat.min_eq_left h, List.take_of_length_le h, List.take_length]
  · rw [Nat.min_eq_right (by omega)]
theorem from_all (a : Int) (es : List S60) : fromL a es (a + 1) 1000 = es.take 1000 := by
  unfold fromL
  rw [if_neg (by omega)]
  by_cases h : a + (es.length : Int) < a + 1
  · have : es = [] := List.eq_nil_of_length_eq_zero (by omega)
    rw [if_pos h, this]
    rfl
  · rw [if_neg h, if_neg (by decide)]
    have e : (a + 1 - a - 1).toNat = 0 := by omega
    rw [e]
    rfl
theorem same_log {w : World} {ok1 ok2 : Nat → Prop} {g1 g2 : Nat} {a t : Int} {es : List S60} (h1 : Log w ok1 g1 a t es) (h2 : LogX w ok2 g2 a t es) (h0 : 0 ≤ a) (ha : a + es.length ≤ 4611686018427387904) (hoe : ∀ x ∈ es, okE x) (hos : ∀ x ∈ es, okS x) (hlen : es.length ≤ 733007751850) (x : Int) :
    Calls Try.prog 26 #[.pointer (some ⟨g1, 0, none⟩), .pointer (some ⟨g2, 0, none⟩), .int .i64 x] w fun e w' => e = .returned (.bool true) ∧ Below w.heap.size w w' := by
  have HL1 := Aside0.mk h1
  have HL2 := Aside0.mk h2
  have HN := Aside0.mk (And.intro h0 (And.intro ha (And.intro hoe (And.intro hos hlen))))
  have c0 : w.cell? ⟨g2, 0, none⟩ = some (.int .i64 a) := by obtain ⟨_, _, q, _⟩ := h2.cells; exact q
  have K33 := Aside0.mk (fun n => base_calls (h1.drewN n))
  have K10 := Aside0.mk (fun n => last_calls (h1.drewN n) (by omega) ha)
  have K21 := Aside0.mk (fun n => last_x (h2.drewN n) (by omega) ha)
  clear h1 h2 hoe hos h0 ha hlen
  go_enter Try.func26, Try.ntmps26
  go_wp2_with fail
  go_quiet ((first | (go_at_call 33; exact Calls.quiet_of (K33.out _)) | (go_at_call 10; exact Calls.quiet_of (K10.out _)) | (go_at_call 21; exact Calls.quiet_of (K21.out _))))
  go_wp2_with fail
  clear K33 K10 K21 c0
  obtain ⟨w1, hw1⟩ : ∃ w1, w1 = w.drewN nq := ⟨_, rfl⟩
  rw [← hw1]
  have HS1 : Aside0 (Log w1 ok1 g1 a t es ∧ LogX w1 ok2 g2 a t es ∧ Below w.heap.size w w1) := Aside0.mk (by
    rw [hw1]
    exact ⟨HL1.out.drewN _, HL2.out.drewN _, pw_below_drewN (Below.refl _ _) _⟩)
  clear hw1
  refine regionP (by kernel_rfl) w ok1 ok2 g1 g2 a t es HN.out.1 HN.out.2.1 x _ _ ?hI rfl rfl rfl rfl ?_
  case hI => rintro (_ | _) <;> first | exact HS1.out | exact True.intro
  intro a2 w2 hA h12 h13 h14 hI2
  have e13 : slotO dstP a2 13 = .int .i64 4 := h13
  have e14 : slotO dstP a2 14 = .int .i64 0 := h14
  obtain ⟨gl, e12, hC2⟩ : ∃ g, slotO dstP a2 12 = .slice (some ⟨g, 0, none⟩) 4 4 ∧ (Kd.int .i64).C w2 (some ⟨g, 0, none⟩) 4 [x, a, a + 1, a + es.length] := h12
  have HI2 : Aside0 (Log w2 ok1 g1 a t es ∧ LogX w2 ok2 g2 a t es ∧ Below w.heap.size w w2) := Aside0.mk hI2
  have HC2 := Aside0.mk hC2
  clear h13 h14 hI2 hC2
  rw [hA.frame hinP]
  clear hA
  simp only [List.range_succ, List.range_zero, List.nil_append, List.cons_append, foldO, dstP, List.getD_cons_zero, List.getD_cons_succ, Act.put]
  rw [e12, e13, e14]
  clear e12 e13 e14
  generalize slotO dstP a2 0 = z0
  generalize slotO dstP a2 1 = z1
  generalize slotO dstP a2 2 = z2
  generalize slotO dstP a2 3 = z3
  generalize slotO dstP a2 4 = z4
  generalize slotO dstP a2 5 = z5
  generalize slotO dstP a2 6 = z6
  generalize slotO dstP a2 7 = z7
  generalize slotO dstP a2 8 = z8
  generalize slotO dstP a2 9 = z9
  generalize slotO dstP a2 10 = z10
  generalize slotO dstP a2 11 = z11
  clear a2
  go_simp
  have HBW0 := Aside0.mk (Below.refl w2.heap.size w2)
  go_wp2_with fail
  go_loopw [46] (fun v46 wr => ∃ k : Nat, v46 = .int .i64 (k : Int) ∧ Aside0 (k ≤ 4) ∧ Aside0 (Below w2.heap.size w2 wr)) (fun v46 _ => 4 - (intOf v46).toNat)
  case atStart => exact ⟨0, rfl, Aside0.mk (by omega), HBW0⟩
  case round =>
    obtain ⟨k, rfl, HK, HBW⟩ := hrel
    by_cases hk : k < 4
    · have d1 : decide ((k : Int) < 4) = true := decide_eq_true (by omega)
      obtain ⟨ad, c, had, hcl, hcK, hcc⟩ := Kd.C_get (Kd.C_below HC2.out HBW.out) (0 : Int) (k : Int) (by omega) (by omega)
      injection had with had
      subst had
      rw [Int.toNat_natCast] at hcK hcc
      have hcK' : c = [.int .i64 ([x, a, a + 1, a + es.length].getD k 0)] := hcK
      subst hcK'
      have pk : wr.cell? ⟨gl, k, none⟩ = some (.int .i64 ([x, a, a + 1, a + es.length].getD k 0)) := by
        have h := hcc 0 _ rfl
        have e : (⟨gl, 0, none⟩ : Addr).add (k * (Kd.int .i64).sz + 0) = ⟨gl, k, none⟩ := by
          simp [Addr.add, Kd.int, Kd.scalar]
          omega
        rw [e] at h
        exact h
      generalize [x, a, a + 1, a + (es.length : Int)].getD k 0 = i at pk
      have HK4 := Aside0.mk hk
      have hk0 : (0 : Int) ≤ (k : Int) := by omega
      have hki : (k : Int) < 4 := by omega
      have hwk : wrap64 ((k : Int) + 1) = ((k + 1 : Nat) : Int) := by unfold wrap64; omega
      clear hcl hcK hcc
      have HL1r := Aside0.mk (HI2.out.1.below HBW.out)
      have HL2r := Aside0.mk (HI2.out.2.1.below HBW.out)
      generalize hT : termAt a t es i = T
      have HT := Aside0.mk hT
      clear hT
      obtain ⟨T1, b⟩ := T
      go_wp2_with fail
      refine (term_calls HL1r.out HN.out.1 HN.out.2.1 i).mono ?_
      rw [HT.out]
      rintro _ w3 ⟨rfl, m3, rfl⟩
      go_wp2_with fail
      refine (term_x (HL2r.out.drewN m3) HN.out.1 HN.out.2.1 i).mono ?_
      rw [HT.out]
      rintro _ w4 ⟨rfl, m4, rfl⟩
      go_wp2_with fail
      obtain ⟨w4, hw4⟩ : ∃ w4, w4 = wr.drewN (m3 + m4) := ⟨_, rfl⟩
      rw [← hw4]
      have HI4 : Aside0 (Log w4 ok1 g1 a t es ∧ LogX w4 ok2 g2 a t es ∧ Below w2.heap.size w2 w4) := Aside0.mk (by
        rw [hw4]
        exact ⟨HL1r.out.drewN _, HL2r.out.drewN _, pw_below_drewN HBW.out _⟩)
      clear hw4 pk
      refine (get_calls HI4.out.1 HN.out.1 HN.out.2.1 HN.out.2.2.1 i).mono ?_
      rintro _ wg ⟨cs, rfl, hM, hBg⟩
      generalize hG : getL a es i = G at hM ⊢
      obtain ⟨e, inn⟩ := G
      have HMG := Aside0.mk (k60.M_mono (ok' := fun k => w4.heap.size ≤ k ∧ k < wg.heap.size) (fun k hk => ⟨hk.2.1, hk.2.2.1⟩) (k60.M_bound hM))
      have HBG := Aside0.mk hBg
      have HCL := Aside0.mk (k60.K_len (k60.K_of_M hM))
      clear hM hBg
      unfold getL at hG
      by_cases hai : a < i
      · rw [if_pos hai] at hG
        have d2 : decide (a < i) = true := decide_eq_true hai
        by_cases hil : i ≤ a + es.length
        · rw [if_pos hil] at hG
          injection hG with hG1 hG2
          subst hG2
          have d3 : decide (i ≤ a + es.length) = true := decide_eq_true hil
          obtain ⟨q, hq⟩ : ∃ q : Nat, i - a - 1 = (q : Int) := ⟨(i - a - 1).toNat, by omega⟩
          have hql : q < es.length := by omega
          rw [hq] at hG1
          have HQ := Aside0.mk (And.intro hq hql)
          have HE := Aside0.mk hG1
          have HOE := Aside0.mk (show okS e from by rw [← hG1]; exact HN.out.2.2.2.1 _ (by simp [rd_T60, hql]))
          clear hq hql hG1
          go_wp2_with (first
            | ((with_reducible refine gate_dst (N := 13) rfl ?_)
               refine box_event ?hg (N := 13) ?hd (cs := #[.int .i64 0, .int .i64 0, .int .i64 0, .string ⟨#[]⟩, .string ⟨#[]⟩, .string ⟨#[]⟩, .string ⟨#[]⟩, .string ⟨#[]⟩, .string ⟨#[]⟩, .slice none 0 0, .int .i64 0, .int .i64 0, .int .i64 0, .slice none 0 0]) (t := 60) ?hr ?_
               (case hd => rfl)
               (case hg => rfl)
               (case hr => first | (go_simp; done) | (go_simp; rfl))
               intro gb hgb wb hbox hb
               have HBX := Aside0.mk hbox
               have HBB := Aside0.mk hb
               have HGB := Aside0.mk hgb
               clear hbox hb hgb)
            | ((with_reducible refine gate_ (.store 60 (.tmp 13) (.tmp 66)) rfl ?_)
               refine wp_store_box rfl rfl 60 (.tmp 13) (.tmp 66) rfl (g := gb) (e := 60) (cur := #[.int .i64 0, .int .i64 0, .int .i64 0, .string ⟨#[]⟩, .string ⟨#[]⟩, .string ⟨#[]⟩, .string ⟨#[]⟩, .string ⟨#[]⟩, .string ⟨#[]⟩, .slice none 0 0, .int .i64 0, .int .i64 0, .int .i64 0, .slice none 0 0]) cs rfl rfl HBX.out (by rw [HCL.out]; rfl) (by rw [HCL.out]; exact info60s) (k60.K_one (k60.K_of_M HMG.out)) ?_
               intro w5 hbox5 hg5
               have HI5 := Aside0.mk (same_step HI2.out.2.2 HI4.out HMG.out HBG.out HGB.out HBB.out hbox5 hg5)
               have p0 : w5.cell? ⟨g2, 0, none⟩ = some (.int .i64 a) := by obtain ⟨_, _, q, _⟩ := HI5.out.1.2.1.cells; exact q
               clear hbox5 hg5)
            | fail)
          refine (last_x HI5.out.1.2.1 (by have := HN.out.1; omega) HN.out.2.1).mono ?_
          rintro _ wq ⟨rfl, m5, rfl⟩
          go_wp2_with fail
          obtain ⟨wq, hwq⟩ : ∃ wq, wq = w5.drewN m5 := ⟨_, rfl⟩
          rw [← hwq]
          have HIQ := Aside0.mk (show SamSt w w4 ok1 ok2 g1 g2 a t es gb e cs wq from by rw [hwq]; exact HI5.out.drewN m5)
          clear hwq p0
          refine regionY (by kernel_rfl) wq ok1 ok2 g1 g2 a t es HN.out.1 HN.out.2.1 i T1 b gb e cs HOE.out q HQ.out.1 HQ.out.2 HE.out _ _ ?hI rfl rfl rfl rfl rfl rfl rfl rfl rfl rfl rfl ?_
          case hI => rintro (_ | _) <;> first | exact ⟨⟨HIQ.out.1.1, HIQ.out.1.2.1, Below.refl _ _⟩, HIQ.out.2.1, k60.K_of_M HIQ.out.2.2.1⟩ | exact True.intro
          intro a2 w6 hA h52 hI6
          have e52 : slotO dstY a2 52 = .bool false := h52
          have HB6 : Aside0 (Below wq.heap.size wq w6) := Aside0.mk hI6.1.2.2
          clear h52 hI6
          rw [hA.frame hinY]
          clear hA
          simp only [List.range_succ, List.range_zero, List.nil_append, List.cons_append, foldO, dstY, List.getD_cons_zero, List.getD_cons_succ, Act.put]
          rw [e52]
          clear e52
          generalize slotO dstY a2 0 = z0'
          generalize slotO dstY a2 1 = z1'
          generalize slotO dstY a2 2 = z2'
          generalize slotO dstY a2 3 = z3'
          generalize slotO dstY a2 4 = z4'
          generalize slotO dstY a2 5 = z5'
          generalize slotO dstY a2 6 = z6'
          generalize slotO dstY a2 7 = z7'
          generalize slotO dstY a2 8 = z8'
          generalize slotO dstY a2 9 = z9'
          generalize slotO dstY a2 10 = z10'
          generalize slotO dstY a2 11 = z11'
          generalize slotO dstY a2 12 = z12'
          generalize slotO dstY a2 13 = z13'
          generalize slotO dstY a2 14 = z14'
          generalize slotO dstY a2 15 = z15'
          generalize slotO dstY a2 16 = z16'
          generalize slotO dstY a2 17 = z17'
          generalize slotO dstY a2 18 = z18'
          generalize slotO dstY a2 19 = z19'
          generalize slotO dstY a2 20 = z20'
          generalize slotO dstY a2 21 = z21'
          generalize slotO dstY a2 22 = z22'
          generalize slotO dstY a2 23 = z23'
          generalize slotO dstY a2 24 = z24'
          generalize slotO dstY a2 25 = z25'
          generalize slotO dstY a2 26 = z26'
          generalize slotO dstY a2 27 = z27'
          generalize slotO dstY a2 28 = z28'
          generalize slotO dstY a2 29 = z29'
          generalize slotO dstY a2 30 = z30'
          generalize slotO dstY a2 31 = z31'
          generalize slotO dstY a2 32 = z32'
          generalize slotO dstY a2 33 = z33'
          generalize slotO dstY a2 34 = z34'
          generalize slotO dstY a2 35 = z35'
          generalize slotO dstY a2 36 = z36'
          generalize slotO dstY a2 37 = z37'
          generalize slotO dstY a2 38 = z38'
          generalize slotO dstY a2 39 = z39'
          generalize slotO dstY a2 40 = z40'
          generalize slotO dstY a2 41 = z41'
          generalize slotO dstY a2 42 = z42'
          generalize slotO dstY a2 43 = z43'
          generalize slotO dstY a2 44 = z44'
          generalize slotO dstY a2 45 = z45'
          generalize slotO dstY a2 46 = z46'
          generalize slotO dstY a2 47 = z47'
          generalize slotO dstY a2 48 = z48'
          generalize slotO dstY a2 49 = z49'
          generalize slotO dstY a2 50 = z50'
          generalize slotO dstY a2 51 = z51'
          clear a2
          have hS6 := HIQ.out.below HB6.out
          obtain ⟨v9, v13, hcs, -, -⟩ := k60_openM hS6.2.2.1
          have hh6 := hS6.2.1
          have HS6 := Aside0.mk hS6
          have HR6 := Aside0.mk (R_one hS6.2.2.1 hS6.2.2.2.size)
          rw [hcs] at hh6 HR6
          have q0 : w6.cell? ⟨gb, 0, none⟩ = some (.int .i64 e.f0) := (blk_cell hh6 0).trans rfl
          have q1 : w6.cell? ⟨gb, 1, none⟩ = some (.int .i64 e.f1) := (blk_cell hh6 1).trans rfl
          have q2 : w6.cell? ⟨gb, 2, none⟩ = some (.int .i64 e.f2.f0) := (blk_cell hh6 2).trans rfl
          have q3 : w6.cell? ⟨gb, 3, none⟩ = some (.string e.f2.f1) := (blk_cell hh6 3).trans rfl
          have q4 : w6.cell? ⟨gb, 4, none⟩ = some (.string e.f2.f2) := (blk_cell hh6 4).trans rfl
          have q5 : w6.cell? ⟨gb, 5, none⟩ = some (.string e.f2.f3) := (blk_cell hh6 5).trans rfl
          have q6 : w6.cell? ⟨gb, 6, none⟩ = some (.string e.f2.f4) := (blk_cell hh6 6).trans rfl
          have q7 : w6.cell? ⟨gb, 7, none⟩ = some (.string e.f2.f5) := (blk_cell hh6 7).trans rfl
          have q8 : w6.cell? ⟨gb, 8, none⟩ = some (.string e.f2.f6) := (blk_cell hh6 8).trans rfl
          have q9 : w6.cell? ⟨gb, 9, none⟩ = some (v9) := (blk_cell hh6 9).trans rfl
          have q10 : w6.cell? ⟨gb, 10, none⟩ = some (.int .i64 e.f2.f8) := (blk_cell hh6 10).trans rfl
          have q11 : w6.cell? ⟨gb, 11, none⟩ = some (.int .i64 e.f2.f9) := (blk_cell hh6 11).trans rfl
          have q12 : w6.cell? ⟨gb, 12, none⟩ = some (.int .i64 e.f2.f10) := (blk_cell hh6 12).trans rfl
          have q13 : w6.cell? ⟨gb, 13, none⟩ = some (v13) := (blk_cell hh6 13).trans rfl
          clear hS6 hh6 hcs
          go_simp
          go_wp2_with fail
          refine (spoil_calls HR6.out (by simp)).mono ?_
          rintro _ w7 ⟨rfl, hK7, hB7⟩
          have HB7 := Aside0.mk (same_after HS6.out HI4.out.2.2 hK7 hB7)
          clear hK7 hB7
          go_wp2_with fail
          go_roundw
          case rel => exact ⟨k + 1, by first | rw [hwk] | rfl, Aside0.mk HK4.out, HB7⟩
          case measure => first | (rw [hwk]; simp [intOf]; have := HK4.out; omega) | (simp [intOf]; have := HK4.out; omega)
        · rw [if_neg hil] at hG
          injection hG with hG1 hG2
          subst hG2
          have d3 : decide (i ≤ a + es.length) = false := decide_eq_false hil
          have HE := Aside0.mk hG1.symm
          have HOE := Aside0.mk (show okS e from by rw [← hG1]; exact okS_z60)
          clear hG1
          go_wp2_with (first
            | ((with_reducible refine gate_dst (N := 13) rfl ?_)
               refine box_event ?hg (N := 13) ?hd (cs := #[.int .i64 0, .int .i64 0, .int .i64 0, .string ⟨#[]⟩, .string ⟨#[]⟩, .string ⟨#[]⟩, .string ⟨#[]⟩, .string ⟨#[]⟩, .string ⟨#[]⟩, .slice none 0 0, .int .i64 0, .int .i64 0, .int .i64 0, .slice none 0 0]) (t := 60) ?hr ?_
               (case hd => rfl)
               (case hg => rfl)
               (case hr => first | (go_simp; done) | (go_simp; rfl))
               intro gb hgb wb hbox hb
               have HBX := Aside0.mk hbox
               have HBB := Aside0.mk hb
               have HGB := Aside0.mk hgb
               clear hbox hb hgb)
            | ((with_reducible refine gate_ (.store 60 (.tmp 13) (.tmp 66)) rfl ?_)
               refine wp_store_box rfl rfl 60 (.tmp 13) (.tmp 66) rfl (g := gb) (e := 60) (cur := #[.int .i64 0, .int .i64 0, .int .i64 0, .string ⟨#[]⟩, .string ⟨#[]⟩, .string ⟨#[]⟩, .string ⟨#[]⟩, .string ⟨#[]⟩, .string ⟨#[]⟩, .slice none 0 0, .int .i64 0, .int .i64 0, .int .i64 0, .slice none 0 0]) cs rfl rfl HBX.out (by rw [HCL.out]; rfl) (by rw [HCL.out]; exact info60s) (k60.K_one (k60.K_of_M HMG.out)) ?_
               intro w5 hbox5 hg5
               have HI5 := Aside0.mk (same_step HI2.out.2.2 HI4.out HMG.out HBG.out HGB.out HBB.out hbox5 hg5)
               have p0 : w5.cell? ⟨g2, 0, none⟩ = some (.int .i64 a) := by obtain ⟨_, _, q, _⟩ := HI5.out.1.2.1.cells; exact q
               clear hbox5 hg5)
            | fail)
          refine (last_x HI5.out.1.2.1 (by have := HN.out.1; omega) HN.out.2.1).mono ?_
          rintro _ wq ⟨rfl, m5, rfl⟩
          go_wp2_with fail
          obtain ⟨wq, hwq⟩ : ∃ wq, wq = w5.drewN m5 := ⟨_, rfl⟩
          rw [← hwq]
          have HIQ := Aside0.mk (show SamSt w w4 ok1 ok2 g1 g2 a t es gb e cs wq from by rw [hwq]; exact HI5.out.drewN m5)
          clear hwq p0
          refine regionZ (by kernel_rfl) wq ok1 ok2 g1 g2 a t es HN.out.1 HN.out.2.1 i T1 b gb e cs HOE.out HE.out _ _ ?hI rfl rfl rfl rfl rfl rfl rfl rfl rfl rfl rfl ?_
          case hI => rintro (_ | _) <;> first | exact ⟨⟨HIQ.out.1.1, HIQ.out.1.2.1, Below.refl _ _⟩, HIQ.out.2.1, k60.K_of_M HIQ.out.2.2.1⟩ | exact True.intro
          intro a2 w6 hA h52 hI6
          have e52 : slotO dstZ a2 52 = .bool false := h52
          have HB6 : Aside0 (Below wq.heap.size wq w6) := Aside0.mk hI6.1.2.2
          clear h52 hI6
          rw [hA.frame hinZ]
          clear hA
          simp only [List.range_succ, List.range_zero, List.nil_append, List.cons_append, foldO, dstZ, List.getD_cons_zero, List.getD_cons_succ, Act.put]
          rw [e52]
          clear e52
          generalize slotO dstZ a2 0 = z0'
          generalize slotO dstZ a2 1 = z1'
          generalize slotO dstZ a2 2 = z2'
          generalize slotO dstZ a2 3 = z3'
          generalize slotO dstZ a2 4 = z4'
          generalize slotO dstZ a2 5 = z5'
          generalize slotO dstZ a2 6 = z6'
          generalize slotO dstZ a2 7 = z7'
          generalize slotO dstZ a2 8 = z8'
          generalize slotO dstZ a2 9 = z9'
          generalize slotO dstZ a2 10 = z10'
          generalize slotO dstZ a2 11 = z11'
          generalize slotO dstZ a2 12 = z12'
          generalize slotO dstZ a2 13 = z13'
          generalize slotO dstZ a2 14 = z14'
          generalize slotO dstZ a2 15 = z15'
          generalize slotO dstZ a2 16 = z16'
          generalize slotO dstZ a2 17 = z17'
          generalize slotO dstZ a2 18 = z18'
          generalize slotO dstZ a2 19 = z19'
          generalize slotO dstZ a2 20 = z20'
          generalize slotO dstZ a2 21 = z21'
          generalize slotO dstZ a2 22 = z22'
          generalize slotO dstZ a2 23 = z23'
          generalize slotO dstZ a2 24 = z24'
          generalize slotO dstZ a2 25 = z25'
          generalize slotO dstZ a2 26 = z26'
          generalize slotO dstZ a2 27 = z27'
          generalize slotO dstZ a2 28 = z28'
          generalize slotO dstZ a2 29 = z29'
          generalize slotO dstZ a2 30 = z30'
          generalize slotO dstZ a2 31 = z31'
          generalize slotO dstZ a2 32 = z32'
          generalize slotO dstZ a2 33 = z33'
          generalize slotO dstZ a2 34 = z34'
          generalize slotO dstZ a2 35 = z35'
          generalize slotO dstZ a2 36 = z36'
          generalize slotO dstZ a2 37 = z37'
          generalize slotO dstZ a2 38 = z38'
          generalize slotO dstZ a2 39 = z39'
          generalize slotO dstZ a2 40 = z40'
          generalize slotO dstZ a2 41 = z41'
          generalize slotO dstZ a2 42 = z42'
          generalize slotO dstZ a2 43 = z43'
          generalize slotO dstZ a2 44 = z44'
          generalize slotO dstZ a2 45 = z45'
          generalize slotO dstZ a2 46 = z46'
          generalize slotO dstZ a2 47 = z47'
          generalize slotO dstZ a2 48 = z48'
          generalize slotO dstZ a2 49 = z49'
          generalize slotO dstZ a2 50 = z50'
          generalize slotO dstZ a2 51 = z51'
          clear a2
          have hS6 := HIQ.out.below HB6.out
          obtain ⟨v9, v13, hcs, -, -⟩ := k60_openM hS6.2.2.1
          have hh6 := hS6.2.1
          have HS6 := Aside0.mk hS6
          have HR6 := Aside0.mk (R_one hS6.2.2.1 hS6.2.2.2.size)
          rw [hcs] at hh6 HR6
          have q0 : w6.cell? ⟨gb, 0, none⟩ = some (.int .i64 e.f0) := (blk_cell hh6 0).trans rfl
          have q1 : w6.cell? ⟨gb, 1, none⟩ = some (.int .i64 e.f1) := (blk_cell hh6 1).trans rfl
          have q2 : w6.cell? ⟨gb, 2, none⟩ = some (.int .i64 e.f2.f0) := (blk_cell hh6 2).trans rfl
          have q3 : w6.cell? ⟨gb, 3, none⟩ = some (.string e.f2.f1) := (blk_cell hh6 3).trans rfl
          have q4 : w6.cell? ⟨gb, 4, none⟩ = some (.string e.f2.f2) := (blk_cell hh6 4).trans rfl
          have q5 : w6.cell? ⟨gb, 5, none⟩ = some (.string e.f2.f3) := (blk_cell hh6 5).trans rfl
          have q6 : w6.cell? ⟨gb, 6, none⟩ = some (.string e.f2.f4) := (blk_cell hh6 6).trans rfl
          have q7 : w6.cell? ⟨gb, 7, none⟩ = some (.string e.f2.f5) := (blk_cell hh6 7).trans rfl
          have q8 : w6.cell? ⟨gb, 8, none⟩ = some (.string e.f2.f6) := (blk_cell hh6 8).trans rfl
          have q9 : w6.cell? ⟨gb, 9, none⟩ = some (v9) := (blk_cell hh6 9).trans rfl
          have q10 : w6.cell? ⟨gb, 10, none⟩ = some (.int .i64 e.f2.f8) := (blk_cell hh6 10).trans rfl
          have q11 : w6.cell? ⟨gb, 11, none⟩ = some (.int .i64 e.f2.f9) := (blk_cell hh6 11).trans rfl
          have q12 : w6.cell? ⟨gb, 12, none⟩ = some (.int .i64 e.f2.f10) := (blk_cell hh6 12).trans rfl
          have q13 : w6.cell? ⟨gb, 13, none⟩ = some (v13) := (blk_cell hh6 13).trans rfl
          clear hS6 hh6 hcs
          go_simp
          go_wp2_with fail
          refine (spoil_calls HR6.out (by simp)).mono ?_
          rintro _ w7 ⟨rfl, hK7, hB7⟩
          have HB7 := Aside0.mk (same_after HS6.out HI4.out.2.2 hK7 hB7)
          clear hK7 hB7
          go_wp2_with fail
          go_roundw
          case rel => exact ⟨k + 1, by first | rw [hwk] | rfl, Aside0.mk HK4.out, HB7⟩
          case measure => first | (rw [hwk]; simp [intOf]; have := HK4.out; omega) | (simp [intOf]; have := HK4.out; omega)
      · rw [if_neg hai] at hG
        have d2 : decide (a < i) = false := decide_eq_false hai
        injection hG with hG1 hG2
        subst hG2
        have HE := Aside0.mk hG1.symm
        have HOE := Aside0.mk (show okS e from by rw [← hG1]; exact okS_z60)
        clear hG1
        go_wp2_with (first
          | ((with_reducible refine gate_dst (N := 13) rfl ?_)
             refine box_event ?hg (N := 13) ?hd (cs := #[.int .i64 0, .int .i64 0, .int .i64 0, .string ⟨#[]⟩, .string ⟨#[]⟩, .string ⟨#[]⟩, .string ⟨#[]⟩, .string ⟨#[]⟩, .string ⟨#[]⟩, .slice none 0 0, .int .i64 0, .int .i64 0, .int .i64 0, .slice none 0 0]) (t := 60) ?hr ?_
             (case hd => rfl)
             (case hg => rfl)
             (case hr => first | (go_simp; done) | (go_simp; rfl))
             intro gb hgb wb hbox hb
             have HBX := Aside0.mk hbox
             have HBB := Aside0.mk hb
             have HGB := Aside0.mk hgb
             clear hbox hb hgb)
          | ((with_reducible refine gate_ (.store 60 (.tmp 13) (.tmp 66)) rfl ?_)
             refine wp_store_box rfl rfl 60 (.tmp 13) (.tmp 66) rfl (g := gb) (e := 60) (cur := #[.int .i64 0, .int .i64 0, .int .i64 0, .string ⟨#[]⟩, .string ⟨#[]⟩, .string ⟨#[]⟩, .string ⟨#[]⟩, .string ⟨#[]⟩, .string ⟨#[]⟩, .slice none 0 0, .int .i64 0, .int .i64 0, .int .i64 0, .slice none 0 0]) cs rfl rfl HBX.out (by rw [HCL.out]; rfl) (by rw [HCL.out]; exact info60s) (k60.K_one (k60.K_of_M HMG.out)) ?_
             intro w5 hbox5 hg5
             have HI5 := Aside0.mk (same_step HI2.out.2.2 HI4.out HMG.out HBG.out HGB.out HBB.out hbox5 hg5)
             have p0 : w5.cell? ⟨g2, 0, none⟩ = some (.int .i64 a) := by obtain ⟨_, _, q, _⟩ := HI5.out.1.2.1.cells; exact q
             clear hbox5 hg5)
          | fail)
        obtain ⟨wq, hwq⟩ : ∃ wq, wq = w5 := ⟨_, rfl⟩
        rw [← hwq]
        have HIQ := Aside0.mk (show SamSt w w4 ok1 ok2 g1 g2 a t es gb e cs wq from by rw [hwq]; exact HI5.out)
        clear hwq p0
        refine regionZ (by kernel_rfl) wq ok1 ok2 g1 g2 a t es HN.out.1 HN.out.2.1 i T1 b gb e cs HOE.out HE.out _ _ ?hI rfl rfl rfl rfl rfl rfl rfl rfl rfl rfl rfl ?_
        case hI => rintro (_ | _) <;> first | exact ⟨⟨HIQ.out.1.1, HIQ.out.1.2.1, Below.refl _ _⟩, HIQ.out.2.1, k60.K_of_M HIQ.out.2.2.1⟩ | exact True.intro
        intro a2 w6 hA h52 hI6
        have e52 : slotO dstZ a2 52 = .bool false := h52
        have HB6 : Aside0 (Below wq.heap.size wq w6) := Aside0.mk hI6.1.2.2
        clear h52 hI6
        rw [hA.frame hinZ]
        clear hA
        simp only [List.range_succ, List.range_zero, List.nil_append, List.cons_append, foldO, dstZ, List.getD_cons_zero, List.getD_cons_succ, Act.put]
        rw [e52]
        clear e52
        generalize slotO dstZ a2 0 = z0'
        generalize slotO dstZ a2 1 = z1'
        generalize slotO dstZ a2 2 = z2'
        generalize slotO dstZ a2 3 = z3'
        generalize slotO dstZ a2 4 = z4'
        generalize slotO dstZ a2 5 = z5'
        generalize slotO dstZ a2 6 = z6'
        generalize slotO dstZ a2 7 = z7'
        generalize slotO dstZ a2 8 = z8'
        generalize slotO dstZ a2 9 = z9'
        generalize slotO dstZ a2 10 = z10'
        generalize slotO dstZ a2 11 = z11'
        generalize slotO dstZ a2 12 = z12'
        generalize slotO dstZ a2 13 = z13'
        generalize slotO dstZ a2 14 = z14'
        generalize slotO dstZ a2 15 = z15'
        generalize slotO dstZ a2 16 = z16'
        generalize slotO dstZ a2 17 = z17'
        generalize slotO dstZ a2 18 = z18'
        generalize slotO dstZ a2 19 = z19'
        generalize slotO dstZ a2 20 = z20'
        generalize slotO dstZ a2 21 = z21'
        generalize slotO dstZ a2 22 = z22'
        generalize slotO dstZ a2 23 = z23'
        generalize slotO dstZ a2 24 = z24'
        generalize slotO dstZ a2 25 = z25'
        generalize slotO dstZ a2 26 = z26'
        generalize slotO dstZ a2 27 = z27'
        generalize slotO dstZ a2 28 = z28'
        generalize slotO dstZ a2 29 = z29'
        generalize slotO dstZ a2 30 = z30'
        generalize slotO dstZ a2 31 = z31'
        generalize slotO dstZ a2 32 = z32'
        generalize slotO dstZ a2 33 = z33'
        generalize slotO dstZ a2 34 = z34'
        generalize slotO dstZ a2 35 = z35'
        generalize slotO dstZ a2 36 = z36'
        generalize slotO dstZ a2 37 = z37'
        generalize slotO dstZ a2 38 = z38'
        generalize slotO dstZ a2 39 = z39'
        generalize slotO dstZ a2 40 = z40'
        generalize slotO dstZ a2 41 = z41'
        generalize slotO dstZ a2 42 = z42'
        generalize slotO dstZ a2 43 = z43'
        generalize slotO dstZ a2 44 = z44'
        generalize slotO dstZ a2 45 = z45'
        generalize slotO dstZ a2 46 = z46'
        generalize slotO dstZ a2 47 = z47'
        generalize slotO dstZ a2 48 = z48'
        generalize slotO dstZ a2 49 = z49'
        generalize slotO dstZ a2 50 = z50'
        generalize slotO dstZ a2 51 = z51'
        clear a2
        have hS6 := HIQ.out.below HB6.out
        obtain ⟨v9, v13, hcs, -, -⟩ := k60_openM hS6.2.2.1
        have hh6 := hS6.2.1
        have HS6 := Aside0.mk hS6
        have HR6 := Aside0.mk (R_one hS6.2.2.1 hS6.2.2.2.size)
        rw [hcs] at hh6 HR6
        have q0 : w6.cell? ⟨gb, 0, none⟩ = some (.int .i64 e.f0) := (blk_cell hh6 0).trans rfl
        have q1 : w6.cell? ⟨gb, 1, none⟩ = some (.int .i64 e.f1) := (blk_cell hh6 1).trans rfl
        have q2 : w6.cell? ⟨gb, 2, none⟩ = some (.int .i64 e.f2.f0) := (blk_cell hh6 2).trans rfl
        have q3 : w6.cell? ⟨gb, 3, none⟩ = some (.string e.f2.f1) := (blk_cell hh6 3).trans rfl
        have q4 : w6.cell? ⟨gb, 4, none⟩ = some (.string e.f2.f2) := (blk_cell hh6 4).trans rfl
        have q5 : w6.cell? ⟨gb, 5, none⟩ = some (.string e.f2.f3) := (blk_cell hh6 5).trans rfl
        have q6 : w6.cell? ⟨gb, 6, none⟩ = some (.string e.f2.f4) := (blk_cell hh6 6).trans rfl
        have q7 : w6.cell? ⟨gb, 7, none⟩ = some (.string e.f2.f5) := (blk_cell hh6 7).trans rfl
        have q8 : w6.cell? ⟨gb, 8, none⟩ = some (.string e.f2.f6) := (blk_cell hh6 8).trans rfl
        have q9 : w6.cell? ⟨gb, 9, none⟩ = some (v9) := (blk_cell hh6 9).trans rfl
        have q10 : w6.cell? ⟨gb, 10, none⟩ = some (.int .i64 e.f2.f8) := (blk_cell hh6 10).trans rfl
        have q11 : w6.cell? ⟨gb, 11, none⟩ = some (.int .i64 e.f2.f9) := (blk_cell hh6 11).trans rfl
        have q12 : w6.cell? ⟨gb, 12, none⟩ = some (.int .i64 e.f2.f10) := (blk_cell hh6 12).trans rfl
        have q13 : w6.cell? ⟨gb, 13, none⟩ = some (v13) := (blk_cell hh6 13).trans rfl
        clear hS6 hh6 hcs
        go_simp
        go_wp2_with fail
        refine (spoil_calls HR6.out (by simp)).mono ?_
        rintro _ w7 ⟨rfl, hK7, hB7⟩
        have HB7 := Aside0.mk (same_after HS6.out HI4.out.2.2 hK7 hB7)
        clear hK7 hB7
        go_wp2_with fail
        go_roundw
        case rel => exact ⟨k + 1, by first | rw [hwk] | rfl, Aside0.mk HK4.out, HB7⟩
        case measure => first | (rw [hwk]; simp [intOf]; have := HK4.out; omega) | (simp [intOf]; have := HK4.out; omega)
    · have d1 : decide ((k : Int) < 4) = false := decide_eq_false (by omega)
      have hk2 : ¬ ((k : Int) < 4) := by omega
      have HL1r := Aside0.mk (HI2.out.1.below HBW.out)
      have HL2r := Aside0.mk (HI2.out.2.1.below HBW.out)
      have p0 : wr.cell? ⟨g2, 0, none⟩ = some (.int .i64 a) := by obtain ⟨_, _, q, _⟩ := HL2r.out.cells; exact q
      have hwa : wrap64 (a + 1) = a + 1 := by have := HN.out; unfold wrap64; omega
      go_wp2_with fail
      refine (from_calls HL1r.out HN.out.1 HN.out.2.1 (a + 1) 1000 (by decide) HN.out.2.2.2.2 HN.out.2.2.1).mono ?_
      rintro _ w5 ⟨v, rfl, hR, hB⟩
      rw [from_all a es] at hR
      have HW5 := Aside0.mk hB
      have HL25 := Aside0.mk (HL2r.out.below hB)
      obtain ⟨A0, c0, q0, q1, q2, hc0, hr0⟩ := HL25.out.cells
      obtain ⟨n, hn⟩ : ∃ n : Nat, n = min es.length 1000 := ⟨_, rfl⟩
      have hln : (es.take 1000).length = n := by rw [List.length_take, hn]; omega
      obtain ⟨A5, c5, rfl⟩ := Kd.R_slice hR
      rw [hln] at hR ⊢
      have hmn : ∀ W, (Builtin.min_ #[3, 3] 3 #[.int .i64 (es.length : Int), .int .i64 1000]).run Try.prog W = .ok (.int .i64 (n : Int)) W := fun W => by
        have e : (if (1000 : Int) < (es.length : Int) then (1000 : Int) else (es.length : Int)) = (n : Int) := by split <;> omega
        rw [min_two, min2_int, e]
        rfl
      have hrr := Kd.R_reads' hR
      obtain ⟨i60, hi60, hz60, hs60, -⟩ := info_parts info60
      have hcA := cut_to (P := Try.prog) 35 60 .i64 Try.underlying35 hi60 A0 es.length c0 (n : Int) (by omega) (by omega) hc0
      rw [Int.toNat_natCast] at hcA
      have HT := Aside0.mk (Kd.C_take hr0 (show n ≤ es.length by omega))
      have HR := Aside0.mk hR
      have HC0 := Aside0.mk (And.intro hc0 (And.intro hln (show es.take 1000 = es.take n from by rw [hn]; exact take_1000 es)))
      clear hR hB hc0 hr0 hln hrr hi60 hz60 hs60 hn p0
      go_wp2_with fail
      go_still_tail 12, (by kernel_rfl)
      change wpList _ _ _ _ _ w5.drew
      have HWD := Aside0.mk (show Below w5.heap.size w5 w5.drew from below_drew (Below.refl _ _))
      generalize w5.drew = wd at *
      clear q0 q1 q2
      have hR2 := Kd.R_below HR.out HWD.out
      have HSM := Aside0.mk (same_calls wd A5 A0 c5 c0 (es.take 1000) (by have := (Kd.R_reads' hR2).2.2; exact this) (by rw [HC0.out.2.1]; exact (Kd.R_reads' hR2).2.1) (by rw [HC0.out.2.2]; exact Kd.C_below HT.out HWD.out) (by have := HC0.out.1; rw [HC0.out.2.2, List.length_take]; omega) (fun y hy => HN.out.2.2.2.1 y (List.mem_of_mem_take hy)))
      rw [HC0.out.2.1] at HSM
      clear hR2
      go_wp2_with fail
      refine HSM.out.mono ?_
      clear HSM
      rintro _ w6 ⟨rfl, hB6⟩
      have HR6 := Aside0.mk (Kd.R_bound (Kd.R_below (Kd.R_below HR.out HWD.out) hB6))
      have HB6 := Aside0.mk (show Below wr.heap.size wr w6 from (HW5.out.trans (HWD.out.mono HW5.out.size)).trans (hB6.mono (Nat.le_trans HW5.out.size HWD.out.size)))
      clear hB6
      go_wp2_with fail
      refine (spoil_calls HR6.out (by rw [HC0.out.2.1]; have := HN.out; have h := HC0.out.2.1; rw [List.length_take] at h; omega)).mono ?_
      rintro _ w7 ⟨rfl, hK7, hB7⟩
      have HB7 := Aside0.mk (show Below w.heap.size w w7 from by
        have h1 : Below w.heap.size w w6 := HI2.out.2.2.trans ((HBW.out.trans (HB6.out.mono HBW.out.size)).mono HI2.out.2.2.size)
        exact below_kept h1 hK7 hB7 (fun k hk => by have := hk.2.1; have := HI2.out.2.2.size; have := HBW.out.size; omega))
      clear hK7 hB7
      go_wp2_with fail
      go_ret
      exact ⟨rfl, HB7.out⟩

end Go.Proofs.Ytigjfnleinhahaa.PLog
