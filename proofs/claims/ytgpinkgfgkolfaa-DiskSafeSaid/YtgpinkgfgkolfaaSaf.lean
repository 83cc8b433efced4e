/- DiskSafe walked. -/
import Derived.Test.YtgpinkgfgkolfaaSaf1
import Derived.Test.YtgpinkgfgkolfaaFst
namespace Go.Proofs.Ytgpinkgfgkolfaa.PD
open Go.RowKit Go.Proofs.YtgpinkgfgkolfaaW.PrintWords Go.Proofs.YtgpinkgfgkolfaaW.PrintLast Go.Proofs.YtgpinkgfgkolfaaW.PrintMore
set_option linter.unusedVariables false
set_option linter.unusedSimpArgs false
set_option maxHeartbeats 4000000
set_option maxRecDepth 100000

open Go.Proofs
/-- What the loop keeps. -/
def LSt (w : World) (d q : Nat) (x : List UInt8) (i : Nat) (A : Ab) (wr : World) : Prop := Inv q x A ∧ Fine (1 + i) (500 + i * 1000) A ∧ DAt w.heap.size wr d A ∧ Below w.heap.size w wr ∧ q < wr.heap.size
theorem LSt.below {w : World} {d q i : Nat} {x : List UInt8} {A : Ab} {a b : World} (h : LSt w d q x i A a) (hb : Below a.heap.size a b) : LSt w d q x i A b :=
  ⟨h.1, h.2.1, DAt.below h.2.2.1 hb, h.2.2.2.1.trans (hb.mono h.2.2.2.1.size), Nat.lt_of_lt_of_le h.2.2.2.2 hb.size⟩
set_option maxHeartbeats 16000000 in
theorem safe_calls (aa sa : Option Addr) (ca sc : Nat) (xa : List UInt8) (ops : List OpD) (keep : Int) (w : World) (ha : SrcAt w (.slice aa xa.length ca) xa) (hca : xa.length ≤ ca) (hops : OpsAt w sa ops) :
    Calls Try.prog 5 #[.slice aa xa.length ca, .slice sa ops.length sc, .int .i64 keep] w fun e w' => e = .returned (.bool true) ∧ Below w.heap.size w w' := by
  obtain ⟨kx, hkx⟩ : ∃ k, k = min xa.length 500 := ⟨_, rfl⟩
  obtain ⟨la, hla⟩ : ∃ k, k = xa.length := ⟨_, rfl⟩
  rw [← hla] at ha hca hkx
  rw [← hla]
  have hmx : ∀ W : World, (Builtin.min_ #[3, 3] 3 #[.int .i64 (la : Int), .int .i64 500]).run Try.prog W = .ok (.int .i64 (kx : Int)) W := fun W => min500 la kx hkx W
  have hvx : min (la : Int) 500 = (kx : Int) := by omega
  have hx1 : kx ≤ la := by omega
  have hx2 : kx ≤ ca := by omega
  have HSX := Aside0.mk (show SrcAt w (.slice aa kx ca) (xa.take kx) from by rw [hla] at ha; exact ha.take kx (by omega))
  have HNX := Aside0.mk (show kx ≤ 500 ∧ (xa.take kx).length = kx from ⟨by omega, by rw [List.length_take]; omega⟩)
  have HOPS := Aside0.mk hops
  clear ha hca hkx hla hops
  generalize xa.take kx = x at *
  go_enter Try.func5, Try.ntmps5
  go_wp2_with fail
  refine (first_calls w).mono ?_
  rintro _ w1 ⟨rfl, hb1⟩
  have HB1 := Aside0.mk hb1
  have HX := Aside0.mk (fun (W : World) (hW : Below w.heap.size w W) => HSX.out.below hW)
  clear hb1 HSX
  go_wp2_with fail
  refine (new_calls (fun k => w.heap.size ≤ k) 1048576 w1 (fun k hk => Nat.le_trans HB1.out.size hk) (by decide)).mono ?_
  rintro _ w2 ⟨d, rfl, hD, hb⟩
  have HD := Aside0.mk hD
  have HB := Aside0.mk (HB1.out.trans (hb.mono HB1.out.size))
  clear hD hb HB1 hmx hvx hx1 hx2
  go_wp2_with fail
  have hc := write_at w.heap.size d _ (⟨#[115, 97, 102, 101]⟩ : ByteArray) (.slice aa kx ca) x (fun k => w.heap.size ≤ k) _ HD.out (fun W hW => HX.out W (HB.out.trans (hW.below HB.out.size (fun _ h => h)))) HB.out.size (fun k h => h) (fun k h => Nat.le_trans HB.out.size h) (by decide) (by show 0 ≤ _; decide) (wrap_ok 1048576 (by decide) (by decide)) calm_left (fun f hf => by cases hf) (by have := HNX.out; omega)
  refine hc.mono ?_
  rintro _ w3 ⟨q, -, he, hD, hb⟩
  have hev := (show writeL (newL 1048576) (⟨#[115, 97, 102, 101]⟩ : ByteArray).data.toList x q = _ from saf_write 1048576 x q (wrap_ok 1048576 (by decide) (by decide)) (by have := HNX.out; omega))
  rw [hev] at he hD
  subst he
  clear hc hev
  have HB' := Aside0.mk (HB.out.trans hb)
  have HD' := Aside0.mk hD
  clear hb hD HB HD
  have HB := HB'
  have HD := HD'
  clear HB' HD'
  go_wp2_with fail
  have hc := sync_calls (fun k => w.heap.size ≤ k) d _ (⟨#[115, 97, 102, 101]⟩ : ByteArray) w3 HD.out (by decide) calm_left
  have hev := (show syncL (safA 1048576 q (x, 0) []) (⟨#[115, 97, 102, 101]⟩ : ByteArray).data.toList = (0, safA 1048576 q (x, x.length) []) from saf_sync 1048576 q _ [])
  rw [hev] at hc
  clear hev
  refine hc.mono ?_
  rintro _ w4 ⟨rfl, hD, hk⟩
  have hb := hk.below (B := w.heap.size) HB.out.size (fun _ h => h)
  clear hc hk
  have HB' := Aside0.mk (HB.out.trans hb)
  have HD' := Aside0.mk hD
  clear hb hD HB HD
  have HB := HB'
  have HD := HD'
  clear HB' HD'
  go_wp2_with fail
  have hc := flush_calls (fun k => w.heap.size ≤ k) d _ w4 HD.out (fun k hk => by have := HB.out.size; omega) calm_left
  have hev := saf_flush 1048576 q (x, x.length) []
  rw [hev] at hc
  clear hev
  refine hc.mono ?_
  rintro _ w5 ⟨rfl, hD, hk⟩
  have hb := hk.below (B := w.heap.size) HB.out.size (fun _ h => h)
  clear hc hk
  have HB' := Aside0.mk (HB.out.trans hb)
  have HD' := Aside0.mk hD
  clear hb hD HB HD
  have HB := HB'
  have HD := HD'
  clear HB' HD'
  have HQ := Aside0.mk (show q < w5.heap.size from DAt.lt (B := w.heap.size) HD.out (.inl ⟨nmS, List.mem_singleton.2 rfl⟩))
  have HL0 := Aside0.mk (show LSt w d q x 0 _ w5 from ⟨saf_inv 1048576 q x, (saf_fine q x (by have := HNX.out; omega)), HD.out, HB.out, HQ.out⟩)
  clear HD HB HQ
  generalize hN : ops.length = n at *
  have HN := Aside0.mk hN.symm
  clear hN
  go_wp2_with fail
  go_loopw [34] (fun v wr => ∃ (i : Nat) (A : Ab), v = .int .i64 (i : Int) ∧ Aside0 (i ≤ n ∧ i ≤ 40) ∧ Aside0 (LSt w d q x i A wr)) (fun v _ => n - (intOf v).toNat)
  case atStart => exact ⟨0, _, rfl, Aside0.mk ⟨Nat.zero_le _, by decide⟩, HL0⟩
  case round =>
    obtain ⟨i, A, rfl, HI, HT⟩ := hrel
    by_cases hin : i < n
    · have d1 : decide ((i : Int) < (n : Int)) = true := decide_eq_true (by omega)
      have hin2 : (i : Int) < (n : Int) := by omega
      have hi0 : (0 : Int) ≤ (i : Int) := by omega
      have HIN := Aside0.mk hin
      have hwi : wrap64 ((i : Int) + 1) = ((i + 1 : Nat) : Int) := by have := HI.out; unfold wrap64; omega
      obtain ⟨ad, o, rfl, c0, c1, c2, c3, c4, -, hwf, hio⟩ := (HOPS.out.below HT.out.2.2.2.1).get (i := i) (by have := HN.out; omega)
      obtain ⟨lb, hlb⟩ : ∃ l, l = o.bs.length := ⟨_, rfl⟩
      rw [← hlb] at c4
      have HLB := Aside0.mk hlb
      have HS := Aside0.mk (show SrcAt w (.slice o.A o.bs.length o.c) o.bs from by obtain ⟨_, _, _, hs, _⟩ := HOPS.out.2 i o hio; exact hs)
      have HWF := Aside0.mk hwf
      clear hin hwf hlb hio
      have hbx := below_alloc (Below.refl wr.heap.size wr) (.cells (opC o.kd o.ni o.ti o.n o.A lb o.c) 42)
      have hnew := heap_alloc_new wr (.cells (opC o.kd o.ni o.ti o.n o.A lb o.c) 42)
      have cb4 : (wr.alloc (.cells #[.int .i64 o.kd, .int .i64 o.ni, .int .i64 o.ti, .int .i64 o.n, .slice o.A lb o.c] 42)).cell? ⟨wr.heap.size, 4, none⟩ = some (.slice o.A lb o.c) := by simp only [World.cell?, hnew]; rfl
      have HBOX := Aside0.mk (And.intro hbx hnew)
      clear hbx hnew
      by_cases h40 : 40 ≤ i
      · have d2 : decide ((i : Int) ≥ 40) = true := decide_eq_true (by omega)
        have d2' : (40 : Int) ≤ (i : Int) := by omega
        clear h40
        go_wp2_with fail
        have HTT := Aside0.mk (show LSt w d q x i A _ from (HT.out.below HBOX.out.1))
        have hsz := HTT.out.2.2.2.1.size
        have hlen := fun f => (HTT.out.2.1.len f)
        refine (crash_calls (fun k => w.heap.size ≤ k) d A keep _ HTT.out.2.2.1 (fun k hk => Nat.le_trans hsz hk) (fun f hf => ⟨(hlen f).1, by have := (hlen f).2; have := HI.out; omega⟩)).mono ?_
        rintro _ wc ⟨rfl, hD, hk⟩
        have HDc := Aside0.mk hD
        have HBc := Aside0.mk (HTT.out.2.2.2.1.trans (hk.below (B := w.heap.size) hsz (fun _ h => h)))
        have HFc := Aside0.mk (HTT.out.2.1.crash keep)
        clear hsz hlen hD hk
        go_wp2_with fail
        have hr := read_calls (fun k => w.heap.size ≤ k) d _ (⟨#[115, 97, 102, 101]⟩ : ByteArray) wc HDc.out (by decide) (fun f hf => by have := (HFc.out.len f).2; have := HI.out; omega)
        rw [show readL (crashL A keep) (⟨#[115, 97, 102, 101]⟩ : ByteArray).data.toList = some x from (HTT.out.1.crash keep).read] at hr
        refine hr.mono ?_
        rintro _ we ⟨v, rfl, hrow, hb⟩
        have hcv := hrow.string
        have hBe : Below w.heap.size w we := HBc.out.trans (hb.mono HBc.out.size)
        have hcw := (HX.out we hBe).string
        have HBe := Aside0.mk hBe
        clear hr hb hrow hBe
        go_wp2_with fail
        go_ret
        exact ⟨rfl, HBe.out⟩
      · have d2 : decide ((i : Int) ≥ 40) = false := decide_eq_false (by omega)
        have d2' : ¬ (40 : Int) ≤ (i : Int) := by omega
        have HI4 := Aside0.mk h40
        clear h40
        by_cases hlb : 1000 < lb
        · have d3 : decide ((lb : Int) > 1000) = true := decide_eq_true (by omega)
          have d3' : (1000 : Int) < (lb : Int) := by omega
          clear hlb
          go_wp2_with fail
          have HTT := Aside0.mk (show LSt w d q x i A _ from (HT.out.below HBOX.out.1))
          have hsz := HTT.out.2.2.2.1.size
          have hlen := fun f => (HTT.out.2.1.len f)
          refine (crash_calls (fun k => w.heap.size ≤ k) d A keep _ HTT.out.2.2.1 (fun k hk => Nat.le_trans hsz hk) (fun f hf => ⟨(hlen f).1, by have := (hlen f).2; have := HI.out; omega⟩)).mono ?_
          rintro _ wc ⟨rfl, hD, hk⟩
          have HDc := Aside0.mk hD
          have HBc := Aside0.mk (HTT.out.2.2.2.1.trans (hk.below (B := w.heap.size) hsz (fun _ h => h)))
          have HFc := Aside0.mk (HTT.out.2.1.crash keep)
          clear hsz hlen hD hk
          go_wp2_with fail
          have hr := read_calls (fun k => w.heap.size ≤ k) d _ (⟨#[115, 97, 102, 101]⟩ : ByteArray) wc HDc.out (by decide) (fun f hf => by have := (HFc.out.len f).2; have := HI.out; omega)
          rw [show readL (crashL A keep) (⟨#[115, 97, 102, 101]⟩ : ByteArray).data.toList = some x from (HTT.out.1.crash keep).read] at hr
          refine hr.mono ?_
          rintro _ we ⟨v, rfl, hrow, hb⟩
          have hcv := hrow.string
          have hBe : Below w.heap.size w we := HBc.out.trans (hb.mono HBc.out.size)
          have hcw := (HX.out we hBe).string
          have HBe := Aside0.mk hBe
          clear hr hb hrow hBe
          go_wp2_with fail
          go_ret
          exact ⟨rfl, HBe.out⟩
        · have d3 : decide ((lb : Int) > 1000) = false := decide_eq_false (by omega)
          have d3' : ¬ (1000 : Int) < (lb : Int) := by omega
          have HLK := Aside0.mk hlb
          clear hlb
          go_wp2_with fail
          refine (free_calls (fun k => w.heap.size ≤ k) d A _ (HT.out.below HBOX.out.1).2.2.1 HT.out.2.1.room (by have := HT.out.2.1.dir; have := HI.out; omega)).mono ?_
          rintro _ w6 ⟨rfl, hb6⟩
          have HT6 := Aside0.mk ((HT.out.below HBOX.out.1).below hb6)
          have HB6 := Aside0.mk hb6
          clear hb6
          generalize wrap64 (freeL A) = fr
          by_cases hfr : fr < 5000
          · have d4 : decide (fr < 5000) = true := decide_eq_true hfr
            go_wp2_with fail
            have HTT := Aside0.mk (show LSt w d q x i A _ from HT6.out)
            have hsz := HTT.out.2.2.2.1.size
            have hlen := fun f => (HTT.out.2.1.len f)
            refine (crash_calls (fun k => w.heap.size ≤ k) d A keep w6 HTT.out.2.2.1 (fun k hk => Nat.le_trans hsz hk) (fun f hf => ⟨(hlen f).1, by have := (hlen f).2; have := HI.out; omega⟩)).mono ?_
            rintro _ wc ⟨rfl, hD, hk⟩
            have HDc := Aside0.mk hD
            have HBc := Aside0.mk (HTT.out.2.2.2.1.trans (hk.below (B := w.heap.size) hsz (fun _ h => h)))
            have HFc := Aside0.mk (HTT.out.2.1.crash keep)
            clear hsz hlen hD hk
            go_wp2_with fail
            have hr := read_calls (fun k => w.heap.size ≤ k) d _ (⟨#[115, 97, 102, 101]⟩ : ByteArray) wc HDc.out (by decide) (fun f hf => by have := (HFc.out.len f).2; have := HI.out; omega)
            rw [show readL (crashL A keep) (⟨#[115, 97, 102, 101]⟩ : ByteArray).data.toList = some x from (HTT.out.1.crash keep).read] at hr
            refine hr.mono ?_
            rintro _ we ⟨v, rfl, hrow, hb⟩
            have hcv := hrow.string
            have hBe : Below w.heap.size w we := HBc.out.trans (hb.mono HBc.out.size)
            have hcw := (HX.out we hBe).string
            have HBe := Aside0.mk hBe
            clear hr hb hrow hBe
            go_wp2_with fail
            go_ret
            exact ⟨rfl, HBe.out⟩
          · have d4 : decide (fr < 5000) = false := decide_eq_false hfr
            have hb7 := below_alloc (Below.refl w6.heap.size w6) (.cells (newR 1048576) 48)
            have hn7 := heap_alloc_new w6 (.cells (newR 1048576) 48)
            have hh6 : (w6.alloc (.cells (newR 1048576) 48)).heap[wr.heap.size]? = some (.cells (opC o.kd o.ni o.ti o.n o.A lb o.c) 42 (0, 0)) := (hb7.block _ (Nat.lt_of_lt_of_le (Array.getElem?_eq_some_iff.1 HBOX.out.2).1 HB6.out.size)).trans ((HB6.out.block _ (Array.getElem?_eq_some_iff.1 HBOX.out.2).1).trans HBOX.out.2)
            have k0 : (w6.alloc (.cells #[.int .i64 1048576, .slice none 0 0, .slice none 0 0, .slice none 0 0, .bool false, .int .i64 0, .bool false] 48)).cell? ⟨wr.heap.size, 0, none⟩ = some (.int .i64 o.kd) := by have hh := hh6; unfold newR at hh; simp only [World.cell?, hh]; rfl
            have k1 : (w6.alloc (.cells #[.int .i64 1048576, .slice none 0 0, .slice none 0 0, .slice none 0 0, .bool false, .int .i64 0, .bool false] 48)).cell? ⟨wr.heap.size, 1, none⟩ = some (.int .i64 o.ni) := by have hh := hh6; unfold newR at hh; simp only [World.cell?, hh]; rfl
            have k2 : (w6.alloc (.cells #[.int .i64 1048576, .slice none 0 0, .slice none 0 0, .slice none 0 0, .bool false, .int .i64 0, .bool false] 48)).cell? ⟨wr.heap.size, 2, none⟩ = some (.int .i64 o.ti) := by have hh := hh6; unfold newR at hh; simp only [World.cell?, hh]; rfl
            have k3 : (w6.alloc (.cells #[.int .i64 1048576, .slice none 0 0, .slice none 0 0, .slice none 0 0, .bool false, .int .i64 0, .bool false] 48)).cell? ⟨wr.heap.size, 3, none⟩ = some (.int .i64 o.n) := by have hh := hh6; unfold newR at hh; simp only [World.cell?, hh]; rfl
            have k4 : (w6.alloc (.cells #[.int .i64 1048576, .slice none 0 0, .slice none 0 0, .slice none 0 0, .bool false, .int .i64 0, .bool false] 48)).cell? ⟨wr.heap.size, 4, none⟩ = some (.slice o.A lb o.c) := by have hh := hh6; unfold newR at hh; simp only [World.cell?, hh]; rfl
            have HN7 := Aside0.mk (And.intro hb7 hn7)
            clear hb7 hn7 hh6 hfr
            go_wp2_with fail
            have HT7 := Aside0.mk (HT6.out.below HN7.out.1)
            have hstep := step_calls w.heap.size w6.heap.size d q (1 + i) (500 + i * 1000) x o.bs A o.kd o.ni o.ti o.n o.A o.c (w6.alloc (.cells (newR 1048576) 48)) ((HT6.out.2.2.1.bound.mono (fun k hk ho => ⟨ho.1, by have := ho.2; omega⟩)).keep (fun k hk _ => HN7.out.1.block k hk)) HN7.out.2 HT6.out.2.2.2.1.size HT7.out.2.2.2.1.size HT7.out.1 HT7.out.2.1 HT7.out.2.2.2.2 ⟨HWF.out.1, HWF.out.2.1⟩ (fun W hW => HS.out.below (HT7.out.2.2.2.1.trans hW)) (by have := HLK.out; have := HLB.out; omega) ⟨by have := HI.out; omega, by have := HI.out; omega⟩
            rw [← HLB.out] at hstep
            refine hstep.mono ?_
            rintro e w8 ⟨⟨b, rfl⟩, ⟨A', hI', hF', hD'⟩, hb'⟩
            have HT8 := Aside0.mk (show LSt w d q x (i + 1) A' w8 from ⟨hI', hF'.mono (by omega) (by have := HLK.out; omega), hD'.mono (fun k _ ho => ho.1), HT7.out.2.2.2.1.trans hb', Nat.lt_of_lt_of_le HT7.out.2.2.2.2 hb'.size⟩)
            have HI8 := Aside0.mk (show i + 1 ≤ n ∧ i + 1 ≤ 40 from ⟨HIN.out, by have := HI4.out; omega⟩)
            clear hstep hI' hF' hD' hb'
            go_wp2_with fail
            go_roundw
            case rel => exact ⟨i + 1, A', by first | rw [hwi] | rfl, HI8, HT8⟩
            case measure => have := HIN.out; first | (rw [hwi]; simp [intOf]; omega) | (simp [intOf]; omega)
    · have d1 : decide ((i : Int) < (n : Int)) = false := decide_eq_false (by omega)
      have hin2 : ¬ (i : Int) < (n : Int) := by omega
      clear hin
      go_wp2_with fail
      have HTT := Aside0.mk (show LSt w d q x i A _ from HT.out)
      have hsz := HTT.out.2.2.2.1.size
      have hlen := fun f => (HTT.out.2.1.len f)
      refine (crash_calls (fun k => w.heap.size ≤ k) d A keep wr HTT.out.2.2.1 (fun k hk => Nat.le_trans hsz hk) (fun f hf => ⟨(hlen f).1, by have := (hlen f).2; have := HI.out; omega⟩)).mono ?_
      rintro _ wc ⟨rfl, hD, hk⟩
      have HDc := Aside0.mk hD
      have HBc := Aside0.mk (HTT.out.2.2.2.1.trans (hk.below (B := w.heap.size) hsz (fun _ h => h)))
      have HFc := Aside0.mk (HTT.out.2.1.crash keep)
      clear hsz hlen hD hk
      go_wp2_with fail
      have hr := read_calls (fun k => w.heap.size ≤ k) d _ (⟨#[115, 97, 102, 101]⟩ : ByteArray) wc HDc.out (by decide) (fun f hf => by have := (HFc.out.len f).2; have := HI.out; omega)
      rw [show readL (crashL A keep) (⟨#[115, 97, 102, 101]⟩ : ByteArray).data.toList = some x from (HTT.out.1.crash keep).read] at hr
      refine hr.mono ?_
      rintro _ we ⟨v, rfl, hrow, hb⟩
      have hcv := hrow.string
      have hBe : Below w.heap.size w we := HBc.out.trans (hb.mono HBc.out.size)
      have hcw := (HX.out we hBe).string
      have HBe := Aside0.mk hBe
      clear hr hb hrow hBe
      go_wp2_with fail
      go_ret
      exact ⟨rfl, HBe.out⟩

end Go.Proofs.Ytgpinkgfgkolfaa.PD
