/- DiskPlays walked. -/
import Derived.Test.YtgpinkgfgkolfaaTsA
import Derived.Test.YtgpinkgfgkolfaaFst
namespace Go.Proofs.Ytgpinkgfgkolfaa.PD
open Go.RowKit Go.Proofs.YtgpinkgfgkolfaaW.PrintWords Go.Proofs.YtgpinkgfgkolfaaW.PrintLast Go.Proofs.YtgpinkgfgkolfaaW.PrintMore
set_option linter.unusedVariables false
set_option linter.unusedSimpArgs false
set_option maxHeartbeats 4000000
set_option maxRecDepth 100000

open Go.Proofs
/-- What the loop keeps. -/
def PSt (w : World) (d x : Nat) (i : Nat) (A : Ab) (R : Rb) (wr : World) : Prop := PS i (i * 1000) A R ∧ Twin w.heap.size wr d x A R ∧ Below w.heap.size w wr
set_option maxHeartbeats 16000000 in
theorem plays_calls (room : Int) (sa : Option Addr) (sc : Nat) (ops : List OpD) (w : World) (hroom : -9223372036854775808 ≤ room ∧ room ≤ 9223372036854775807) (hops : OpsAt w sa ops) :
    Calls Try.prog 6 #[.int .i64 room, .slice sa ops.length sc] w fun e w' => e = .returned (.bool true) ∧ Below w.heap.size w w' := by
  by_cases h0 : room < 0
  · have d0 : decide (room < 0) = true := decide_eq_true h0
    go_enter Try.func6, Try.ntmps6
    go_wp2_with fail
    refine (first_calls w).mono ?_
    rintro _ w1 ⟨rfl, hb1⟩
    have HB1 := Aside0.mk hb1
    clear hb1 hops hroom
    go_wp2_with fail
    refine (new_neg room w1 h0).mono ?_
    rintro _ w2 ⟨rfl, hb2⟩
    have HB2 := Aside0.mk (HB1.out.trans (hb2.mono HB1.out.size))
    clear hb2 h0
    go_wp2_with fail
    go_ret
    exact ⟨rfl, HB2.out⟩
  · have d0 : decide (room < 0) = false := decide_eq_false h0
    have HROOM := Aside0.mk (show 0 ≤ room ∧ room ≤ 9223372036854775807 from ⟨by omega, hroom.2⟩)
    have HOPS := Aside0.mk hops
    clear hops hroom h0
    go_enter Try.func6, Try.ntmps6
    go_wp2_with fail
    refine (first_calls w).mono ?_
    rintro _ w1 ⟨rfl, hb1⟩
    have HB1 := Aside0.mk hb1
    clear hb1
    go_wp2_with fail
    refine (new_calls (fun k => w.heap.size ≤ k) room w1 (fun k hk => Nat.le_trans HB1.out.size hk) HROOM.out.1).mono ?_
    rintro _ w2 ⟨d, rfl, hD, hb⟩
    have HB2 := Aside0.mk (HB1.out.trans (hb.mono HB1.out.size))
    obtain ⟨w3, hw3⟩ : ∃ W, W = w2.alloc (.cells #[.int .i64 room, .slice none 0 0, .slice none 0 0, .slice none 0 0, .bool false, .int .i64 0, .bool false] 48) := ⟨_, rfl⟩
    have hb3 : Below w2.heap.size w2 w3 := by rw [hw3]; exact below_alloc (Below.refl _ _) _
    have hn3 : w3.heap[w2.heap.size]? = some (.cells #[.int .i64 room, .slice none 0 0, .slice none 0 0, .slice none 0 0, .bool false, .int .i64 0, .bool false] 48 (0, 0)) := by rw [hw3]; exact heap_alloc_new w2 _
    obtain ⟨x, hx⟩ : ∃ x, x = w2.heap.size := ⟨_, rfl⟩
    have HS0 := Aside0.mk (show PSt w d x 0 (newL room) ⟨room, [], [], [], false, 0, false⟩ w3 from ⟨⟨⟨id, rel_new room⟩, fine_new room (wrap_ok room (by have := HROOM.out; omega) HROOM.out.2), rfine_new room (wrap_ok room (by have := HROOM.out; omega) HROOM.out.2), sn_new room⟩, by
      have hxw : w.heap.size ≤ x := by rw [hx]; exact HB2.out.size
      rw [← hx] at hn3
      exact ⟨fun k => w.heap.size ≤ k ∧ k < x, fun k => k = x, fun k hk => ⟨hk.1, by have := hb3.size; omega, by omega⟩, fun k hk => ⟨by omega, by rw [hk]; exact (Array.getElem?_eq_some_iff.1 hn3).1⟩, (hD.bound.mono fun k _ ho => ⟨ho.1, by have := ho.2; omega⟩).keep fun k hk _ => hb3.block k hk, ⟨_, _, _, fun _ => 0, rfl, hn3, FilesAt.nil _ _ _, LinksAt.nil _ _, LinksAt.nil _ _⟩⟩, HB2.out.trans (hb3.mono HB2.out.size)⟩)
    have HW3 := Aside0.mk hw3.symm
    have HXX := Aside0.mk hx.symm
    clear hD hb hb3 hn3 hx hw3
    go_wp2_with fail
    rw [HW3.out, HXX.out]
    generalize hN : ops.length = n at *
    have HN := Aside0.mk hN.symm
    clear hN HW3 HXX HB1 HB2
    go_loopw [45] (fun v wr => ∃ (i : Nat) (A : Ab) (R : Rb), v = .int .i64 (i : Int) ∧ Aside0 (i ≤ n ∧ i ≤ 60) ∧ Aside0 (PSt w d x i A R wr)) (fun v _ => n - (intOf v).toNat)
    case atStart => exact ⟨0, _, _, rfl, Aside0.mk ⟨Nat.zero_le _, by decide⟩, HS0⟩
    case round =>
      obtain ⟨i, A, R, rfl, HI, HT⟩ := hrel
      rename World => wo
      by_cases hin : i < n
      · have d1 : decide ((i : Int) < (n : Int)) = true := decide_eq_true (by omega)
        have hin2 : (i : Int) < (n : Int) := by omega
        have hi0 : (0 : Int) ≤ (i : Int) := by omega
        have HIN := Aside0.mk hin
        have hwi : wrap64 ((i : Int) + 1) = ((i + 1 : Nat) : Int) := by have := HI.out; unfold wrap64; omega
        obtain ⟨ad, o, rfl, c0, c1, c2, c3, c4, -, hwf, hio⟩ := (HOPS.out.below HT.out.2.2).get (i := i) (by have := HN.out; omega)
        obtain ⟨lb, hlb⟩ : ∃ l, l = o.bs.length := ⟨_, rfl⟩
        rw [← hlb] at c4
        have HLB := Aside0.mk hlb
        have HS := Aside0.mk (show SrcAt w (.slice o.A o.bs.length o.c) o.bs from by obtain ⟨_, _, _, hs, _⟩ := HOPS.out.2 i o hio; exact hs)
        have HWF := Aside0.mk hwf
        clear hin hwf hlb hio
        have hbx := below_alloc (Below.refl wo.heap.size wo) (.cells (opC o.kd o.ni o.ti o.n o.A lb o.c) 42)
        have hnew := heap_alloc_new wo (.cells (opC o.kd o.ni o.ti o.n o.A lb o.c) 42)
        have cb4 : (wo.alloc (.cells #[.int .i64 o.kd, .int .i64 o.ni, .int .i64 o.ti, .int .i64 o.n, .slice o.A lb o.c] 42)).cell? ⟨wo.heap.size, 4, none⟩ = some (.slice o.A lb o.c) := by simp only [World.cell?, hnew]; rfl
        have HT1 := Aside0.mk (show PSt w d x i A R (wo.alloc (.cells (opC o.kd o.ni o.ti o.n o.A lb o.c) 42)) from ⟨HT.out.1, HT.out.2.1.below hbx, HT.out.2.2.trans (hbx.mono HT.out.2.2.size)⟩)
        clear hbx hnew
        by_cases h60 : 60 ≤ i
        · have d2 : decide ((i : Int) ≥ 60) = true := decide_eq_true (by omega)
          have d2' : (60 : Int) ≤ (i : Int) := by omega
          clear h60
          go_wp2_with fail
          go_ret
          exact ⟨rfl, HT1.out.2.2⟩
        · have d2 : decide ((i : Int) ≥ 60) = false := decide_eq_false (by omega)
          have d2' : ¬ (60 : Int) ≤ (i : Int) := by omega
          have HI4 := Aside0.mk h60
          clear h60
          by_cases hlb : 1000 < lb
          · have d3 : decide ((lb : Int) > 1000) = true := decide_eq_true (by omega)
            have d3' : (1000 : Int) < (lb : Int) := by omega
            clear hlb
            go_wp2_with fail
            go_ret
            exact ⟨rfl, HT1.out.2.2⟩
          · have d3 : decide ((lb : Int) > 1000) = false := decide_eq_false (by omega)
            have d3' : ¬ (1000 : Int) < (lb : Int) := by omega
            have HLK := Aside0.mk hlb
            clear hlb
            go_wp2_with fail
            have hstep := tstep_calls w.heap.size x d i (i * 1000) o.bs A R o.kd o.ni o.ti o.n o.A o.c _ HT1.out.2.1 HT1.out.1 HT1.out.2.2.size ⟨HWF.out.1, HWF.out.2.1⟩ (fun W hW => HS.out.below (HT1.out.2.2.trans hW)) (by have := HLK.out; have := HLB.out; omega) ⟨by have := HI.out; omega, by have := HI.out; omega⟩
            rw [← HLB.out] at hstep
            refine hstep.mono ?_
            rintro _ w5 ⟨rfl, ⟨A', R', hP5, hT5⟩, hb5⟩
            have HP5 := Aside0.mk (show PS (i + 1) ((i + 1) * 1000) A' R' from ⟨hP5.rel, hP5.fa.mono (Nat.le_refl _) (by have := HLK.out; omega), hP5.fr.mono (Nat.le_refl _) (by have := HLK.out; omega), hP5.sn⟩)
            have HB5 := Aside0.mk (HT1.out.2.2.trans hb5)
            obtain ⟨ok1, ok2, hd1, hd2, hD5, hR5⟩ := hT5
            have HOK := Aside0.mk (And.intro hd1 hd2)
            have HD := Aside0.mk (fun (W : World) (hW : Below w5.heap.size w5 W) => show DiskAt W ok1 d A' from hD5.keep fun k hk _ => hW.block k hk)
            have HR := Aside0.mk (fun (W : World) (hW : Below w5.heap.size w5 W) => show RDisk W ok2 x R' from hR5.keep fun k hk _ => hW.block k hk)
            have HBN := Aside0.mk (show A'.dir.length ≤ 1000000 ∧ R'.dir.length ≤ 1000000 ∧ R'.files.length ≤ 1000000 ∧ R'.safe.length ≤ 1000000 from by have h1 := HP5.out.fa.dir; have h2 := HP5.out.fr.dir; have h3 := HP5.out.fr.files; have h4 := HP5.out.fr.safe; have := HI.out; exact ⟨by omega, by omega, by omega, by omega⟩)
            clear hstep hP5 hb5 hd1 hd2 hD5 hR5 c0 c1 c2 c3 c4 cb4
            go_wp2_with fail
            refine (names_calls ok1 d A' w5 (HD.out w5 (Below.refl _ _)) HP5.out.sn.sd HBN.out.1).mono ?_
            rintro _ w6 ⟨v6, rfl, hrow6, hb6⟩
            obtain ⟨NA, nc, hv6, _, _⟩ := ownsRow_slice hrow6
            subst hv6
            rw [HP5.out.len] at hrow6 ⊢
            obtain ⟨nd, hnd⟩ : ∃ n, n = R'.dir.length := ⟨_, rfl⟩
            rw [← hnd] at hrow6 ⊢
            have HND := Aside0.mk hnd
            have HROW := Aside0.mk hrow6
            have HB6 := Aside0.mk hb6
            clear hrow6 hb6 hnd
            go_wp2_with fail
            refine (free_calls ok1 d A' w6 (HD.out w6 HB6.out) HP5.out.fa.room (by have := HBN.out; omega)).mono ?_
            rintro _ w7 ⟨rfl, hb7⟩
            have HB7 := Aside0.mk (HB6.out.trans (hb7.mono HB6.out.size))
            have HB67 := Aside0.mk hb7
            clear hb7
            go_wp2_with fail
            refine (rfree_calls ok2 x R' w7 (HR.out w7 HB7.out) HP5.out.fr.room ⟨HBN.out.2.2.1, HBN.out.2.1, HBN.out.2.2.2⟩).mono ?_
            rintro _ w8 ⟨rfl, hb8⟩
            have HB8 := Aside0.mk (HB7.out.trans (hb8.mono HB7.out.size))
            have HB68 := Aside0.mk (HB67.out.trans (hb8.mono HB67.out.size))
            clear hb8
            rw [HP5.out.free]
            obtain ⟨F8, D8, S8, tg8, hRB⟩ := HR.out w8 HB8.out
            obtain ⟨DA, dc, hD8⟩ := hRB.2.2.2.1.slice
            rw [← HND.out] at hD8
            subst hD8
            have cd : w8.cell? ⟨x, 2, none⟩ = some (.slice DA nd dc) := hRB.cell 2
            have HLK8 := Aside0.mk hRB.2.2.2.1
            clear hRB
            go_wp2_with fail
            go_loopw [85] (fun v wr => ∃ (j : Nat), v = .int .i64 (j : Int) ∧ Aside0 (j ≤ nd) ∧ Aside0 (Below w8.heap.size w8 wr)) (fun v _ => nd - (intOf v).toNat)
            case atStart => exact ⟨0, rfl, Aside0.mk (Nat.zero_le _), Aside0.mk (Below.refl _ _)⟩
            case round =>
              obtain ⟨j, rfl, HJ, HBJ⟩ := hrel
              rename World => wj
              have HB5J := Aside0.mk (HB8.out.trans (HBJ.out.mono HB8.out.size))
              by_cases hjn : j < nd
              · have e1 : decide ((j : Int) < (nd : Int)) = true := decide_eq_true (by omega)
                have hj2 : (j : Int) < (nd : Int) := by omega
                have hj0 : (0 : Int) ≤ (j : Int) := by omega
                obtain ⟨gd, p, rfl, hp, p0, p1⟩ := (HLK8.out.below HBJ.out).at (i := j) (by have := HND.out; omega)
                have HJ' := Aside0.mk hjn
                have hwj : wrap64 ((j : Int) + 1) = ((j + 1 : Nat) : Int) := by have := HBN.out; have := HND.out; have := HJ'.out; unfold wrap64; omega
                obtain ⟨hl1, hl2, hl3, ⟨pf, hl4⟩⟩ := HP5.out.look hp
                have HL1 := Aside0.mk hl1
                have HL2 := Aside0.mk hl2
                have HSH := Aside0.mk (names_short (HD.out wj HB5J.out) hl4)
                obtain ⟨gn, hgn, hcell⟩ : ∃ gn, NA = some ⟨gn, 0, none⟩ ∧ w6.cell? ⟨gn, j, none⟩ = some (.string ⟨p.1.toArray⟩) := by
                  obtain ⟨gn, cur, e1, _, hc⟩ := ownsRow_at HROW.out (by omega)
                  exact ⟨gn, e1, hc _ _ hl3⟩
                subst hgn
                have HCN := Aside0.mk (fun (W : World) (hW : Below w6.heap.size w6 W) => pw_cell_below hW hcell)
                have HB6J := Aside0.mk (HB68.out.trans (HBJ.out.mono HB68.out.size))
                obtain ⟨wb, hwb⟩ : ∃ W, W = wj.alloc (.cells #[.string ⟨p.1.toArray⟩, .int .i64 (p.2 : Int)] 53) := ⟨_, rfl⟩
                have hbb : Below wj.heap.size wj wb := by rw [hwb]; exact below_alloc (Below.refl _ _) _
                have hnb : wb.heap[wj.heap.size]? = some (.cells #[.string ⟨p.1.toArray⟩, .int .i64 (p.2 : Int)] 53 (0, 0)) := by rw [hwb]; exact heap_alloc_new wj _
                have HBB := Aside0.mk hbb
                have HBXC := Aside0.mk (fun (W : World) (hW : Below wb.heap.size wb W) => show W.cell? ⟨wj.heap.size, 0, none⟩ = some (.string ⟨p.1.toArray⟩) from pw_cell_below hW (by simp [World.cell?, hnb]))
                have HWB := Aside0.mk hwb.symm
                clear hjn hp hl1 hl2 hl3 hl4 hcell hbb hnb hwb
                go_wp2_with fail
                rw [HWB.out]
                have hr1 := read_calls ok1 d A' (⟨p.1.toArray⟩ : ByteArray) wb (HD.out wb (HB5J.out.trans (HBB.out.mono HB5J.out.size))) (by show p.1.toArray.size ≤ maxLen; rw [List.size_toArray]; exact HSH.out) (fun f hf => by have := (HP5.out.fa.len f).2; have := HI.out; omega)
                rw [show readL A' (⟨p.1.toArray⟩ : ByteArray).data.toList = some (fileR R' p.2).1 from HL1.out] at hr1
                refine hr1.mono ?_
                rintro _ w10 ⟨v10, rfl, hrow10, hb10⟩
                have HB10 := Aside0.mk hb10
                have HROW10 := Aside0.mk hrow10
                have cbx := HBXC.out w10 hb10
                clear hr1 hrow10 hb10
                go_wp2_with fail
                have hr2 := rread_calls ok2 x R' (⟨p.1.toArray⟩ : ByteArray) w10 (HR.out w10 ((HB5J.out.trans (HBB.out.mono HB5J.out.size)).trans (HB10.out.mono (HB5J.out.trans (HBB.out.mono HB5J.out.size)).size))) HP5.out.fr
                rw [show rreadL R' (⟨p.1.toArray⟩ : ByteArray).data.toList = some (fileR R' p.2).1 from HL2.out] at hr2
                refine hr2.mono ?_
                rintro _ w11 ⟨v11, rfl, hsrc11, hb11⟩
                have hB11 : Below wb.heap.size wb w11 := HB10.out.trans (hb11.mono HB10.out.size)
                have hbd := below_drew (Below.refl w11.heap.size w11)
                have hB11d : Below wb.heap.size wb w11.drew := hB11.trans (hbd.mono hB11.size)
                have hcv1 := (show SrcAt w11.drew v10 _ from HROW10.out.src.below (hb11.trans (hbd.mono hb11.size))).string
                have hcv2 := (show SrcAt w11.drew v11 _ from hsrc11.below hbd).string
                have cn := HCN.out w11.drew ((HB6J.out.trans (HBB.out.mono HB6J.out.size)).trans (hB11d.mono (HB6J.out.trans (HBB.out.mono HB6J.out.size)).size))
                have cby := HBXC.out w11.drew hB11d
                have HBE := Aside0.mk (HBJ.out.trans ((HBB.out.trans (hB11.mono HBB.out.size)).mono HBJ.out.size))
                have HBE' := Aside0.mk (HBJ.out.trans ((HBB.out.trans (hB11d.mono HBB.out.size)).mono HBJ.out.size))
                have heq : ∀ b : ByteArray, (b.toList == b.toList) = true := fun b => beq_self_eq_true _
                clear hr2 hsrc11 hb11 hB11 hbd hB11d cbx
                go_wp2_with fail
                go_region
                all_goals
                  go_wp2_with fail
                  go_roundw
                  case rel => exact ⟨j + 1, by first | rw [hwj] | rfl, Aside0.mk HJ'.out, HBE'⟩
                  case measure => first | (rw [hwj]; simp [intOf]; have := HJ'.out; omega) | (simp [intOf]; have := HJ'.out; omega)
              · have e1 : decide ((j : Int) < (nd : Int)) = false := decide_eq_false (by omega)
                have hj2 : ¬ (j : Int) < (nd : Int) := by omega
                clear hjn
                go_wp2_with fail
                have hr := read_calls ok1 d A' (⟨#[110, 111]⟩ : ByteArray) wj (HD.out wj HB5J.out) (by decide) (fun f hf => by have := (HP5.out.fa.len f).2; have := HI.out; omega)
                rw [show readL A' (⟨#[110, 111]⟩ : ByteArray).data.toList = none from HP5.out.sn.no] at hr
                refine hr.mono ?_
                rintro _ w12 ⟨v12, rfl, -, hb12⟩
                have HB12 := Aside0.mk hb12
                have HI8 := Aside0.mk (show i + 1 ≤ n ∧ i + 1 ≤ 60 from ⟨HIN.out, by have := HI4.out; omega⟩)
                have HT8 := Aside0.mk (show PSt w d x (i + 1) A' R' w12 from ⟨HP5.out, Twin.below ⟨ok1, ok2, HOK.out.1, HOK.out.2, HD.out w5 (Below.refl _ _), HR.out w5 (Below.refl _ _)⟩ (HB5J.out.trans (hb12.mono HB5J.out.size)), HB5.out.trans ((HB5J.out.trans (hb12.mono HB5J.out.size)).mono HB5.out.size)⟩)
                clear hr hb12
                go_wp2_with fail
                go_roundw
                case rel => exact ⟨i + 1, A', R', by first | rw [hwi] | rfl, HI8, HT8⟩
                case measure => have := HIN.out; first | (rw [hwi]; simp [intOf]; omega) | (simp [intOf]; omega)
      · have d1 : decide ((i : Int) < (n : Int)) = false := decide_eq_false (by omega)
        have hin2 : ¬ (i : Int) < (n : Int) := by omega
        clear hin
        go_wp2_with fail
        go_ret
        exact ⟨rfl, HT.out.2.2⟩

end Go.Proofs.Ytgpinkgfgkolfaa.PD
