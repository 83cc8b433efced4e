/- Compact, of a log and of the document's. -/
import Derived.Test.YtigjfnleinhahaaLogX
import Derived.Test.YtigjfnleinhahaaApp

import Derived.StillTailTactics
import Derived.WalkSpells
namespace Go.Proofs.Ytigjfnleinhahaa.PLog
open Go.RowKit Go.Proofs.YtigjfnleinhahaaW.PrintWords Go.Proofs.YtigjfnleinhahaaW.PrintLast Go.Proofs.YtigjfnleinhahaaW.PrintMore
open Go.Proofs.Ytigjfnleinhahaa.Reg
set_option linter.unusedVariables false
set_option linter.unusedSimpArgs false
set_option maxHeartbeats 4000000
set_option maxRecDepth 100000

/-- A kind whose elements are read as they were made: in blocks of ok. -/
def ownKd {α : Type} (d : Kd α) (base : Nat) (ok : Nat → Prop) : Kd α where
  sz := d.sz
  E := []
  K := fun w x cs => d.M w base ok x cs
  M := fun _ _ _ _ _ => False
  K_len := fun h => d.K_len (d.K_of_M h)
  K_one := fun h => d.K_one (d.K_of_M h)
  K_below := fun hb h => Kd.M_below h hb
  K_of_M := fun h => h.elim
  M_mono := fun _ h => h
  M_bound := fun h => h.elim
  M_move := fun _ h => h
  M_lower := fun _ h => h
theorem R_ownC {α : Type} {d : Kd α} {e : Nat} {w : World} {base : Nat} {ok : Nat → Prop} {v : Value} {xs : List α} (h : d.R e w base ok v xs) : ∃ A c, v = .slice A xs.length c ∧ xs.length ≤ c ∧ (ownKd d base (fun k => ok k ∧ k < w.heap.size)).C w A xs.length xs := by
  have h2 := Kd.R_mono (Kd.R_bound h) (ok' := fun k => ok k ∧ k < w.heap.size) (fun k hk => ⟨hk.1, hk.2.2.1⟩)
  obtain ⟨A, c, he, hl, hr⟩ := OwnRow.reads h2.2
  exact ⟨A, c, he, hl, hr.imp_ (Below.refl _ _) (fun _ _ hp => d.M_mono (fun _ hk => hk.1) hp)⟩
theorem set_field {w : World} {g : Nat} {cs : Array Value} {T : TypeId} (j : Nat) (h : w.heap[g]? = some (.cells cs T (0, 0))) (u : Value) : (w.setCell ⟨g, j, none⟩ u).heap[g]? = some (.cells (cs.setIfInBounds j u) T (0, 0)) := by
  simp only [World.setCell, Array.getElem?_modify, if_true, h]
  rfl
theorem empty_row60 (W : World) (base : Nat) (hb : base ≤ W.heap.size) : Kd.R k60 60 (W.alloc (.cells #[] 60)) base (fun k => W.heap.size ≤ k) (.slice (some ⟨W.heap.size, 0, none⟩) 0 0) [] := by
  refine ⟨fun k hk => by simp [Value.ownBlock] at hk; omega, [], ?_, rfl, fun j p hj => by simp at hj⟩
  have h2 := World.ownsRow_lit (base := base) (e := 60) (size := 14) W #[] 0 hb (by decide) (by rfl)
  exact h2
theorem clone_calls (w : World) (ad : Addr) (c : Nat) (es : List S60) (ok : Nat → Prop) (hC : (ownKd k60 0 ok).C w (some ad) es.length es) (hok : ∀ k, ok k → k < w.heap.size) (hl : es.length * 192 ≤ 140737488355328) :
    Calls Try.prog 32 #[.slice (some ad) es.length c] w fun e w' => ∃ v, e = .returned v ∧ Kd.R k60 60 w' 0 (fun k => ok k ∨ w.heap.size ≤ k) v es ∧ Below w.heap.size w w' := by
  have hb := below_alloc (Below.refl w.heap.size w) (Obj.cells #[] 60)
  have hsz : (w.alloc (Obj.cells #[] 60)).heap.size = w.heap.size + 1 := by show (w.heap.push _).size = _; rw [Array.size_push]
  have HC := Aside0.mk (Kd.C_below hC hb)
  have HL := Aside0.mk hl
  have HE := Aside0.mk (Kd.R_mono (empty_row60 w 0 (Nat.zero_le _)) (ok' := fun k => ok k ∨ w.heap.size ≤ k) (fun k hk => .inr hk))
  have HB := Aside0.mk hb
  have HO := Aside0.mk hok
  have HS := Aside0.mk hsz
  clear hC hl hb hok hsz
  generalize hn : es.length = n at *
  have HN := Aside0.mk hn
  clear hn
  have hq := fun (W : World) (n c : Nat) => Lib.run_eql_slice_nil (P := Try.prog) W 35 60 (some ad) n c 0 0 Try.underlying35
  go_enter Try.func32, Try.ntmps32
  go_wp2_with (first
    | (at_builtin
       refine Kd.R_append_rows (Rr := fun x cs => k60.M (w.alloc (Obj.cells #[] 60)) 0 ok x cs) k60 (w0 := w) 0 rfl (.tmp 5) (.tmp 6) 35 60 _ 192 rfl Try.underlying35 info60 rfl (by decide) (by decide) _ [] es (some ad) n c (fun k => ok k ∨ w.heap.size ≤ k) ok rfl rfl HE.out HC.out (fun x cs h => h) (fun k hk => ⟨.inl hk, fun he => by have := HO.out k hk; have he2 : some k = some w.heap.size := he; injection he2 with he2; omega⟩) (fun k hk => .inr (by have := HS.out; omega)) (HB.out.mono (Nat.zero_le _)) (Nat.zero_le _) (by have := HL.out; show (0 + n) * 192 ≤ _; omega) ?_
       intro v1 w1 hR1 hB1 hg1 hat1)
    | fail)
  go_ret
  exact ⟨_, rfl, hR1, HB.out.grown hg1 HB.out.size (fun k hk => by have hk2 : some w.heap.size = some k := hk; injection hk2 with hk2; omega)⟩
theorem Log.set3 {w w2 : World} {ok ok' : Nat → Prop} {g : Nat} {u0 u1 u2 v : Value} {x y : Int} {es : List S60} (hb : Below w.heap.size w w2) (hg : ok g) (hlt : g < w.heap.size) (hh : w2.heap[g]? = some (.cells #[u0, u1, u2] 62 (0, 0))) (hR : Kd.R k60 60 w2 0 ok' v es) (hok : ∀ k, ok' k → (ok k ∨ w.heap.size ≤ k) ∧ k ≠ g) :
    Log (((w2.setCell ⟨g, 0, none⟩ (.int .i64 x)).setCell ⟨g, 1, none⟩ (.int .i64 y)).setCell ⟨g, 2, none⟩ v) (fun k => ok k ∨ w.heap.size ≤ k) g x y es ∧ Kept w (((w2.setCell ⟨g, 0, none⟩ (.int .i64 x)).setCell ⟨g, 1, none⟩ (.int .i64 y)).setCell ⟨g, 2, none⟩ v) ok ∧ Below 0 w (((w2.setCell ⟨g, 0, none⟩ (.int .i64 x)).setCell ⟨g, 1, none⟩ (.int .i64 y)).setCell ⟨g, 2, none⟩ v) := by
  refine ⟨⟨.inl hg, v, set_field 2 (set_field 1 (set_field 0 hh _) _) _, ?_⟩, ?_, ?_⟩
  · have h1 := Kd.R_far (p := ⟨g, 2, none⟩) (Kd.R_far (p := ⟨g, 1, none⟩) (Kd.R_far (p := ⟨g, 0, none⟩) hR (fun k hk => (hok k hk).2) (.int .i64 x)) (fun k hk => (hok k hk).2) (.int .i64 y)) (fun k hk => (hok k hk).2) v
    exact Kd.R_mono h1 hok
  · exact Kept.setCell (Kept.setCell (Kept.setCell (Kept.below (Kept.refl w ok) hb) (.inl hg) _) (.inl hg) _) (.inl hg) _
  · exact Below.setCell (Below.setCell (Below.setCell (hb.mono (Nat.zero_le _)) (Nat.zero_le _) _) (Nat.zero_le _) _) (Nat.zero_le _) _
theorem LogX.set3 {w w2 : World} {ok ok' : Nat → Prop} {g : Nat} {u0 u1 u2 v : Value} {x y : Int} {es : List S60} (hb : Below w.heap.size w w2) (hg : ok g) (hlt : g < w.heap.size) (hh : w2.heap[g]? = some (.cells #[u0, u1, u2] 47 (0, 0))) (hR : Kd.R k60 60 w2 0 ok' v es) (hok : ∀ k, ok' k → (ok k ∨ w.heap.size ≤ k) ∧ k ≠ g) :
    LogX (((w2.setCell ⟨g, 0, none⟩ (.int .i64 x)).setCell ⟨g, 1, none⟩ (.int .i64 y)).setCell ⟨g, 2, none⟩ v) (fun k => ok k ∨ w.heap.size ≤ k) g x y es ∧ Kept w (((w2.setCell ⟨g, 0, none⟩ (.int .i64 x)).setCell ⟨g, 1, none⟩ (.int .i64 y)).setCell ⟨g, 2, none⟩ v) ok ∧ Below 0 w (((w2.setCell ⟨g, 0, none⟩ (.int .i64 x)).setCell ⟨g, 1, none⟩ (.int .i64 y)).setCell ⟨g, 2, none⟩ v) := by
  refine ⟨⟨.inl hg, v, set_field 2 (set_field 1 (set_field 0 hh _) _) _, ?_⟩, ?_, ?_⟩
  · have h1 := Kd.R_far (p := ⟨g, 2, none⟩) (Kd.R_far (p := ⟨g, 1, none⟩) (Kd.R_far (p := ⟨g, 0, none⟩) hR (fun k hk => (hok k hk).2) (.int .i64 x)) (fun k hk => (hok k hk).2) (.int .i64 y)) (fun k hk => (hok k hk).2) v
    exact Kd.R_mono h1 hok
  · exact Kept.setCell (Kept.setCell (Kept.setCell (Kept.below (Kept.refl w ok) hb) (.inl hg) _) (.inl hg) _) (.inl hg) _
  · exact Below.setCell (Below.setCell (Below.setCell (hb.mono (Nat.zero_le _)) (Nat.zero_le _) _) (Nat.zero_le _) _) (Nat.zero_le _) _

def compactL (a t : Int) (es : List S60) (x y : Int) : Bool × Int × Int × List S60 := if x ≤ a then (false, a, t, es) else (true, x, y, if termAt a t es x = (y, true) then es.drop (x - a).toNat else [])

theorem compact_calls {w : World} {ok : Nat → Prop} {g : Nat} {a t : Int} {es : List S60} (h : Log w ok g a t es) (h0 : 0 ≤ a) (h1 : a + es.length ≤ 4611686018427387904) (hl : es.length * 192 ≤ 140737488355328) (x y : Int) :
    Calls Try.prog 23 #[.pointer (some ⟨g, 0, none⟩), .int .i64 x, .int .i64 y] w fun e w' => e = .returned (.bool (compactL a t es x y).1) ∧ Log w' (fun k => ok k ∨ w.heap.size ≤ k) g (compactL a t es x y).2.1 (compactL a t es x y).2.2.1 (compactL a t es x y).2.2.2 ∧ Kept w w' ok ∧ Below 0 w w' := by
  obtain ⟨hg, v, hh, hR⟩ := h
  have hlt : g < w.heap.size := (Array.getElem?_eq_some_iff.1 hh).1
  have HL := Aside0.mk (show Log w ok g a t es from ⟨hg, v, hh, hR⟩)
  have HH := Aside0.mk (And.intro hh (And.intro hg hlt))
  have c0 : w.cell? ⟨g, 0, none⟩ = some (.int .i64 a) := by simp [World.cell?, hh]
  have c1 : w.cell? ⟨g, 1, none⟩ = some (.int .i64 t) := by simp [World.cell?, hh]
  have HB := Aside0.mk (And.intro h0 (And.intro h1 hl))
  unfold compactL
  by_cases e1 : x ≤ a
  · rw [if_pos e1]
    have d1 : decide (x ≤ a) = true := decide_eq_true e1
    clear hg hh hR hlt
    go_enter Try.func23, Try.ntmps23
    go_wp2_with fail
    go_ret
    exact ⟨rfl, HL.out.mono (fun _ hk => .inl hk), Kept.refl _ _, Below.refl _ _⟩
  · rw [if_neg e1]
    have d1 : decide (x ≤ a) = false := decide_eq_false e1
    generalize hT : termAt a t es x = T
    have HT := Aside0.mk hT
    by_cases e2 : T = (y, true)
    · rw [if_pos e2]
      subst e2
      have hx : x ≤ a + es.length := by
        have h := HT.out
        unfold termAt at h
        split at h
        · omega
        · split at h
          · split at h
            · omega
            · injection h with _ h; cases h
          · injection h with _ h; cases h
      obtain ⟨q, hq⟩ : ∃ q : Nat, x - a = (q : Int) := ⟨(x - a).toNat, by omega⟩
      have hqt : (x - a).toNat = q := by omega
      have hql : q ≤ es.length := by omega
      rw [hqt]
      have hwx : wrap64 (x - a) = (q : Int) := by rw [← hq]; unfold wrap64; omega
      have hix : IntKind.i64.wrap (x - a) = (q : Int) := by rw [i64_w]; exact hwx
      obtain ⟨A, c, rfl, hc, hr⟩ := R_ownC hR
      obtain ⟨ad, rfl, -⟩ := hr.2.2 (by omega)
      have hD := Kd.C_drop hr hql hc
      obtain ⟨ad2, had⟩ : ∃ ad2 : Addr, (if c = q then (some ad) else (some ad).map (·.add (q * (ownKd k60 0 (fun k => (ok k ∧ k ≠ g) ∧ k < w.heap.size)).sz))) = some ad2 := by split <;> exact ⟨_, rfl⟩
      have had2 : (if c = q then ad else ad.add (q * 14)) = ad2 := by
        split at had
        · rename_i hcq; rw [if_pos hcq]; exact Option.some.inj had
        · rename_i hcq; rw [if_neg hcq]; exact Option.some.inj had
      rw [had] at hD
      have hdl : (es.drop q).length = es.length - q := List.length_drop
      have hk : IntKind.i64.wrap (q : Int) = q := by rw [i64_w]; unfold wrap64; omega
      have hq1 : (q : Int) ≤ (es.length : Int) := by omega
      have had3 : (if c = q then some ad else some (ad.add (q * 14))) = some ad2 := by rw [← had2]; split <;> rfl
      have c2 : w.cell? ⟨g, 2, none⟩ = some (.slice (some ad) es.length c) := by simp [World.cell?, hh]
      have HD := Aside0.mk hD
      have HQ := Aside0.mk hql
      clear hg hh hR hlt hr hD had hT
      go_enter Try.func23, Try.ntmps23
      go_wp2_with fail
      refine (term_calls HL.out h0 h1 x).mono ?_
      rw [HT.out]
      rintro _ w1 ⟨rfl, m, rfl⟩
      go_wp2_with fail
      obtain ⟨w1, hw1⟩ : ∃ w1, w1 = w.drewN m := ⟨_, rfl⟩
      rw [← hw1]
      have p0 : w1.cell? ⟨g, 0, none⟩ = some (.int .i64 a) := by rw [hw1]; exact c0
      have p2 : w1.cell? ⟨g, 2, none⟩ = some (.slice (some ad) es.length c) := by rw [hw1]; exact c2
      have HW := Aside0.mk hw1
      clear hw1 c0 c1 c2
      go_still_tail 11, (by kernel_rfl)
      change wpList _ _ _ _ _ w1.drew
      have HWD := Aside0.mk (show Below w.heap.size w w1.drew from by rw [HW.out]; exact below_drew (pw_below_drewN (Below.refl _ _) m))
      generalize w1.drew = wd at *
      clear p0 p2
      have HCL := Aside0.mk (clone_calls wd ad2 (c - q) (es.drop q) _ (Kd.C_below HD.out (by rw [show w.heap.size = w.heap.size from rfl]; exact HWD.out)) (fun k hk => Nat.lt_of_lt_of_le hk.2 HWD.out.size) (by rw [hdl]; have := HB.out; omega))
      rw [hdl] at HCL
      go_wp2_with fail
      refine HCL.out.mono ?_
      clear HCL
      rintro _ w2 ⟨v, rfl, hR2, hb2⟩
      have hg2 : w2.heap[g]? = some (.cells #[.int .i64 a, .int .i64 t, .slice (some ad) es.length c] 62 (0, 0)) := (hb2.block g (Nat.lt_of_lt_of_le HH.out.2.2 HWD.out.size)).trans ((HWD.out.block g HH.out.2.2).trans HH.out.1)
      obtain ⟨A3, c3, rfl⟩ := Kd.R_slice hR2
      have HR2 := Aside0.mk hR2
      have HG2 := Aside0.mk hg2
      have HB2 := Aside0.mk (show Below w.heap.size w w2 from HWD.out.trans (hb2.mono HWD.out.size))
      have f0 : w2.frozen? ⟨g, 0, none⟩ = false := by simp [World.frozen?, hg2]
      have f1 : w2.frozen? ⟨g, 1, none⟩ = false := by simp [World.frozen?, hg2]
      have f2 : w2.frozen? ⟨g, 2, none⟩ = false := by simp [World.frozen?, hg2]
      have q0 : w2.cell? ⟨g, 0, none⟩ = some (.int .i64 a) := by simp [World.cell?, hg2]
      have q1 : w2.cell? ⟨g, 1, none⟩ = some (.int .i64 t) := by simp [World.cell?, hg2]
      have q2 : w2.cell? ⟨g, 2, none⟩ = some (.slice (some ad) es.length c) := by simp [World.cell?, hg2]
      clear hR2 hg2 hb2

      go_wp2_with fail
      go_ret
      have h3 := HR2.out
      rw [← hdl]
      exact ⟨rfl, Log.set3 HB2.out HH.out.2.1 HH.out.2.2 HG2.out h3 (fun k hk => by
        rcases hk with hk | hk
        · exact ⟨.inl hk.1.1, hk.1.2⟩
        · have := HWD.out.size; have := HH.out.2.2; exact ⟨.inr (by omega), by omega⟩)⟩
    · rw [if_neg e2]
      obtain ⟨u, b⟩ := T
      have HE := Aside0.mk e2
      have hfin := Log.set3 (w2 := w.drewN 0) (v := .slice none 0 0) (es := []) (ok' := fun _ => False) (x := x) (y := y) (pw_below_drewN (Below.refl w.heap.size w) 0) hg hlt hh (Kd.R_nil _ _ _ _ _) (fun k hk => hk.elim)
      obtain ⟨A, c, rfl⟩ := Kd.R_slice hR
      have c2 : w.cell? ⟨g, 2, none⟩ = some (.slice A es.length c) := by simp [World.cell?, hh]
      have f0 : w.frozen? ⟨g, 0, none⟩ = false := by simp [World.frozen?, hh]
      have f1 : w.frozen? ⟨g, 1, none⟩ = false := by simp [World.frozen?, hh]
      have f2 : w.frozen? ⟨g, 2, none⟩ = false := by simp [World.frozen?, hh]
      have HFIN := Aside0.mk (show ∀ m, Log (((((w.drewN m).setCell ⟨g, 0, none⟩ (.int .i64 x)).setCell ⟨g, 1, none⟩ (.int .i64 y)).setCell ⟨g, 2, none⟩ (.slice none 0 0))) (fun k => ok k ∨ w.heap.size ≤ k) g x y [] ∧ Kept w ((((w.drewN m).setCell ⟨g, 0, none⟩ (.int .i64 x)).setCell ⟨g, 1, none⟩ (.int .i64 y)).setCell ⟨g, 2, none⟩ (.slice none 0 0)) ok ∧ Below 0 w ((((w.drewN m).setCell ⟨g, 0, none⟩ (.int .i64 x)).setCell ⟨g, 1, none⟩ (.int .i64 y)).setCell ⟨g, 2, none⟩ (.slice none 0 0)) from
        fun m => Log.set3 (w2 := w.drewN m) (v := .slice none 0 0) (es := []) (ok' := fun _ => False) (x := x) (y := y) (pw_below_drewN (Below.refl w.heap.size w) m) hg hlt hh (Kd.R_nil _ _ _ _ _) (fun k hk => hk.elim))
      clear hg hh hR hlt hT e2 hfin
      cases b with
      | true =>
        have hu : (u == y) = false := by simpa using (fun h : u = y => HE.out (by rw [h]))
        go_enter Try.func23, Try.ntmps23
        go_wp2_with fail
        refine (term_calls HL.out h0 h1 x).mono ?_
        rw [HT.out]
        rintro _ w1 ⟨rfl, m, rfl⟩
        go_wp2_with fail
        go_ret
        exact ⟨rfl, HFIN.out m⟩
      | false =>
        go_enter Try.func23, Try.ntmps23
        go_wp2_with fail
        refine (term_calls HL.out h0 h1 x).mono ?_
        rw [HT.out]
        rintro _ w1 ⟨rfl, m, rfl⟩
        go_wp2_with fail
        go_ret
        exact ⟨rfl, HFIN.out m⟩

theorem compact_x {w : World} {ok : Nat → Prop} {g : Nat} {a t : Int} {es : List S60} (h : LogX w ok g a t es) (h0 : 0 ≤ a) (h1 : a + es.length ≤ 4611686018427387904) (hl : es.length * 192 ≤ 140737488355328) (x y : Int) :
    Calls Try.prog 24 #[.pointer (some ⟨g, 0, none⟩), .int .i64 x, .int .i64 y] w fun e w' => e = .returned (.bool (compactL a t es x y).1) ∧ LogX w' (fun k => ok k ∨ w.heap.size ≤ k) g (compactL a t es x y).2.1 (compactL a t es x y).2.2.1 (compactL a t es x y).2.2.2 ∧ Kept w w' ok ∧ Below 0 w w' := by
  obtain ⟨hg, v, hh, hR⟩ := h
  have hlt : g < w.heap.size := (Array.getElem?_eq_some_iff.1 hh).1
  have HL := Aside0.mk (show LogX w ok g a t es from ⟨hg, v, hh, hR⟩)
  have HH := Aside0.mk (And.intro hh (And.intro hg hlt))
  have c0 : w.cell? ⟨g, 0, none⟩ = some (.int .i64 a) := by simp [World.cell?, hh]
  have c1 : w.cell? ⟨g, 1, none⟩ = some (.int .i64 t) := by simp [World.cell?, hh]
  have HB := Aside0.mk (And.intro h0 (And.intro h1 hl))
  unfold compactL
  by_cases e1 : x ≤ a
  · rw [if_pos e1]
    have d1 : decide (x ≤ a) = true := decide_eq_true e1
    clear hg hh hR hlt
    go_enter Try.func24, Try.ntmps24
    go_wp2_with fail
    go_ret
    exact ⟨rfl, HL.out.mono (fun _ hk => .inl hk), Kept.refl _ _, Below.refl _ _⟩
  · rw [if_neg e1]
    have d1 : decide (x ≤ a) = false := decide_eq_false e1
    generalize hT : termAt a t es x = T
    have HT := Aside0.mk hT
    by_cases e2 : T = (y, true)
    · rw [if_pos e2]
      subst e2
      have hx : x ≤ a + es.length := by
        have h := HT.out
        unfold termAt at h
        split at h
        · omega
        · split at h
          · split at h
            · omega
            · injection h with _ h; cases h
          · injection h with _ h; cases h
      obtain ⟨q, hq⟩ : ∃ q : Nat, x - a = (q : Int) := ⟨(x - a).toNat, by omega⟩
      have hqt : (x - a).toNat = q := by omega
      have hql : q ≤ es.length := by omega
      rw [hqt]
      have hwx : wrap64 (x - a) = (q : Int) := by rw [← hq]; unfold wrap64; omega
      have hix : IntKind.i64.wrap (x - a) = (q : Int) := by rw [i64_w]; exact hwx
      obtain ⟨A, c, rfl, hc, hr⟩ := R_ownC hR
      obtain ⟨ad, rfl, -⟩ := hr.2.2 (by omega)
      have hD := Kd.C_drop hr hql hc
      obtain ⟨ad2, had⟩ : ∃ ad2 : Addr, (if c = q then (some ad) else (some ad).map (·.add (q * (ownKd k60 0 (fun k => (ok k ∧ k ≠ g) ∧ k < w.heap.size)).sz))) = some ad2 := by split <;> exact ⟨_, rfl⟩
      have had2 : (if c = q then ad else ad.add (q * 14)) = ad2 := by
        split at had
        · rename_i hcq; rw [if_pos hcq]; exact Option.some.inj had
        · rename_i hcq; rw [if_neg hcq]; exact Option.some.inj had
      rw [had] at hD
      have hdl : (es.drop q).length = es.length - q := List.length_drop
      have hk : IntKind.i64.wrap (q : Int) = q := by rw [i64_w]; unfold wrap64; omega
      have hq1 : (q : Int) ≤ (es.length : Int) := by omega
      have had3 : (if c = q then some ad else some (ad.add (q * 14))) = some ad2 := by rw [← had2]; split <;> rfl
      have c2 : w.cell? ⟨g, 2, none⟩ = some (.slice (some ad) es.length c) := by simp [World.cell?, hh]
      have HD := Aside0.mk hD
      have HQ := Aside0.mk hql
      clear hg hh hR hlt hr hD had hT
      go_enter Try.func24, Try.ntmps24
      go_wp2_with fail
      refine (term_x HL.out h0 h1 x).mono ?_
      rw [HT.out]
      rintro _ w1 ⟨rfl, m, rfl⟩
      go_wp2_with fail
      obtain ⟨w1, hw1⟩ : ∃ w1, w1 = w.drewN m := ⟨_, rfl⟩
      rw [← hw1]
      have p0 : w1.cell? ⟨g, 0, none⟩ = some (.int .i64 a) := by rw [hw1]; exact c0
      have p2 : w1.cell? ⟨g, 2, none⟩ = some (.slice (some ad) es.length c) := by rw [hw1]; exact c2
      have HW := Aside0.mk hw1
      clear hw1 c0 c1 c2
      go_still_tail 12, (by kernel_rfl)
      change wpList _ _ _ _ _ w1.drew
      have HWD := Aside0.mk (show Below w.heap.size w w1.drew from by rw [HW.out]; exact below_drew (pw_below_drewN (Below.refl _ _) m))
      generalize w1.drew = wd at *
      clear p0 p2
      have HD2 := Aside0.mk (Kd.C_below HD.out HWD.out)
      rw [hdl] at HD2
      have hnil := Kd.R_nil k60 60 wd 0 (fun k => ((ok k ∧ k ≠ g) ∧ k < w.heap.size) ∨ wd.heap.size ≤ k)
      have HNIL := Aside0.mk hnil
      clear hnil
      go_wp2_with (first
        | (at_builtin
           refine Kd.R_append_rows k60 (w0 := wd) 0 rfl (.tmp 28) (.tmp 39) 35 60 _ 192 rfl Try.underlying35 info60 rfl (by decide) (by decide) _ [] (es.drop q) (some ad2) (es.length - q) (c - q) (fun k => ((ok k ∧ k ≠ g) ∧ k < w.heap.size) ∨ wd.heap.size ≤ k) (fun k => (ok k ∧ k ≠ g) ∧ k < w.heap.size) rfl rfl HNIL.out HD2.out (fun x cs h => h) (fun k hk => ⟨.inl hk, fun he => by have he2 : some k = none := he; cases he2⟩) (fun k hk => .inr hk) (Below.refl 0 _) (Nat.zero_le _) (by have := HB.out; show (0 + (es.length - q)) * 192 ≤ _; omega) ?_
           intro v w2 hR2 hB1 hg1 hat1
           have hb2 : Below wd.heap.size wd w2 := (Below.refl wd.heap.size wd).grown hg1 (Nat.le_refl _) (fun k hk => by cases hk)
           clear hB1 hat1 hg1
           have hg2 : w2.heap[g]? = some (.cells #[.int .i64 a, .int .i64 t, .slice (some ad) es.length c] 47 (0, 0)) := (hb2.block g (Nat.lt_of_lt_of_le HH.out.2.2 HWD.out.size)).trans ((HWD.out.block g HH.out.2.2).trans HH.out.1)
           obtain ⟨A3, c3, rfl⟩ := Kd.R_slice hR2
           have HR2 := Aside0.mk hR2
           have HG2 := Aside0.mk hg2
           have HB2 := Aside0.mk (show Below w.heap.size w w2 from HWD.out.trans (hb2.mono HWD.out.size))
           have f0 : w2.frozen? ⟨g, 0, none⟩ = false := by simp [World.frozen?, hg2]
           have f1 : w2.frozen? ⟨g, 1, none⟩ = false := by simp [World.frozen?, hg2]
           have f2 : w2.frozen? ⟨g, 2, none⟩ = false := by simp [World.frozen?, hg2]
           have q0 : w2.cell? ⟨g, 0, none⟩ = some (.int .i64 a) := by simp [World.cell?, hg2]
           have q1 : w2.cell? ⟨g, 1, none⟩ = some (.int .i64 t) := by simp [World.cell?, hg2]
           have q2 : w2.cell? ⟨g, 2, none⟩ = some (.slice (some ad) es.length c) := by simp [World.cell?, hg2]
           clear hR2 hg2 hb2)
        | fail)

      go_ret
      have h3 := HR2.out
      rw [← hdl]
      exact ⟨rfl, LogX.set3 HB2.out HH.out.2.1 HH.out.2.2 HG2.out h3 (fun k hk => by
        rcases hk with hk | hk
        · exact ⟨.inl hk.1.1, hk.1.2⟩
        · have := HWD.out.size; have := HH.out.2.2; exact ⟨.inr (by omega), by omega⟩)⟩
    · rw [if_neg e2]
      obtain ⟨u, b⟩ := T
      have HE := Aside0.mk e2
      have hfin := LogX.set3 (w2 := w.drewN 0) (v := .slice none 0 0) (es := []) (ok' := fun _ => False) (x := x) (y := y) (pw_below_drewN (Below.refl w.heap.size w) 0) hg hlt hh (Kd.R_nil _ _ _ _ _) (fun k hk => hk.elim)
      obtain ⟨A, c, rfl⟩ := Kd.R_slice hR
      have c2 : w.cell? ⟨g, 2, none⟩ = some (.slice A es.length c) := by simp [World.cell?, hh]
      have f0 : w.frozen? ⟨g, 0, none⟩ = false := by simp [World.frozen?, hh]
      have f1 : w.frozen? ⟨g, 1, none⟩ = false := by simp [World.frozen?, hh]
      have f2 : w.frozen? ⟨g, 2, none⟩ = false := by simp [World.frozen?, hh]
      have HFIN := Aside0.mk (show ∀ m, LogX (((((w.drewN m).setCell ⟨g, 0, none⟩ (.int .i64 x)).setCell ⟨g, 1, none⟩ (.int .i64 y)).setCell ⟨g, 2, none⟩ (.slice none 0 0))) (fun k => ok k ∨ w.heap.size ≤ k) g x y [] ∧ Kept w ((((w.drewN m).setCell ⟨g, 0, none⟩ (.int .i64 x)).setCell ⟨g, 1, none⟩ (.int .i64 y)).setCell ⟨g, 2, none⟩ (.slice none 0 0)) ok ∧ Below 0 w ((((w.drewN m).setCell ⟨g, 0, none⟩ (.int .i64 x)).setCell ⟨g, 1, none⟩ (.int .i64 y)).setCell ⟨g, 2, none⟩ (.slice none 0 0)) from
        fun m => LogX.set3 (w2 := w.drewN m) (v := .slice none 0 0) (es := []) (ok' := fun _ => False) (x := x) (y := y) (pw_below_drewN (Below.refl w.heap.size w) m) hg hlt hh (Kd.R_nil _ _ _ _ _) (fun k hk => hk.elim))
      clear hg hh hR hlt hT e2 hfin
      cases b with
      | true =>
        have hu : (u == y) = false := by simpa using (fun h : u = y => HE.out (by rw [h]))
        go_enter Try.func24, Try.ntmps24
        go_wp2_with fail
        refine (term_x HL.out h0 h1 x).mono ?_
        rw [HT.out]
        rintro _ w1 ⟨rfl, m, rfl⟩
        go_wp2_with fail
        go_ret
        exact ⟨rfl, HFIN.out m⟩
      | false =>
        go_enter Try.func24, Try.ntmps24
        go_wp2_with fail
        refine (term_x HL.out h0 h1 x).mono ?_
        rw [HT.out]
        rintro _ w1 ⟨rfl, m, rfl⟩
        go_wp2_with fail
        go_ret
        exact ⟨rfl, HFIN.out m⟩

end Go.Proofs.Ytigjfnleinhahaa.PLog
