/- The document's Unfold in plain lists. -/
import Derived.Test.YtkkbkdpfhbjliaaDoorPFx2
import Derived.Test.YtkkbkdpfhbjliaaDoorPl1
namespace Go.Proofs.YtkkbkdpfhbjliaaDoor.PF
open Go.RowKit Go.Proofs.YtkkbkdpfhbjliaaDoorW.PrintWords Go.Proofs.YtkkbkdpfhbjliaaDoorW.PrintLast Go.Proofs.YtkkbkdpfhbjliaaDoorW.PrintMore
set_option linter.unusedVariables false
set_option linter.unusedSimpArgs false
set_option maxHeartbeats 4000000
set_option maxRecDepth 100000

open Go.Proofs Go.Lib
theorem ev_succ {α : Type} {g : Nat → Option α} {r : α} (h : Ev (fun k => g (k + 1)) r) : Ev g r := by
  obtain ⟨K, h⟩ := h
  refine ⟨K + 1, fun k hk => ?_⟩
  obtain ⟨m, rfl⟩ : ∃ m, k = m + 1 := ⟨k - 1, by omega⟩
  exact h m (by omega)
theorem ev_eq {α : Type} {g g' : Nat → Option α} {r : α} (e : ∀ k, g k = g' k) (h : Ev g' r) : Ev g r := by
  obtain ⟨K, h⟩ := h
  exact ⟨K, fun k hk => (e k).trans (h k hk)⟩
theorem ev_now {α : Type} {g : Nat → Option α} {r : α} (e : ∀ k, g k = some r) : Ev g r := ⟨0, fun k _ => e k⟩
theorem ne_nat {a : UInt8} (n : Nat) (m : Int) (hm : (n : Int) = m) (hn : n < 256) (h : ¬ a = UInt8.ofNat n) : ¬ ((a.toNat : Int) = m) := fun e => by
  apply h
  apply UInt8.toNat_inj.1
  rw [UInt8.toNat_ofNat']
  omega
def headB : List UInt8 → Bool
  | [] => false
  | b :: _ => blank b
def resR : Option (List (List UInt8)) → List ByteArray × Bool
  | none => ([], false)
  | some o => (o.map mkB, true)
theorem take_one {l : List UInt8} {a i : Nat} (hai : a ≤ i) (hi : i < l.length) : (l.take (i + 1)).drop a = (l.take i).drop a ++ [l[i]] := by
  rw [List.take_succ_eq_append_getElem hi, List.drop_append_of_le_length (by rw [List.length_take]; omega)]
theorem strip_snoc (q : List UInt8) (c : UInt8) : strip (q ++ [c]) = if c = 13 then q else q ++ [c] := by
  unfold strip
  by_cases hc : c = 13
  · subst hc; rw [if_pos (by simp), if_pos rfl]; simp
  · rw [if_neg (by simpa using hc), if_neg hc]
/-- The rows. -/
theorem rows_loop (x : ByteArray) (hx : x.size ≤ 1073741824) : ∀ (n i a k : Nat) (rows : List (List UInt8)), i + n = x.size → a ≤ i → rows.length ≤ i →
    calepinref02_Unfold.l0 (n + 1 + k) x (rows.map mkB) (a : Int) (i : Int) = match rowsOf ((x.data.toList.take i).drop a) (x.data.toList.drop i) with
      | none => some ([], false)
      | some rs => calepinref02_Unfold.l1 (k) [] ((rows ++ rs).map mkB) ((rows ++ rs).length : Int) 0
  | 0, i, a, k, rows, hn, ha, hr => by
    have hl : x.data.toList.length = x.size := rfl
    have hd : x.data.toList.drop i = [] := List.drop_of_length_le (by omega)
    rw [show 0 + 1 + k = k + 1 by omega]
    unfold calepinref02_Unfold.l0
    rw [if_neg (by omega), hd]
    unfold rowsOf
    by_cases hc : a < x.size
    · rw [if_pos (by omega), if_neg (by intro e; have := congrArg List.length e; rw [List.length_drop, List.length_take] at this; simp at this; omega)]
    · rw [if_neg (by omega), if_pos (by apply List.eq_nil_of_length_eq_zero; rw [List.length_drop, List.length_take]; omega)]
      simp only [List.append_nil, List.length_map]
  | n + 1, i, a, k, rows, hn, ha, hr => by
    have hl : x.data.toList.length = x.size := rfl
    have hi : i < x.data.toList.length := by omega
    rw [show n + 1 + 1 + k = (n + 1 + k) + 1 by omega]
    unfold calepinref02_Unfold.l0
    have w1 : wrap64 ((i : Int) + 1) = ((i + 1 : Nat) : Int) := by unfold wrap64; omega
    rw [if_pos (by omega), if_pos (by omega), bt_is x i hi, w1, List.drop_eq_getElem_cons hi]
    conv => rhs; unfold rowsOf
    by_cases c1 : x.data.toList[i] = 10
    · rw [if_pos (by rw [c1]; rfl), if_pos (by omega), if_pos (by omega), if_pos (by omega), Int.toNat_natCast, Int.toNat_natCast, ext_is x a i (by omega), if_pos c1]
      have ih := fun r => rows_loop x hx n (i + 1) (i + 1) k (rows ++ [r]) (by omega) (Nat.le_refl _) (by rw [List.length_append, List.length_singleton]; omega)
      have hz : (x.data.toList.take (i + 1)).drop (i + 1) = [] := List.drop_of_length_le (by rw [List.length_take]; omega)
      rw [hz] at ih
      have fin : ∀ r, (if (rows.map mkB).length < 8796093022208 then calepinref02_Unfold.l0 (n + 1 + k) x (rows.map mkB ++ [mkB r]) ((i + 1 : Nat) : Int) ((i + 1 : Nat) : Int) else none) = match (rowsOf [] (x.data.toList.drop (i + 1))).map (r :: ·) with
          | none => some ([], false)
          | some rs => calepinref02_Unfold.l1 k [] ((rows ++ rs).map mkB) ((rows ++ rs).length : Int) 0 := fun r => by
        have h := ih r
        rw [List.map_append, List.map_singleton] at h
        rw [if_pos (by rw [List.length_map]; omega), h]
        cases rowsOf [] (x.data.toList.drop (i + 1)) with
        | none => rfl
        | some rs => simp
      obtain ⟨cur, hcur⟩ : ∃ cur, (x.data.toList.take i).drop a = cur := ⟨_, rfl⟩
      have hcl : cur.length ≤ 1073741824 := by rw [← hcur, List.length_drop, List.length_take]; omega
      rw [hcur]
      rcases List.eq_nil_or_concat cur with he | ⟨q, c, he⟩
      · rw [he, if_neg (by simp [mkB_size])]
        exact fin []
      · rw [List.concat_eq_append] at he
        have hql : cur.length = q.length + 1 := by rw [he]; simp
        have hw : wrap64 (((mkB cur).size : Int) - 1) = ((q.length : Nat) : Int) := by rw [mkB_size]; unfold wrap64; omega
        have hb : bt (mkB cur) ((q.length : Nat) : Int) = (c.toNat : Int) := by
          rw [bt_is (mkB cur) q.length (by show q.length < cur.length; omega)]
          have : (mkB cur).data.toList = q ++ [c] := he
          simp [this]
        rw [if_pos (by rw [mkB_size]; omega), hw, if_pos (by omega), if_pos (by rw [mkB_size]; omega), hb, he, strip_snoc]
        by_cases hc : c = 13
        · subst hc
          rw [if_pos (show ((13 : UInt8).toNat : Int) = 13 from rfl), if_pos (by rw [mkB_size, List.length_append]; omega), if_pos rfl, Int.toNat_natCast, ext_to _ _ (by rw [mkB_size, List.length_append]; omega), mkB_list, List.take_left]
          exact fin q
        · rw [if_neg (ne_nat 13 13 rfl (by decide) hc), if_neg hc]
          exact fin (q ++ [c])
    · rw [if_neg (ne_nat 10 10 rfl (by decide) c1), if_neg c1, rows_loop x hx n (i + 1) a k rows (by omega) (by omega) (by omega), take_one ha hi]
theorem put_ne (out : List (List UInt8)) (r : List UInt8) (o : List (List UInt8)) (h : put out r = some o) : o ≠ [] := by
  cases r with
  | nil => cases h
  | cons b t =>
    unfold put at h
    simp only at h
    split at h
    · cases h
    · split at h
      · cases hg : out.getLast? with
        | none => rw [hg] at h; cases h
        | some x => rw [hg] at h; injection h with h; subst h; simp
      · injection h with h; subst h; simp
theorem row_ev (R : List ByteArray) (len : Int) (out : List ByteArray) (i : Int) (row : List UInt8) (hr : row.length ≤ 1073741824) (res : List ByteArray × Bool) : ∀ (n p : Nat), p + n = row.length → row ≠ [] →
    (13 ∈ row.drop p → res = ([], false)) → (13 ∉ row.drop p → Ev (fun k => calepinref02_Unfold.j3 k out i (mkB row) R len i (headB row)) res) →
    Ev (fun k => calepinref02_Unfold.l2 k out i (mkB row) (p : Int) R len i) res
  | 0, p, hn, hne, h1, h2 => by
    have hd : row.drop p = [] := List.drop_of_length_le (by omega)
    rw [hd] at h2
    have h2 := h2 (by simp)
    refine ev_succ (ev_eq (fun k => ?_) h2)
    conv => lhs; unfold calepinref02_Unfold.l2
    rw [if_neg (by rw [mkB_size]; omega)]
    cases row with
    | nil => exact absurd rfl hne
    | cons b t =>
      have hb : bt (mkB (b :: t)) 0 = (b.toNat : Int) := bt_is (mkB (b :: t)) 0 (by show 0 < (b :: t).length; simp)
      rw [if_pos (by rw [mkB_size, List.length_cons]; omega), hb]
      by_cases c1 : b = 32
      · subst c1
        rw [if_pos (show ((32 : UInt8).toNat : Int) = 32 from rfl)]; rfl
      · rw [if_neg (ne_nat 32 32 rfl (by decide) c1)]
        show _ = calepinref02_Unfold.j3 k out i (mkB (b :: t)) R len i (blank b)
        congr 1
        unfold blank
        have c1' : (b == 32) = false := by simpa using c1
        rw [c1', Bool.false_or]
        by_cases c2 : b = 9
        · subst c2; rfl
        · have c2' : (b == 9) = false := by simpa using c2
          rw [c2']
          exact beq_eq_false_iff_ne.2 (ne_nat 9 9 rfl (by decide) c2)
  | n + 1, p, hn, hne, h1, h2 => by
    have hp : p < row.length := by omega
    rw [List.drop_eq_getElem_cons hp] at h1 h2
    have hb : bt (mkB row) (p : Int) = ((row[p]).toNat : Int) := bt_is (mkB row) p hp
    have w1 : wrap64 ((p : Int) + 1) = ((p + 1 : Nat) : Int) := by unfold wrap64; omega
    by_cases c : row[p] = 13
    · rw [h1 (by rw [c]; exact List.mem_cons_self)]
      refine ev_succ (ev_now fun k => ?_)
      unfold calepinref02_Unfold.l2
      rw [if_pos (by rw [mkB_size]; omega), if_pos (by omega), hb, if_pos (by rw [c]; rfl)]
    · have ih := row_ev R len out i row hr res n (p + 1) (by omega) hne (fun h => h1 (List.mem_cons_of_mem _ h)) (fun h => h2 (by
        intro hm
        rcases List.mem_cons.1 hm with e | hm
        · exact c e.symm
        · exact h hm))
      refine ev_succ (ev_eq (fun k => ?_) ih)
      conv => lhs; unfold calepinref02_Unfold.l2
      rw [if_pos (by rw [mkB_size]; omega), if_pos (by omega), hb, if_neg (ne_nat 13 13 rfl (by decide) c), w1]
theorem lines_ev (R : List (List UInt8)) (hR : R.length ≤ 1073741824) : ∀ (rs done : List (List UInt8)) (out : List (List UInt8)) (N : Nat), R = done ++ rs → (done = [] ↔ out = []) → out.length ≤ done.length → (∀ l ∈ out, l.length ≤ N) → N + (rs.map List.length).sum ≤ 1073741824 →
    Ev (fun k => calepinref02_Unfold.l1 k (out.map mkB) (R.map mkB) (R.length : Int) (done.length : Int)) (resR (putAll out rs))
  | [], done, out, N, hd, he, hl, hN, hs => by
    refine ev_succ (ev_now fun k => ?_)
    unfold calepinref02_Unfold.l1
    have : R.length = done.length := by rw [hd]; simp
    rw [if_neg (by omega)]
    rfl
  | r :: rs, done, out, N, hd, he, hl, hN, hs => by
    have hlen : R.length = done.length + 1 + rs.length := by rw [hd]; simp; omega
    have hrd : rdOf ByteArray.empty (R.map mkB) (done.length : Int) = mkB r := by
      unfold rdOf
      rw [Int.toNat_natCast, List.getD_eq_getElem?_getD, hd, List.map_append, List.getElem?_append_right (by rw [List.length_map]; exact Nat.le_refl _), List.length_map, Nat.sub_self]
      rfl
    rw [List.map_cons, List.sum_cons] at hs
    have hstep : ∀ k, calepinref02_Unfold.l1 (k + 1) (out.map mkB) (R.map mkB) (R.length : Int) (done.length : Int) = if r = [] then some ([], false) else calepinref02_Unfold.l2 k (out.map mkB) (done.length : Int) (mkB r) ((0 : Nat) : Int) (R.map mkB) (R.length : Int) (done.length : Int) := fun k => by
      conv => lhs; unfold calepinref02_Unfold.l1
      rw [if_pos (by omega), if_pos (by omega), if_pos (by rw [List.length_map]; omega), hrd, mkB_size]
      by_cases hr : r = []
      · subst hr; rw [if_pos (show (([] : List UInt8).length : Int) = 0 from rfl), if_pos rfl]
      · rw [if_neg (by intro e; exact hr (List.eq_nil_of_length_eq_zero (by omega))), if_neg hr]; rfl
    refine ev_succ (ev_eq hstep ?_)
    by_cases hr : r = []
    · subst hr
      exact ev_now fun k => by rw [if_pos rfl]; rfl
    · refine ev_eq (fun k => if_neg hr) ?_
      have h13 : ∀ b t, r = b :: t → 13 ∈ r → put out r = none := fun b t e hm => by
        subst e
        unfold put
        simp only
        rw [if_pos hm]
      refine row_ev (R.map mkB) _ (out.map mkB) _ r (by omega) _ r.length 0 (by omega) hr ?_ ?_
      · intro hm
        rw [List.drop_zero] at hm
        cases hrr : r with
        | nil => exact absurd hrr hr
        | cons b t =>
          have := h13 b t hrr hm
          rw [hrr] at this
          unfold putAll
          rw [this]; rfl
      · intro hm
        rw [List.drop_zero] at hm
        cases hrr : r with
        | nil => exact absurd hrr hr
        | cons b t =>
          rw [hrr] at hm hs
          rw [List.length_cons] at hs
          show Ev (fun k => calepinref02_Unfold.j3 k (out.map mkB) (done.length : Int) (mkB (b :: t)) (R.map mkB) (R.length : Int) (done.length : Int) (blank b)) _
          have hw : wrap64 ((done.length : Int) + 1) = ((done.length + 1 : Nat) : Int) := by unfold wrap64; omega
          have hput : put out (b :: t) = if blank b then (match out.getLast? with | none => none | some x => some (out.dropLast ++ [x ++ t])) else some (out ++ [b :: t]) := by
            conv => lhs; unfold put
            simp only
            rw [if_neg hm]
            cases blank b <;> cases out.getLast? <;> rfl
          have next : ∀ o, put out (b :: t) = some o → Ev (fun k => calepinref02_Unfold.l1 k (o.map mkB) (R.map mkB) (R.length : Int) ((done.length + 1 : Nat) : Int)) (resR (putAll o rs)) := fun o ho => by
            have hpl := put_len out (b :: t) o ho
            have := lines_ev R hR rs (done ++ [b :: t]) o (N + (b :: t).length) (by rw [hd, hrr]; simp) (by simp [put_ne out _ o ho]) (by simp; omega) (hpl.2 N hN) (by rw [List.length_cons]; omega)
            rw [List.length_append, List.length_singleton] at this
            exact this
          unfold putAll
          cases hb : blank b
          · rw [hb] at hput
            simp only [Bool.false_eq_true, if_false] at hput
            rw [hput, Option.bind_some]
            refine ev_succ (ev_eq (fun k => ?_) (next _ hput))
            unfold calepinref02_Unfold.j3
            rw [if_neg (by decide), if_pos (by rw [List.length_map]; omega), hw, List.map_append]; rfl
          · rw [hb] at hput
            simp only [if_true] at hput
            cases hg : out.getLast? with
            | none =>
              rw [hg] at hput
              have ho : out = [] := by simpa using hg
              have hdn : done = [] := he.2 ho
              rw [hput]
              refine ev_succ (ev_now fun k => ?_)
              unfold calepinref02_Unfold.j3
              rw [if_pos rfl, hdn, if_pos (show (([] : List (List UInt8)).length : Int) = 0 from rfl)]; rfl
            | some x =>
              rw [hg] at hput
              simp only at hput
              have hne : 1 ≤ out.length := by
                obtain ⟨q, rfl⟩ := List.getLast?_eq_some_iff.1 hg
                simp
              have hdn : done.length ≠ 0 := by
                intro e
                have := he.1 (List.eq_nil_of_length_eq_zero e)
                rw [this] at hne
                exact absurd hne (by decide)
              rw [hput, Option.bind_some]
              refine ev_succ (ev_eq (fun k => ?_) (next _ hput))
              unfold calepinref02_Unfold.j3
              have hw2 : wrap64 (((out.map mkB).length : Int) - 1) = ((out.length - 1 : Nat) : Int) := by rw [List.length_map]; unfold wrap64; omega
              have hx : x.length ≤ N := hN x (List.mem_of_getLast? hg)
              have hex : (mkB (b :: t)).extract 1 (mkB (b :: t)).size = mkB t := by rw [ext_from]; rfl
              rw [if_pos rfl, if_neg (by omega), hw2, if_pos (by omega), if_pos (by rw [List.length_map]; omega), if_pos (by rw [mkB_size, List.length_cons]; omega), rd_last out x hg, hex, if_pos (by rw [mkB_size, mkB_size]; omega), mkB_app, Int.toNat_natCast, set_last out x t hg, hw]
theorem rows_sum : ∀ (l cur : List UInt8) (rs : List (List UInt8)), rowsOf cur l = some rs → (rs.map List.length).sum + rs.length ≤ cur.length + l.length
  | [], cur, rs, h => by
    unfold rowsOf at h
    split at h
    · injection h with h; subst h; simp
    · cases h
  | b :: l, cur, rs, h => by
    unfold rowsOf at h
    split at h
    · obtain ⟨q, hq, rfl⟩ := Option.map_eq_some_iff.1 h
      have := rows_sum l [] q hq
      have h2 := strip_len cur
      simp only [List.map_cons, List.sum_cons, List.length_cons, List.length_nil] at this ⊢
      omega
    · have := rows_sum l (cur ++ [b]) rs h
      rw [List.length_append, List.length_singleton] at this
      rw [List.length_cons]; omega
theorem RefUnfold_is (x : ByteArray) (hx : x.size ≤ 1073741824) : ∃ k, calepinref02_Unfold.f k x = some (resR (unfold x.data.toList)) := by
  have hloop := fun k => rows_loop x hx x.size 0 0 k [] (by omega) (Nat.le_refl _) (Nat.le_refl _)
  have h1 : (x.data.toList.take 0).drop 0 = [] := rfl
  have h2 : x.data.toList.drop 0 = x.data.toList := List.drop_zero
  rw [h1, h2] at hloop
  unfold unfold
  rw [unf_rows]
  cases hr : rowsOf [] x.data.toList with
  | none =>
    rw [hr] at hloop
    exact ⟨x.size + 1 + 0, hloop 0⟩
  | some rs =>
    rw [hr] at hloop
    have hs := rows_sum _ _ _ hr
    have hl : x.data.toList.length = x.size := rfl
    rw [hl, List.length_nil] at hs
    obtain ⟨K, hK⟩ := lines_ev rs (by omega) rs [] [] 0 rfl (by simp) (by simp) (by simp) (by omega)
    refine ⟨x.size + 1 + K, ?_⟩
    have h3 := hloop K
    simp only [List.nil_append] at h3
    exact h3.trans (hK K (Nat.le_refl _))

end Go.Proofs.YtkkbkdpfhbjliaaDoor.PF
