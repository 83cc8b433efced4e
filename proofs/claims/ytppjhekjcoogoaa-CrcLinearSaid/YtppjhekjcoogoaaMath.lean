/- The sums of bytes as plain mathematics: one register, linear, one to one. -/
namespace Go.Proofs.Ytppjhekjcoogoaa.CrcMath
theorem xlc (a b c : Nat) : a ^^^ (b ^^^ c) = b ^^^ (a ^^^ c) := by rw [← Nat.xor_assoc, Nat.xor_comm a b, Nat.xor_assoc]
/-- One step of the register. -/
def S (a : Nat) : Nat := (a >>> 1) ^^^ (if a.testBit 0 then 3988292384 else 0)
def Sn : Nat → Nat → Nat
  | 0, a => a
  | n + 1, a => Sn n (S a)
theorem S_xor (a b : Nat) : S (a ^^^ b) = S a ^^^ S b := by
  unfold S
  rw [Nat.shiftRight_xor_distrib, Nat.testBit_xor]
  cases a.testBit 0 <;> cases b.testBit 0
  · simp
  · simp [Nat.xor_assoc]
  · simp [Nat.xor_assoc]; rw [Nat.xor_comm (b >>> 1)]
  · simp [Nat.xor_assoc]; rw [xlc 3988292384]; simp
theorem Sn_xor (n a b : Nat) : Sn n (a ^^^ b) = Sn n a ^^^ Sn n b := by
  induction n generalizing a b with
  | zero => rfl
  | succ n ih => simp only [Sn, S_xor, ih]
theorem Sn_add (m n a : Nat) : Sn (m + n) a = Sn n (Sn m a) := by
  induction m generalizing a with
  | zero => simp [Sn]
  | succ m ih => rw [Nat.succ_add]; simp only [Sn, ih]
theorem S_even (a : Nat) : S (a <<< 1) = a := by
  unfold S
  have h : (a <<< 1).testBit 0 = false := by simp
  rw [h]; simp [Nat.shiftLeft_eq, Nat.shiftRight_eq_div_pow]
theorem Sn_shl (n a : Nat) : Sn n (a <<< n) = a := by
  induction n generalizing a with
  | zero => rfl
  | succ n ih =>
    show Sn n (S (a <<< (n + 1))) = a
    rw [Nat.shiftLeft_add a n 1, S_even, ih]
theorem S_zero : S 0 = 0 := by decide
theorem Sn_zero (n : Nat) : Sn n 0 = 0 := by
  induction n with
  | zero => rfl
  | succ n ih => simp only [Sn, S_zero, ih]
theorem S_lt (a : Nat) (h : a < 2 ^ 32) : S a < 2 ^ 32 := by
  unfold S
  apply Nat.xor_lt_two_pow
  · rw [Nat.shiftRight_eq_div_pow]; omega
  · split <;> decide
theorem Sn_lt (n a : Nat) (h : a < 2 ^ 32) : Sn n a < 2 ^ 32 := by
  induction n generalizing a with
  | zero => exact h
  | succ n ih => exact ih _ (S_lt a h)
theorem S_ne (a : Nat) (h : a < 2 ^ 32) (h0 : a ≠ 0) : S a ≠ 0 := by
  intro e
  unfold S at e
  cases hb : a.testBit 0 with
  | true =>
    rw [hb] at e; simp only [if_true] at e
    have e2 : a >>> 1 = 3988292384 := by
      have := congrArg (· ^^^ 3988292384) e
      simpa [Nat.xor_assoc] using this
    rw [Nat.shiftRight_eq_div_pow] at e2
    omega
  | false =>
    rw [hb] at e; simp [Nat.shiftRight_eq_div_pow] at e
    have hm : a % 2 = 0 := by
      have := Nat.testBit_zero a
      rw [hb] at this
      have := (decide_eq_false_iff_not.1 this.symm)
      omega
    omega
theorem Sn_ne (n a : Nat) (h : a < 2 ^ 32) (h0 : a ≠ 0) : Sn n a ≠ 0 := by
  induction n generalizing a with
  | zero => exact h0
  | succ n ih => exact ih _ (S_lt a h) (S_ne a h h0)
/-- A byte into the register. -/
def byteIn (r x : Nat) : Nat := Sn 8 (r ^^^ x)
def reg (r : Nat) (xs : List Nat) : Nat := xs.foldl byteIn r
/-- Bytes as one number, the first one least. -/
def whole : List Nat → Nat
  | [] => 0
  | x :: xs => x ^^^ (whole xs <<< 8)
theorem reg_whole (xs : List Nat) : ∀ r, reg r xs = Sn (8 * xs.length) (r ^^^ whole xs) := by
  induction xs with
  | nil => intro r; simp [reg, whole, Sn]
  | cons x xs ih =>
    intro r
    have e : 8 * (x :: xs).length = 8 + 8 * xs.length := by simp; omega
    rw [e, Sn_add]
    show reg (byteIn r x) xs = _
    rw [ih]
    congr 1
    show Sn 8 (r ^^^ x) ^^^ whole xs = Sn 8 (r ^^^ (x ^^^ (whole xs <<< 8)))
    rw [← Nat.xor_assoc, Sn_xor 8 (r ^^^ x), Sn_shl]
theorem reg_append (r : Nat) (xs ys : List Nat) : reg r (xs ++ ys) = reg (reg r xs) ys := by simp [reg, List.foldl_append]
theorem reg_lt (xs : List Nat) (hx : ∀ x ∈ xs, x < 256) : ∀ r, r < 2 ^ 32 → reg r xs < 2 ^ 32 := by
  induction xs with
  | nil => intro r h; exact h
  | cons x xs ih =>
    intro r h
    refine ih (fun y hy => hx y (by simp [hy])) _ (Sn_lt _ _ (Nat.xor_lt_two_pow h ?_))
    have := hx x (by simp); omega
theorem whole_set (xs : List Nat) : ∀ (i b : Nat) (h : i < xs.length), whole (xs.set i (xs[i] ^^^ b)) = whole xs ^^^ (b <<< (8 * i)) := by
  induction xs with
  | nil => intro i b h; simp at h
  | cons x xs ih =>
    intro i b h
    cases i with
    | zero => simp only [List.set_cons_zero, List.getElem_cons_zero, whole, Nat.mul_zero, Nat.shiftLeft_zero]; rw [Nat.xor_assoc, Nat.xor_comm b, ← Nat.xor_assoc]
    | succ i =>
      have h' : i < xs.length := by simpa using h
      simp only [List.set_cons_succ, List.getElem_cons_succ, whole]
      rw [ih i b h', Nat.shiftLeft_xor_distrib, ← Nat.shiftLeft_add, Nat.xor_assoc]
      rw [show 8 * i + 8 = 8 * (i + 1) by omega]
/-- A burst is told. -/
theorem burst (xs ys : List Nat) (r k t : Nat) (hl : ys.length = xs.length) (hk : k ≤ 8 * xs.length) (ht : t < 2 ^ 32) (h0 : t ≠ 0)
    (hw : whole ys = whole xs ^^^ (t <<< k)) : reg r ys ≠ reg r xs := by
  intro e
  rw [reg_whole, reg_whole, hl, hw, ← Nat.xor_assoc, Sn_xor _ (r ^^^ whole xs)] at e
  have e2 : Sn (8 * xs.length) (t <<< k) = 0 := by
    have := congrArg (fun z => Sn (8 * xs.length) (r ^^^ whole xs) ^^^ z) e
    simpa [← Nat.xor_assoc] using this
  obtain ⟨m, hm⟩ : ∃ m, 8 * xs.length = k + m := ⟨8 * xs.length - k, by omega⟩
  rw [hm, Sn_add, Sn_shl] at e2
  exact Sn_ne m t ht h0 e2
end Go.Proofs.Ytppjhekjcoogoaa.CrcMath
namespace Go.Proofs.Ytppjhekjcoogoaa.CrcMath
theorem split16 (a : Nat) : a = (a >>> 4 <<< 4) ^^^ (a &&& 15) := by
  apply Nat.eq_of_testBit_eq
  intro i
  have h15 : (15 : Nat) = 2 ^ 4 - 1 := by decide
  rw [Nat.testBit_xor, Nat.testBit_shiftLeft, Nat.testBit_and, h15, Nat.testBit_two_pow_sub_one, Nat.testBit_shiftRight]
  by_cases h : i < 4
  · have : ¬ i ≥ 4 := by omega
    simp [h, this]
  · have h2 : i ≥ 4 := by omega
    rw [show 4 + (i - 4) = i by omega]
    simp [h, h2]
theorem Sn4 (a : Nat) : Sn 4 a = (a / 16) ^^^ Sn 4 (a &&& 15) := by
  have h := congrArg (Sn 4) (split16 a)
  rw [Sn_xor, Sn_shl] at h
  rw [h, Nat.shiftRight_eq_div_pow]
def moreN (s : Nat) (xs : List Nat) : Nat := 4294967295 ^^^ reg (4294967295 ^^^ s) xs
theorem inv2 (a : Nat) : 4294967295 ^^^ (4294967295 ^^^ a) = a := by rw [← Nat.xor_assoc, Nat.xor_self, Nat.zero_xor]
theorem moreN_append (s : Nat) (a b : List Nat) : moreN (moreN s a) b = moreN s (a ++ b) := by
  unfold moreN; rw [inv2, reg_append]
theorem moreN_nil (s : Nat) : moreN s [] = s := by unfold moreN; exact inv2 s
theorem moreN_lt (s : Nat) (xs : List Nat) (hs : s < 2 ^ 32) (hx : ∀ x ∈ xs, x < 256) : moreN s xs < 2 ^ 32 :=
  Nat.xor_lt_two_pow (by decide) (reg_lt xs hx _ (Nat.xor_lt_two_pow (by decide) hs))
/-- The sum of bytes. -/
def crcN (xs : List Nat) : Nat := moreN 0 xs
theorem crcN_lt (xs : List Nat) (hx : ∀ x ∈ xs, x < 256) : crcN xs < 2 ^ 32 := moreN_lt _ _ (by decide) hx
/-- Sums of three rows of one length, added. -/
theorem whole_xor (xs : List Nat) : ∀ ys : List Nat, ys.length = xs.length → whole (List.zipWith (· ^^^ ·) xs ys) = whole xs ^^^ whole ys := by
  induction xs with
  | nil => intro ys h; cases ys <;> simp_all [whole]
  | cons x xs ih =>
    intro ys h
    cases ys with
    | nil => simp at h
    | cons y ys =>
      simp only [List.zipWith_cons_cons, whole]
      rw [ih ys (by simpa using h), Nat.shiftLeft_xor_distrib]
      simp only [Nat.xor_assoc]
      rw [xlc y]
theorem crcN_eq (xs : List Nat) : crcN xs = 4294967295 ^^^ (Sn (8 * xs.length) 4294967295 ^^^ Sn (8 * xs.length) (whole xs)) := by
  unfold crcN moreN
  rw [reg_whole, Sn_xor, Nat.xor_zero]
theorem crcN_three (xs ys zs : List Nat) (h1 : ys.length = xs.length) (h2 : zs.length = xs.length) :
    crcN (List.zipWith (· ^^^ ·) (List.zipWith (· ^^^ ·) xs ys) zs) = crcN xs ^^^ crcN ys ^^^ crcN zs := by
  have l1 : (List.zipWith (· ^^^ ·) xs ys).length = xs.length := by simp [h1]
  have l2 : (List.zipWith (· ^^^ ·) (List.zipWith (· ^^^ ·) xs ys) zs).length = xs.length := by simp [h1, h2]
  rw [crcN_eq, crcN_eq, crcN_eq, crcN_eq, l2, h1, h2, whole_xor _ _ (by rw [l1, h2]), whole_xor _ _ h1, Sn_xor, Sn_xor]
  generalize Sn (8 * xs.length) 4294967295 = A
  generalize Sn (8 * xs.length) (whole xs) = B
  generalize Sn (8 * xs.length) (whole ys) = C
  generalize Sn (8 * xs.length) (whole zs) = D
  apply Nat.eq_of_testBit_eq
  intro i
  simp only [Nat.testBit_xor]
  cases (4294967295 : Nat).testBit i <;> cases A.testBit i <;> cases B.testBit i <;> cases C.testBit i <;> cases D.testBit i <;> rfl
/-- A sum behind its bytes. -/
theorem le4 (s : Nat) (h : s < 2 ^ 32) : whole [s % 256, s / 256 % 256, s / 65536 % 256, s / 16777216 % 256] = s := by
  have key : ∀ a b : Nat, b < 256 → b ^^^ (a <<< 8) = 256 * a + b := by
    intro a b hb
    rw [Nat.xor_comm, Nat.shiftLeft_eq]
    have : a * 2 ^ 8 ^^^ b = a * 2 ^ 8 + b := by
      rw [← Nat.shiftLeft_eq, Nat.shiftLeft_add_eq_or_of_lt (by omega : b < 2 ^ 8)]
      apply Nat.eq_of_testBit_eq
      intro i
      rw [Nat.testBit_xor, Nat.testBit_or, Nat.testBit_shiftLeft]
      by_cases hi : i ≥ 8
      · have : b.testBit i = false := Nat.testBit_lt_two_pow (Nat.lt_of_lt_of_le (show b < 2 ^ 8 from hb) (Nat.pow_le_pow_right (show 2 > 0 by decide) hi))
        simp [this]
      · simp [hi]
    rw [this]; omega
  simp only [whole]
  rw [Nat.zero_shiftLeft, Nat.xor_zero, key _ _ (by omega), key _ _ (by omega), key _ _ (by omega)]
  omega
theorem crc_behind (xs : List Nat) (hx : ∀ x ∈ xs, x < 256) :
    crcN (xs ++ [crcN xs % 256, crcN xs / 256 % 256, crcN xs / 65536 % 256, crcN xs / 16777216 % 256]) = 558161692 := by
  have hl := crcN_lt xs hx
  have e : crcN (xs ++ [crcN xs % 256, crcN xs / 256 % 256, crcN xs / 65536 % 256, crcN xs / 16777216 % 256])
      = moreN (crcN xs) [crcN xs % 256, crcN xs / 256 % 256, crcN xs / 65536 % 256, crcN xs / 16777216 % 256] := by
    rw [crcN, ← moreN_append]; rfl
  rw [e]
  unfold moreN
  rw [reg_whole, le4 _ hl, Nat.xor_assoc, Nat.xor_self, Nat.xor_zero]
  show 4294967295 ^^^ Sn 32 4294967295 = 558161692
  decide
end Go.Proofs.Ytppjhekjcoogoaa.CrcMath
