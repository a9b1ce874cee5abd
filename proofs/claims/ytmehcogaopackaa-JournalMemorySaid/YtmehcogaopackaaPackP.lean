/-
  PLAIN: numbers as bytes, in groups of seven bits; reading them.
-/
import Derived.Test.YtmehcogaopackaaCrc
namespace Go.Proofs.Ytmehcogaopackaa

def top64 : Nat := 18446744073709551616
/-- the bytes of a number, with fuel -/
def numF : Nat → Nat → Bytes
  | 0, _ => []
  | f + 1, n => if n < 128 then [UInt8.ofNat n] else UInt8.ofNat (n % 128 + 128) :: numF f (n / 128)
/-- the bytes of a number -/
def num (n : Nat) : Bytes := numF 10 n
theorem numF_enough : ∀ (f g n : Nat), n < 128 ^ f → n < 128 ^ g → 0 < f → 0 < g → numF f n = numF g n
  | f + 1, g + 1, n, hf, hg, _, _ => by
    simp only [numF]
    by_cases h : n < 128
    · rw [if_pos h, if_pos h]
    · rw [if_neg h, if_neg h]
      have e1 : 128 ^ (f + 1) = 128 * 128 ^ f := by rw [Nat.pow_succ, Nat.mul_comm]
      have e2 : 128 ^ (g + 1) = 128 * 128 ^ g := by rw [Nat.pow_succ, Nat.mul_comm]
      have hf0 : 0 < f := by
        rcases Nat.eq_zero_or_pos f with h0 | h0
        · subst h0; omega
        · exact h0
      have hg0 : 0 < g := by
        rcases Nat.eq_zero_or_pos g with h0 | h0
        · subst h0; omega
        · exact h0
      rw [numF_enough f g (n / 128) (by omega) (by omega) hf0 hg0]
theorem num_few {n : Nat} (h : n < 128) : num n = [UInt8.ofNat n] := by
  show (if n < 128 then [UInt8.ofNat n] else _) = _
  rw [if_pos h]
theorem num_more {n : Nat} (h : ¬ n < 128) (h2 : n < top64) : num n = UInt8.ofNat (n % 128 + 128) :: num (n / 128) := by
  have e : num n = if n < 128 then [UInt8.ofNat n] else UInt8.ofNat (n % 128 + 128) :: numF 9 (n / 128) := rfl
  rw [e, if_neg h]
  unfold top64 at h2
  have e9 : (128 : Nat) ^ 9 = 9223372036854775808 := by decide
  have e10 : (128 : Nat) ^ 10 = 1180591620717411303424 := by decide
  unfold num
  rw [numF_enough 9 10 (n / 128) (by omega) (by omega) (by omega) (by omega)]
theorem num_pos (n : Nat) : 0 < (num n).length := by
  have e : num n = if n < 128 then [UInt8.ofNat n] else UInt8.ofNat (n % 128 + 128) :: numF 9 (n / 128) := rfl
  rw [e]
  split <;> simp
theorem numF_len : ∀ (f n : Nat), (numF f n).length ≤ f
  | 0, _ => Nat.le_refl _
  | f + 1, n => by
    simp only [numF]
    split
    · simp
    · have := numF_len f (n / 128); simp; omega
theorem num_len (n : Nat) : (num n).length ≤ 10 := numF_len 10 n
/-- a text's bytes: its length, and it -/
def text (l : Bytes) : Bytes := num l.length ++ l
/-- how many numbers, and each -/
def nums (ns : List Nat) : Bytes := num ns.length ++ (ns.map num).flatten
theorem flat_snoc (ns : List Nat) (n : Nat) : ((ns ++ [n]).map num).flatten = (ns.map num).flatten ++ num n := by simp
theorem flat_len : ∀ (ns : List Nat), ((ns.map num).flatten).length ≤ 10 * ns.length
  | [] => by simp
  | n :: r => by
    have := flat_len r
    have := num_len n
    simp only [List.map_cons, List.flatten_cons, List.length_append, List.length_cons]
    omega

/-- The number with which bytes begin: it, how many bytes it has, the error's number. i: how many bytes came before, n: what they say. -/
def scanL : Nat → Nat → Bytes → Nat × Nat × Nat
  | _, _, [] => (0, 0, 3)
  | i, n, c :: r =>
    if i = 9 ∧ 1 < c.toNat then (0, 0, 4)
    else if c.toNat < 128 then (if c.toNat = 0 ∧ 0 < i then (0, 0, 4) else (n + c.toNat * 128 ^ i, i + 1, 0))
    else scanL (i + 1) (n + c.toNat % 128 * 128 ^ i) r
def scan0 (l : Bytes) : Nat × Nat × Nat := scanL 0 0 l

theorem byte_small {n : Nat} (h : n < 256) : (UInt8.ofNat n).toNat = n := by simp; omega
/-- what was written is read as it was -/
theorem scanL_num : ∀ (f n i a : Nat) (r : Bytes), n < 128 ^ f → 0 < f → i + f ≤ 10 → (i + f = 10 → n < 2 * 128 ^ (f - 1)) → (i = 0 ∨ 0 < n) → scanL i a (numF f n ++ r) = (a + n * 128 ^ i, i + (numF f n).length, 0)
  | f + 1, n, i, a, r, hf, _, hi, h9, h0 => by
    simp only [numF]
    by_cases h : n < 128
    · rw [if_pos h]
      simp only [List.cons_append, List.nil_append, scanL]
      rw [byte_small (by omega)]
      have c1 : ¬ (i = 9 ∧ 1 < n) := by
        rintro ⟨rfl, h1⟩
        obtain rfl : f = 0 := by omega
        have := h9 rfl
        simp at this
        omega
      have c2 : ¬ (n = 0 ∧ 0 < i) := by
        rintro ⟨rfl, h1⟩
        rcases h0 with h0 | h0 <;> omega
      rw [if_neg c1, if_pos h, if_neg c2]
      rfl
    · rw [if_neg h]
      have e1 : 128 ^ (f + 1) = 128 * 128 ^ f := by rw [Nat.pow_succ, Nat.mul_comm]
      have hf0 : 0 < f := by
        rcases Nat.eq_zero_or_pos f with h0 | h0
        · subst h0; omega
        · exact h0
      simp only [List.cons_append, scanL]
      rw [byte_small (by omega)]
      have c1 : ¬ (i = 9 ∧ 1 < n % 128 + 128) := fun c => by omega
      rw [if_neg c1, if_neg (by omega)]
      have hm : (n % 128 + 128) % 128 = n % 128 := by omega
      rw [hm]
      rw [scanL_num f (n / 128) (i + 1) (a + n % 128 * 128 ^ i) r (by omega) hf0 (by omega) (by
        intro h
        have := h9 (by omega)
        have ef : f + 1 - 1 = (f - 1) + 1 := by omega
        rw [ef, Nat.pow_succ] at this
        omega) (.inr (by omega))]
      have e2 : 128 ^ (i + 1) = 128 * 128 ^ i := by rw [Nat.pow_succ, Nat.mul_comm]
      have e3 : a + n % 128 * 128 ^ i + n / 128 * 128 ^ (i + 1) = a + n * 128 ^ i := by
        rw [e2, ← Nat.mul_assoc, Nat.add_assoc, ← Nat.add_mul]
        congr 2
        omega
      rw [e3]
      simp only [List.length_cons]
      congr 2
      omega
theorem scan0_num (n : Nat) (h : n < top64) (r : Bytes) : scan0 (num n ++ r) = (n, (num n).length, 0) := by
  unfold top64 at h
  have e10 : (128 : Nat) ^ 10 = 1180591620717411303424 := by decide
  have e9 : (128 : Nat) ^ 9 = 9223372036854775808 := by decide
  have := scanL_num 10 n 0 0 r (by omega) (by omega) (by omega) (fun _ => by rw [show 10 - 1 = 9 from rfl, e9]; omega) (.inl rfl)
  unfold scan0 num
  rw [this]
  simp
/-- what was read without a fault, written anew, is the bytes that were read -/
theorem scanL_one : ∀ (l : Bytes) (i a n k : Nat), i ≤ 9 → scanL i a l = (n, k, 0) → ∃ m, m < 128 ^ (10 - i) ∧ (i + (k - i) = 10 → m < 2 * 128 ^ (9 - i)) ∧ n = a + m * 128 ^ i ∧ i < k ∧ k ≤ 10 ∧ k - i ≤ l.length ∧ numF (10 - i) m = l.take (k - i) ∧ (i = 0 ∨ 0 < m)
  | [], i, a, n, k, _, h => by simp [scanL] at h
  | c :: r, i, a, n, k, hi, h => by
    simp only [scanL] at h
    have hc := c.toNat_lt
    by_cases c1 : i = 9 ∧ 1 < c.toNat
    · rw [if_pos c1] at h; simp at h
    rw [if_neg c1] at h
    have e1 : 10 - i = (9 - i) + 1 := by omega
    have e2 : 128 ^ (10 - i) = 128 * 128 ^ (9 - i) := by rw [e1, Nat.pow_succ, Nat.mul_comm]
    have hp : 0 < 128 ^ (9 - i) := Nat.pow_pos (by omega)
    by_cases c2 : c.toNat < 128
    · rw [if_pos c2] at h
      by_cases c3 : c.toNat = 0 ∧ 0 < i
      · rw [if_pos c3] at h; simp at h
      rw [if_neg c3] at h
      simp only [Prod.mk.injEq] at h
      obtain ⟨rfl, rfl, _⟩ := h
      refine ⟨c.toNat, ?_, ?_, rfl, by omega, by omega, by simp, ?_, by omega⟩
      · rw [e2]
        have : 128 * 1 ≤ 128 * 128 ^ (9 - i) := Nat.mul_le_mul_left _ hp
        omega
      · intro h10
        obtain rfl : i = 9 := by omega
        simp
        omega
      · rw [e1]
        simp only [numF]
        rw [if_pos c2]
        have : i + 1 - i = 1 := by omega
        rw [this]
        simp
    · rw [if_neg c2] at h
      have hi9 : i ≠ 9 := fun e => c1 ⟨e, by omega⟩
      obtain ⟨m, h1, h2, h3, h4, h5, h6, h7, h8⟩ := scanL_one r (i + 1) _ n k (by omega) h
      have hm0 : 0 < m := by omega
      have e3 : 10 - (i + 1) = 9 - i := by omega
      rw [e3] at h1 h7
      have e4 : 9 - i = (9 - (i + 1)) + 1 := by omega
      refine ⟨c.toNat % 128 + 128 * m, ?_, ?_, ?_, by omega, h5, by simp only [List.length_cons]; omega, ?_, .inr (by omega)⟩
      · rw [e2]; omega
      · intro h10
        have := h2 (by omega)
        rw [e4, Nat.pow_succ]
        omega
      · rw [h3, Nat.pow_succ, Nat.add_mul]
        have : m * (128 ^ i * 128) = 128 * m * 128 ^ i := by rw [Nat.mul_comm (128 ^ i) 128, ← Nat.mul_assoc, Nat.mul_comm m 128]
        omega
      · rw [e1]
        simp only [numF]
        rw [if_neg (by omega)]
        have d1 : (c.toNat % 128 + 128 * m) / 128 = m := by omega
        have d2 : UInt8.ofNat ((c.toNat % 128 + 128 * m) % 128 + 128) = c := by
          apply UInt8.toNat_inj.1
          simp
          omega
        have d3 : k - i = (k - (i + 1)) + 1 := by omega
        rw [d1, d2, d3, List.take_succ_cons, h7]
theorem scan0_one (l : Bytes) (n k : Nat) (h : scan0 l = (n, k, 0)) : n < top64 ∧ 0 < k ∧ k ≤ l.length ∧ num n = l.take k := by
  obtain ⟨m, h1, h2, h3, h4, h5, h6, h7, _⟩ := scanL_one l 0 0 n k (by omega) h
  have e9 : (128 : Nat) ^ 9 = 9223372036854775808 := by decide
  obtain rfl : n = m := by simpa using h3
  refine ⟨?_, by omega, by omega, by unfold num; simpa using h7⟩
  unfold top64
  simp only [Nat.sub_zero, Nat.zero_add] at h1 h2 h7
  by_cases hk : k = 10
  · have := h2 hk
    rw [e9] at this
    omega
  · by_cases hn : n < 128 ^ 9
    · rw [e9] at hn; omega
    · exfalso
      have hl : (numF 10 n).length = k := by rw [h7, List.length_take]; omega
      have big : ∀ (f n : Nat), ¬ n < 128 ^ f → (numF (f + 1) n).length = f + 1 := by
        intro f
        induction f with
        | zero => intro n hn; simp only [numF]; split <;> simp
        | succ f ih =>
          intro n hn
          have e1 : 128 ^ (f + 1) = 128 * 128 ^ f := by rw [Nat.pow_succ, Nat.mul_comm]
          have hp : 0 < 128 ^ f := Nat.pow_pos (by omega)
          simp only [numF]
          rw [if_neg (by omega)]
          have := ih (n / 128) (by omega)
          simp only [List.length_cons]
          simp only [numF] at this
          omega
      have hb : (numF 10 n).length = 10 := big 9 n hn
      omega
/-- the errors of a number: too short, or of no form -/
theorem scanL_err : ∀ (l : Bytes) (i a : Nat), (scanL i a l).2.2 ≠ 0 → ((scanL i a l).1 = 0 ∧ (scanL i a l).2.1 = 0 ∧ ((scanL i a l).2.2 = 3 ∨ (scanL i a l).2.2 = 4))
  | [], _, _, _ => ⟨rfl, rfl, .inl rfl⟩
  | c :: r, i, a, h => by
    simp only [scanL] at h ⊢
    by_cases c1 : i = 9 ∧ 1 < c.toNat
    · rw [if_pos c1]; exact ⟨rfl, rfl, .inr rfl⟩
    rw [if_neg c1] at h ⊢
    by_cases c2 : c.toNat < 128
    · rw [if_pos c2] at h ⊢
      by_cases c3 : c.toNat = 0 ∧ 0 < i
      · rw [if_pos c3]; exact ⟨rfl, rfl, .inr rfl⟩
      · rw [if_neg c3] at h; exact absurd rfl h
    · rw [if_neg c2] at h ⊢
      exact scanL_err r _ _ h
/-- a number that was cut off -/
theorem scanL_cut : ∀ (f n i a m : Nat), n < 128 ^ f → 0 < f → i + f ≤ 10 → m < (numF f n).length → scanL i a ((numF f n).take m) = (0, 0, 3)
  | f + 1, n, i, a, 0, _, _, _, _ => by simp [scanL]
  | f + 1, n, i, a, m + 1, hf, _, hi, hm => by
    simp only [numF] at hm ⊢
    by_cases h : n < 128
    · rw [if_pos h] at hm; simp at hm
    · rw [if_neg h] at hm ⊢
      have e1 : 128 ^ (f + 1) = 128 * 128 ^ f := by rw [Nat.pow_succ, Nat.mul_comm]
      have hf0 : 0 < f := by
        rcases Nat.eq_zero_or_pos f with h0 | h0
        · subst h0; omega
        · exact h0
      rw [List.take_succ_cons]
      simp only [scanL]
      rw [byte_small (by omega), if_neg (fun c => by omega), if_neg (by omega)]
      exact scanL_cut f (n / 128) (i + 1) _ m (by omega) hf0 (by omega) (by simpa using hm)
theorem scan0_cut (n : Nat) (h : n < top64) (m : Nat) (hm : m < (num n).length) : scan0 ((num n).take m) = (0, 0, 3) := by
  unfold top64 at h
  have e10 : (128 : Nat) ^ 10 = 1180591620717411303424 := by decide
  exact scanL_cut 10 n 0 0 m (by omega) (by omega) (by omega) hm

/-- what one byte adds, as the program reckons it -/
theorem num_byte (n : Nat) : bits .or .u8 ((n : Int) % 256) 128 = ((UInt8.ofNat (n % 128 + 128)).toNat : Int) := by
  have e : ((n : Int) % 256) = ((n % 256 : Nat) : Int) := by omega
  rw [e, byte_small (by omega)]
  have := u8_or_nat (n % 256) 128 (by omega) (by omega)
  rw [show ((128 : Nat) : Int) = 128 from rfl] at this
  rw [this]
  congr 1
  have e2 : n % 256 = (n / 128 % 2) * 128 + n % 128 := by omega
  apply Nat.eq_of_testBit_eq
  intro i
  rw [Nat.testBit_or, show (128 : Nat) = 2 ^ 7 from rfl, Nat.testBit_two_pow, Nat.add_comm (n % 2 ^ 7) (2 ^ 7), show 256 = 2 ^ 8 from rfl, Nat.testBit_mod_two_pow]
  rcases Nat.lt_trichotomy i 7 with hi | hi | hi
  · rw [Nat.testBit_two_pow_add_gt hi, Nat.testBit_mod_two_pow]
    have h1 : decide (i < 8) = true := by simp; omega
    have h2 : decide (i < 7) = true := by simp; omega
    have h3 : decide (7 = i) = false := by simp; omega
    rw [h1, h2, h3]; simp
  · subst hi
    rw [Nat.testBit_two_pow_add_eq, Nat.testBit_mod_two_pow]
    simp
  · have h1 : decide (i < 8) = false := by simp; omega
    have h3 : decide (7 = i) = false := by simp; omega
    rw [h1, h3]
    have : (2 ^ 7 + n % 2 ^ 7).testBit i = false := Nat.testBit_lt_two_pow (Nat.lt_of_lt_of_le (by have := Nat.mod_lt n (show 0 < 2 ^ 7 by decide); omega : 2 ^ 7 + n % 2 ^ 7 < 2 ^ 8) (Nat.pow_le_pow_right (by omega) (by omega)))
    rw [this]; simp
end Go.Proofs.Ytmehcogaopackaa
