/-
  The walks of pack.Text and of the reference's Text. (Several texts in one.)
-/
import Derived.Laws.BitsAllLaws
import Derived.Laws.BitsLemmas
import Derived.Lib.Strings
import Derived.IntWalk
import Derived.Below
import Derived.Laws.IdiomStrings
import Derived.Test.YtmehcogaopackaaGreatChecked
import Derived.WalkKit
import Derived.LoopTactic
import Derived.OwnWalk
import Derived.Outline
import Derived.WalkLawsBesides
import Derived.WalkSpells
import Derived.Handy
import Derived.BigQuiet
import Derived.Deep.QuietTactic
import Derived.Maps.AppendAt
import Derived.RangeFuncBox
import Derived.Deep.RegionWith
/- PLAIN: the check sum of bytes, as a function on lists of bytes; frames; cutting them. No program in sight. -/
namespace Go.Proofs.YtmehcogaopackaaGreat

theorem hid {p : Prop} (h : p) : RowKit.Hid p := h
abbrev Bytes := List UInt8

/-- the polynomial -/
def crcPoly : Nat := 3988292384
/-- one bit -/
def crcBit (c : Nat) : Nat := if c % 2 = 1 then (c / 2) ^^^ crcPoly else c / 2
/-- k bits -/
def crcBits : Nat → Nat → Nat
  | 0, c => c
  | k + 1, c => crcBit (crcBits k c)
/-- a byte -/
def crcByte (c : Nat) (b : UInt8) : Nat := crcBits 8 (c ^^^ b.toNat)
def crcRun (l : Bytes) : Nat := l.foldl crcByte 4294967295
/-- the check sum -/
def crc (l : Bytes) : Nat := 4294967295 - crcRun l

theorem crcBit_le {c : Nat} (h : c ≤ 4294967295) : crcBit c ≤ 4294967295 := by
  unfold crcBit
  split
  · have h1 : c / 2 < 2 ^ 32 := by omega
    have h2 : crcPoly < 2 ^ 32 := by decide
    have := Nat.xor_lt_two_pow h1 h2
    omega
  · omega
theorem crcBits_le {c : Nat} (h : c ≤ 4294967295) : ∀ k, crcBits k c ≤ 4294967295
  | 0 => h
  | k + 1 => crcBit_le (crcBits_le h k)
theorem crcXor_le {c : Nat} (h : c ≤ 4294967295) (b : UInt8) : c ^^^ b.toNat ≤ 4294967295 := by
  have h1 : c < 2 ^ 32 := by omega
  have h2 : b.toNat < 2 ^ 32 := by have := b.toNat_lt; omega
  have := Nat.xor_lt_two_pow h1 h2
  omega
theorem crcByte_le {c : Nat} (h : c ≤ 4294967295) (b : UInt8) : crcByte c b ≤ 4294967295 := crcBits_le (crcXor_le h b) 8
theorem crcFold_le (l : Bytes) : ∀ {c : Nat}, c ≤ 4294967295 → l.foldl crcByte c ≤ 4294967295 := by
  induction l with
  | nil => intro c h; exact h
  | cons b l ih => intro c h; exact ih (crcByte_le h b)
theorem crcRun_le (l : Bytes) : crcRun l ≤ 4294967295 := crcFold_le l (Nat.le_refl _)
theorem crc_le (l : Bytes) : crc l ≤ 4294967295 := Nat.sub_le _ _

theorem crcRun_snoc (l : Bytes) (b : UInt8) : crcRun (l ++ [b]) = crcByte (crcRun l) b := by
  unfold crcRun; rw [List.foldl_append]; rfl

/-- the next bit, as the program reckons it -/
theorem crcBit_prog (c : Nat) (h : c ≤ 4294967295) :
    bits .xor .u32 ((c : Int) / 2) (3988292384 * bits .and .u32 (c : Int) 1 % 4294967296) = ((crcBit c : Nat) : Int) := by
  have e1 : bits .and .u32 (c : Int) 1 = ((c % 2 : Nat) : Int) := by
    have := u32_and_nat c 1 (by omega) (by omega)
    rw [Nat.and_one_is_mod] at this
    exact this
  have e2 : ((c : Int) / 2) = ((c / 2 : Nat) : Int) := by omega
  rw [e1, e2]
  unfold crcBit
  split
  · rename_i h2
    rw [h2]
    have := u32_xor_nat (c / 2) crcPoly (by omega) (by decide)
    unfold crcPoly at this ⊢
    exact this
  · rename_i h2
    have h3 : c % 2 = 0 := by omega
    rw [h3]
    have := u32_xor_nat (c / 2) 0 (by omega) (by decide)
    rw [Nat.xor_zero] at this
    exact this
theorem crcBit_ref_odd (c : Nat) (h : c ≤ 4294967295) (h2 : c % 2 = 1) : bits .xor .u32 ((c : Int) / 2) 3988292384 = ((crcBit c : Nat) : Int) := by
  have e2 : ((c : Int) / 2) = ((c / 2 : Nat) : Int) := by omega
  rw [e2]
  unfold crcBit
  rw [if_pos h2]
  have := u32_xor_nat (c / 2) crcPoly (by omega) (by decide)
  unfold crcPoly at this ⊢
  exact this
theorem crcBit_ref_even (c : Nat) (h2 : ¬ c % 2 = 1) : ((c : Int) / 2) = ((crcBit c : Nat) : Int) := by
  unfold crcBit
  rw [if_neg h2]
  omega
theorem crcXor_prog (c : Nat) (b : UInt8) (h : c ≤ 4294967295) : bits .xor .u32 (c : Int) ((b.toNat : Int) % 4294967296) = ((c ^^^ b.toNat : Nat) : Int) := by
  have hb := b.toNat_lt
  have : ((b.toNat : Int) % 4294967296) = (b.toNat : Int) := by omega
  rw [this]
  exact u32_xor_nat c b.toNat (by omega) (by omega)
theorem crcNot_prog (c : Nat) (h : c ≤ 4294967295) : bits .xor .u32 IntKind.u32.max (c : Int) = ((4294967295 - c : Nat) : Int) := by
  have hm : IntKind.u32.max = ((4294967295 : Nat) : Int) := by decide
  rw [hm, u32_xor_nat 4294967295 c (by omega) (by omega)]
  congr 1
  apply Nat.eq_of_testBit_eq
  intro i
  have e : 4294967295 - c = 2 ^ 32 - (c + 1) := by omega
  rw [e, Nat.testBit_two_pow_sub_succ (by omega), Nat.testBit_xor, show 4294967295 = 2 ^ 32 - 1 from rfl, Nat.testBit_two_pow_sub_one]
  by_cases hi : i < 32
  · simp [hi]
  · have : c.testBit i = false := Nat.testBit_lt_two_pow (Nat.lt_of_lt_of_le (by omega : c < 2 ^ 32) (Nat.pow_le_pow_right (by omega) (by omega)))
    simp [hi, this]

/-- a string of these bytes (its text is not opened by simp) -/
def str (l : Bytes) : ByteArray := ⟨l.toArray⟩
theorem str_data (l : Bytes) : (str l).data.toList = l := rfl
theorem str_size (l : Bytes) : (str l).size = l.length := by simp [str, ByteArray.size]
theorem str_of (s : ByteArray) : str s.data.toList = s := by
  apply ByteArray.ext
  simp [str]
theorem len_of (s : ByteArray) : s.data.toList.length = s.size := by rw [Array.length_toList]; rfl
theorem str_inj {a b : Bytes} (h : str a = str b) : a = b := by rw [← str_data a, h, str_data]
theorem str_append (a b : Bytes) : str a ++ str b = str (a ++ b) := by
  apply ByteArray.ext
  simp [str, ByteArray.data_append]
theorem str_append_of (a : Bytes) (s : ByteArray) : str a ++ s = str (a ++ s.data.toList) := by rw [← str_append, str_of]

/-- four bytes, the highest first -/
def four (n : Nat) : Bytes := [UInt8.ofNat (n / 16777216), UInt8.ofNat (n / 65536), UInt8.ofNat (n / 256), UInt8.ofNat n]
theorem four_length (n : Nat) : (four n).length = 4 := rfl
def frame (l : Bytes) : Bytes := four l.length ++ four (crc l) ++ l
theorem frame_length (l : Bytes) : (frame l).length = 8 + l.length := by simp [frame, four_length]; omega
/-- what Frame answers: the bytes, the error's number -/
def frameOf (l : Bytes) : Bytes × Nat := if 65536 < l.length then ([], 2) else (frame l, 0)

theorem byte_mod (n : Nat) : UInt8.ofNat (n % 256) = UInt8.ofNat n := by
  apply UInt8.toNat_inj.1
  simp
theorem byte_toNat (n : Nat) : ((UInt8.ofNat n).toNat : Int) = (n : Int) % 256 := by simp
theorem byte_of_int {x : Int} {n : Nat} (h : x = ((n % 256 : Nat) : Int)) : UInt8.ofNat x.toNat = UInt8.ofNat n := by
  rw [h, Int.toNat_natCast, byte_mod]

/-- the length that a frame's first four bytes say -/
def num4 (l : Bytes) : Nat := 16777216 * (l.getD 0 0).toNat + 65536 * (l.getD 1 0).toNat + 256 * (l.getD 2 0).toNat + (l.getD 3 0).toNat
/-- what Cut answers: the body, how many bytes, the error's number -/
def cutOf (l : Bytes) : Bytes × Nat × Nat :=
  if l.length < 8 then ([], 0, 3)
  else if 65536 < num4 l then ([], 0, 2)
  else if l.length < 8 + num4 l then ([], 0, 3)
  else if four (crc ((l.drop 8).take (num4 l))) = (l.drop 4).take 4 then ((l.drop 8).take (num4 l), 8 + num4 l, 0)
  else ([], 0, 5)

theorem cutOf_few {l : Bytes} (h : l.length < 8) : cutOf l = ([], 0, 3) := by unfold cutOf; rw [if_pos h]
theorem cutOf_long {l : Bytes} (h : ¬ l.length < 8) (h2 : 65536 < num4 l) : cutOf l = ([], 0, 2) := by unfold cutOf; rw [if_neg h, if_pos h2]
theorem cutOf_short {l : Bytes} (h : ¬ l.length < 8) (h2 : ¬ 65536 < num4 l) (h3 : l.length < 8 + num4 l) : cutOf l = ([], 0, 3) := by
  unfold cutOf; rw [if_neg h, if_neg h2, if_pos h3]
theorem cutOf_ok {l : Bytes} (h : ¬ l.length < 8) (h2 : ¬ 65536 < num4 l) (h3 : ¬ l.length < 8 + num4 l) (h4 : four (crc ((l.drop 8).take (num4 l))) = (l.drop 4).take 4) :
    cutOf l = ((l.drop 8).take (num4 l), 8 + num4 l, 0) := by unfold cutOf; rw [if_neg h, if_neg h2, if_neg h3, if_pos h4]
theorem cutOf_sum {l : Bytes} (h : ¬ l.length < 8) (h2 : ¬ 65536 < num4 l) (h3 : ¬ l.length < 8 + num4 l) (h4 : ¬ four (crc ((l.drop 8).take (num4 l))) = (l.drop 4).take 4) :
    cutOf l = ([], 0, 5) := by unfold cutOf; rw [if_neg h, if_neg h2, if_neg h3, if_neg h4]
theorem four_num4 (l : Bytes) (h : 4 ≤ l.length) : four (num4 l) = l.take 4 := by
  match l, h with
  | a :: b :: c :: d :: r, _ =>
    have ha := a.toNat_lt
    have hb := b.toNat_lt
    have hc := c.toNat_lt
    have hd := d.toNat_lt
    simp only [four, num4, List.getD_cons_zero, List.getD_cons_succ, List.take_succ_cons, List.take_zero]
    have e : ∀ (x : UInt8) (n : Nat), n % 256 = x.toNat → UInt8.ofNat n = x := fun x n h => by
      apply UInt8.toNat_inj.1
      simp only [UInt8.toNat_ofNat']
      omega
    rw [e a _ (by omega), e b _ (by omega), e c _ (by omega), e d _ (by omega)]
theorem num4_four (n : Nat) (h : n ≤ 4294967295) (r : Bytes) : num4 (four n ++ r) = n := by
  simp only [four, num4, List.cons_append, List.nil_append, List.getD_cons_zero, List.getD_cons_succ, UInt8.toNat_ofNat']
  omega
theorem head_eq_iff (l : Bytes) (x : Bytes) (h : 8 ≤ l.length) : (four (num4 l) ++ x = l.take 8) ↔ x = (l.drop 4).take 4 := by
  rw [four_num4 l (by omega), show 8 = 4 + 4 from rfl, List.take_add]
  exact ⟨fun e => List.append_cancel_left e, fun e => by rw [e]⟩

theorem or_i64 (x y : Int) (j : Nat) (h0 : 0 ≤ x) (h1 : x % 2 ^ j = 0) (h2 : x < 2 ^ 63) (h3 : 0 ≤ y) (h4 : y < 2 ^ j) (h5 : y < 2 ^ 63) : bits .or .i64 x y = x + y :=
  bits_join .i64 63 (by decide) (fun n h0 h1 => IntWalk.i64_in n ⟨by omega, by omega⟩) j x y h0 h1 h2 h3 h4 h5
/-- the four bytes joined, as the program reckons it -/
theorem num4_prog (a b c d : UInt8) :
    bits .or .i64 (bits .or .i64 (bits .or .i64 (RowKit.wrap64 (RowKit.wrap64 (a.toNat : Int) * 16777216)) (RowKit.wrap64 (RowKit.wrap64 (b.toNat : Int) * 65536))) (RowKit.wrap64 (RowKit.wrap64 (c.toNat : Int) * 256))) (RowKit.wrap64 (d.toNat : Int)) =
      ((16777216 * a.toNat + 65536 * b.toNat + 256 * c.toNat + d.toNat : Nat) : Int) := by
  have ha := a.toNat_lt
  have hb := b.toNat_lt
  have hc := c.toNat_lt
  have hd := d.toNat_lt
  have ew : ∀ n : Int, 0 ≤ n → n ≤ 9223372036854775807 → RowKit.wrap64 n = n := fun n h0 h1 => IntWalk.wrap64_in n ⟨by omega, by omega⟩
  rw [ew (a.toNat : Int) (by omega) (by omega), ew (b.toNat : Int) (by omega) (by omega), ew (c.toNat : Int) (by omega) (by omega), ew (d.toNat : Int) (by omega) (by omega),
    ew ((a.toNat : Int) * 16777216) (by omega) (by omega), ew ((b.toNat : Int) * 65536) (by omega) (by omega), ew ((c.toNat : Int) * 256) (by omega) (by omega),
    or_i64 ((a.toNat : Int) * 16777216) ((b.toNat : Int) * 65536) 24 (by omega) (by omega) (by omega) (by omega) (by omega) (by omega),
    or_i64 ((a.toNat : Int) * 16777216 + (b.toNat : Int) * 65536) ((c.toNat : Int) * 256) 16 (by omega) (by omega) (by omega) (by omega) (by omega) (by omega),
    or_i64 _ (d.toNat : Int) 8 (by omega) (by omega) (by omega) (by omega) (by omega) (by omega)]
  omega
theorem num4_of (s : ByteArray) (h : 4 ≤ s.size) : 16777216 * (s[0]'(by omega)).toNat + 65536 * (s[1]'(by omega)).toNat + 256 * (s[2]'(by omega)).toNat + (s[3]'(by omega)).toNat = num4 s.data.toList := by
  have e : ∀ (k : Nat) (hk : k < s.size), s.data.toList.getD k 0 = s[k] := fun k hk => by
    rw [List.getD_eq_getElem?_getD, List.getElem?_eq_getElem (by rw [len_of]; exact hk)]
    rfl
  unfold num4
  rw [e 0 (by omega), e 1 (by omega), e 2 (by omega), e 3 (by omega)]
theorem extract_str (s : ByteArray) (a b : Nat) : s.extract a b = str ((s.data.toList.drop a).take (b - a)) := Lib.extract_eq s a b
theorem str_beq (a b : Bytes) : ((str a).toList == (str b).toList) = (a == b) := by
  rw [ByteArray.toList_eq, ByteArray.toList_eq]; rfl
end Go.Proofs.YtmehcogaopackaaGreat
/- PLAIN: numbers as bytes, in groups of seven bits; reading them. -/
namespace Go.Proofs.YtmehcogaopackaaGreat

def top64 : Nat := 18446744073709551616
/-- the bytes of a number, with fuel -/
def numF : Nat → Nat → Bytes
  | 0, _ => []
  | f + 1, n => if n < 128 then [UInt8.ofNat n] else UInt8.ofNat (n % 128 + 128) :: numF f (n / 128)
/-- the bytes of a number -/
def num (n : Nat) : Bytes := numF 10 n
theorem numF_enough : ∀ (f g n : Nat), n < 128 ^ f → n < 128 ^ g → 0 < f → 0 < g → numF f n = numF g n
  | f + 1, g + 1, n, hf, hg, _, _ => by
    simp only [numF]
    by_cases h : n < 128
    · rw [if_pos h, if_pos h]
    · rw [if_neg h, if_neg h]
      have e1 : 128 ^ (f + 1) = 128 * 128 ^ f := by rw [Nat.pow_succ, Nat.mul_comm]
      have e2 : 128 ^ (g + 1) = 128 * 128 ^ g := by rw [Nat.pow_succ, Nat.mul_comm]
      have hf0 : 0 < f := by
        rcases Nat.eq_zero_or_pos f with h0 | h0
        · subst h0; omega
        · exact h0
      have hg0 : 0 < g := by
        rcases Nat.eq_zero_or_pos g with h0 | h0
        · subst h0; omega
        · exact h0
      rw [numF_enough f g (n / 128) (by omega) (by omega) hf0 hg0]
theorem num_few {n : Nat} (h : n < 128) : num n = [UInt8.ofNat n] := by
  show (if n < 128 then [UInt8.ofNat n] else _) = _
  rw [if_pos h]
theorem num_more {n : Nat} (h : ¬ n < 128) (h2 : n < top64) : num n = UInt8.ofNat (n % 128 + 128) :: num (n / 128) := by
  have e : num n = if n < 128 then [UInt8.ofNat n] else UInt8.ofNat (n % 128 + 128) :: numF 9 (n / 128) := rfl
  rw [e, if_neg h]
  unfold top64 at h2
  have e9 : (128 : Nat) ^ 9 = 9223372036854775808 := by decide
  have e10 : (128 : Nat) ^ 10 = 1180591620717411303424 := by decide
  unfold num
  rw [numF_enough 9 10 (n / 128) (by omega) (by omega) (by omega) (by omega)]
theorem num_pos (n : Nat) : 0 < (num n).length := by
  have e : num n = if n < 128 then [UInt8.ofNat n] else UInt8.ofNat (n % 128 + 128) :: numF 9 (n / 128) := rfl
  rw [e]
  split <;> simp
theorem numF_len : ∀ (f n : Nat), (numF f n).length ≤ f
  | 0, _ => Nat.le_refl _
  | f + 1, n => by
    simp only [numF]
    split
    · simp
    · have := numF_len f (n / 128); simp; omega
theorem num_len (n : Nat) : (num n).length ≤ 10 := numF_len 10 n
/-- a text's bytes: its length, and it -/
def text (l : Bytes) : Bytes := num l.length ++ l
/-- how many numbers, and each -/
def nums (ns : List Nat) : Bytes := num ns.length ++ (ns.map num).flatten
theorem flat_snoc (ns : List Nat) (n : Nat) : ((ns ++ [n]).map num).flatten = (ns.map num).flatten ++ num n := by simp
theorem flat_len : ∀ (ns : List Nat), ((ns.map num).flatten).length ≤ 10 * ns.length
  | [] => by simp
  | n :: r => by
    have := flat_len r
    have := num_len n
    simp only [List.map_cons, List.flatten_cons, List.length_append, List.length_cons]
    omega

/-- The number with which bytes begin: it, how many bytes it has, the error's number. i: how many bytes came before, n: what they say. -/
def scanL : Nat → Nat → Bytes → Nat × Nat × Nat
  | _, _, [] => (0, 0, 3)
  | i, n, c :: r =>
    if i = 9 ∧ 1 < c.toNat then (0, 0, 4)
    else if c.toNat < 128 then (if c.toNat = 0 ∧ 0 < i then (0, 0, 4) else (n + c.toNat * 128 ^ i, i + 1, 0))
    else scanL (i + 1) (n + c.toNat % 128 * 128 ^ i) r
def scan0 (l : Bytes) : Nat × Nat × Nat := scanL 0 0 l

theorem byte_small {n : Nat} (h : n < 256) : (UInt8.ofNat n).toNat = n := by simp; omega
/-- what was written is read as it was -/
theorem scanL_num : ∀ (f n i a : Nat) (r : Bytes), n < 128 ^ f → 0 < f → i + f ≤ 10 → (i + f = 10 → n < 2 * 128 ^ (f - 1)) → (i = 0 ∨ 0 < n) → scanL i a (numF f n ++ r) = (a + n * 128 ^ i, i + (numF f n).length, 0)
  | f + 1, n, i, a, r, hf, _, hi, h9, h0 => by
    simp only [numF]
    by_cases h : n < 128
    · rw [if_pos h]
      simp only [List.cons_append, List.nil_append, scanL]
      rw [byte_small (by omega)]
      have c1 : ¬ (i = 9 ∧ 1 < n) := by
        rintro ⟨rfl, h1⟩
        obtain rfl : f = 0 := by omega
        have := h9 rfl
        simp at this
        omega
      have c2 : ¬ (n = 0 ∧ 0 < i) := by
        rintro ⟨rfl, h1⟩
        rcases h0 with h0 | h0 <;> omega
      rw [if_neg c1, if_pos h, if_neg c2]
      rfl
    · rw [if_neg h]
      have e1 : 128 ^ (f + 1) = 128 * 128 ^ f := by rw [Nat.pow_succ, Nat.mul_comm]
      have hf0 : 0 < f := by
        rcases Nat.eq_zero_or_pos f with h0 | h0
        · subst h0; omega
        · exact h0
      simp only [List.cons_append, scanL]
      rw [byte_small (by omega)]
      have c1 : ¬ (i = 9 ∧ 1 < n % 128 + 128) := fun c => by omega
      rw [if_neg c1, if_neg (by omega)]
      have hm : (n % 128 + 128) % 128 = n % 128 := by omega
      rw [hm]
      rw [scanL_num f (n / 128) (i + 1) (a + n % 128 * 128 ^ i) r (by omega) hf0 (by omega) (by
        intro h
        have := h9 (by omega)
        have ef : f + 1 - 1 = (f - 1) + 1 := by omega
        rw [ef, Nat.pow_succ] at this
        omega) (.inr (by omega))]
      have e2 : 128 ^ (i + 1) = 128 * 128 ^ i := by rw [Nat.pow_succ, Nat.mul_comm]
      have e3 : a + n % 128 * 128 ^ i + n / 128 * 128 ^ (i + 1) = a + n * 128 ^ i := by
        rw [e2, ← Nat.mul_assoc, Nat.add_assoc, ← Nat.add_mul]
        congr 2
        omega
      rw [e3]
      simp only [List.length_cons]
      congr 2
      omega
theorem scan0_num (n : Nat) (h : n < top64) (r : Bytes) : scan0 (num n ++ r) = (n, (num n).length, 0) := by
  unfold top64 at h
  have e10 : (128 : Nat) ^ 10 = 1180591620717411303424 := by decide
  have e9 : (128 : Nat) ^ 9 = 9223372036854775808 := by decide
  have := scanL_num 10 n 0 0 r (by omega) (by omega) (by omega) (fun _ => by rw [show 10 - 1 = 9 from rfl, e9]; omega) (.inl rfl)
  unfold scan0 num
  rw [this]
  simp
/-- what was read without a fault, written anew, is the bytes that were read -/
theorem scanL_one : ∀ (l : Bytes) (i a n k : Nat), i ≤ 9 → scanL i a l = (n, k, 0) → ∃ m, m < 128 ^ (10 - i) ∧ (i + (k - i) = 10 → m < 2 * 128 ^ (9 - i)) ∧ n = a + m * 128 ^ i ∧ i < k ∧ k ≤ 10 ∧ k - i ≤ l.length ∧ numF (10 - i) m = l.take (k - i) ∧ (i = 0 ∨ 0 < m)
  | [], i, a, n, k, _, h => by simp [scanL] at h
  | c :: r, i, a, n, k, hi, h => by
    simp only [scanL] at h
    have hc := c.toNat_lt
    by_cases c1 : i = 9 ∧ 1 < c.toNat
    · rw [if_pos c1] at h; simp at h
    rw [if_neg c1] at h
    have e1 : 10 - i = (9 - i) + 1 := by omega
    have e2 : 128 ^ (10 - i) = 128 * 128 ^ (9 - i) := by rw [e1, Nat.pow_succ, Nat.mul_comm]
    have hp : 0 < 128 ^ (9 - i) := Nat.pow_pos (by omega)
    by_cases c2 : c.toNat < 128
    · rw [if_pos c2] at h
      by_cases c3 : c.toNat = 0 ∧ 0 < i
      · rw [if_pos c3] at h; simp at h
      rw [if_neg c3] at h
      simp only [Prod.mk.injEq] at h
      obtain ⟨rfl, rfl, _⟩ := h
      refine ⟨c.toNat, ?_, ?_, rfl, by omega, by omega, by simp, ?_, by omega⟩
      · rw [e2]
        have : 128 * 1 ≤ 128 * 128 ^ (9 - i) := Nat.mul_le_mul_left _ hp
        omega
      · intro h10
        obtain rfl : i = 9 := by omega
        simp
        omega
      · rw [e1]
        simp only [numF]
        rw [if_pos c2]
        have : i + 1 - i = 1 := by omega
        rw [this]
        simp
    · rw [if_neg c2] at h
      have hi9 : i ≠ 9 := fun e => c1 ⟨e, by omega⟩
      obtain ⟨m, h1, h2, h3, h4, h5, h6, h7, h8⟩ := scanL_one r (i + 1) _ n k (by omega) h
      have hm0 : 0 < m := by omega
      have e3 : 10 - (i + 1) = 9 - i := by omega
      rw [e3] at h1 h7
      have e4 : 9 - i = (9 - (i + 1)) + 1 := by omega
      refine ⟨c.toNat % 128 + 128 * m, ?_, ?_, ?_, by omega, h5, by simp only [List.length_cons]; omega, ?_, .inr (by omega)⟩
      · rw [e2]; omega
      · intro h10
        have := h2 (by omega)
        rw [e4, Nat.pow_succ]
        omega
      · rw [h3, Nat.pow_succ, Nat.add_mul]
        have : m * (128 ^ i * 128) = 128 * m * 128 ^ i := by rw [Nat.mul_comm (128 ^ i) 128, ← Nat.mul_assoc, Nat.mul_comm m 128]
        omega
      · rw [e1]
        simp only [numF]
        rw [if_neg (by omega)]
        have d1 : (c.toNat % 128 + 128 * m) / 128 = m := by omega
        have d2 : UInt8.ofNat ((c.toNat % 128 + 128 * m) % 128 + 128) = c := by
          apply UInt8.toNat_inj.1
          simp
          omega
        have d3 : k - i = (k - (i + 1)) + 1 := by omega
        rw [d1, d2, d3, List.take_succ_cons, h7]
theorem scan0_one (l : Bytes) (n k : Nat) (h : scan0 l = (n, k, 0)) : n < top64 ∧ 0 < k ∧ k ≤ l.length ∧ num n = l.take k := by
  obtain ⟨m, h1, h2, h3, h4, h5, h6, h7, _⟩ := scanL_one l 0 0 n k (by omega) h
  have e9 : (128 : Nat) ^ 9 = 9223372036854775808 := by decide
  obtain rfl : n = m := by simpa using h3
  refine ⟨?_, by omega, by omega, by unfold num; simpa using h7⟩
  unfold top64
  simp only [Nat.sub_zero, Nat.zero_add] at h1 h2 h7
  by_cases hk : k = 10
  · have := h2 hk
    rw [e9] at this
    omega
  · by_cases hn : n < 128 ^ 9
    · rw [e9] at hn; omega
    · exfalso
      have hl : (numF 10 n).length = k := by rw [h7, List.length_take]; omega
      have big : ∀ (f n : Nat), ¬ n < 128 ^ f → (numF (f + 1) n).length = f + 1 := by
        intro f
        induction f with
        | zero => intro n hn; simp only [numF]; split <;> simp
        | succ f ih =>
          intro n hn
          have e1 : 128 ^ (f + 1) = 128 * 128 ^ f := by rw [Nat.pow_succ, Nat.mul_comm]
          have hp : 0 < 128 ^ f := Nat.pow_pos (by omega)
          simp only [numF]
          rw [if_neg (by omega)]
          have := ih (n / 128) (by omega)
          simp only [List.length_cons]
          simp only [numF] at this
          omega
      have hb : (numF 10 n).length = 10 := big 9 n hn
      omega
/-- the errors of a number: too short, or of no form -/
theorem scanL_err : ∀ (l : Bytes) (i a : Nat), (scanL i a l).2.2 ≠ 0 → ((scanL i a l).1 = 0 ∧ (scanL i a l).2.1 = 0 ∧ ((scanL i a l).2.2 = 3 ∨ (scanL i a l).2.2 = 4))
  | [], _, _, _ => ⟨rfl, rfl, .inl rfl⟩
  | c :: r, i, a, h => by
    simp only [scanL] at h ⊢
    by_cases c1 : i = 9 ∧ 1 < c.toNat
    · rw [if_pos c1]; exact ⟨rfl, rfl, .inr rfl⟩
    rw [if_neg c1] at h ⊢
    by_cases c2 : c.toNat < 128
    · rw [if_pos c2] at h ⊢
      by_cases c3 : c.toNat = 0 ∧ 0 < i
      · rw [if_pos c3]; exact ⟨rfl, rfl, .inr rfl⟩
      · rw [if_neg c3] at h; exact absurd rfl h
    · rw [if_neg c2] at h ⊢
      exact scanL_err r _ _ h
/-- a number that was cut off -/
theorem scanL_cut : ∀ (f n i a m : Nat), n < 128 ^ f → 0 < f → i + f ≤ 10 → m < (numF f n).length → scanL i a ((numF f n).take m) = (0, 0, 3)
  | f + 1, n, i, a, 0, _, _, _, _ => by simp [scanL]
  | f + 1, n, i, a, m + 1, hf, _, hi, hm => by
    simp only [numF] at hm ⊢
    by_cases h : n < 128
    · rw [if_pos h] at hm; simp at hm
    · rw [if_neg h] at hm ⊢
      have e1 : 128 ^ (f + 1) = 128 * 128 ^ f := by rw [Nat.pow_succ, Nat.mul_comm]
      have hf0 : 0 < f := by
        rcases Nat.eq_zero_or_pos f with h0 | h0
        · subst h0; omega
        · exact h0
      rw [List.take_succ_cons]
      simp only [scanL]
      rw [byte_small (by omega), if_neg (fun c => by omega), if_neg (by omega)]
      exact scanL_cut f (n / 128) (i + 1) _ m (by omega) hf0 (by omega) (by simpa using hm)
theorem scan0_cut (n : Nat) (h : n < top64) (m : Nat) (hm : m < (num n).length) : scan0 ((num n).take m) = (0, 0, 3) := by
  unfold top64 at h
  have e10 : (128 : Nat) ^ 10 = 1180591620717411303424 := by decide
  exact scanL_cut 10 n 0 0 m (by omega) (by omega) (by omega) hm

/-- what one byte adds, as the program reckons it -/
theorem num_byte (n : Nat) : bits .or .u8 ((n : Int) % 256) 128 = ((UInt8.ofNat (n % 128 + 128)).toNat : Int) := by
  have e : ((n : Int) % 256) = ((n % 256 : Nat) : Int) := by omega
  rw [e, byte_small (by omega)]
  have := u8_or_nat (n % 256) 128 (by omega) (by omega)
  rw [show ((128 : Nat) : Int) = 128 from rfl] at this
  rw [this]
  congr 1
  have e2 : n % 256 = (n / 128 % 2) * 128 + n % 128 := by omega
  apply Nat.eq_of_testBit_eq
  intro i
  rw [Nat.testBit_or, show (128 : Nat) = 2 ^ 7 from rfl, Nat.testBit_two_pow, Nat.add_comm (n % 2 ^ 7) (2 ^ 7), show 256 = 2 ^ 8 from rfl, Nat.testBit_mod_two_pow]
  rcases Nat.lt_trichotomy i 7 with hi | hi | hi
  · rw [Nat.testBit_two_pow_add_gt hi, Nat.testBit_mod_two_pow]
    have h1 : decide (i < 8) = true := by simp; omega
    have h2 : decide (i < 7) = true := by simp; omega
    have h3 : decide (7 = i) = false := by simp; omega
    rw [h1, h2, h3]; simp
  · subst hi
    rw [Nat.testBit_two_pow_add_eq, Nat.testBit_mod_two_pow]
    simp
  · have h1 : decide (i < 8) = false := by simp; omega
    have h3 : decide (7 = i) = false := by simp; omega
    rw [h1, h3]
    have : (2 ^ 7 + n % 2 ^ 7).testBit i = false := Nat.testBit_lt_two_pow (Nat.lt_of_lt_of_le (by have := Nat.mod_lt n (show 0 < 2 ^ 7 by decide); omega : 2 ^ 7 + n % 2 ^ 7 < 2 ^ 8) (Nat.pow_le_pow_right (by omega) (by omega)))
    rw [this]; simp
end Go.Proofs.YtmehcogaopackaaGreat
/- '[]byte(s)' and 'string(b)': what they make of the world, for a walk. -/
namespace Go.Proofs.YtmehcogaopackaaGreat
open Go.RowKit

theorem bytes_made {P : Program} (w : World) (src dst e : TypeId) (s : ByteArray) (hs : P.underlying src = some .string) (hd : P.underlying dst = some (.slice e)) (he : P.underlying e = some (.int .u8)) :
    ∃ (cap : Nat) (w' : World), (convert src dst (.string s)).run P w = .ok (.slice (some ⟨w.heap.size, 0, none⟩) s.size cap) w' ∧ s.size ≤ cap ∧
      (∀ j (h : j < s.data.toList.length), w'.cell? ⟨w.heap.size, j, none⟩ = some (.int .u8 (s.data.toList[j].toNat : Int))) ∧
      (∀ j, j < s.size → w'.frozen? ⟨w.heap.size, j, none⟩ = false) ∧ Below w.heap.size w w' ∧ w'.heap.size = w.heap.size + 1 := by
  refine ⟨_, _, run_bytes_of_string w src dst e s hs hd he, grownCap_ge _ _ _ _, ?_, ?_, ?_, ?_⟩
  · intro j h
    rw [Array.length_toList] at h
    have e1 : w.drew.heap.size = w.heap.size := rfl
    rw [← e1, World.cell?_alloc_mark, bytesRow_at s _ j h]
    simp
  · intro j h
    have e1 : w.drew.heap.size = w.heap.size := rfl
    have hle : s.size ≤ (bytesRow s (grownCap w s.size 0 e)).size := by
      unfold bytesRow
      rw [Array.size_append, Array.size_map]
      exact Nat.le_add_right _ _
    rw [← e1, World.frozen?_alloc_mark]
    have : decide ((bytesRow s (grownCap w s.size 0 e)).size ≤ j) = false := by simp; omega
    rw [this]
    rfl
  · exact (Below.refl _ _).drew.alloc (Nat.le_refl _) _
  · simp
theorem bytes_back {P : Program} (w : World) (src dst e : TypeId) (b cap : Nat) (l : Bytes) (hs : P.underlying src = some (.slice e)) (he : P.underlying e = some (.int .u8)) (hd : P.underlying dst = some .string)
    (hc : ∀ j (hj : j < l.length), w.cell? ⟨b, j, none⟩ = some (.int .u8 (l[j].toNat : Int))) :
    (convert src dst (.slice (some ⟨b, 0, none⟩) l.length cap)).run P w = .ok (.string (str l)) w := by
  refine run_convert_bytes_back w src dst e ⟨b, 0, none⟩ cap l hs he hd ?_
  intro j hj
  have : (⟨b, 0, none⟩ : Addr).add j = ⟨b, j, none⟩ := by unfold Addr.add; split <;> simp_all
  rw [this]
  exact hc j hj
/-- one byte written over -/
theorem bytes_set {w : World} {b : Nat} {l : Bytes} (hc : ∀ j (hj : j < l.length), w.cell? ⟨b, j, none⟩ = some (.int .u8 (l[j].toNat : Int))) (k : Nat) (x : UInt8) (hk : k < l.length) :
    ∀ j (hj : j < (l.set k x).length), (w.setCell ⟨b, k, none⟩ (.int .u8 (x.toNat : Int))).cell? ⟨b, j, none⟩ = some (.int .u8 ((l.set k x)[j].toNat : Int)) := by
  intro j hj
  have hj' : j < l.length := by simpa using hj
  by_cases h : k = j
  · subst h
    rw [World.cell?_setCell_same' _ _ _ (by rw [hc k hk]; rfl)]
    simp
  · rw [World.cell?_setCell_other _ _ _ _ (by intro e; cases e; exact h rfl)]
    rw [hc j hj', List.getElem_set_ne h]
end Go.Proofs.YtmehcogaopackaaGreat
/- The walks of pack.Num and of the reference's Num: both write 'num'. -/
namespace Go.Proofs.YtmehcogaopackaaGreat
open Go.RowKit

theorem infoByte : (Tryz.prog.info? 5).map (fun i => (i.zero, i.size, i.bytes)) = some (some (.int .u8 0), 1, 1) := by kernel_rfl
theorem row_back {P : Program} {w : World} {base g cap n : Nat} {e : TypeId} (l : Bytes) (hn : l.length = n) (h : w.ownsRow base e 1 (.slice (some ⟨g, 0, none⟩) n cap) n (l.map fun b => Value.int .u8 (b.toNat : Int))) (src dst el : TypeId) (hs : P.underlying src = some (.slice el)) (he : P.underlying el = some (.int .u8)) (hd : P.underlying dst = some .string) :
    (convert src dst (.slice (some ⟨g, 0, none⟩) n cap)).run P w = .ok (.string (str l)) w := by
  subst hn
  refine bytes_back w src dst el g cap l hs he hd ?_
  intro j hj
  rw [h.cellAt j (by omega)]
  simp [hj]
abbrev byteVals (l : Bytes) : List Value := l.map fun b => Value.int .u8 (b.toNat : Int)

set_option maxRecDepth 100000 in
set_option maxHeartbeats 1000000 in
theorem num_any (N : Nat) (hN : N < top64) (w : World) :
    Calls Tryz.prog 74 #[.int .u64 N] w fun e w' => e = .returned (.string (str (num N))) ∧ Below w.heap.size w w' := by
  obtain ⟨i0, hi, hz0, hz1, hz2⟩ := info_parts infoByte
  have hN' := hid hN
  unfold top64 at hN
  go_enter Tryz.func74, Tryz.ntmps74
  go_wp2_with fail
  go_loopw [0, 3] (fun vn vb wr => ∃ (pre : Bytes) (m : Nat), vn = .int .u64 m ∧ m ≤ N ∧ Hid (num N = pre ++ num m) ∧ wr.ownsRow w.heap.size 5 1 vb pre.length (byteVals pre) ∧ Below w.heap.size w wr) (fun vn _ _ => (intOf vn).toNat)
  case atStart => exact ⟨[], N, rfl, Nat.le_refl _, rfl, World.ownsRow_nil _ _ _ _, Below.refl _ _⟩
  case round =>
    obtain ⟨pre, m, rfl, hm, HP, ho, hB⟩ := hrel
    have hpl : pre.length ≤ 10 := by have h1 := num_len N; have h2 := congrArg List.length HP.out; rw [List.length_append] at h2; omega
    have hBs := hB.size
    have hml : pre.length + 1 ≤ maxLen := by unfold maxLen; omega
    by_cases hlt : m < 128
    · have HM := hid (num_few hlt)
      have hby := hid (show (UInt8.ofNat m).toNat = m from byte_small (by omega))
      go_wp2_with (at_builtin; refine wpList_append_own _ rfl _ _ 159 rfl w.heap.size 5 i0 (.int .u8 0) 1 1 Tryz.underlying159 hi hz0 hz1 hz2 rfl (by decide) _ _ _ rfl (ho.alloc _) ⟨wr.heap.size, 0, none⟩ 1 1 [.int .u8 (m : Int)] rfl rfl (cell_one_new _ _ _) (by simp [Value.oneCell']) (by omega) (by omega) (by simp; omega) ?_; intro v' w1 hown' hgrow _; obtain ⟨g', cap', rfl⟩ := ownsRow_succ hown'; have hback := row_back (P := Tryz.prog) (n := pre.length + 1) (pre ++ [UInt8.ofNat m]) (by simp) (by rw [List.map_append, List.map_cons, List.map_nil, hby.out]; exact hown') 159 9 5 Tryz.underlying159 Tryz.underlying5 Tryz.underlying9)
      go_ret
      rw [HP.out, HM.out]
      exact ⟨rfl, (hB.alloc hBs _).grown hgrow (by simp; omega) (fun j ej => (ho.lt j ej).1)⟩
    · have HM := hid (num_more hlt (by have := hN'.out; omega))
      have hby := num_byte m
      go_wp2_with (at_builtin; refine wpList_append_own _ rfl _ _ 159 rfl w.heap.size 5 i0 (.int .u8 0) 1 1 Tryz.underlying159 hi hz0 hz1 hz2 rfl (by decide) _ _ _ rfl (ho.alloc _) ⟨wr.heap.size, 0, none⟩ 1 1 [.int .u8 ((UInt8.ofNat (m % 128 + 128)).toNat : Int)] rfl rfl (cell_one_new _ _ _) (by simp [Value.oneCell']) (by omega) (by omega) (by simp; omega) ?_; intro v' w1 hown' hgrow _)
      go_roundw
      case rel => exact ⟨pre ++ [UInt8.ofNat (m % 128 + 128)], m / 128, by rw [show ((m / 128 : Nat) : Int) = (m : Int) / 128 from by omega], by omega, (show num N = _ by rw [HP.out, HM.out]; simp), by simpa using hown', (hB.alloc hBs _).grown hgrow (by simp; omega) (fun j ej => (ho.lt j ej).1)⟩
      case measure => simp [intOf]; omega
end Go.Proofs.YtmehcogaopackaaGreat
/- The walk of the reference's Num. -/
namespace Go.Proofs.YtmehcogaopackaaGreat
open Go.RowKit

/-- 'string([]byte{x})', whatever world: the cell is there -/
theorem conv_one {P : Program} (W : World) (g : Nat) (x : UInt8) (src dst el : TypeId) (hs : P.underlying src = some (.slice el)) (he : P.underlying el = some (.int .u8)) (hd : P.underlying dst = some .string) (hc : W.cell? ⟨g, 0, none⟩ = some (.int .u8 (x.toNat : Int))) :
    (convert src dst (.slice (some ⟨g, 0, none⟩) 1 1)).run P W = .ok (.string (str [x])) W :=
  bytes_back W src dst el g 1 [x] hs he hd (fun j hj => by
    obtain rfl : j = 0 := by simpa using hj
    exact hc)

set_option maxRecDepth 100000 in
set_option maxHeartbeats 1000000 in
theorem refNum_at : ∀ (f N : Nat) (z : Int) (w : World), z = (N : Int) → N < 128 ^ f → N < top64 →
    Calls Tryz.prog 118 #[.int .u64 z] w fun e w' => e = .returned (.string (str (num N))) ∧ Below w.heap.size w w' := by
  intro f
  induction f with
  | zero =>
    rintro N z w rfl hf hN
    obtain rfl : N = 0 := by simpa using hf
    have hback := conv_one (P := Tryz.prog) (w.alloc (.cells #[.int .u8 0] 5)) w.heap.size 0 159 9 5 Tryz.underlying159 Tryz.underlying5 Tryz.underlying9 (World.cell?_alloc_mark _ _ _ _ _)
    go_enter Tryz.func118, Tryz.ntmps118
    go_wp2_with fail
    go_ret
    exact ⟨rfl, (Below.refl _ _).alloc (Nat.le_refl _) _⟩
  | succ f ih =>
    rintro N z w rfl hf hN
    have hN' := hid hN
    have IH := hid ih
    have HF := hid (show N / 128 < 128 ^ f by rw [Nat.pow_succ] at hf; omega)
    clear ih hf
    unfold top64 at hN
    by_cases hlt : N < 128
    · have HM := hid (num_few hlt)
      have hb := hid (show (UInt8.ofNat N).toNat = N from byte_small (by omega))
      have hback := conv_one (P := Tryz.prog) (w.alloc (.cells #[.int .u8 (N : Int)] 5)) w.heap.size (UInt8.ofNat N) 159 9 5 Tryz.underlying159 Tryz.underlying5 Tryz.underlying9 (by rw [hb.out]; exact World.cell?_alloc_mark _ _ _ _ _)
      go_enter Tryz.func118, Tryz.ntmps118
      go_wp2_with fail
      go_ret
      rw [HM.out]
      exact ⟨rfl, (Below.refl _ _).alloc (Nat.le_refl _) _⟩
    · have HM := hid (num_more hlt hN'.out)
      have hx := byte_small (show N % 128 + 128 < 256 by omega)
      have hval : IntKind.u8.wrap (IntKind.u64.wrap ((N : Int).tmod 128 + 128)) = ((UInt8.ofNat (N % 128 + 128)).toNat : Int) := by
        have e : (N : Int).tmod 128 = ((N % 128 : Nat) : Int) := rfl
        rw [e, IntKind.wrap_u64, IntKind.wrap_u8, hx]
        omega
      have hq : (N : Int).tdiv 128 = ((N / 128 : Nat) : Int) := rfl
      have h1 := num_pos (N / 128)
      have hsz := hid (num_len (N / 128))
      have HN1 := hid (show N / 128 < top64 by have := hN'.out; omega)
      have HX := hid (show str [UInt8.ofNat (N % 128 + 128)] ++ str (num (N / 128)) = str (num N) by rw [HM.out, str_append]; rfl)
      clear hx h1
      generalize UInt8.ofNat (N % 128 + 128) = x at *
      have hcv := fun (W : World) (g : Nat) (hc : W.cell? ⟨g, 0, none⟩ = some (.int .u8 (x.toNat : Int))) => conv_one (P := Tryz.prog) W g x 159 9 5 Tryz.underlying159 Tryz.underlying5 Tryz.underlying9 hc
      have hs1 : (str [x]).size = 1 := str_size _
      have hs2 : (str (num (N / 128))).size = (num (N / 128)).length := str_size _
      have hs3 : (num (N / 128)).length ≤ 10 := num_len _
      go_enter Tryz.func118, Tryz.ntmps118
      go_wp2_with fail
      have HCC : ∀ {W w2 : World}, W.cell? ⟨w.heap.size, 0, none⟩ = some (.int .u8 (x.toNat : Int)) → Below W.heap.size W w2 → w.heap.size < W.heap.size → w2.cell? ⟨w.heap.size, 0, none⟩ = some (.int .u8 (x.toNat : Int)) := fun h hb hl => (hb.cell (p := ⟨w.heap.size, 0, none⟩) hl).trans h
      go_region_with (go_at_call 118; refine (IH.out (N / 128) _ _ (by rw [IntKind.wrap_u64]; omega) HF.out HN1.out).mono ?_; rintro e w2 ⟨rfl, hb2⟩; first | (have hcx := HCC (World.cell?_alloc_mark _ _ _ _ _) hb2 (by simp)) | skip)
      all_goals (go_wp2_with fail)
      all_goals (go_ret; rw [HX.out]; exact ⟨rfl, by first | exact ((Below.refl _ _).alloc (Nat.le_refl _) _).drew.trans (hb2.mono (by simp)) | exact ((Below.refl _ _).drew.trans (hb2.mono (Nat.le_refl _))).alloc hb2.size _⟩)
theorem refNum_any (N : Nat) (hN : N < top64) (w : World) :
    Calls Tryz.prog 118 #[.int .u64 N] w fun e w' => e = .returned (.string (str (num N))) ∧ Below w.heap.size w w' :=
  refNum_at 10 N N w rfl (by unfold top64 at hN; omega) hN
end Go.Proofs.YtmehcogaopackaaGreat
/- The walks of pack.Text and of the reference's Text. -/
namespace Go.Proofs.YtmehcogaopackaaGreat
open Go.RowKit

set_option maxHeartbeats 1000000 in
theorem text_any (l : Bytes) (hl : l.length ≤ 1152921504606846976) (w : World) :
    Calls Tryz.prog 76 #[.string (str l)] w fun e w' => e = .returned (.string (str (text l))) ∧ Below w.heap.size w w' := by
  have hs := str_size l
  have hs2 : (str (num l.length)).size = (num l.length).length := str_size _
  have hs3 : (num l.length).length ≤ 10 := num_len _
  have H := fun (z : Int) (e : z = (l.length : Int)) (W : World) => by
    have h := num_any l.length (by unfold top64; omega) W
    rw [← e] at h
    exact h
  have HX := hid (show str (num l.length) ++ str l = str (text l) by rw [str_append]; rfl)
  go_enter Tryz.func76, Tryz.ntmps76
  go_wp2_with fail
  refine (H _ rfl _).mono ?_
  rintro e w1 ⟨rfl, hb1⟩
  go_wp2_with fail
  go_ret
  rw [HX.out]
  exact ⟨rfl, hb1⟩

set_option maxHeartbeats 1000000 in
theorem refText_any (l : Bytes) (hl : l.length ≤ 1152921504606846976) (w : World) :
    Calls Tryz.prog 93 #[.string (str l)] w fun e w' => e = .returned (.string (str (text l))) ∧ Below w.heap.size w w' := by
  have hs := str_size l
  have hs2 : (str (num l.length)).size = (num l.length).length := str_size _
  have hs3 : (num l.length).length ≤ 10 := num_len _
  have H := fun (z : Int) (e : z = (l.length : Int)) (W : World) => by
    have h := refNum_any l.length (by unfold top64; omega) W
    rw [← e] at h
    exact h
  have HX := hid (show str (num l.length) ++ str l = str (text l) by rw [str_append]; rfl)
  go_enter Tryz.func93, Tryz.ntmps93
  go_wp2_with fail
  refine (H _ rfl _).mono ?_
  rintro e w1 ⟨rfl, hb1⟩
  go_wp2_with fail
  go_ret
  rw [HX.out]
  exact ⟨rfl, hb1⟩
end Go.Proofs.YtmehcogaopackaaGreat
