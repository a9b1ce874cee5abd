/-
  PLAIN: the check sum of bytes, as a function on lists of bytes; frames; cutting them. No program in sight.
-/
import Derived.Laws.BitsAllLaws
import Derived.Laws.BitsLemmas
import Derived.Lib.Strings
import Derived.IntWalk
import Derived.Below
namespace Go.Proofs.Ytmehcogaopackaa

theorem hid {p : Prop} (h : p) : RowKit.Hid p := h
abbrev Bytes := List UInt8

/-- the polynomial -/
def crcPoly : Nat := 3988292384
/-- one bit -/
def crcBit (c : Nat) : Nat := if c % 2 = 1 then (c / 2) ^^^ crcPoly else c / 2
/-- k bits -/
def crcBits : Nat → Nat → Nat
  | 0, c => c
  | k + 1, c => crcBit (crcBits k c)
/-- a byte -/
def crcByte (c : Nat) (b : UInt8) : Nat := crcBits 8 (c ^^^ b.toNat)
def crcRun (l : Bytes) : Nat := l.foldl crcByte 4294967295
/-- the check sum -/
def crc (l : Bytes) : Nat := 4294967295 - crcRun l

theorem crcBit_le {c : Nat} (h : c ≤ 4294967295) : crcBit c ≤ 4294967295 := by
  unfold crcBit
  split
  · have h1 : c / 2 < 2 ^ 32 := by omega
    have h2 : crcPoly < 2 ^ 32 := by decide
    have := Nat.xor_lt_two_pow h1 h2
    omega
  · omega
theorem crcBits_le {c : Nat} (h : c ≤ 4294967295) : ∀ k, crcBits k c ≤ 4294967295
  | 0 => h
  | k + 1 => crcBit_le (crcBits_le h k)
theorem crcXor_le {c : Nat} (h : c ≤ 4294967295) (b : UInt8) : c ^^^ b.toNat ≤ 4294967295 := by
  have h1 : c < 2 ^ 32 := by omega
  have h2 : b.toNat < 2 ^ 32 := by have := b.toNat_lt; omega
  have := Nat.xor_lt_two_pow h1 h2
  omega
theorem crcByte_le {c : Nat} (h : c ≤ 4294967295) (b : UInt8) : crcByte c b ≤ 4294967295 := crcBits_le (crcXor_le h b) 8
theorem crcFold_le (l : Bytes) : ∀ {c : Nat}, c ≤ 4294967295 → l.foldl crcByte c ≤ 4294967295 := by
  induction l with
  | nil => intro c h; exact h
  | cons b l ih => intro c h; exact ih (crcByte_le h b)
theorem crcRun_le (l : Bytes) : crcRun l ≤ 4294967295 := crcFold_le l (Nat.le_refl _)
theorem crc_le (l : Bytes) : crc l ≤ 4294967295 := Nat.sub_le _ _

theorem crcRun_snoc (l : Bytes) (b : UInt8) : crcRun (l ++ [b]) = crcByte (crcRun l) b := by
  unfold crcRun; rw [List.foldl_append]; rfl

/-- the next bit, as the program reckons it -/
theorem crcBit_prog (c : Nat) (h : c ≤ 4294967295) :
    bits .xor .u32 ((c : Int) / 2) (3988292384 * bits .and .u32 (c : Int) 1 % 4294967296) = ((crcBit c : Nat) : Int) := by
  have e1 : bits .and .u32 (c : Int) 1 = ((c % 2 : Nat) : Int) := by
    have := u32_and_nat c 1 (by omega) (by omega)
    rw [Nat.and_one_is_mod] at this
    exact this
  have e2 : ((c : Int) / 2) = ((c / 2 : Nat) : Int) := by omega
  rw [e1, e2]
  unfold crcBit
  split
  · rename_i h2
    rw [h2]
    have := u32_xor_nat (c / 2) crcPoly (by omega) (by decide)
    unfold crcPoly at this ⊢
    exact this
  · rename_i h2
    have h3 : c % 2 = 0 := by omega
    rw [h3]
    have := u32_xor_nat (c / 2) 0 (by omega) (by decide)
    rw [Nat.xor_zero] at this
    exact this
theorem crcBit_ref_odd (c : Nat) (h : c ≤ 4294967295) (h2 : c % 2 = 1) : bits .xor .u32 ((c : Int) / 2) 3988292384 = ((crcBit c : Nat) : Int) := by
  have e2 : ((c : Int) / 2) = ((c / 2 : Nat) : Int) := by omega
  rw [e2]
  unfold crcBit
  rw [if_pos h2]
  have := u32_xor_nat (c / 2) crcPoly (by omega) (by decide)
  unfold crcPoly at this ⊢
  exact this
theorem crcBit_ref_even (c : Nat) (h2 : ¬ c % 2 = 1) : ((c : Int) / 2) = ((crcBit c : Nat) : Int) := by
  unfold crcBit
  rw [if_neg h2]
  omega
theorem crcXor_prog (c : Nat) (b : UInt8) (h : c ≤ 4294967295) : bits .xor .u32 (c : Int) ((b.toNat : Int) % 4294967296) = ((c ^^^ b.toNat : Nat) : Int) := by
  have hb := b.toNat_lt
  have : ((b.toNat : Int) % 4294967296) = (b.toNat : Int) := by omega
  rw [this]
  exact u32_xor_nat c b.toNat (by omega) (by omega)
theorem crcNot_prog (c : Nat) (h : c ≤ 4294967295) : bits .xor .u32 IntKind.u32.max (c : Int) = ((4294967295 - c : Nat) : Int) := by
  have hm : IntKind.u32.max = ((4294967295 : Nat) : Int) := by decide
  rw [hm, u32_xor_nat 4294967295 c (by omega) (by omega)]
  congr 1
  apply Nat.eq_of_testBit_eq
  intro i
  have e : 4294967295 - c = 2 ^ 32 - (c + 1) := by omega
  rw [e, Nat.testBit_two_pow_sub_succ (by omega), Nat.testBit_xor, show 4294967295 = 2 ^ 32 - 1 from rfl, Nat.testBit_two_pow_sub_one]
  by_cases hi : i < 32
  · simp [hi]
  · have : c.testBit i = false := Nat.testBit_lt_two_pow (Nat.lt_of_lt_of_le (by omega : c < 2 ^ 32) (Nat.pow_le_pow_right (by omega) (by omega)))
    simp [hi, this]

/-- a string of these bytes (its text is not opened by simp) -/
def str (l : Bytes) : ByteArray := ⟨l.toArray⟩
theorem str_data (l : Bytes) : (str l).data.toList = l := rfl
theorem str_size (l : Bytes) : (str l).size = l.length := by simp [str, ByteArray.size]
theorem str_of (s : ByteArray) : str s.data.toList = s := by
  apply ByteArray.ext
  simp [str]
theorem len_of (s : ByteArray) : s.data.toList.length = s.size := by rw [Array.length_toList]; rfl
theorem str_inj {a b : Bytes} (h : str a = str b) : a = b := by rw [← str_data a, h, str_data]
theorem str_append (a b : Bytes) : str a ++ str b = str (a ++ b) := by
  apply ByteArray.ext
  simp [str, ByteArray.data_append]
theorem str_append_of (a : Bytes) (s : ByteArray) : str a ++ s = str (a ++ s.data.toList) := by rw [← str_append, str_of]

/-- four bytes, the highest first -/
def four (n : Nat) : Bytes := [UInt8.ofNat (n / 16777216), UInt8.ofNat (n / 65536), UInt8.ofNat (n / 256), UInt8.ofNat n]
theorem four_length (n : Nat) : (four n).length = 4 := rfl
def frame (l : Bytes) : Bytes := four l.length ++ four (crc l) ++ l
theorem frame_length (l : Bytes) : (frame l).length = 8 + l.length := by simp [frame, four_length]; omega
/-- what Frame answers: the bytes, the error's number -/
def frameOf (l : Bytes) : Bytes × Nat := if 65536 < l.length then ([], 2) else (frame l, 0)

theorem byte_mod (n : Nat) : UInt8.ofNat (n % 256) = UInt8.ofNat n := by
  apply UInt8.toNat_inj.1
  simp
theorem byte_toNat (n : Nat) : ((UInt8.ofNat n).toNat : Int) = (n : Int) % 256 := by simp
theorem byte_of_int {x : Int} {n : Nat} (h : x = ((n % 256 : Nat) : Int)) : UInt8.ofNat x.toNat = UInt8.ofNat n := by
  rw [h, Int.toNat_natCast, byte_mod]

/-- the length that a frame's first four bytes say -/
def num4 (l : Bytes) : Nat := 16777216 * (l.getD 0 0).toNat + 65536 * (l.getD 1 0).toNat + 256 * (l.getD 2 0).toNat + (l.getD 3 0).toNat
/-- what Cut answers: the body, how many bytes, the error's number -/
def cutOf (l : Bytes) : Bytes × Nat × Nat :=
  if l.length < 8 then ([], 0, 3)
  else if 65536 < num4 l then ([], 0, 2)
  else if l.length < 8 + num4 l then ([], 0, 3)
  else if four (crc ((l.drop 8).take (num4 l))) = (l.drop 4).take 4 then ((l.drop 8).take (num4 l), 8 + num4 l, 0)
  else ([], 0, 5)

theorem cutOf_few {l : Bytes} (h : l.length < 8) : cutOf l = ([], 0, 3) := by unfold cutOf; rw [if_pos h]
theorem cutOf_long {l : Bytes} (h : ¬ l.length < 8) (h2 : 65536 < num4 l) : cutOf l = ([], 0, 2) := by unfold cutOf; rw [if_neg h, if_pos h2]
theorem cutOf_short {l : Bytes} (h : ¬ l.length < 8) (h2 : ¬ 65536 < num4 l) (h3 : l.length < 8 + num4 l) : cutOf l = ([], 0, 3) := by
  unfold cutOf; rw [if_neg h, if_neg h2, if_pos h3]
theorem cutOf_ok {l : Bytes} (h : ¬ l.length < 8) (h2 : ¬ 65536 < num4 l) (h3 : ¬ l.length < 8 + num4 l) (h4 : four (crc ((l.drop 8).take (num4 l))) = (l.drop 4).take 4) :
    cutOf l = ((l.drop 8).take (num4 l), 8 + num4 l, 0) := by unfold cutOf; rw [if_neg h, if_neg h2, if_neg h3, if_pos h4]
theorem cutOf_sum {l : Bytes} (h : ¬ l.length < 8) (h2 : ¬ 65536 < num4 l) (h3 : ¬ l.length < 8 + num4 l) (h4 : ¬ four (crc ((l.drop 8).take (num4 l))) = (l.drop 4).take 4) :
    cutOf l = ([], 0, 5) := by unfold cutOf; rw [if_neg h, if_neg h2, if_neg h3, if_neg h4]
theorem four_num4 (l : Bytes) (h : 4 ≤ l.length) : four (num4 l) = l.take 4 := by
  match l, h with
  | a :: b :: c :: d :: r, _ =>
    have ha := a.toNat_lt
    have hb := b.toNat_lt
    have hc := c.toNat_lt
    have hd := d.toNat_lt
    simp only [four, num4, List.getD_cons_zero, List.getD_cons_succ, List.take_succ_cons, List.take_zero]
    have e : ∀ (x : UInt8) (n : Nat), n % 256 = x.toNat → UInt8.ofNat n = x := fun x n h => by
      apply UInt8.toNat_inj.1
      simp only [UInt8.toNat_ofNat']
      omega
    rw [e a _ (by omega), e b _ (by omega), e c _ (by omega), e d _ (by omega)]
theorem num4_four (n : Nat) (h : n ≤ 4294967295) (r : Bytes) : num4 (four n ++ r) = n := by
  simp only [four, num4, List.cons_append, List.nil_append, List.getD_cons_zero, List.getD_cons_succ, UInt8.toNat_ofNat']
  omega
theorem head_eq_iff (l : Bytes) (x : Bytes) (h : 8 ≤ l.length) : (four (num4 l) ++ x = l.take 8) ↔ x = (l.drop 4).take 4 := by
  rw [four_num4 l (by omega), show 8 = 4 + 4 from rfl, List.take_add]
  exact ⟨fun e => List.append_cancel_left e, fun e => by rw [e]⟩

theorem or_i64 (x y : Int) (j : Nat) (h0 : 0 ≤ x) (h1 : x % 2 ^ j = 0) (h2 : x < 2 ^ 63) (h3 : 0 ≤ y) (h4 : y < 2 ^ j) (h5 : y < 2 ^ 63) : bits .or .i64 x y = x + y :=
  bits_join .i64 63 (by decide) (fun n h0 h1 => IntWalk.i64_in n ⟨by omega, by omega⟩) j x y h0 h1 h2 h3 h4 h5
/-- the four bytes joined, as the program reckons it -/
theorem num4_prog (a b c d : UInt8) :
    bits .or .i64 (bits .or .i64 (bits .or .i64 (RowKit.wrap64 (RowKit.wrap64 (a.toNat : Int) * 16777216)) (RowKit.wrap64 (RowKit.wrap64 (b.toNat : Int) * 65536))) (RowKit.wrap64 (RowKit.wrap64 (c.toNat : Int) * 256))) (RowKit.wrap64 (d.toNat : Int)) =
      ((16777216 * a.toNat + 65536 * b.toNat + 256 * c.toNat + d.toNat : Nat) : Int) := by
  have ha := a.toNat_lt
  have hb := b.toNat_lt
  have hc := c.toNat_lt
  have hd := d.toNat_lt
  have ew : ∀ n : Int, 0 ≤ n → n ≤ 9223372036854775807 → RowKit.wrap64 n = n := fun n h0 h1 => IntWalk.wrap64_in n ⟨by omega, by omega⟩
  rw [ew (a.toNat : Int) (by omega) (by omega), ew (b.toNat : Int) (by omega) (by omega), ew (c.toNat : Int) (by omega) (by omega), ew (d.toNat : Int) (by omega) (by omega),
    ew ((a.toNat : Int) * 16777216) (by omega) (by omega), ew ((b.toNat : Int) * 65536) (by omega) (by omega), ew ((c.toNat : Int) * 256) (by omega) (by omega),
    or_i64 ((a.toNat : Int) * 16777216) ((b.toNat : Int) * 65536) 24 (by omega) (by omega) (by omega) (by omega) (by omega) (by omega),
    or_i64 ((a.toNat : Int) * 16777216 + (b.toNat : Int) * 65536) ((c.toNat : Int) * 256) 16 (by omega) (by omega) (by omega) (by omega) (by omega) (by omega),
    or_i64 _ (d.toNat : Int) 8 (by omega) (by omega) (by omega) (by omega) (by omega) (by omega)]
  omega
theorem num4_of (s : ByteArray) (h : 4 ≤ s.size) : 16777216 * (s[0]'(by omega)).toNat + 65536 * (s[1]'(by omega)).toNat + 256 * (s[2]'(by omega)).toNat + (s[3]'(by omega)).toNat = num4 s.data.toList := by
  have e : ∀ (k : Nat) (hk : k < s.size), s.data.toList.getD k 0 = s[k] := fun k hk => by
    rw [List.getD_eq_getElem?_getD, List.getElem?_eq_getElem (by rw [len_of]; exact hk)]
    rfl
  unfold num4
  rw [e 0 (by omega), e 1 (by omega), e 2 (by omega), e 3 (by omega)]
theorem extract_str (s : ByteArray) (a b : Nat) : s.extract a b = str ((s.data.toList.drop a).take (b - a)) := Lib.extract_eq s a b
theorem str_beq (a b : Bytes) : ((str a).toList == (str b).toList) = (a == b) := by
  rw [ByteArray.toList_eq, ByteArray.toList_eq]; rfl
end Go.Proofs.Ytmehcogaopackaa
