/-
  PLAIN: a frame of which one byte behind its length was turned is told by its sum.
-/
import Derived.Test.YtgkapgfpalbkjaaCrc
namespace Go.Proofs.Ytgkapgfpalbkjaa

theorem crcBit_top (c : Nat) (h : c ≤ 4294967295) : (crcBit c).testBit 31 = decide (c % 2 = 1) := by
  have hlow : (c / 2).testBit 31 = false := Nat.testBit_lt_two_pow (by omega)
  have hp : crcPoly.testBit 31 = true := by decide
  unfold crcBit
  split
  · rename_i h2
    rw [Nat.testBit_xor, hlow, hp]; simp [h2]
  · rename_i h2
    rw [hlow]; simp [h2]
theorem crcBit_inj {a b : Nat} (ha : a ≤ 4294967295) (hb : b ≤ 4294967295) (h : crcBit a = crcBit b) : a = b := by
  have h1 := crcBit_top a ha
  rw [h, crcBit_top b hb] at h1
  have hpar : (b % 2 = 1) ↔ (a % 2 = 1) := decide_eq_decide.1 h1
  unfold crcBit at h
  by_cases hA : a % 2 = 1
  · have hB := hpar.2 hA
    rw [if_pos hA, if_pos hB] at h
    have : a / 2 = b / 2 := by
      have := congrArg (· ^^^ crcPoly) h
      simpa [Nat.xor_assoc] using this
    omega
  · have hB : ¬ b % 2 = 1 := fun e => hA (hpar.1 e)
    rw [if_neg hA, if_neg hB] at h
    omega
theorem crcBits_inj {a b : Nat} (ha : a ≤ 4294967295) (hb : b ≤ 4294967295) : ∀ k, crcBits k a = crcBits k b → a = b
  | 0, h => h
  | k + 1, h => crcBits_inj ha hb k (crcBit_inj (crcBits_le ha k) (crcBits_le hb k) h)
theorem crcByte_state {a b : Nat} (ha : a ≤ 4294967295) (hb : b ≤ 4294967295) (x : UInt8) (h : crcByte a x = crcByte b x) : a = b := by
  have := crcBits_inj (crcXor_le ha x) (crcXor_le hb x) 8 h
  have := congrArg (· ^^^ x.toNat) this
  simpa [Nat.xor_assoc] using this
theorem crcByte_byte {a : Nat} (ha : a ≤ 4294967295) (x y : UInt8) (h : crcByte a x = crcByte a y) : x = y := by
  have := crcBits_inj (crcXor_le ha x) (crcXor_le ha y) 8 h
  have h2 := congrArg (a ^^^ ·) this
  simp only [← Nat.xor_assoc, Nat.xor_self, Nat.zero_xor] at h2
  exact UInt8.toNat_inj.1 h2
theorem crcFold_inj (l : Bytes) : ∀ {a b : Nat}, a ≤ 4294967295 → b ≤ 4294967295 → l.foldl crcByte a = l.foldl crcByte b → a = b := by
  induction l with
  | nil => intro a b _ _ h; exact h
  | cons x l ih => intro a b ha hb h; exact crcByte_state ha hb x (ih (crcByte_le ha x) (crcByte_le hb x) h)
theorem crc_turn (l : Bytes) (k : Nat) (h : k < l.length) (x : UInt8) (hx : x ≠ l[k]) : crc (l.set k x) ≠ crc l := by
  have e1 : l = l.take k ++ l[k] :: l.drop (k + 1) := by simp
  have e2 : l.set k x = l.take k ++ x :: l.drop (k + 1) := List.set_eq_take_append_cons_drop.trans (by rw [if_pos h])
  intro hc
  have hr : crcRun (l.set k x) = crcRun l := by
    have a := crcRun_le (l.set k x)
    have b := crcRun_le l
    unfold crc at hc
    omega
  rw [e2] at hr
  have hr2 : crcRun (l.take k ++ x :: l.drop (k + 1)) = crcRun (l.take k ++ l[k] :: l.drop (k + 1)) := hr.trans (congrArg crcRun e1)
  unfold crcRun at hr2
  rw [List.foldl_append, List.foldl_append, List.foldl_cons, List.foldl_cons] at hr2
  have hs : (l.take k).foldl crcByte 4294967295 ≤ 4294967295 := crcFold_le _ (Nat.le_refl _)
  exact hx (crcByte_byte hs _ _ (crcFold_inj _ (crcByte_le hs _) (crcByte_le hs _) hr2))
theorem four_inj {a b : Nat} (ha : a ≤ 4294967295) (hb : b ≤ 4294967295) (h : four a = four b) : a = b := by
  have := congrArg (fun l => num4 (l ++ [])) h
  simpa only [num4_four a ha, num4_four b hb] using this

theorem take8_set {k : Nat} {l : Bytes} (x : UInt8) (h : 8 ≤ k) : (l.set k x).drop 8 = (l.drop 8).set (k - 8) x := by
  rw [List.drop_set, if_neg (by omega)]
theorem cut_turn (l : Bytes) (hl : l.length ≤ 65536) (k : Nat) (h4 : 4 ≤ k) (hk : k < (frame l).length) (x : UInt8) (hx : x ≠ (frame l)[k]) :
    cutOf ((frame l).set k x) = ([], 0, 5) := by
  have hlen := frame_length l
  have hf : frame l = four l.length ++ (four (crc l) ++ l) := by unfold frame; rw [List.append_assoc]
  have hset : (frame l).set k x = four l.length ++ (four (crc l) ++ l).set (k - 4) x := by
    rw [hf, List.set_append, if_neg (by rw [four_length]; omega), four_length]
  have hnum : num4 ((frame l).set k x) = l.length := by rw [hset, num4_four _ (by omega)]
  have hd4 : ((frame l).set k x).drop 4 = (four (crc l) ++ l).set (k - 4) x := by
    rw [hset, List.drop_append, four_length]; rfl
  have hd8 : ((frame l).set k x).drop 8 = (((frame l).set k x).drop 4).drop 4 := by rw [List.drop_drop]
  have hlen2 : ((frame l).set k x).length = 8 + l.length := by rw [List.length_set, hlen]
  refine cutOf_sum (by omega) (by omega) (by omega) ?_
  rw [hnum, hd8, hd4]
  by_cases h8 : k < 8
  · -- the sum's own bytes were turned: the body is what it was
    have e : (four (crc l) ++ l).set (k - 4) x = (four (crc l)).set (k - 4) x ++ l := by
      rw [List.set_append, if_pos (by rw [four_length]; omega)]
    have t4 : ((four (crc l)).set (k - 4) x ++ l).take 4 = (four (crc l)).set (k - 4) x := by
      rw [List.take_append_of_le_length (by simp [four_length]), List.take_of_length_le (by simp [four_length])]
    have d4 : ((four (crc l)).set (k - 4) x ++ l).drop 4 = l := by
      rw [List.drop_append, List.drop_of_length_le (by simp [four_length]), List.length_set, four_length]; rfl
    rw [e, t4, d4, List.take_length]
    intro he
    apply hx
    have hk4 : k - 4 < (four (crc l)).length := by rw [four_length]; omega
    have g1 : ((four (crc l)).set (k - 4) x)[k - 4]? = some x := by simp [hk4]
    rw [← he] at g1
    have g2 : (frame l)[k]? = (four (crc l))[k - 4]? := by
      rw [hf, List.getElem?_append_right (by rw [four_length]; omega), four_length, List.getElem?_append_left hk4]
    rw [g1] at g2
    rw [List.getElem?_eq_getElem hk] at g2
    exact (Option.some.inj g2).symm
  · -- the body was turned
    have e : (four (crc l) ++ l).set (k - 4) x = four (crc l) ++ l.set (k - 8) x := by
      rw [List.set_append, if_neg (by rw [four_length]; omega), four_length]
      congr 2
    have t4 : (four (crc l) ++ l.set (k - 8) x).take 4 = four (crc l) := by
      rw [List.take_append_of_le_length (by simp [four_length]), List.take_of_length_le (by simp [four_length])]
    have d4 : (four (crc l) ++ l.set (k - 8) x).drop 4 = l.set (k - 8) x := by
      rw [List.drop_append, List.drop_of_length_le (by simp [four_length]), four_length]; rfl
    rw [e, t4, d4, List.take_of_length_le (by simp)]
    intro he
    have hk8 : k - 8 < l.length := by omega
    refine crc_turn l (k - 8) hk8 x ?_ (four_inj (crc_le _) (crc_le _) he)
    intro hxx
    apply hx
    have g2 : (frame l)[k]? = l[k - 8]? := by
      rw [hf, List.getElem?_append_right (by rw [four_length]; omega), four_length, List.getElem?_append_right (by rw [four_length]; omega), four_length]
      congr 1
    rw [List.getElem?_eq_getElem hk, List.getElem?_eq_getElem hk8] at g2
    rw [hxx]
    exact (Option.some.inj g2).symm
end Go.Proofs.Ytgkapgfpalbkjaa
