/-
  The walk of the reference's At: the number at a place.
-/
import Derived.Test.YtgkapgfpalbkjaaScanP
namespace Go.Proofs.Ytgkapgfpalbkjaa
open Go.RowKit
set_option linter.unusedVariables false
/-- what At tells: the number, where it ends, the error -/
def atOf (s : Bytes) (t : Nat) : Nat × Nat × Nat := match scan0 (s.drop t) with | (n, z, er) => if er ≠ 0 then (0, 0, er) else (n, t + z, 0)
theorem atOf_err {s : Bytes} {t er : Nat} {a b : Nat} (h : scan0 (s.drop t) = (a, b, er)) (he : er ≠ 0) : atOf s t = (0, 0, er) := by unfold atOf; rw [h]; simp only; rw [if_pos he]
theorem atOf_ok {s : Bytes} {t n z : Nat} (h : scan0 (s.drop t) = (n, z, 0)) : atOf s t = (n, t + z, 0) := by unfold atOf; rw [h]; simp
/-- what one byte adds -/
theorem group_lt (N k c : Nat) (hk : k ≤ 9) (hN : N < 128 ^ k) (hc : c < 128) (h9 : k = 9 → c ≤ 1) : N + c * 128 ^ k < 18446744073709551616 := by
  rcases Nat.lt_or_ge k 9 with h | h
  · have e : (128 : Nat) ^ k * 128 ≤ 128 ^ 9 := by rw [← Nat.pow_succ]; exact Nat.pow_le_pow_right (by omega) (by omega)
    have e9 : (128 : Nat) ^ 9 = 9223372036854775808 := by decide
    have : c * 128 ^ k ≤ 127 * 128 ^ k := Nat.mul_le_mul_right _ (by omega)
    omega
  · obtain rfl : k = 9 := by omega
    have e9 : (128 : Nat) ^ 9 = 9223372036854775808 := by decide
    have := h9 rfl
    rw [e9] at *
    have : c * 9223372036854775808 ≤ 1 * 9223372036854775808 := Nat.mul_le_mul_right _ this
    omega
theorem group_next (N k c : Nat) (hN : N < 128 ^ k) : N + c % 128 * 128 ^ k < 128 ^ (k + 1) := by
  have : c % 128 * 128 ^ k ≤ 127 * 128 ^ k := Nat.mul_le_mul_right _ (by omega)
  rw [Nat.pow_succ]
  omega
set_option maxRecDepth 100000 in
set_option maxHeartbeats 4000000 in
theorem at_any (s : Bytes) (t : Nat) (ht : t ≤ s.length) (hs : s.length ≤ 1152921504606846976) (w : World) :
    Calls Try.prog 75 #[.string (str s), .int .i64 (t : Int)] w fun e w' => e = .returned (.tuple #[.int .u64 ((atOf s t).1 : Nat), .int .i64 ((atOf s t).2.1 : Nat), .int .i64 ((atOf s t).2.2 : Nat)]) ∧ w = w' := by
  have hz : (str s).size = s.length := str_size _
  go_enter Try.func75, Try.ntmps75
  go_wp2_with fail
  go_loop [1, 7, 8, 9] (fun at_ n un i => ∃ (k N : Nat), k ≤ 9 ∧ N < 128 ^ k ∧ t + k ≤ s.length ∧ at_ = .int .i64 ((t + k : Nat) : Int) ∧ n = .int .u64 (N : Int) ∧ un = .int .u64 ((128 ^ k : Nat) : Int) ∧ i = .int .i64 (k : Int) ∧ Hid (scan0 (s.drop t) = scanL k N (s.drop (t + k)))) (fun _ _ _ i => 10 - (intOf i).toNat)
  case atStart => exact ⟨0, 0, by omega, by omega, by omega, rfl, rfl, rfl, rfl, rfl⟩
  case round =>
    obtain ⟨k, N, hk, hN, htk, rfl, rfl, rfl, rfl, HS⟩ := hrel
    generalize hT : t + k = T at *
    have HT := hid hT
    clear hT
    have h8 : k < 9 → 128 ^ k ≤ 72057594037927936 := fun h => by
      have e : (128 : Nat) ^ 8 = 72057594037927936 := by decide
      rw [← e]; exact Nat.pow_le_pow_right (by omega) (by omega)
    have h99 : 128 ^ k ≤ 9223372036854775808 := by
      have e : (128 : Nat) ^ 9 = 9223372036854775808 := by decide
      rw [← e]; exact Nat.pow_le_pow_right (by omega) hk
    have HN := hid hN
    have hNb : N < 9223372036854775808 := by omega
    by_cases hlt : T < s.length
    · obtain ⟨c, hc, hcs⟩ : ∃ c : UInt8, (str s)[T]'(by omega) = c ∧ s.drop T = c :: s.drop (T + 1) := ⟨s[T], rfl, List.drop_eq_getElem_cons hlt⟩
      have HD := hid hcs
      have hcl := c.toNat_lt
      have hi0 : (0 : Int) ≤ (T : Int) := by omega
      have hi1 : (T : Int) < (s.length : Int) := by omega
      have HG := hid (fun h1 h2 => group_lt N k c.toNat hk hN h1 h2)
      have HGn := hid (group_next N k c.toNat hN)
      have HGm := hid (fun h1 => group_lt N k (c.toNat % 128) hk hN (by omega) h1)
      clear hcs hN
      by_cases h9 : k = 9
      · subst h9
        have HE9 : Hid ((128 : Nat) ^ 9 = 9223372036854775808) := by show _ = _; decide
        by_cases hc1 : 1 < c.toNat
        · have HR := hid (show scanL 9 N (s.drop T) = (0, 0, 4) by rw [HD.out]; simp [scanL, hc1])
          have HX := hid (atOf_err (HS.out.trans HR.out) (by simp))
          go_wp2_with fail
          go_ret3
          rw [HX.out]
          exact ⟨rfl, rfl⟩
        · by_cases hz1 : c.toNat = 0
          · have HR := hid (show scanL 9 N (s.drop T) = (0, 0, 4) by rw [HD.out]; simp [scanL, hz1])
            have HX := hid (atOf_err (HS.out.trans HR.out) (by simp))
            have hz2 : ((c.toNat : Int) == 0) = true := by simp; omega
            clear h8 h99
            go_wp2_with fail
            go_ret3
            rw [HX.out]
            exact ⟨rfl, rfl⟩
          · have hc1' : c.toNat = 1 := by omega
            have HR := hid (show scanL 9 N (s.drop T) = (N + 9223372036854775808, 10, 0) by rw [HD.out]; simp [scanL, hc1'])
            have HX := hid (atOf_ok (HS.out.trans HR.out))
            have hz2 : ((c.toNat : Int) == 0) = false := by simp; omega
            have e10 : t + 10 = T + 1 := by rw [← HT.out]
            clear h8 h99
            rw [show ((128 ^ 9 : Nat) : Int) = 9223372036854775808 from by decide]
            go_wp2_with fail
            go_ret3
            rw [HX.out]
            simp only
            rw [e10]
            exact ⟨rfl, by trivial⟩
      · have h8' := h8 (by omega)
        clear h8 h99
        by_cases hc1 : 128 ≤ c.toNat
        · have HR := hid (show scanL k N (s.drop T) = scanL (k + 1) (N + c.toNat % 128 * 128 ^ k) (s.drop (T + 1)) by
            rw [HD.out]; simp only [scanL]; rw [if_neg (by omega), if_neg (by omega)])
          have hsum := HGm.out (by omega)
          have HP := hid (show (128 : Nat) ^ k * 128 = 128 ^ (k + 1) from (Nat.pow_succ 128 k).symm)
          have hmul : ((c.toNat : Int) - 128) * ((128 ^ k : Nat) : Int) = ((c.toNat % 128 * 128 ^ k : Nat) : Int) := by
            have e : (c.toNat : Int) - 128 = ((c.toNat % 128 : Nat) : Int) := by omega
            rw [e, Int.natCast_mul]
          generalize c.toNat % 128 * 128 ^ k = Y at *
          generalize 128 ^ k = U at *
          go_wp2_with fail
          go_round
          case rel => exact ⟨k + 1, N + Y, by omega, by first | exact HGn.out | (rw [← HP.out]; exact HGn.out), by have := HT.out; omega, by have := HT.out; go_num, by go_num, by rw [← HP.out]; go_num, by go_num, by have := HT.out; rw [show t + (k + 1) = T + 1 by omega]; exact HS.out.trans HR.out⟩
          case measure => simp [intOf]; omega
        · by_cases hz1 : c.toNat = 0 ∧ 0 < k
          · have HR := hid (show scanL k N (s.drop T) = (0, 0, 4) by rw [HD.out]; simp only [scanL]; rw [if_neg (by omega), if_pos (by omega), if_pos hz1])
            have HX := hid (atOf_err (HS.out.trans HR.out) (by simp))
            have hz2 : ((c.toNat : Int) == 0) = true := by simp; omega
            obtain ⟨hz3, hz4⟩ := hz1
            go_wp2_with fail
            go_ret3
            rw [HX.out]
            exact ⟨rfl, rfl⟩
          · have HR := hid (show scanL k N (s.drop T) = (N + c.toNat * 128 ^ k, k + 1, 0) by rw [HD.out]; simp only [scanL]; rw [if_neg (by omega), if_pos (by omega), if_neg hz1])
            have HX := hid (atOf_ok (HS.out.trans HR.out))
            have hsum := HG.out (by omega) (by omega)
            have hmul : (c.toNat : Int) * ((128 ^ k : Nat) : Int) = ((c.toNat * 128 ^ k : Nat) : Int) := by rw [Int.natCast_mul]
            have HTT := hid (show t + (k + 1) = T + 1 by have := HT.out; omega)
            have HY := hid (fun (h : c.toNat = 0) => show c.toNat * 128 ^ k = 0 by rw [h, Nat.zero_mul])
            generalize c.toNat * 128 ^ k = Y at *
            generalize 128 ^ k = U at *
            by_cases hk0 : k = 0
            · subst hk0
              by_cases hc0 : c.toNat = 0
              · obtain rfl : Y = 0 := HY.out hc0
                have hz2 : ((c.toNat : Int) == 0) = true := by simp; omega
                go_wp2_with fail
                go_ret3
                rw [HX.out, HTT.out]
                exact ⟨rfl, rfl⟩
              · have hz2 : ((c.toNat : Int) == 0) = false := by simp; omega
                go_wp2_with fail
                go_ret3
                rw [HX.out, HTT.out]
                exact ⟨rfl, rfl⟩
            · have hz2 : ((c.toNat : Int) == 0) = false := by simp; omega
              go_wp2_with fail
              go_ret3
              rw [HX.out, HTT.out]
              exact ⟨rfl, rfl⟩
    · have HR := hid (show scanL k N (s.drop T) = (0, 0, 3) by rw [List.drop_eq_nil_of_le (by omega)]; rfl)
      have HX := hid (atOf_err (HS.out.trans HR.out) (by simp))
      clear h8 h99 hN
      go_wp2_with fail
      go_ret3
      rw [HX.out]
      exact ⟨rfl, rfl⟩
end Go.Proofs.Ytgkapgfpalbkjaa
