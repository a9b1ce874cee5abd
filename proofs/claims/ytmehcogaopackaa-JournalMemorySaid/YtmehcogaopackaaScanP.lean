/-
  The walk of the reader's scan.
-/
import Derived.Test.YtmehcogaopackaaReader
import Derived.Lib.EndianBits
namespace Go.Proofs.Ytmehcogaopackaa
open Go.RowKit

theorem and127 : ∀ c : Fin 256, bits .and .u8 (c.val : Int) 127 = ((c.val % 128 : Nat) : Int) := by decide +kernel
theorem or_group (N k c : Nat) (hk : k ≤ 9) (h9 : k = 9 → c ≤ 1) (hN : N < 128 ^ k) (hc : c < 256) :
    bits .or .u64 (N : Int) (IntKind.u64.wrap (IntKind.u64.wrap (bits .and .u8 (c : Int) 127) * 2 ^ (7 * k))) = ((N + c % 128 * 128 ^ k : Nat) : Int) := by
  have ha : bits .and .u8 (c : Int) 127 = ((c % 128 : Nat) : Int) := and127 ⟨c, hc⟩
  have e7 : 128 ^ k = 2 ^ (7 * k) := by rw [Nat.pow_mul]
  have hp : (2 : Nat) ^ (7 * k) ≤ 2 ^ 63 := Nat.pow_le_pow_right (by omega) (by omega)
  have hx : c % 128 * 2 ^ (7 * k) < 2 ^ 64 := by
    by_cases h : k = 9
    · subst h
      have := h9 rfl
      have h2 : (2 : Nat) ^ (7 * 9) = 9223372036854775808 := by decide
      rw [h2]
      omega
    · have h2 : (2 : Nat) ^ (7 * k) ≤ 2 ^ 56 := Nat.pow_le_pow_right (by omega) (by omega)
      have h3 : c % 128 * 2 ^ (7 * k) ≤ 127 * 2 ^ 56 := Nat.mul_le_mul (by omega) h2
      omega
  rw [ha, IntKind.wrap_u64, IntKind.wrap_u64, e7]
  have e1 : ((c % 128 : Nat) : Int) % 18446744073709551616 = ((c % 128 : Nat) : Int) := by omega
  rw [e1]
  have e2 : ((c % 128 : Nat) : Int) * 2 ^ (7 * k) = ((c % 128 * 2 ^ (7 * k) : Nat) : Int) := by rw [Int.natCast_mul, Int.natCast_pow]; rfl
  rw [e2]
  have e3 : ((c % 128 * 2 ^ (7 * k) : Nat) : Int) % 18446744073709551616 = ((c % 128 * 2 ^ (7 * k) : Nat) : Int) := by omega
  rw [e3]
  rw [e7] at hN
  have hN2 : (N : Int) < 2 ^ (7 * k) := by exact_mod_cast hN
  have := bits_join_low .u64 64 (by decide) (fun n h0 h1 => by rw [IntKind.wrap_u64]; omega) (7 * k) (N : Int) ((c % 128 * 2 ^ (7 * k) : Nat) : Int) (by omega) hN2 (by omega) (by omega) (by rw [← e2]; exact Int.mul_emod_left _ _) (by omega)
  rw [this]
  rfl

set_option maxRecDepth 100000 in
set_option maxHeartbeats 1000000 in
theorem scan_any (s : Bytes) (t e : Nat) (b : Nat) (w : World) (h : RD w b s t e) (ht : t ≤ s.length) (hs : s.length ≤ 1152921504606846976) :
    Calls Try.prog 84 #[.pointer (some ⟨b, 0, none⟩)] w fun x w' => x = .returned (.tuple #[.int .u64 ((scan0 (s.drop t)).1 : Int), .int .i64 ((scan0 (s.drop t)).2.1 : Int), .int .i64 ((scan0 (s.drop t)).2.2 : Int)]) ∧ Below w.heap.size w w' := by
  have h0 := h.s
  have h1 := h.t
  have h2 := h.e
  have hz : (str s).size = s.length := str_size _
  clear h
  go_enter Try.func84, Try.ntmps84
  go_wp2_with fail
  go_loopw [5, 6] (fun vn vi wr => ∃ k N Nd : Nat, vn = .int .u64 N ∧ vi = .int .i64 k ∧ k ≤ 9 ∧ t + k ≤ s.length ∧ N < 128 ^ k ∧ Hid (scan0 (s.drop t) = scanL k N (s.drop (t + k))) ∧ wr = w.drewN Nd) (fun _ i _ => 10 - (intOf i).toNat)
  case atStart => exact ⟨0, 0, 0, rfl, rfl, by omega, by omega, by simp, rfl, rfl⟩
  case round =>
    obtain ⟨k, N, Nd, rfl, rfl, hk, htk, hN, HS, rfl⟩ := hrel
    by_cases hlt : t + k < s.length
    · have hw : IntKind.i64.wrap ((t : Int) + (k : Int)) = ((t + k : Nat) : Int) := by rw [IntKind.wrap_i64]; omega
      have hi0 : 0 ≤ (t : Int) + (k : Int) := by omega
      have hi1 : (t : Int) + (k : Int) < (s.length : Int) := by omega
      go_wp2_with fail
      go_quiet (fail)
      go_wp2_with fail
      go_quiet (fail)
      obtain ⟨c, hc, hcs⟩ : ∃ c : UInt8, (str s)[t + k]'(by omega) = c ∧ s.drop (t + k) = c :: s.drop (t + k + 1) := ⟨s[t + k], rfl, List.drop_eq_getElem_cons hlt⟩
      rw [hc]
      have HD := hid hcs
      have hcl := c.toNat_lt
      clear hc hcs hw
      by_cases h9 : k = 9
      · subst h9
        by_cases hc1 : 1 < c.toNat
        · have HR := hid (show scanL 9 N (s.drop (t + 9)) = (0, 0, 4) by rw [HD.out]; simp [scanL, hc1])
          go_wp2_with fail
          go_ret3
          rw [HS.out, HR.out]
          exact ⟨rfl, below_drewN (Below.refl _ _) _⟩
        · by_cases hz1 : c.toNat = 0
          · have HR := hid (show scanL 9 N (s.drop (t + 9)) = (0, 0, 4) by rw [HD.out]; simp [scanL, hz1])
            rw [hz1]
            go_wp2_with fail
            go_ret3
            rw [HS.out, HR.out]
            exact ⟨rfl, below_drewN (Below.refl _ _) _⟩
          · obtain hz1 : c.toNat = 1 := by omega
            obtain ⟨M, hM⟩ : ∃ M, M = N + 1 * 128 ^ 9 := ⟨_, rfl⟩
            have HR := hid (show scanL 9 N (s.drop (t + 9)) = (M, 10, 0) by rw [HD.out, hM]; simp [scanL, hz1])
            have hg : bits BinOp.or IntKind.u64 (N : Int) (IntKind.u64.wrap (IntKind.u64.wrap (bits BinOp.and IntKind.u8 1 127) * 9223372036854775808)) = (M : Int) := by
              rw [hM]
              exact or_group N 9 1 (by omega) (fun _ => Nat.le_refl _) hN (by omega)
            rw [hz1]
            clear hN hM
            go_wp2_with fail
            go_ret3
            rw [HS.out, HR.out]
            exact ⟨rfl, below_drewN (Below.refl _ _) _⟩
      · have hg := or_group N k c.toNat hk (fun e => absurd e h9) hN c.toNat_lt
        by_cases hc1 : c.toNat < 128
        · have hmod : c.toNat % 128 = c.toNat := Nat.mod_eq_of_lt hc1
          rw [hmod] at hg
          by_cases hz1 : c.toNat = 0
          · by_cases hk0 : 0 < k
            · have HR := hid (show scanL k N (s.drop (t + k)) = (0, 0, 4) by rw [HD.out]; simp [scanL, hz1, hk0, h9])
              rw [hz1] at hg hc1 ⊢
              clear hN
              go_wp2_with fail
              go_ret3
              rw [HS.out, HR.out]
              exact ⟨rfl, below_drewN (Below.refl _ _) _⟩
            · obtain ⟨M, hM⟩ : ∃ M, M = N + 0 * 128 ^ k := ⟨_, rfl⟩
              have HR := hid (show scanL k N (s.drop (t + k)) = (M, k + 1, 0) by rw [HD.out, hM]; simp [scanL, hz1, hk0])
              rw [hz1] at hg hc1 ⊢
              rw [← hM] at hg
              have hg2 : bits BinOp.or IntKind.u64 (N : Int) (IntKind.u64.wrap (IntKind.u64.wrap (bits BinOp.and IntKind.u8 0 127) * 2 ^ (7 * k))) = (M : Int) := hg
              clear hN hM hg
              go_wp2_with fail
              go_ret3
              rw [HS.out, HR.out]
              exact ⟨rfl, below_drewN (Below.refl _ _) _⟩
          · obtain ⟨M, hM⟩ : ∃ M, M = N + c.toNat * 128 ^ k := ⟨_, rfl⟩
            have HR := hid (show scanL k N (s.drop (t + k)) = (M, k + 1, 0) by rw [HD.out, hM]; simp [scanL, hz1, h9, hc1])
            rw [← hM] at hg
            clear hN hM
            go_wp2_with fail
            go_ret3
            rw [HS.out, HR.out]
            exact ⟨rfl, below_drewN (Below.refl _ _) _⟩
        · obtain ⟨M, hM⟩ : ∃ M, M = N + c.toNat % 128 * 128 ^ k := ⟨_, rfl⟩
          have HR := hid (show scanL k N (s.drop (t + k)) = scanL (k + 1) M (s.drop (t + k + 1)) by rw [HD.out, hM]; simp [scanL, h9, hc1])
          rw [← hM] at hg
          have HM : Hid (M < 128 ^ (k + 1)) := by
            show M < _
            rw [hM, Nat.pow_succ]
            have h3 : c.toNat % 128 * 128 ^ k ≤ 127 * 128 ^ k := Nat.mul_le_mul_right _ (by omega)
            omega
          clear hN hM
          go_wp2_with fail
          go_roundw
          case rel => exact ⟨k + 1, M, _, rfl, by go_num, by omega, by omega, HM.out, (show scan0 (s.drop t) = _ by rw [HS.out, HR.out]; rfl), rfl⟩
          case measure => simp [intOf]; omega
    · have HR := hid (show scanL k N (s.drop (t + k)) = (0, 0, 3) by rw [List.drop_of_length_le (by omega)]; rfl)
      go_wp2_with fail
      go_quiet (fail)
      go_wp2_with fail
      go_ret3
      rw [HS.out, HR.out]
      exact ⟨rfl, below_drewN (below_drewN (Below.refl _ _) _) _⟩
end Go.Proofs.Ytmehcogaopackaa
