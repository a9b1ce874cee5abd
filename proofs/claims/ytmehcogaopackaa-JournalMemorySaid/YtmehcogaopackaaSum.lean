/-
  The walks of seal.Sum and of the reference's Sum: both are 'crc' of the bytes, and leave the world alone.
-/
import Derived.Test.YtmehcogaopackaaChecked
import Derived.Test.YtmehcogaopackaaCrc
import Derived.WalkKit
import Derived.LoopTactic
import Derived.OwnWalk
import Derived.Outline
import Derived.WalkLawsBesides
import Derived.WalkSpells
namespace Go.Proofs.Ytmehcogaopackaa
open Go.RowKit

theorem num_u32 {a b : Int} (h : a = b) : Value.int .u32 a = Value.int .u32 b := by rw [h]
theorem num_i64 {a b : Int} (h : a = b) : Value.int .i64 a = Value.int .i64 b := by rw [h]
theorem ret_u32 {a b : Int} (h : a = b) : Ending.returned (.int .u32 a) = .returned (.int .u32 b) := by rw [h]

theorem crcRun_take (s : ByteArray) (k : Nat) (h : k < s.size) : crcRun (s.data.toList.take (k + 1)) = crcByte (crcRun (s.data.toList.take k)) s[k] := by
  have : s.data.toList.take (k + 1) = s.data.toList.take k ++ [s[k]] := by
    rw [List.take_succ_eq_append_getElem (by simpa using h)]; rfl
  rw [this, crcRun_snoc]
theorem crcRun_all (s : ByteArray) (k : Nat) (h : k ≤ s.size) (h2 : ¬ k < s.size) : crcRun (s.data.toList.take k) = crcRun s.data.toList := by
  rw [List.take_of_length_le (by simp; omega)]

set_option maxHeartbeats 400000 in
theorem sum_any (s : ByteArray) (w : World) (hs : s.size ≤ maxLen) :
    Calls Try.prog 75 #[.string s] w fun e w' => e = .returned (.int .u32 (crc s.data.toList : Nat)) ∧ w = w' := by
  unfold maxLen at hs
  go_enter Try.func75, Try.ntmps75
  go_wp2
  go_loop [3, 4, 5, 8] (fun c _ _ j => ∃ k : Nat, k ≤ s.size ∧ j = .int .i64 k ∧ c = .int .u32 (crcRun (s.data.toList.take k) : Nat)) (fun _ _ _ j => s.size - (intOf j).toNat)
  case atStart => exact ⟨0, Nat.zero_le _, rfl, rfl⟩
  case round =>
    obtain ⟨k, hk, rfl, rfl⟩ := hrel
    have hx0 := crcRun_le (s.data.toList.take k)
    by_cases hlt : k < s.size
    · have HR := hid (crcRun_take s k hlt)
      have hx1 := crcXor_le hx0 s[k]
      have HX := hid (crcXor_prog (crcRun (s.data.toList.take k)) s[k] hx0)
      generalize crcRun (s.data.toList.take k) = x at *
      go_wp2
      go_loop [3, 5, 17] (fun c _ j => ∃ i : Nat, i ≤ 8 ∧ j = .int .i64 i ∧ c = .int .u32 (crcBits i (x ^^^ s[k].toNat) : Nat)) (fun _ _ j => 8 - (intOf j).toNat)
      case atStart => exact ⟨0, by omega, rfl, num_u32 HX.out⟩
      case round =>
        obtain ⟨i, hi, rfl, rfl⟩ := hrel
        have hy := crcBits_le hx1 i
        by_cases hlt' : i < 8
        · have HB := hid (crcBit_prog (crcBits i (x ^^^ s[k].toNat)) hy)
          have HS := hid (show crcBits (i + 1) (x ^^^ s[k].toNat) = crcBit (crcBits i (x ^^^ s[k].toNat)) from rfl)
          generalize crcBits i (x ^^^ s[k].toNat) = y at *
          go_wp2
          go_round
          case rel => exact ⟨i + 1, by omega, by go_num, num_u32 (by rw [HS.out]; exact HB.out)⟩
          case measure => simp [intOf]; omega
        · obtain rfl : i = 8 := by omega
          go_wp2
          go_round
          case rel => exact ⟨k + 1, by omega, by go_num, num_u32 (by rw [HR.out]; rfl)⟩
          case measure => simp [intOf]; omega
    · have HN := hid (crcNot_prog _ hx0)
      have HA := hid (crcRun_all s k hk hlt)
      go_wp2
      go_ret
      exact ⟨ret_u32 (HN.out.trans (by rw [HA.out]; rfl)), rfl⟩

end Go.Proofs.Ytmehcogaopackaa
