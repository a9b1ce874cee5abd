/-
  The walk of posthornlaw02.alive: it answers true.
-/
import Derived.Test.YtndafpmngfcibaaRefCut
namespace Go.Proofs.Ytndafpmngfcibaa
open Go.RowKit

theorem frame_a (w : World) : Calls Try.prog 9 #[.string { data := #[97] }] w fun e w' =>
    e = .returned (.tuple #[.string { data := #[0, 0, 0, 1, 232, 183, 190, 67, 97] }, .int .i64 0]) ∧ Below w.heap.size w w' := by
  have h := frame_any { data := #[97] } w (by decide)
  rw [show frameOf (ByteArray.mk #[97]).data.toList = ([0, 0, 0, 1, 232, 183, 190, 67, 97], 0) from by decide +kernel] at h
  exact h
theorem cut_ab (w : World) : Calls Try.prog 14 #[.string { data := #[0, 0, 0, 1, 232, 183, 190, 67, 97, 98] }] w fun e w' =>
    e = .returned (.tuple #[.string { data := #[97] }, .int .i64 9, .int .i64 0]) ∧ Below w.heap.size w w' := by
  have h := cut_any { data := #[0, 0, 0, 1, 232, 183, 190, 67, 97, 98] } w (by decide)
  rw [show cutOf (ByteArray.mk #[0, 0, 0, 1, 232, 183, 190, 67, 97, 98]).data.toList = ([97], 9, 0) from by decide +kernel] at h
  exact h
theorem sum_9 (w : World) : Calls Try.prog 12 #[.string { data := #[49, 50, 51, 52, 53, 54, 55, 56, 57] }] w fun e w' =>
    e = .returned (.int .u32 3421780262) ∧ w = w' := by
  have h := sum_any { data := #[49, 50, 51, 52, 53, 54, 55, 56, 57] } w (by decide)
  rw [show crc (ByteArray.mk #[49, 50, 51, 52, 53, 54, 55, 56, 57]).data.toList = 3421780262 from by decide +kernel] at h
  exact h

set_option maxHeartbeats 400000 in
theorem sealAlive_any (w : World) : Calls Try.prog 11 #[] w fun e w' => e = .returned (.bool true) ∧ Below w.heap.size w w' := by
  go_enter Try.func11, Try.ntmps11
  go_wp2_with fail
  refine (frame_a _).mono ?_
  rintro e w1 ⟨rfl, hb1⟩
  go_wp2_with fail
  refine (cut_ab _).mono ?_
  rintro e w2 ⟨rfl, hb2⟩
  go_wp2_with fail
  refine (sum_9 _).mono ?_
  rintro e w3 ⟨rfl, rfl⟩
  go_wp2_with fail
  go_ret
  exact ⟨rfl, hb1.trans (hb2.mono hb1.size)⟩
end Go.Proofs.Ytndafpmngfcibaa
