/-
  The walk of the law SealTurned.
-/
import Derived.Test.YtndafpmngfcibaaSealAlive
import Derived.Test.YtndafpmngfcibaaTurn
import Derived.Test.YtndafpmngfcibaaBytes
namespace Go.Proofs.Ytndafpmngfcibaa
open Go.RowKit

/-- which byte is turned -/
theorem turn_place (k : Int) (n : Nat) (hn : n ≤ 65536) : ∃ u m : Nat, IntKind.u64.wrap k = (u : Int) ∧ ((u : Int).tmod (8 + (n : Int) - 4)) = (m : Int) ∧ m < 4 + n := by
  have h0 : 0 ≤ IntKind.u64.wrap k := by rw [IntKind.wrap_u64]; omega
  obtain ⟨u, hu⟩ := Int.eq_ofNat_of_zero_le h0
  refine ⟨u, u % (4 + n), hu, ?_, Nat.mod_lt _ (by omega)⟩
  have e : (8 + (n : Int) - 4) = ((4 + n : Nat) : Int) := by omega
  rw [e]; rfl
theorem byte_of (b : Int) (h0 : 0 ≤ b) (h1 : b ≤ 255) : ∃ x : UInt8, b = (x.toNat : Int) := ⟨UInt8.ofNat b.toNat, by simp; omega⟩
theorem xor_u8 (x y : UInt8) : bits .xor .u8 (x.toNat : Int) (y.toNat : Int) = (((x ^^^ y).toNat : Nat) : Int) := by
  rw [u8_xor_nat _ _ x.toNat_lt y.toNat_lt, UInt8.toNat_xor]
theorem xor_ne (x y : UInt8) (h : ¬ (y.toNat : Int) = 0) : x ^^^ y ≠ x := by
  intro e
  apply h
  have h2 := congrArg (x ^^^ ·) e
  simp only [← UInt8.xor_assoc, UInt8.xor_self, UInt8.zero_xor] at h2
  rw [h2]; rfl
set_option maxHeartbeats 1000000 in
theorem sealTurned_walk (s : ByteArray) (hs : s.size ≤ maxLen) (k : Int) (wk : (Lit.int .i64 k).wf = true) (b : Int) (wb : (Lit.int .u8 b).wf = true) (w : World) :
    Calls Try.prog 5 #[.string s, .int .i64 k, .int .u8 b] w fun e w' => e = .returned (.bool true) ∧ Below w.heap.size w w' := by
  have hs' := hs
  unfold maxLen at hs
  have hb : 0 ≤ b ∧ b ≤ 255 := by simpa [Lit.wf, IntKind.min, IntKind.max, IntKind.signed, IntKind.bits] using wb
  have hk : -9223372036854775808 ≤ k ∧ k ≤ 9223372036854775807 := by simpa [Lit.wf, IntKind.min, IntKind.max, IntKind.signed, IntKind.bits] using wk
  obtain ⟨hb0, hb1⟩ := hb
  obtain ⟨hk0, hk1⟩ := hk
  clear wb wk
  obtain ⟨b, rfl⟩ := byte_of b hb0 hb1
  by_cases hz : (b.toNat : Int) = 0
  · have hzb : ((b.toNat : Int) == 0) = true := beq_iff_eq.2 hz
    clear hz
    go_enter Try.func5, Try.ntmps5
    go_wp2_with fail
    refine (sealAlive_any _).mono ?_
    rintro e w1 ⟨rfl, hb1⟩
    go_wp2_with fail
    go_ret
    exact ⟨rfl, hb1⟩
  have hzb : ((b.toNat : Int) == 0) = false := beq_eq_false_iff_ne.2 hz
  have HZ := hid hz
  clear hz
  by_cases hbig : 65536 < s.size
  · go_enter Try.func5, Try.ntmps5
    go_wp2_with fail
    refine (sealAlive_any _).mono ?_
    rintro e w1 ⟨rfl, hb1⟩
    go_wp2_with fail
    go_ret
    exact ⟨rfl, hb1⟩
  have HF := hid (show frameOf s.data.toList = (frame s.data.toList, 0) by unfold frameOf; rw [if_neg (by rw [len_of]; omega)])
  have hsz : (str (frame s.data.toList)).size = 8 + s.size := by rw [str_size, frame_length, len_of]
  have hq : (((8 + s.size : Nat) : Int) != 8 + (s.size : Int)) = false := by rw [bne_eq_false_iff_eq]; omega
  obtain ⟨u, m, hu, hm, hmlt⟩ := turn_place k s.size (by omega)
  have hmf : 4 + m < (frame s.data.toList).length := by rw [frame_length, len_of]; omega
  have hx := xor_u8 (frame s.data.toList)[4 + m] b
  have hne := xor_ne (frame s.data.toList)[4 + m] b HZ.out
  generalize (frame s.data.toList)[4 + m] ^^^ b = z at hx hne
  have HT := hid (cut_turn s.data.toList (by rw [len_of]; omega) (4 + m) (by omega) hmf z hne)
  clear hne
  have hbit := (frame s.data.toList)[4 + m].toNat_lt
  go_enter Try.func5, Try.ntmps5
  go_wp2_with fail
  refine (sealAlive_any _).mono ?_
  rintro e w1 ⟨rfl, hb1⟩
  go_wp2_with fail
  refine (frame_any s _ hs').mono ?_
  rintro e w2 ⟨rfl, hb2⟩
  rw [HF.out]
  obtain ⟨cap, w3, hrun, hcap, hcell, hfree, hbel, hsize⟩ := bytes_made (P := Try.prog) w2 9 35 5 (str (frame s.data.toList)) Try.underlying9 Try.underlying35 Try.underlying5
  rw [str_data] at hcell
  rw [hsz] at hrun hfree
  have hc1 := hcell (4 + m) hmf
  have hf1 := hfree (4 + m) (by omega)
  have hback := bytes_back (P := Try.prog) (w3.setCell ⟨w2.heap.size, 4 + m, none⟩ (.int .u8 (z.toNat : Int))) 35 9 5 w2.heap.size cap
    ((frame s.data.toList).set (4 + m) z) Try.underlying35 Try.underlying5 Try.underlying9 (bytes_set hcell (4 + m) _ hmf)
  rw [List.length_set, frame_length, len_of] at hback
  clear hcell hfree
  have HS := hid (show (str ((frame s.data.toList).set (4 + m) z)).size ≤ maxLen by rw [str_size, List.length_set, frame_length, len_of]; unfold maxLen; omega)
  go_wp2_with fail
  refine (cut_any _ _ HS.out).mono ?_
  rintro e w4 ⟨rfl, hb4⟩
  rw [str_data, HT.out]
  go_wp2_with fail
  go_ret
  have hs3 : (w3.setCell ⟨w2.heap.size, 4 + m, none⟩ (.int .u8 (z.toNat : Int))).heap.size = w3.heap.size := by simp
  refine ⟨rfl, ((hb1.trans (hb2.mono hb1.size)).trans ((hbel.setCell (p := ⟨w2.heap.size, 4 + m, none⟩) (Nat.le_refl _) _).mono (Nat.le_trans hb1.size hb2.size))).trans (hb4.mono ?_)⟩
  rw [hs3]
  exact Nat.le_trans hb1.size (Nat.le_trans hb2.size hbel.size)
end Go.Proofs.Ytndafpmngfcibaa
