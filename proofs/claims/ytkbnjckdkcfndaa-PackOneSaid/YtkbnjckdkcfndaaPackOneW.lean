/-
  The walk of the law PackOne.
-/
import Derived.Test.YtkbnjckdkcfndaaPackAlive
namespace Go.Proofs.Ytkbnjckdkcfndaa
open Go.RowKit

/-- a read of a number: a fault and nothing read, or the number and its bytes -/
theorem bnd_one (s : Bytes) (t : Nat) (ht : t ≤ s.length) : (∃ er : Nat, bnd false s t 0 18446744073709551615 = (0, 0, t, er) ∧ (er = 3 ∨ er = 4)) ∨ (∃ n z : Nat, bnd false s t 0 18446744073709551615 = (n, z, t + z, 0) ∧ n < top64 ∧ 0 < z ∧ t + z ≤ s.length ∧ num n = (s.drop t).take z) := by
  have h1 := scan0_one (s.drop t)
  have h2 := scanL_err (s.drop t) 0 0
  unfold bnd
  rw [if_neg (by simp)]
  unfold scan0 at h1 ⊢
  generalize scanL 0 0 (s.drop t) = q at *
  obtain ⟨n, z, er⟩ := q
  simp only
  by_cases her : er ≠ 0
  · rw [if_pos her]
    refine .inl ⟨er, rfl, ?_⟩
    simp only at h2
    omega
  · rw [if_neg her]
    obtain rfl : er = 0 := by omega
    obtain ⟨a1, a2, a3, a4⟩ := h1 n z rfl
    rw [List.length_drop] at a3
    have := a1
    unfold top64 at this
    rw [if_neg (by omega)]
    refine .inr ⟨n, z, by simp, a1, a2, by omega, a4⟩

set_option maxHeartbeats 1000000 in
theorem packOne_walk (s0 : ByteArray) (_hs0 : s0.size ≤ maxLen) (hl0 : s0.size ≤ 140737488351232) (w : World) :
    Calls Try.prog 4 #[.string s0] w fun e W' => e = .returned (.bool true) ∧ Below w.heap.size w W' := by
  obtain ⟨s, rfl⟩ : ∃ l, s0 = str l := ⟨s0.data.toList, (str_of s0).symm⟩
  have hz : (str s).size = s.length := str_size _
  have hs : s.length ≤ 1152921504606846976 := by omega
  have hsm : s.length ≤ maxLen := by unfold maxLen; omega
  clear hl0 _hs0
  go_enter Try.func4, Try.ntmps4
  go_wp2_with fail
  refine (packAlive_any _).mono ?_
  rintro e w1 ⟨rfl, hb1⟩
  go_wp2_with fail
  refine (open_any s _).mono ?_
  rintro e w2 ⟨rfl, hr2, hb2⟩
  have hB2 := hb1.trans (hb2.mono hb1.size)
  have hb := hb1.size
  generalize w1.heap.size = b at *
  clear hb2
  go_wp2_with fail
  go_loopw [4] (fun vi wr => ∃ k t : Nat, vi = .int .i64 (k : Int) ∧ k ≤ t ∧ t ≤ s.length ∧ RD wr b s t 0 ∧ Below w.heap.size w wr) (fun i _ => s.length + 1 - (intOf i).toNat)
  case atStart => exact ⟨0, 0, rfl, Nat.le_refl _, Nat.zero_le _, hr2, hB2⟩
  case round =>
    obtain ⟨k, t, rfl, hk, ht, hr, hB⟩ := hrel
    have hbm : w.heap.size ≤ b := hb
    have hx : (s.length : Int) - ((s.length - t : Nat) : Int) = (t : Int) := by omega
    go_wp2_with fail
    refine (left_any s t 0 b _ hr ht hsm).mono ?_
    rintro e w3 ⟨rfl, hb3⟩
    have hr3 := hr.below hb3
    have hB3 := hB.trans (hb3.mono hB.size)
    clear hr hB hb3
    go_wp2_with fail
    rcases bnd_one s t ht with ⟨er, hp, her⟩ | ⟨n, z, hp, hn, hz0, hzl, hnum⟩
    · refine (rnum_any s t 0 b _ hr3 ht hs _ hp.symm).mono ?_
      rintro e w4 ⟨rfl, hr4, hb4⟩
      have hB4 := hB3.trans (hb4.mono hbm)
      simp only at hr4
      have he0 : er ≠ 0 := by omega
      have hF := fun W h => fault_any s t er b W h
      rw [if_neg he0] at hF
      clear hr3 hB3 hb4
      go_wp2_with fail
      refine (hF _ hr4).mono ?_
      rintro e w5 ⟨rfl, hb5⟩
      have hB5 := hB4.trans (hb5.mono hB4.size)
      rcases her with rfl | rfl
      · go_wp2_with fail
        go_ret
        exact ⟨rfl, hB5⟩
      · go_wp2_with fail
        go_ret
        exact ⟨rfl, hB5⟩
    · have HN := hid hnum
      clear hnum
      refine (rnum_any s t 0 b _ hr3 ht hs _ hp.symm).mono ?_
      rintro e w4 ⟨rfl, hr4, hb4⟩
      have hB4 := hB3.trans (hb4.mono hbm)
      simp only at hr4
      have hF := fun W h => fault_any s (t + z) 0 b W h
      rw [if_pos rfl] at hF
      clear hr3 hB3 hb4
      go_wp2_with fail
      refine (hF _ hr4).mono ?_
      rintro e w5 ⟨rfl, hb5⟩
      have hr5 := hr4.below hb5
      have hB5 := hB4.trans (hb5.mono hB4.size)
      clear hr4 hB4 hb5
      go_wp2_with fail
      refine (num_any n hn _).mono ?_
      rintro e w6 ⟨rfl, hb6⟩
      have hr6 := hr5.below hb6
      have hB6 := hB5.trans (hb6.mono hB5.size)
      clear hr5 hB5 hb6
      go_wp2_with fail
      refine (left_any s (t + z) 0 b _ hr6 hzl hsm).mono ?_
      rintro e w7 ⟨rfl, hb7⟩
      have hr7 := hr6.below hb7
      have hB7 := hB6.trans (hb7.mono hB6.size)
      have hx2 : (s.length : Int) - ((s.length - (t + z) : Nat) : Int) = ((t + z : Nat) : Int) := by omega
      have hex : ((str (num n)).toList == ((str s).extract t (t + z)).toList) = true := by rw [extract_str, str_data, Nat.add_sub_cancel_left, HN.out]; exact beq_self_eq_true _
      clear hr6 hB6 hb7
      go_wp2_with fail
      go_roundw
      case rel => exact ⟨k + 1, t + z, by go_num, by omega, hzl, hr7, hB7⟩
      case measure => simp [intOf]; omega
end Go.Proofs.Ytkbnjckdkcfndaa
