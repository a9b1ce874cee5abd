/-
  The walk of the reference's Cut: it answers 'cutOf' too.
-/
import Derived.Test.YtgkapgfpalbkjaaCut
namespace Go.Proofs.Ytgkapgfpalbkjaa
open Go.RowKit

/-- the number behind k bytes -/
def pnum (l : Bytes) (k : Nat) : Nat := (l.take k).foldl (fun n b => 256 * n + b.toNat) 0
theorem pnum_succ (s : ByteArray) (k : Nat) (h : k < s.size) : pnum s.data.toList (k + 1) = 256 * pnum s.data.toList k + s[k].toNat := by
  have : s.data.toList.take (k + 1) = s.data.toList.take k ++ [s[k]] := by
    rw [List.take_succ_eq_append_getElem (by simpa using h)]; rfl
  unfold pnum
  rw [this, List.foldl_append]; rfl
theorem pnum_four (s : ByteArray) (h : 4 ≤ s.size) : pnum s.data.toList 4 = num4 s.data.toList := by
  have h0 : pnum s.data.toList 0 = 0 := rfl
  rw [← num4_of s h, pnum_succ s 3 (by omega), pnum_succ s 2 (by omega), pnum_succ s 1 (by omega), pnum_succ s 0 (by omega), h0]
  omega
theorem pnum_lt (s : ByteArray) (h : 4 ≤ s.size) : ∀ k, k ≤ 4 → pnum s.data.toList k < 4294967296 := by
  have h0 : pnum s.data.toList 0 = 0 := rfl
  have h1 := pnum_succ s 0 (by omega)
  have h2 := pnum_succ s 1 (by omega)
  have h3 := pnum_succ s 2 (by omega)
  have h4 := pnum_succ s 3 (by omega)
  have b0 := s[0].toNat_lt
  have b1 := s[1].toNat_lt
  have b2 := s[2].toNat_lt
  have b3 := s[3].toNat_lt
  simp only [Nat.zero_add, Nat.reduceAdd] at h1 h2 h3 h4
  intro k hk
  match k, hk with
  | 0, _ => omega
  | 1, _ => omega
  | 2, _ => omega
  | 3, _ => omega
  | 4, _ => omega
theorem cut_body_beq (s : ByteArray) (x : Bytes) : ((str x).toList == (s.extract 4 8).toList) = (x == (s.data.toList.drop 4).take 4) := by
  rw [extract_str, str_beq]

theorem four_nat (n : Nat) (w : World) (h : n ≤ 4294967295) :
    Calls Try.prog 84 #[.int .u32 n] w fun e w' => e = .returned (.string (str (four n))) ∧ Below w.heap.size w w' :=
  four_any n w (by omega) (by omega)
set_option maxHeartbeats 1000000 in
theorem refCut_any (s : ByteArray) (w : World) (hs : s.size ≤ maxLen) :
    Calls Try.prog 62 #[.string s] w fun e w' =>
      e = .returned (.tuple #[.string (str (cutOf s.data.toList).1), .int .i64 (cutOf s.data.toList).2.1, .int .i64 (cutOf s.data.toList).2.2]) ∧ Below w.heap.size w w' := by
  unfold maxLen at hs
  by_cases h8 : s.size < 8
  · have HF := hid (cutOf_few (l := s.data.toList) (by rw [len_of]; omega))
    go_enter Try.func62, Try.ntmps62
    go_wp2_with fail
    go_ret3
    rw [HF.out]
    exact ⟨rfl, Below.refl _ _⟩
  have h4 : 4 ≤ s.size := by omega
  have HP := hid (pnum_lt s h4)
  have HN := hid (pnum_four s h4)
  have HS := hid (pnum_succ s)
  go_enter Try.func62, Try.ntmps62
  go_wp2_with fail
  go_loop [5, 6] (fun n i => ∃ k : Nat, k ≤ 4 ∧ i = .int .i64 k ∧ n = .int .i64 (pnum s.data.toList k : Nat)) (fun _ i => 4 - (intOf i).toNat)
  case atStart => exact ⟨0, by omega, rfl, rfl⟩
  case round =>
    obtain ⟨k, hk, rfl, rfl⟩ := hrel
    by_cases hlt : k < 4
    · have hks : k < s.size := by omega
      have hb := s[k].toNat_lt
      have hp := HP.out k hk
      have HS' := hid (HS.out k hks)
      generalize pnum s.data.toList k = n at *
      go_wp2_with fail
      go_round
      case rel => exact ⟨k + 1, by omega, by go_num, num_i64 (by rw [HS'.out]; omega)⟩
      case measure => simp [intOf]; omega
    · obtain rfl : k = 4 := by omega
      rw [HN.out]
      clear hlt hk
      by_cases hbig : 65536 < num4 s.data.toList
      · have HF := hid (cutOf_long (l := s.data.toList) (by rw [len_of]; omega) hbig)
        generalize num4 s.data.toList = n at hbig
        go_wp2_with fail
        go_ret3
        rw [HF.out]
        exact ⟨rfl, Below.refl _ _⟩
      by_cases hend : s.size < 8 + num4 s.data.toList
      · have HF := hid (cutOf_short (l := s.data.toList) (by rw [len_of]; omega) hbig (by rw [len_of]; omega))
        generalize num4 s.data.toList = n at hbig hend
        go_wp2_with fail
        go_ret3
        rw [HF.out]
        exact ⟨rfl, Below.refl _ _⟩
      have hc := crc_le ((s.data.toList.drop 8).take (num4 s.data.toList))
      have HX := hid (cut_body_beq s)
      by_cases hq : four (crc ((s.data.toList.drop 8).take (num4 s.data.toList))) = (s.data.toList.drop 4).take 4
      · have HF := hid (cutOf_ok (l := s.data.toList) (by rw [len_of]; omega) hbig (by rw [len_of]; omega) hq)
        generalize num4 s.data.toList = n at *
        go_wp2_with fail
        have hq' : ((str (four (crc (List.take n (List.drop 8 s.data.toList))))).toList == (s.extract 4 8).toList) = true := by rw [HX.out, beq_iff_eq]; exact hq
        have he : (s.extract 8 (8 + n)).data.toList = List.take n (List.drop 8 s.data.toList) := by rw [Lib.extract_data, Nat.add_sub_cancel_left]
        have HE := hid he
        clear hq he
        have h48 : (8 : Int) ≤ (s.size : Int) := by omega
        have h48' : 8 ≤ s.size := by omega
        refine wp_region_below (by kernel_rfl) (by kernel_rfl) ?_
        repeat (go_big_quiet_step ((intro hC; first | (go_at_call 85; refine (refSum_any _ _ (by rw [ByteArray.size_extract]; unfold maxLen; omega)).mono ?_; rintro e w2 ⟨rfl, rfl⟩; rw [HE.out]; exact ⟨rfl, hC⟩) | (go_at_call 84; refine (four_nat _ _ (by omega)).mono ?_; rintro e w2 ⟨rfl, hb2⟩; exact ⟨rfl, hC.trans (hb2.mono hC.size)⟩) | rfl)))
        refine wpQuiet_nil ?_
        intro w1 hw1
        go_wp2_with fail
        go_ret3
        rw [HF.out, cast8]
        have hx : s.extract 8 (8 + n) = str (List.take n (List.drop 8 s.data.toList)) := by rw [extract_str, Nat.add_sub_cancel_left]
        rw [← hx]
        exact ⟨rfl, hw1⟩
      · have HF := hid (cutOf_sum (l := s.data.toList) (by rw [len_of]; omega) hbig (by rw [len_of]; omega) hq)
        generalize num4 s.data.toList = n at *
        go_wp2_with fail
        have hq' : ((str (four (crc (List.take n (List.drop 8 s.data.toList))))).toList == (s.extract 4 8).toList) = false := by rw [HX.out, beq_eq_false_iff_ne]; exact hq
        have he : (s.extract 8 (8 + n)).data.toList = List.take n (List.drop 8 s.data.toList) := by rw [Lib.extract_data, Nat.add_sub_cancel_left]
        have HE := hid he
        clear hq he
        have h48 : (8 : Int) ≤ (s.size : Int) := by omega
        have h48' : 8 ≤ s.size := by omega
        refine wp_region_below (by kernel_rfl) (by kernel_rfl) ?_
        repeat (go_big_quiet_step ((intro hC; first | (go_at_call 85; refine (refSum_any _ _ (by rw [ByteArray.size_extract]; unfold maxLen; omega)).mono ?_; rintro e w2 ⟨rfl, rfl⟩; rw [HE.out]; exact ⟨rfl, hC⟩) | (go_at_call 84; refine (four_nat _ _ (by omega)).mono ?_; rintro e w2 ⟨rfl, hb2⟩; exact ⟨rfl, hC.trans (hb2.mono hC.size)⟩) | rfl)))
        refine wpQuiet_nil ?_
        intro w1 hw1
        go_wp2_with fail
        go_ret3
        rw [HF.out]
        exact ⟨rfl, hw1⟩
end Go.Proofs.Ytgkapgfpalbkjaa
