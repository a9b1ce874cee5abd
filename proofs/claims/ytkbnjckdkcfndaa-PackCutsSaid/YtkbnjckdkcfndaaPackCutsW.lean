/-
  The walk of the law PackCuts.
-/
import Derived.Test.YtkbnjckdkcfndaaPackAlive
namespace Go.Proofs.Ytkbnjckdkcfndaa
open Go.RowKit

theorem cut_place (k : Int) (n : Nat) (hn : 0 < n) : ∃ u m : Nat, IntKind.u64.wrap k = (u : Int) ∧ ((u : Int).tmod (n : Int)) = (m : Int) ∧ m < n := by
  have h0 : 0 ≤ IntKind.u64.wrap k := by rw [IntKind.wrap_u64]; omega
  obtain ⟨u, hu⟩ := Int.eq_ofNat_of_zero_le h0
  exact ⟨u, u % n, hu, rfl, Nat.mod_lt u hn⟩

/-- of a number and a text, cut off ahead of their end: both reads; the fault is 3 -/
theorem cuts_plain (n : Nat) (hn : n < top64) (l : Bytes) (hl : l.length ≤ 1152921504606846976) (m : Nat) (hm : m < (num n ++ text l).length) (R : Bytes) (hR : R = (num n ++ text l).take m) :
    ∃ p q : Nat × Nat × Nat × Nat, p = bnd false R 0 0 18446744073709551615 ∧ p.2.2.1 ≤ R.length ∧ q = bnd true R p.2.2.1 p.2.2.2 l.length ∧ ∃ t, rtext R q = ([], t, 3) := by
  have hn' := hn
  unfold top64 at hn'
  by_cases h1 : m < (num n).length
  · have e1 : R = (num n).take m := by rw [hR, List.take_append_of_le_length (Nat.le_of_lt h1)]
    have h2 := scan0_cut n hn m h1
    have e2 : bnd false R 0 0 18446744073709551615 = (0, 0, 0, 3) := by
      unfold bnd
      rw [if_neg (by simp), List.drop_zero, e1, h2]
      rfl
    exact ⟨_, _, e2.symm, Nat.zero_le _, rfl, 0, rfl⟩
  · obtain ⟨k, rfl⟩ : ∃ k, m = (num n).length + k := ⟨m - (num n).length, by omega⟩
    have e1 : R = num n ++ (text l).take k := by
      rw [hR, List.take_length_add_append]
    have h2 := scan0_num n hn ((text l).take k)
    have e2 : bnd false R 0 0 18446744073709551615 = (n, (num n).length, 0 + (num n).length, 0) := by
      unfold bnd
      rw [if_neg (by simp), List.drop_zero, e1, h2]
      simp only
      rw [if_neg (by simp), if_neg (by omega), if_neg (by simp)]
    rw [Nat.zero_add] at e2
    refine ⟨_, _, e2.symm, by rw [e1]; simp, rfl, (num n).length, ?_⟩
    have hk : k < (text l).length := by rw [List.length_append] at hm; omega
    have e3 : R.drop (num n).length = (text l).take k := by rw [e1, List.drop_left]
    have hR2 : R.length = (num n).length + k := by rw [e1, List.length_append, List.length_take]; omega
    have htl : (text l).length = (num l.length).length + l.length := by unfold text; rw [List.length_append]
    have hln : l.length < top64 := by unfold top64; omega
    have e4 : bnd true R (num n).length 0 l.length = (0, 0, (num n).length, 3) := by
      unfold bnd
      rw [if_neg (by simp), e3]
      by_cases h3 : k < (num l.length).length
      · have e5 : (text l).take k = (num l.length).take k := by unfold text; rw [List.take_append_of_le_length (Nat.le_of_lt h3)]
        rw [e5, scan0_cut _ hln k h3]
        rfl
      · obtain ⟨j, rfl⟩ : ∃ j, k = (num l.length).length + j := ⟨k - (num l.length).length, by omega⟩
        have e5 : (text l).take ((num l.length).length + j) = num l.length ++ l.take j := by
          unfold text
          rw [List.take_length_add_append]
        rw [e5, scan0_num _ hln]
        simp only
        rw [if_neg (by simp), if_neg (by omega), if_pos (by simp; omega)]
    show rtext R (bnd true R (num n).length 0 l.length) = _
    rw [e4]
    rfl

set_option maxHeartbeats 1000000 in
theorem packCuts_walk (n : Int) (wn : (Lit.int .u64 n).wf = true) (s0 : ByteArray) (_hs0 : s0.size ≤ maxLen) (hl0 : s0.size ≤ 140737488351232) (t : Int) (wt : (Lit.int .i64 t).wf = true) (w : World) :
    Calls Try.prog 5 #[.int .u64 n, .string s0, .int .i64 t] w fun e W' => e = .returned (.bool true) ∧ Below w.heap.size w W' := by
  have hn1 : 0 ≤ n ∧ n ≤ 18446744073709551615 := by simpa [Lit.wf, IntKind.min, IntKind.max, IntKind.signed, IntKind.bits] using wn
  have ht : -9223372036854775808 ≤ t ∧ t ≤ 9223372036854775807 := by simpa [Lit.wf, IntKind.min, IntKind.max, IntKind.signed, IntKind.bits] using wt
  obtain ⟨n, rfl⟩ := Int.eq_ofNat_of_zero_le hn1.1
  have hn : n < top64 := by unfold top64; omega
  obtain ⟨l, rfl⟩ : ∃ l, s0 = str l := ⟨s0.data.toList, (str_of s0).symm⟩
  have hz : (str l).size = l.length := str_size _
  have hl47 : l.length ≤ 140737488351232 := by omega
  have hl : l.length ≤ 1152921504606846976 := by omega
  have hlm : l.length ≤ maxLen := by unfold maxLen; omega
  obtain ⟨ht0, ht1⟩ := ht
  have hnl := num_len n
  have hnp := num_pos n
  have htl : (text l).length ≤ 10 + l.length := by have := num_len l.length; unfold text; rw [List.length_append]; omega
  have hBl : (num n ++ text l).length = (num n).length + (text l).length := List.length_append
  obtain ⟨u, m, hu, hmod, hmlt⟩ := cut_place t (num n ++ text l).length (by omega)
  obtain ⟨p, q, hp, hpl, hq, t2, hrt⟩ := cuts_plain n hn l hl m hmlt ((num n ++ text l).take m) rfl
  have hRl : ((num n ++ text l).take m).length = m := by rw [List.length_take]; omega
  have hex : (str (num n ++ text l)).extract 0 m = str ((num n ++ text l).take m) := by rw [extract_str, str_data, List.drop_zero, Nat.sub_zero]
  have happ : str (num n) ++ str (text l) = str (num n ++ text l) := str_append _ _
  have hs1 : (str (num n)).size = (num n).length := str_size _
  have hs2 : (str (text l)).size = (text l).length := str_size _
  have hs3 : (str (num n ++ text l)).size = (num n ++ text l).length := str_size _
  have hBl1 : (num n ++ text l).length ≤ 20 + l.length := by omega
  have hBl2 : 0 < (num n ++ text l).length := by omega
  have hmod2 : (u : Int) % (((num n ++ text l).length : Nat) : Int) = (m : Int) := hmod
  have hem : (str []).toList.isEmpty = true := by rw [ByteArray.toList_eq]; rfl
  have H1 := hid hp
  have H2 := hid hq
  have H3 := hid hrt
  have H4 := hid hRl
  clear hBl hp hq hrt hRl wn wt _hs0 hl0 hn1
  generalize (num n ++ text l).take m = R at *
  generalize (num n ++ text l) = B at *
  go_enter Try.func5, Try.ntmps5
  go_wp2_with fail
  refine (packAlive_any _).mono ?_
  rintro e w1 ⟨rfl, hb1⟩
  go_wp2_with fail
  refine (num_any n hn _).mono ?_
  rintro e w2 ⟨rfl, hb2⟩
  have hB2 := hb1.trans (hb2.mono hb1.size)
  go_wp2_with fail
  refine (text_any l hl _).mono ?_
  rintro e w3 ⟨rfl, hb3⟩
  have hB3 := hB2.trans (hb3.mono hB2.size)
  clear hb1 hb2 hb3 hB2
  go_wp2_with fail
  refine (open_any R _).mono ?_
  rintro e w4 ⟨rfl, hr4, hb4⟩
  have hB4 := hB3.trans (hb4.mono hB3.size)
  have hb := hB3.size
  generalize w3.heap.size = b at *
  clear hb4 hB3
  go_wp2_with fail
  refine (rnum_any R 0 0 b _ hr4 (Nat.zero_le _) (by rw [H4.out]; omega) p H1.out).mono ?_
  rintro e w5 ⟨rfl, hr5, hb5⟩
  have hB5 := hB4.trans (hb5.mono hb)
  go_wp2_with fail
  have hT := rtext_any R p.2.2.1 p.2.2.2 l.length b w5 hr5 hpl (by rw [H4.out]; omega) hlm q H2.out
  rw [H3.out] at hT
  refine hT.mono ?_
  rintro e w6 ⟨rfl, hr6, hb6⟩
  have hB6 := hB5.trans (hb6.mono hb)
  simp only at hr6
  clear hr4 hr5 hB4 hB5 hb5 hb6
  go_wp2_with fail
  refine (fault_any R t2 3 b _ hr6).mono ?_
  rintro e w7 ⟨rfl, hb7⟩
  have hr7 := hr6.below hb7
  have hB7 := hB6.trans (hb7.mono hB6.size)
  go_wp2_with fail
  refine (end_any R t2 3 b _ hr7).mono ?_
  rintro e w8 ⟨rfl, hr8, hb8⟩
  have hB8 := hB7.trans (hb8.mono hb)
  go_wp2_with fail
  go_ret
  exact ⟨rfl, hB8⟩
end Go.Proofs.Ytkbnjckdkcfndaa
