/-
  The walk of the law PackBack.
-/
import Derived.Test.YtkbnjckdkcfndaaPackWritesW
import Derived.Deep.RegionWith
namespace Go.Proofs.Ytkbnjckdkcfndaa
open Go.RowKit

/-- the bytes that PackBack reads -/
def backB (n : Nat) (l : Bytes) (ns : List Nat) (r : Bytes) : Bytes := num n ++ text l ++ nums ns ++ r
theorem bnd_good (room : Bool) (s : Bytes) (t m n : Nat) (r : Bytes) (hd : s.drop t = num n ++ r) (hn : n < top64) (hm : n ≤ m) (hr : n ≤ r.length ∨ room = false) : bnd room s t 0 m = (n, (num n).length, t + (num n).length, 0) := by
  have hlen := congrArg List.length hd
  rw [List.length_drop, List.length_append] at hlen
  unfold bnd
  rw [if_neg (by simp), hd, scan0_num n hn]
  simp only
  rw [if_neg (by simp), if_neg (by omega)]
  have : ¬ ((room && decide (s.length - t - (num n).length < n)) = true) := by
    intro c
    simp only [Bool.and_eq_true, decide_eq_true_eq] at c
    rcases hr with h | h
    · omega
    · rw [h] at c; simp at c
  rw [if_neg this]
/-- where the numbers begin -/
def backAt (n : Nat) (l : Bytes) (ns : List Nat) : Nat := (num n).length + (text l).length + (num ns.length).length
/-- where the k-th number stands -/
def backK (n : Nat) (l : Bytes) (ns : List Nat) (k : Nat) : Nat := backAt n l ns + ((ns.take k).map num).flatten.length
theorem back_split (n : Nat) (l : Bytes) (ns : List Nat) (r : Bytes) (k : Nat) : backB n l ns r = (num n ++ text l ++ num ns.length ++ ((ns.take k).map num).flatten) ++ (((ns.drop k).map num).flatten ++ r) := by
  unfold backB nums
  have : (ns.map num).flatten = ((ns.take k).map num).flatten ++ ((ns.drop k).map num).flatten := by rw [← List.flatten_append, ← List.map_append, List.take_append_drop]
  rw [this]
  simp only [List.append_assoc]
theorem back_drop (n : Nat) (l : Bytes) (ns : List Nat) (r : Bytes) (k : Nat) : (backB n l ns r).drop (backK n l ns k) = ((ns.drop k).map num).flatten ++ r := by
  rw [back_split n l ns r k]
  unfold backK backAt
  rw [List.drop_append_of_le_length (by simp only [List.length_append]; omega)]
  rw [List.drop_of_length_le (by simp only [List.length_append]; omega), List.nil_append]
theorem back_len (n : Nat) (l : Bytes) (ns : List Nat) (r : Bytes) (k : Nat) : backK n l ns k ≤ (backB n l ns r).length := by
  rw [back_split n l ns r k]
  unfold backK backAt
  simp only [List.length_append]
  omega
theorem back_end (n : Nat) (l : Bytes) (ns : List Nat) (r : Bytes) : (backB n l ns r).length - backK n l ns ns.length = r.length := by
  rw [back_split n l ns r ns.length]
  unfold backK backAt
  simp only [List.length_append, List.drop_length, List.map_nil, List.flatten_nil, List.length_nil]
  omega
theorem back_succ (n : Nat) (l : Bytes) (ns : List Nat) (k : Nat) (h : k < ns.length) : backK n l ns (k + 1) = backK n l ns k + (num ns[k]).length := by
  unfold backK
  rw [List.take_succ_eq_append_getElem h, flat_snoc, List.length_append]
  omega
/-- the reads -/
theorem back_num (n : Nat) (hn : n < top64) (l : Bytes) (ns : List Nat) (r : Bytes) : bnd false (backB n l ns r) 0 0 18446744073709551615 = (n, (num n).length, (num n).length, 0) := by
  have h := bnd_good false (backB n l ns r) 0 18446744073709551615 n (text l ++ (nums ns ++ r)) (by unfold backB; rw [List.drop_zero]; simp only [List.append_assoc]) hn (by unfold top64 at hn; omega) (.inr rfl)
  rwa [Nat.zero_add] at h
theorem back_text (n : Nat) (l : Bytes) (hl : l.length < top64) (ns : List Nat) (r : Bytes) : rtext (backB n l ns r) (bnd true (backB n l ns r) (num n).length 0 l.length) = (l, (num n).length + (text l).length, 0) := by
  have hd : (backB n l ns r).drop (num n).length = num l.length ++ (l ++ (nums ns ++ r)) := by
    have e : backB n l ns r = num n ++ (num l.length ++ (l ++ (nums ns ++ r))) := by unfold backB text; simp only [List.append_assoc]
    rw [e, List.drop_left]
  rw [bnd_good true _ _ _ _ _ hd hl (Nat.le_refl _) (.inl (by simp))]
  unfold rtext
  have hp := num_pos l.length
  rw [if_neg (by simp only; omega)]
  simp only
  have hd2 : (backB n l ns r).drop ((num n).length + (num l.length).length) = l ++ (nums ns ++ r) := by rw [← List.drop_drop, hd, List.drop_left]
  rw [hd2, List.take_left]
  unfold text
  rw [List.length_append, Nat.add_assoc]
theorem back_count (n : Nat) (l : Bytes) (ns : List Nat) (hns : ns.length < top64) (r : Bytes) : bnd false (backB n l ns r) ((num n).length + (text l).length) 0 ns.length = (ns.length, (num ns.length).length, backK n l ns 0, 0) := by
  have hd : (backB n l ns r).drop ((num n).length + (text l).length) = num ns.length ++ ((ns.map num).flatten ++ r) := by
    have e : backB n l ns r = (num n ++ text l) ++ (num ns.length ++ ((ns.map num).flatten ++ r)) := by unfold backB nums; simp only [List.append_assoc]
    rw [e, ← List.length_append, List.drop_left]
  rw [bnd_good false _ _ _ _ _ hd hns (Nat.le_refl _) (.inr rfl)]
  rfl
theorem back_each (n : Nat) (l : Bytes) (ns : List Nat) (hm : ∀ x ∈ ns, x < top64) (r : Bytes) (k : Nat) (h : k < ns.length) : bnd false (backB n l ns r) (backK n l ns k) 0 18446744073709551615 = (ns[k], (num ns[k]).length, backK n l ns (k + 1), 0) := by
  have hx := hm _ (List.getElem_mem h)
  have hd : (backB n l ns r).drop (backK n l ns k) = num ns[k] ++ (((ns.drop (k + 1)).map num).flatten ++ r) := by
    rw [back_drop, List.drop_eq_getElem_cons h, List.map_cons, List.flatten_cons, List.append_assoc]
  rw [bnd_good false _ _ _ _ _ hd hx (by unfold top64 at hx; omega) (.inr rfl), back_succ n l ns k h]

set_option maxHeartbeats 2000000 in
theorem packBack_walk (n : Int) (wn : (Lit.int .u64 n).wf = true) (s0 : ByteArray) (_hs0 : s0.size ≤ maxLen) (hl0 : s0.size ≤ 140737488351232) (zs : List Int) (v : Value) (r0 : ByteArray) (_hr0 : r0.size ≤ maxLen) (hl1 : r0.size ≤ 140737488351232) (w : World) (hv : HoldsInts .u64 w v zs) (hr : zs.length * 8 ≤ 140737488355328) (hm : ∀ n ∈ zs, (Lit.int .u64 n).wf = true) :
    Calls Try.prog 6 #[.int .u64 n, .string s0, v, .string r0] w fun e W' => e = .returned (.bool true) ∧ Below w.heap.size w W' := by
  obtain ⟨hn0, hn1⟩ := wf_u64 wn
  obtain ⟨n, rfl⟩ := Int.eq_ofNat_of_zero_le hn0
  have hn : n < top64 := by unfold top64; omega
  obtain ⟨l, rfl⟩ : ∃ l, s0 = str l := ⟨s0.data.toList, (str_of s0).symm⟩
  obtain ⟨r, rfl⟩ : ∃ l, r0 = str l := ⟨r0.data.toList, (str_of r0).symm⟩
  have hz1 : (str l).size = l.length := str_size _
  have hz2 : (str r).size = r.length := str_size _
  have hl47 : l.length ≤ 140737488351232 := by omega
  have hl : l.length ≤ 1152921504606846976 := by omega
  have hlm : l.length ≤ maxLen := by unfold maxLen; omega
  have hr47 : r.length ≤ 140737488351232 := by omega
  have hvn := holdsInts_nums hv hr hm
  generalize nats zs = ns at hvn
  obtain ⟨a, ca, rfl, hnr, hm64, hcell⟩ := hvn
  have hvn : HoldsNums w (.slice a ns.length ca) ns := ⟨a, ca, rfl, hnr, hm64, hcell⟩
  clear hv hr hm wn hn0 hn1 _hs0 hl0 _hr0 hl1
  have hnl := num_len n
  have htl : (text l).length ≤ 10 + l.length := by have := num_len l.length; unfold text; rw [List.length_append]; omega
  have hnsl : (nums ns).length ≤ 10 + 10 * ns.length := by have := numsK_len ns ns.length; rwa [numsK_all ns _ (Nat.le_refl _)] at this
  have hBl : (backB n l ns r).length ≤ 1152921504606846976 := by unfold backB; simp only [List.length_append]; omega
  have hBm : (backB n l ns r).length ≤ maxLen := by unfold maxLen; omega
  have happ : str (num n) ++ str (text l) ++ str (nums ns) ++ str r = str (backB n l ns r) := by rw [str_append, str_append, str_append]; rfl
  have hs1 : (str (num n)).size = (num n).length := str_size _
  have hs2 : (str (text l)).size = (text l).length := str_size _
  have hs3 : (str (nums ns)).size = (nums ns).length := str_size _
  have P1 := hid (back_num n hn l ns r).symm
  have P2 := hid (back_text n l (by unfold top64; omega) ns r)
  have P3 := hid (back_count n l ns (by unfold top64; omega) r).symm
  have P4 := hid (back_each n l ns hm64 r)
  have P5 := hid (back_end n l ns r)
  have P6 := hid (back_len n l ns r)
  have hta : (num n).length ≤ (backB n l ns r).length := by unfold backB; simp only [List.length_append]; omega
  have htb : (num n).length + (text l).length ≤ (backB n l ns r).length := by unfold backB; simp only [List.length_append]; omega
  have HC := hid hcell
  clear hcell
  generalize backB n l ns r = B at *
  generalize backK n l ns = K at *
  go_enter Try.func6, Try.ntmps6
  go_wp2_with fail
  refine (packAlive_any _).mono ?_
  rintro e w1 ⟨rfl, hb1⟩
  go_wp2_with fail
  refine (num_any n hn _).mono ?_
  rintro e w2 ⟨rfl, hb2⟩
  have hB2 := hb1.trans (hb2.mono hb1.size)
  go_wp2_with fail
  refine (text_any l hl _).mono ?_
  rintro e w3 ⟨rfl, hb3⟩
  have hB3 := hB2.trans (hb3.mono hB2.size)
  go_wp2_with fail
  refine (nums_any ns _ _ (holdsNums_below hvn hB3)).mono ?_
  rintro e w4 ⟨rfl, hb4⟩
  have hB4 := hB3.trans (hb4.mono hB3.size)
  clear hb1 hb2 hb3 hB2 hb4 hB3
  go_wp2_with fail
  refine (open_any B _).mono ?_
  rintro e w5 ⟨rfl, hr5, hb5⟩
  have hB5 := hB4.trans (hb5.mono hB4.size)
  have hb := hB4.size
  generalize w4.heap.size = b at *
  clear hb5 hB4
  go_wp2_with fail
  refine (rnum_any B 0 0 b _ hr5 (Nat.zero_le _) hBl _ P1.out).mono ?_
  rintro e w6 ⟨rfl, hr6, hb6⟩
  have hB6 := hB5.trans (hb6.mono hb)
  simp only at hr6
  clear hr5 hb6 hB5
  go_wp2_with fail
  have hT := rtext_any B (num n).length 0 l.length b w6 hr6 hta hBl hlm _ rfl
  rw [P2.out] at hT
  refine hT.mono ?_
  rintro e w7 ⟨rfl, hr7, hb7⟩
  have hB7 := hB6.trans (hb7.mono hb)
  simp only at hr7
  clear hr6 hb7 hB6 hT
  go_wp2_with fail
  refine (count_any B _ 0 ns.length b _ hr7 htb hBl (by unfold maxLen; omega) _ P3.out).mono ?_
  rintro e w8 ⟨rfl, hr8, hb8⟩
  have hB8 := hB7.trans (hb8.mono hb)
  simp only at hr8
  clear hr7 hb8 hB7
  go_wp2_with fail
  go_loopw [10] (fun vi wr => ∃ k : Nat, vi = .int .i64 (k : Int) ∧ k ≤ ns.length ∧ RD wr b B (K k) 0 ∧ Below w.heap.size w wr) (fun i _ => ns.length - (intOf i).toNat)
  case atStart => exact ⟨0, rfl, Nat.zero_le _, hr8, hB8⟩
  case round =>
    obtain ⟨k, rfl, hk, hr, hB⟩ := hrel
    have hbm : w.heap.size ≤ b := hb
    by_cases hlt : k < ns.length
    · obtain ⟨bb, off, rfl, hcell⟩ := HC.out (by omega)
      have hbb := World.block_lt_of_cell? _ _ (hcell k hlt)
      have hcx := (hB.cell (p := ⟨bb, off + k, none⟩) hbb).trans (hcell k hlt)
      have HCC : ∀ {W w2 : World}, W.cell? ⟨bb, off + k, none⟩ = some (.int .u64 (ns[k] : Int)) → Below b W w2 → w2.cell? ⟨bb, off + k, none⟩ = some (.int .u64 (ns[k] : Int)) := fun h hb2 => (hb2.cell (p := ⟨bb, off + k, none⟩) (Nat.lt_of_lt_of_le hbb hbm)).trans h
      have hN := fun W (h : RD W b B (K k) 0) => rnum_any B (K k) 0 b W h (P6.out k) hBl _ (P4.out k hlt).symm
      simp only at hN
      have HNN := hid hN
      have HR := hid hr
      clear hcell hN hr
      generalize ns[k] = x at *
      go_wp2_with fail
      go_region_with (go_at_call 17; refine Calls.mono (HNN.out _ (by exact HR.out)) ?_; rintro e w9 ⟨rfl, hr9, hb9⟩; have hcy := HCC (by exact hcx) hb9)
      all_goals (go_wp2_with fail)
      all_goals (exact ⟨⟨k + 1, by go_num, by omega, hr9, by first | exact hB.drew.trans (hb9.mono hbm) | exact (hB.trans (hb9.mono hbm)).drew | exact hB.trans (hb9.mono hbm)⟩, by simp [intOf]; omega⟩)
    · obtain rfl : k = ns.length := by omega
      have hF := fun W h => fault_any B (K ns.length) 0 b W h
      rw [if_pos rfl] at hF
      have hL := fun W h => left_any B (K ns.length) 0 b W h (P6.out _) hBm
      rw [P5.out] at hL
      have hk6 := P6.out ns.length
      have hk5 := P5.out
      clear HC hvn
      by_cases hre : r.length = 0
      · obtain rfl : r = [] := List.length_eq_zero_iff.1 hre
        have hem : (str []).toList.isEmpty = true := by rw [ByteArray.toList_eq]; rfl
        have hE := fun W h => end_any B (K ns.length) 0 b W h
        rw [if_neg (fun c => by have := c.2; omega)] at hE
        clear hk6 hk5
        go_wp2_with fail
        refine (hF _ hr).mono ?_
        rintro e w9 ⟨rfl, hb9⟩
        have hr9 := hr.below hb9
        have hB9 := hB.trans (hb9.mono hB.size)
        clear hr hB hb9
        go_wp2_with fail
        refine (hL _ hr9).mono ?_
        rintro e w10 ⟨rfl, hb10⟩
        have hr10 := hr9.below hb10
        have hB10 := hB9.trans (hb10.mono hB9.size)
        clear hr9 hB9 hb10
        go_wp2_with fail
        refine (hE _ hr10).mono ?_
        rintro e w11 ⟨rfl, hr11, hb11⟩
        have hB11 := hB10.trans (hb11.mono hbm)
        go_wp2_with fail
        go_ret
        exact ⟨rfl, hB11⟩
      · have hem : (str r).toList.isEmpty = false := by
          rw [ByteArray.toList_eq]
          cases r with
          | nil => exact absurd rfl hre
          | cons x y => rfl
        have hE := fun W h => end_any B (K ns.length) 0 b W h
        rw [if_pos ⟨rfl, by omega⟩] at hE
        clear hk6 hk5
        go_wp2_with fail
        refine (hF _ hr).mono ?_
        rintro e w9 ⟨rfl, hb9⟩
        have hr9 := hr.below hb9
        have hB9 := hB.trans (hb9.mono hB.size)
        clear hr hB hb9
        go_wp2_with fail
        refine (hL _ hr9).mono ?_
        rintro e w10 ⟨rfl, hb10⟩
        have hr10 := hr9.below hb10
        have hB10 := hB9.trans (hb10.mono hB9.size)
        clear hr9 hB9 hb10
        go_wp2_with fail
        refine (hE _ hr10).mono ?_
        rintro e w11 ⟨rfl, hr11, hb11⟩
        have hB11 := hB10.trans (hb11.mono hbm)
        go_wp2_with fail
        go_ret
        exact ⟨rfl, hB11⟩
end Go.Proofs.Ytkbnjckdkcfndaa
