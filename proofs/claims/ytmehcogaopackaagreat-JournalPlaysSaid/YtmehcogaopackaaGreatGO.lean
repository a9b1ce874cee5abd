/-
  The walks of the reference's All and Same. (Several texts in one.)
-/
import Derived.Test.YtmehcogaopackaaGreatGF
/- The walk of the reference's Cut: it answers 'cutOf' too. -/
namespace Go.Proofs.YtmehcogaopackaaGreat
open Go.RowKit

/-- the number behind k bytes -/
def pnum (l : Bytes) (k : Nat) : Nat := (l.take k).foldl (fun n b => 256 * n + b.toNat) 0
theorem pnum_succ (s : ByteArray) (k : Nat) (h : k < s.size) : pnum s.data.toList (k + 1) = 256 * pnum s.data.toList k + s[k].toNat := by
  have : s.data.toList.take (k + 1) = s.data.toList.take k ++ [s[k]] := by
    rw [List.take_succ_eq_append_getElem (by simpa using h)]; rfl
  unfold pnum
  rw [this, List.foldl_append]; rfl
theorem pnum_four (s : ByteArray) (h : 4 ≤ s.size) : pnum s.data.toList 4 = num4 s.data.toList := by
  have h0 : pnum s.data.toList 0 = 0 := rfl
  rw [← num4_of s h, pnum_succ s 3 (by omega), pnum_succ s 2 (by omega), pnum_succ s 1 (by omega), pnum_succ s 0 (by omega), h0]
  omega
theorem pnum_lt (s : ByteArray) (h : 4 ≤ s.size) : ∀ k, k ≤ 4 → pnum s.data.toList k < 4294967296 := by
  have h0 : pnum s.data.toList 0 = 0 := rfl
  have h1 := pnum_succ s 0 (by omega)
  have h2 := pnum_succ s 1 (by omega)
  have h3 := pnum_succ s 2 (by omega)
  have h4 := pnum_succ s 3 (by omega)
  have b0 := s[0].toNat_lt
  have b1 := s[1].toNat_lt
  have b2 := s[2].toNat_lt
  have b3 := s[3].toNat_lt
  simp only [Nat.zero_add, Nat.reduceAdd] at h1 h2 h3 h4
  intro k hk
  match k, hk with
  | 0, _ => omega
  | 1, _ => omega
  | 2, _ => omega
  | 3, _ => omega
  | 4, _ => omega
theorem cut_body_beq (s : ByteArray) (x : Bytes) : ((str x).toList == (s.extract 4 8).toList) = (x == (s.data.toList.drop 4).take 4) := by
  rw [extract_str, str_beq]

theorem four_nat (n : Nat) (w : World) (h : n ≤ 4294967295) :
    Calls Tryz.prog 129 #[.int .u32 n] w fun e w' => e = .returned (.string (str (four n))) ∧ Below w.heap.size w w' :=
  four_any n w (by omega) (by omega)
set_option maxHeartbeats 1000000 in
theorem refCut_any (s : ByteArray) (w : World) (hs : s.size ≤ maxLen) :
    Calls Tryz.prog 119 #[.string s] w fun e w' =>
      e = .returned (.tuple #[.string (str (cutOf s.data.toList).1), .int .i64 (cutOf s.data.toList).2.1, .int .i64 (cutOf s.data.toList).2.2]) ∧ Below w.heap.size w w' := by
  unfold maxLen at hs
  by_cases h8 : s.size < 8
  · have HF := hid (cutOf_few (l := s.data.toList) (by rw [len_of]; omega))
    go_enter Tryz.func119, Tryz.ntmps119
    go_wp2_with fail
    go_ret3
    rw [HF.out]
    exact ⟨rfl, Below.refl _ _⟩
  have h4 : 4 ≤ s.size := by omega
  have HP := hid (pnum_lt s h4)
  have HN := hid (pnum_four s h4)
  have HS := hid (pnum_succ s)
  go_enter Tryz.func119, Tryz.ntmps119
  go_wp2_with fail
  go_loop [5, 6] (fun n i => ∃ k : Nat, k ≤ 4 ∧ i = .int .i64 k ∧ n = .int .i64 (pnum s.data.toList k : Nat)) (fun _ i => 4 - (intOf i).toNat)
  case atStart => exact ⟨0, by omega, rfl, rfl⟩
  case round =>
    obtain ⟨k, hk, rfl, rfl⟩ := hrel
    by_cases hlt : k < 4
    · have hks : k < s.size := by omega
      have hb := s[k].toNat_lt
      have hp := HP.out k hk
      have HS' := hid (HS.out k hks)
      generalize pnum s.data.toList k = n at *
      go_wp2_with fail
      go_round
      case rel => exact ⟨k + 1, by omega, by go_num, num_i64 (by rw [HS'.out]; omega)⟩
      case measure => simp [intOf]; omega
    · obtain rfl : k = 4 := by omega
      rw [HN.out]
      clear hlt hk
      by_cases hbig : 65536 < num4 s.data.toList
      · have HF := hid (cutOf_long (l := s.data.toList) (by rw [len_of]; omega) hbig)
        generalize num4 s.data.toList = n at hbig
        go_wp2_with fail
        go_ret3
        rw [HF.out]
        exact ⟨rfl, Below.refl _ _⟩
      by_cases hend : s.size < 8 + num4 s.data.toList
      · have HF := hid (cutOf_short (l := s.data.toList) (by rw [len_of]; omega) hbig (by rw [len_of]; omega))
        generalize num4 s.data.toList = n at hbig hend
        go_wp2_with fail
        go_ret3
        rw [HF.out]
        exact ⟨rfl, Below.refl _ _⟩
      have hc := crc_le ((s.data.toList.drop 8).take (num4 s.data.toList))
      have HX := hid (cut_body_beq s)
      by_cases hq : four (crc ((s.data.toList.drop 8).take (num4 s.data.toList))) = (s.data.toList.drop 4).take 4
      · have HF := hid (cutOf_ok (l := s.data.toList) (by rw [len_of]; omega) hbig (by rw [len_of]; omega) hq)
        generalize num4 s.data.toList = n at *
        go_wp2_with fail
        have hq' : ((str (four (crc (List.take n (List.drop 8 s.data.toList))))).toList == (s.extract 4 8).toList) = true := by rw [HX.out, beq_iff_eq]; exact hq
        have he : (s.extract 8 (8 + n)).data.toList = List.take n (List.drop 8 s.data.toList) := by rw [Lib.extract_data, Nat.add_sub_cancel_left]
        have HE := hid he
        clear hq he
        have h48 : (8 : Int) ≤ (s.size : Int) := by omega
        have h48' : 8 ≤ s.size := by omega
        refine wp_region_below (by kernel_rfl) (by kernel_rfl) ?_
        repeat (go_big_quiet_step ((intro hC; first | (go_at_call 130; refine (refSum_any _ _ (by rw [ByteArray.size_extract]; unfold maxLen; omega)).mono ?_; rintro e w2 ⟨rfl, rfl⟩; rw [HE.out]; exact ⟨rfl, hC⟩) | (go_at_call 129; refine (four_nat _ _ (by omega)).mono ?_; rintro e w2 ⟨rfl, hb2⟩; exact ⟨rfl, hC.trans (hb2.mono hC.size)⟩) | rfl)))
        refine wpQuiet_nil ?_
        intro w1 hw1
        go_wp2_with fail
        go_ret3
        rw [HF.out, cast8]
        have hx : s.extract 8 (8 + n) = str (List.take n (List.drop 8 s.data.toList)) := by rw [extract_str, Nat.add_sub_cancel_left]
        rw [← hx]
        exact ⟨rfl, hw1⟩
      · have HF := hid (cutOf_sum (l := s.data.toList) (by rw [len_of]; omega) hbig (by rw [len_of]; omega) hq)
        generalize num4 s.data.toList = n at *
        go_wp2_with fail
        have hq' : ((str (four (crc (List.take n (List.drop 8 s.data.toList))))).toList == (s.extract 4 8).toList) = false := by rw [HX.out, beq_eq_false_iff_ne]; exact hq
        have he : (s.extract 8 (8 + n)).data.toList = List.take n (List.drop 8 s.data.toList) := by rw [Lib.extract_data, Nat.add_sub_cancel_left]
        have HE := hid he
        clear hq he
        have h48 : (8 : Int) ≤ (s.size : Int) := by omega
        have h48' : 8 ≤ s.size := by omega
        refine wp_region_below (by kernel_rfl) (by kernel_rfl) ?_
        repeat (go_big_quiet_step ((intro hC; first | (go_at_call 130; refine (refSum_any _ _ (by rw [ByteArray.size_extract]; unfold maxLen; omega)).mono ?_; rintro e w2 ⟨rfl, rfl⟩; rw [HE.out]; exact ⟨rfl, hC⟩) | (go_at_call 129; refine (four_nat _ _ (by omega)).mono ?_; rintro e w2 ⟨rfl, hb2⟩; exact ⟨rfl, hC.trans (hb2.mono hC.size)⟩) | rfl)))
        refine wpQuiet_nil ?_
        intro w1 hw1
        go_wp2_with fail
        go_ret3
        rw [HF.out]
        exact ⟨rfl, hw1⟩
end Go.Proofs.YtmehcogaopackaaGreat
/- The walks of the reference's All and Same. -/
namespace Go.Proofs.YtmehcogaopackaaGreat
open Go.RowKit

theorem infoInt : (Tryz.prog.info? 3).map (fun i => (i.zero, i.size, i.bytes)) = some (some (.int .i64 0), 1, 8) := by kernel_rfl
/-- two owned rows of unlike elements are two blocks -/
theorem ownsRow_apart {w : World} {b b' : Nat} {e e' : TypeId} {z z' : Nat} {v v' : Value} {n n' : Nat} {xs ys : List Value} (h : w.ownsRow b e z v n xs) (h' : w.ownsRow b' e' z' v' n' ys) (hne : e ≠ e') : v.ownBlock = none ∨ v.ownBlock ≠ v'.ownBlock := by
  rcases h.2 with ⟨rfl, _⟩ | ⟨g, cap, cur, rfl, _, hg, _⟩
  · exact .inl rfl
  · refine .inr ?_
    rcases h'.2 with ⟨rfl, _⟩ | ⟨g', cap', cur', rfl, _, hg', _⟩
    · simp [Value.ownBlock]
    · intro e0
      obtain rfl : g = g' := by simpa [Value.ownBlock] using e0
      rw [hg] at hg'
      simp at hg'
      exact hne hg'.2
theorem refCut_at (s : ByteArray) (hs : s.size ≤ maxLen) (p : Nat) (w : World) : Calls Tryz.prog 119 #[.string (s.extract p s.size)] w fun e w' =>
    e = .returned (.tuple #[.string (str (cutOf (s.data.toList.drop p)).1), .int .i64 (cutOf (s.data.toList.drop p)).2.1, .int .i64 (cutOf (s.data.toList.drop p)).2.2]) ∧ Below w.heap.size w w' := by
  have hx : (s.extract p s.size).data.toList = s.data.toList.drop p := by
    rw [Lib.extract_data, List.take_of_length_le (by rw [List.length_drop, len_of]; omega)]
  have h := refCut_any (s.extract p s.size) w (by rw [ByteArray.size_extract]; unfold maxLen at *; omega)
  rw [hx] at h
  exact h
theorem ownsRow_below {w w' : World} {b : Nat} {e : TypeId} {z : Nat} {v : Value} {n : Nat} {xs : List Value} (h : w.ownsRow b e z v n xs) (hb : Below w.heap.size w w') : w'.ownsRow b e z v n xs :=
  h.kept (below_grown hb) (by cases hv0 : v.ownBlock <;> simp)
abbrev places (fs : List (Nat × Bytes)) : List Value := fs.map fun x => Value.int .i64 x.1

set_option maxHeartbeats 4000000 in
theorem refAll_any (s : ByteArray) (hs : s.size ≤ maxLen) (hN : (scan s.data.toList 0).1.length * 16 ≤ 140737488355328) (w : World) :
    Calls Tryz.prog 95 #[.string s] w fun e W' => ∃ v v2, e = .returned (.tuple #[v, v2, .int .i64 (allOf s.data.toList).2.1, .int .i64 (allOf s.data.toList).2.2]) ∧
      W'.ownsRow w.heap.size 9 1 v (scan s.data.toList 0).1.length (strs (scan s.data.toList 0).1) ∧
      W'.ownsRow w.heap.size 3 1 v2 (scan s.data.toList 0).1.length (places (scan s.data.toList 0).1) ∧ Below w.heap.size w W' := by
  have hs' := hs
  unfold maxLen at hs
  obtain ⟨i0, hi, hz0, hz1, hz2⟩ := info_parts infoString
  obtain ⟨i1, hj, hy0, hy1, hy2⟩ := info_parts infoInt
  go_enter Tryz.func95, Tryz.ntmps95
  go_wp2_with fail
  go_loopw [6, 7, 8] (fun v v2 p wr => ∃ (pre : List (Nat × Bytes)) (k : Nat), p = .int .i64 k ∧ k ≤ s.size ∧ Hid ((scan s.data.toList 0).1 = pre ++ (scan s.data.toList k).1 ∧ (scan s.data.toList 0).2 = (scan s.data.toList k).2) ∧
      wr.ownsRow w.heap.size 9 1 v pre.length (strs pre) ∧ wr.ownsRow w.heap.size 3 1 v2 pre.length (places pre) ∧ Below w.heap.size w wr) (fun _ _ p _ => s.size - (intOf p).toNat)
  case atStart => exact ⟨[], 0, rfl, Nat.zero_le _, ⟨rfl, rfl⟩, World.ownsRow_nil _ _ _ _, World.ownsRow_nil _ _ _ _, Below.refl _ _⟩
  case round =>
    obtain ⟨pre, k, rfl, hk, HX, ho, ha, hB⟩ := hrel
    by_cases hlt : k < s.size
    · by_cases hc : (cutOf (s.data.toList.drop k)).2.2 = 0
      · have hn1 : 8 ≤ (cutOf (s.data.toList.drop k)).2.1 := by have := (cutOf_fine hc).1; omega
        have hn2 : k + (cutOf (s.data.toList.drop k)).2.1 ≤ s.size := by have := (cutOf_fine hc).2.1; rw [List.length_drop, len_of] at this; omega
        have HG := hid (scan_go (l := s.data.toList) (p := k) (by rw [len_of]; exact hlt) hc)
        have hlen : pre.length < (scan s.data.toList 0).1.length := by rw [HX.out.1, HG.out]; simp
        have hlt2 : (pre.length + 1) * 16 ≤ 140737488355328 := by omega
        have hlt3 : pre.length + 1 ≤ maxLen := by unfold maxLen; omega
        go_wp2_with fail
        refine (refCut_at s hs' k _).mono ?_
        rintro e w2 ⟨rfl, hb2⟩
        have ho2 := ownsRow_below ho hb2
        have ha2 := ownsRow_below ha hb2
        have hB2 := hB.trans (hb2.mono hB.size)
        have hBs := hB2.size
        clear ho ha
        go_wp2_with (first | (at_builtin; refine wpList_append_own _ rfl _ _ 100 rfl w.heap.size 9 i0 (.string { data := #[] }) 1 16 Tryz.underlying100 hi hz0 hz1 hz2 rfl (by decide) _ _ _ rfl (ho2.alloc _) ⟨w2.heap.size, 0, none⟩ 1 1 [.string (str (cutOf (s.data.toList.drop k)).1)] rfl rfl (cell_one_new _ _ _) (by simp [Value.oneCell']) (by omega) (by omega) (by simp; omega) ?_; intro v' w3 ho3 hgrow _; have ha3 := (ha2.alloc (.cells #[.string (str (cutOf (s.data.toList.drop k)).1)] 9)).kept hgrow (ownsRow_apart ha2 ho2 (by decide)); have hB3 := (hB2.alloc hBs (.cells #[.string (str (cutOf (s.data.toList.drop k)).1)] 9)).grown hgrow (by simp; omega) (fun j ej => (ho2.lt j ej).1); have hBs3 := hB3.size; clear ho2 ha2 hgrow) | (at_builtin; refine wpList_append_own _ rfl _ _ 46 rfl w.heap.size 3 i1 (.int .i64 0) 1 8 Tryz.underlying46 hj hy0 hy1 hy2 rfl (by decide) _ _ _ rfl (ha3.alloc _) ⟨w3.heap.size, 0, none⟩ 1 1 [.int .i64 (k : Int)] rfl rfl (cell_one_new _ _ _) (by simp [Value.oneCell']) (by omega) (by omega) (by simp; omega) ?_; intro v2' w4 ha4 hgrow _; have ho4 := (ho3.alloc (.cells #[.int .i64 (k : Int)] 3)).kept hgrow (ownsRow_apart ho3 ha3 (by decide)); have hB4 := (hB3.alloc hBs3 (.cells #[.int .i64 (k : Int)] 3)).grown hgrow (by simp; omega) (fun j ej => (ha3.lt j ej).1); clear ho3 ha3 hgrow))
        go_roundw
        case rel => exact ⟨pre ++ [(k, (cutOf (s.data.toList.drop k)).1)], k + (cutOf (s.data.toList.drop k)).2.1, by go_num, hn2, ⟨by rw [HX.out.1, HG.out]; simp, by rw [HX.out.2, HG.out]⟩, by simpa using ho4, by simpa using ha4, hB4⟩
        case measure => simp [intOf]; omega
      · have hz : ((((cutOf (s.data.toList.drop k)).2.2 : Nat) : Int) != 0) = true := by rw [bne_iff_ne]; omega
        have HG := hid (scan_stop (l := s.data.toList) (p := k) (fun c => hc c.2))
        have HA := hid (show (allOf s.data.toList).2.2 = (cutOf (s.data.toList.drop k)).2.2 by
          have h2 := HX.out.2
          rw [HG.out] at h2
          unfold allOf
          rw [h2, len_of]
          exact if_neg (by dsimp only; omega))
        have HE := hid (show (allOf s.data.toList).2.1 = k by have h2 := HX.out.2; rw [HG.out] at h2; exact h2)
        have HP := hid (show (scan s.data.toList 0).1 = pre by have h2 := HX.out.1; rw [HG.out] at h2; simpa using h2)
        clear hc HX
        go_wp2_with fail
        refine (refCut_at s hs' k _).mono ?_
        rintro e w2 ⟨rfl, hb2⟩
        go_wp2_with fail
        refine bodyPost_ret (v := .tuple #[u6, u7, .int .i64 (k : Int), .int .i64 ((cutOf (s.data.toList.drop k)).2.2 : Int)]) (by simp [results, Tryz.results95, go_sem]) rfl ?_
        rw [HA.out, HE.out, HP.out]
        exact ⟨_, _, rfl, ownsRow_below ho hb2, ownsRow_below ha hb2, hB.trans (hb2.mono hB.size)⟩
    · have HG := hid (scan_stop (l := s.data.toList) (p := k) (fun c => hlt (by have := c.1; rw [len_of] at this; exact this)))
      have HA := hid (show (allOf s.data.toList).2.2 = 0 by
        have h2 := HX.out.2
        rw [HG.out] at h2
        unfold allOf
        rw [h2, len_of]
        exact if_pos (by dsimp only; omega))
      have HE := hid (show (allOf s.data.toList).2.1 = k by have h2 := HX.out.2; rw [HG.out] at h2; exact h2)
      have HP := hid (show (scan s.data.toList 0).1 = pre by have h2 := HX.out.1; rw [HG.out] at h2; simpa using h2)
      clear HX
      go_wp2_with fail
      refine bodyPost_ret (v := .tuple #[u6, u7, .int .i64 (k : Int), .int .i64 0]) (by simp [results, Tryz.results95, go_sem]) rfl ?_
      rw [HA.out, HE.out, HP.out]
      exact ⟨_, _, rfl, ho, ha, hB⟩
end Go.Proofs.YtmehcogaopackaaGreat
