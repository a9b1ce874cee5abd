/-
  The walks of seal.Cut and of the reference's Cut: both answer 'cutOf'.
-/
import Derived.Test.YtmehcogaopackaaFrame
import Derived.BigQuiet
import Derived.Deep.QuietTactic
namespace Go.Proofs.Ytmehcogaopackaa
open Go.RowKit

theorem conv_headN {P : Program} (w : World) (N n c : Nat) (hn : n ≤ 65536) (hc : c ≤ 4294967295) (t src e dst : TypeId) (hs : P.underlying src = some (.slice e)) (he : P.underlying e = some (.int .u8)) (hd : P.underlying dst = some .string) :
    (convert src dst (.slice (some ⟨w.heap.size, 0, none⟩) 8 8)).run P ((w.alloc (.cells #[.int .u8 ((n : Int) / 16777216), .int .u8 ((n : Int) / 65536), .int .u8 ((n : Int) / 256 % 256), .int .u8 ((n : Int) % 256), .int .u8 ((c : Int) / 16777216), .int .u8 ((c : Int) / 65536 % 256), .int .u8 ((c : Int) / 256 % 256), .int .u8 ((c : Int) % 256)] t)).drewN N) =
      .ok (.string (str (four n ++ four c))) ((w.alloc (.cells #[.int .u8 ((n : Int) / 16777216), .int .u8 ((n : Int) / 65536), .int .u8 ((n : Int) / 256 % 256), .int .u8 ((n : Int) % 256), .int .u8 ((c : Int) / 16777216), .int .u8 ((c : Int) / 65536 % 256), .int .u8 ((c : Int) / 256 % 256), .int .u8 ((c : Int) % 256)] t)).drewN N) := by
  rw [← head_str n c hn hc]
  exact run_convert_bytes_arg (World.drewN (w.alloc _) N) src e hs he _ 0 8 8 _ rfl (fun i hi => cell_new8 w _ _ _ _ _ _ _ _ t i hi) dst hd

/-- A REGION THAT DRAWS ITS ORDER, whose operations only read what no call writes, and whose callees leave what was there: walked once, in the order of the text; the class: the worlds that keep what lay below. -/
theorem wp_region_below {P : Program} {id : Nat} {Q : Exit → Act → World → Prop} {a : Act} {w : World} {l : List Oper} (hm : P.follows .mixedOrders = true) (hB : Region.lexB .any l.toArray = true)
    (h : wpQuiet P l.toArray (Below w.heap.size w) (fun a' => ∀ w', Below w.heap.size w w' → Q .normal a' w') l a) : (Code.region id l.toArray true).wp P Q a w :=
  wp_region_quiet (C := Below w.heap.size w) hm hB (Below.refl _ _).drew (by simpa using h)
theorem cast8 (n : Nat) : ((8 + n : Nat) : Int) = 8 + (n : Int) := by omega
theorem below_drewN {B : Nat} {a w : World} (h : Below B a w) (n : Nat) : Below B a (w.drewN n) := ⟨h.os, h.tape, h.output, h.size, h.block⟩

set_option maxHeartbeats 1000000 in
theorem cut_any (s : ByteArray) (w : World) (hs : s.size ≤ maxLen) :
    Calls Try.prog 51 #[.string s] w fun e w' =>
      e = .returned (.tuple #[.string (str (cutOf s.data.toList).1), .int .i64 (cutOf s.data.toList).2.1, .int .i64 (cutOf s.data.toList).2.2]) ∧ Below w.heap.size w w' := by
  unfold maxLen at hs
  by_cases h8 : s.size < 8
  · have HF := hid (cutOf_few (l := s.data.toList) (by rw [len_of]; omega))
    go_enter Try.func51, Try.ntmps51
    go_wp2_with fail
    go_ret3
    rw [HF.out]
    exact ⟨rfl, Below.refl _ _⟩
  have h0 : 0 < s.size := by omega
  have h1 : (1 : Int) < (s.size : Int) := by omega
  have h2 : (2 : Int) < (s.size : Int) := by omega
  have h3 : (3 : Int) < (s.size : Int) := by omega
  have h4 : 4 ≤ s.size := by omega
  have HN := hid (num4_of s h4)
  by_cases hbig : 65536 < num4 s.data.toList
  · have HF := hid (cutOf_long (l := s.data.toList) (by rw [len_of]; omega) hbig)
    go_enter Try.func51, Try.ntmps51
    go_wp2_with fail
    go_quiet (fail)
    rw [num4_prog, HN.out]
    generalize num4 s.data.toList = n at hbig
    go_wp2_with fail
    go_ret3
    rw [HF.out]
    exact ⟨rfl, below_drewN (Below.refl _ _) _⟩
  by_cases hend : s.size < 8 + num4 s.data.toList
  · have HF := hid (cutOf_short (l := s.data.toList) (by rw [len_of]; omega) hbig (by rw [len_of]; omega))
    go_enter Try.func51, Try.ntmps51
    go_wp2_with fail
    go_quiet (fail)
    rw [num4_prog, HN.out]
    generalize num4 s.data.toList = n at hbig hend
    go_wp2_with fail
    go_ret3
    rw [HF.out]
    exact ⟨rfl, below_drewN (Below.refl _ _) _⟩
  have hc := crc_le ((s.data.toList.drop 8).take (num4 s.data.toList))
  have HE := hid (head_eq_iff s.data.toList (four (crc ((s.data.toList.drop 8).take (num4 s.data.toList)))) (by rw [len_of]; omega))
  by_cases hq : four (crc ((s.data.toList.drop 8).take (num4 s.data.toList))) = (s.data.toList.drop 4).take 4
  · have HF := hid (cutOf_ok (l := s.data.toList) (by rw [len_of]; omega) hbig (by rw [len_of]; omega) hq)
    have HQ := hid (show ((str (four (num4 s.data.toList) ++ four (crc ((s.data.toList.drop 8).take (num4 s.data.toList))))).toList == (s.extract 0 8).toList) = true by
      rw [extract_str, str_beq, List.drop_zero, Nat.sub_zero, beq_iff_eq]
      exact HE.out.2 hq)
    clear hq HE
    go_enter Try.func51, Try.ntmps51
    go_wp2_with fail
    go_quiet (fail)
    rw [num4_prog, HN.out]
    generalize num4 s.data.toList = n at *
    go_wp2_with fail
    refine (sum_any _ _ (by rw [ByteArray.size_extract]; unfold maxLen; omega)).mono ?_
    rintro e w1 ⟨rfl, rfl⟩
    rw [Lib.extract_data, Nat.add_sub_cancel_left]
    generalize crc (List.take n (List.drop 8 s.data.toList)) = c at *
    go_wp2_with fail
    refine (head_any _ _ _ (by omega) (by omega) (by omega) (by omega)).mono ?_
    rintro e w2 ⟨rfl, hb⟩
    have hcv := fun N => conv_headN (P := Try.prog) w2 N n c (by omega) (by omega) 130 116 5 9 Try.underlying116 Try.underlying5 Try.underlying9
    have hq := HQ.out
    have h8' : (8 : Int) ≤ (s.size : Int) := by omega
    go_wp2_with fail
    go_quiet (fail)
    go_wp2_with fail
    go_ret3
    rw [HF.out, cast8]
    have hx : s.extract 8 (8 + n) = str (List.take n (List.drop 8 s.data.toList)) := by rw [extract_str, Nat.add_sub_cancel_left]
    rw [← hx]
    exact ⟨rfl, below_drewN (((below_drewN (Below.refl _ _) _).trans (hb.mono (Nat.le_refl _))).alloc hb.size _) _⟩
  · have HF := hid (cutOf_sum (l := s.data.toList) (by rw [len_of]; omega) hbig (by rw [len_of]; omega) hq)
    have HQ := hid (show ((str (four (num4 s.data.toList) ++ four (crc ((s.data.toList.drop 8).take (num4 s.data.toList))))).toList == (s.extract 0 8).toList) = false by
      rw [extract_str, str_beq, List.drop_zero, Nat.sub_zero, beq_eq_false_iff_ne]
      exact fun e => hq (HE.out.1 e))
    clear hq HE
    go_enter Try.func51, Try.ntmps51
    go_wp2_with fail
    go_quiet (fail)
    rw [num4_prog, HN.out]
    generalize num4 s.data.toList = n at *
    go_wp2_with fail
    refine (sum_any _ _ (by rw [ByteArray.size_extract]; unfold maxLen; omega)).mono ?_
    rintro e w1 ⟨rfl, rfl⟩
    rw [Lib.extract_data, Nat.add_sub_cancel_left]
    generalize crc (List.take n (List.drop 8 s.data.toList)) = c at *
    go_wp2_with fail
    refine (head_any _ _ _ (by omega) (by omega) (by omega) (by omega)).mono ?_
    rintro e w2 ⟨rfl, hb⟩
    have hcv := fun N => conv_headN (P := Try.prog) w2 N n c (by omega) (by omega) 130 116 5 9 Try.underlying116 Try.underlying5 Try.underlying9
    have hq := HQ.out
    have h8' : (8 : Int) ≤ (s.size : Int) := by omega
    go_wp2_with fail
    go_quiet (fail)
    go_wp2_with fail
    go_ret3
    rw [HF.out]
    exact ⟨rfl, below_drewN (((below_drewN (Below.refl _ _) _).trans (hb.mono (Nat.le_refl _))).alloc hb.size _) _⟩
end Go.Proofs.Ytmehcogaopackaa
