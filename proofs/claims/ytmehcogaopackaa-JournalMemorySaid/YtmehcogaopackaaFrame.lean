/-
  The walks of seal.head, the reference's four, both Frames: both answer 'frameOf'.
-/
import Derived.Test.YtmehcogaopackaaSum
import Derived.Handy
import Derived.Laws.BytesArg
namespace Go.Proofs.Ytmehcogaopackaa
open Go.RowKit

theorem cell_new4 (w : World) (x0 x1 x2 x3 : Int) (t : TypeId) (i : Nat) (h : i < 4) :
    (w.alloc (.cells #[.int .u8 x0, .int .u8 x1, .int .u8 x2, .int .u8 x3] t)).cell? ⟨w.heap.size, 0 + i, none⟩ = some (.int .u8 ([x0, x1, x2, x3].getD i 0)) := by
  rw [Nat.zero_add, World.cell?_alloc_mark]
  match i, h with
  | 0, _ => rfl
  | 1, _ => rfl
  | 2, _ => rfl
  | 3, _ => rfl
theorem conv_four {P : Program} (w : World) (x0 x1 x2 x3 : Int) (t src e dst : TypeId) (hs : P.underlying src = some (.slice e)) (he : P.underlying e = some (.int .u8)) (hd : P.underlying dst = some .string) :
    (convert src dst (.slice (some ⟨w.heap.size, 0, none⟩) 4 4)).run P (w.alloc (.cells #[.int .u8 x0, .int .u8 x1, .int .u8 x2, .int .u8 x3] t)) =
      .ok (.string (strOfNums [x0, x1, x2, x3])) (w.alloc (.cells #[.int .u8 x0, .int .u8 x1, .int .u8 x2, .int .u8 x3] t)) :=
  run_convert_bytes_arg _ src e hs he _ 0 4 4 _ rfl (fun i hi => cell_new4 w x0 x1 x2 x3 t i hi) dst hd
theorem cell_new8 (w : World) (x0 x1 x2 x3 x4 x5 x6 x7 : Int) (t : TypeId) (i : Nat) (h : i < 8) :
    (w.alloc (.cells #[.int .u8 x0, .int .u8 x1, .int .u8 x2, .int .u8 x3, .int .u8 x4, .int .u8 x5, .int .u8 x6, .int .u8 x7] t)).cell? ⟨w.heap.size, 0 + i, none⟩ = some (.int .u8 ([x0, x1, x2, x3, x4, x5, x6, x7].getD i 0)) := by
  rw [Nat.zero_add, World.cell?_alloc_mark]
  match i, h with
  | 0, _ => rfl
  | 1, _ => rfl
  | 2, _ => rfl
  | 3, _ => rfl
  | 4, _ => rfl
  | 5, _ => rfl
  | 6, _ => rfl
  | 7, _ => rfl
theorem conv_head {P : Program} (w : World) (x0 x1 x2 x3 x4 x5 x6 x7 : Int) (t src e dst : TypeId) (hs : P.underlying src = some (.slice e)) (he : P.underlying e = some (.int .u8)) (hd : P.underlying dst = some .string) :
    (convert src dst (.slice (some ⟨w.heap.size, 0, none⟩) 8 8)).run P (w.alloc (.cells #[.int .u8 x0, .int .u8 x1, .int .u8 x2, .int .u8 x3, .int .u8 x4, .int .u8 x5, .int .u8 x6, .int .u8 x7] t)) =
      .ok (.string (strOfNums [x0, x1, x2, x3, x4, x5, x6, x7])) (w.alloc (.cells #[.int .u8 x0, .int .u8 x1, .int .u8 x2, .int .u8 x3, .int .u8 x4, .int .u8 x5, .int .u8 x6, .int .u8 x7] t)) :=
  run_convert_bytes_arg _ src e hs he _ 0 8 8 _ rfl (fun i hi => cell_new8 w x0 x1 x2 x3 x4 x5 x6 x7 t i hi) dst hd
theorem size8 (x0 x1 x2 x3 x4 x5 x6 x7 : Int) : (strOfNums [x0, x1, x2, x3, x4, x5, x6, x7]).size = 8 := strOfNums_size _

/-- the eight bytes ahead of a body -/
theorem head_str (n c : Nat) (hn : n ≤ 65536) (hc : c ≤ 4294967295) :
    strOfNums [(n : Int) / 16777216, (n : Int) / 65536, (n : Int) / 256 % 256, (n : Int) % 256, (c : Int) / 16777216, (c : Int) / 65536 % 256, (c : Int) / 256 % 256, (c : Int) % 256] = str (four n ++ four c) := by
  apply ByteArray.ext
  simp only [strOfNums, str, four, List.map_cons, List.map_nil, List.cons_append, List.nil_append]
  rw [byte_of_int (n := n / 16777216) (by omega), byte_of_int (n := n / 65536) (by omega), byte_of_int (n := n / 256) (by omega), byte_of_int (n := n) (by omega),
    byte_of_int (n := c / 16777216) (by omega), byte_of_int (n := c / 65536) (by omega), byte_of_int (n := c / 256) (by omega), byte_of_int (n := c) (by omega)]
theorem four_str (n : Nat) (hn : n ≤ 4294967295) :
    strOfNums [(n : Int) / 16777216, (n : Int) / 65536 % 256, (n : Int) / 256 % 256, (n : Int) % 256] = str (four n) := by
  apply ByteArray.ext
  simp only [strOfNums, str, four, List.map_cons, List.map_nil]
  rw [byte_of_int (n := n / 16777216) (by omega), byte_of_int (n := n / 65536) (by omega), byte_of_int (n := n / 256) (by omega), byte_of_int (n := n) (by omega)]

set_option maxHeartbeats 400000 in
theorem head_any (n c : Int) (w : World) (h0 : 0 ≤ n) (h1 : n ≤ 65536) (h2 : 0 ≤ c) (h3 : c ≤ 4294967295) :
    Calls Try.prog 74 #[.int .i64 n, .int .u32 c] w fun e w' =>
      e = .returned (.agg #[.int .u8 (n / 16777216), .int .u8 (n / 65536), .int .u8 (n / 256 % 256), .int .u8 (n % 256), .int .u8 (c / 16777216), .int .u8 (c / 65536 % 256), .int .u8 (c / 256 % 256), .int .u8 (c % 256)]) ∧ Below w.heap.size w w' := by
  go_enter Try.func74, Try.ntmps74
  go_wp2
  go_rounds 5
  go_returns
  exact ⟨rfl, ((Below.refl _ _).alloc (Nat.le_refl _) _).alloc (by simp) _⟩

set_option maxHeartbeats 400000 in
theorem frame_any (s : ByteArray) (w : World) (hs : s.size ≤ maxLen) :
    Calls Try.prog 65 #[.string s] w fun e w' =>
      e = .returned (.tuple #[.string (str (frameOf s.data.toList).1), .int .i64 (frameOf s.data.toList).2]) ∧ Below w.heap.size w w' := by
  unfold maxLen at hs
  have hc := crc_le s.data.toList
  have hlen := len_of s
  by_cases h : 65536 < s.size
  · have HF := hid (show frameOf s.data.toList = ([], 2) by unfold frameOf; rw [if_pos (by omega)])
    clear hlen
    go_enter Try.func65, Try.ntmps65
    go_wp2_with fail
    go_ret2
    rw [HF.out]
    exact ⟨rfl, Below.refl _ _⟩
  · have HF := hid (show frameOf s.data.toList = (four s.size ++ four (crc s.data.toList) ++ s.data.toList, 0) by unfold frameOf; rw [if_neg (by omega), frame, hlen])
    have HH := hid (head_str s.size (crc s.data.toList) (by omega) hc)
    clear hlen
    have hcv := fun w x0 x1 x2 x3 x4 x5 x6 x7 => conv_head (P := Try.prog) w x0 x1 x2 x3 x4 x5 x6 x7 130 116 5 9 Try.underlying116 Try.underlying5 Try.underlying9
    have hsz := size8
    go_enter Try.func65, Try.ntmps65
    go_wp2_with (first | (go_at_call 75; refine (sum_any _ _ (by unfold maxLen; omega)).mono ?_; rintro e w' ⟨rfl, rfl⟩) | (go_at_call 74; refine (head_any _ _ _ (by omega) (by omega) (by omega) (by omega)).mono ?_; rintro e w' ⟨rfl, hb⟩))
    go_ret2
    rw [HF.out, ← str_append_of, ← HH.out]
    exact ⟨rfl, hb.alloc hb.size _⟩

end Go.Proofs.Ytmehcogaopackaa
