/-
  The walk of the law SealBack.
-/
import Derived.Test.YtndafpmngfcibaaRow
namespace Go.Proofs.Ytndafpmngfcibaa
open Go.RowKit

theorem holds_bodies {w : World} {b : Nat} {v : Value} {n : Nat} {e : TypeId} (fs : List (Nat × Bytes)) (hn : n = fs.length) (hlen : fs.length ≤ maxLen) (h : w.ownsRow b e 1 v n (strs fs)) : HoldsStrs w v (fs.map (·.2)) :=
  holdsStrs_own (fs.map (·.2)) (by simp) (by simpa using hn) (by simpa using hlen) h

set_option maxHeartbeats 1000000 in
theorem sealBack_walk (bs : List Bytes) (v : Value) (w : World) (hv : HoldsStrs w v bs) (hr : bs.length * 16 ≤ 140737488355328) (hm : ∀ b ∈ bs, b.length ≤ maxLen) :
    Calls Try.prog 7 #[v] w fun e W' => e = .returned (.bool true) ∧ Below w.heap.size w W' := by
  have hl1 := shorts_len bs bs.length (Nat.le_refl _)
  rw [List.take_length] at hl1
  have hrb := rowB_len (shorts bs) (shorts_mem _)
  have hmem := shorts_mem bs
  obtain ⟨B1, B2, B3⟩ := all_back (shorts bs) hmem
  have HB1 := hid B1
  have HB2 := hid B2
  have HB3 := hid B3
  have HN := hid (show (scan (rowB (shorts bs)) 0).1.length = (shorts bs).length by have := congrArg List.length B1; simpa using this)
  clear B1 B2 B3 hmem
  have hsz : (str (rowB (shorts bs))).size = (rowB (shorts bs)).length := str_size _
  go_enter Try.func7, Try.ntmps7
  go_wp2_with fail
  refine (row_any bs v _ hv hr hm).mono ?_
  rintro e w1 ⟨vl, ve, rfl, ho, ha, hb1⟩
  go_wp2_with fail
  refine (sealAlive_any _).mono ?_
  rintro e w2 ⟨rfl, hb2⟩
  go_wp2_with fail
  refine (all_in (str (rowB (shorts bs))) (by rw [str_size]; unfold maxLen; omega) (by rw [str_data, HN.out]; omega) _).mono ?_
  rintro e w3 ⟨vm, rfl, hm3, hb3⟩
  rw [str_data] at hm3 ⊢
  rw [HB2.out, HB3.out]
  go_wp2_with fail
  have s1 := holdsStrs_own (shorts bs) rfl rfl (by unfold maxLen; omega) ((ownsRow_below (ownsRow_below ho hb2) hb3))
  have s2 := holds_bodies (scan (rowB (shorts bs)) 0).1 rfl (by rw [HN.out]; unfold maxLen; omega) hm3
  rw [HB1.out] at s2
  refine (same_true (shorts bs) vl vm _ s1 s2).mono ?_
  rintro e w4 ⟨rfl, hb4⟩
  go_wp2_with fail
  go_ret
  have h12 := hb1.trans (hb2.mono hb1.size)
  have h13 := h12.trans (hb3.mono h12.size)
  exact ⟨rfl, h13.trans (hb4.mono h13.size)⟩
end Go.Proofs.Ytndafpmngfcibaa
