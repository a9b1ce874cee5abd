/-
  The walk of posthornlaw02.row: the frames of the bodies that are short enough, one behind the other; these bodies; where each frame ends.
-/
import Derived.Test.YtndafpmngfcibaaSame
import Derived.Test.YtndafpmngfcibaaTorn
import Derived.Test.YtndafpmngfcibaaSealAlive
namespace Go.Proofs.Ytndafpmngfcibaa
open Go.RowKit

def shorts (bs : List Bytes) : List Bytes := bs.filter fun b => decide (b.length ≤ 65536)
theorem shorts_hit (bs : List Bytes) (k : Nat) (h : k < bs.length) (hb : bs[k].length ≤ 65536) : shorts (bs.take (k + 1)) = shorts (bs.take k) ++ [bs[k]] := by
  unfold shorts
  rw [List.take_succ_eq_append_getElem h, List.filter_append, List.filter_cons_of_pos (by simpa using hb), List.filter_nil]
theorem shorts_miss (bs : List Bytes) (k : Nat) (h : k < bs.length) (hb : ¬ bs[k].length ≤ 65536) : shorts (bs.take (k + 1)) = shorts (bs.take k) := by
  unfold shorts
  rw [List.take_succ_eq_append_getElem h, List.filter_append, List.filter_cons_of_neg (by simpa using hb), List.filter_nil, List.append_nil]
theorem shorts_mem (bs : List Bytes) : ∀ b ∈ shorts bs, b.length ≤ 65536 := fun b hb => by simpa [shorts] using (List.mem_filter.1 hb).2
theorem shorts_len (bs : List Bytes) (k : Nat) (h : k ≤ bs.length) : (shorts (bs.take k)).length ≤ k := by
  have := List.length_filter_le (fun b : Bytes => decide (b.length ≤ 65536)) (bs.take k)
  rw [List.length_take] at this
  unfold shorts
  omega
theorem rowB_len : ∀ (ks : List Bytes), (∀ b ∈ ks, b.length ≤ 65536) → (rowB ks).length ≤ 65544 * ks.length
  | [], _ => by simp [rowB_nil]
  | b :: r, h => by
    have h1 := rowB_len r (fun x hx => h x (List.mem_cons_of_mem _ hx))
    have h2 := h b (List.mem_cons_self)
    rw [rowB_cons, List.length_append, frame_length, List.length_cons]
    omega
/-- where each frame ends -/
def endsF : Nat → List Bytes → List Nat
  | _, [] => []
  | p, b :: r => (p + (8 + b.length)) :: endsF (p + (8 + b.length)) r
theorem endsF_snoc (b : Bytes) : ∀ (ks : List Bytes) (p : Nat), endsF p (ks ++ [b]) = endsF p ks ++ [p + (rowB (ks ++ [b])).length]
  | [], p => by simp [endsF, rowB_cons, rowB_nil, frame_length]
  | x :: r, p => by
    have := endsF_snoc b r (p + (8 + x.length))
    simp only [List.cons_append, endsF]
    rw [this, rowB_cons, List.length_append, frame_length]
    simp; omega
theorem endsF_length : ∀ (ks : List Bytes) (p : Nat), (endsF p ks).length = ks.length
  | [], _ => rfl
  | _ :: r, p => by simp [endsF, endsF_length r]
theorem endsF_get : ∀ (ks : List Bytes) (p k : Nat) (h : k < (endsF p ks).length), (endsF p ks)[k] = p + (rowB (ks.take (k + 1))).length
  | b :: r, p, 0, _ => by simp [endsF, rowB_cons, rowB_nil, frame_length]
  | b :: r, p, k + 1, h => by
    have := endsF_get r (p + (8 + b.length)) k (by simpa [endsF] using h)
    simp only [endsF, List.getElem_cons_succ, this, List.take_succ_cons, rowB_cons, List.length_append, frame_length]
    omega

abbrev strVals (ks : List Bytes) : List Value := ks.map fun b => Value.string (str b)
abbrev natVals (ns : List Nat) : List Value := ns.map fun (n : Nat) => Value.int .i64 (n : Int)

set_option maxHeartbeats 4000000 in
theorem row_any (bs : List Bytes) (v : Value) (w : World) (hv : HoldsStrs w v bs) (hr : bs.length * 16 ≤ 140737488355328) (hm : ∀ b ∈ bs, b.length ≤ maxLen) :
    Calls Try.prog 20 #[v] w fun e W' => ∃ vl ve, e = .returned (.tuple #[.string (str (rowB (shorts bs))), vl, ve, .bool true]) ∧
      W'.ownsRow w.heap.size 9 1 vl (shorts bs).length (strVals (shorts bs)) ∧ W'.ownsRow w.heap.size 3 1 ve (shorts bs).length (natVals (endsF 0 (shorts bs))) ∧ Below w.heap.size w W' := by
  obtain ⟨a, ca, rfl, _, hca⟩ := hv
  obtain ⟨i0, hi, hz0, hz1, hz2⟩ := info_parts infoString
  obtain ⟨i1, hj, hy0, hy1, hy2⟩ := info_parts infoInt
  have HC := hid hca
  have HM := hid hm
  clear hca hm
  go_enter Try.func20, Try.ntmps20
  go_wp2_with fail
  go_loopw [6, 7, 8, 9] (fun vs vl ve vi wr => ∃ k : Nat, vi = .int .i64 k ∧ k ≤ bs.length ∧ vs = .string (str (rowB (shorts (bs.take k)))) ∧
      wr.ownsRow w.heap.size 9 1 vl (shorts (bs.take k)).length (strVals (shorts (bs.take k))) ∧ wr.ownsRow w.heap.size 3 1 ve (shorts (bs.take k)).length (natVals (endsF 0 (shorts (bs.take k)))) ∧ Below w.heap.size w wr) (fun _ _ _ i _ => bs.length - (intOf i).toNat)
  case atStart => exact ⟨0, rfl, Nat.zero_le _, rfl, World.ownsRow_nil _ _ _ _, World.ownsRow_nil _ _ _ _, Below.refl _ _⟩
  case round =>
    obtain ⟨k, rfl, hk, rfl, ho, ha, hB⟩ := hrel
    by_cases hlt : k < bs.length
    · obtain ⟨b, off, rfl, hcell⟩ := HC.out (by omega)
      have hcx := (hB.cell (p := ⟨b, off + k, none⟩) (World.block_lt_of_cell? _ _ (hcell k hlt))).trans (hcell k hlt)
      clear hcell
      have hsz : (str bs[k]).size = bs[k].length := str_size _
      by_cases hbig : bs[k].length ≤ 65536
      · have hkl := shorts_len bs k hk
        have hrb := rowB_len (shorts (bs.take k)) (shorts_mem _)
        have hs1 : (str (rowB (shorts (bs.take k)))).size + (str (frame bs[k])).size ≤ 9223372036854775807 := by rw [str_size, str_size, frame_length]; omega
        have hadd : str (rowB (shorts (bs.take k))) ++ str (frame bs[k]) = str (rowB (shorts (bs.take k) ++ [bs[k]])) := by rw [str_append, rowB_snoc]
        have hs2 : (str (rowB (shorts (bs.take k) ++ [bs[k]]))).size = (rowB (shorts (bs.take k) ++ [bs[k]])).length := str_size _
        have HF := hid (show frameOf bs[k] = (frame bs[k], 0) by unfold frameOf; rw [if_neg (by omega)])
        have HS := hid (shorts_hit bs k hlt hbig)
        have HE := hid (endsF_snoc bs[k] (shorts (bs.take k)) 0)
        have HL := hid (HM.out bs[k] (List.getElem_mem hlt))
        have hlt2 : ((shorts (bs.take k)).length + 1) * 16 ≤ 140737488355328 := by omega
        have hlt3 : (shorts (bs.take k)).length + 1 ≤ maxLen := by unfold maxLen; omega
        generalize shorts (bs.take k) = ks at *
        go_wp2_with fail
        refine (frame_any (str bs[k]) _ (by rw [str_size]; exact HL.out)).mono ?_
        rintro e w2 ⟨rfl, hb2⟩
        rw [str_data, HF.out]
        have ho2 := ownsRow_below ho hb2
        have ha2 := ownsRow_below ha hb2
        have hB2 := hB.trans (hb2.mono hB.size)
        have hBs := hB2.size
        have hcx2 := (hb2.cell (p := ⟨b, off + k, none⟩) (World.block_lt_of_cell? _ _ hcx)).trans hcx
        clear ho ha hcx
        go_wp2_with (first | (at_builtin; refine wpList_append_own _ rfl _ _ 38 rfl w.heap.size 9 i0 (.string { data := #[] }) 1 16 Try.underlying38 hi hz0 hz1 hz2 rfl (by decide) _ _ _ rfl (ho2.alloc _) ⟨w2.heap.size, 0, none⟩ 1 1 [.string (str bs[k])] rfl rfl (cell_one_new _ _ _) (by simp [Value.oneCell']) (by omega) (by omega) (by simp; omega) ?_; intro v' w3 ho3 hgrow _; have ha3 := (ha2.alloc (.cells #[.string (str bs[k])] 9)).kept hgrow (ownsRow_apart ha2 ho2 (by decide)); have hB3 := (hB2.alloc hBs (.cells #[.string (str bs[k])] 9)).grown hgrow (by simp; omega) (fun j ej => (ho2.lt j ej).1); have hBs3 := hB3.size; clear ho2 ha2 hgrow) | (at_builtin; refine wpList_append_own _ rfl _ _ 41 rfl w.heap.size 3 i1 (.int .i64 0) 1 8 Try.underlying41 hj hy0 hy1 hy2 rfl (by decide) _ _ _ rfl (ha3.alloc _) ⟨w3.heap.size, 0, none⟩ 1 1 [.int .i64 ((rowB (ks ++ [bs[k]])).length : Int)] rfl rfl (cell_one_new _ _ _) (by simp [Value.oneCell']) (by omega) (by omega) (by simp; omega) ?_; intro v2' w4 ha4 hgrow _; have ho4 := (ho3.alloc (.cells #[.int .i64 ((rowB (ks ++ [bs[k]])).length : Int)] 3)).kept hgrow (ownsRow_apart ho3 ha3 (by decide)); have hB4 := (hB3.alloc hBs3 (.cells #[.int .i64 ((rowB (ks ++ [bs[k]])).length : Int)] 3)).grown hgrow (by simp; omega) (fun j ej => (ha3.lt j ej).1); clear ho3 ha3 hgrow))
        go_roundw
        case rel => exact ⟨k + 1, by go_num, by omega, by rw [HS.out], by rw [HS.out]; simpa using ho4, by rw [HS.out, HE.out, Nat.zero_add]; simpa using ha4, hB4⟩
        case measure => simp [intOf]; omega
      · have HS := hid (shorts_miss bs k hlt hbig)
        go_wp2_with fail
        go_roundw
        case rel => exact ⟨k + 1, by go_num, by omega, by rw [HS.out], by rw [HS.out]; exact ho, by rw [HS.out]; exact ha, hB⟩
        case measure => simp [intOf]; omega
    · have HT := hid (show bs.take k = bs from List.take_of_length_le (by omega))
      go_wp2_with fail
      rw [HT.out] at ho ha ⊢
      refine bodyPost_ret (v := .tuple #[.string (str (rowB (shorts bs))), u7, u8, .bool true]) (by simp [results, Try.results20, go_sem]) rfl ?_
      exact ⟨_, _, rfl, ho, ha, hB⟩
end Go.Proofs.Ytndafpmngfcibaa
