/-
  seal.Each: its closure's contract: for every loop body that keeps the captured string: all frames, in their order, each with its place.
-/
import Derived.RangeFuncBox
import Derived.RangeFuncCalls
import Derived.RangeFuncLeaves
import Derived.RangeFuncNested
import Derived.Shelf.Abstract
import Derived.WalkKit
import Derived.OwnWalkIn
import Derived.TacticsInMore
import Derived.LoopNIn
import Derived.LoopIn
import Derived.Maps.AppendAt
import Derived.Test.YtmehcogaopackaaCut
import Derived.Test.YtmehcogaopackaaScan
namespace Go.Proofs.Ytmehcogaopackaa
open Go.RowKit Go.Shelf

attribute [local go_sem] Oper.semAt_some

/-- what a round keeps: below n₀ all lies as it lay, and so does block Bn -/
def KeepsBox (n₀ Bn : Nat) (W W' : World) : Prop := Below n₀ W W' ∧ W'.heap[Bn]? = W.heap[Bn]?
theorem keepsBox_t {n₀ Bn : Nat} {A B C : World} (h : KeepsBox n₀ Bn A B) (k : KeepsBox n₀ Bn B C) : KeepsBox n₀ Bn A C := ⟨h.1.trans k.1, k.2.trans h.2⟩
theorem keepsBox_b {n₀ Bn : Nat} {w : World} (hn : n₀ ≤ w.heap.size) (hB : Bn < w.heap.size) (W : World) (l : Nat) (o o' : Obj) (hl : w.heap.size ≤ l) (h : W.heap[l]? = some o) (hc : o.isCells = false) (hw : o.isWalk = false) : KeepsBox n₀ Bn W (W.putObj l o') :=
  ⟨belowK_b hn W l o o' hl h hc hw, World.putObj_heap_other (by omega)⟩

/-- Cut of what stands from place p on -/
theorem cut_at (s : ByteArray) (hs : s.size ≤ maxLen) (p : Nat) (w : World) : Calls Try.prog 51 #[.string (s.extract p s.size)] w fun e w' =>
    e = .returned (.tuple #[.string (str (cutOf (s.data.toList.drop p)).1), .int .i64 (cutOf (s.data.toList.drop p)).2.1, .int .i64 (cutOf (s.data.toList.drop p)).2.2]) ∧ Below w.heap.size w w' := by
  have hx : (s.extract p s.size).data.toList = s.data.toList.drop p := by
    rw [Lib.extract_data, List.take_of_length_le (by rw [List.length_drop, len_of]; omega)]
  have h := cut_any (s.extract p s.size) w (by rw [ByteArray.size_extract]; unfold maxLen at *; omega)
  rw [hx] at h
  exact h
theorem below_grown {A B : World} (h : Below A.heap.size A B) : A.grownBy B none := ⟨h.os, h.tape, h.output, h.size, fun k hk _ => h.block k hk⟩

abbrev encFrame (x : Nat × Bytes) : Array Value := #[.int .i64 x.1, .string (str x.2)]

set_option maxRecDepth 100000 in
set_option maxHeartbeats 2000000 in
theorem each1_in (n : Nat) (hn : 1 ≤ n) (l Bn n₀ : Nat) (s : ByteArray) (hs : s.size ≤ maxLen) (J Jx : List (Nat × Bytes) → World → Prop) (W : World)
    (hJ : AbidesFrom W.heap.size J) (_hJx : AbidesFrom W.heap.size Jx)
    (hY : ∀ pre x W1, J pre W1 → pre.length < (scan s.data.toList 0).1.length → YieldAt Fence.wide (n - 1) Try.prog l (encFrame x) W1 fun e W' =>
      (e = .returned (.bool true) ∧ J (pre ++ [x]) W' ∧ KeepsBox n₀ Bn W1 W') ∨ (e = .returned (.bool false) ∧ Jx (pre ++ [x]) W'))
    (hBn : W.cell? ⟨Bn, 0, none⟩ = some (.string s)) (h0 : J [] W) :
    CallsIn Fence.wide n Try.prog 73 #[.func (.yield l) #[] #[], .pointer (some ⟨Bn, 0, none⟩)] W fun e W' => (∃ v, e = .returned v) ∧
      ((∃ ys, ys = (scan s.data.toList 0).1 ∧ J ys W') ∨ (∃ pre, pre <+: (scan s.data.toList 0).1 ∧ Jx pre W')) := by
  have hs' := hs
  unfold maxLen at hs
  refine callsIn_of_wp Try.func73 rfl trivial ?_ rfl
  simp only [Try.ntmps73, List.size_toArray, List.length_cons, List.length_nil, Nat.reduceAdd, Nat.reduceSub, Array.replicate_succ, Array.replicate_zero, List.push_toArray, List.append_toArray, List.nil_append, List.cons_append]
  gi_wp2
  gi_loopw [3] (fun p wr => ∃ (pre : List (Nat × Bytes)) (k : Nat), p = .int .i64 k ∧ k ≤ s.size ∧ (scan s.data.toList 0).1 = pre ++ (scan s.data.toList k).1 ∧ wr.cell? ⟨Bn, 0, none⟩ = some (.string s) ∧ J pre wr)
    (fun p _ => s.size - (intOf p).toNat)
  case atStart =>
    exact ⟨[], 0, rfl, Nat.zero_le _, rfl, hBn, h0⟩
  case round =>
    obtain ⟨pre, k, rfl, hk, hx, hb, hJs⟩ := hrel
    have HX := hid hx
    clear hx
    by_cases hlt : k < s.size
    · by_cases hc : (cutOf (s.data.toList.drop k)).2.2 = 0
      · have hn1 : 8 ≤ (cutOf (s.data.toList.drop k)).2.1 := by have := (cutOf_fine hc).1; omega
        have hn2 : k + (cutOf (s.data.toList.drop k)).2.1 ≤ s.size := by have := (cutOf_fine hc).2.1; rw [List.length_drop, len_of] at this; omega
        have HG := hid (scan_go (l := s.data.toList) (p := k) (by rw [len_of]; exact hlt) hc)
        gi_wp2_with (refine ⟨trivial, ?_⟩; gi_at_call 51; refine (callsIn_wide.2 (cut_at s hs' k _)).mono ?_; rintro e w2 ⟨rfl, hb2⟩)
        · have hlenx : pre.length < (scan s.data.toList 0).1.length := by rw [HX.out, HG.out]; simp
          obtain ⟨fn, tmps, assign, body, hy, hR⟩ := hY pre (k, (cutOf (s.data.toList.drop k)).1) w2 (hJ _ _ _ none hJs (below_grown hb2) (fun r e => by cases e)) hlenx
          dsimp only [encFrame] at hy
          have hb2' : w2.cell? ⟨Bn, 0, none⟩ = some (.string s) := (hb2.cell (p := ⟨Bn, 0, none⟩) (World.block_lt_of_cell? _ _ hb)).trans hb
          rw [hy]
          gi_wp2
          refine hR.mono ?_
          rintro e W3 (⟨rfl, hJ3, hk3⟩ | ⟨rfl, hJx3⟩)
          · have hb3 : W3.cell? ⟨Bn, 0, none⟩ = some (.string s) := (World.cell?_of_block hk3.2).trans hb2'
            gi_wp2
            go_roundw
            case rel => exact ⟨pre ++ [(k, (cutOf (s.data.toList.drop k)).1)], k + (cutOf (s.data.toList.drop k)).2.1, by go_num, hn2, by rw [HX.out, HG.out]; simp, hb3, hJ3⟩
            case measure => simp [intOf]; omega
          · gi_wp2
            refine bodyPost_ret (results_none rfl _ _ _) rfl ?_
            exact ⟨⟨_, rfl⟩, .inr ⟨pre ++ [(k, (cutOf (s.data.toList.drop k)).1)], ⟨(scan s.data.toList (k + (cutOf (s.data.toList.drop k)).2.1)).1, by rw [HX.out, HG.out]; simp⟩, hJx3⟩⟩
      · have hne : ((((cutOf (s.data.toList.drop k)).2.2 : Nat) : Int) != 0) = true := by rw [bne_iff_ne]; omega
        have HG := hid (scan_stop (l := s.data.toList) (p := k) (fun c => hc c.2))
        clear hc
        gi_wp2_with (refine ⟨trivial, ?_⟩; gi_at_call 51; refine (callsIn_wide.2 (cut_at s hs' k _)).mono ?_; rintro e w2 ⟨rfl, hb2⟩)
        refine ⟨fun _ h => (by cases h), ?_⟩
        gi_wp2
        refine bodyPost_ret (results_none rfl _ _ _) rfl ?_
        exact ⟨⟨_, rfl⟩, .inl ⟨pre, by rw [HX.out, HG.out]; simp, hJ _ _ _ none hJs (below_grown hb2) (fun r e => by cases e)⟩⟩
    · have HG := hid (scan_stop (l := s.data.toList) (p := k) (fun c => hlt (by have := c.1; rw [len_of] at this; exact this)))
      gi_wp2
      go_end0
      exact ⟨⟨_, rfl⟩, .inl ⟨pre, by rw [HX.out, HG.out]; simp, hJs⟩⟩

/-- seal.Each(s): the string is boxed; the function value captures the box. -/
theorem each_in (n : Nat) (s : ByteArray) (w : World) :
    CallsIn Fence.wide n Try.prog 50 #[.string s] w fun e w' => e = .returned (.func (.func 73) #[] #[.pointer (some ⟨w.heap.size, 0, none⟩)]) ∧ w' = w.alloc (.cells #[.string s] 9) := by
  refine callsIn_of_wp Try.func50 rfl trivial ?_ rfl
  simp only [Try.ntmps50, List.size_toArray, List.length_cons, List.length_nil, Nat.reduceAdd, Nat.reduceSub, Array.replicate_succ, Array.replicate_zero, List.push_toArray, List.append_toArray, List.nil_append, List.cons_append]
  gi_wp2
  go_ret
  exact ⟨rfl, rfl⟩

/-- what it hands back: all frames, or a beginning of them where a round has said 'no more' -/
theorem each_stops (n : Nat) (hn : 1 ≤ n) (Bn n₀ : Nat) (s : ByteArray) (hs : s.size ≤ maxLen) (w : World) (hBn : Bn < w.heap.size)
    (hc : w.cell? ⟨Bn, 0, none⟩ = some (.string s)) :
    SeqStopsK Fence.wide n Try.prog 73 #[.pointer (some ⟨Bn, 0, none⟩)] encFrame (KeepsBox n₀ Bn) (fun ys => ys = (scan s.data.toList 0).1) (fun pre => pre <+: (scan s.data.toList 0).1) (scan s.data.toList 0).1.length w := fun l J Jx W hW hJ hJx hY h0 =>
  each1_in n hn l Bn n₀ s hs J Jx W hJ hJx hY ((hW.cell (p := ⟨Bn, 0, none⟩) hBn).trans hc) h0
end Go.Proofs.Ytmehcogaopackaa
