/-
  The walks of pack.Num and of the reference's Num: both write 'num'.
-/
import Derived.Test.YtmehcogaopackaaChecked
import Derived.Test.YtmehcogaopackaaPackP
import Derived.Test.YtmehcogaopackaaBytes
import Derived.WalkKit
import Derived.LoopTactic
import Derived.OwnWalk
import Derived.Outline
import Derived.WalkLawsBesides
import Derived.WalkSpells
import Derived.Handy
import Derived.BigQuiet
import Derived.Deep.QuietTactic
import Derived.Maps.AppendAt
import Derived.RangeFuncBox
namespace Go.Proofs.Ytmehcogaopackaa
open Go.RowKit

theorem infoByte : (Try.prog.info? 5).map (fun i => (i.zero, i.size, i.bytes)) = some (some (.int .u8 0), 1, 1) := by kernel_rfl
theorem row_back {P : Program} {w : World} {base g cap n : Nat} {e : TypeId} (l : Bytes) (hn : l.length = n) (h : w.ownsRow base e 1 (.slice (some ⟨g, 0, none⟩) n cap) n (l.map fun b => Value.int .u8 (b.toNat : Int))) (src dst el : TypeId) (hs : P.underlying src = some (.slice el)) (he : P.underlying el = some (.int .u8)) (hd : P.underlying dst = some .string) :
    (convert src dst (.slice (some ⟨g, 0, none⟩) n cap)).run P w = .ok (.string (str l)) w := by
  subst hn
  refine bytes_back w src dst el g cap l hs he hd ?_
  intro j hj
  rw [h.cellAt j (by omega)]
  simp [hj]
abbrev byteVals (l : Bytes) : List Value := l.map fun b => Value.int .u8 (b.toNat : Int)

set_option maxRecDepth 100000 in
set_option maxHeartbeats 1000000 in
theorem num_any (N : Nat) (hN : N < top64) (w : World) :
    Calls Try.prog 42 #[.int .u64 N] w fun e w' => e = .returned (.string (str (num N))) ∧ Below w.heap.size w w' := by
  obtain ⟨i0, hi, hz0, hz1, hz2⟩ := info_parts infoByte
  have hN' := hid hN
  unfold top64 at hN
  go_enter Try.func42, Try.ntmps42
  go_wp2_with fail
  go_loopw [0, 3] (fun vn vb wr => ∃ (pre : Bytes) (m : Nat), vn = .int .u64 m ∧ m ≤ N ∧ Hid (num N = pre ++ num m) ∧ wr.ownsRow w.heap.size 5 1 vb pre.length (byteVals pre) ∧ Below w.heap.size w wr) (fun vn _ _ => (intOf vn).toNat)
  case atStart => exact ⟨[], N, rfl, Nat.le_refl _, rfl, World.ownsRow_nil _ _ _ _, Below.refl _ _⟩
  case round =>
    obtain ⟨pre, m, rfl, hm, HP, ho, hB⟩ := hrel
    have hpl : pre.length ≤ 10 := by have h1 := num_len N; have h2 := congrArg List.length HP.out; rw [List.length_append] at h2; omega
    have hBs := hB.size
    have hml : pre.length + 1 ≤ maxLen := by unfold maxLen; omega
    by_cases hlt : m < 128
    · have HM := hid (num_few hlt)
      have hby := hid (show (UInt8.ofNat m).toNat = m from byte_small (by omega))
      go_wp2_with (at_builtin; refine wpList_append_own _ rfl _ _ 116 rfl w.heap.size 5 i0 (.int .u8 0) 1 1 Try.underlying116 hi hz0 hz1 hz2 rfl (by decide) _ _ _ rfl (ho.alloc _) ⟨wr.heap.size, 0, none⟩ 1 1 [.int .u8 (m : Int)] rfl rfl (cell_one_new _ _ _) (by simp [Value.oneCell']) (by omega) (by omega) (by simp; omega) ?_; intro v' w1 hown' hgrow _; obtain ⟨g', cap', rfl⟩ := ownsRow_succ hown'; have hback := row_back (P := Try.prog) (n := pre.length + 1) (pre ++ [UInt8.ofNat m]) (by simp) (by rw [List.map_append, List.map_cons, List.map_nil, hby.out]; exact hown') 116 9 5 Try.underlying116 Try.underlying5 Try.underlying9)
      go_ret
      rw [HP.out, HM.out]
      exact ⟨rfl, (hB.alloc hBs _).grown hgrow (by simp; omega) (fun j ej => (ho.lt j ej).1)⟩
    · have HM := hid (num_more hlt (by have := hN'.out; omega))
      have hby := num_byte m
      go_wp2_with (at_builtin; refine wpList_append_own _ rfl _ _ 116 rfl w.heap.size 5 i0 (.int .u8 0) 1 1 Try.underlying116 hi hz0 hz1 hz2 rfl (by decide) _ _ _ rfl (ho.alloc _) ⟨wr.heap.size, 0, none⟩ 1 1 [.int .u8 ((UInt8.ofNat (m % 128 + 128)).toNat : Int)] rfl rfl (cell_one_new _ _ _) (by simp [Value.oneCell']) (by omega) (by omega) (by simp; omega) ?_; intro v' w1 hown' hgrow _)
      go_roundw
      case rel => exact ⟨pre ++ [UInt8.ofNat (m % 128 + 128)], m / 128, by rw [show ((m / 128 : Nat) : Int) = (m : Int) / 128 from by omega], by omega, (show num N = _ by rw [HP.out, HM.out]; simp), by simpa using hown', (hB.alloc hBs _).grown hgrow (by simp; omega) (fun j ej => (ho.lt j ej).1)⟩
      case measure => simp [intOf]; omega
end Go.Proofs.Ytmehcogaopackaa
