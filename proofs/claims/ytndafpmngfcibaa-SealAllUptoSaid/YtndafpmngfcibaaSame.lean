/-
  The walk of the reference's Same, of two slices that hold the same texts: true.
-/
import Derived.Test.YtndafpmngfcibaaRefAll
namespace Go.Proofs.Ytndafpmngfcibaa
open Go.RowKit

/-- the slice value v holds the texts l -/
def HoldsStrs (w : World) (v : Value) (l : List Bytes) : Prop :=
  ∃ (a : Option Addr) (cap : Nat), v = .slice a l.length cap ∧ l.length ≤ maxLen ∧ (0 < l.length → ∃ b off, a = some ⟨b, off, none⟩ ∧ ∀ j (h : j < l.length), w.cell? ⟨b, off + j, none⟩ = some (.string (str l[j])))
theorem holdsStrs_own {w : World} {b : Nat} {v : Value} {n : Nat} {e : TypeId} {xs : List Value} (l : List Bytes) (hxs : xs = l.map fun x => Value.string (str x)) (hn : n = l.length) (hlen : l.length ≤ maxLen) (h : w.ownsRow b e 1 v n xs) : HoldsStrs w v l := by
  subst hn
  rcases h.2 with ⟨rfl, h0⟩ | ⟨g, cap, cur, rfl, _, _, _⟩
  · exact ⟨none, 0, by rw [h0], hlen, fun hp => by omega⟩
  · refine ⟨some ⟨g, 0, none⟩, cap, rfl, hlen, fun _ => ⟨g, 0, rfl, fun j hj => ?_⟩⟩
    rw [Nat.zero_add, h.cellAt j (by omega), hxs]
    simp [hj]
theorem holdsStrs_below {w w' : World} {v : Value} {l : List Bytes} (h : HoldsStrs w v l) (hb : Below w.heap.size w w') : HoldsStrs w' v l := by
  obtain ⟨a, cap, hv, hm, hc⟩ := h
  refine ⟨a, cap, hv, hm, fun hp => ?_⟩
  obtain ⟨b, off, ha, hcell⟩ := hc hp
  exact ⟨b, off, ha, fun j hj => (hb.cell (p := ⟨b, off + j, none⟩) (World.block_lt_of_cell? _ _ (hcell j hj))).trans (hcell j hj)⟩

set_option maxHeartbeats 1000000 in
theorem same_true (l : List Bytes) (va vb : Value) (w : World) (ha : HoldsStrs w va l) (hb : HoldsStrs w vb l) :
    Calls Try.prog 18 #[va, vb] w fun e w' => e = .returned (.bool true) ∧ Below w.heap.size w w' := by
  obtain ⟨a, ca, rfl, hm, hca⟩ := ha
  obtain ⟨b, cb, rfl, _, hcb⟩ := hb
  unfold maxLen at hm
  by_cases h0 : 0 < l.length
  · obtain ⟨ba, oa, rfl, hA⟩ := hca h0
    obtain ⟨bb, ob, rfl, hBB⟩ := hcb h0
    have HA := hid hA
    have HB := hid hBB
    clear hA hBB
    have hnz : (((l.length : Nat) : Int) != ((l.length : Nat) : Int)) = false := by simp
    go_enter Try.func18, Try.ntmps18
    go_wp2_with fail
    go_loopw [5] (fun i wr => ∃ k : Nat, i = .int .i64 k ∧ k ≤ l.length ∧ ∃ N, wr = w.drewN N) (fun i _ => l.length - (intOf i).toNat)
    case atStart => exact ⟨0, rfl, Nat.zero_le _, 0, rfl⟩
    case round =>
      obtain ⟨k, rfl, hk, N, rfl⟩ := hrel
      by_cases hlt : k < l.length
      · have c1 := HA.out k hlt
        have c2 := HB.out k hlt
        go_wp2_with fail
        go_quiet (fail)
        go_wp2_with fail
        go_roundw
        case rel => exact ⟨k + 1, by go_num, by omega, _, rfl⟩
        case measure => simp [intOf]; omega
      · go_wp2_with fail
        go_ret
        exact ⟨rfl, below_drewN (Below.refl _ _) _⟩
  · have hl : l.length = 0 := by omega
    clear hca hcb h0 hm
    rw [hl]
    clear hl
    go_enter Try.func18, Try.ntmps18
    go_wp2_with fail
    go_rounds 1
    go_returns
    exact ⟨rfl, Below.refl _ _⟩
end Go.Proofs.Ytndafpmngfcibaa
