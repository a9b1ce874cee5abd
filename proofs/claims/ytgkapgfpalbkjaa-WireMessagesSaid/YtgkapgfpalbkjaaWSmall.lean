/-
  The walks of wire's small functions: bit, nums, within; of the reference's num, text, yes.
-/
import Derived.Test.YtgkapgfpalbkjaaWState
namespace Go.Proofs.Ytgkapgfpalbkjaa
open Go.RowKit

def bitN (b : Bool) : Nat := if b then 1 else 0
theorem bit_any (b : Bool) (w : World) : Calls Try.prog 28 #[.bool b] w fun e w' => e = .returned (.int .u64 (bitN b : Int)) ∧ w = w' := by
  cases b
  · go_enter Try.func28, Try.ntmps28
    go_wp2_with fail
    go_ret
    exact ⟨rfl, rfl⟩
  · go_enter Try.func28, Try.ntmps28
    go_wp2_with fail
    go_ret
    exact ⟨rfl, rfl⟩
theorem within_any (n a b : Int) (w : World) : Calls Try.prog 67 #[.int .i64 n, .int .i64 a, .int .i64 b] w fun e w' => e = .returned (.bool (decide (a ≤ n) && decide (n ≤ b))) ∧ w = w' := by
  by_cases h1 : a ≤ n
  · by_cases h2 : n ≤ b
    · rw [decide_eq_true h1, decide_eq_true h2]
      go_enter Try.func67, Try.ntmps67
      go_wp2_with fail
      go_ret
      exact ⟨rfl, rfl⟩
    · rw [decide_eq_true h1, decide_eq_false h2]
      go_enter Try.func67, Try.ntmps67
      go_wp2_with fail
      go_ret
      exact ⟨rfl, rfl⟩
  · rw [decide_eq_false h1]
    go_enter Try.func67, Try.ntmps67
    go_wp2_with fail
    go_ret
    exact ⟨rfl, rfl⟩
set_option maxHeartbeats 1000000 in
theorem wnum_any (N : Nat) (hN : N < top64) (w : World) :
    Calls Try.prog 30 #[.int .u64 N] w fun e w' => e = .returned (.string (str (num N))) ∧ Below w.heap.size w w' := by
  go_enter Try.func30, Try.ntmps30
  go_wp2_with fail
  refine (refNum_any N hN _).mono ?_
  rintro e w1 ⟨rfl, hb1⟩
  go_wp2_with fail
  go_ret
  exact ⟨rfl, hb1⟩
set_option maxHeartbeats 1000000 in
theorem wtext_any (l : Bytes) (hl : l.length ≤ 1152921504606846976) (w : World) :
    Calls Try.prog 31 #[.string (str l)] w fun e w' => e = .returned (.string (str (text l))) ∧ Below w.heap.size w w' := by
  go_enter Try.func31, Try.ntmps31
  go_wp2_with fail
  refine (refText_any l hl _).mono ?_
  rintro e w1 ⟨rfl, hb1⟩
  go_wp2_with fail
  go_ret
  exact ⟨rfl, hb1⟩
set_option maxHeartbeats 1000000 in
theorem wyes_any (b : Bool) (w : World) :
    Calls Try.prog 32 #[.bool b] w fun e w' => e = .returned (.string (str (num (bitN b)))) ∧ Below w.heap.size w w' := by
  cases b
  · go_enter Try.func32, Try.ntmps32
    go_wp2_with fail
    refine (wnum_any 0 (by decide) _).mono ?_
    rintro e w1 ⟨rfl, hb1⟩
    go_wp2_with fail
    go_ret
    exact ⟨rfl, hb1⟩
  · go_enter Try.func32, Try.ntmps32
    go_wp2_with fail
    refine (wnum_any 1 (by decide) _).mono ?_
    rintro e w1 ⟨rfl, hb1⟩
    go_wp2_with fail
    go_ret
    exact ⟨rfl, hb1⟩

/-- the slice value v holds the numbers ns -/
def HoldsU (w : World) (v : Value) (ns : List Nat) : Prop :=
  ∃ (a : Option Addr) (cap : Nat), v = .slice a ns.length cap ∧ ns.length * 8 ≤ 140737488355328 ∧ (∀ n ∈ ns, n < top64) ∧ (0 < ns.length → ∃ b off, a = some ⟨b, off, none⟩ ∧ ∀ j (h : j < ns.length), w.cell? ⟨b, off + j, none⟩ = some (.int .u64 (ns[j] : Int)))
/-- the first k of the numbers -/
def flatK (ns : List Nat) (k : Nat) : Bytes := ((ns.take k).map num).flatten
theorem flatK_succ (ns : List Nat) (k : Nat) (h : k < ns.length) : flatK ns (k + 1) = flatK ns k ++ num ns[k] := by
  unfold flatK
  rw [List.take_succ_eq_append_getElem h, flat_snoc]
theorem flatK_all (ns : List Nat) (k : Nat) (h : ns.length ≤ k) : flatK ns k = (ns.map num).flatten := by
  unfold flatK
  rw [List.take_of_length_le h]
theorem flatK_len (ns : List Nat) (k : Nat) : (flatK ns k).length ≤ 10 * ns.length := by
  have h2 := flat_len (ns.take k)
  have h3 : (ns.take k).length ≤ ns.length := by rw [List.length_take]; omega
  unfold flatK
  omega
set_option maxHeartbeats 2000000 in
theorem wnums_any (ns : List Nat) (v : Value) (w : World) (hv : HoldsU w v ns) :
    Calls Try.prog 22 #[v] w fun e w' => e = .returned (.string (str ((ns.map num).flatten))) ∧ Below w.heap.size w w' := by
  obtain ⟨a, ca, rfl, hl, hm, hca⟩ := hv
  have HC := hid hca
  have HM := hid hm
  have hsz : ∀ k, (str (flatK ns k)).size ≤ 10 * ns.length := fun k => by rw [str_size]; exact flatK_len ns k
  clear hca hm
  go_enter Try.func22, Try.ntmps22
  go_wp2_with fail
  go_loopw [3, 8] (fun vs i wr => ∃ k : Nat, i = .int .i64 k ∧ k ≤ ns.length ∧ vs = .string (str (flatK ns k)) ∧ Below w.heap.size w wr) (fun _ i _ => ns.length - (intOf i).toNat)
  case atStart => exact ⟨0, rfl, Nat.zero_le _, rfl, Below.refl _ _⟩
  case round =>
    obtain ⟨k, rfl, hk, rfl, hB⟩ := hrel
    by_cases hlt : k < ns.length
    · obtain ⟨b, off, rfl, hcell⟩ := HC.out (by omega)
      have hcx := (hB.cell (p := ⟨b, off + k, none⟩) (World.block_lt_of_cell? _ _ (hcell k hlt))).trans (hcell k hlt)
      have hnk := num_any ns[k] (HM.out _ (List.getElem_mem hlt))
      have HS := hid (flatK_succ ns k hlt)
      have hs1 := hsz k
      have hs2 : (str (num ns[k])).size = (num ns[k]).length := str_size _
      have hs3 := num_len ns[k]
      have HA := hid (show str (flatK ns k) ++ str (num ns[k]) = str (flatK ns (k + 1)) by rw [HS.out, str_append])
      clear hcell
      generalize ns[k] = x at *
      go_wp2_with fail
      refine (hnk _).mono ?_
      rintro e w2 ⟨rfl, hb2⟩
      have hB2 := hB.trans (hb2.mono hB.size)
      go_wp2_with fail
      go_roundw
      case rel => exact ⟨k + 1, by go_num, by omega, by rw [HA.out], hB2⟩
      case measure => simp [intOf]; omega
    · have HT := hid (flatK_all ns k (by omega))
      go_wp2_with fail
      go_ret
      rw [← HT.out]
      exact ⟨rfl, hB⟩
end Go.Proofs.Ytgkapgfpalbkjaa
