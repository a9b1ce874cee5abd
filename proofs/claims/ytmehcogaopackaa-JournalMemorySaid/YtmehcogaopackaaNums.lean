/-
  The walks of pack.Nums and of the reference's Nums.
-/
import Derived.Test.YtmehcogaopackaaText
namespace Go.Proofs.Ytmehcogaopackaa
open Go.RowKit

/-- the slice value v holds the numbers ns, of 64 bits without sign -/
def HoldsNums (w : World) (v : Value) (ns : List Nat) : Prop :=
  ∃ (a : Option Addr) (cap : Nat), v = .slice a ns.length cap ∧ ns.length * 8 ≤ 140737488355328 ∧ (∀ n ∈ ns, n < top64) ∧ (0 < ns.length → ∃ b off, a = some ⟨b, off, none⟩ ∧ ∀ j (h : j < ns.length), w.cell? ⟨b, off + j, none⟩ = some (.int .u64 (ns[j] : Int)))
theorem holdsNums_below {w w' : World} {v : Value} {ns : List Nat} (h : HoldsNums w v ns) (hb : Below w.heap.size w w') : HoldsNums w' v ns := by
  obtain ⟨a, cap, hv, hm, hl, hc⟩ := h
  refine ⟨a, cap, hv, hm, hl, fun hp => ?_⟩
  obtain ⟨b, off, ha, hcell⟩ := hc hp
  exact ⟨b, off, ha, fun j hj => (hb.cell (p := ⟨b, off + j, none⟩) (World.block_lt_of_cell? _ _ (hcell j hj))).trans (hcell j hj)⟩
theorem nums_snoc (ns : List Nat) (n : Nat) (k : Nat) : num k ++ ((ns ++ [n]).map num).flatten = num k ++ (ns.map num).flatten ++ num n := by simp
/-- the first k of the numbers -/
def numsK (ns : List Nat) (k : Nat) : Bytes := num ns.length ++ ((ns.take k).map num).flatten
theorem numsK_succ (ns : List Nat) (k : Nat) (h : k < ns.length) : numsK ns (k + 1) = numsK ns k ++ num ns[k] := by
  unfold numsK
  rw [List.take_succ_eq_append_getElem h, nums_snoc]
theorem numsK_all (ns : List Nat) (k : Nat) (h : ns.length ≤ k) : numsK ns k = nums ns := by
  unfold numsK nums
  rw [List.take_of_length_le h]
theorem numsK_len (ns : List Nat) (k : Nat) : (numsK ns k).length ≤ 10 + 10 * ns.length := by
  have h1 := num_len ns.length
  have h2 := flat_len (ns.take k)
  have h3 : (ns.take k).length ≤ ns.length := by rw [List.length_take]; omega
  unfold numsK
  rw [List.length_append]
  omega

set_option maxHeartbeats 2000000 in
theorem nums_any (ns : List Nat) (v : Value) (w : World) (hv : HoldsNums w v ns) :
    Calls Try.prog 66 #[v] w fun e w' => e = .returned (.string (str (nums ns))) ∧ Below w.heap.size w w' := by
  obtain ⟨a, ca, rfl, hl, hm, hca⟩ := hv
  have HC := hid hca
  have HM := hid hm
  have hN := num_any ns.length (by unfold top64; omega)
  have H0 := hid (show num ns.length = numsK ns 0 by simp [numsK])
  rw [H0.out] at hN
  have hsz : ∀ k, (str (numsK ns k)).size ≤ 10 + 10 * ns.length := fun k => by rw [str_size]; exact numsK_len ns k
  clear hca hm
  go_enter Try.func66, Try.ntmps66
  go_wp2_with fail
  refine (hN _).mono ?_
  rintro e w1 ⟨rfl, hb1⟩
  go_wp2_with fail
  go_loopw [3, 12] (fun vs i wr => ∃ k : Nat, i = .int .i64 k ∧ k ≤ ns.length ∧ vs = .string (str (numsK ns k)) ∧ Below w.heap.size w wr) (fun _ i _ => ns.length - (intOf i).toNat)
  case atStart => exact ⟨0, rfl, Nat.zero_le _, rfl, hb1⟩
  case round =>
    obtain ⟨k, rfl, hk, rfl, hB⟩ := hrel
    by_cases hlt : k < ns.length
    · obtain ⟨b, off, rfl, hcell⟩ := HC.out (by omega)
      have hcx := (hB.cell (p := ⟨b, off + k, none⟩) (World.block_lt_of_cell? _ _ (hcell k hlt))).trans (hcell k hlt)
      have hnk := num_any ns[k] (HM.out _ (List.getElem_mem hlt))
      have HS := hid (numsK_succ ns k hlt)
      have hs1 := hsz k
      have hs2 : (str (num ns[k])).size = (num ns[k]).length := str_size _
      have hs3 := num_len ns[k]
      have HA := hid (show str (numsK ns k) ++ str (num ns[k]) = str (numsK ns (k + 1)) by rw [HS.out, str_append])
      clear hcell
      generalize ns[k] = x at *
      go_wp2_with fail
      refine (hnk _).mono ?_
      rintro e w2 ⟨rfl, hb2⟩
      have hB2 := hB.trans (hb2.mono hB.size)
      go_wp2_with fail
      go_roundw
      case rel => exact ⟨k + 1, by go_num, by omega, by rw [HA.out], hB2⟩
      case measure => simp [intOf]; omega
    · have HT := hid (numsK_all ns k (by omega))
      go_wp2_with fail
      go_ret
      rw [HT.out]
      exact ⟨rfl, hB⟩

end Go.Proofs.Ytmehcogaopackaa
