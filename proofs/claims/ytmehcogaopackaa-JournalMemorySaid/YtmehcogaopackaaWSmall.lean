/-
  The walks of wire's small functions: bit, nums, within; of the reference's num, text, yes.
-/
import Derived.Test.YtmehcogaopackaaWState
namespace Go.Proofs.Ytmehcogaopackaa
open Go.RowKit

def bitN (b : Bool) : Nat := if b then 1 else 0
/-- the slice value v holds the numbers ns -/
def HoldsU (w : World) (v : Value) (ns : List Nat) : Prop :=
  ∃ (a : Option Addr) (cap : Nat), v = .slice a ns.length cap ∧ ns.length * 8 ≤ 140737488355328 ∧ (∀ n ∈ ns, n < top64) ∧ (0 < ns.length → ∃ b off, a = some ⟨b, off, none⟩ ∧ ∀ j (h : j < ns.length), w.cell? ⟨b, off + j, none⟩ = some (.int .u64 (ns[j] : Int)))
/-- the first k of the numbers -/
def flatK (ns : List Nat) (k : Nat) : Bytes := ((ns.take k).map num).flatten
theorem flatK_succ (ns : List Nat) (k : Nat) (h : k < ns.length) : flatK ns (k + 1) = flatK ns k ++ num ns[k] := by
  unfold flatK
  rw [List.take_succ_eq_append_getElem h, flat_snoc]
theorem flatK_all (ns : List Nat) (k : Nat) (h : ns.length ≤ k) : flatK ns k = (ns.map num).flatten := by
  unfold flatK
  rw [List.take_of_length_le h]
theorem flatK_len (ns : List Nat) (k : Nat) : (flatK ns k).length ≤ 10 * ns.length := by
  have h2 := flat_len (ns.take k)
  have h3 : (ns.take k).length ≤ ns.length := by rw [List.length_take]; omega
  unfold flatK
  omega
end Go.Proofs.Ytmehcogaopackaa
