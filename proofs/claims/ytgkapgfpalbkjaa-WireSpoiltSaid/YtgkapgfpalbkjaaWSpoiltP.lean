/-
  PLAIN: a message of which a byte was turned, or whose end is cut off, is not read.
-/
import Derived.Test.YtgkapgfpalbkjaaWireChainM
import Derived.Test.YtgkapgfpalbkjaaTurn
namespace Go.Proofs.Ytgkapgfpalbkjaa
open Go.RowKit
set_option linter.unusedVariables false
theorem frame_torn (b : Bytes) (hb : b.length ≤ 65536) (m : Nat) (hm : m < 8 + b.length) : cutOf ((frame b).take m) = ([], 0, 3) := by
  have hl : ((frame b).take m).length = m := by rw [List.length_take, frame_length]; omega
  by_cases h8 : m < 8
  · exact cutOf_few (by omega)
  · have hn : num4 ((frame b).take m) = b.length := by
      have hf : frame b = four b.length ++ (four (crc b) ++ b) := by simp [frame]
      rw [hf, List.take_append, List.take_of_length_le (by rw [four_length]; omega)]
      exact num4_four _ (by omega) _
    exact cutOf_short (by omega) (by omega) (by omega)
theorem rdMs_torn (b : Bytes) (hb : b.length ≤ 65536) (k : Nat) (hk : k < (frame b).length) : (rdMs ((frame b).take k)).2 = 3 := by
  rw [frame_length] at hk
  unfold rdMs
  rw [frame_torn b hb k hk]
  rw [if_pos (by simp)]
theorem rdMs_turned (b : Bytes) (hb : b.length ≤ 65536) (k : Nat) (hk : k < (frame b).length) (x : UInt8) (hx : x ≠ (frame b)[k]) : (rdMs ((frame b).set k x)).2 ≠ 0 := by
  intro h
  by_cases h4 : 4 ≤ k
  · unfold rdMs at h
    rw [cut_turn b hb k h4 hk x hx] at h
    rw [if_pos (by simp)] at h
    simp at h
  · rcases hc : cutOf ((frame b).set k x) with ⟨t, n, er⟩
    unfold rdMs at h
    rw [hc] at h
    simp only at h
    by_cases her : er ≠ 0
    · rw [if_pos her] at h; exact her h
    rw [if_neg her] at h
    obtain rfl : er = 0 := by omega
    by_cases hn : n < ((frame b).set k x).length
    · rw [if_pos hn] at h; simp at h
    obtain ⟨g1, g2, g3, g4⟩ := cut_frame hc
    rw [List.take_of_length_le (by omega)] at g4
    have hl := congrArg List.length g4
    rw [List.length_set, frame_length, frame_length] at hl
    have hlen : t.length = b.length := by omega
    have e1 : ((frame b).set k x)[k]? = (frame t)[k]? := by rw [g4]
    have e2 : (frame t)[k]? = (frame b)[k]? := by
      unfold frame
      rw [hlen, List.append_assoc, List.append_assoc, List.getElem?_append_left (by rw [four_length]; omega), List.getElem?_append_left (by rw [four_length]; omega)]
    rw [e2, List.getElem?_set_self hk, List.getElem?_eq_getElem hk] at e1
    exact hx (by simpa using e1)
theorem xor_u8' (x y : UInt8) : bits .xor .u8 (x.toNat : Int) (y.toNat : Int) = (((x ^^^ y).toNat : Nat) : Int) := by
  rw [u8_xor_nat _ _ x.toNat_lt y.toNat_lt, UInt8.toNat_xor]
theorem xor_ne' (x y : UInt8) (h : ¬ (y.toNat : Int) = 0) : x ^^^ y ≠ x := by
  intro e
  apply h
  have h2 := congrArg (x ^^^ ·) e
  simp only [← UInt8.xor_assoc, UInt8.xor_self, UInt8.zero_xor] at h2
  rw [h2]; rfl
theorem xor_zero' (x y : UInt8) (h : (y.toNat : Int) = 0) : x ^^^ y = x := by
  have : y = 0 := UInt8.toNat_inj.1 (by simpa using h)
  rw [this, UInt8.xor_zero]
theorem byte_of' (b : Int) (h0 : 0 ≤ b) (h1 : b ≤ 255) : ∃ x : UInt8, b = (x.toNat : Int) := ⟨UInt8.ofNat b.toNat, by simp; omega⟩
/-- which byte is turned -/
theorem spoilt_place (k : Int) (n : Nat) (hn : 0 < n) : ∃ u m : Nat, IntKind.u64.wrap k = (u : Int) ∧ ((u : Int).tmod (n : Int)) = (m : Int) ∧ m < n := by
  have h0 : 0 ≤ IntKind.u64.wrap k := by rw [IntKind.wrap_u64]; omega
  obtain ⟨u, hu⟩ := Int.eq_ofNat_of_zero_le h0
  exact ⟨u, u % n, hu, rfl, Nat.mod_lt _ hn⟩
theorem spoilt_turn (b : Bytes) (hb : b.length ≤ 65536) (k : Nat) (hk : k < (frame b).length) (y : UInt8) (x : Ms) (hx : mayMs x = true) (hf : x.fit) (hbx : x.body = b) : ((rdMs ((frame b).set k ((frame b)[k] ^^^ y))).2 = 0 ↔ (y.toNat : Int) = 0) := by
  by_cases h : (y.toNat : Int) = 0
  · rw [xor_zero' _ _ h, List.set_getElem_self]
    have := rdMs_back x hx hf []
    rw [List.append_nil, if_pos rfl, hbx] at this
    rw [this]
    exact ⟨fun _ => h, fun _ => rfl⟩
  · exact ⟨fun e => absurd e (rdMs_turned b hb k hk _ (xor_ne' _ _ h)), fun e => absurd e h⟩
end Go.Proofs.Ytgkapgfpalbkjaa
