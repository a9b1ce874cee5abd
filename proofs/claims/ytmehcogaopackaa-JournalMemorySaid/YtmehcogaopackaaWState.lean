/-
  The reader as a state (its place, its fault): the contracts of Num, Count, Text, End, packed for a chain of reads.
-/
import Derived.Test.YtmehcogaopackaaRead
namespace Go.Proofs.Ytmehcogaopackaa
open Go.RowKit

/-- the reader in block b reads s; st: its place, its fault -/
def RS (w : World) (b : Nat) (s : Bytes) (st : Nat × Nat) : Prop := RD w b s st.1 st.2 ∧ st.1 ≤ s.length
theorem RS.below {w w' b s st} (h : RS w b s st) (hb : Below w.heap.size w w') : RS w' b s st := ⟨h.1.below hb, h.2⟩
theorem RS.lt {w b s st} (h : RS w b s st) : b < w.heap.size := h.1.lt
def pNum (s : Bytes) (st : Nat × Nat) : Nat × (Nat × Nat) := let p := bnd false s st.1 st.2 18446744073709551615; (p.1, (p.2.2.1, p.2.2.2))
def pCount (m : Nat) (s : Bytes) (st : Nat × Nat) : Nat × (Nat × Nat) := let p := bnd false s st.1 st.2 m; (p.1, (p.2.2.1, p.2.2.2))
def pText (m : Nat) (s : Bytes) (st : Nat × Nat) : Bytes × (Nat × Nat) := rtext s (bnd true s st.1 st.2 m)
theorem pNum_lt (s : Bytes) (st : Nat × Nat) : (pNum s st).1 < top64 := by
  have := bnd_most false s st.1 st.2 18446744073709551615
  unfold top64 pNum
  simp only
  omega
theorem pCount_le (m : Nat) (s : Bytes) (st : Nat × Nat) : (pCount m s st).1 ≤ m := bnd_most false s st.1 st.2 m
theorem pText_le (m : Nat) (s : Bytes) (st : Nat × Nat) : (pText m s st).1.length ≤ m := by
  have := bnd_most true s st.1 st.2 m
  unfold pText rtext
  split
  · exact Nat.zero_le _
  · simp only [List.length_take]; omega
theorem pText_place (m : Nat) (s : Bytes) (st : Nat × Nat) (h : st.1 ≤ s.length) : (pText m s st).2.1 ≤ s.length := by
  have h1 := bnd_place true s st.1 st.2 m h
  have h2 := bnd_room s st.1 st.2 m
  unfold pText rtext
  split
  · exact h1
  · simp only; omega
theorem rsNum {s : Bytes} {st : Nat × Nat} {b : Nat} {w : World} (h : RS w b s st) (hs : s.length ≤ 1152921504606846976) :
    Calls Try.prog 76 #[.pointer (some ⟨b, 0, none⟩)] w fun x w' => x = .returned (.int .u64 ((pNum s st).1 : Int)) ∧ RS w' b s (pNum s st).2 ∧ Only b w w' :=
  (rnum_only s st.1 st.2 b w h.1 h.2 hs _ rfl).mono fun _ _ ⟨e, hr, hb⟩ => ⟨e, ⟨hr, bnd_place _ _ _ _ _ h.2⟩, hb⟩
theorem rsCount (m : Nat) (hm : m ≤ maxLen) {s : Bytes} {st : Nat × Nat} {b : Nat} {w : World} (h : RS w b s st) (hs : s.length ≤ 1152921504606846976) :
    Calls Try.prog 59 #[.pointer (some ⟨b, 0, none⟩), .int .i64 (m : Int)] w fun x w' => x = .returned (.int .i64 ((pCount m s st).1 : Int)) ∧ RS w' b s (pCount m s st).2 ∧ Only b w w' :=
  (count_only s st.1 st.2 m b w h.1 h.2 hs hm _ rfl).mono fun _ _ ⟨e, hr, hb⟩ => ⟨e, ⟨hr, bnd_place _ _ _ _ _ h.2⟩, hb⟩
theorem rsText (m : Nat) (hm : m ≤ maxLen) {s : Bytes} {st : Nat × Nat} {b : Nat} {w : World} (h : RS w b s st) (hs : s.length ≤ 1152921504606846976) :
    Calls Try.prog 77 #[.pointer (some ⟨b, 0, none⟩), .int .i64 (m : Int)] w fun x w' => x = .returned (.string (str (pText m s st).1)) ∧ RS w' b s (pText m s st).2 ∧ Only b w w' :=
  (rtext_only s st.1 st.2 m b w h.1 h.2 hs hm _ rfl).mono fun _ _ ⟨e, hr, hb⟩ => ⟨e, ⟨hr, pText_place m s st h.2⟩, hb⟩
/-- what End tells -/
def pEnd (s : Bytes) (st : Nat × Nat) : Nat := if st.2 = 0 ∧ st.1 < s.length then 9 else st.2
theorem rsEnd {s : Bytes} {st : Nat × Nat} {b : Nat} {w : World} (h : RS w b s st) :
    Calls Try.prog 60 #[.pointer (some ⟨b, 0, none⟩)] w fun x w' => x = .returned (.int .i64 (pEnd s st : Int)) ∧ Only b w w' :=
  (end_only s st.1 st.2 b w h.1).mono fun _ _ ⟨e, _, hb⟩ => ⟨e, hb⟩
end Go.Proofs.Ytmehcogaopackaa
