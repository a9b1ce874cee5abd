/-
  '[]byte(s)' and 'string(b)': what they make of the world, for a walk.
-/
import Derived.Test.YtmehcogaopackaaCrc
import Derived.Laws.IdiomStrings
namespace Go.Proofs.Ytmehcogaopackaa
open Go.RowKit

theorem bytes_made {P : Program} (w : World) (src dst e : TypeId) (s : ByteArray) (hs : P.underlying src = some .string) (hd : P.underlying dst = some (.slice e)) (he : P.underlying e = some (.int .u8)) :
    ∃ (cap : Nat) (w' : World), (convert src dst (.string s)).run P w = .ok (.slice (some ⟨w.heap.size, 0, none⟩) s.size cap) w' ∧ s.size ≤ cap ∧
      (∀ j (h : j < s.data.toList.length), w'.cell? ⟨w.heap.size, j, none⟩ = some (.int .u8 (s.data.toList[j].toNat : Int))) ∧
      (∀ j, j < s.size → w'.frozen? ⟨w.heap.size, j, none⟩ = false) ∧ Below w.heap.size w w' ∧ w'.heap.size = w.heap.size + 1 := by
  refine ⟨_, _, run_bytes_of_string w src dst e s hs hd he, grownCap_ge _ _ _ _, ?_, ?_, ?_, ?_⟩
  · intro j h
    rw [Array.length_toList] at h
    have e1 : w.drew.heap.size = w.heap.size := rfl
    rw [← e1, World.cell?_alloc_mark, bytesRow_at s _ j h]
    simp
  · intro j h
    have e1 : w.drew.heap.size = w.heap.size := rfl
    have hle : s.size ≤ (bytesRow s (grownCap w s.size 0 e)).size := by
      unfold bytesRow
      rw [Array.size_append, Array.size_map]
      exact Nat.le_add_right _ _
    rw [← e1, World.frozen?_alloc_mark]
    have : decide ((bytesRow s (grownCap w s.size 0 e)).size ≤ j) = false := by simp; omega
    rw [this]
    rfl
  · exact (Below.refl _ _).drew.alloc (Nat.le_refl _) _
  · simp
theorem bytes_back {P : Program} (w : World) (src dst e : TypeId) (b cap : Nat) (l : Bytes) (hs : P.underlying src = some (.slice e)) (he : P.underlying e = some (.int .u8)) (hd : P.underlying dst = some .string)
    (hc : ∀ j (hj : j < l.length), w.cell? ⟨b, j, none⟩ = some (.int .u8 (l[j].toNat : Int))) :
    (convert src dst (.slice (some ⟨b, 0, none⟩) l.length cap)).run P w = .ok (.string (str l)) w := by
  refine run_convert_bytes_back w src dst e ⟨b, 0, none⟩ cap l hs he hd ?_
  intro j hj
  have : (⟨b, 0, none⟩ : Addr).add j = ⟨b, j, none⟩ := by unfold Addr.add; split <;> simp_all
  rw [this]
  exact hc j hj
/-- one byte written over -/
theorem bytes_set {w : World} {b : Nat} {l : Bytes} (hc : ∀ j (hj : j < l.length), w.cell? ⟨b, j, none⟩ = some (.int .u8 (l[j].toNat : Int))) (k : Nat) (x : UInt8) (hk : k < l.length) :
    ∀ j (hj : j < (l.set k x).length), (w.setCell ⟨b, k, none⟩ (.int .u8 (x.toNat : Int))).cell? ⟨b, j, none⟩ = some (.int .u8 ((l.set k x)[j].toNat : Int)) := by
  intro j hj
  have hj' : j < l.length := by simpa using hj
  by_cases h : k = j
  · subst h
    rw [World.cell?_setCell_same' _ _ _ (by rw [hc k hk]; rfl)]
    simp
  · rw [World.cell?_setCell_other _ _ _ _ (by intro e; cases e; exact h rfl)]
    rw [hc j hj', List.getElem_set_ne h]
end Go.Proofs.Ytmehcogaopackaa
