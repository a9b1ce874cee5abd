/-
  The walks of the two closures of wire.ReadRequest: a range, a flag.
-/
import Derived.Test.YtmehcogaopackaaWSmall
import Derived.Deep.RegionHeld3
namespace Go.Proofs.Ytmehcogaopackaa
open Go.RowKit
theorem RS.alloc {w b s st} (h : RS w b s st) (o : Obj) : RS (w.alloc o) b s st := h.below ((Below.refl _ _).alloc (Nat.le_refl _) o)
theorem keepSet {W : World} {c k o : Nat} {v x : Value} (h : W.cell? ⟨c, 0, none⟩ = some x) (hne : c ≠ k) : (W.setCell ⟨k, o, none⟩ v).cell? ⟨c, 0, none⟩ = some x :=
  (World.cell?_of_block (Below.heap_setCell _ _ _ _ hne)).trans h
end Go.Proofs.Ytmehcogaopackaa
