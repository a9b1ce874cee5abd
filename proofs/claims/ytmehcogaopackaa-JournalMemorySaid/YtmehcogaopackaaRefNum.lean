/-
  The walk of the reference's Num.
-/
import Derived.Test.YtmehcogaopackaaNum
import Derived.Deep.RegionWith
namespace Go.Proofs.Ytmehcogaopackaa
open Go.RowKit

/-- 'string([]byte{x})', whatever world: the cell is there -/
theorem conv_one {P : Program} (W : World) (g : Nat) (x : UInt8) (src dst el : TypeId) (hs : P.underlying src = some (.slice el)) (he : P.underlying el = some (.int .u8)) (hd : P.underlying dst = some .string) (hc : W.cell? ⟨g, 0, none⟩ = some (.int .u8 (x.toNat : Int))) :
    (convert src dst (.slice (some ⟨g, 0, none⟩) 1 1)).run P W = .ok (.string (str [x])) W :=
  bytes_back W src dst el g 1 [x] hs he hd (fun j hj => by
    obtain rfl : j = 0 := by simpa using hj
    exact hc)

end Go.Proofs.Ytmehcogaopackaa
