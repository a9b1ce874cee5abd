/-
  The walks of pack.Text and of the reference's Text.
-/
import Derived.Test.YtmehcogaopackaaRefNum
import Derived.Deep.RegionWith
namespace Go.Proofs.Ytmehcogaopackaa
open Go.RowKit

set_option maxHeartbeats 1000000 in
theorem text_any (l : Bytes) (hl : l.length ≤ 1152921504606846976) (w : World) :
    Calls Try.prog 44 #[.string (str l)] w fun e w' => e = .returned (.string (str (text l))) ∧ Below w.heap.size w w' := by
  have hs := str_size l
  have hs2 : (str (num l.length)).size = (num l.length).length := str_size _
  have hs3 : (num l.length).length ≤ 10 := num_len _
  have H := fun (z : Int) (e : z = (l.length : Int)) (W : World) => by
    have h := num_any l.length (by unfold top64; omega) W
    rw [← e] at h
    exact h
  have HX := hid (show str (num l.length) ++ str l = str (text l) by rw [str_append]; rfl)
  go_enter Try.func44, Try.ntmps44
  go_wp2_with fail
  refine (H _ rfl _).mono ?_
  rintro e w1 ⟨rfl, hb1⟩
  go_wp2_with fail
  go_ret
  rw [HX.out]
  exact ⟨rfl, hb1⟩

end Go.Proofs.Ytmehcogaopackaa
