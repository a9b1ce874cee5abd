/-
  The walk of the reference's Num.
-/
import Derived.Test.YtgkapgfpalbkjaaNum
import Derived.Deep.RegionWith
namespace Go.Proofs.Ytgkapgfpalbkjaa
open Go.RowKit

/-- 'string([]byte{x})', whatever world: the cell is there -/
theorem conv_one {P : Program} (W : World) (g : Nat) (x : UInt8) (src dst el : TypeId) (hs : P.underlying src = some (.slice el)) (he : P.underlying el = some (.int .u8)) (hd : P.underlying dst = some .string) (hc : W.cell? ⟨g, 0, none⟩ = some (.int .u8 (x.toNat : Int))) :
    (convert src dst (.slice (some ⟨g, 0, none⟩) 1 1)).run P W = .ok (.string (str [x])) W :=
  bytes_back W src dst el g 1 [x] hs he hd (fun j hj => by
    obtain rfl : j = 0 := by simpa using hj
    exact hc)

set_option maxRecDepth 100000 in
set_option maxHeartbeats 1000000 in
theorem refNum_at : ∀ (f N : Nat) (z : Int) (w : World), z = (N : Int) → N < 128 ^ f → N < top64 →
    Calls Try.prog 70 #[.int .u64 z] w fun e w' => e = .returned (.string (str (num N))) ∧ Below w.heap.size w w' := by
  intro f
  induction f with
  | zero =>
    rintro N z w rfl hf hN
    obtain rfl : N = 0 := by simpa using hf
    have hback := conv_one (P := Try.prog) (w.alloc (.cells #[.int .u8 0] 5)) w.heap.size 0 53 9 5 Try.underlying53 Try.underlying5 Try.underlying9 (World.cell?_alloc_mark _ _ _ _ _)
    go_enter Try.func70, Try.ntmps70
    go_wp2_with fail
    go_ret
    exact ⟨rfl, (Below.refl _ _).alloc (Nat.le_refl _) _⟩
  | succ f ih =>
    rintro N z w rfl hf hN
    have hN' := hid hN
    have IH := hid ih
    have HF := hid (show N / 128 < 128 ^ f by rw [Nat.pow_succ] at hf; omega)
    clear ih hf
    unfold top64 at hN
    by_cases hlt : N < 128
    · have HM := hid (num_few hlt)
      have hb := hid (show (UInt8.ofNat N).toNat = N from byte_small (by omega))
      have hback := conv_one (P := Try.prog) (w.alloc (.cells #[.int .u8 (N : Int)] 5)) w.heap.size (UInt8.ofNat N) 53 9 5 Try.underlying53 Try.underlying5 Try.underlying9 (by rw [hb.out]; exact World.cell?_alloc_mark _ _ _ _ _)
      go_enter Try.func70, Try.ntmps70
      go_wp2_with fail
      go_ret
      rw [HM.out]
      exact ⟨rfl, (Below.refl _ _).alloc (Nat.le_refl _) _⟩
    · have HM := hid (num_more hlt hN'.out)
      have hx := byte_small (show N % 128 + 128 < 256 by omega)
      have hval : IntKind.u8.wrap (IntKind.u64.wrap ((N : Int).tmod 128 + 128)) = ((UInt8.ofNat (N % 128 + 128)).toNat : Int) := by
        have e : (N : Int).tmod 128 = ((N % 128 : Nat) : Int) := rfl
        rw [e, IntKind.wrap_u64, IntKind.wrap_u8, hx]
        omega
      have hq : (N : Int).tdiv 128 = ((N / 128 : Nat) : Int) := rfl
      have h1 := num_pos (N / 128)
      have hsz := hid (num_len (N / 128))
      have HN1 := hid (show N / 128 < top64 by have := hN'.out; omega)
      have HX := hid (show str [UInt8.ofNat (N % 128 + 128)] ++ str (num (N / 128)) = str (num N) by rw [HM.out, str_append]; rfl)
      clear hx h1
      generalize UInt8.ofNat (N % 128 + 128) = x at *
      have hcv := fun (W : World) (g : Nat) (hc : W.cell? ⟨g, 0, none⟩ = some (.int .u8 (x.toNat : Int))) => conv_one (P := Try.prog) W g x 53 9 5 Try.underlying53 Try.underlying5 Try.underlying9 hc
      have hs1 : (str [x]).size = 1 := str_size _
      have hs2 : (str (num (N / 128))).size = (num (N / 128)).length := str_size _
      have hs3 : (num (N / 128)).length ≤ 10 := num_len _
      go_enter Try.func70, Try.ntmps70
      go_wp2_with fail
      have HCC : ∀ {W w2 : World}, W.cell? ⟨w.heap.size, 0, none⟩ = some (.int .u8 (x.toNat : Int)) → Below W.heap.size W w2 → w.heap.size < W.heap.size → w2.cell? ⟨w.heap.size, 0, none⟩ = some (.int .u8 (x.toNat : Int)) := fun h hb hl => (hb.cell (p := ⟨w.heap.size, 0, none⟩) hl).trans h
      go_region_with (go_at_call 70; refine (IH.out (N / 128) _ _ (by rw [IntKind.wrap_u64]; omega) HF.out HN1.out).mono ?_; rintro e w2 ⟨rfl, hb2⟩; first | (have hcx := HCC (World.cell?_alloc_mark _ _ _ _ _) hb2 (by simp)) | skip)
      all_goals (go_wp2_with fail)
      all_goals (go_ret; rw [HX.out]; exact ⟨rfl, by first | exact ((Below.refl _ _).alloc (Nat.le_refl _) _).drew.trans (hb2.mono (by simp)) | exact ((Below.refl _ _).drew.trans (hb2.mono (Nat.le_refl _))).alloc hb2.size _⟩)
theorem refNum_any (N : Nat) (hN : N < top64) (w : World) :
    Calls Try.prog 70 #[.int .u64 N] w fun e w' => e = .returned (.string (str (num N))) ∧ Below w.heap.size w w' :=
  refNum_at 10 N N w rfl (by unfold top64 at hN; omega) hN
end Go.Proofs.Ytgkapgfpalbkjaa
