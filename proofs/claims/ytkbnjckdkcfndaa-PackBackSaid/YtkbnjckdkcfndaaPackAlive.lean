/-
  The walk of posthornlaw01.alive: it answers true.
-/
import Derived.Test.YtkbnjckdkcfndaaRead
namespace Go.Proofs.Ytkbnjckdkcfndaa
open Go.RowKit

theorem num_300 (w : World) : Calls Try.prog 9 #[.int .u64 300] w fun e w' => e = .returned (.string { data := #[172, 2] }) ∧ Below w.heap.size w w' := by
  have h := num_any 300 (by decide) w
  rw [show str (num 300) = { data := #[172, 2] } from by decide +kernel] at h
  exact h
theorem text_ab (w : World) : Calls Try.prog 11 #[.string { data := #[97, 98] }] w fun e w' => e = .returned (.string { data := #[2, 97, 98] }) ∧ Below w.heap.size w w' := by
  have h := text_any [97, 98] (by decide) w
  rw [show str (text [97, 98]) = { data := #[2, 97, 98] } from by decide +kernel] at h
  exact h
theorem nums_two (v : Value) (w : World) (hv : HoldsNums w v [1, 128]) : Calls Try.prog 13 #[v] w fun e w' => e = .returned (.string { data := #[2, 1, 128, 1] }) ∧ Below w.heap.size w w' := by
  have h := nums_any [1, 128] v w hv
  rw [show str (nums [1, 128]) = { data := #[2, 1, 128, 1] } from by decide +kernel] at h
  exact h
theorem open_al (w : World) : Calls Try.prog 15 #[.string { data := #[172, 2, 2, 97, 98, 5] }] w fun e w' => e = .returned (.pointer (some ⟨w.heap.size, 0, none⟩)) ∧ RD w' w.heap.size [172, 2, 2, 97, 98, 5] 0 0 ∧ Below w.heap.size w w' :=
  open_any [172, 2, 2, 97, 98, 5] w
theorem rnum_al (b : Nat) (w : World) (h : RD w b [172, 2, 2, 97, 98, 5] 0 0) : Calls Try.prog 17 #[.pointer (some ⟨b, 0, none⟩)] w fun x w' => x = .returned (.int .u64 300) ∧ RD w' b [172, 2, 2, 97, 98, 5] 2 0 ∧ Below b w w' :=
  rnum_any [172, 2, 2, 97, 98, 5] 0 0 b w h (by decide) (by decide) (300, 2, 2, 0) (by decide +kernel)
theorem rtext_al (b : Nat) (w : World) (h : RD w b [172, 2, 2, 97, 98, 5] 2 0) : Calls Try.prog 19 #[.pointer (some ⟨b, 0, none⟩), .int .i64 2] w fun x w' => x = .returned (.string { data := #[97, 98] }) ∧ RD w' b [172, 2, 2, 97, 98, 5] 5 0 ∧ Below b w w' := by
  exact rtext_any [172, 2, 2, 97, 98, 5] 2 0 2 b w h (by decide) (by decide) (by decide) (2, 1, 3, 0) (by decide +kernel)
theorem left_al (b : Nat) (w : World) (h : RD w b [172, 2, 2, 97, 98, 5] 5 0) : Calls Try.prog 16 #[.pointer (some ⟨b, 0, none⟩)] w fun x w' => x = .returned (.int .i64 1) ∧ Below w.heap.size w w' :=
  left_any [172, 2, 2, 97, 98, 5] 5 0 b w h (by decide) (by decide)
theorem end_al (b : Nat) (w : World) (h : RD w b [172, 2, 2, 97, 98, 5] 5 0) : Calls Try.prog 20 #[.pointer (some ⟨b, 0, none⟩)] w fun x w' => x = .returned (.int .i64 9) ∧ RD w' b [172, 2, 2, 97, 98, 5] 5 9 ∧ Below b w w' :=
  end_any [172, 2, 2, 97, 98, 5] 5 0 b w h

theorem cell_of_block {w : World} {b : Nat} {c : Array Value} {t : TypeId} (h : w.heap[b]? = some (.cells c t)) (o : Nat) : w.cell? ⟨b, o, none⟩ = c[o]? := by simp [World.cell?, h]
theorem two_new (w : World) (t : TypeId) : HoldsNums (w.alloc (.cells #[.int .u64 1, .int .u64 128] t)) (.slice (some ⟨w.heap.size, 0, none⟩) 2 2) [1, 128] := by
  have hx : (w.alloc (.cells #[.int .u64 1, .int .u64 128] t)).heap[w.heap.size]? = some (.cells #[.int .u64 1, .int .u64 128] t) := Array.getElem?_push_size
  refine ⟨_, 2, rfl, by decide, by decide, fun _ => ⟨w.heap.size, 0, rfl, fun j hj => ?_⟩⟩
  have : j = 0 ∨ j = 1 := by simp at hj; omega
  rcases this with rfl | rfl <;> exact cell_of_block hx _

set_option maxHeartbeats 1000000 in
theorem packAlive_any (w : World) : Calls Try.prog 8 #[] w fun e w' => e = .returned (.bool true) ∧ Below w.heap.size w w' := by
  go_enter Try.func8, Try.ntmps8
  go_wp2_with fail
  refine (open_al _).mono ?_
  rintro e w1 ⟨rfl, hr1, hb1⟩
  go_wp2_with fail
  refine (num_300 _).mono ?_
  rintro e w2 ⟨rfl, hb2⟩
  have hr2 := hr1.below hb2
  have hB2 := hb1.trans (hb2.mono hb1.size)
  go_wp2_with fail
  refine (text_ab _).mono ?_
  rintro e w3 ⟨rfl, hb3⟩
  have hr3 := hr2.below hb3
  have hB3 := hB2.trans (hb3.mono hB2.size)
  go_wp2_with fail
  have hr4 := hr3.below ((Below.refl _ _).alloc (Nat.le_refl _) (.cells #[.int .u64 1, .int .u64 128] 22))
  have hB4 := hB3.alloc hB3.size (.cells #[.int .u64 1, .int .u64 128] 22)
  refine (nums_two _ _ (two_new _ _)).mono ?_
  rintro e w5 ⟨rfl, hb5⟩
  have hr5 := hr4.below hb5
  have hB5 := hB4.trans (hb5.mono hB4.size)
  clear hb1 hb2 hb3 hb5 hr1 hr2 hr3 hr4 hB2 hB3 hB4
  go_wp2_with fail
  refine (rnum_al _ _ hr5).mono ?_
  rintro e w6 ⟨rfl, hr6, hb6⟩
  have hB6 := hB5.trans hb6
  clear hr5 hb6
  go_wp2_with fail
  refine (rtext_al _ _ hr6).mono ?_
  rintro e w7 ⟨rfl, hr7, hb7⟩
  have hB7 := hB6.trans hb7
  clear hr6 hb7
  go_wp2_with fail
  refine (left_al _ _ hr7).mono ?_
  rintro e w8 ⟨rfl, hb8⟩
  have hr8 := hr7.below hb8
  have hB8 := hB7.trans (hb8.mono hB7.size)
  go_wp2_with fail
  refine (end_al _ _ hr8).mono ?_
  rintro e w9 ⟨rfl, hr9, hb9⟩
  have hB9 := hB8.trans hb9
  go_wp2_with fail
  go_ret
  exact ⟨rfl, hB9⟩
end Go.Proofs.Ytkbnjckdkcfndaa
