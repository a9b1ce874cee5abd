/-
  The walks of the reader's Num, Count, Text.
-/
import Derived.Test.YtmehcogaopackaaBound
namespace Go.Proofs.Ytmehcogaopackaa
open Go.RowKit

theorem bnd_place (room : Bool) (s : Bytes) (t e m : Nat) (ht : t ≤ s.length) : (bnd room s t e m).2.2.1 ≤ s.length := by
  have h1 := scan0_one (s.drop t)
  unfold bnd
  by_cases he : e ≠ 0
  · rw [if_pos he]; exact ht
  · rw [if_neg he]
    generalize scan0 (s.drop t) = q at *
    obtain ⟨n, z, er⟩ := q
    simp only
    by_cases her : er ≠ 0
    · rw [if_pos her]; exact ht
    · rw [if_neg her]
      obtain rfl : er = 0 := by omega
      obtain ⟨_, _, h3, _⟩ := h1 n z rfl
      rw [List.length_drop] at h3
      split
      · exact ht
      · split
        · exact ht
        · simp only; omega
theorem bnd_room (s : Bytes) (t e m : Nat) : (bnd true s t e m).2.2.1 + (bnd true s t e m).1 ≤ s.length ∨ (bnd true s t e m).2.1 = 0 := by
  have h1 := scan0_one (s.drop t)
  unfold bnd
  by_cases he : e ≠ 0
  · rw [if_pos he]; exact .inr rfl
  · rw [if_neg he]
    generalize scan0 (s.drop t) = q at *
    obtain ⟨n, z, er⟩ := q
    simp only
    by_cases her : er ≠ 0
    · rw [if_pos her]; exact .inr rfl
    · rw [if_neg her]
      obtain rfl : er = 0 := by omega
      obtain ⟨_, h2, h3, _⟩ := h1 n z rfl
      rw [List.length_drop] at h3
      split
      · exact .inr rfl
      · split
        · exact .inr rfl
        · rename_i c1 c2
          simp only [Bool.true_and, decide_eq_true_eq] at c2
          refine .inl ?_
          simp only
          omega
theorem bnd_most (room : Bool) (s : Bytes) (t e m : Nat) : (bnd room s t e m).1 ≤ m := by
  unfold bnd
  by_cases he : e ≠ 0
  · rw [if_pos he]; exact Nat.zero_le _
  · rw [if_neg he]
    generalize scan0 (s.drop t) = q at *
    obtain ⟨n, z, er⟩ := q
    simp only
    split
    · exact Nat.zero_le _
    · split
      · exact Nat.zero_le _
      · split
        · exact Nat.zero_le _
        · rename_i c _
          simp only
          omega

set_option maxRecDepth 100000 in
set_option maxHeartbeats 1000000 in
theorem rnum_only (s : Bytes) (t e : Nat) (b : Nat) (w : World) (h : RD w b s t e) (ht : t ≤ s.length) (hs : s.length ≤ 1152921504606846976) (p : Nat × Nat × Nat × Nat) (hp : p = bnd false s t e 18446744073709551615) :
    Calls Try.prog 76 #[.pointer (some ⟨b, 0, none⟩)] w fun x w' => x = .returned (.int .u64 (p.1 : Int)) ∧ RD w' b s p.2.2.1 p.2.2.2 ∧ Only b w w' := by
  have hh := hid h
  have H := fun W h => bound_any s t e 18446744073709551615 b W h ht hs p hp
  clear h hp
  go_enter Try.func76, Try.ntmps76
  go_wp2_with fail
  refine (H _ hh.out).mono ?_
  rintro x w1 ⟨rfl, hr1, hb1⟩
  go_wp2_with fail
  go_ret
  exact ⟨rfl, hr1, hb1⟩
theorem rnum_any (s : Bytes) (t e : Nat) (b : Nat) (w : World) (h : RD w b s t e) (ht : t ≤ s.length) (hs : s.length ≤ 1152921504606846976) (p : Nat × Nat × Nat × Nat) (hp : p = bnd false s t e 18446744073709551615) :
    Calls Try.prog 76 #[.pointer (some ⟨b, 0, none⟩)] w fun x w' => x = .returned (.int .u64 (p.1 : Int)) ∧ RD w' b s p.2.2.1 p.2.2.2 ∧ Below b w w' :=
  (rnum_only s t e b w h ht hs p hp).mono fun _ _ ⟨x, y, z⟩ => ⟨x, y, z.below h.lt⟩

set_option maxHeartbeats 1000000 in
theorem count_only (s : Bytes) (t e m : Nat) (b : Nat) (w : World) (h : RD w b s t e) (ht : t ≤ s.length) (hs : s.length ≤ 1152921504606846976) (hm : m ≤ maxLen) (p : Nat × Nat × Nat × Nat) (hp : p = bnd false s t e m) :
    Calls Try.prog 59 #[.pointer (some ⟨b, 0, none⟩), .int .i64 (m : Int)] w fun x w' => x = .returned (.int .i64 (p.1 : Int)) ∧ RD w' b s p.2.2.1 p.2.2.2 ∧ Only b w w' := by
  have hh := hid h
  have H := fun W h => bound_any s t e m b W h ht hs p hp
  have hpm : p.1 ≤ m := by rw [hp]; exact bnd_most _ _ _ _ _
  unfold maxLen at hm
  clear h hp
  go_enter Try.func59, Try.ntmps59
  go_wp2_with fail
  refine (H _ hh.out).mono ?_
  rintro x w1 ⟨rfl, hr1, hb1⟩
  go_wp2_with fail
  go_ret
  exact ⟨rfl, hr1, hb1⟩
theorem count_any (s : Bytes) (t e m : Nat) (b : Nat) (w : World) (h : RD w b s t e) (ht : t ≤ s.length) (hs : s.length ≤ 1152921504606846976) (hm : m ≤ maxLen) (p : Nat × Nat × Nat × Nat) (hp : p = bnd false s t e m) :
    Calls Try.prog 59 #[.pointer (some ⟨b, 0, none⟩), .int .i64 (m : Int)] w fun x w' => x = .returned (.int .i64 (p.1 : Int)) ∧ RD w' b s p.2.2.1 p.2.2.2 ∧ Below b w w' :=
  (count_only s t e m b w h ht hs hm p hp).mono fun _ _ ⟨x, y, z⟩ => ⟨x, y, z.below h.lt⟩

/-- a read of a text that is at most m long: it, the place and the fault then -/
def rtext (s : Bytes) (p : Nat × Nat × Nat × Nat) : Bytes × Nat × Nat :=
  if p.2.1 = 0 then ([], p.2.2.1, p.2.2.2) else ((s.drop p.2.2.1).take p.1, p.2.2.1 + p.1, p.2.2.2)

set_option maxHeartbeats 1000000 in
theorem rtext_only (s : Bytes) (t e m : Nat) (b : Nat) (w : World) (h : RD w b s t e) (ht : t ≤ s.length) (hs : s.length ≤ 1152921504606846976) (hm : m ≤ maxLen) (p : Nat × Nat × Nat × Nat) (hp : p = bnd true s t e m) :
    Calls Try.prog 77 #[.pointer (some ⟨b, 0, none⟩), .int .i64 (m : Int)] w fun x w' => x = .returned (.string (str (rtext s p).1)) ∧ RD w' b s (rtext s p).2.1 (rtext s p).2.2 ∧ Only b w w' := by
  have hh := hid h
  have H := fun W h => bound_room s t e m b W h ht hs p hp
  have hpm : p.1 ≤ m := by rw [hp]; exact bnd_most _ _ _ _ _
  have hpr : p.2.2.1 + p.1 ≤ s.length ∨ p.2.1 = 0 := by rw [hp]; exact bnd_room _ _ _ _
  have hz : (str s).size = s.length := str_size _
  obtain ⟨n, z, t2, e2⟩ := p
  simp only at hpm hpr
  unfold maxLen at hm
  clear h hp
  by_cases hz0 : z = 0
  · subst hz0
    go_enter Try.func77, Try.ntmps77
    go_wp2_with fail
    refine (H _ hh.out).mono ?_
    rintro x w1 ⟨rfl, hr1, hb1⟩
    go_wp2_with fail
    go_ret
    exact ⟨rfl, hr1, hb1⟩
  · have hpr2 : t2 + n ≤ s.length := by omega
    have HT : Hid (rtext s (n, z, t2, e2) = ((s.drop t2).take n, t2 + n, e2)) := by show rtext _ _ = _; unfold rtext; rw [if_neg hz0]
    rw [HT.out]
    have hzz : ((z : Int) == 0) = false := by simpa using hz0
    go_enter Try.func77, Try.ntmps77
    go_wp2_with fail
    refine (H _ hh.out).mono ?_
    rintro x w1 ⟨rfl, hr1, hb1⟩
    have hh1 := hid hr1
    have g0 := hr1.s
    have g1 := hr1.t
    have f1 := hr1.free 1
    clear hr1
    go_wp2_with fail
    go_quiet (fail)
    go_wp2_with fail
    have hx : (str s).extract t2 (t2 + n) = str ((s.drop t2).take n) := by rw [extract_str, str_data, Nat.add_sub_cancel_left]
    rw [hx]
    go_ret
    exact ⟨rfl, (hh1.out.drewN _).setT (t2 + n), (hb1.drewN _).set 1 _⟩
theorem rtext_any (s : Bytes) (t e m : Nat) (b : Nat) (w : World) (h : RD w b s t e) (ht : t ≤ s.length) (hs : s.length ≤ 1152921504606846976) (hm : m ≤ maxLen) (p : Nat × Nat × Nat × Nat) (hp : p = bnd true s t e m) :
    Calls Try.prog 77 #[.pointer (some ⟨b, 0, none⟩), .int .i64 (m : Int)] w fun x w' => x = .returned (.string (str (rtext s p).1)) ∧ RD w' b s (rtext s p).2.1 (rtext s p).2.2 ∧ Below b w w' :=
  (rtext_only s t e m b w h ht hs hm p hp).mono fun _ _ ⟨x, y, z⟩ => ⟨x, y, z.below h.lt⟩
end Go.Proofs.Ytmehcogaopackaa
